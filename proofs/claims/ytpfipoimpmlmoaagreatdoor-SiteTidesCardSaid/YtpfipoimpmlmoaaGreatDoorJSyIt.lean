/-
 A symbolic executor for the model's code: iterators, which call yield. Conditions: none.
-/
import Derived.Test.YtpfipoimpmlmoaaGreatDoorJSyRf
namespace Go.Sy
set_option linter.unusedVariables false
set_option linter.unusedSimpArgs false
open Go.RowKit
section runs
variable {P:Program}
structure YC (P:Program) where
 l:Nat
 N:Nat
 y:Nat→List SV
 od:Od
 J:Option Nat→List Nat→World→Prop
 det:∀ k,k<N→detL (y k)=true
 ab:∀ k X W1 W2,J k X W1→Kept W1.heap.size X W1 W2→∀ Y:List Nat,(∀ b∈Y,W1.heap.size≤b∧b<W2.heap.size)→J k (Y ++ X) W2
 sl:∀ k X W1,J k X W1→SealOk od W1∧PvOk W1∧∀ b∈X,b<W1.heap.size∧(∀ o,od b o=none)∧od.m b=none
 rd:∀ k X W1,J (some k) X W1→k<N→∀ n,YieldAt Fence.wide n P l ⟨toVL (y k)⟩ W1 fun e W2=>∃ r,e=.returned (.bool r)∧J (bif r then some (k+1) else none) X W2∧(∀ b∈X,W2.heap[b]? = W1.heap[b]?)∧W1.heap.size≤W2.heap.size
structure OdX (od od':Od) (X:List Nat) (n:Nat):Prop where
 c:∀ b o v,od b o=some v→od' b o=some v∨b∈X
 m:∀ b v,od.m b=some v→od'.m b=some v∨b∈X
 p:od.p=od'.p
 nz:n≠0
def baseY (s:SState) (ρ:Env) (w:World):Base:=⟨w,⟨fun i=>if i<s.na then ρ i else none,ρ.od,ρ.gl⟩,s.na,fun _=>none,some []⟩
def StJ (C:YC P) (k:Option Nat) (s:SState) (a:Act) (w:World):Prop :=
 ∃ ρ X,StDen w.heap.size X (baseY s ρ w) ρ s a w∧C.J k X w∧OdX ρ.od C.od X s.na
section
variable {C:YC P} {k:Option Nat} {s s':SState} {a a':Act} {w w':World}
theorem StJ.anew {ρ':Env} {X:List Nat} {b0:Base} (hJ:C.J k X w) (hdf:b0.df=some []) (hb:b0.w=w) (hod:OdX b0.ρ.od C.od X b0.n) (h:StDen w.heap.size X b0 ρ' s' a' w'):StJ C k s' a' w':=by
 have hk:=h.kept
 rw [hb] at hk
 have hdfs:=h.defs.same_ [] hdf
 refine ⟨ρ',(List.range' w.heap.size (w'.heap.size - w.heap.size)) ++ X,⟨⟨fun _ _ h=>(by cases h),fun d hd=>(by rw [hdfs] at hd;cases hd),h.defs.nd,fun d hd=>(by cases hd;exact hdfs)⟩,h.size,h.tmp,h.fresh,⟨fun i hi=>⟨fun m hm=>?_,(h.mem.at_ i hi).2⟩,h.mem.apart,h.mem.seal_,h.mem.free,h.mem.pv⟩,Kept.refl _ _ _,Nat.le_refl _,⟨fun i m hm=>?_,OdExt.refl _⟩,fun i hi=>?_,fun i hi=>?_,rfl,?_,⟨fun _ _ _ h=>.inl h,fun _ _ h=>.inl h,rfl⟩,fun h0=>absurd (h.nab.symm.trans h0) hod.nz⟩,?_,⟨fun b o v hv=>?_,fun b v hv=>?_,h.odb.p.trans hod.p,by rw [h.nab];exact hod.nz⟩⟩
 ·obtain ⟨g1,g2,g3⟩:=h.mem.get hi hm
  refine ⟨g1,g2,.inr (List.mem_append.2 ?_)⟩
  rcases g3 with g3 | g3
  ·exact .inl (List.mem_range'_1.2 ⟨g3,by have:=hk.size;omega⟩)
  ·exact .inr g3
 ·simp only [baseY] at hm
  split at hm
  ·exact hm
  ·cases hm
 ·show (if i<s'.na then ρ' i else none)=none
  have hi':s'.na≤i:=hi
  rw [if_neg (by omega)]
 ·show ρ' i=(if i<s'.na then ρ' i else none)
  have hi':i<s'.na:=hi
  rw [if_pos hi']
 ·show s'.na≤s'.nx
  rw [h.nab];exact h.nale
 ·exact C.ab k X w w' hJ hk _ fun b hb=>by
   have:=List.mem_range'_1.1 hb
   have:=hk.size
   omega
 ·rcases h.odb b o v hv with h1 | h1
  ·rcases hod.c b o v h1 with h2 | h2
   ·exact .inl h2
   ·exact .inr (List.mem_append.2 (.inr h2))
  ·exact .inr (List.mem_append.2 (.inl (List.mem_range'_1.2 ⟨h1,by have:=h.mem.od_lt hv;have:=hk.size;omega⟩)))
 ·rcases h.odb.m b v hv with h1 | h1
  ·rcases hod.m b v h1 with h2 | h2
   ·exact .inl h2
   ·exact .inr (List.mem_append.2 (.inr h2))
  ·exact .inr (List.mem_append.2 (.inl (List.mem_range'_1.2 ⟨h1,by have:=h.mem.seal_.m_lt hv;have:=hk.size;omega⟩)))
theorem StJ.same (h:StJ C k s a w) (f:∀ {B:Nat} {M:List Nat} {w0:Base} {ρ:Env},StDen B M w0 ρ s a w→∃ ρ',StDen B M w0 ρ' s' a' w'):StJ C k s' a' w':=by
 obtain ⟨ρ,X,hS,hJ,ho⟩:=h
 obtain ⟨ρ',hS'⟩:=f hS
 exact StJ.anew hJ rfl rfl ho hS'
end
theorem piece {C:YC P} {g:LSum} {c:Code} (hg:LOk P g c) (hn:noRf c=true) {k:Option Nat} {s:SState} {a:Act} {w:World} (h:StJ C k s a w) {κ:Kont} (hx:g s κ) {Q:Exit→Act→World→Prop} {n:Nat} (hQ:∀ e s' a' w',StJ C k s' a' w'→κ e s'→Q e.toExit a' w'):c.wpIn Fence.wide n P Q a w:=by
 obtain ⟨ρ,X,hS,hJ,ho⟩:=h
 exact hg none n w.heap.size X (baseY s ρ w) s κ ρ a w Q (.inr hn) hS hx fun e s' ρ' a' w' hS' hk=>hQ e s' a' w' (StJ.anew hJ rfl rfl ho hS') hk
mutual
def matchV:SV→SV→Option (List Bool)
 | .int k n,.int k' n'=>if k=k' then some [decide (n=n')] else none
 | .bool a,.bool b=>some [decide (a=b)]
 | .str a,.str b=>some [decide (a=b)]
 | .agg l,.agg m=>matchL l m
 | _,_=>none
def matchL:List SV→List SV→Option (List Bool)
 | [],[]=>some []
 | v :: l,u :: m=>match matchV v u,matchL l m with
  | some x,some y=>some (x ++ y)
  | _,_=>none
 | _,_=>none
end
mutual
theorem matchV_eq:∀ {v u:SV} {ns:List Bool},matchV v u=some ns→(∀ b∈ns,b=true)→v=u
 | v,u,ns,h,hn=>by
  cases v <;> cases u <;> simp only [matchV] at h <;> try (cases h;done)
  case int.int k n k' n' =>
   split at h <;> cases h
   rename_i e
   have:=hn _ (List.mem_singleton.2 rfl)
   simp only [decide_eq_true_eq] at this
   rw [e,this]
  case bool.bool a b=>cases h;have:=hn _ (List.mem_singleton.2 rfl);simp only [decide_eq_true_eq] at this;rw [this]
  case str.str a b=>cases h;have:=hn _ (List.mem_singleton.2 rfl);simp only [decide_eq_true_eq] at this;rw [this]
  case agg.agg l m=>rw [matchL_eq h hn]
theorem matchL_eq:∀ {l m:List SV} {ns:List Bool},matchL l m=some ns→(∀ b∈ns,b=true)→l=m
 | [],[],_,_,_=>rfl
 | v :: l,u :: m,ns,h,hn=>by
  simp only [matchL] at h
  split at h <;> cases h
  rename_i x y hx hy
  rw [matchV_eq hx fun b hb=>hn b (List.mem_append.2 (.inl hb)),matchL_eq hy fun b hb=>hn b (List.mem_append.2 (.inr hb))]
 | [],_ :: _,_,h,_=>by simp [matchL] at h
 | _ :: _,[],_,h,_=>by simp [matchL] at h
end
def yldOf (s:SState) (asm:Asm) (o:Oper):Option (Nat × List SV) :=
 match o.op with
 | .call c=>match c.callee with
  | .value f=>match ev s asm f with
   | .val v=>match v with
    | .func fn first cap=>match fn with
     | .yield l'=>match first.toList.isEmpty&&cap.toList.isEmpty with
      | true=>some (l',c.args.toList.map (ev s asm))
      | false=>none
     | _=>none
    | _=>none
   | _=>none
  | _=>none
 | _=>none
theorem yield_wp {C:YC P} {k:Nat} {s:SState} {a:Act} {w:World} (h:StJ C (some k) s a w) {asm:Asm} (ha:AsmOk asm a) {o:Oper} {args:List SV} (hy:yldOf s asm o=some (C.l,args)) {ns:List Bool} (hm:matchL args (C.y k)=some ns) (hn:∀ b∈ns,b=true) (hk:k<C.N)
  {n:Nat} {K:Act→World→Prop} {Q:Exit→Act→World→Prop} (hK:∀ r w',StJ C (bif r then some (k+1) else none) s a w'→K (a.put o.dst (.bool r)) w'):o.wpIn Fence.wide n P a w K Q:=by
 obtain ⟨ρ,X,hS,hJ,ho⟩:=h
 unfold yldOf at hy
 split at hy <;> try (cases hy;done)
 rename_i c hc
 split at hy <;> try (cases hy;done)
 rename_i f hf
 split at hy <;> try (cases hy;done)
 rename_i v hv
 split at hy <;> try (cases hy;done)
 rename_i fn first cap
 split at hy <;> try (cases hy;done)
 rename_i l'
 split at hy <;> cases hy
 rename_i hb
 simp only [Bool.and_eq_true,List.isEmpty_iff] at hb
 obtain ⟨h1,h2⟩:=hb
 have hfv:=ev_den hS.tmDen ha f
 rw [hv] at hfv
 have hfv':a.eval f=.func (.yield C.l) #[] #[]:=by
  have:a.eval f=.func (.yield C.l) first cap:=hfv
  rw [this]
  congr 1 <;> (apply Array.toList_inj.1;simp [h1,h2])
 have hargs:=evs_den hS.tmDen ha c.args.toList
 rw [matchL_eq hm hn] at hargs
 have hxs:c.args.toList.map a.eval=toVL (C.y k):=(detL_den (C.det k hk)).1 hargs
 obtain ⟨fn',tmps,assign,body,hyd,hR⟩:=C.rd k X w hJ hk (n - 1)
 refine ⟨fun _ _=>trivial,?_⟩
 have hrun:(execOp a.eval o).run P w=.ok (.round C.l fn' tmps assign body) w:=by
  have harr:c.args.map a.eval=⟨toVL (C.y k)⟩:=by
   apply Array.toList_inj.1
   simp only [Array.toList_map]
   exact hxs
  simp only [execOp,hc,resolve,hf,hfv',Deferred.ofValue,Sem.run_bind,Sem.run_pure,Result.andThen_ok,invoke]
  simpa [harr] using hyd
 rw [show Fence.wide.round=none from rfl,Oper.semAt_none,hrun]
 refine ⟨fun h=>(by cases h),hR.mono ?_⟩
 rintro e w' ⟨r,rfl,hJ',hX,hsz⟩
 refine hK r w' ⟨ρ,X,⟨⟨fun _ _ h=>(by cases h),fun d hd=>?_,hS.defs.nd,hS.defs.same_⟩,hS.size,hS.tmp,hS.fresh,⟨fun i hi=>⟨fun m hm=>?_,(hS.mem.at_ i hi).2⟩,hS.mem.apart,⟨fun b o v hv=>?_,fun b v hv=>?_,fun b i hp=>⟨(hS.mem.seal_.p b i hp).1,((C.sl _ _ _ hJ').1.p b i (by rw [← ho.p];exact hp)).2⟩⟩,hS.mem.free,(C.sl _ _ _ hJ').2.1⟩,Kept.refl _ _ _,Nat.le_refl _,hS.ext,hS.argn,hS.argl,hS.nab,hS.nale,⟨fun _ _ _ h=>.inl h,fun _ _ h=>.inl h,rfl⟩,hS.mz⟩,hJ',ho⟩
 ·rw [hS.defs.same_ [] rfl] at hd;cases hd
 ·obtain ⟨g1,g2,g3⟩:=hS.mem.get hi hm
  have hmX:m.blk∈X:=g3.elim (fun h=>by omega) id
  exact ⟨Nat.lt_of_lt_of_le g1 hsz,Blk.den_same g2 (hX _ hmX),.inr hmX⟩
 ·rcases ho.c b o v hv with h1 | h1
  ·exact (C.sl _ _ _ hJ').1 b o v h1
  ·rw [World.cell?_of_block (w:=w) (hX b h1)]
   exact hS.mem.seal_ b o v hv
 ·rcases ho.m b v hv with h1 | h1
  ·exact (C.sl _ _ _ hJ').1.m b v h1
  ·exact (hX b h1).trans (hS.mem.seal_.m b v hv)
abbrev KontY:=XE→Option Nat→SState→Prop
abbrev SumY:=Option Nat→SState→KontY→Prop
def yOk (q:Bool) (N:Nat) (y:Nat→List SV) (k:Nat) (args:List SV) (T:Prop):Prop :=
 match matchL args (y k) with
 | some ns=>needs (q :: decide (k<N) :: ns) T
 | none=>False
def knOf:List (Nat × Bool)→Nat→Option Bool
 | [],_=>none
 | p :: l,t=>match Nat.beq p.1 t with
  | true=>some p.2
  | false=>knOf l t
def knDrop:List (Nat × Bool)→Option Nat→List (Nat × Bool)
 | l,none=>l
 | l,some d=>l.filter fun p=>!(Nat.beq p.1 d)
def SState.know (s:SState) (t:Nat) (b:Bool):SState:={ s with tm:=fun i=>if i=t then .bool b else s.tm i }
def skipS (s:SState) (dst:Option Nat) (t:Nat) (pol:Bool):SState:=s.put dst (.gd t pol (.bool true))
def xBare (P:Program) (Γ:Gam) (s:SState) (asm:Asm) (o:Oper):Option SRes :=
 match xOp P Γ s s.nx asm o with
 | some r=>if r.fitsB s.mem s.nx then some ⟨o.dst,r.v.top,r.news,r.upds,r.need⟩ else none
 | none=>none
def xBareY (P:Program) (Γ:Gam) (l:Nat) (N:Nat) (y:Nat→List SV) (o:Oper) (asm:Asm) (kn:List (Nat × Bool)) (k:Option Nat) (s:SState) (R:List (Nat × Bool)→Option Nat→SState→Prop):Prop :=
 match yldOf s asm o with
 | some (l',args)=>(match k with
  | some k=>yOk (decide (l'=l)) N y k args (R (knDrop kn o.dst) (some (k+1)) (s.put o.dst (.bool true))∧R (knDrop kn o.dst) none (s.put o.dst (.bool false)))
  | none=>False)
 | none=>(match xBare P Γ s asm o with
  | some r=>needs r.need (R (knDrop kn o.dst) k (s.step s.nx r))
  | none=>False)
def xSeqY (P:Program) (Γ:Gam) (l:Nat) (N:Nat) (y:Nat→List SV) (ops:Array Oper):List Oper→List (Nat × Bool)→Option Nat→SState→(Option Nat→SState→Prop)→Prop
 | [],_,k,s,K=>K k s
 | o :: rest,kn,k,s,K=>match o.guard with
  | none=>xBareY P Γ l N y o [] kn k s fun kn k s=>xSeqY P Γ l N y ops rest kn k s K
  | some (j,pol)=>match (ops[j]?).bind (·.dst) with
   | some t=>match knOf kn t with
    | some v=>(match v == pol with
     | true=>xBareY P Γ l N y o [(t,v)] kn k s fun kn k s=>xSeqY P Γ l N y ops rest kn k s K
     | false=>xSeqY P Γ l N y ops rest (knDrop kn o.dst) k (skipS s o.dst t pol) K)
    | none=>match yldOf s (chain s.tm 12 t pol).1 o with
     | some _=>(match s.tm t,Nat.blt t s.nt with
      | .bool b,true=>cnd (match pol with | true=>b | false=>!b) (xBareY P Γ l N y o [(t,pol)] ((t,pol) :: kn) k (s.know t pol) fun kn k s=>xSeqY P Γ l N y ops rest kn k s K) (xSeqY P Γ l N y ops rest (knDrop ((t,!pol) :: kn) o.dst) k (skipS (s.know t (!pol)) o.dst t pol) K)
      | _,_=>False)
     | none=>(match xStep P Γ ops s s.nx o with
      | some r=>needs r.need (xSeqY P Γ l N y ops rest (knDrop kn o.dst) k (s.step s.nx r) K)
      | none=>False)
   | none=>False
def KnOk (kn:List (Nat × Bool)) (a:Act):Prop:=∀ p∈kn,a.tmps[p.1]? = some (.bool p.2)
theorem knOf_ok {kn:List (Nat × Bool)} {a:Act} (h:KnOk kn a) {t:Nat} {v:Bool} (hv:knOf kn t=some v):a.tmps[t]? = some (.bool v):=by
 induction kn with
 | nil=>cases hv
 | cons p l ih =>
  simp only [knOf] at hv
  split at hv
  ·rename_i e;rw [Nat.beq_eq] at e;subst e;cases hv;exact h p (by simp)
  ·exact ih (fun q hq=>h q (List.mem_cons_of_mem _ hq)) hv
theorem KnOk.drop {kn:List (Nat × Bool)} {a:Act} (h:KnOk kn a) (dst:Option Nat) (x:Value):KnOk (knDrop kn dst) (a.put dst x):=by
 intro p hp
 cases dst with
 | none=>exact h p hp
 | some d =>
  simp only [knDrop,List.mem_filter,Bool.not_eq_true'] at hp
  rw [put_get a (some d) x p.1 fun d' hd' e=>by cases hd';have:=hp.2;rw [← e] at this;simp at this]
  exact h p hp.1
section
variable {C:YC P} {k:Option Nat} {s:SState} {a:Act} {w:World}
theorem StJ.put (h:StJ C k s a w) {dst:Option Nat} {v:SV} {x:Value} (hv:∀ ρ:Env,v.den ρ x) (hg:∀ t pol u,v≠.gd t pol u):StJ C k (s.put dst v) (a.put dst x) w:=by
 refine h.same (f:=fun {B M w0 ρ} hS=>⟨ρ,?_⟩)
 have hT:=hS.tmDen.put (Ext.refl ρ) (dst:=dst) (v:=v) (x:=x) fun d _=>slot_of hg (hv ρ)
 have hsame:(s.put dst v).na=s.na∧(s.put dst v).nx=s.nx∧(s.put dst v).mem=s.mem:=by cases dst <;> exact ⟨rfl,rfl,rfl⟩
 exact ⟨by rw [put_defs,hsame.2.2];exact hS.defs,hT.size,hT.tmp,by rw [hsame.2.1];exact hS.fresh,by rw [hsame.2.2];exact hS.mem,hS.kept,hS.base,hS.ext,hS.argn,hS.argl,by rw [hsame.1];exact hS.nab,by rw [hsame.2.1];exact hS.nale,hS.odb,hS.mz⟩
theorem StJ.skip (h:StJ C k s a w) {dst:Option Nat} {t:Nat} {pol:Bool} (ht:a.tmps[t]? = some (.bool (!pol))):StJ C k (skipS s dst t pol) (a.put dst undef) w:=by
 refine h.same (f:=fun {B M w0 ρ} hS=>⟨ρ,?_⟩)
 have hT:=hS.tmDen.put (Ext.refl ρ) (dst:=dst) (v:=.gd t pol (.bool true)) (x:=undef) fun d hd=>.inr ⟨fun e=>by
  subst hd
  by_cases hdt:d=t
  ·subst hdt
   have:=put_same e
   simp [undef] at this
  ·rw [put_get a (some d) undef t (fun d' e'=>by cases e';exact hdt),ht] at e
   cases pol <;> simp at e,rfl⟩
 have hsame:(skipS s dst t pol).na=s.na∧(skipS s dst t pol).nx=s.nx∧(skipS s dst t pol).mem=s.mem:=by cases dst <;> exact ⟨rfl,rfl,rfl⟩
 exact ⟨by rw [put_defs,hsame.2.2];exact hS.defs,hT.size,hT.tmp,by rw [hsame.2.1];exact hS.fresh,by rw [hsame.2.2];exact hS.mem,hS.kept,hS.base,hS.ext,hS.argn,hS.argl,by rw [hsame.1];exact hS.nab,by rw [hsame.2.1];exact hS.nale,hS.odb,hS.mz⟩
theorem StJ.know (h:StJ C k s a w) {t:Nat} {b:Bool} (ht:a.tmps[t]? = some (.bool b)):StJ C k (s.know t b) a w:=by
 refine h.same (f:=fun {B M w0 ρ} hS=>⟨ρ,⟨hS.defs,hS.size,fun i x hx=>?_,hS.fresh,hS.mem,hS.kept,hS.base,hS.ext,hS.argn,hS.argl,hS.nab,hS.nale,hS.odb,hS.mz⟩⟩)
 simp only [SState.know]
 split
 ·rename_i e;subst e;rw [ht] at hx;cases hx;exact rfl
 ·exact hS.tmp i x hx
end
theorem xSeqY_wp {Γ:Gam} (hΓ:GamOk P Γ) {C:YC P} {ops:Array Oper} {n:Nat} {Q:Exit→Act→World→Prop} {K:Option Nat→SState→Prop} (hK:∀ k s a w,StJ C k s a w→K k s→Q .normal a w) :
  ∀ (l:List Oper) (kn:List (Nat × Bool)) (k:Option Nat) (s:SState) (a:Act) (w:World),KnOk kn a→StJ C k s a w→xSeqY P Γ C.l C.N C.y ops l kn k s K→wpListIn Fence.wide n P ops Q l a w
 | [],kn,k,s,a,w,hkn,h,hx=>hK k s a w h hx
 | o :: rest,kn,k,s,a,w,hkn,h,hx=>by
  have ih:=fun kn k s a w=>xSeqY_wp hΓ hK (n:=n) (ops:=ops) rest kn k s a w
  -- where the operation is wanted
  have bare:∀ (asm:Asm) (kn:List (Nat × Bool)) (s:SState),AsmOk asm a→KnOk kn a→StJ C k s a w→xBareY P Γ C.l C.N C.y o asm kn k s (fun kn k s=>xSeqY P Γ C.l C.N C.y ops rest kn k s K)→o.wpIn Fence.wide n P a w (wpListIn Fence.wide n P ops Q rest) Q:=by
   intro asm kn s ha hkn h hx
   unfold xBareY at hx
   split at hx
   ·rename_i l' args hy
    cases k with
    | none=>exact hx.elim
    | some k =>
     simp only [yOk] at hx
     split at hx
     ·rename_i ns hm
      rw [needs_iff] at hx
      obtain ⟨hn,hx1,hx2⟩:=hx
      have hl:l'=C.l:=by have:=hn _ (List.mem_cons_self ..);simpa using this
      subst hl
      have hk:k<C.N:=by have:=hn _ (List.mem_cons_of_mem _ (List.mem_cons_self ..));simpa using this
      refine yield_wp h ha hy hm (fun b hb=>hn b (List.mem_cons_of_mem _ (List.mem_cons_of_mem _ hb))) hk fun r w' h'=>?_
      cases r with
      | true=>exact ih _ _ _ _ w' (hkn.drop _ _) (h'.put (v:=.bool true) (x:=.bool true) (fun _=>rfl) (by simp)) hx1
      | false=>exact ih _ _ _ _ w' (hkn.drop _ _) (h'.put (v:=.bool false) (x:=.bool false) (fun _=>rfl) (by simp)) hx2
     ·exact hx.elim
   ·split at hx <;> try exact hx.elim
    rename_i r hr
    rw [needs_iff] at hx
    obtain ⟨hn,hx⟩:=hx
    unfold xBare at hr
    split at hr <;> try (cases hr;done)
    rename_i r0 hr0
    split at hr <;> cases hr
    rename_i hf
    obtain ⟨ρ,X,hS,hJ,ho⟩:=h
    refine xOp_wp (rd:=none) hΓ hr0 hn (fitsB_ok hf) hS.tmDen hS.mem hS.base ha (fun j _=>hS.fresh _ (by omega)) fun x w' ρ' hp=>?_
    refine ih _ _ _ _ w' (hkn.drop _ _) ?_ hx
    have hS':=hS.step (r:=⟨o.dst,r0.v.top,r0.news,r0.upds,r0.need⟩) (fitsB_ok (r:=⟨.any,_,_,[]⟩) hf) (x:=x) ⟨fun d _=>slotDen_top hp.val,hp.any⟩
    exact StJ.anew hJ rfl rfl ho hS'
  -- where it is not
  have skip:∀ (kn:List (Nat × Bool)) (s:SState) (t:Nat) (pol:Bool),a.tmps[t]? = some (.bool (!pol))→KnOk kn a→StJ C k s a w→xSeqY P Γ C.l C.N C.y ops rest (knDrop kn o.dst) k (skipS s o.dst t pol) K→(∀ f,o.about P w a.eval=some f→Fence.wide.fn f)∧wpListIn Fence.wide n P ops Q rest (a.put o.dst undef) w :=
   fun kn s t pol ht hkn h hx=>⟨fun _ _=>trivial,ih _ _ _ _ w (hkn.drop _ _) (h.skip ht) hx⟩
  unfold xSeqY at hx
  unfold wpListIn
  split at hx
  ·rename_i hg
   have hw:Region.wanted o (yielded ops a.tmps)=true:=by simp [Region.wanted,hg]
   rw [if_pos hw]
   exact bare [] kn s (AsmOk.nil a) hkn h hx
  ·rename_i j pol hg
   split at hx <;> try exact hx.elim
   rename_i t ht
   have hty:yielded ops a.tmps j=match a.tmps[t]? with | some (.bool b)=>some b | _=>none:=by
    unfold yielded
    rw [ht]
    rfl
   have hwant:∀ v,a.tmps[t]? = some (.bool v)→Region.wanted o (yielded ops a.tmps)=decide (v=pol):=fun v hv=>by
    simp only [Region.wanted,hg,hty,hv]
    cases v <;> cases pol <;> rfl
   split at hx
   ·rename_i v hv
    have hav:=knOf_ok hkn hv
    have hww:=hwant v hav
    split at hx
    ·rename_i e
     rw [if_pos (by rw [hww];simpa using e)]
     exact bare _ kn s (AsmOk.cons (AsmOk.nil a) hav) hkn h hx
    ·rename_i e
     rw [if_neg (by rw [hww];simpa using e)]
     have hvp:v=!pol:=by cases v <;> cases pol <;> simp_all
     exact skip kn s t pol (by rw [← hvp];exact hav) hkn h hx
   ·split at hx
    ·split at hx <;> try exact hx.elim
     rename_i b hb hlt
     have hslot:a.tmps[t]? = some (.bool b):=by
      obtain ⟨ρ,X,hS,_,_⟩:=h
      have hl:t<a.tmps.size:=by rw [hS.size];simpa using hlt
      have:=hS.tmp t _ (Array.getElem?_eq_getElem hl)
      rw [hb] at this
      rw [Array.getElem?_eq_getElem hl]
      exact congrArg some this
     have hww:=hwant b hslot
     rw [cnd_iff] at hx
     by_cases hbp:b=pol
     ·subst hbp
      rw [if_pos (by rw [hww];simp)]
      exact bare _ ((t,b) :: kn) (s.know t b) (AsmOk.cons (AsmOk.nil a) hslot) (fun p hp=>(List.mem_cons.1 hp).elim (fun e=>by subst e;exact hslot) (hkn p)) (h.know hslot) (hx.1 (by cases b <;> rfl))
     ·have hbn:b=!pol:=by cases b <;> cases pol <;> simp_all
      subst hbn
      rw [if_neg (by rw [hww];simp)]
      exact skip ((t,!pol) :: kn) (s.know t (!pol)) t pol hslot (fun p hp=>(List.mem_cons.1 hp).elim (fun e=>by subst e;exact hslot) (hkn p)) (h.know hslot) (hx.2 (by cases pol <;> rfl))
    ·split at hx <;> try exact hx.elim
     rename_i r hr
     rw [needs_iff] at hx
     obtain ⟨hn,hx⟩:=hx
     obtain ⟨hf,hd⟩:=xStep_fits hr
     obtain ⟨ρ,X,hS,hJ,ho⟩:=h
     have key:=xStep_wp (rd:=none) (n:=n) hΓ hr hn hS.tmDen hS.mem hS.base (fun j _=>hS.fresh _ (by omega)) (K:=wpListIn Fence.wide n P ops Q rest) (Q:=Q) fun x w' ρ' hp=>by
      refine ih _ _ _ _ w' (hkn.drop _ _) ?_ hx
      have hS':=hS.step hf hp
      rw [← hd]
      exact StJ.anew hJ rfl rfl ho hS'
     split
     ·rename_i hw;rw [if_pos hw] at key;exact key
     ·rename_i hw;rw [if_neg hw] at key;exact ⟨fun _ _=>trivial,key⟩
def retY (κ:KontY) (k:Option Nat) (e:XE) (s:SState):Prop:=match e with
 | .ret=>(match k with
  | none=>True
  | some k=>κ .ret (some k) s)
 | .normal=>κ .normal k s
 | .exit j=>κ (.exit j) k s
def hasY:Code→Bool
 | .region _ ops _=>ops.toList.any fun o=>match o.op with
  | .call c=>(match c.callee with
   | .value f=>(match f with
    | .tmp _=>true
    | _=>false)
   | _=>false)
  | _=>false
 | .seq a b=>hasY a||hasY b
 | .cond _ a b=>hasY a||hasY b
 | .block _ a=>hasY a
 | .loop a=>hasY a
 | _=>false
abbrev LamY:=Nat→Option SumY
def execY (P:Program) (L:Tab) (Λ:Lam) (l N:Nat) (y:Nat→List SV) (ΛY:LamY) (fuel:Nat):Code→Option Nat→SState→KontY→Prop
 | .skip,k,s,κ=>κ .normal k s
 | .region id ops draw,k,s,κ=>match draw||!(hasY (.region id ops draw)) with
  | true=>exec P L Λ fuel (.region id ops draw) s (retY κ k)
  | false=>orL ((altOf (Nat.beq (fuel % 2) 1) L (opFns ops.toList)).map fun Γ=>xSeqY P Γ l N y ops ops.toList [] k s (κ .normal))
 | .seq x z,k,s,κ=>execY P L Λ l N y ΛY fuel x k s fun e k' s'=>match e with
  | .normal=>execY P L Λ l N y ΛY fuel z k' s' κ
  | .exit id=>κ (.exit id) k' s'
  | .ret=>κ .ret k' s'
 | .cond c x z,k,s,κ=>match ev s [] c with
  | .bool b=>(match b with
   | true=>execY P L Λ l N y ΛY fuel x k s κ
   | false=>execY P L Λ l N y ΛY fuel z k s κ)
  | _=>False
 | .block id c,k,s,κ=>match ΛY id with
  | some g=>g k s κ
  | none=>match hasY c||!(noRf c) with
   | false=>exec P L Λ fuel (.block id c) s (retY κ k)
   | true=>execY P L Λ l N y ΛY fuel c k s fun e k' s'=>match e with
    | .normal=>κ .normal k' s'
    | .exit j=>(match Nat.beq j id with
     | true=>κ .normal k' s'
     | false=>κ (.exit j) k' s')
    | .ret=>κ .ret k' s'
 | .exit id,k,s,κ=>κ (.exit id) k s
 | .ret,k,s,κ=>retY κ k .ret s
 | _,_,_,_=>False
def LOkJ (C:YC P) (g:SumY) (c:Code):Prop:=∀ (n:Nat) (k:Option Nat) (s:SState) (κ:KontY) (a:Act) (w:World) (Q:Exit→Act→World→Prop),StJ C k s a w→g k s κ→(∀ e k' s' a' w',StJ C k' s' a' w'→κ e k' s'→Q e.toExit a' w')→(∀ s' a' w',StJ C none s' a' w'→Q .ret a' w')→c.wpIn Fence.wide n P Q a w
theorem ev_cond {C:YC P} {k:Option Nat} {s:SState} {a:Act} {w:World} (h:StJ C k s a w) {c:Operand} {v:SV} (hv:ev s [] c=v):∃ ρ,v.den ρ (a.eval c):=by
 obtain ⟨ρ,X,hS,_,_⟩:=h
 exact ⟨ρ,by rw [← hv];exact ev_den hS.tmDen (AsmOk.nil a) c⟩
theorem execY_wp {L:Tab} (hL:TabOk P L) (hmix:P.follows .mixedOrders=true) {Λ:Lam} {fuel:Nat} {C:YC P} {ΛY:LamY}:∀ (c:Code),(∀ id b g,hasBlk c id b→Λ id=some g→LOk P g (.block id b))→(∀ id b g,hasBlk c id b→ΛY id=some g→LOkJ C g (.block id b))→LOkJ C (execY P L Λ C.l C.N C.y ΛY fuel c) c:=by
 -- a piece without a call of yield
 have pc:∀ (c:Code),(∀ id b g,hasBlk c id b→Λ id=some g→LOk P g (.block id b))→noRf c=true→∀ (n:Nat) (k:Option Nat) (s:SState) (κ:KontY) (a:Act) (w:World) (Q:Exit→Act→World→Prop),StJ C k s a w→exec P L Λ fuel c s (retY κ k)→(∀ e k' s' a' w',StJ C k' s' a' w'→κ e k' s'→Q e.toExit a' w')→(∀ s' a' w',StJ C none s' a' w'→Q .ret a' w')→c.wpIn Fence.wide n P Q a w:=by
  intro c hΛ hn n k s κ a w Q h hx hk hd
  refine piece (exec_wp hL hmix c hΛ) hn h hx fun e s' a' w' h' hr=>?_
  cases e with
  | normal=>exact hk .normal k s' a' w' h' hr
  | exit j=>exact hk (.exit j) k s' a' w' h' hr
  | ret =>
   cases k with
   | none=>exact hd s' a' w' h'
   | some k=>exact hk .ret (some k) s' a' w' h' hr
 intro c
 induction c with
 | skip=>intro _ _ n k s κ a w Q h hx hk hd;exact wpIn_skip (hk .normal _ _ _ _ h hx)
 | region id ops draw =>
  intro hΛ _ n k s κ a w Q h hx hk hd
  simp only [execY] at hx
  split at hx
  ·exact pc _ hΛ rfl n k s κ a w Q h hx hk hd
  ·rename_i hb
   simp only [Bool.or_eq_false_iff] at hb
   obtain ⟨p,hp,hx⟩:=orL_mem hx
   obtain ⟨Γ,hΓ',rfl⟩:=List.mem_map.1 hp
   have hΓ:=altOf_ok hL _ Γ hΓ'
   rw [hb.1]
   exact wpIn_region_list (xSeqY_wp hΓ (fun k s a w h hk'=>hk .normal k s a w h hk') ops.toList [] k s a w (fun p hp=>by cases hp) h hx)
 | seq x z ihx ihz =>
  intro hΛ hY n k s κ a w Q h hx hk hd
  refine wpIn_seq (ihx (fun id b g h=>hΛ id b g (.inl h)) (fun id b g h=>hY id b g (.inl h)) n k s _ a w _ h hx (fun e k' s' a' w' h' hk'=>?_) fun s' a' w' h'=>hd s' a' w' h')
  cases e with
  | normal=>exact ihz (fun id b g h=>hΛ id b g (.inr h)) (fun id b g h=>hY id b g (.inr h)) n k' s' κ a' w' Q h' hk' hk hd
  | exit id=>exact hk _ _ _ _ _ h' hk'
  | ret=>exact hk _ _ _ _ _ h' hk'
 | cond c x z ihx ihz =>
  intro hΛ hY n k s κ a w Q h hx hk hd
  simp only [execY] at hx
  split at hx <;> try exact hx.elim
  rename_i b hb
  obtain ⟨ρ,hc⟩:=ev_cond h hb
  have hc:a.eval c=.bool b:=hc
  cases b with
  | true=>exact wpIn_cond_true hc (ihx (fun id b g h=>hΛ id b g (.inl h)) (fun id b g h=>hY id b g (.inl h)) n k s κ a w Q h hx hk hd)
  | false=>exact wpIn_cond_false hc (ihz (fun id b g h=>hΛ id b g (.inr h)) (fun id b g h=>hY id b g (.inr h)) n k s κ a w Q h hx hk hd)
 | block id c ih =>
  intro hΛ hY n k s κ a w Q h hx hk hd
  simp only [execY] at hx
  split at hx
  ·rename_i g hg
   exact hY id c g (.inl ⟨rfl,rfl⟩) hg n k s κ a w Q h hx hk hd
  ·split at hx
   ·rename_i hb
    simp only [Bool.or_eq_false_iff,Bool.not_eq_false'] at hb
    exact pc _ hΛ hb.2 n k s κ a w Q h hx hk hd
   ·refine wpIn_block (ih (fun id b g h=>hΛ id b g (.inr h)) (fun id b g h=>hY id b g (.inr h)) n k s _ a w _ h hx (fun e k' s' a' w' h' hk'=>?_) fun s' a' w' h'=>hd s' a' w' h')
    cases e with
    | normal=>exact hk .normal _ _ _ _ h' hk'
    | exit j =>
     show Exit.inBlock id Q (.exit j) a' w'
     simp only [Exit.inBlock]
     simp only at hk'
     split at hk'
     ·rename_i hj;rw [Nat.beq_eq] at hj;rw [if_pos hj];exact hk .normal _ _ _ _ h' hk'
     ·rename_i hj;rw [if_neg (Nat.ne_of_beq_eq_false hj)];exact hk (.exit j) _ _ _ _ h' hk'
    | ret=>exact hk .ret _ _ _ _ h' hk'
 | loop c ih=>intro _ _ n k s κ a w Q h hx hk hd;exact hx.elim
 | exit id=>intro _ _ n k s κ a w Q h hx hk hd;exact wpIn_exit (hk (.exit id) _ _ _ _ h hx)
 | ret =>
  intro _ _ n k s κ a w Q h hx hk hd
  refine wpIn_ret ?_
  cases k with
  | none=>exact hd s a w h
  | some k=>exact hk .ret (some k) s a w h hx
 | rangeFunc f ps x z _ _=>intro _ _ n k s κ a w Q h hx hk hd;exact hx.elim
 | scope c _=>intro _ _ n k s κ a w Q h hx hk hd;exact hx.elim
 | label l=>intro _ _ n k s κ a w Q h hx hk hd;exact hx.elim
 | goto l=>intro _ _ n k s κ a w Q h hx hk hd;exact hx.elim
 | refuse z=>intro _ _ n k s κ a w Q h hx hk hd;exact hx.elim
def isYl (v:Value) (l:Nat):Bool:=match v with
 | .func fn f c=>(match fn with
  | .yield l'=>f.toList.isEmpty&&(c.toList.isEmpty&&decide (l'=l))
  | _=>false)
 | _=>false
theorem isYl_eq {v:Value} {l:Nat} (h:isYl v l=true):v=.func (.yield l) #[] #[]:=by
 unfold isYl at h
 split at h <;> try (cases h;done)
 rename_i fn f c
 split at h <;> try (cases h;done)
 simp only [Bool.and_eq_true,List.isEmpty_iff,decide_eq_true_eq] at h
 obtain ⟨h1,h2,rfl⟩:=h
 congr 1 <;> (apply Array.toList_inj.1;simp [h1,h2])
abbrev XRY:=XE→Nat→List SV→List Blk→Prop
def canonKY (na nt:Nat) (Lh Le:List Nat) (nx:Nat) (gl:List GL) (R:XRY):KontY:=fun e k s=>match k with
 | none=>False
 | some k=>match e with
  | .normal=>cz na nt Lh nx gl s (R .normal k)
  | .exit j=>cz na nt Le nx gl s (R (.exit j) k)
  | .ret=>cz na nt Le nx gl s (R .ret k)
theorem StJ.cz {C:YC P} {k:Option Nat} {s:SState} {a:Act} {w:World} (h:StJ C k s a w) {na nt nx:Nat} {L:List Nat} {gl:List GL} {r:List SV × List Blk} (hr:czv na nt L nx gl s=some r):StJ C k (mkSt na nt L r.1 nx r.2) a w:=h.same (fun hS=>cz_ok hS hr)
theorem loopY_ok {ι:Type} {C:YC P} {c:Code} {f0:SumY} (hf:LOkJ C f0 c) {na nt nx:Nat} {Lh Le:List Nat} {gl:List GL} (G:Nat→ι→XRY→Prop) (ka:ι→Nat) (va:ι→List SV) (ba:ι→List Blk) (h0:∀ x K,¬ G 0 x K)
  (hs:∀ f x K,G (f+1) x K→f0 (some (ka x)) (mkSt na nt Lh (va x) nx (ba x)) (canonKY na nt Lh Le nx gl fun e k vs bs=>match e with | .normal=>∃ y,vs=va y∧bs=ba y∧k=ka y∧G f y K | .exit j=>K (.exit j) k vs bs | .ret=>K .ret k vs bs)) :
  LOkJ C (fun k s κ=>∃ f x,k=some (ka x)∧czv na nt Lh nx gl s=some (va x,ba x)∧G f x fun e k vs bs=>κ e (some k) (mkSt na nt Le vs nx bs)) (.loop c):=by
 rintro n k s κ a w Q h ⟨f,x,rfl,hr,hG⟩ hk hd
 have h1:=h.cz hr
 clear hr h
 have key:∀ (f:Nat) (x:ι) (a:Act) (w:World),StJ C (some (ka x)) (mkSt na nt Lh (va x) nx (ba x)) a w→(G f x fun e k vs bs=>κ e (some k) (mkSt na nt Le vs nx bs))→Code.roundsIn Fence.wide n P c Q f a w:=by
  intro f
  induction f with
  | zero=>intro x a w _ hG;exact (h0 x _ hG).elim
  | succ f ih =>
   intro x a w h hG
   rw [roundsIn_succ]
   refine hf n _ _ _ a w _ h (hs f x _ hG) (fun e k' s' a' w' h' hk'=>?_) fun s' a' w' h'=>hd s' a' w' h'
   cases k' with
   | none=>exact hk'.elim
   | some k' =>
    cases e with
    | normal =>
     simp only [canonKY] at hk'
     obtain ⟨r,hr,y,e1,e2,rfl,hG'⟩:=cz_get hk'
     have h2:=h'.cz hr
     rw [e1,e2] at h2
     exact ih y a' w' h2 hG'
    | exit j =>
     simp only [canonKY] at hk'
     obtain ⟨r,hr,hK⟩:=cz_get hk'
     exact hk (.exit j) _ _ a' w' (h'.cz hr) hK
    | ret =>
     simp only [canonKY] at hk'
     obtain ⟨r,hr,hK⟩:=cz_get hk'
     exact hk .ret _ _ a' w' (h'.cz hr) hK
 exact wpIn_loop_rounds f (key f x a w h1 hG)
def inBlkY (id:Nat) (κ:KontY):KontY:=fun e k s=>match e with
 | .normal=>κ .normal k s
 | .exit j=>match Nat.beq j id with
  | true=>κ .normal k s
  | false=>κ (.exit j) k s
 | .ret=>κ .ret k s
theorem blkY_ok {C:YC P} {g:SumY} {c:Code} {id:Nat} (hg:LOkJ C g c):LOkJ C (fun k s κ=>g k s (inBlkY id κ)) (.block id c):=by
 intro n k s κ a w Q h hx hk hd
 refine wpIn_block (hg n k s _ a w _ h hx (fun e k' s' a' w' h' hk'=>?_) fun s' a' w' h'=>hd s' a' w' h')
 cases e with
 | normal=>exact hk .normal _ _ _ _ h' hk'
 | exit j =>
  show Exit.inBlock id Q (.exit j) a' w'
  simp only [Exit.inBlock]
  simp only [inBlkY] at hk'
  split at hk'
  ·rename_i hj;rw [Nat.beq_eq] at hj;rw [if_pos hj];exact hk .normal _ _ _ _ h' hk'
  ·rename_i hj;rw [if_neg (Nat.ne_of_beq_eq_false hj)];exact hk (.exit j) _ _ _ _ h' hk'
 | ret=>exact hk .ret _ _ _ _ h' hk'
def lamY:List (Nat × SumY)→LamY
 | [],_=>none
 | p :: l,f=>match Nat.beq p.1 f with
  | true=>some p.2
  | false=>lamY l f
def LamYOk (C:YC P) (c:Code) (ΛY:LamY):Prop:=∀ id b g,hasBlk c id b→ΛY id=some g→LOkJ C g (.block id b)
theorem lamY_sub {C:YC P} {c:Code} {Λ:LamY} (h:LamYOk C c Λ) (j:Nat):LamYOk C (unloop (bodyAt c j)) Λ:=by
 intro id b g hb hg
 refine h id b g ?_ hg
 rw [blkL_of] at hb ⊢
 unfold bodyAt at hb
 rcases lookB_mem (l:=blkL c) (id:=j) with e | e
 ·rw [e] at hb;simp [unloop,blkL] at hb
 ·refine blkL_trans e ?_
  generalize lookB (blkL c) j=d at hb
  cases d <;> simp [unloop,blkL] at hb ⊢
  all_goals exact hb
theorem lamY_of {C:YC P} {c:Code} (hn:nodupB ((blkL c).map (·.1))=true) {l:List (Nat × SumY)} (hl:∀ p∈l,LOkJ C p.2 (.block p.1 (bodyAt c p.1))):LamYOk C c (lamY l):=by
 intro id b g hb hg
 rw [blkL_of] at hb
 have e:=lookB_eq hn hb
 clear hb
 induction l with
 | nil=>cases hg
 | cons p l ih =>
  simp only [lamY] at hg
  split at hg
  ·rename_i h
   rw [Nat.beq_eq] at h
   cases hg
   have:=hl p (by simp)
   unfold bodyAt at this
   rw [h,e] at this
   exact this
  ·exact ih (fun q hq=>hl q (List.mem_cons_of_mem _ hq)) hg
theorem noLamY {C:YC P} {c:Code}:LamYOk C c (lamY []):=fun _ _ _ _ h=>by cases h
theorem lamsY_nil {C:YC P} {c:Code}:∀ p∈([]:List (Nat × SumY)),LOkJ C p.2 (.block p.1 (bodyAt c p.1)):=fun _ h=>by cases h
theorem lamsY_cons {C:YC P} {c:Code} {id:Nat} {g:SumY} {l:List (Nat × SumY)} (h:LOkJ C g (.block id (bodyAt c id))) (hl:∀ p∈l,LOkJ C p.2 (.block p.1 (bodyAt c p.1))):∀ p∈(id,g) :: l,LOkJ C p.2 (.block p.1 (bodyAt c p.1)):=by
 intro p hp
 rcases List.mem_cons.1 hp with rfl | hp
 ·exact h
 ·exact hl p hp
theorem loopY_blk {ι:Type} {L:Tab} (hL:TabOk P L) (hmix:P.follows .mixedOrders=true) {Λ:Lam} {fuel:Nat} {c:Code} {id:Nat} (hΛ:LamOk P c Λ) {C:YC P} {ΛY:LamY} (hY:LamYOk C c ΛY) (hc:bodyAt c id=.loop (unloop (bodyAt c id))) {na nt nx:Nat} {Lh Le:List Nat} {gl:List GL} (G:Nat→ι→XRY→Prop) (ka:ι→Nat) (va:ι→List SV) (ba:ι→List Blk) (h0:∀ x K,¬ G 0 x K)
  (hs:∀ f x K,G (f+1) x K→execY P L Λ C.l C.N C.y ΛY fuel (unloop (bodyAt c id)) (some (ka x)) (mkSt na nt Lh (va x) nx (ba x)) (canonKY na nt Lh Le nx gl fun e k vs bs=>match e with | .normal=>∃ y,vs=va y∧bs=ba y∧k=ka y∧G f y K | .exit j=>K (.exit j) k vs bs | .ret=>K .ret k vs bs))
  {g:SumY} (hg:∀ k s κ,g k s κ→∃ f x,k=some (ka x)∧czv na nt Lh nx gl s=some (va x,ba x)∧G f x fun e k vs bs=>inBlkY id κ e (some k) (mkSt na nt Le vs nx bs)) :
  LOkJ C g (.block id (bodyAt c id)):=by
 rw [hc]
 have:=blkY_ok (id:=id) (loopY_ok (gl:=gl) (execY_wp hL hmix (C:=C) (ΛY:=ΛY) (fuel:=fuel) _ (lam_sub hΛ id) (lamY_sub hY id)) G ka va ba h0 hs)
 intro n k s κ a w Q h hx hk hd
 exact this n k s κ a w Q h (hg k s κ hx) hk hd
theorem iter_of {L:Tab} (hL:TabOk P L) (hmix:P.follows .mixedOrders=true) {Λ:Lam} (fuel:Nat) {f:FuncId} {fn:Func} {c:Code} (hf:P.funcs[f]? = some fn) (hb:fn.body=some c) (hΛ:LamOk P c Λ) (hres:fn.results.toList=[]) {ΛY:Nat→LamY} {caps:List SV} {bs:List Blk} {N:Nat} {y:Nat→List SV}
  (hdet:∀ k,k<N→detL (y k)=true) (hY:∀ C:YC P,C.N=N→C.y=y→LamYOk C c (ΛY C.l))
  (h:∀ l,execY P L Λ l N y (ΛY l) fuel c (some 0) (initS fn.ntmps (.val (.func (.yield l) #[] #[]) :: caps) bs.length (memOf bs)) fun e k s=>match e with | .exit _=>False | _=>k=some N) (hz:0<bs.length:=by exact Nat.zero_lt_succ _):SIter P f caps bs N y:=by
 refine ⟨hdet,fun ρ xs W X hcaps hM hfr l J hab hsl hrd h0=>?_⟩
 let C:YC P:={ l:=l,N:=N,y:=y,od:=ρ.od,J:=J,det:=hdet,ab:=hab,sl:=hsl,rd:=hrd }
 have hargs:SV.denL ρ (.val (.func (.yield l) #[] #[]) :: caps) (.func (.yield l) #[] #[] :: xs):=⟨rfl,hcaps⟩
 have hlen:=denL_length hargs
 have harr:(#[Value.func (.yield l) #[] #[]] ++ (⟨xs⟩:Array Value))=⟨Value.func (.yield l) #[] #[] :: xs⟩:=by apply Array.toList_inj.1;simp
 rw [harr]
 refine (callsIn_wide (n:=0)).1 (callsIn_of_wp (F:=Fence.wide) hf hb trivial (execY_wp hL hmix (C:=C) (ΛY:=ΛY l) (fuel:=fuel) c hΛ (hY C rfl rfl) 0 (some 0) _ _ _ W _ ?_ (h l) (fun e k' s' a' w' hs hk=>?_) fun s' a' w' hs=>?_))
 ·refine ⟨ρ,X,⟨⟨fun _ _ h=>(by cases h),fun d hd=>(by cases hd),List.nodup_nil,fun d hd=>(by cases hd;rfl)⟩,?_,fun i x hx=>?_,hfr,hM,Kept.refl _ _ _,Nat.le_refl _,⟨fun i m hm=>?_,OdExt.refl _⟩,fun i hi=>?_,fun i hi=>?_,rfl,Nat.le_refl _,⟨fun _ _ _ h=>.inl h,fun _ _ h=>.inl h,rfl⟩,fun h0=>absurd h0 (Nat.ne_of_gt hz)⟩,h0,⟨fun _ _ _ h=>.inl h,fun _ _ h=>.inl h,rfl,Nat.ne_of_gt hz⟩⟩
  ·simp only [initS]
   rw [← hlen]
   simp
  ·simp only [initS]
   cases ha:(SV.val (.func (.yield l) #[] #[]) :: caps)[i]? with
   | none=>trivial
   | some v =>
    obtain ⟨y,hy,hd⟩:=denL_get hargs ha
    have hi:i<(Value.func (.yield l) #[] #[] :: xs).length:=(List.getElem?_eq_some_iff.1 hy).1
    simp only [Array.getElem?_append] at hx
    rw [if_pos (by simpa using hi)] at hx
    have hxy:x=y:=by
     have:(Value.func (.yield l) #[] #[] :: xs)[i]? = some x:=by simpa using hx
     rw [this] at hy;cases hy;rfl
    rw [hxy]
    exact slotDen_top hd
  ·simp only [baseY] at hm
   split at hm
   ·exact hm
   ·cases hm
  ·show (if i<bs.length then ρ i else none)=none
   have hi':bs.length≤i:=hi
   rw [if_neg (by omega)]
  ·show ρ i=(if i<bs.length then ρ i else none)
   have hi':i<bs.length:=hi
   rw [if_pos hi']
 ·obtain ⟨ρ',X',hS,hJ,_⟩:=hs
  have key:k'=some N→bodyPost P fn (fun e W'=>(∃ v,e=.returned v)∧∃ X,J (some N) X W'∨J none X W') .ret a' w':=fun hkN=>by
   obtain ⟨x,hx,_⟩:=results_run hS fn [] [] (by rw [hres];rfl) (fun _ h=>by cases h)
   exact ⟨hS.defs.same_ [] rfl,x,hx,⟨x,rfl⟩,X',.inl (by rw [← hkN];exact hJ)⟩
  cases e with
  | exit j=>exact hk.elim
  | normal=>exact key hk
  | ret=>exact key hk
 ·obtain ⟨ρ',X',hS,hJ,_⟩:=hs
  obtain ⟨x,hx,_⟩:=results_run hS fn [] [] (by rw [hres];rfl) (fun _ h=>by cases h)
  exact ⟨hS.defs.same_ [] rfl,x,hx,⟨x,rfl⟩,X',.inr hJ⟩
end runs
end Go.Sy
