/-
 m[k] = v in two steps: the entry, and what is stored in it. Conditions: none.
-/
import Derived.Test.YtdcdjjogieojhaaGreatDoorJSyV
import Derived.Test.YtdcdjjogieojhaaGreatDoorProg
import Derived.KernelRfl
import Derived.Test.YtdcdjjogieojhaaGreatDoorJSyKo
namespace Go.Proofs.YtdcdjjogieojhaaGreatDoor
set_option linter.unusedSectionVars false
variable [Go.Sy.Globs]
theorem mix_ok:Tryz.prog.follows .mixedOrders=true:=by kernel_rfl
theorem kSeal:Go.Sy.CtrOk Tryz.prog Go.Sy.cSeal 3:=Go.Sy.seal_ok (fn:=Tryz.f3) Tryz.func3 (by kernel_rfl) (by kernel_rfl)
end Go.Proofs.YtdcdjjogieojhaaGreatDoor
namespace Go.Sy
set_option linter.unusedVariables false
set_option linter.unusedSimpArgs false
open Go.RowKit
set_option linter.unusedSectionVars false
variable [Globs]
section runs
variable {P:Program}
end runs
end Go.Sy
namespace Go.Sy
set_option linter.unusedVariables false
set_option linter.unusedSimpArgs false
open Go.RowKit Go.ChangeMaps
set_option linter.unusedSectionVars false
variable [Globs]
section runs
variable {P:Program} {rd:Option Nat} {n:Nat}
theorem StDen.turn {B:Nat} {M:List Nat} {w0:Base} {ρ:Env} {s:SState} {a:Act} {w w':World} (h:StDen B M w0 ρ s a w) {r:Nat} (hB:B≤r) (hr:w.heap[r]? = none∨∃ b s n c,w.heap[r]? = some (.mapIter b s n c)) (hob:w0.ob r=none)
  (keep:∀ b,b<w.heap.size→b≠r→w'.heap[b]? = w.heap[b]?) (hsz:w.heap.size≤w'.heap.size) (hos:w'.os=w.os) (htp:w'.tape=w.tape) (hout:w'.output=w.output):StDen B M w0 ρ s a w':=by
 have ne:∀ {b:Nat} {o:Obj},w.heap[b]? = some o→(∀ b s n c,o≠.mapIter b s n c)→b≠r:=fun {b o} hb ho e=>by
  subst e
  rcases hr with hr | ⟨b',s',n',c',hr⟩
  ·rw [hr] at hb;cases hb
  ·rw [hr] at hb;cases hb;exact ho _ _ _ _ rfl
 have lt:∀ {b:Nat} {o:Obj},w.heap[b]? = some o→b<w.heap.size:=fun hb=>(Array.getElem?_eq_some_iff.1 hb).1
 have kp:∀ {b:Nat} {o:Obj},w.heap[b]? = some o→(∀ b s n c,o≠.mapIter b s n c)→w'.heap[b]? = w.heap[b]?:=fun hb ho=>keep _ (lt hb) (ne hb ho)
 have kc:∀ {b o:Nat} {v:Value},w.cell? ⟨b,o,none⟩=some v→w'.heap[b]? = w.heap[b]?:=fun {b o v} hv=>by
  unfold World.cell? at hv
  split at hv
  ·rename_i c e z hc
   exact kp hc (by simp)
  ·cases hv
 refine ⟨⟨fun b o hb=>?_,fun d hd=>?_,h.defs.nd,h.defs.same_⟩,h.size,h.tmp,h.fresh,⟨fun i hi=>⟨fun m hm=>?_,(h.mem.at_ i hi).2⟩,h.mem.apart,⟨fun b o v hv=>?_,fun b v hv=>?_,fun b i hp=>?_⟩,h.mem.free,PvOk.keep h.mem.pv ρ.gl (fun b o v hv=>kc (h.mem.seal_ b o v hv)) (fun b v hv=>kp (h.mem.seal_.m b v hv) (by simp))⟩,⟨hos.trans h.kept.os,htp.trans h.kept.tape,hout.trans h.kept.output,Nat.le_trans h.kept.size hsz,fun k hk hM=>?_⟩,Nat.le_trans h.base hsz,h.ext,h.argn,h.argl,h.nab,h.nale,h.odb,h.mz⟩
 ·have g:=h.defs.ob b o hb
  have hbr:b≠r:=fun e=>by rw [e,hob] at hb;cases hb
  exact ⟨(keep b g.lt hbr).trans g.at_,g.off,g.nod,g.nom⟩
 ·obtain ⟨D,e,hBD,g⟩:=h.defs.at_ d hd
  exact ⟨D,e,hBD,(kp g.at_ (by simp)).trans g.at_,g.off,g.nod,g.nom⟩
 ·obtain ⟨g1,g2,g3⟩:=h.mem.get hi hm
  obtain ⟨c,e,hc⟩:=Blk.den_cells g2 hi
  exact ⟨by omega,Blk.den_same g2 (kp hc (by simp)),g3⟩
 ·have hv':=h.mem.seal_ b o v hv
  rw [World.cell?_of_block (w:=w) (kc hv')]
  exact hv'
 ·have hv':=h.mem.seal_.m b v hv
  exact (kp hv' (by simp)).trans hv'
 ·obtain ⟨hv,c,t,hc⟩:=h.mem.seal_.p b i hp
  exact ⟨hv,c,t,(kp hc (by simp)).trans hc⟩
 ·by_cases hlt:k<w.heap.size
  ·exact (keep k hlt (by omega)).trans (h.kept.block k hk hM)
  ·have:=h.base;omega
theorem put_nx (s:SState) (dst:Option Nat) (v:SV):(s.put dst v).nx=s.nx∧(s.put dst v).mem=s.mem∧(s.put dst v).na=s.na:=by
 cases dst <;> exact ⟨rfl,rfl,rfl⟩
theorem StDen.putv {B:Nat} {M:List Nat} {w0:Base} {ρ:Env} {s:SState} {a:Act} {w:World} (h:StDen B M w0 ρ s a w) {dst:Option Nat} {v:SV} {x:Value} (hv:v.den ρ x) (hg:∀ t pol u,v≠.gd t pol u):StDen B M w0 ρ (s.put dst v) (a.put dst x) w:=by
 have hT:=h.tmDen.put (Ext.refl ρ) (v:=v) (dst:=dst) (x:=x) fun d _=>slot_of hg hv
 obtain ⟨e1,e2,e3⟩:=put_nx s dst v
 exact ⟨by rw [put_defs,e2];exact h.defs,hT.size,hT.tmp,by rw [e1];exact h.fresh,by rw [e2];exact h.mem,h.kept,h.base,h.ext,h.argn,h.argl,e3.trans h.nab,by rw [e1];exact h.nale,h.odb,h.mz⟩
theorem wpL_value {ops:Array Oper} {o:Oper} {rest:List Oper} {a:Act} {w w':World} {x:Value} {Q:Exit→Act→World→Prop} (hg:o.guard=none) (h:(execOp a.eval o).run P w=.ok (.value x) w') (hk:wpListIn (FW rd) n P ops Q rest (a.put o.dst x) w') (hd:∀ c,o.op≠.defer c:=by intro c e;cases e):wpListIn (FW rd) n P ops Q (o :: rest) a w :=
 wpList_step (by rw [if_pos (by simp [Region.wanted,hg])];exact wp_of_value h hk hd)
theorem wpL_skip {ops:Array Oper} {o:Oper} {rest:List Oper} {a:Act} {w w':World} {Q:Exit→Act→World→Prop} (hg:o.guard=none) (h:(execOp a.eval o).run P w=.ok .skip w') (hk:wpListIn (FW rd) n P ops Q rest (a.put o.dst undef) w') (hd:∀ c,o.op≠.defer c:=by intro c e;cases e):wpListIn (FW rd) n P ops Q (o :: rest) a w :=
 wpList_step (by rw [if_pos (by simp [Region.wanted,hg])];exact wp_of_skip h hk hd)
theorem exec_can {L:Tab} (hL:TabOk P L) (hmix:P.follows .mixedOrders=true) {fuel:Nat} {c:Code} {s:SState} {na nt nx:Nat} {Lh:List Nat} {gl:List GL} {vs:List SV} {bs:List Blk}
  (y:exec P L (fun _=>none) fuel c s (canonK na nt Lh [] nx gl fun e v b=>e=.normal∧v=vs∧b=bs)) {B:Nat} {M:List Nat} {w0:Base} {ρ:Env} {a:Act} {w:World} {Q:Exit→Act→World→Prop} (hr:RdOk rd w0.df c) (h:StDen B M w0 ρ s a w)
  (hk:∀ ρ' a' w',StDen B M w0 ρ' (mkSt na nt Lh vs nx bs) a' w'→Q .normal a' w'):c.wpIn (FW rd) n P Q a w:=by
 refine exec_wp hL hmix c (fun id b g _ hg=>by cases hg) rd n B M w0 s _ ρ a w Q hr h y fun e s' ρ' a' w' hs hz=>?_
 cases e with
 | normal =>
  have hz:cz na nt Lh nx gl s' fun v b=>XE.normal=XE.normal∧v=vs∧b=bs:=hz
  obtain ⟨r,hr,_,e1,e2⟩:=cz_get hz
  obtain ⟨ρ2,h2⟩:=cz_ok hs hr
  rw [e1,e2] at h2
  exact hk ρ2 a' w' h2
 | exit j =>
  have hz:cz na nt [] nx gl s' fun v b=>XE.exit j=XE.normal∧v=vs∧b=bs:=hz
  obtain ⟨r,hr,e1,_⟩:=cz_get hz
  cases e1
 | ret =>
  have hz:cz na nt [] nx gl s' fun v b=>XE.ret=XE.normal∧v=vs∧b=bs:=hz
  obtain ⟨r,hr,e1,_⟩:=cz_get hz
  cases e1
theorem StDen.rebase {B:Nat} {M:List Nat} {wb:World} {ρ0 ρ:Env} {ob:Nat→Option Obj} {df:Option (List Deferred)} {s:SState} {a:Act} {w:World} (h:StDen B M ⟨wb,ρ0,0,ob,df⟩ ρ s a w) (h0:s.nx=0):StDen B M ⟨wb,ρ,0,ob,df⟩ ρ s a w :=
 ⟨h.defs,h.size,h.tmp,h.fresh,h.mem,h.kept,h.base,Ext.refl _,fun i _=>h.fresh i (by omega),fun i hi=>absurd hi (Nat.not_lt_zero i),h.nab,Nat.zero_le _,⟨fun _ _ _ h=>.inl h,fun _ _ h=>.inl h,rfl⟩,h.mz⟩
theorem StDen.unbase {B:Nat} {M:List Nat} {wb:World} {ρ0 ρ1 ρ:Env} {ob:Nat→Option Obj} {df:Option (List Deferred)} {s:SState} {a:Act} {w:World} (he:Ext ρ0 ρ1) (ho:OdB ρ0.od ρ1.od B) (hz:∀ i,ρ0 i=none) (h:StDen B M ⟨wb,ρ1,0,ob,df⟩ ρ s a w):StDen B M ⟨wb,ρ0,0,ob,df⟩ ρ s a w :=
 ⟨h.defs,h.size,h.tmp,h.fresh,h.mem,h.kept,h.base,he.trans h.ext,fun i _=>hz i,fun i hi=>absurd hi (Nat.not_lt_zero i),h.nab,Nat.zero_le _,
  ⟨fun b o v hv=>(h.odb.c b o v hv).elim (fun h1=>ho.c b o v h1) .inr,fun b v hv=>(h.odb.m b v hv).elim (fun h1=>ho.m b v h1) .inr,h.odb.p.trans ho.p⟩,h.mz⟩
theorem exec_canR {L:Tab} (hL:TabOk P L) (hmix:P.follows .mixedOrders=true) {fuel:Nat} {c:Code} {s:SState} {na nt nx:Nat} {Lh:List Nat} {gl:List GL} {R:List SV→List Blk→Prop}
  (y:exec P L (fun _=>none) fuel c s (canonK na nt Lh [] nx gl fun e v b=>e=.normal∧R v b)) {B:Nat} {M:List Nat} {w0:Base} {ρ:Env} {a:Act} {w:World} {Q:Exit→Act→World→Prop} (hr:RdOk rd w0.df c) (h:StDen B M w0 ρ s a w)
  (hk:∀ vs bs ρ' a' w',R vs bs→StDen B M w0 ρ' (mkSt na nt Lh vs nx bs) a' w'→Q .normal a' w'):c.wpIn (FW rd) n P Q a w:=by
 refine exec_wp hL hmix c (fun id b g _ hg=>by cases hg) rd n B M w0 s _ ρ a w Q hr h y fun e s' ρ' a' w' hs hz=>?_
 cases e with
 | normal =>
  have hz:cz na nt Lh nx gl s' fun v b=>XE.normal=XE.normal∧R v b:=hz
  obtain ⟨r,hr,_,e1⟩:=cz_get hz
  obtain ⟨ρ2,h2⟩:=cz_ok hs hr
  exact hk _ _ ρ2 a' w' e1 h2
 | exit j =>
  have hz:cz na nt [] nx gl s' fun v b=>XE.exit j=XE.normal∧R v b:=hz
  obtain ⟨r,hr,e1,_⟩:=cz_get hz
  cases e1
 | ret =>
  have hz:cz na nt [] nx gl s' fun v b=>XE.ret=XE.normal∧R v b:=hz
  obtain ⟨r,hr,e1,_⟩:=cz_get hz
  cases e1
def EndQ (P:Program) (rs:List ResultVar) (B:Nat) (M:List Nat) (w0:Base) (R:SV→(Nat→Blk)→Prop):Exit→Act→World→Prop:=fun e a w=>∃ (x:XE) (ρ:Env) (s:SState),e=x.toExit∧StDen B M w0 ρ s a w∧retK P rs R x s
theorem EndQ.unbase {B:Nat} {M:List Nat} {wb:World} {ρ0 ρ1:Env} {ob:Nat→Option Obj} {df:Option (List Deferred)} (he:Ext ρ0 ρ1) (ho:OdB ρ0.od ρ1.od B) (hz:∀ i,ρ0 i=none) {rs:List ResultVar} {R:SV→(Nat→Blk)→Prop} {e:Exit} {a:Act} {w:World} (h:EndQ P rs B M ⟨wb,ρ1,0,ob,df⟩ R e a w):EndQ P rs B M ⟨wb,ρ0,0,ob,df⟩ R e a w :=
 let ⟨x,ρ,s,e1,h1,h2⟩:=h;⟨x,ρ,s,e1,h1.unbase he ho hz,h2⟩
theorem calls_wp {f:FuncId} {fn:Func} {c:Code} (hf:P.funcs[f]? = some fn) (hb:fn.body=some c)
  {M:List Nat} {ρ0:Env} {nx0:Nat} {mem0:Nat→Blk} {args:List SV} {xs:List Value} {w:World} (hargs:SV.denL ρ0 args xs) (hM:MemDen w.heap.size M ρ0 mem0 w) (hfr:∀ i,nx0≤i→ρ0 i=none) (hz:nx0=0→M=[]) {R:SV→(Nat→Blk)→Prop}
  (h:∀ a,StDen w.heap.size M ⟨w,ρ0,nx0,fun _=>none,none⟩ ρ0 (initS fn.ntmps args nx0 mem0) a w→c.wpIn (FW none) 0 P (EndQ P fn.results.toList w.heap.size M ⟨w,ρ0,nx0,fun _=>none,none⟩ R) a w) :
  Calls P f ⟨xs⟩ w fun e w'=>∃ v x ρ mem,e=.returned x∧v.den ρ x∧Ext ρ0 ρ∧(∀ i,i<nx0→ρ i=ρ0 i)∧OdB ρ0.od ρ.od w.heap.size∧MemDen w.heap.size M ρ mem w'∧Kept w.heap.size M w w'∧R v mem:=by
 have hlen:=denL_length hargs
 refine (callsIn_wide (n:=0)).1 (callsIn_of_wp_marks (F:=Fence.wide) hf hb trivial (Go.wpIn_mono (h _ ?_) ?_))
 ·refine ⟨Side.none _ _ _ _,?_,fun i x hx=>?_,hfr,hM,Kept.refl _ _ _,Nat.le_refl _,Ext.refl _,hfr,fun _ _=>rfl,rfl,Nat.le_refl _,⟨fun _ _ _ h=>.inl h,fun _ _ h=>.inl h,rfl⟩,hz⟩
  ·simp [initS,hlen]
  ·simp only [initS]
   cases ha:args[i]? with
   | none=>trivial
   | some v =>
    obtain ⟨y,hy,hd⟩:=denL_get hargs ha
    have hi:i<xs.length:=(List.getElem?_eq_some_iff.1 hy).1
    simp only [Array.getElem?_append] at hx
    rw [if_pos (by simpa using hi)] at hx
    have hxy:x=y:=by
     have:xs[i]? = some x:=by simpa using hx
     rw [this] at hy;cases hy;rfl
    rw [hxy]
    exact slotDen_top hd
 ·rintro e a' w' ⟨x0,ρ',s',rfl,hs,hk⟩
  have key:∀ (ds:List Deferred) (a':Act) (w':World) vs ns,a'.defers=ds→StDen w.heap.size M ⟨w,ρ0,nx0,fun _=>none,none⟩ ρ' s' a' w'→resL P s' fn.results.toList=some (vs,ns)→needs ns (R (resV vs) s'.mem) →
    LeavesInM Fence.wide 0 P fn a'.tmps (fun e w'=>∃ v x ρ mem,e=.returned x∧v.den ρ x∧Ext ρ0 ρ∧(∀ i,i<nx0→ρ i=ρ0 i)∧OdB ρ0.od ρ.od w.heap.size∧MemDen w.heap.size M ρ mem w'∧Kept w.heap.size M w w'∧R v mem) ds .returning w':=by
   intro ds
   induction ds with
   | nil =>
    intro a' w' vs ns _ hs hr hn
    rw [needs_iff] at hn
    obtain ⟨x,hx,hd⟩:=results_run hs fn vs ns hr hn.1
    exact ⟨x,hx,_,x,ρ',_,rfl,hd,hs.ext,hs.argl,hs.odb,hs.mem,hs.kept,hn.2⟩
   | cons d ds ih =>
    intro a' w' vs ns hd hs hr hn
    obtain ⟨D,e,ht,hs'⟩:=hs.unmark (P:=P) hd
    exact ⟨by simp,.inl ⟨D,_,by rw [e],ht,ih { a' with defers:=ds } _ vs ns rfl hs' hr hn⟩⟩
  cases x0 with
  | exit id=>exact hk.elim
  | normal =>
   simp only [retK] at hk
   split at hk
   ·exact key _ _ _ _ _ rfl hs (by assumption) hk
   ·exact hk.elim
  | ret =>
   simp only [retK] at hk
   split at hk
   ·exact key _ _ _ _ _ rfl hs (by assumption) hk
   ·exact hk.elim
theorem calls_wout {f:FuncId} {fn:Func} {c:Code} (hf:P.funcs[f]? = some fn) (hb:fn.body=some c)
  {M:List Nat} {ρ0:Env} {na:Nat} {mem0:Nat→Blk} {args:List SV} {xs:List Value} {w:World} {muts grs:List Nat} {rh:RH} (hargs:SV.denL ρ0 args xs) (hM:MemDen w.heap.size M ρ0 mem0 w) (hfr:∀ i,na≤i→ρ0 i=none) (hMb:∀ b∈M,∃ q∈muts,∃ m,ρ0 q=some m∧m.blk=b) (hmn:∀ q∈muts,q<na) {R:SV→List Blk→List Blk→Prop}
  (h:∀ a,StDen w.heap.size M ⟨w,ρ0,na,fun _=>none,none⟩ ρ0 (initS fn.ntmps args na mem0) a w→c.wpIn (FW none) 0 P (EndQ P fn.results.toList w.heap.size M ⟨w,ρ0,na,fun _=>none,none⟩ (outK na muts grs rh R)) a w) :
  Calls P f ⟨xs⟩ w fun e w'=>∃ v U N x ρ',e=.returned x∧R v U N∧OpPost ρ0 ρ' na { v:=v,news:=N,upds:=muts.zip U } w w' x:=by
 refine (calls_wp hf hb hargs hM hfr (fun h0=>by
  cases M with
  | nil=>rfl
  | cons b l =>
   obtain ⟨q,hq,_⟩:=hMb b (by simp)
   have:=hmn q hq
   omega) h).mono ?_
 rintro e w' ⟨v,x,ρ,mem,rfl,hd,he,hlow,hodb,hm,hk,hR⟩
 unfold outK at hR
 split at hR
 ·rename_i v' U N ns hout
  rw [needs_iff] at hR
  obtain ⟨ρ',hp⟩:=out_post hM hfr hMb hmn hd he hlow hodb hm hk hout hR.1 []
  exact ⟨v',U,N,x,ρ',rfl,hR.2,hp⟩
 ·exact hR.elim
end runs
@[match_pattern] abbrev shB:List Kd:=[.int .i64,.int .i64]
@[match_pattern] abbrev shT:List Kd:=[.str,.int .i64,.int .i64,.mi [.int .i64,.int .i64,.bool],.mb,.mb,.int .i64,.bool,.m1]
@[match_pattern] abbrev shShop:List Kd:=[.sl [.str,.int .i64,.int .i64],.sl [.str,.int .i64,.int .i64,.int .i64],.sl [.pt shT],.int .i64]
def datB (L:List (Nat × Nat)):Dat:={ noDat with ii:=fun q c=>cond (decide (c=0)) (((L[q]?).getD (0,0)).1:Int) (((L[q]?).getD (0,0)).2:Int) }
end Go.Sy
namespace Go.Sy
set_option linter.unusedVariables false
set_option linter.unusedSimpArgs false
open Go.RowKit Go.ChangeMaps
set_option linter.unusedSectionVars false
set_option linter.unusedSectionVars false
attribute [local instance 2000] Go.Sy.G0
inductive Tg where
 | shop | row
 | th (i:Nat) | ck (i:Nat) | hs (i:Nat) | hd (i:Nat) | bd (i:Nat)
 | cb (i r:Nat)
structure Th where
 ck:Nat→Option (Int × Int × Bool)
 has:Nat→Nat→Bool
 had:Nat→Nat→Bool
 pr:Nat
 st:Bool
 bad:Nat→Bool
structure Stt where
 day:Int
 th:Nat→Th
structure Kst where
 n:Nat
 di:Dat
 r:Nat
 dr:Dat
def Kst.dom (K:Kst) (i q:Nat):Bool:=decide (q<K.r)&&decide (K.dr.ii q 1=K.di.ii i 1)
def Tg.ok (K:Kst):Tg→Prop
 | .shop=>True
 | .row=>0<K.n
 | .th i | .ck i | .hs i | .hd i | .bd i=>i<K.n
 | .cb i q=>i<K.n∧K.dom i q=true
def nB:Nat:=300
structure StOk (K:Kst) (st:Stt):Prop where
 ck:∀ i,i<K.n→∀ q,((st.th i).ck q).isSome=K.dom i q
 has:∀ i,i<K.n→∀ a b,(st.th i).has a b=true→a<K.n∧b<nB
 had:∀ i,i<K.n→∀ a b,(st.th i).had a b=true→a<K.n∧b<nB
structure Tys where
 shop:TypeId
 row:TypeId
 th:TypeId
 cb:TypeId
structure Lay where
 T:Tys
 at_:Tg→Nat
 xI:Value
 xR:Value
def thV (L:Lay) (K:Kst) (st:Stt) (i:Nat):Array Value :=
 #[.string (K.di.ss i 0),.int .i64 (K.di.ii i 1),.int .i64 (K.di.ii i 2),.map (some (L.at_ (.ck i))),.map (some (L.at_ (.hs i))),.map (some (L.at_ (.hd i))),.int .i64 ((st.th i).pr:Int),.bool (st.th i).st,.map (some (L.at_ (.bd i)))]
def cbV (c:Int × Int × Bool):Array Value:=#[.int .i64 c.1,.int .i64 c.2.1,.bool c.2.2]
def mapB (b:Nat→Nat→Bool) (f:Int × Int→Option Value):Prop:=∀ p:Int × Int,f p=if (decide (0≤p.1)&&decide (0≤p.2)&&b p.1.toNat p.2.toNat)=true then some (.bool true) else none
def map1 (b:Nat→Bool) (f:Int→Option Value):Prop:=∀ r:Int,f r=if (decide (0≤r)&&b r.toNat)=true then some (.bool true) else none
def mapC (L:Lay) (K:Kst) (i:Nat) (f:Int→Option Value):Prop:=∀ r:Int,f r=if (decide (0≤r)&&K.dom i r.toNat)=true then some (.pointer (some ⟨L.at_ (.cb i r.toNat),0,none⟩)) else none
def Has (L:Lay) (K:Kst) (st:Stt):Tg→Obj→Prop
 | .shop,o=>∃ A cap,o=.cells #[L.xI,L.xR,.slice A K.n cap,.int .i64 st.day] L.T.shop (0,0)∧NC A K.n cap∧(0<K.n→A=some ⟨L.at_ .row,0,none⟩)
 | .row,o=>∃ c,o=.cells c L.T.row (0,0)∧∀ i,i<K.n→c[i]? = some (.pointer (some ⟨L.at_ (.th i),0,none⟩))
 | .th i,o=>o=.cells (thV L K st i) L.T.th (0,0)
 | .ck i,o=>∃ es cl f,o=.map es cl∧MapObj (Value.int .i64) f es cl∧mapC L K i f
 | .hs i,o=>∃ es cl f,o=.map es cl∧MapObj pairV f es cl∧mapB (st.th i).has f
 | .hd i,o=>∃ es cl f,o=.map es cl∧MapObj pairV f es cl∧mapB (st.th i).had f
 | .bd i,o=>∃ es cl f,o=.map es cl∧MapObj (Value.int .i64) f es cl∧map1 (st.th i).bad f
 | .cb i q,o=>∀ c,(st.th i).ck q=some c→o=.cells (cbV c) L.T.cb (0,0)
structure ShopAt (L:Lay) (K:Kst) (st:Stt) (w:World):Prop where
 inj:∀ s t,Tg.ok K s→Tg.ok K t→L.at_ s=L.at_ t→s=t
 ok:StOk K st
 at_:∀ t,Tg.ok K t→∃ o,w.heap[L.at_ t]? = some o∧Has L K st t o
theorem ShopAt.set {L:Lay} {K:Kst} {st st':Stt} {w w':World} (h:ShopAt L K st w) (t:Tg) (ht:Tg.ok K t) (hok:StOk K st') (keep:∀ b,b≠L.at_ t→∀ o,w.heap[b]? = some o→w'.heap[b]? = some o)
  (hn:∃ o,w'.heap[L.at_ t]? = some o∧Has L K st' t o) (ho:∀ s o,s≠t→Has L K st s o→Has L K st' s o):ShopAt L K st' w':=by
 refine ⟨h.inj,hok,fun s hs=>?_⟩
 by_cases e:s=t
 ·subst e;exact hn
 ·obtain ⟨o,h1,h2⟩:=h.at_ s hs
  exact ⟨o,keep _ (fun ee=>e (h.inj s t hs ht ee)) o h1,ho s o e h2⟩
theorem ShopAt.keep {L:Lay} {K:Kst} {st:Stt} {w w':World} (h:ShopAt L K st w) (keep:∀ (b:Nat) (o:Obj),w.heap[b]? = some o→w'.heap[b]? = some o):ShopAt L K st w' :=
 ⟨h.inj,h.ok,fun s hs=>let ⟨o,h1,h2⟩:=h.at_ s hs;⟨o,keep _ o h1,h2⟩⟩
def cbD (c:Int × Int × Bool):Dat:={ noDat with ii:=fun _ k=>match k with | 0=>c.1 | _=>c.2.1,bb:=fun _ _=>c.2.2 }
def thD (K:Kst) (st:Stt) (i:Nat):Dat :=
 {ii:=fun _ k=>match k with | 1=>K.di.ii i 1 | 2=>K.di.ii i 2 | _=>((st.th i).pr:Int)
  ss:=fun _ _=>K.di.ss i 0
  bb:=fun _ _=>(st.th i).st
  sn:=fun _ _=>0
  sd:=fun _ k=>match k with
   | 3=>some { noDat with bb:=fun q _=>((st.th i).ck q).isSome,sd:=fun q _=>some (cbD (((st.th i).ck q).getD (0,0,false))) }
   | 4=>some { noDat with bb:=(st.th i).has,sn:=fun _ k=>match k with | 0=>K.n | _=>nB }
   | 5=>some { noDat with bb:=(st.th i).had,sn:=fun _ k=>match k with | 0=>K.n | _=>nB }
   | _=>some { noDat with bb:=fun q _=>(st.th i).bad q } }
def shopD (K:Kst) (st:Stt):Dat :=
 {ii:=fun _ _=>st.day
  ss:=fun _ _=>.empty
  bb:=fun _ _=>false
  sn:=fun _ k=>match k with | 0=>K.n | 1=>K.r | _=>K.n
  sd:=fun _ k=>match k with
   | 0=>some K.di
   | 1=>some K.dr
   | _=>some { noDat with sn:=fun q _=>q,sd:=fun q _=>some (thD K st q) } }
abbrev shZ:List Kd:=[.sl [.str,.int .i64,.int .i64],.sl [.str,.int .i64,.int .i64,.int .i64],.sl [.pz shT],.int .i64]
structure Seen (L:Lay) (K:Kst) (w:World) (od:Od):Prop where
 c:∀ t,Tg.ok K t→∀ o v,w.cell? ⟨L.at_ t,o,none⟩=some v→od (L.at_ t) o=some v
 m:∀ t,Tg.ok K t→∀ es cl,w.heap[L.at_ t]? = some (.map es cl)→od.m (L.at_ t)=some (es,cl)
theorem cell_of {w:World} {b o:Nat} {c:Array Value} {t:TypeId} {fr:Nat × Nat} {v:Value} (h:w.heap[b]? = some (.cells c t fr)) (hv:c[o]? = some v):w.cell? ⟨b,o,none⟩=some v:=by
 simp [World.cell?,h,hv]
theorem th_den {L:Lay} {K:Kst} {st:Stt} {w:World} (h:ShopAt L K st w) {od:Od} (hs:Seen L K w od) {i:Nat} (hi:i<K.n):Kd.denL od shT (thD K st i) 0 0 (L.at_ (.th i)) 0:=by
 obtain ⟨o,h1,h2⟩:=h.at_ (.th i) hi
 have h2:o=.cells (thV L K st i) L.T.th (0,0):=h2
 subst h2
 have cell:∀ k v,(thV L K st i)[k]? = some v→od (L.at_ (.th i)) (0+k)=some v:=fun k v hv=>by
  rw [Nat.zero_add]
  exact hs.c (.th i) hi _ _ (cell_of h1 hv)
 refine ⟨⟨_,cell 0 _ rfl,rfl⟩,⟨_,cell 1 _ rfl,rfl⟩,⟨_,cell 2 _ rfl,rfl⟩,⟨_,cell 3 _ rfl,?_⟩,⟨_,cell 4 _ rfl,?_⟩,⟨_,cell 5 _ rfl,?_⟩,⟨_,cell 6 _ rfl,rfl⟩,⟨_,cell 7 _ rfl,rfl⟩,⟨_,cell 8 _ rfl,?_⟩,trivial⟩
 ·obtain ⟨_,g1,es,cl,f,rfl,g2,g3⟩:=h.at_ (.ck i) hi
  refine ⟨_,es,cl,f,rfl,hs.m (.ck i) hi _ _ g1,g2,fun r=>?_,fun r y hy=>?_⟩
  ·rw [g3 r]
   show _=(decide (0≤r)&&((st.th i).ck r.toNat).isSome)
   rw [h.ok.ck i hi]
   split
   ·rename_i hc;rw [hc];rfl
   ·rename_i hc;rw [Bool.not_eq_true] at hc;rw [hc];rfl
  ·rw [g3 r] at hy
   split at hy
   ·rename_i hc
    cases hy
    simp only [Bool.and_eq_true,decide_eq_true_eq] at hc
    refine ⟨_,0,rfl,?_⟩
    obtain ⟨o,c1,c2⟩:=h.at_ (.cb i r.toNat) ⟨hi,hc.2⟩
    have hsm:=h.ok.ck i hi r.toNat
    rw [hc.2] at hsm
    obtain ⟨cc,hcc⟩:=Option.isSome_iff_exists.1 hsm
    have c2:=c2 cc hcc
    subst c2
    have cell:∀ k v,(cbV cc)[k]? = some v→od (L.at_ (.cb i r.toNat)) (0+k)=some v:=fun k v hv=>by
     rw [Nat.zero_add]
     exact hs.c (.cb i r.toNat) ⟨hi,hc.2⟩ _ _ (cell_of c1 hv)
    show Kd.denL od [.int .i64,.int .i64,.bool] (cbD (((st.th i).ck r.toNat).getD (0,0,false))) 0 0 _ 0
    rw [hcc]
    exact ⟨⟨_,cell 0 _ rfl,rfl⟩,⟨_,cell 1 _ rfl,rfl⟩,⟨_,cell 2 _ rfl,rfl⟩,trivial⟩
   ·cases hy
 ·obtain ⟨_,g1,es,cl,f,rfl,g2,g3⟩:=h.at_ (.hs i) hi
  exact ⟨_,es,cl,f,rfl,hs.m (.hs i) hi _ _ g1,g2,g3,fun a b hab=>h.ok.has i hi a b hab⟩
 ·obtain ⟨_,g1,es,cl,f,rfl,g2,g3⟩:=h.at_ (.hd i) hi
  exact ⟨_,es,cl,f,rfl,hs.m (.hd i) hi _ _ g1,g2,g3,fun a b hab=>h.ok.had i hi a b hab⟩
 ·obtain ⟨_,g1,es,cl,f,rfl,g2,g3⟩:=h.at_ (.bd i) hi
  exact ⟨_,es,cl,f,rfl,hs.m (.bd i) hi _ _ g1,g2,g3⟩
def Setup (K:Kst) (xI xR:Value) (od:Od):Prop :=
 (∃ A cap,xI=.slice A K.n cap∧NC A K.n cap∧(0<K.n→∃ b o,A=some ⟨b,o,none⟩∧∀ q,q<K.n→Kd.denL od [.str,.int .i64,.int .i64] K.di q 0 b (o+q * 3))) ∧
 ∃ A cap,xR=.slice A K.r cap∧NC A K.r cap∧(0<K.r→∃ b o,A=some ⟨b,o,none⟩∧∀ q,q<K.r→Kd.denL od [.str,.int .i64,.int .i64,.int .i64] K.dr q 0 b (o+q * 4))
theorem shop_denL {L:Lay} {K:Kst} {st:Stt} {w:World} (h:ShopAt L K st w) {nm:Nat→Option Nm} {od:Od} (hs:Seen L K w od) (hS:Setup K L.xI L.xR od) (hp:∀ i,i<K.n→od.p.f (L.at_ (.th i))=some i) :
  Kd.denL od shZ (shopD K st) 0 0 (L.at_ .shop) 0:=by
 obtain ⟨_,h1,A,cap,rfl,hc,hA⟩:=h.at_ .shop trivial
 have cell:∀ k v,(#[L.xI,L.xR,.slice A K.n cap,.int .i64 st.day]:Array Value)[k]? = some v→od (L.at_ .shop) (0+k)=some v:=fun k v hv=>by
  rw [Nat.zero_add]
  exact hs.c .shop trivial _ _ (cell_of h1 hv)
 obtain ⟨⟨A1,c1,e1,n1,s1⟩,A2,c2,e2,n2,s2⟩:=hS
 refine ⟨⟨_,cell 0 _ rfl,?_⟩,⟨_,cell 1 _ rfl,?_⟩,⟨_,cell 2 _ rfl,?_⟩,⟨_,cell 3 _ rfl,rfl⟩,trivial⟩
 ·exact ⟨A1,c1,e1,n1,s1⟩
 ·exact ⟨A2,c2,e2,n2,s2⟩
 ·refine ⟨A,cap,rfl,hc,fun h0=>⟨_,0,hA h0,fun q hq=>?_⟩⟩
  have hq:q<K.n:=hq
  obtain ⟨_,r1,c,rfl,r2⟩:=h.at_ .row h0
  refine ⟨⟨_,hs.c .row h0 _ _ (cell_of r1 (o:=0+q * 1+0) (by simpa using r2 q hq)),?_⟩,trivial⟩
  exact .inl ⟨rfl,_,rfl,hp q hq,th_den h hs hq⟩
theorem shop_den {L:Lay} {K:Kst} {st:Stt} {w:World} (h:ShopAt L K st w) {nm:Nat→Option Nm} {od:Od} (hs:Seen L K w od) (hS:Setup K L.xI L.xR od) (hp:∀ i,i<K.n→od.p.f (L.at_ (.th i))=some i) :
  SV.den ⟨nm,od,gl0 _⟩ (.rp shZ (shopD K st) 0 0) (.pointer (some ⟨L.at_ .shop,0,none⟩)):=⟨_,0,rfl,shop_denL (nm:=nm) h hs hS hp⟩
def idsOf (L:Lay) (K:Kst) (inj:∀ s t,Tg.ok K s→Tg.ok K t→L.at_ s=L.at_ t→s=t):Ids where
 f b:=if L.at_ .shop=b then some K.n else (List.range K.n).find? fun i=>decide (L.at_ (.th i)=b)
 inj b b' i h h':=by
  split at h
  ·rename_i e
   cases h
   split at h'
   ·rename_i e';rw [← e,← e']
   ·have:=List.mem_range.1 (List.mem_of_find?_eq_some h')
    omega
  ·split at h'
   ·cases h'
    have:=List.mem_range.1 (List.mem_of_find?_eq_some h)
    omega
   ·have h1:=List.find?_some h
    have h2:=List.find?_some h'
    simp only [decide_eq_true_eq] at h1 h2
    rw [← h1,← h2]
theorem idsOf_th {L:Lay} {K:Kst} {inj:∀ s t,Tg.ok K s→Tg.ok K t→L.at_ s=L.at_ t→s=t} {i:Nat} (hi:i<K.n):(idsOf L K inj).f (L.at_ (.th i))=some i:=by
 have hne:¬ L.at_ .shop=L.at_ (.th i):=fun e=>by cases inj .shop (.th i) trivial hi e
 show (if L.at_ .shop=L.at_ (.th i) then some K.n else _)=_
 rw [if_neg hne]
 cases h:(List.range K.n).find? (fun j=>decide (L.at_ (.th j)=L.at_ (.th i))) with
 | none =>
  have:=List.find?_eq_none.1 h i (List.mem_range.2 hi)
  simp at this
 | some j =>
  have hj:=List.mem_range.1 (List.mem_of_find?_eq_some h)
  have:=List.find?_some h
  simp only [decide_eq_true_eq] at this
  have e:=inj (.th j) (.th i) hj hi this
  cases e;rfl
theorem idsOf_shop {L:Lay} {K:Kst} {inj:∀ s t,Tg.ok K s→Tg.ok K t→L.at_ s=L.at_ t→s=t}:(idsOf L K inj).f (L.at_ .shop)=some K.n:=if_pos rfl
theorem idsOf_some {L:Lay} {K:Kst} {inj:∀ s t,Tg.ok K s→Tg.ok K t→L.at_ s=L.at_ t→s=t} {b i:Nat} (h:(idsOf L K inj).f b=some i):(i<K.n∧L.at_ (.th i)=b)∨(i=K.n∧L.at_ .shop=b):=by
 have h:(if L.at_ .shop=b then some K.n else (List.range K.n).find? fun i=>decide (L.at_ (.th i)=b))=some i:=h
 split at h
 ·cases h;exact .inr ⟨rfl,by assumption⟩
 ·exact .inl ⟨List.mem_range.1 (List.mem_of_find?_eq_some h),by simpa using List.find?_some h⟩
def sealW (w:World) (p:Ids):Od where
 c b o:=w.cell? ⟨b,o,none⟩
 m b:=match w.heap[b]? with
  | some (.map es cl)=>some (es,cl)
  | _=>none
 p:=p
theorem ShopAt.sealOk {L:Lay} {K:Kst} {st:Stt} {w:World} (h:ShopAt L K st w):SealOk (sealW w (idsOf L K h.inj)) w:=by
 refine ⟨fun b o v hv=>hv,fun b v hv=>?_,fun b i hp=>?_⟩
 ·unfold sealW at hv
  simp only at hv
  split at hv
  ·cases hv;assumption
  ·cases hv
 ·rcases idsOf_some (inj:=h.inj) hp with ⟨hi,e⟩ | ⟨hi,e⟩
  ·obtain ⟨o,h1,h2⟩:=h.at_ (.th i) hi
   have h2:o=.cells (thV L K st i) L.T.th (0,0):=h2
   subst h2
   rw [e] at h1
   exact ⟨⟨.string (K.di.ss i 0),cell_of h1 rfl⟩,_,_,h1⟩
  ·obtain ⟨_,h1,A,cap,rfl,_⟩:=h.at_ .shop trivial
   rw [e] at h1
   exact ⟨⟨L.xI,cell_of h1 rfl⟩,_,_,h1⟩
theorem ShopAt.seen {L:Lay} {K:Kst} {st:Stt} {w:World} (h:ShopAt L K st w):Seen L K w (sealW w (idsOf L K h.inj)) :=
 ⟨fun t _ o v hv=>hv,fun t _ es cl hm=>by simp [sealW,hm]⟩
theorem ShopAt.mem {L:Lay} {K:Kst} {st:Stt} {w:World} (h:ShopAt L K st w) (B:Nat):MemDen B [] ⟨fun _=>none,sealW w (idsOf L K h.inj),gl0 _⟩ (memOf []) w :=
 ⟨fun i hi=>by simp [memOf,Blk.isUnk] at hi,fun i j m m' _ hi=>by simp [memOf,Blk.isUnk] at hi,h.sealOk,fun i m hi=>by simp [memOf,Blk.isUnk] at hi,pv0 _⟩
end Go.Sy
namespace Go.Sy
set_option linter.unusedVariables false
set_option linter.unusedSimpArgs false
open Go.RowKit Go.ChangeMaps
set_option linter.unusedSectionVars false
set_option linter.unusedSectionVars false
attribute [local instance 2000] Go.Sy.G0
section runs
variable {P:Program} {rd:Option Nat} {n:Nat}
theorem StDen.start {M:List Nat} {nt nx:Nat} {Lh:List Nat} {vs:List SV} {bs:List Blk} {ρ:Env} {a:Act} {w:World} {df:Option (List Deferred)} (hsz:a.tmps.size=nt) (hdf:a.defers=[]) (hdd:∀ d,df=some d→d=[]) (hm:MemDen w.heap.size M ρ (memOf bs) w)
  (hfr:∀ i,nx≤i→ρ i=none) (hz:nx=0→M=[]) (hv:∀ (p t:Nat) (v:SV),Lh[p]? = some t→vs[p]? = some v→v.den ρ (a.eval (.tmp t))) (hg:∀ v∈vs,∀ t pol u,v≠.gd t pol u) :
  StDen w.heap.size M ⟨w,ρ,nx,fun _=>none,df⟩ ρ (mkSt nx nt Lh vs nx bs) a w:=by
 refine ⟨⟨fun _ _ h=>(by cases h),fun d hd=>?_,?_,fun d h=>?_⟩,hsz,fun i x hx=>?_,hfr,hm,Kept.refl _ _ _,Nat.le_refl _,Ext.refl _,hfr,fun _ _=>rfl,rfl,Nat.le_refl _,⟨fun _ _ _ h=>.inl h,fun _ _ h=>.inl h,rfl⟩,hz⟩
 ·rw [hdf] at hd;simp at hd
 ·rw [hdf];exact List.nodup_nil
 ·rw [hdf,hdd d h]
 ·show slotDen ρ a (look Lh vs i) x
  rcases look_get Lh vs i with h | ⟨p,h1,h2⟩
  ·rw [h];trivial
  ·have e:a.eval (.tmp i)=x:=by simp [Act.eval,Array.getD_eq_getD_getElem?,hx]
   have:=hv p i _ h1 h2
   rw [e] at this
   exact slot_of (hg _ (List.mem_of_getElem? h2)) this
def retV:List Value→Value
 | [x]=>x
 | xs=>.tuple ⟨xs⟩
theorem calls_raw {f:FuncId} {fn:Func} {c:Code} (hf:P.funcs[f]? = some fn) (hb:fn.body=some c) (ts:List Nat) (hr:fn.results.toList=ts.map .tmp) {xs:List Value} {w:World} (hle:xs.length≤fn.ntmps) {Q:List Value→World→Prop}
  (h:∀ a:Act,a.tmps.size=fn.ntmps→a.defers=[]→(∀ i x,xs[i]? = some x→a.eval (.tmp i)=x)→c.wpIn (FW none) 0 P (fun e a' w'=>(e=.ret∨e=.normal)∧a'.defers=[]∧Q (ts.map fun t=>a'.eval (.tmp t)) w') a w) :
  Calls P f ⟨xs⟩ w fun e w'=>∃ ys,e=.returned (retV ys)∧Q ys w':=by
 refine (callsIn_wide (n:=0)).1 (callsIn_of_wp_marks (F:=Fence.wide) hf hb trivial (Go.wpIn_mono (h _ ?_ rfl ?_) ?_))
 ·simp;omega
 ·intro i x hx
  have hi:i<xs.length:=(List.getElem?_eq_some_iff.1 hx).1
  simp only [Act.eval,Array.getD_eq_getD_getElem?,Array.getElem?_append]
  rw [if_pos (by simpa using hi)]
  simp [hx]
 ·rintro e a' w' ⟨he,hd,hq⟩
  have key:LeavesInM Fence.wide 0 P fn a'.tmps (fun e w'=>∃ ys,e=.returned (retV ys)∧Q ys w') a'.defers .returning w':=by
   rw [hd]
   refine ⟨_,?_,_,rfl,hq⟩
   have hl:∀ l:List Nat,((l.map ResultVar.tmp).mapM (resVal a'.tmps)).run P w'=.ok (l.map fun t=>a'.eval (.tmp t)) w':=by
    intro l
    induction l with
    | nil=>simp
    | cons t l ih =>
     simp only [List.map_cons,List.mapM_cons,resVal,Sem.run_bind,Sem.run_pure,Result.andThen_ok,ih]
     rfl
   have hm:(fn.results.mapM (resVal a'.tmps)).run P w'=.ok (ts.map fun t=>a'.eval (.tmp t)).toArray w':=by
    rw [← Array.toArray_toList (xs:=fn.results),List.mapM_toArray,Sem.run_map,hr,hl]
    rfl
   rw [results_eq,Sem.run_bind,hm]
   generalize (ts.map fun t=>a'.eval (.tmp t))=ys
   match ys with
   | []=>rfl
   | [x]=>rfl
   | x :: y :: zs=>rfl
  rcases he with rfl | rfl
  ·exact key
  ·exact key
theorem wpL_call {ops:Array Oper} {o:Oper} {rest:List Oper} {a:Act} {w:World} {Q:Exit→Act→World→Prop} {f:Nat} {fn:Func} {xs:List Value} (hg:o.guard=none) (hfun:P.funcs[f]? = some fn) (hbody:fn.body.isSome=true) (hname:(fn.name == "runtime.NumGoroutine")=false)
  (hrun:(execOp a.eval o).run P w=.ok (.enter f ⟨xs⟩) w) (hd:∀ c,o.op≠.defer c) {R:Value→World→Prop} (hC:Calls P f ⟨xs⟩ w fun e w'=>∃ x,e=.returned x∧R x w')
  (hk:∀ x w',R x w'→wpListIn (FW rd) n P ops Q rest (a.put o.dst x) w'):wpListIn (FW rd) n P ops Q (o :: rest) a w:=by
 refine wpList_step (by
  rw [if_pos (by simp [Region.wanted,hg])]
  refine ⟨fun _ _=>trivial,?_⟩
  rw [show (FW rd).round=rd from rfl,semAt_any rd _ _ hd,hrun]
  refine ⟨fun h=>(by cases h),callsIn_fw (hC.mono ?_)⟩
  rintro e w' ⟨x,rfl,hR⟩
  exact hk _ _ hR)
theorem xDrawL_raw {Γ:Gam} (hΓ:GamOk P Γ) (hmix:P.follows .mixedOrders=true) {B:Nat} {M:List Nat} {w0:Base} {init:Array Oper} {o:Oper} {id:Nat} {Q:Exit→Act→World→Prop} {k:SState→Prop}
  (hb1:tableOk (masks (init.push o).toList []) 0 (init.push o).toList=true) (hb2:domB (masks (init.push o).toList []) init.size=true) (hd:o.dst=none)
  (hk:∀ s ρ a w,StDen B M w0 ρ s a w→k s→wpOpIn (FW rd) n P (init.push o) Q init.size (Q .normal) a w)
  {s:SState} {ρ:Env} {a:Act} {w:World} (h:StDen B M w0 ρ s a w) (hx:xDraw P Γ init s k):(Code.region id (init.push o) true).wpIn (FW rd) n P Q a w:=by
 refine wpIn_region_any hmix ?_
 have key:=xDraw_any (rd:=rd) (n:=n) (Q:=withEnd Q fun a w=>wpOpIn (FW rd) n P (init.push o) Q init.size (Q .normal) a w) hΓ (fun s ρ a w hs hk'=>hk s ρ a w hs hk') h hx
 have:=anyIn_last hb1 hb2 hd init.size (Array.replicate init.size false) a _ (by simp) (fun j p hj=>by
  exfalso
  simp only [Array.getD_eq_getD_getElem?,Array.getElem?_replicate] at hj
  split at hj <;> cases hj) key
 have e:(Array.replicate init.size false).push false=Array.replicate (init.push o).size false:=by rw [Array.size_push];exact Array.replicate_succ.symm
 rw [← e]
 simpa using this
theorem wpOp_skip {init:Array Oper} {o:Oper} {a:Act} {w w':World} {Q:Exit→Act→World→Prop} {K:Act→World→Prop} (hg:o.guard=none) (h:(execOp a.eval o).run P w=.ok .skip w') (hk:K (a.put o.dst undef) w') (hd:∀ c,o.op≠.defer c:=by intro c e;cases e):wpOpIn (FW rd) n P (init.push o) Q init.size K a w:=by
 unfold wpOpIn
 rw [Array.getElem?_push_size]
 simp only
 rw [if_pos (by simp [Region.wanted,hg])]
 exact wp_of_skip h hk hd
theorem denL_cons {ρ:Env} {v:SV} {l:List SV} {xs:List Value} (h:SV.denL ρ (v :: l) xs):∃ x ys,xs=x :: ys∧v.den ρ x∧SV.denL ρ l ys:=by
 cases xs with
 | nil=>exact h.elim
 | cons x ys=>exact ⟨x,ys,rfl,h.1,h.2⟩
theorem denL_nil {ρ:Env} {xs:List Value} (h:SV.denL ρ [] xs):xs=[]:=by
 cases xs with
 | nil=>rfl
 | cons x ys=>exact h.elim
def preC:List Code→Code
 | []=>.skip
 | [a]=>a
 | a :: l=>.seq a (preC l)
def preR:List Code→Code→Code
 | [],c=>c
 | a :: l,c=>.seq a (preR l c)
theorem exec_seq {L:Tab} {Λ:Lam} {fuel:Nat} {x y:Code} {s:SState} {k:Kont}:exec P L Λ fuel (.seq x y) s k=exec P L Λ fuel x s (fun e s'=>match e with
  | .normal=>exec P L Λ fuel y s' k
  | .exit id=>k (.exit id) s'
  | .ret=>k .ret s'):=by kernel_rfl
theorem pre_wp {L:Tab} (hL:TabOk P L) (hmix:P.follows .mixedOrders=true) {fuel:Nat} {k:Kont} {B:Nat} {M:List Nat} {w0:Base} {Q:Exit→Act→World→Prop} {c:Code}
  (hk:∀ e s' ρ' a' w',StDen B M w0 ρ' s' a' w'→k e s'→match e with
   | .normal=>c.wpIn (FW rd) n P Q a' w'
   | e=>Q e.toExit a' w') :
  ∀ (l:List Code) (hl:l≠[]) (s:SState) (ρ:Env) (a:Act) (w:World),(∀ x∈l,RdOk rd w0.df x)→StDen B M w0 ρ s a w→exec P L (fun _=>none) fuel (preC l) s k→(preR l c).wpIn (FW rd) n P Q a w
 | [],hl,_,_,_,_,_,_,_=>absurd rfl hl
 | [x],_,s,ρ,a,w,hr,h,y=>by
  refine wpIn_seq (exec_wp hL hmix x (fun id b g _ hg=>by cases hg) rd n B M w0 s _ ρ a w _ (hr x (by simp)) h y fun e s' ρ' a' w' hs hz=>?_)
  have:=hk e s' ρ' a' w' hs hz
  cases e <;> exact this
 | x :: x2 :: l,_,s,ρ,a,w,hr,h,y=>by
  have y:exec P L (fun _=>none) fuel (.seq x (preC (x2 :: l))) s k:=y
  rw [exec_seq] at y
  refine wpIn_seq (exec_wp hL hmix x (fun id b g _ hg=>by cases hg) rd n B M w0 s _ ρ a w _ (hr x (by simp)) h y fun e s' ρ' a' w' hs hz=>?_)
  cases e with
  | normal=>exact pre_wp hL hmix hk (x2 :: l) (by simp) s' ρ' a' w' (fun q hq=>hr q (List.mem_cons_of_mem _ hq)) hs hz
  | exit j=>exact hk (.exit j) s' ρ' a' w' hs hz
  | ret=>exact hk .ret s' ρ' a' w' hs hz
theorem pre_cans {L:Tab} (hL:TabOk P L) (hmix:P.follows .mixedOrders=true) {fuel:Nat} {na nt nx:Nat} {Lh Le:List Nat} {gl:List GL} {R:XE→List SV→List Blk→Prop} (l:List Code) (hl:l≠[]) {s:SState}
  (y:exec P L (fun _=>none) fuel (preC l) s (canonK na nt Lh Le nx gl R)) {B:Nat} {M:List Nat} {w0:Base} {ρ:Env} {a:Act} {w:World} {Q:Exit→Act→World→Prop} {c:Code} (hr:∀ x∈l,RdOk rd w0.df x) (h:StDen B M w0 ρ s a w)
  (hn:∀ vs bs ρ' a' w',R .normal vs bs→StDen B M w0 ρ' (mkSt na nt Lh vs nx bs) a' w'→c.wpIn (FW rd) n P Q a' w')
  (he:∀ e vs bs ρ' a' w',e≠.normal→R e vs bs→StDen B M w0 ρ' (mkSt na nt Le vs nx bs) a' w'→Q e.toExit a' w'):(preR l c).wpIn (FW rd) n P Q a w:=by
 refine pre_wp hL hmix (fun e s' ρ' a' w' hs hz=>?_) l hl s ρ a w hr h y
 cases e with
 | normal =>
  have hz:cz na nt Lh nx gl s' (R .normal):=hz
  obtain ⟨r,hr,e1⟩:=cz_get hz
  obtain ⟨ρ2,h2⟩:=cz_ok hs hr
  exact hn _ _ ρ2 a' w' e1 h2
 | exit j =>
  have hz:cz na nt Le nx gl s' (R (.exit j)):=hz
  obtain ⟨r,hr,e1⟩:=cz_get hz
  obtain ⟨ρ2,h2⟩:=cz_ok hs hr
  exact he (.exit j) _ _ ρ2 a' w' (by simp) e1 h2
 | ret =>
  have hz:cz na nt Le nx gl s' (R .ret):=hz
  obtain ⟨r,hr,e1⟩:=cz_get hz
  obtain ⟨ρ2,h2⟩:=cz_ok hs hr
  exact he .ret _ _ ρ2 a' w' (by simp) e1 h2
def noOd:Od:=⟨fun _ _=>none,fun _=>none,noIds⟩
theorem noOd_ok (w:World):SealOk noOd w:=⟨fun _ _ _ h=>(by cases h),fun _ _ h=>(by cases h),fun _ _ h=>(by cases h)⟩
def nm1 (b:Nat) (od:Od):Env:=⟨fun j=>if j=0 then some ⟨b,0,0⟩ else none,od,gl0 _⟩
theorem mem1 {w:World} {b:Nat} {c:Array Value} {e:TypeId} {svs:List SV} {M:List Nat} {B:Nat} {od:Od} (hb:w.heap[b]? = some (.cells c e (0,0))) (hd:SV.denL (nm1 b od) svs c.toList) (hM:b∈M) (hs:SealOk od w) (hf:∀ o,od b o=none) :
  MemDen B M (nm1 b od) (memOf [.cells e svs]) w:=by
 have key:∀ i m,(nm1 b od) i=some m→i=0∧m=⟨b,0,0⟩:=fun i m h=>by
  have h:(if i=0 then some (⟨b,0,0⟩:Nm) else none)=some m:=h
  split at h <;> cases h
  exact ⟨by assumption,rfl⟩
 refine ⟨fun i hi=>⟨fun m hm=>?_,fun hn=>?_⟩,fun i j m m' hij _ _ hm hm'=>?_,hs,fun i m _ hm o=>?_,pv0 _⟩
 ·obtain ⟨rfl,rfl⟩:=key i m hm
  exact ⟨(Array.getElem?_eq_some_iff.1 hb).1,⟨rfl,c,hb,hd⟩,.inr hM⟩
 ·cases i with
  | zero=>cases hn
  | succ i=>simp [memOf,Blk.isUnk] at hi
 ·obtain ⟨rfl,_⟩:=key i m hm
  obtain ⟨rfl,_⟩:=key j m' hm'
  exact absurd rfl hij
 ·obtain ⟨_,rfl⟩:=key i m hm
  exact hf o
theorem StDen.cells1 {M:List Nat} {w0 w:World} {b:Nat} {od:Od} {ρ:Env} {nt:Nat} {Lh:List Nat} {vs:List SV} {e:TypeId} {svs:List SV} {a:Act} {ob:Nat→Option Obj} {df:Option (List Deferred)} {B:Nat} (h:StDen B M ⟨w0,nm1 b od,1,ob,df⟩ ρ (mkSt 1 nt Lh vs 1 [.cells e svs]) a w) :
  ∃ c,w.heap[b]? = some (.cells c e (0,0))∧SV.denL ρ svs c.toList:=by
 have e0:ρ 0=some ⟨b,0,0⟩:=h.argl 0 (Nat.lt_succ_self 0)
 obtain ⟨_,⟨_,c,hc,hd⟩,_⟩:=h.mem.get (i:=0) rfl e0
 exact ⟨c,hc,hd⟩
def upT (st:Stt) (i:Nat) (t:Th):Stt:={ st with th:=fun j=>if j=i then t else st.th j }
theorem upT_same {st:Stt} {i:Nat} {t:Th}:(upT st i t).th i=t:=if_pos rfl
theorem upT_ne {st:Stt} {i j:Nat} {t:Th} (h:j≠i):(upT st i t).th j=st.th j:=if_neg h
theorem upT_upT {st:Stt} {i:Nat} {t t':Th}:upT (upT st i t) i t'=upT st i t':=by
 simp only [upT,Stt.mk.injEq,true_and]
 funext j
 split <;> rfl
theorem Has.up {L:Lay} {K:Kst} {st:Stt} {i:Nat} {t:Th} {s:Tg} {o:Obj} (h:Has L K st s o) (hth:s=.th i→t.pr=(st.th i).pr∧t.st=(st.th i).st) (hhs:s=.hs i→t.has=(st.th i).has) (hhd:s=.hd i→t.had=(st.th i).had)
  (hbd:s=.bd i→t.bad=(st.th i).bad) (hcb:∀ q,s=.cb i q→t.ck q=(st.th i).ck q):Has L K (upT st i t) s o:=by
 cases s with
 | shop=>exact h
 | row=>exact h
 | ck j=>exact h
 | th j =>
  by_cases e:j=i
  ·subst e
   obtain ⟨h1,h2⟩:=hth rfl
   have h:o=.cells (thV L K st j) L.T.th (0,0):=h
   show o=.cells (thV L K (upT st j t) j) L.T.th (0,0)
   rw [h];simp only [thV,upT_same,h1,h2]
  ·have h:o=.cells (thV L K st j) L.T.th (0,0):=h
   show o=.cells (thV L K (upT st i t) j) L.T.th (0,0)
   rw [h];simp only [thV,upT_ne e]
 | hs j =>
  obtain ⟨es,cl,f,e1,e2,e3⟩:=h
  refine ⟨es,cl,f,e1,e2,?_⟩
  by_cases e:j=i
  ·subst e;rw [upT_same,hhs rfl];exact e3
  ·rw [upT_ne e];exact e3
 | hd j =>
  obtain ⟨es,cl,f,e1,e2,e3⟩:=h
  refine ⟨es,cl,f,e1,e2,?_⟩
  by_cases e:j=i
  ·subst e;rw [upT_same,hhd rfl];exact e3
  ·rw [upT_ne e];exact e3
 | bd j =>
  obtain ⟨es,cl,f,e1,e2,e3⟩:=h
  refine ⟨es,cl,f,e1,e2,?_⟩
  by_cases e:j=i
  ·subst e;rw [upT_same,hbd rfl];exact e3
  ·rw [upT_ne e];exact e3
 | cb j q =>
  intro c hc
  by_cases e:j=i
  ·subst e;rw [upT_same,hcb q rfl] at hc;exact h c hc
  ·rw [upT_ne e] at hc;exact h c hc
structure Only (L:Lay) (K:Kst) (w w':World):Prop where
 os:w'.os=w.os
 tape:w'.tape=w.tape
 output:w'.output=w.output
 size:w.heap.size≤w'.heap.size
 keep:∀ b,b<w.heap.size→(∀ t,Tg.ok K t→L.at_ t≠b)→w'.heap[b]? = w.heap[b]?
theorem Only.refl (L:Lay) (K:Kst) (w:World):Only L K w w:=⟨rfl,rfl,rfl,Nat.le_refl _,fun _ _ _=>rfl⟩
theorem Only.trans {L:Lay} {K:Kst} {w w1 w2:World} (h:Only L K w w1) (k:Only L K w1 w2):Only L K w w2 :=
 ⟨k.os.trans h.os,k.tape.trans h.tape,k.output.trans h.output,Nat.le_trans h.size k.size,fun b hb hn=>(k.keep b (Nat.lt_of_lt_of_le hb h.size) hn).trans (h.keep b hb hn)⟩
theorem Only.of_kept {L:Lay} {K:Kst} {w w':World} {M:List Nat} (h:Kept w.heap.size M w w') (hM:∀ b∈M,∃ t,Tg.ok K t∧L.at_ t=b):Only L K w w' :=
 ⟨h.os,h.tape,h.output,h.size,fun b hb hn=>h.block b hb fun hm=>let ⟨t,h1,h2⟩:=hM b hm;hn t h1 h2⟩
theorem Only.set {L:Lay} {K:Kst} {w:World} {t:Tg} (ht:Tg.ok K t) (o:Obj):Only L K w (setBlock w (L.at_ t) o) :=
 ⟨rfl,rfl,rfl,by simp [setBlock],fun b _ hn=>setBlock_other w o (Ne.symm (hn t ht))⟩
theorem Kept.keep1 {w w':World} {b:Nat} (h:Kept w.heap.size [b] w w'):∀ q,q≠b→∀ o,w.heap[q]? = some o→w'.heap[q]? = some o:=fun q hq o ho =>
 (h.block q (Array.getElem?_eq_some_iff.1 ho).1 (by simpa using hq)).trans ho
theorem setBlock_keep {w:World} {b:Nat} {o':Obj}:∀ q,q≠b→∀ o,w.heap[q]? = some o→(setBlock w b o').heap[q]? = some o:=fun q hq o ho=>(setBlock_other w o' hq).trans ho
theorem ShopAt.up {L:Lay} {K:Kst} {st:Stt} {w w':World} (h:ShopAt L K st w) {i:Nat} {t:Th} (s:Tg) (hs:Tg.ok K s) (hok:StOk K (upT st i t)) (keep:∀ b,b≠L.at_ s→∀ o,w.heap[b]? = some o→w'.heap[b]? = some o)
  (hn:∃ o,w'.heap[L.at_ s]? = some o∧Has L K (upT st i t) s o) (hth:s≠.th i→t.pr=(st.th i).pr∧t.st=(st.th i).st) (hhs:s≠.hs i→t.has=(st.th i).has) (hhd:s≠.hd i→t.had=(st.th i).had)
  (hbd:s≠.bd i→t.bad=(st.th i).bad) (hcb:∀ q,s≠.cb i q→t.ck q=(st.th i).ck q):ShopAt L K (upT st i t) w' :=
 h.set s hs hok keep hn fun r o hr ho=>ho.up (fun e=>hth (by rw [← e];exact hr.symm)) (fun e=>hhs (by rw [← e];exact hr.symm)) (fun e=>hhd (by rw [← e];exact hr.symm)) (fun e=>hbd (by rw [← e];exact hr.symm)) (fun q e=>hcb q (by rw [← e];exact hr.symm))
theorem StOk.up {K:Kst} {st:Stt} (h:StOk K st) {i:Nat} {t:Th} (h1:∀ q,(t.ck q).isSome=((st.th i).ck q).isSome) (h2:∀ a b,t.has a b=true→(i<K.n→a<K.n∧b<nB)) (h3:∀ a b,t.had a b=true→(i<K.n→a<K.n∧b<nB)):StOk K (upT st i t):=by
 refine ⟨fun j hj q=>?_,fun j hj a b hab=>?_,fun j hj a b hab=>?_⟩
 ·by_cases e:j=i
  ·subst e;rw [upT_same,h1];exact h.ck j hj q
  ·rw [upT_ne e];exact h.ck j hj q
 ·by_cases e:j=i
  ·subst e;rw [upT_same] at hab;exact h2 a b hab hj
  ·rw [upT_ne e] at hab;exact h.has j hj a b hab
 ·by_cases e:j=i
  ·subst e;rw [upT_same] at hab;exact h3 a b hab hj
  ·rw [upT_ne e] at hab;exact h.had j hj a b hab
end runs
end Go.Sy
namespace Go.Sy
set_option linter.unusedVariables false
set_option linter.unusedSimpArgs false
open Go.RowKit Go.ChangeMaps
set_option linter.unusedSectionVars false
set_option linter.unusedSectionVars false
attribute [local instance 2000] Go.Sy.G0
section runs
variable {P:Program} {rd:Option Nat} {n:Nat}
theorem any_inv {F:Fence} {ops:Array Oper} {Q:Exit→Act→World→Prop} {I:Array Bool→Act→World→Prop}
  (hend:∀ listed a w,I listed a w→Region.ready .any ops listed=[]→Q .normal a w)
  (hstep:∀ (listed:Array Bool) a w i,I listed a w→i∈Region.ready .any ops listed→∀ K:Act→World→Prop,(∀ a' w',I (listed.setIfInBounds i true) a' w'→K a' w')→wpOpIn F n P ops Q i K a w)
  (hsz:∀ listed a w,I listed a w→listed.size=ops.size) :
  ∀ (fuel:Nat) (listed:Array Bool) (a:Act) (w:World),listed.toList.count false≤fuel→I listed a w→wpAnyIn F n P .any ops Q fuel listed a w
 | 0,listed,a,w,hc,h=>by
  have hno:Region.ready .any ops listed=[]:=by
   cases hr:Region.ready .any ops listed with
   | nil=>rfl
   | cons i l =>
    exfalso
    have hi:i∈Region.ready .any ops listed:=by rw [hr];simp
    rw [ready_iff] at hi
    obtain ⟨h1,h2,_⟩:=hi
    have hl:i<listed.size:=by rw [hsz _ _ _ h];exact h1
    have hm:false∈listed.toList:=by
     have:listed[i]=false:=by simpa [Array.getD_eq_getD_getElem?,hl] using h2
     rw [← this];simp
    have:=List.count_pos_iff.2 hm
    omega
  exact ⟨hno,hend _ _ _ h hno⟩
 | fuel+1,listed,a,w,hc,h=>by
  refine ⟨fun h0=>hend _ _ _ h h0,fun i hi=>hstep listed a w i h hi _ fun a' w' h'=>any_inv hend hstep hsz fuel _ a' w' ?_ h'⟩
  rw [ready_iff] at hi
  obtain ⟨h1,h2,_⟩:=hi
  have hl:i<listed.size:=by rw [hsz _ _ _ h];exact h1
  have hf:listed[i]=false:=by simpa [Array.getD_eq_getD_getElem?,hl] using h2
  have hm:false∈listed.toList:=by rw [← hf];simp
  have hp:=List.count_pos_iff.2 hm
  rw [Array.toList_setIfInBounds,List.count_set (by simpa using hl)]
  have e1:listed.toList[i]'(by simpa using hl)=false:=by simpa using hf
  have e2:(true == false)=false:=rfl
  rw [e1,e2]
  simp only [beq_self_eq_true,if_true,Bool.false_eq_true,if_false]
  omega
structure PhaseI (ops:Array Oper) (val:Nat→Value) (W:Nat→World) (eff:Nat→Option Nat) (N:Nat) (a0:Act) (listed:Array Bool) (a:Act) (w:World) (ph:Nat):Prop where
 le:ph≤N
 world:w=W ph
 eff_:∀ i p,eff i=some p→listed.getD i false=decide (p<ph)
 defers:a.defers=a0.defers
 tsz:a.tmps.size=a0.tmps.size
 got:∀ (i:Nat) (o:Oper) (d:Nat),ops[i]? = some o→o.dst=some d→listed.getD i false=true→a.eval (.tmp d)=val i
 rest:∀ t,(∀ (i:Nat) (o:Oper),ops[i]? = some o→o.dst≠some t)→a.eval (.tmp t)=a0.eval (.tmp t)
 size:listed.size=ops.size
theorem any_phase {ops:Array Oper} {id:Nat} {Q:Exit→Act→World→Prop} (hmix:P.follows .mixedOrders=true) {val:Nat→Value} {W:Nat→World} {eff:Nat→Option Nat} {N:Nat} {a0:Act}
  (hg:∀ (i:Nat) (o:Oper),ops[i]? = some o→o.guard=none∧(∀ c,o.op≠.defer c)∧(∀ d,o.dst=some d→d<a0.tmps.size)∧(∀ e∈o.after.toList,Region.binds .any e=true→e.on<i))
  (hdst:∀ (i j:Nat) (oi oj:Oper) (d:Nat),ops[i]? = some oi→ops[j]? = some oj→oi.dst=some d→oj.dst=some d→i=j)
  (heff:∀ i p,eff i=some p→p<N∧i<ops.size)
  (hinj:∀ i j p,eff i=some p→eff j=some p→i=j)
  (hall:∀ p,p<N→∃ i,eff i=some p)
  (hchain:∀ (i:Nat) (o:Oper) (p:Nat),ops[i]? = some o→eff i=some (p+1)→∃ e∈o.after.toList,Region.binds .any e=true∧eff e.on=some p)
  (hrun:∀ (i:Nat) (o:Oper),ops[i]? = some o→∀ (a:Act) (ph:Nat),ph≤N→(∀ p,eff i=some p→p=ph) →
   (∀ e∈o.after.toList,Region.binds .any e=true→∀ (oj:Oper) (d:Nat),ops[e.on]? = some oj→oj.dst=some d→a.eval (.tmp d)=val e.on) →
   (∀ t,(∀ (i:Nat) (o:Oper),ops[i]? = some o→o.dst≠some t)→a.eval (.tmp t)=a0.eval (.tmp t)) →
   (∀ e∈o.after.toList,Region.binds .any e=true→∀ p,eff e.on=some p→p<ph) →
   (execOp a.eval o).run P (W ph)=.ok (.value (val i)) (W (if (eff i).isSome then ph+1 else ph))∨(o.dst=none∧(execOp a.eval o).run P (W ph)=.ok .skip (W (if (eff i).isSome then ph+1 else ph))))
  {w:World} (h0:W 0={ w with drawn:=w.drawn+1 })
  (hQ:∀ a:Act,a.defers=a0.defers→a.tmps.size=a0.tmps.size→(∀ t,(∀ (i:Nat) (o:Oper),ops[i]? = some o→o.dst≠some t)→a.eval (.tmp t)=a0.eval (.tmp t))→Q .normal a (W N)) :
  (Code.region id ops true).wpIn (FW rd) n P Q a0 w:=by
 refine wpIn_region_any hmix ?_
 refine any_inv (I:=fun listed a w=>∃ ph,PhaseI ops val W eff N a0 listed a w ph) ?e ?s (by rintro listed a w ⟨ph,h⟩;exact h.size) ops.size _ a0 _ (by simp) ?i
 case e =>
  rintro listed a w ⟨ph,h⟩ hr
  have all:∀ j,j<ops.size→listed.getD j false=true:=by
   intro j
   induction j using Nat.strongRecOn with
   | _ j ih =>
    intro hj
    cases hD:listed.getD j false
    ·exfalso
     have hjl:j<listed.size:=by rw [h.size];exact hj
     have hDt:listed.getD j true=false:=by
      simp only [Array.getD_eq_getD_getElem?,Array.getElem?_eq_getElem hjl,Option.getD_some] at hD ⊢
      exact hD
     have:j∈Region.ready .any ops listed:=by
      rw [ready_iff]
      refine ⟨hj,hDt,ops[j],Array.getElem?_eq_getElem hj,fun e he hb=>?_⟩
      have hlt:=(hg j _ (Array.getElem?_eq_getElem hj)).2.2.2 e he hb
      exact ih e.on hlt (by omega)
     rw [hr] at this
     cases this
    ·rfl
  have hph:ph=N:=by
   rcases Nat.lt_or_ge ph N with hlt | hge
   ·obtain ⟨i,hi⟩:=hall ph hlt
    have h1:=h.eff_ i ph hi
    rw [all i (heff i ph hi).2] at h1
    simp at h1
   ·have:=h.le
    omega
  rw [h.world,hph]
  exact hQ a h.defers h.tsz h.rest
 case s =>
  rintro listed a w i ⟨ph,h⟩ hi K hK
  rw [ready_iff] at hi
  obtain ⟨hi1,hi2,o,ho,hed⟩:=hi
  obtain ⟨hgd,hdf,hdl,_⟩:=hg i o ho
  have hil:i<listed.size:=by rw [h.size];exact hi1
  have hif:listed.getD i false=false:=by
   simp only [Array.getD_eq_getD_getElem?,Array.getElem?_eq_getElem hil,Option.getD_some] at hi2 ⊢
   exact hi2
  have hpi:∀ p,eff i=some p→p=ph:=fun p hp=>by
   have h1:=h.eff_ i p hp
   rw [hif] at h1
   have h1:¬ p<ph:=by simpa using h1.symm
   rcases Nat.lt_or_ge ph p with hlt | hge
   ·obtain ⟨q,rfl⟩:∃ q,p=q+1:=⟨p - 1,by omega⟩
    obtain ⟨e,he,hb,hq⟩:=hchain i o q ho hp
    have h2:=h.eff_ e.on q hq
    rw [hed e he hb] at h2
    have h2:q<ph:=by simpa using h2.symm
    omega
   ·omega
  have gset:∀ j,(listed.setIfInBounds i true).getD j false=if j=i then true else listed.getD j false:=fun j=>by
   simp only [Array.getD_eq_getD_getElem?,Array.getElem?_setIfInBounds]
   by_cases e:j=i
   ·subst e;simp [hil]
   ·rw [if_neg (Ne.symm e),if_neg e]
  have hval:∀ x,(∀ d,o.dst=some d→x=val i)→PhaseI ops val W eff N a0 (listed.setIfInBounds i true) (a.put o.dst x) (W (if (eff i).isSome then ph+1 else ph)) (if (eff i).isSome then ph+1 else ph):=fun x hx=>by
   refine ⟨?_,rfl,fun j p hp=>?_,(put_defs a o.dst x).trans h.defers,(put_size a o.dst x).trans h.tsz,fun j oj d hoj hd hlj=>?_,fun t ht=>?_,by rw [Array.size_setIfInBounds];exact h.size⟩
   ·cases hE:eff i with
    | none=>exact h.le
    | some p=>have:=hpi p hE;have:=(heff i p hE).1;show ph+1≤N;omega
   ·rw [gset]
    by_cases e:j=i
    ·subst e
     have:=hpi p hp
     subst this
     rw [hp]
     simp
    ·rw [if_neg e,h.eff_ j p hp]
     cases hE:eff i with
     | none=>rfl
     | some q =>
      have hq:=hpi q hE
      subst hq
      have:p≠q:=fun ee=>e (hinj j i q (by rw [← ee];exact hp) hE)
      show decide (p<q)=decide (p<q+1)
      have:(p<q)↔(p<q+1):=by omega
      simp only [this]
   ·rw [gset] at hlj
    by_cases e:j=i
    ·subst e
     rw [ho] at hoj;cases hoj
     rw [hd]
     have:=hdl d hd
     rw [hx d hd]
     simp only [Act.eval,Act.put]
     simp [Array.getD_eq_getD_getElem?,h.tsz,this]
    ·rw [if_neg e] at hlj
     have hne:o.dst≠some d:=fun ee=>e (hdst j i oj o d hoj ho hd ee)
     rw [Act.eval_put (fun d' hd' ee=>hne (by cases ee;exact hd'))]
     exact h.got j oj d hoj hd hlj
   ·rw [Act.eval_put (fun d' hd' ee=>ht i o ho (by cases ee;exact hd'))]
    exact h.rest t ht
  have hr:=hrun i o ho a ph h.le hpi (fun e he hb oj d hoj hd=>h.got e.on oj d hoj hd (hed e he hb)) h.rest (fun e he hb p hp=>by
   have h2:=h.eff_ e.on p hp
   rw [hed e he hb] at h2
   simpa using h2.symm)
  unfold wpOpIn
  rw [ho]
  simp only
  rw [if_pos (by simp [Region.wanted,hgd]),h.world]
  rcases hr with hr | ⟨hd,hr⟩
  ·exact wp_of_value hr (hK _ _ ⟨_,hval _ fun _ _=>rfl⟩) hdf
  ·exact wp_of_skip hr (hK _ _ ⟨_,hval _ fun d h=>by rw [hd] at h;cases h⟩) hdf
 case i =>
  refine ⟨0,Nat.zero_le _,h0.symm,fun i p hp=>?_,rfl,rfl,fun i o d ho hd hl=>?_,fun _ _=>rfl,by simp⟩
  ·simp [Array.getD_eq_getD_getElem?,Array.getElem?_replicate]
   split <;> rfl
  ·exfalso
   simp only [Array.getD_eq_getD_getElem?,Array.getElem?_replicate] at hl
   split at hl <;> cases hl
end runs
end Go.Sy
namespace Go.Sy
set_option linter.unusedVariables false
set_option linter.unusedSimpArgs false
open Go.RowKit Go.ChangeMaps
set_option linter.unusedSectionVars false
set_option linter.unusedSectionVars false
attribute [local instance 2000] Go.Sy.G0
section maps
variable {P:Program} {α:Type} {k:TypeId} {enc:α→Value}
theorem findIdx_at {es:Array MapEntry} {j:Nat} {e0:MapEntry} {b:Int} (hj:es[j]? = some e0) (hb:(e0.born:Int)=b) (hnd:(es.toList.map (·.born)).Nodup):es.findIdx? (fun e=>(e.born:Int) == b)=some j:=by
 have hjl:j<es.size:=(Array.getElem?_eq_some_iff.1 hj).1
 have hje:es[j]=e0:=(Array.getElem?_eq_some_iff.1 hj).2
 rw [Array.findIdx?_eq_some_iff_getElem]
 refine ⟨hjl,by rw [hje];simp [hb],fun i hi=>?_⟩
 have hil:i<es.size:=by omega
 intro h
 have h:((es[i].born:Int))=b:=by simpa using h
 have he:es[i].born=es[j].born:=by rw [hje];omega
 have:=(List.getElem_inj (h₀:=by simpa using hil) (h₁:=by simpa using hjl) hnd).1 (by simpa using he)
 omega
theorem MapAt.entry_store [DecidableEq α] (K:KeyLaws P k enc) {t e:TypeId} (ht:P.underlying t=some (.map k e)) {z:Value} (hz:∀ w:World,(zeroValue e).run P w=.ok z w) {w:World} {b:Nat} {f:α→Option Value} (h:MapAt w b enc f) (a:α) (v:Value) :
  ∃ (o1 o2:Obj) (x:Value) (s:Nat),(Instr.mapEntry t (.map (some b)) (enc a)).run P w=.ok (.tuple #[x,goInt s]) (setBlock w b o1) ∧
   (∀ w1:World,w1.heap[b]? = some o1→(Instr.entryStore t (.map (some b)) (goInt s) v).run P w1=.ok () (setBlock w1 b o2)) ∧
   ∃ es cl,o2=.map es cl∧MapObj enc (fun x=>if x=a then some v else f x) es cl:=by
 obtain ⟨es,clock,hb,o⟩:=h
 rcases K.find w a es.toList o.keys with ⟨h1,h2⟩ | ⟨j,e0,h1,h2,h3⟩
 ·refine ⟨.map (es.push ⟨enc a,z,clock⟩) (clock+1),.map (es.push ⟨enc a,v,clock⟩) (clock+1),z,clock,?_,fun w1 hw1=>?_,_,_,rfl,mapObj_push K o h2 v⟩
  ·simp [Instr.mapEntry,run_underlying ht,MapKept.run_getObj_map hb,K.check w false a,h1,hz,MapKept.run_setObj_map _ hb,Result.andThen,setBlock]
  ·have hn:((es.push ⟨enc a,z,clock⟩).toList.map (·.born)).Nodup:=(mapObj_push K o h2 z).born
   have hi:=findIdx_at (es:=es.push ⟨enc a,z,clock⟩) (j:=es.size) (e0:=⟨enc a,z,clock⟩) (b:=(clock:Int)) (by simp) rfl hn
   have hm:(es.push ⟨enc a,z,clock⟩).modify es.size (fun e=>{ e with val:=v })=es.push ⟨enc a,v,clock⟩:=by
    apply Array.toList_inj.1
    have hp:(es.push ⟨enc a,z,clock⟩).toList[es.size]? = some ⟨enc a,z,clock⟩:=by simp
    rw [Array.toList_modify,modify_eq_set _ _ _ _ hp]
    simp
   simp [Instr.entryStore,MapKept.run_getObj_map hw1,goInt,asInt,asIntOf,Result.andThen,hi,hm,MapKept.run_setObj_map _ hw1,setBlock]
 ·have hj:es[j]? = some e0:=by simpa using h2
  have hl:(es.modify j fun e'=>{ e' with key:=enc a }).toList=es.toList.set j { e0 with key:=enc a }:=by rw [Array.toList_modify,modify_eq_set _ _ _ _ h2]
  have e1:({ e0 with key:=enc a }:MapEntry)=e0:=by rw [← h3]
  have hid:(es.modify j fun e'=>{ e' with key:=enc a })=es:=by
   apply Array.toList_inj.1
   rw [hl,e1]
   apply List.ext_getElem?
   intro i
   rw [List.getElem?_set]
   split
   ·subst_vars
    split
    ·exact h2.symm
    ·rename_i hlt;exact absurd (List.getElem?_eq_some_iff.1 h2).1 hlt
   ·rfl
  refine ⟨.map es clock,.map (es.modify j fun e'=>{ e' with val:=v }) clock,e0.val,e0.born,?_,fun w1 hw1=>?_,_,_,rfl,mapObj_set K o h2 h3 v (by rw [Array.toList_modify,modify_eq_set _ _ _ _ h2,← h3])⟩
  ·simp [Instr.mapEntry,run_underlying ht,MapKept.run_getObj_map hb,K.check w false a,h1,hj,h3,K.stays,MapKept.run_setObj_map _ hb,Result.andThen,setBlock,hid]
  ·have hi:=findIdx_at hj (b:=(e0.born:Int)) rfl o.born
   simp [Instr.entryStore,MapKept.run_getObj_map hw1,goInt,asInt,asIntOf,Result.andThen,hi,MapKept.run_setObj_map _ hw1,setBlock]
end maps
end Go.Sy
