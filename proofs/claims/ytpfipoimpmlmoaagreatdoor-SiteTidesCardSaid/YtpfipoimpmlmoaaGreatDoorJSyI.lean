/-
 A symbolic executor for the model's code, part I: a step, guarded or not; a region in the text's order. Conditions: none.
-/
import Derived.Test.YtpfipoimpmlmoaaGreatDoorJSyH
namespace Go.Sy
set_option linter.unusedVariables false
set_option linter.unusedSimpArgs false
open Go.RowKit
section runs
variable {P:Program} {rd:Option Nat} {n:Nat}
def cnd (b:Bool) (t e:Prop):Prop:=match b with | true=>t | false=>e
theorem cnd_iff {b:Bool} {t e:Prop}:cnd b t e↔(b=true→t)∧(b=false→e):=by cases b <;> simp [cnd]
def needs:List Bool→Prop→Prop
 | [],p=>p
 | b :: l,p=>cnd b (needs l p) False
theorem needs_iff:∀ {l:List Bool} {p:Prop},needs l p↔(∀ b∈l,b=true)∧p
 | [],p=>by simp [needs]
 | b :: l,p=>by cases b <;> simp [needs,cnd,needs_iff (l:=l)]
def SV.top:SV→SV
 | .gd _ _ _=>.any
 | v=>v
def SV.forget (d:Nat):SV→SV
 | .gd t pol v=>if t=d then .any else .gd t pol v
 | v=>v
def SState.put (s:SState) (dst:Option Nat) (v:SV):SState :=
 match dst with
 | none=>s
 | some d=>{ s with tm:=fun i=>if i=d then v else (s.tm i).forget d }
theorem slotDen_top {ρ:Env} {a:Act} {v:SV} {x:Value} (h:v.den ρ x):slotDen ρ a v.top x:=by
 cases v <;> first | exact h | trivial
theorem slotDen_mono {ρ ρ':Env} (he:Ext ρ ρ') {a:Act} {v:SV} {x:Value} (h:slotDen ρ a v x):slotDen ρ' a v x:=by
 cases v <;> try exact SV.den_mono he _ _ h
 rename_i t pol u
 exact h.imp (fun ⟨h1,h2⟩=>⟨h1,SV.den_mono he _ _ h2⟩) id
theorem put_get (a:Act) (dst:Option Nat) (x:Value) (i:Nat) (h:∀ d,dst=some d→d≠i):(a.put dst x).tmps[i]? = a.tmps[i]?:=by
 cases dst with
 | none=>rfl
 | some d =>
  have:=h d rfl
  simp [Act.put,Array.getElem?_setIfInBounds_ne this]
theorem put_size (a:Act) (dst:Option Nat) (x:Value):(a.put dst x).tmps.size=a.tmps.size:=by
 cases dst <;> simp [Act.put]
theorem put_defs (a:Act) (dst:Option Nat) (x:Value):(a.put dst x).defers=a.defers:=by
 cases dst <;> simp [Act.put]
theorem slotDen_forget {ρ:Env} {a:Act} {d:Nat} {v:SV} {x:Value} (y:Value) (h:slotDen ρ a v x):slotDen ρ (a.put (some d) y) (v.forget d) x:=by
 cases v <;> try exact h
 rename_i t pol u
 simp only [SV.forget]
 by_cases ht:t=d
 ·rw [if_pos ht];trivial
 ·rw [if_neg ht]
  have:=put_get a (some d) y t (fun _ e=>by cases e;exact fun e=>ht e.symm)
  show ((a.put (some d) y).tmps[t]? = some (.bool pol)∧u.den ρ x)∨((a.put (some d) y).tmps[t]?≠some (.bool pol)∧x=undef)
  rw [this]
  exact h
theorem TmDen.put {ρ ρ':Env} {s:SState} {a:Act} (h:TmDen ρ s a) (he:Ext ρ ρ') {dst:Option Nat} {v:SV} {x:Value} (hv:∀ d,dst=some d→slotDen ρ' (a.put dst x) v x):TmDen ρ' (s.put dst v) (a.put dst x):=by
 refine ⟨?_,fun i y hy=>?_⟩
 ·rw [put_size];cases dst <;> exact h.size
 ·cases dst with
  | none=>exact slotDen_mono he (h.tmp i y hy)
  | some d =>
   simp only [SState.put]
   by_cases hi:i=d
   ·rw [if_pos hi]
    subst hi
    have hxy:y=x:=by
     simp only [Act.put,Array.getElem?_setIfInBounds] at hy
     simp only [if_true] at hy
     split at hy <;> simp_all
    rw [hxy]
    exact hv _ rfl
   ·rw [if_neg hi]
    rw [put_get a (some d) x i (fun _ e=>by cases e;exact fun e=>hi e.symm)] at hy
    exact slotDen_forget x (slotDen_mono he (h.tmp i y hy))
def chain (tm:Nat→SV):Nat→Nat→Bool→Asm × Bool
 | 0,t,pol=>([(t,pol)],true)
 | n+1,t,pol=>match tm t with
  | .bool b=>([(t,pol)],cond pol b (!b))
  | .gd t' pol' (.bool b)=>((t,pol) :: (chain tm n t' pol').1,(chain tm n t' pol').2&&cond pol b (!b))
  | _=>([(t,pol)],true)
theorem chain_ok {ρ:Env} {s:SState} {a:Act} (h:TmDen ρ s a):∀ (n t:Nat) (pol:Bool),a.tmps[t]? = some (.bool pol)→AsmOk (chain s.tm n t pol).1 a∧(chain s.tm n t pol).2=true
 | 0,t,pol,ht=>⟨AsmOk.cons (AsmOk.nil a) ht,rfl⟩
 | n+1,t,pol,ht=>by
  have hd:=h.tmp t _ ht
  simp only [chain]
  split
  ·rename_i b hb
   rw [hb] at hd
   have:pol=b:=by injection hd
   subst this
   exact ⟨AsmOk.cons (AsmOk.nil a) ht,by cases pol <;> rfl⟩
  ·rename_i t' pol' b hb
   rw [hb] at hd
   rcases hd with ⟨h1,h2⟩ | ⟨_,h2⟩
   ·have:pol=b:=by injection h2
    subst this
    obtain ⟨i1,i2⟩:=chain_ok h n t' pol' h1
    exact ⟨AsmOk.cons i1 ht,by simp only [i2,Bool.true_and];cases pol <;> rfl⟩
   ·simp [undef] at h2
  ·exact ⟨AsmOk.cons (AsmOk.nil a) ht,rfl⟩
def nodupB:List Nat→Bool
 | []=>true
 | n :: l=>!(l.any fun m=>Nat.beq m n)&&nodupB l
theorem nodupB_ok {us:List (Nat × Blk)} (h:nodupB (us.map (·.1))=true):∀ u∈us,∀ u'∈us,u.1=u'.1→u.2=u'.2:=by
 induction us with
 | nil=>intro u hu;simp at hu
 | cons v us ih =>
  simp only [List.map_cons,nodupB,Bool.and_eq_true,Bool.not_eq_true',List.any_eq_false] at h
  have hno:∀ u∈us,u.1≠v.1:=fun u hu e=>h.1 u.1 (List.mem_map_of_mem hu) (by rw [Nat.beq_eq];exact e)
  intro u hu u' hu' e
  rcases List.mem_cons.1 hu with h1 | h1 <;> rcases List.mem_cons.1 hu' with h2 | h2
  ·rw [h1,h2]
  ·rw [h1] at e;exact absurd e.symm (hno u' h2)
  ·rw [h2] at e;exact absurd e (hno u h1)
  ·exact ih h.2 u h1 u' h2 e
def OpRes.fitsB (r:OpRes) (mem:Nat→Blk) (off:Nat):Bool:=(r.upds.all fun u=>(mem u.1).mine&&Nat.blt u.1 off)&&nodupB (r.upds.map (·.1))
theorem fitsB_ok {r:OpRes} {mem:Nat→Blk} {off:Nat} (h:r.fitsB mem off=true):r.fits mem off:=by
 simp only [OpRes.fitsB,Bool.and_eq_true,List.all_eq_true] at h
 exact ⟨fun u hu=>⟨(h.1 u hu).1,by have:=(h.1 u hu).2;simpa [Nat.blt_eq] using this⟩,nodupB_ok h.2⟩
structure SRes where
 dst:Option Nat
 v:SV
 news:List Blk
 upds:List (Nat × Blk)
 need:List Bool
def isNone':Option Nat→Nat→Bool
 | some d,t=>!(Nat.beq d t)
 | none,_=>true
def knowS (s:SState) (t:Nat):Option (Bool × Bool):=match s.as with
 | some (t',v)=>(match Nat.beq t t'&&Nat.blt t s.nt with
  | true=>(match s.tm t with
   | .bool b=>some (v,cond v b (!b))
   | _=>none)
  | false=>none)
 | none=>none
theorem knowS_ok {ρ:Env} {s:SState} {a:Act} (h:TmDen ρ s a) {t:Nat} {v nb:Bool} (hk:knowS s t=some (v,nb)) (hn:nb=true):a.tmps[t]? = some (.bool v):=by
 unfold knowS at hk
 split at hk <;> try (cases hk;done)
 split at hk <;> try (cases hk;done)
 rename_i hc
 simp only [Bool.and_eq_true,Nat.beq_eq] at hc
 have hlt:t<a.tmps.size:=by rw [h.size];simpa [Nat.blt_eq] using hc.2
 split at hk <;> try (cases hk;done)
 rename_i b hb
 cases hk
 have hd:=h.tmp t _ (Array.getElem?_eq_getElem hlt)
 rw [hb] at hd
 have hx:a.tmps[t]=.bool b:=hd
 rw [Array.getElem?_eq_getElem hlt,hx]
 cases v <;> cases b <;> first | rfl | cases hn
def xStep (P:Program) (Γ:Gam) (ops:Array Oper) (s:SState) (off:Nat) (o:Oper):Option SRes :=
 match o.guard with
 | none=>match xOp P Γ s off [] o with
  | some r=>if r.fitsB s.mem off then some ⟨o.dst,r.v.top,r.news,r.upds,r.need⟩ else none
  | none=>none
 | some (j,pol)=>match (ops[j]?).bind (·.dst) with
  | some t=>match knowS s t with
   | some (v,nb)=>(match cond v pol (!pol) with
    | true=>(match xOp P Γ s off [(t,pol)] o with
     | some r=>if r.fitsB s.mem off then some ⟨o.dst,r.v.top,r.news,r.upds,nb :: r.need⟩ else none
     | none=>none)
    | false=>(match isNone' o.dst t with
     | true=>some ⟨o.dst,.gd t pol (.bool true),[],[],[nb]⟩
     | false=>none))
   | none=>match xOp P Γ s off (chain s.tm 12 t pol).1 o with
    | some r=>if r.news.all Blk.isUnk&&r.upds.isEmpty&&isNone' o.dst t then some ⟨o.dst,.gd t pol r.v.top,r.news,[],r.need.map fun n=>!(chain s.tm 12 t pol).2||n⟩ else none
    | none=>none
  | none=>none
structure SPost (ρ ρ':Env) (off:Nat) (r:SRes) (a:Act) (w w':World) (x:Value):Prop where
 slot:∀ d,r.dst=some d→slotDen ρ' (a.put r.dst x) r.v x
 post:OpPost ρ ρ' off { v:=.any,news:=r.news,upds:=r.upds } w w' x
theorem OpPost.any {ρ ρ':Env} {off:Nat} {r:OpRes} {w w':World} {x:Value} (h:OpPost ρ ρ' off r w w' x):OpPost ρ ρ' off { v:=.any,news:=r.news,upds:=r.upds } w w' x :=
 ⟨trivial,h.ext,h.old,h.os,h.tape,h.output,h.size,h.keep,h.odn,h.upd,h.new,h.newapart⟩
theorem xStep_wp {Γ:Gam} (hΓ:GamOk P Γ) {B:Nat} {M:List Nat} {ρ:Env} {ops:Array Oper} {s:SState} {a:Act} {w:World} {off:Nat} {o:Oper} {r:SRes} (h:xStep P Γ ops s off o=some r) (hn:∀ b∈r.need,b=true)
  (hT:TmDen ρ s a) (hM:MemDen B M ρ s.mem w) (hB:B≤w.heap.size) (hfr:∀ j,j<r.news.length→ρ (off+j)=none) {K:Act→World→Prop} {Q:Exit→Act→World→Prop}
  (hk:∀ x w' ρ',SPost ρ ρ' off r a w w' x→K (a.put o.dst x) w') :
  if Region.wanted o (yielded ops a.tmps)=true then o.wpIn (FW rd) n P a w K Q else K (a.put o.dst undef) w:=by
 unfold xStep at h
 split at h
 ·rename_i hg
  split at h <;> try (cases h;done)
  rename_i r0 hr
  split at h <;> cases h
  rename_i hf
  have hw:Region.wanted o (yielded ops a.tmps)=true:=by simp [Region.wanted,hg]
  rw [if_pos hw]
  exact xOp_wp hΓ hr hn (fitsB_ok hf) hT hM hB (AsmOk.nil a) hfr fun x w' ρ' hp=>hk x w' ρ' ⟨fun d _=>slotDen_top hp.val,hp.any⟩
 ·rename_i j pol hg
  split at h <;> try (cases h;done)
  rename_i t ht
  have hty:yielded ops a.tmps j=match a.tmps[t]? with | some (.bool b)=>some b | _=>none:=by
   unfold yielded
   rw [ht]
   rfl
  split at h
  ·rename_i v nb hk0
   split at h
   ·rename_i hvp
    split at h <;> try (cases h;done)
    rename_i r0 hr
    split at h <;> cases h
    rename_i hf
    have hb:=knowS_ok hT hk0 (hn nb (by simp))
    have hb:a.tmps[t]? = some (.bool pol):=by rw [hb];cases v <;> cases pol <;> first | rfl | cases hvp
    have hw:Region.wanted o (yielded ops a.tmps)=true:=by
     simp [Region.wanted,hg,hty,hb]
    rw [if_pos hw]
    exact xOp_wp hΓ hr (fun b hbm=>hn b (List.mem_cons_of_mem _ hbm)) (fitsB_ok hf) hT hM hB (AsmOk.cons (AsmOk.nil a) hb) hfr fun x w' ρ' hp=>hk x w' ρ' ⟨fun d _=>slotDen_top hp.val,hp.any⟩
   ·rename_i hvp
    split at h <;> cases h
    rename_i hdt
    have hdt':∀ d,o.dst=some d→d≠t:=by
     intro d hd e
     subst e
     rw [hd] at hdt
     simp [isNone'] at hdt
    have hb:=knowS_ok hT hk0 (hn nb (by simp))
    have hb:a.tmps[t]?≠some (.bool pol):=by rw [hb];cases v <;> cases pol <;> first | (intro e;cases e;done) | cases hvp
    have hw:¬ (Region.wanted o (yielded ops a.tmps)=true):=by
     simp only [Region.wanted,hg,hty,beq_iff_eq]
     intro e
     apply hb
     split at e
     ·rename_i b hb';cases e;exact hb'
     ·cases e
    rw [if_neg hw]
    exact hk undef w ρ ⟨fun d hd=>.inr ⟨by rw [put_get a o.dst undef t hdt'];exact hb,rfl⟩,⟨trivial,Ext.refl _,fun _ _=>rfl,rfl,rfl,rfl,Nat.le_refl _,fun _ _ _=>rfl,⟨fun _ _ _ h=>.inl h,fun _ _ h=>.inl h,rfl⟩,fun u hu=>(by simp at hu),fun j b hj hk=>(by simp at hj),fun j j' b b' m m' _ hj _ hk=>(by simp at hj)⟩⟩
  split at h <;> try (cases h;done)
  rename_i r0 hr
  split at h <;> cases h
  rename_i hc
  simp only [Bool.and_eq_true,List.isEmpty_iff,List.all_eq_true] at hc
  obtain ⟨⟨hnews,hupds⟩,hdt⟩:=hc
  have hdt':∀ d,o.dst=some d→d≠t:=by
   intro d hd e
   subst e
   rw [hd] at hdt
   simp [isNone'] at hdt
  by_cases hb:a.tmps[t]? = some (.bool pol)
  ·have hw:Region.wanted o (yielded ops a.tmps)=true:=by
    simp [Region.wanted,hg,hty,hb]
   rw [if_pos hw]
   obtain ⟨hasm,hcond⟩:=chain_ok hT 12 t pol hb
   have hneed:r0.need_ok:=fun b hbm=>by
    have:=hn _ (List.mem_map_of_mem hbm)
    simpa [hcond] using this
   refine xOp_wp hΓ hr hneed ⟨fun u hu=>by rw [hupds] at hu;simp at hu,fun u hu=>by rw [hupds] at hu;simp at hu⟩ hT hM hB hasm hfr fun x w' ρ' hp=>hk x w' ρ' ⟨fun d hd=>?_,?_⟩
   ·refine .inl ⟨?_,?_⟩
    ·rw [put_get a o.dst x t hdt'];exact hb
    ·have:=hp.val
     cases hv:r0.v <;> rw [hv] at this <;> first | exact this | trivial
   ·have:=hp.any
    rw [hupds] at this
    exact this
  ·have hw:¬ (Region.wanted o (yielded ops a.tmps)=true):=by
    simp only [Region.wanted,hg,hty,beq_iff_eq]
    intro e
    apply hb
    split at e
    ·rename_i b hb';cases e;exact hb'
    ·cases e
   rw [if_neg hw]
   exact hk undef w ρ ⟨fun d hd=>.inr ⟨by rw [put_get a o.dst undef t hdt'];exact hb,rfl⟩,⟨trivial,Ext.refl _,fun _ _=>rfl,rfl,rfl,rfl,Nat.le_refl _,fun _ _ _=>rfl,⟨fun _ _ _ h=>.inl h,fun _ _ h=>.inl h,rfl⟩,fun u hu=>(by simp at hu),fun j b hj hk=>(by rw [hnews b (List.mem_of_getElem? hj)] at hk;cases hk),fun j j' b b' m m' _ hj _ hk=>(by rw [hnews b (List.mem_of_getElem? hj)] at hk;cases hk)⟩⟩
end runs
end Go.Sy
