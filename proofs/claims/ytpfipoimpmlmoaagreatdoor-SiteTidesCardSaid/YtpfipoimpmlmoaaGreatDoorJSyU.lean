/-
 A symbolic executor for the model's code, part U: states by lists, with slices that grow. Conditions: none.
-/
import Derived.Test.YtpfipoimpmlmoaaGreatDoorJSyR
namespace Go.Sy
set_option linter.unusedVariables false
set_option linter.unusedSimpArgs false
open Go.RowKit
section runs
variable {P:Program}
def look:List Nat→List SV→Nat→SV
 | t :: L,v :: vs,i=>match Nat.beq i t with
  | true=>v
  | false=>look L vs i
 | _,_,_=>.any
def slots (s:SState) (L:List Nat):List SV:=L.map s.tm
def mkSt (na nt:Nat) (L:List Nat) (vs:List SV) (nx:Nat) (bs:List Blk):SState:={ na:=na,nt:=nt,tm:=look L vs,nx:=nx,mem:=memOf bs }
structure GL where
 isSlot:Bool
 a:Nat
 c:Nat
 i:Nat
 e:Nat
 sh:List Kd
def GL.val (g:GL) (s:SState):SV:=match g.isSlot with
 | true=>s.tm g.a
 | false=>match s.mem g.a with
  | .cells _ l=>l.getD g.c .any
  | _=>.any
def GL.src (g:GL) (s:SState):Option Nat:=match g.val s with
 | .gr j _ _=>some j
 | .own j _ _=>some j
 | _=>none
def glAt:List GL→Nat→Option GL
 | [],_=>none
 | g :: l,k=>match Nat.beq g.i k with
  | true=>some g
  | false=>glAt l k
def glTo (s:SState):List GL→Nat→Option Nat
 | [],_=>none
 | g :: l,k=>match g.src s with
  | some j=>(match Nat.beq j k with
   | true=>some g.i
   | false=>glTo s l k)
  | none=>glTo s l k
def sigL (s:SState) (nx:Nat) (gl:List GL) (k:Nat):Option Nat:=match glTo s gl k with
 | some i=>some i
 | none=>match Nat.blt k nx&&(glAt gl k).isNone with
  | true=>some k
  | false=>none
def GL.ro (g:GL):Bool:=Nat.beq g.e 1000000
def nro:List GL→List GL
 | []=>[]
 | g :: l=>match g.ro with
  | true=>nro l
  | false=>g :: nro l
def fitV (g:GL):SV→SV
 | .nsl=>match g.ro with
  | true=>.ro g.sh 0 noDat
  | false=>.gr g.i g.sh.length 0
 | .own i e n=>.gr i e n
 | v=>v
def fitSlots:List GL→List Nat→List SV→List SV
 | gl,t :: L,v :: vs=>(match gl.find? (fun g=>g.isSlot&&Nat.beq g.a t) with | some g=>fitV g v | none=>v) :: fitSlots gl L vs
 | _,_,vs=>vs
def fitCells (gl:List GL) (q:Nat):Nat→List SV→List SV
 | _,[]=>[]
 | c,v :: vs=>(match gl.find? (fun g=>!g.isSlot&&(Nat.beq g.a q&&Nat.beq g.c c)) with | some g=>fitV g v | none=>v) :: fitCells gl q (c+1) vs
def fitBlk (gl:List GL) (q:Nat):Blk→Blk
 | .cells e l=>.cells e (fitCells gl q 0 l)
 | b=>b
def srcBlk (s:SState) (gl:List GL) (k:Nat):Blk:=match glAt gl k with
 | some g=>(match g.src s with
  | some j=>s.mem j
  | none=>.row g.e g.sh 0 noDat)
 | none=>s.mem k
def canBlks (s:SState) (nx:Nat) (gl:List GL):Option (List Blk):=match renBs (sigL s nx (nro gl)) ((List.range nx).map (srcBlk s (nro gl))) with
 | some bs=>some ((List.range nx).zipWith (fitBlk gl) bs)
 | none=>none
def srcsOf (s:SState):List GL→List Nat
 | []=>[]
 | g :: l=>match g.src s with
  | some j=>j :: srcsOf s l
  | none=>srcsOf s l
def glOk (s:SState) (nx:Nat) (gl:List GL):Bool :=
 nodupB (srcsOf s gl)&&(nodupB (gl.map (·.i))&&(((srcsOf s gl).all fun j=>!(Nat.blt j nx&&(glAt gl j).isNone))&&(gl.all fun g=>Nat.ble s.na g.i&&Nat.blt g.i nx)))
def czv (na nt:Nat) (L:List Nat) (nx:Nat) (gl:List GL) (s:SState):Option (List SV × List Blk) :=
 match Nat.beq s.na na&&(Nat.beq s.nt nt&&(Nat.ble s.na nx&&glOk s nx (nro gl))),SV.renL (sigL s nx (nro gl)) (slots s L),canBlks s nx gl with
 | true,some vs,some bs=>some (fitSlots gl L vs,bs)
 | _,_,_=>none
def cz (na nt:Nat) (L:List Nat) (nx:Nat) (gl:List GL) (s:SState) (K:List SV→List Blk→Prop):Prop :=
 match czv na nt L nx gl s with
 | some r=>K r.1 r.2
 | none=>False
theorem glAt_some:∀ {gl:List GL} {k:Nat} {g:GL},glAt gl k=some g→g∈gl∧g.i=k
 | [],_,_,h=>by simp [glAt] at h
 | a :: l,k,g,h=>by
  simp only [glAt] at h
  split at h
  ·rename_i e;rw [Nat.beq_eq] at e;cases h;exact ⟨by simp,e⟩
  ·obtain ⟨h1,h2⟩:=glAt_some h;exact ⟨List.mem_cons_of_mem _ h1,h2⟩
theorem glAt_of:∀ {gl:List GL} {g:GL},nodupB (gl.map (·.i))=true→g∈gl→glAt gl g.i=some g
 | a :: l,g,hn,hg=>by
  simp only [List.map_cons,nodupB,Bool.and_eq_true,Bool.not_eq_true',List.any_eq_false] at hn
  simp only [glAt]
  rcases List.mem_cons.1 hg with rfl | hg
  ·simp [Nat.beq_refl]
  ·have hne:a.i≠g.i:=fun e=>hn.1 g.i (List.mem_map.2 ⟨g,hg,rfl⟩) (by rw [Nat.beq_eq];exact e.symm)
   have:Nat.beq a.i g.i=false:=by
    cases h:Nat.beq a.i g.i with
    | false=>rfl
    | true=>rw [Nat.beq_eq] at h;exact absurd h hne
   rw [this]
   exact glAt_of hn.2 hg
theorem glTo_some {s:SState}:∀ {gl:List GL} {k i:Nat},glTo s gl k=some i→∃ g∈gl,g.src s=some k∧g.i=i
 | [],_,_,h=>by simp [glTo] at h
 | a :: l,k,i,h=>by
  simp only [glTo] at h
  split at h
  ·rename_i j hj
   split at h
   ·rename_i e;rw [Nat.beq_eq] at e;subst e;cases h;exact ⟨a,by simp,hj,rfl⟩
   ·obtain ⟨g,h1,h2⟩:=glTo_some h;exact ⟨g,List.mem_cons_of_mem _ h1,h2⟩
  ·obtain ⟨g,h1,h2⟩:=glTo_some h;exact ⟨g,List.mem_cons_of_mem _ h1,h2⟩
theorem srcsOf_mem {s:SState}:∀ {gl:List GL} {g:GL} {j:Nat},g∈gl→g.src s=some j→j∈srcsOf s gl
 | a :: l,g,j,hg,hj=>by
  simp only [srcsOf]
  rcases List.mem_cons.1 hg with rfl | hg
  ·rw [hj];simp
  ·have:=srcsOf_mem hg hj
   split
   ·exact List.mem_cons_of_mem _ this
   ·exact this
theorem srcs_inj {s:SState}:∀ {gl:List GL},nodupB (srcsOf s gl)=true→∀ {g g':GL} {j:Nat},g∈gl→g'∈gl→g.src s=some j→g'.src s=some j→g=g'
 | a :: l,hn,g,g',j,hg,hg',hj,hj'=>by
  simp only [srcsOf] at hn
  cases ha:a.src s with
  | none =>
   rw [ha] at hn
   rcases List.mem_cons.1 hg with rfl | hg
   ·rw [ha] at hj;cases hj
   ·rcases List.mem_cons.1 hg' with rfl | hg'
    ·rw [ha] at hj';cases hj'
    ·exact srcs_inj hn hg hg' hj hj'
  | some b =>
   rw [ha] at hn
   simp only [nodupB,Bool.and_eq_true,Bool.not_eq_true',List.any_eq_false] at hn
   have hno:∀ x∈srcsOf s l,x≠b:=fun x hx e=>hn.1 x hx (by rw [Nat.beq_eq];exact e)
   rcases List.mem_cons.1 hg with e1 | hg <;> rcases List.mem_cons.1 hg' with e2 | hg'
   ·rw [e1,e2]
   ·rw [e1,ha] at hj;cases hj
    exact absurd rfl (hno _ (srcsOf_mem hg' hj'))
   ·rw [e2,ha] at hj';cases hj'
    exact absurd rfl (hno _ (srcsOf_mem hg hj))
   ·exact srcs_inj hn.2 hg hg' hj hj'
theorem look_get:∀ (L:List Nat) (vs:List SV) (i:Nat),look L vs i=.any∨∃ p:Nat,L[p]? = some i∧vs[p]? = some (look L vs i)
 | [],_,_=>.inl rfl
 | _ :: _,[],_=>.inl rfl
 | t :: L,v :: vs,i=>by
  simp only [look]
  split
  ·rename_i e;rw [Nat.beq_eq] at e;subst e;exact .inr ⟨0,rfl,rfl⟩
  ·rcases look_get L vs i with h | ⟨p,h1,h2⟩
   ·exact .inl h
   ·exact .inr ⟨p+1,by simpa using h1,by simpa using h2⟩
theorem fitV_den {ρ:Env} (g:GL) {v:SV} {x:Value} (h:v.den ρ x):(fitV g v).den ρ x:=by
 unfold fitV
 split
 ·split
  ·exact ⟨none,0,h,⟨Nat.le_refl _,fun _=>rfl⟩,fun h=>absurd h (Nat.lt_irrefl _)⟩
  ·exact .inl ⟨rfl,none,h⟩
 ·exact .inr h
 ·exact h
theorem fitSlots_get {gl:List GL}:∀ {L:List Nat} {vs:List SV} {p:Nat} {u:SV},(fitSlots gl L vs)[p]? = some u→∃ v,vs[p]? = some v∧∀ (ρ:Env) (x:Value),v.den ρ x→u.den ρ x
 | [],vs,p,u,h=>by simp only [fitSlots] at h;exact ⟨u,h,fun _ _ h=>h⟩
 | _ :: _,[],p,u,h=>by simp [fitSlots] at h
 | t :: L,v :: vs,p,u,h=>by
  simp only [fitSlots] at h
  cases p with
  | zero =>
   simp only [List.getElem?_cons_zero,Option.some.injEq] at h
   refine ⟨v,rfl,fun ρ x hx=>?_⟩
   rw [← h]
   split
   ·exact fitV_den _ hx
   ·exact hx
  | succ p =>
   obtain ⟨v',h1,h2⟩:=fitSlots_get (gl:=gl) (L:=L) (vs:=vs) (p:=p) (u:=u) (by simpa using h)
   exact ⟨v',by simpa using h1,h2⟩
theorem fitCells_den {gl:List GL} {q:Nat} {ρ:Env}:∀ {c:Nat} {vs:List SV} {xs:List Value},SV.denL ρ vs xs→SV.denL ρ (fitCells gl q c vs) xs
 | _,[],[],h=>h
 | c,v :: vs,x :: xs,⟨h,k⟩=>by
  simp only [fitCells]
  refine ⟨?_,fitCells_den k⟩
  split
  ·exact fitV_den _ h
  ·exact h
 | _,[],_ :: _,h=>h.elim
 | _,_ :: _,[],h=>h.elim
theorem fitBlk_den {gl:List GL} {q:Nat} {ρ:Env} {w:World} {m:Nm} {b:Blk} (h:b.den ρ w m):(fitBlk gl q b).den ρ w m:=by
 cases b with
 | cells e l=>obtain ⟨h0,c,hc,hd⟩:=h;exact ⟨h0,c,hc,fitCells_den hd⟩
 | _=>exact h
theorem fitBlk_unk {gl:List GL} {q:Nat} {b:Blk}:(fitBlk gl q b).isUnk=b.isUnk∧((fitBlk gl q b).ghost↔b.ghost):=by cases b <;> exact ⟨rfl,Iff.rfl⟩
theorem renL_get {σ:Nat→Option Nat}:∀ {l l':List SV},SV.renL σ l=some l'→∀ {i:Nat} {v':SV},l'[i]? = some v'→∃ v,l[i]? = some v∧v.ren σ=some v'
 | [],l',h,i,v',hi=>by simp only [SV.renL] at h;cases h;simp at hi
 | v :: l,l',h,i,v',hi=>by
  simp only [SV.renL] at h
  split at h <;> try (cases h;done)
  rename_i v1 hv1
  split at h <;> cases h
  rename_i l1 hl1
  cases i with
  | zero=>simp at hi;subst hi;exact ⟨v,rfl,hv1⟩
  | succ i=>exact renL_get hl1 (by simpa using hi)
theorem ren_slot {σ:Nat→Option Nat} {v v':SV} (h:v.ren σ=some v') {ρ:Env} {a:Act} {x:Value} (hd:slotDen ρ a v x):v.den ρ x:=by
 cases v <;> first | exact hd | (simp [SV.ren] at h)
theorem slot_of {ρ:Env} {a:Act} {v:SV} {x:Value} (hg:∀ t pol u,v≠.gd t pol u) (h:v.den ρ x):slotDen ρ a v x:=by
 cases v <;> first | exact h | exact absurd rfl (hg _ _ _)
theorem ren_nogd {σ:Nat→Option Nat} {v v':SV} (h:v.ren σ=some v'):∀ t pol u,v'≠.gd t pol u:=by
 intro t pol u e
 subst e
 cases v <;> simp only [SV.ren] at h <;> first | (cases h;done) | (split at h <;> cases h)
theorem fit_nogd {gl:List GL}:∀ {L:List Nat} {vs:List SV},(∀ (p:Nat) (v:SV),vs[p]? = some v→∀ t pol u,v≠SV.gd t pol u)→∀ {p:Nat} {u:SV},(fitSlots gl L vs)[p]? = some u→∀ t pol u',u≠.gd t pol u'
 | [],vs,hv,p,u,h=>by simp only [fitSlots] at h;exact hv p u h
 | _ :: _,[],_,p,u,h=>by simp [fitSlots] at h
 | t :: L,v :: vs,hv,p,u,h=>by
  simp only [fitSlots] at h
  cases p with
  | zero =>
   simp only [List.getElem?_cons_zero,Option.some.injEq] at h
   intro t' pol u' e
   have h0:=hv 0 v rfl
   rw [e] at h
   split at h
   ·unfold fitV at h
    split at h
    ·split at h <;> cases h
    ·cases h
    ·exact h0 _ _ _ h
   ·exact h0 _ _ _ h
  | succ p=>exact fit_nogd (gl:=gl) (L:=L) (vs:=vs) (fun p v hp=>hv (p+1) v (by simpa using hp)) (p:=p) (u:=u) (by simpa using h)
theorem cz_ok {B:Nat} {M:List Nat} {w0:Base} {ρ:Env} {s:SState} {a:Act} {w:World} (h:StDen B M w0 ρ s a w) {na nt nx:Nat} {L:List Nat} {gl:List GL} {r:List SV × List Blk} (hz:czv na nt L nx gl s=some r) :
  ∃ ρ',StDen B M w0 ρ' (mkSt na nt L r.1 nx r.2) a w:=by
 unfold czv at hz
 split at hz <;> cases hz
 rename_i vs bs hchk hvs hbs
 unfold canBlks at hbs
 split at hbs <;> cases hbs
 rename_i cs hcs
 generalize nro gl=gl0 at hchk hvs hcs
 simp only [glOk,Bool.and_eq_true,List.all_eq_true] at hchk
 obtain ⟨hna,hnt,hnx,hsd,hid,hsk,hgi⟩:=hchk
 have hna':s.na=na:=by simpa using hna
 have hnt':s.nt=nt:=by simpa using hnt
 have hnx':s.na≤nx:=by simpa using hnx
 subst hna'
 subst hnt'
 have glLow:∀ g∈gl0,s.na≤g.i∧g.i<nx:=fun g hg=>by
  have:=hgi g hg
  exact ⟨by simpa using this.1,by simpa using this.2⟩
 obtain ⟨hcl,hcg⟩:=renBs_get hcs
 simp only [List.length_map,List.length_range] at hcl
 let ρ2:Env:=⟨fun k=>if k<nx then (match glAt gl0 k with | some g=>(match g.src s with | some j=>ρ j | none=>none) | none=>ρ k) else none,ρ.od,ρ.gl⟩
 -- where a name comes from
 let sn:Nat→Option Nat:=fun k=>match glAt gl0 k with | some g=>g.src s | none=>some k
 have hsn:∀ k m,ρ2 k=some m→k<nx∧∃ j,sn k=some j∧ρ j=some m∧srcBlk s gl0 k=s.mem j:=by
  intro k m hk
  have hk':(if k<nx then (match glAt gl0 k with | some g=>(match g.src s with | some j=>ρ j | none=>none) | none=>ρ k) else none)=some m:=hk
  split at hk' <;> try (cases hk';done)
  rename_i hlt
  refine ⟨hlt,?_⟩
  show ∃ j,(match glAt gl0 k with | some g=>g.src s | none=>some k)=some j∧ρ j=some m∧(match glAt gl0 k with | some g=>(match g.src s with | some j=>s.mem j | none=>.row g.e g.sh 0 noDat) | none=>s.mem k)=s.mem j
  cases hg:glAt gl0 k with
  | none=>rw [hg] at hk';exact ⟨k,rfl,hk',rfl⟩
  | some g =>
   rw [hg] at hk'
   simp only at hk' ⊢
   cases hs:g.src s with
   | none=>rw [hs] at hk';cases hk'
   | some j=>rw [hs] at hk';exact ⟨j,rfl,hk',rfl⟩
 have snInj:∀ k k' j,k<nx→k'<nx→sn k=some j→sn k'=some j→k=k':=by
  intro k k' j hk hk' h1 h2
  have h1':(match glAt gl0 k with | some g=>g.src s | none=>some k)=some j:=h1
  have h2':(match glAt gl0 k' with | some g=>g.src s | none=>some k')=some j:=h2
  have kept:∀ g∈gl0,g.src s=some j→∀ q,q<nx→glAt gl0 q=none→q≠j:=by
   intro g hg hs q hq hn e
   have:=hsk j (srcsOf_mem hg hs)
   rw [← e,hn,blt_t hq] at this
   cases this
  cases hg:glAt gl0 k with
  | none =>
   rw [hg] at h1'
   cases hg':glAt gl0 k' with
   | none=>rw [hg'] at h2';simp only [Option.some.injEq] at h1' h2';omega
   | some g' =>
    rw [hg'] at h2'
    simp only [Option.some.injEq] at h1'
    exact absurd h1' (kept g' (glAt_some hg').1 h2' k hk hg)
  | some g =>
   rw [hg] at h1'
   cases hg':glAt gl0 k' with
   | none =>
    rw [hg'] at h2'
    simp only [Option.some.injEq] at h2'
    exact absurd h2' (kept g (glAt_some hg).1 h1' k' hk' hg')
   | some g' =>
    rw [hg'] at h2'
    have e:=srcs_inj hsd (glAt_some hg).1 (glAt_some hg').1 h1' h2'
    rw [← (glAt_some hg).2,← (glAt_some hg').2,e]
 have hσ:∀ k k',sigL s nx gl0 k=some k'→∀ m,ρ k=some m→ρ2 k'=some m:=by
  intro k k' hs m hm
  show (if k'<nx then (match glAt gl0 k' with | some g=>(match g.src s with | some j=>ρ j | none=>none) | none=>ρ k') else none)=some m
  unfold sigL at hs
  split at hs
  ·rename_i i hi
   cases hs
   obtain ⟨g,hg,hsrc,rfl⟩:=glTo_some hi
   rw [if_pos (glLow g hg).2,glAt_of hid hg]
   simp only [hsrc]
   exact hm
  ·split at hs <;> cases hs
   rename_i hb
   simp only [Bool.and_eq_true,Option.isNone_iff_eq_none] at hb
   rw [if_pos (by simpa using hb.1),hb.2]
   exact hm
 have hblk:∀ k,(memOf ((List.range nx).zipWith (fitBlk gl) cs) k).isUnk=false→∃ c,memOf ((List.range nx).zipWith (fitBlk gl) cs) k=fitBlk gl k c∧(srcBlk s gl0 k).ren (sigL s nx gl0)=some c∧c.isUnk=false∧(srcBlk s gl0 k).isUnk=false∧k<nx:=by
  intro k hk
  have hk0:=hk
  unfold memOf at hk ⊢
  cases hb:((List.range nx).zipWith (fitBlk gl) cs)[k]? with
  | none=>rw [hb] at hk;cases hk
  | some b =>
   rw [hb] at hk
   rw [List.getElem?_zipWith] at hb
   cases hr:(List.range nx)[k]? with
   | none=>rw [hr] at hb;cases hb
   | some k0 =>
    have hk0:k0=k∧k<nx:=by
     have hlt:k<nx:=by have:=(List.getElem?_eq_some_iff.1 hr).1;simpa using this
     rw [List.getElem?_range hlt] at hr
     cases hr;exact ⟨rfl,hlt⟩
    obtain ⟨rfl,hlt⟩:=hk0
    cases hc:cs[k0]? with
    | none=>rw [hr,hc] at hb;cases hb
    | some c =>
     rw [hr,hc] at hb
     cases hb
     obtain ⟨b0,hb0,hren⟩:=hcg k0 c hc
     rw [List.getElem?_map,hr] at hb0
     cases hb0
     rw [fitBlk_unk.1] at hk
     exact ⟨c,rfl,hren,hk,by rw [← (renB_unk hren).1];exact hk,hlt⟩
 have hMem:MemDen B M ρ2 (memOf ((List.range nx).zipWith (fitBlk gl) cs)) w:=by
  refine ⟨fun k hk=>?_,fun k k' m m' hne hk hk' hm hm'=>?_,h.mem.seal_,fun k m hk hm=>?_,h.mem.pv⟩
  ·obtain ⟨c,he,hren,_,hsu,hlt⟩:=hblk k hk
   rw [he]
   refine ⟨fun m hm=>?_,fun hn=>?_⟩
   ·obtain ⟨_,j,_,hj,hsb⟩:=hsn k m hm
    rw [hsb] at hren hsu
    obtain ⟨g1,g2,g3⟩:=h.mem.get hsu hj
    exact ⟨g1,fitBlk_den (renB_den hσ hren (fun _=>⟨fun _ _ _ h=>h,fun _ _ h=>h,fun _ _ h=>h⟩) g2),g3⟩
   ·rw [fitBlk_unk.2]
    refine (renB_unk hren).2 ?_
    have hn':(if k<nx then (match glAt gl0 k with | some g=>(match g.src s with | some j=>ρ j | none=>none) | none=>ρ k) else none)=none:=hn
    rw [if_pos hlt] at hn'
    unfold srcBlk at hsu ⊢
    cases hg:glAt gl0 k with
    | none=>rw [hg] at hn' hsu;exact (h.mem.at_ k hsu).2 hn'
    | some g =>
     rw [hg] at hn' hsu
     simp only at hn' hsu ⊢
     cases hs:g.src s with
     | none=>rfl
     | some j=>rw [hs] at hn' hsu;exact (h.mem.at_ j hsu).2 hn'
  ·obtain ⟨_,_,_,_,hsu,_⟩:=hblk k hk
   obtain ⟨_,_,_,_,hsu',_⟩:=hblk k' hk'
   obtain ⟨hl,j,hj1,hj2,hj3⟩:=hsn k m hm
   obtain ⟨hl',j',hj1',hj2',hj3'⟩:=hsn k' m' hm'
   exact h.mem.apart j j' m m' (fun e=>hne (snInj k k' j hl hl' hj1 (by rw [e];exact hj1'))) (by rw [← hj3];exact hsu) (by rw [← hj3'];exact hsu') hj2 hj2'
  ·obtain ⟨_,_,_,_,hsu,_⟩:=hblk k hk
   obtain ⟨_,j,_,hj2,hj3⟩:=hsn k m hm
   exact h.mem.free j m (by rw [← hj3];exact hsu) hj2
 have low:∀ i,i<w0.n→ρ2 i=ρ i:=by
  intro i hi
  rw [← h.nab] at hi
  show (if i<nx then (match glAt gl0 i with | some g=>(match g.src s with | some j=>ρ j | none=>none) | none=>ρ i) else none)=ρ i
  rw [if_pos (by omega)]
  cases hg:glAt gl0 i with
  | none=>rfl
  | some g =>
   obtain ⟨h1,h2⟩:=glAt_some hg
   have:=(glLow g h1).1
   omega
 refine ⟨ρ2,h.defs.map fun b o hb=>⟨hb.at_,fun k m hk hm=>?_,hb.nod,hb.nom⟩,h.size,fun i x hx=>?_,fun i hi=>?_,hMem,h.kept,h.base,⟨fun i m hm=>?_,h.ext.od⟩,h.argn,fun i hi=>by rw [low i hi];exact h.argl i hi,h.nab,by rw [← h.nab];exact hnx',h.odb,h.mz⟩
 ·obtain ⟨_,_,_,_,hsu,_⟩:=hblk k hk
  obtain ⟨_,j,_,hj2,hj3⟩:=hsn k m hm
  exact hb.off j m (by rw [← hj3];exact hsu) hj2
 ·show slotDen ρ2 a (look L (fitSlots gl L vs) i) x
  rcases look_get L (fitSlots gl L vs) i with e | ⟨p,hp1,hp2⟩
  ·rw [e];trivial
  ·have hng:∀ (p:Nat) (v:SV),vs[p]? = some v→∀ t pol u,v≠.gd t pol u:=fun p v hv=>by
    obtain ⟨u,_,hu⟩:=renL_get hvs hv
    exact ren_nogd hu
   refine slot_of (fit_nogd hng hp2) ?_
   obtain ⟨v,hv,hd⟩:=fitSlots_get hp2
   refine hd ρ2 x ?_
   obtain ⟨u,hu1,hu2⟩:=renL_get hvs hv
   unfold slots at hu1
   rw [List.getElem?_map,hp1] at hu1
   cases hu1
   exact ren_den hσ hu2 (fun _=>⟨fun _ _ _ h=>h,fun _ _ h=>h,fun _ _ h=>h⟩) (ren_slot hu2 (h.tmp i x hx))
 ·show (if i<nx then (match glAt gl0 i with | some g=>(match g.src s with | some j=>ρ j | none=>none) | none=>ρ i) else none)=none
  have hi':nx≤i:=hi
  rw [if_neg (by omega)]
 ·have hlt:i<w0.n:=by
   rcases Nat.lt_or_ge i w0.n with h1 | h1
   ·exact h1
   ·rw [h.argn i h1] at hm;cases hm
  rw [low i hlt]
  exact h.ext.nm i m hm
end runs
end Go.Sy
