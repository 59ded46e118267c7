/-
 A symbolic executor for the model's code, part U: states by lists, with slices that grow. Conditions: none.
-/
import Derived.Test.YtdcdjjogieojhaaGreatDoorJSyQ
namespace Go.Sy
set_option linter.unusedVariables false
set_option linter.unusedSimpArgs false
open Go.RowKit
set_option linter.unusedSectionVars false
variable [Globs]
section runs
variable {P:Program}
inductive H where
 | k
 | ro (sh:List Kd)
 | rp (sh:List Kd)
 | ra (sh:List Kd) (n:Nat)
 | gr (e:Nat) (sh:List Kd)
 | a (l:List H)
 | f (l:List H)
 | c (l:List H)
 | s (l:List H)
 | sp (l:List (List H))
structure LR (α:Type) where
 v:α
 srcs:List (Option Nat)
 bs:List Blk
 vw:List Nat
 ns:List Bool
def locK (mem:Nat→Blk) (v:SV) (j:Nat):Option (LR SV) :=
 match v with
 | .own i s n=>match mem i with
  | .row e sh m d=>some ⟨.own j s n,[some i],[.row e sh m d],[],[]⟩
  | _=>none
 | v=>match v.ren fun _=>none with
  | some v'=>some ⟨v',[],[],[],[]⟩
  | none=>none
def viewCells (mem:Nat→Blk):List Kd→List SV→Option (List SV × List Nat × List Bool)
 | [],vs=>match vs with
  | []=>some ([],[],[])
  | _=>none
 | kd :: ks,vs=>match vs with
  | []=>none
  | v :: vs=>match viewCells mem ks vs with
   | some (l,nm,ns)=>(match kd with
    | .sl sh=>(match rdS sh mem v with
     | some (n,d,ns')=>some (.ro sh n d :: l,nmS v ++ nm,ns' ++ ns)
     | none=>none)
    | .pt sh=>(match v with
     | .rq t sh' d k c=>(match kdsEq sh' sh&&Nat.beq k 0&&Nat.beq c 0 with
      | true=>some (.rp sh d 0 0 :: l,nm,t :: ns)
      | false=>none)
     | v=>(match (Kd.pt sh).ok v with
      | true=>some (v :: l,nm,ns)
      | false=>none))
    | _=>(match kd.ok v with
     | true=>some (v :: l,nm,ns)
     | false=>none))
   | none=>none
def locP (mem:Nat→Blk) (sh:List Kd) (v:SV):Option (LR SV) :=
 match v with
 | .ptr i o=>match mem i with
  | .cells _ l=>match viewCells mem sh l with
   | some (l',nm,ns)=>(match kdsB sh l' with
    | true=>some ⟨.rp sh (datC l') 0 o,[],[],i :: nm,ns⟩
    | false=>none)
   | none=>none
  | _=>none
 | .elt i size k c=>match mem i with
  | .row _ sh' m d=>match kdsEq sh' sh&&Nat.beq size sh.length with
   | true=>some ⟨.rp sh d k c,[],[],[i],[decide (k<m)]⟩
   | false=>none
  | _=>none
 | .rp sh' d k c=>match kdsLe sh' sh with
  | true=>some ⟨.rp sh d k c,[],[],[],[]⟩
  | false=>none
 | .rq t sh' d k c=>match kdsEq sh' sh with
  | true=>some ⟨.rp sh d k c,[],[],[],[t]⟩
  | false=>none
 | .rz t i sh' d=>match kdsLe sh' sh with
  | true=>some ⟨.rp sh d 0 0,[],[],[],[t]⟩
  | false=>none
 | _=>none
def locA (mem:Nat→Blk) (sh:List Kd) (n:Nat) (v:SV):Option (LR SV) :=
 match v with
 | .ptr i o=>match mem i with
  | .cells _ l=>match Nat.ble (o+n * sh.length) l.length&&(List.range n).all (fun q=>kdsB sh (((l.drop o).drop (q * sh.length)).take sh.length)) with
   | true=>some ⟨.ra sh n (datS (l.drop o) sh.length),[],[],[i],[]⟩
   | false=>none
  | _=>none
 | .ra sh' n' d=>match kdsEq sh' sh&&Nat.beq n n' with
  | true=>some ⟨.ra sh n d,[],[],[],[]⟩
  | false=>none
 | _=>none
def locG (mem:Nat→Blk) (e:Nat) (sh:List Kd) (v:SV) (j:Nat):Option (LR SV) :=
 match v with
 | .nsl=>some ⟨.gr j sh.length 0,[none],[.row e sh 0 noDat],[],[]⟩
 | .gr i s n=>match mem i with
  | .row e' sh' m d=>match Nat.beq e e'&&kdsEq sh' sh&&Nat.beq s sh.length with
   | true=>some ⟨.gr j s n,[some i],[.row e sh m d],[],[]⟩
   | false=>none
  | _=>none
 | .own i s n=>match mem i with
  | .row e' sh' m d=>match Nat.beq e e'&&kdsEq sh' sh&&Nat.beq s sh.length with
   | true=>some ⟨.gr j s n,[some i],[.row e sh m d],[],[]⟩
   | false=>none
  | _=>none
 | _=>none
def ptrsL:List SV→List Nat→Option (List Nat)
 | [],acc=>some acc
 | v :: l,acc=>match v with
  | .ptr j _=>ptrsL l (match acc.any (Nat.beq j) with | true=>acc | false=>acc ++ [j])
  | .ifc _ [.ptr j _]=>ptrsL l (match acc.any (Nat.beq j) with | true=>acc | false=>acc ++ [j])
  | _=>ptrsL l acc
def assocN:List (Nat × Nat)→Nat→Option Nat
 | [],_=>none
 | p :: l,q=>match Nat.beq p.1 q with
  | true=>some p.2
  | false=>assocN l q
theorem assocN_mem:∀ {l:List (Nat × Nat)} {q t:Nat},assocN l q=some t→(q,t)∈l
 | p :: l,q,t,h=>by
  simp only [assocN] at h
  split at h
  ·rename_i e;rw [Nat.beq_eq] at e;cases h;subst e;exact List.mem_cons_self
  ·exact List.mem_cons_of_mem _ (assocN_mem h)
mutual
def locV (mem:Nat→Blk):H→SV→Nat→Option (LR SV)
 | .k,v,j=>locK mem v j
 | .ro sh,v,_=>match rdS sh mem v with
  | some (n,d,ns)=>some ⟨.ro sh n d,[],[],nmS v,ns⟩
  | none=>none
 | .rp sh,v,_=>locP mem sh v
 | .ra sh n,v,_=>locA mem sh n v
 | .gr e sh,v,j=>locG mem e sh v j
 | .a l,v,j=>match v with
  | .agg vs=>match locVs mem l vs j with
   | some r=>some ⟨.agg r.v,r.srcs,r.bs,r.vw,r.ns⟩
   | none=>none
  | _=>none
 | .f l,v,j=>match v with
  | .fn id vs=>match locVs mem l vs j with
   | some r=>some ⟨.fn id r.v,r.srcs,r.bs,r.vw,r.ns⟩
   | none=>none
  | .fb id vs=>match locVs mem l vs j with
   | some r=>some ⟨.fb id r.v,r.srcs,r.bs,r.vw,r.ns⟩
   | none=>none
  | _=>none
 | .c l,v,j=>match v with
  | .ptr i o=>match mem i with
   | .cells e cs=>match locVs mem l cs (j+1) with
    | some r=>some ⟨.ptr j o,some i :: r.srcs,.cells e r.v :: r.bs,r.vw,r.ns⟩
    | none=>none
   | _=>none
  | _=>none
 | .s l,v,j=>match v with
  | .ptr i o=>match mem i with
   | .cells e cs=>match cs with
    | .ptr i' 0 :: cs'=>match Nat.beq i' i with
     | true=>match locVs mem l cs' (j+1) with
      | some r=>some ⟨.ptr j o,some i :: r.srcs,.cells e (.ptr j 0 :: r.v) :: r.bs,r.vw,r.ns⟩
      | none=>none
     | false=>none
    | _=>none
   | _=>none
  | _=>none
 | .sp l,v,j=>match v with
  | .slc i s k n=>match k,mem i with
   | 0,.cells e cs=>match ptrsL cs [] with
    | some js=>match locBs mem l js (j+1) with
     | some r=>match SV.renL (assocN r.v) cs with
      | some cs'=>some ⟨.slc j s 0 n,some i :: r.srcs,.cells e cs' :: r.bs,r.vw,r.ns⟩
      | none=>none
     | none=>none
    | none=>none
   | _,_=>none
  | _=>none
def locVs (mem:Nat→Blk):List H→List SV→Nat→Option (LR (List SV))
 | [],vs,_=>match vs with
  | []=>some ⟨[],[],[],[],[]⟩
  | _=>none
 | h :: hs,vs,j=>match vs with
  | []=>none
  | v :: vs=>match locV mem h v j with
   | some r=>match locVs mem hs vs (j+r.srcs.length) with
    | some q=>some ⟨r.v :: q.v,r.srcs ++ q.srcs,r.bs ++ q.bs,r.vw ++ q.vw,r.ns ++ q.ns⟩
    | none=>none
   | none=>none
def locBs (mem:Nat→Blk):List (List H)→List Nat→Nat→Option (LR (List (Nat × Nat)))
 | [],js,_=>match js with
  | []=>some ⟨[],[],[],[],[]⟩
  | _=>none
 | h :: hs,js,j=>match js with
  | []=>none
  | q :: js=>match mem q with
   | .cells e cs=>match locVs mem h cs (j+1) with
    | some r=>match locBs mem hs js (j+(1+r.srcs.length)) with
     | some p=>some ⟨(q,j) :: p.v,(some q :: r.srcs) ++ p.srcs,(.cells e r.v :: r.bs) ++ p.bs,r.vw ++ p.vw,r.ns ++ p.ns⟩
     | none=>none
    | none=>none
   | _=>none
end
structure Good (ρ ρ1:Env) (w:World) (mem:Nat→Blk) (j:Nat) (srcs:List (Option Nat)) (vw:List Nat):Prop where
 nm:∀ t i,srcs[t]? = some (some i)→∀ m,ρ i=some m→ρ1 (j+t)=some m
 od:OdExt ρ.od ρ1.od
 vw:∀ i∈vw,(mem i).isUnk=false→∀ m,ρ i=some m→∀ o y,w.cell? ⟨m.blk,o,none⟩=some y→ρ1.od m.blk o=some y
def BlkOk (ρ ρ1:Env) (w:World) (mem:Nat→Blk) (b:Blk):Option Nat→Prop
 | none=>b.ghost∧b.isUnk=false
 | some i=>(mem i).isUnk=false∧b.isUnk=false∧((mem i).ghost→b.ghost)∧∀ m,ρ i=some m→b.den ρ1 w m
structure LocOk (ρ ρ1:Env) (w:World) (mem:Nat→Blk) (srcs:List (Option Nat)) (bs:List Blk) (vw:List Nat):Prop where
 len:bs.length=srcs.length
 blk:∀ (t:Nat) (b:Blk) (s:Option Nat),bs[t]? = some b→srcs[t]? = some s→BlkOk ρ ρ1 w mem b s
 known:∀ i∈vw,(mem i).isUnk=false
theorem LocOk.nil {ρ ρ1:Env} {w:World} {mem:Nat→Blk}:LocOk ρ ρ1 w mem [] [] []:=⟨rfl,fun t b s h=>by simp at h,fun i h=>by simp at h⟩
theorem LocOk.one {ρ ρ1:Env} {w:World} {mem:Nat→Blk} {b:Blk} {s:Option Nat} (h:BlkOk ρ ρ1 w mem b s):LocOk ρ ρ1 w mem [s] [b] []:=⟨rfl,fun t b' s' h1 h2=>by
 cases t with
 | zero=>simp at h1 h2;subst h1;subst h2;exact h
 | succ t=>simp at h1,fun i h=>by simp at h⟩
theorem LocOk.append {ρ ρ1:Env} {w:World} {mem:Nat→Blk} {s1 s2:List (Option Nat)} {b1 b2:List Blk} {v1 v2:List Nat} (h:LocOk ρ ρ1 w mem s1 b1 v1) (k:LocOk ρ ρ1 w mem s2 b2 v2):LocOk ρ ρ1 w mem (s1 ++ s2) (b1 ++ b2) (v1 ++ v2):=by
 refine ⟨by simp [h.len,k.len],fun t b s h1 h2=>?_,fun i hi=>(List.mem_append.1 hi).elim (h.known i) (k.known i)⟩
 rw [List.getElem?_append] at h1 h2
 rw [h.len] at h1
 split at h1
 ·rename_i hlt;rw [if_pos hlt] at h2;exact h.blk t b s h1 h2
 ·rename_i hlt;rw [if_neg hlt] at h2;exact k.blk _ b s h1 h2
theorem Good.left {ρ ρ1:Env} {w:World} {mem:Nat→Blk} {j:Nat} {s1 s2:List (Option Nat)} {v1 v2:List Nat} (h:Good ρ ρ1 w mem j (s1 ++ s2) (v1 ++ v2)):Good ρ ρ1 w mem j s1 v1 :=
 ⟨fun t i ht=>h.nm t i (by rw [List.getElem?_append_left (List.getElem?_eq_some_iff.1 ht).1];exact ht),h.od,fun i hi=>h.vw i (List.mem_append.2 (.inl hi))⟩
theorem Good.right {ρ ρ1:Env} {w:World} {mem:Nat→Blk} {j:Nat} {s1 s2:List (Option Nat)} {v1 v2:List Nat} (h:Good ρ ρ1 w mem j (s1 ++ s2) (v1 ++ v2)):Good ρ ρ1 w mem (j+s1.length) s2 v2 :=
 ⟨fun t i ht m hm=>by
  have:=h.nm (s1.length+t) i (by rw [List.getElem?_append_right (by omega),Nat.add_sub_cancel_left];exact ht) m hm
  rwa [Nat.add_assoc],h.od,fun i hi=>h.vw i (List.mem_append.2 (.inr hi))⟩
section
variable {B:Nat} {M:List Nat} {ρ ρ1:Env} {mem:Nat→Blk} {w:World}
theorem row_ok (hm:MemDen B M ρ mem w) (ho:OdExt ρ.od ρ1.od) {i e:Nat} {sh:List Kd} {m:Nat} {d:Dat} (hi:mem i=.row e sh m d):BlkOk ρ ρ1 w mem (.row e sh m d) (some i):=by
 refine ⟨by rw [hi];rfl,rfl,fun h=>by rw [hi] at h;exact h,fun mm hmm=>?_⟩
 have:=(hm.get (by rw [hi];rfl) hmm).2.1
 rw [hi] at this
 exact renB_den (σ:=fun _=>none) (fun _ _ h=>by cases h) rfl (fun _=>ho) this
theorem cells_ok {e:Nat} {cs cs':List SV} (_:True) {i:Nat} (hi:mem i=.cells e cs) (hd:∀ xs,SV.denL ρ cs xs→SV.denL ρ1 cs' xs) (hm:MemDen B M ρ mem w):BlkOk ρ ρ1 w mem (.cells e cs') (some i):=by
 refine ⟨by rw [hi];rfl,rfl,fun h=>by rw [hi] at h;exact h.elim,fun mm hmm=>?_⟩
 have:=(hm.get (by rw [hi];rfl) hmm).2.1
 rw [hi] at this
 obtain ⟨h0,c,hc,hl⟩:=this
 exact ⟨h0,c,hc,hd _ hl⟩
theorem locK_den (hm:MemDen B M ρ mem w) {v:SV} {j:Nat} {r:LR SV} (h:locK mem v j=some r) (hg:Good ρ ρ1 w mem j r.srcs r.vw):LocOk ρ ρ1 w mem r.srcs r.bs r.vw∧∀ x,v.den ρ x→r.v.den ρ1 x:=by
 unfold locK at h
 split at h
 ·rename_i i s n
  split at h <;> cases h
  rename_i e sh m d hi
  refine ⟨.one (row_ok hm hg.od hi),fun x ⟨mm,hmm,e⟩=>⟨mm,?_,e⟩⟩
  exact hg.nm 0 i rfl mm hmm
 ·split at h <;> cases h
  rename_i v' hv'
  exact ⟨.nil,fun x hx=>ren_den (fun _ _ h=>by cases h) hv' (fun _=>hg.od) hx⟩
theorem okPlain_den (ho:OdExt ρ.od ρ1.od) {kd:Kd} {v:SV} {x:Value} (h:kd.ok v=true) (hs:∀ sh,kd≠.sl sh) (hd:v.den ρ x):v.den ρ1 x:=by
 cases kd <;> cases v <;> simp only [Kd.ok,Bool.false_eq_true] at h <;> first | exact hd | exact absurd rfl (hs _) | exact Kd.den_mono ho hd | exact hd.imp (fun ⟨t,b,e,hp,hL⟩=>⟨t,b,e,ho.p _ _ hp,Kd.denL_mono ho hL⟩) id | (obtain ⟨b,o,e,hL⟩:=hd;exact ⟨b,o,e,Kd.denL_mono ho hL⟩)
theorem viewCells_den (hm:MemDen B M ρ mem w) (ho:OdExt ρ.od ρ1.od):∀ {ks:List Kd} {vs l:List SV} {nm:List Nat} {ns:List Bool},viewCells mem ks vs=some (l,nm,ns)→(∀ b∈ns,b=true)→(∀ i∈nm,(mem i).isUnk=false→∀ m,ρ i=some m→∀ o y,w.cell? ⟨m.blk,o,none⟩=some y→ρ1.od m.blk o=some y) →
  (∀ i∈nm,(mem i).isUnk=false)∧∀ xs,SV.denL ρ vs xs→SV.denL ρ1 l xs
 | [],vs,l,nm,ns,h,_,_=>by
  simp only [viewCells] at h
  split at h <;> cases h
  exact ⟨fun i hi=>by simp at hi,fun xs hx=>by
   cases xs with
   | nil=>trivial
   | cons _ _=>exact hx.elim⟩
 | kd :: ks,vs,l,nm,ns,h,hn,hv=>by
  simp only [viewCells] at h
  split at h <;> try (cases h;done)
  rename_i v vs
  split at h <;> try (cases h;done)
  rename_i l0 nm0 ns0 h0
  split at h
  ·rename_i sh
   split at h <;> cases h
   rename_i n d ns' hr
   obtain ⟨k1,k2⟩:=viewCells_den hm ho h0 (fun b hb=>hn b (List.mem_append.2 (.inr hb))) (fun i hi=>hv i (List.mem_append.2 (.inr hi)))
   refine ⟨fun i hi=>(List.mem_append.1 hi).elim (rdS_known hr i) (k1 i),fun xs hx=>?_⟩
   cases xs with
   | nil=>exact hx.elim
   | cons x xs =>
    have:=reads_ro ho (rdS_reads hm (C:=fun b o y=>ρ1.od b o=some y) (fun b o y hy=>ho b o y hy) (fun i m hi hmi o y hy=>hv i (List.mem_append.2 (.inl hi)) (rdS_known hr i hi) m hmi o y hy) hr (fun b hb=>hn b (List.mem_append.2 (.inl hb))) hx.1)
    exact ⟨this,k2 xs hx.2⟩
  ·rename_i sh
   split at h
   ·rename_i t sh' d kk cc
    split at h <;> cases h
    rename_i hb
    simp only [Bool.and_eq_true] at hb
    obtain ⟨k1,k2⟩:=viewCells_den hm ho h0 (fun b hb=>hn b (List.mem_cons_of_mem _ hb)) hv
    refine ⟨k1,fun xs hx=>?_⟩
    cases xs with
    | nil=>exact hx.elim
    | cons x xs =>
     have e1:=kdsEq_ok hb.1.1
     have e2:=Nat.eq_of_beq_eq_true hb.1.2
     have e3:=Nat.eq_of_beq_eq_true hb.2
     subst e1;subst e2;subst e3
     have ht:=hn t (List.mem_cons_self)
     rcases hx.1 with ⟨_,b,o,e,hL⟩ | ⟨hf,_⟩
     ·exact ⟨⟨b,o,e,Kd.denL_mono ho hL⟩,k2 xs hx.2⟩
     ·rw [ht] at hf;cases hf
   ·split at h <;> cases h
    rename_i hok
    obtain ⟨k1,k2⟩:=viewCells_den hm ho h0 hn hv
    refine ⟨k1,fun xs hx=>?_⟩
    cases xs with
    | nil=>exact hx.elim
    | cons x xs=>exact ⟨okPlain_den ho hok (fun sh e=>by cases e) hx.1,k2 xs hx.2⟩
  ·rename_i hns1 hns
   split at h <;> cases h
   rename_i hok
   obtain ⟨k1,k2⟩:=viewCells_den hm ho h0 hn hv
   refine ⟨k1,fun xs hx=>?_⟩
   cases xs with
   | nil=>exact hx.elim
   | cons x xs=>exact ⟨okPlain_den ho hok (fun sh e=>hns1 sh e) hx.1,k2 xs hx.2⟩
theorem locP_den (hm:MemDen B M ρ mem w) {sh:List Kd} {v:SV} {j:Nat} {r:LR SV} (h:locP mem sh v=some r) (hn:∀ b∈r.ns,b=true) (hg:Good ρ ρ1 w mem j r.srcs r.vw):LocOk ρ ρ1 w mem r.srcs r.bs r.vw∧∀ x,v.den ρ x→r.v.den ρ1 x:=by
 have elden:∀ {q j:Nat} {u:SV} {d:Dat} {y:Value},(el sh d q)[j]? = some u→u.den ρ y→u.den ρ1 y:=fun {q j u d y} hu hd=>by
  rw [el_get] at hu
  cases hs:sh[j]? with
  | none=>rw [hs] at hu;cases hu
  | some kd=>rw [hs] at hu;cases hu;rw [kdSV_den] at hd ⊢;exact Kd.den_mono hg.od hd
 unfold locP at h
 split at h <;> try (cases h;done)
 ·rename_i i o
  split at h <;> try (cases h;done)
  rename_i e l hi
  split at h <;> try (cases h;done)
  rename_i l' nm' ns' hvc
  split at h <;> cases h
  rename_i hk
  obtain ⟨k1,k2⟩:=viewCells_den (ρ1:=ρ1) hm hg.od hvc hn (fun i hi=>hg.vw i (List.mem_cons_of_mem _ hi))
  refine ⟨⟨rfl,fun t b s h=>by simp at h,fun i' hi'=>?_⟩,?_⟩
  ·rcases List.mem_cons.1 hi' with rfl | hi'
   ·rw [hi];rfl
   ·exact k1 i' hi'
  rintro x ⟨m,hmi,rfl⟩
  obtain ⟨_,hb,_⟩:=hm.get (by rw [hi];rfl) hmi
  rw [hi] at hb
  obtain ⟨h0,c,hc,hl⟩:=hb
  refine ⟨m.blk,m.off,rfl,?_⟩
  rw [kdE_iff]
  intro c' u hu
  rw [el_datC hk] at hu
  obtain ⟨y,hy,hd⟩:=denL_get (k2 _ hl) hu
  refine ⟨y,hg.vw i (by simp) (by rw [hi];rfl) m hmi _ y ?_,hd⟩
  rw [h0,Nat.zero_add,cell_of_row w m.blk _ c e (0,0) hc,← Array.getElem?_toList]
  exact hy
 ·rename_i i size k c
  split at h <;> try (cases h;done)
  rename_i e sh' m0 d hi
  split at h <;> cases h
  rename_i hb
  simp only [Bool.and_eq_true] at hb
  have e1:=kdsEq_ok hb.1
  subst e1
  have hsz:size=sh'.length:=by simpa using hb.2
  have hlt:k<m0:=by simpa using hn
  refine ⟨⟨rfl,fun t b s h=>by simp at h,fun i' hi'=>by simp at hi';subst hi';rw [hi];rfl⟩,?_⟩
  rintro x ⟨m,hmi,rfl⟩
  obtain ⟨_,hb,_⟩:=hm.get (by rw [hi];rfl) hmi
  rw [hi] at hb
  refine ⟨m.blk,m.off+k * size,by rw [Nat.add_assoc],?_⟩
  rw [kdE_iff]
  intro c' u hu
  obtain ⟨y,hy,hd⟩:=(hb.2.2.2 k hlt).2 c' u hu
  refine ⟨y,hg.vw i (by simp) (by rw [hi];rfl) m hmi _ y ?_,elden hu hd⟩
  rw [← hy,hsz,Nat.add_assoc]
 ·rename_i sh' d k c
  split at h <;> cases h
  rename_i he
  exact ⟨.nil,fun x ⟨b,o,e,hL⟩=>⟨b,o,e,(kdsLe_ok he).2 (Kd.denL_mono hg.od hL)⟩⟩
 ·rename_i t sh' d k c
  split at h <;> cases h
  rename_i he
  have e1:=kdsEq_ok he
  subst e1
  have ht:t=true:=hn t (by simp)
  refine ⟨.nil,fun x hx=>?_⟩
  rcases hx with ⟨_,b,o,e,hL⟩ | ⟨hf,_⟩
  ·exact ⟨b,o,e,Kd.denL_mono hg.od hL⟩
  ·rw [ht] at hf;cases hf
 ·rename_i t i sh' d
  split at h <;> cases h
  rename_i he
  have ht:t=true:=hn t (by simp)
  refine ⟨.nil,fun x hx=>?_⟩
  rcases hx with ⟨_,b,e,hp,hL⟩ | ⟨hf,_⟩
  ·exact ⟨b,0,e,(kdsLe_ok he).2 (Kd.denL_mono hg.od hL)⟩
  ·rw [ht] at hf;cases hf
theorem locA_den (hm:MemDen B M ρ mem w) {sh:List Kd} {n:Nat} {v:SV} {j:Nat} {r:LR SV} (h:locA mem sh n v=some r) (hg:Good ρ ρ1 w mem j r.srcs r.vw):LocOk ρ ρ1 w mem r.srcs r.bs r.vw∧∀ x,v.den ρ x→r.v.den ρ1 x:=by
 unfold locA at h
 split at h <;> try (cases h;done)
 ·rename_i i o
  split at h <;> try (cases h;done)
  rename_i e l hi
  split at h <;> cases h
  rename_i hb
  simp only [Bool.and_eq_true,List.all_eq_true,List.mem_range] at hb
  refine ⟨⟨rfl,fun t b s h=>by simp at h,fun i' hi'=>by simp at hi';subst hi';rw [hi];rfl⟩,?_⟩
  rintro x ⟨m,hmi,rfl⟩
  obtain ⟨_,hbk,_⟩:=hm.get (by rw [hi];rfl) hmi
  rw [hi] at hbk
  obtain ⟨h0,c,hc,hl⟩:=hbk
  refine ⟨m.blk,m.off+o,rfl,fun q hq=>?_⟩
  rw [kdE_iff]
  intro c' u hu
  have hk:=hb.2 q hq
  have hu':=hu
  rw [el_datS hk,List.getElem?_take] at hu
  split at hu <;> try (cases hu;done)
  rw [List.getElem?_drop,List.getElem?_drop] at hu
  obtain ⟨y,hy,hd⟩:=denL_get hl hu
  refine ⟨y,hg.vw i (by simp) (by rw [hi];rfl) m hmi _ y ?_,?_⟩
  ·rw [h0,Nat.zero_add,cell_of_row w m.blk _ c e (0,0) hc,← Array.getElem?_toList,← hy]
   congr 1
   omega
  ·rw [el_get] at hu'
   cases hs:sh[c']? with
   | none=>rw [hs] at hu';cases hu'
   | some kd=>rw [hs] at hu';cases hu';rw [kdSV_den] at hd ⊢;exact Kd.den_mono hg.od hd
 ·rename_i sh' n' d
  split at h <;> cases h
  rename_i he
  simp only [Bool.and_eq_true] at he
  have e1:=kdsEq_ok he.1
  subst e1
  have e2:n=n':=by simpa using he.2
  subst e2
  exact ⟨.nil,fun x ⟨b,o,e,hL⟩=>⟨b,o,e,fun q hq=>Kd.denL_mono hg.od (hL q hq)⟩⟩
theorem locG_den (hm:MemDen B M ρ mem w) {e:Nat} {sh:List Kd} {v:SV} {j:Nat} {r:LR SV} (h:locG mem e sh v j=some r) (hg:Good ρ ρ1 w mem j r.srcs r.vw):LocOk ρ ρ1 w mem r.srcs r.bs r.vw∧∀ x,v.den ρ x→r.v.den ρ1 x:=by
 unfold locG at h
 split at h <;> try (cases h;done)
 ·cases h
  exact ⟨.one ⟨rfl,rfl⟩,fun x hx=>.inl ⟨rfl,none,hx⟩⟩
 ·rename_i i s n
  split at h <;> try (cases h;done)
  rename_i e' sh' m d hi
  split at h <;> cases h
  rename_i hb
  simp only [Bool.and_eq_true] at hb
  have e1:=kdsEq_ok hb.1.2
  subst e1
  have e2:e=e':=by simpa using hb.1.1
  subst e2
  exact ⟨.one (row_ok hm hg.od hi),fun x hx=>hx.imp id fun ⟨mm,hmm,e⟩=>⟨mm,hg.nm 0 i rfl mm hmm,e⟩⟩
 ·rename_i i s n
  split at h <;> try (cases h;done)
  rename_i e' sh' m d hi
  split at h <;> cases h
  rename_i hb
  simp only [Bool.and_eq_true] at hb
  have e1:=kdsEq_ok hb.1.2
  subst e1
  have e2:e=e':=by simpa using hb.1.1
  subst e2
  exact ⟨.one (row_ok hm hg.od hi),fun x ⟨mm,hmm,e⟩=>.inr ⟨mm,hg.nm 0 i rfl mm hmm,e⟩⟩
mutual
theorem locV_den (hm:MemDen B M ρ mem w):∀ {h:H} {v:SV} {j:Nat} {r:LR SV},locV mem h v j=some r→(∀ b∈r.ns,b=true)→Good ρ ρ1 w mem j r.srcs r.vw→LocOk ρ ρ1 w mem r.srcs r.bs r.vw∧∀ x,v.den ρ x→r.v.den ρ1 x
 | .k,v,j,r,h,_,hg=>locK_den hm (by simpa only [locV] using h) hg
 | .ro sh,v,j,r,h,hn,hg=>by
  simp only [locV] at h
  split at h <;> cases h
  rename_i n d ns hr
  refine ⟨⟨rfl,fun t b s h=>by simp at h,rdS_known hr⟩,fun x hx=>?_⟩
  have:=reads_ro hg.od (rdS_reads hm (C:=fun b o y=>ρ1.od b o=some y) (fun b o y hy=>hg.od b o y hy) (fun i m hi hmi o y hy=>hg.vw i hi (rdS_known hr i hi) m hmi o y hy) hr hn hx)
  exact this
 | .rp sh,v,j,r,h,hn,hg=>locP_den hm (by simpa only [locV] using h) hn hg
 | .ra sh n,v,j,r,h,_,hg=>locA_den hm (by simpa only [locV] using h) hg
 | .gr e sh,v,j,r,h,_,hg=>locG_den hm (by simpa only [locV] using h) hg
 | .a l,v,j,r,h,hn,hg=>by
  simp only [locV] at h
  split at h <;> try (cases h;done)
  split at h <;> cases h
  rename_i q hq
  obtain ⟨h1,h2⟩:=locVs_den hm hq hn hg
  exact ⟨h1,fun x ⟨xs,e,hd⟩=>⟨xs,e,h2 xs hd⟩⟩
 | .f l,v,j,r,h,hn,hg=>by
  simp only [locV] at h
  split at h <;> try (cases h;done)
  ·split at h <;> cases h
   rename_i q hq
   obtain ⟨h1,h2⟩:=locVs_den hm hq hn hg
   exact ⟨h1,fun x ⟨xs,e,hd⟩=>⟨xs,e,h2 xs hd⟩⟩
  ·split at h <;> cases h
   rename_i q hq
   obtain ⟨h1,h2⟩:=locVs_den hm hq hn hg
   exact ⟨h1,fun x ⟨xs,e,hd⟩=>⟨xs,e,h2 xs hd⟩⟩
 | .c l,v,j,r,h,hn,hg=>by
  simp only [locV] at h
  split at h <;> try (cases h;done)
  rename_i i o
  split at h <;> try (cases h;done)
  rename_i e cs hi
  split at h <;> cases h
  rename_i q hq
  have hg':Good ρ ρ1 w mem (j+1) q.srcs q.vw:=Good.right (s1:=[some i]) (v1:=[]) hg
  obtain ⟨h1,h2⟩:=locVs_den hm hq hn hg'
  refine ⟨LocOk.append (LocOk.one (cells_ok trivial hi h2 hm)) h1,fun x ⟨m,hmi,e⟩=>⟨m,?_,e⟩⟩
  exact hg.nm 0 i rfl m hmi
 | .s l,v,j,r,h,hn,hg=>by
  simp only [locV] at h
  split at h <;> try (cases h;done)
  rename_i i o
  split at h <;> try (cases h;done)
  rename_i e cs hi
  split at h <;> try (cases h;done)
  rename_i i' cs'
  split at h <;> try (cases h;done)
  rename_i hb
  rw [Nat.beq_eq] at hb
  subst hb
  split at h <;> cases h
  rename_i q hq
  have hg':Good ρ ρ1 w mem (j+1) q.srcs q.vw:=Good.right (s1:=[some i']) (v1:=[]) hg
  obtain ⟨h1,h2⟩:=locVs_den hm hq hn hg'
  have hself:∀ m,ρ i'=some m→ρ1 j=some m:=fun m hmi=>hg.nm 0 i' rfl m hmi
  refine ⟨LocOk.append (LocOk.one (cells_ok trivial hi (fun xs hx=>?_) hm)) h1,fun x ⟨m,hmi,e⟩=>⟨m,hself m hmi,e⟩⟩
  cases xs with
  | nil=>exact hx.elim
  | cons x xs =>
   obtain ⟨⟨m,hmi,e⟩,hl⟩:=hx
   exact ⟨⟨m,hself m hmi,e⟩,h2 xs hl⟩
 | .sp l,v,j,r,h,hn,hg=>by
  simp only [locV] at h
  split at h <;> try (cases h;done)
  rename_i i s k n
  split at h <;> try (cases h;done)
  rename_i k' e cs hi
  split at h <;> try (cases h;done)
  rename_i js hjs
  split at h <;> try (cases h;done)
  rename_i q hq
  split at h <;> cases h
  rename_i cs' hcs
  have hg':Good ρ ρ1 w mem (j+1) q.srcs q.vw:=Good.right (s1:=[some i]) (v1:=[]) hg
  obtain ⟨h1,h2⟩:=locBs_den hm hq hn hg'
  refine ⟨LocOk.append (LocOk.one (cells_ok trivial hi (fun xs hx=>?_) hm)) h1,fun x ⟨A,c,e,hc,hA⟩=>⟨A,c,e,hc,fun h0=>let ⟨m,hmi,ha⟩:=hA h0;⟨m,hg.nm 0 i rfl m hmi,ha⟩⟩⟩
  exact renL_den (fun a b hab m hmi=>h2 a b (assocN_mem hab) m hmi) hcs (fun _=>hg.od) hx
theorem locVs_den (hm:MemDen B M ρ mem w):∀ {h:List H} {v:List SV} {j:Nat} {r:LR (List SV)},locVs mem h v j=some r→(∀ b∈r.ns,b=true)→Good ρ ρ1 w mem j r.srcs r.vw→LocOk ρ ρ1 w mem r.srcs r.bs r.vw∧∀ xs,SV.denL ρ v xs→SV.denL ρ1 r.v xs
 | [],v,j,r,h,_,_=>by
  simp only [locVs] at h
  split at h <;> cases h
  exact ⟨.nil,fun xs hx=>by
   cases xs with
   | nil=>trivial
   | cons _ _=>exact hx.elim⟩
 | h0 :: hs,v,j,r,h,hn,hg=>by
  simp only [locVs] at h
  split at h <;> try (cases h;done)
  rename_i v vs
  split at h <;> try (cases h;done)
  rename_i r0 hr0
  split at h <;> cases h
  rename_i q hq
  obtain ⟨h1,h2⟩:=locV_den hm hr0 (fun b hb=>hn b (List.mem_append.2 (.inl hb))) hg.left
  obtain ⟨k1,k2⟩:=locVs_den hm hq (fun b hb=>hn b (List.mem_append.2 (.inr hb))) hg.right
  refine ⟨h1.append k1,fun xs hx=>?_⟩
  cases xs with
  | nil=>exact hx.elim
  | cons x xs=>exact ⟨h2 x hx.1,k2 xs hx.2⟩
theorem locBs_den (hm:MemDen B M ρ mem w):∀ {h:List (List H)} {js:List Nat} {j:Nat} {r:LR (List (Nat × Nat))},locBs mem h js j=some r→(∀ b∈r.ns,b=true)→Good ρ ρ1 w mem j r.srcs r.vw→LocOk ρ ρ1 w mem r.srcs r.bs r.vw∧∀ q t,(q,t)∈r.v→∀ m,ρ q=some m→ρ1 t=some m
 | [],js,j,r,h,_,_=>by
  simp only [locBs] at h
  split at h <;> cases h
  exact ⟨.nil,fun q t hqt=>by simp at hqt⟩
 | h0 :: hs,js,j,r,h,hn,hg=>by
  simp only [locBs] at h
  split at h <;> try (cases h;done)
  rename_i q js
  split at h <;> try (cases h;done)
  rename_i e cs hi
  split at h <;> try (cases h;done)
  rename_i r0 hr0
  split at h <;> cases h
  rename_i p hp
  have hgl:Good ρ ρ1 w mem j (some q :: r0.srcs) r0.vw:=hg.left
  have hg1:Good ρ ρ1 w mem (j+1) r0.srcs r0.vw:=Good.right (s1:=[some q]) (v1:=[]) hgl
  have hg2:Good ρ ρ1 w mem (j+(1+r0.srcs.length)) p.srcs p.vw:=by
   have:=hg.right
   rwa [show (some q :: r0.srcs).length=1+r0.srcs.length by simp [Nat.add_comm]] at this
  obtain ⟨h1,h2⟩:=locVs_den hm hr0 (fun b hb=>hn b (List.mem_append.2 (.inl hb))) hg1
  obtain ⟨k1,k2⟩:=locBs_den hm hp (fun b hb=>hn b (List.mem_append.2 (.inr hb))) hg2
  refine ⟨(LocOk.append (LocOk.one (cells_ok trivial hi h2 hm)) h1).append k1,fun a t hat m hmi=>?_⟩
  rcases List.mem_cons.1 hat with e | hat
  ·cases e
   exact hgl.nm 0 q rfl m hmi
  ·exact k2 a t hat m hmi
end
end
def memOf (bs:List Blk):Nat→Blk:=fun i=>match bs[i]? with | some b=>b | none=>.unk
def someL:List (Option Nat)→List Nat
 | []=>[]
 | some i :: l=>i :: someL l
 | none :: l=>someL l
theorem someL_mem:∀ {l:List (Option Nat)} {t i:Nat},l[t]? = some (some i)→i∈someL l
 | a :: l,0,i,h=>by simp at h;subst h;simp [someL]
 | a :: l,t+1,i,h=>by
  have:=someL_mem (l:=l) (t:=t) (by simpa using h)
  cases a <;> simp [someL,this]
theorem someL_nodup:∀ {l:List (Option Nat)},nodupB (someL l)=true→∀ {t t' i:Nat},l[t]? = some (some i)→l[t']? = some (some i)→t=t'
 | [],_,t,_,_,h,_=>by simp at h
 | none :: l,hn,t,t',i,h,h'=>by
  cases t with
  | zero=>simp at h
  | succ t=>cases t' with
   | zero=>simp at h'
   | succ t'=>exact congrArg (·+1) (someL_nodup (l:=l) hn (by simpa using h) (by simpa using h'))
 | some a :: l,hn,t,t',i,h,h'=>by
  simp only [someL,nodupB,Bool.and_eq_true,Bool.not_eq_true',List.any_eq_false] at hn
  have hno:∀ x∈someL l,x≠a:=fun x hx e=>hn.1 x hx (by rw [Nat.beq_eq];exact e)
  cases t with
  | zero=>cases t' with
   | zero=>rfl
   | succ t'=>simp at h;subst h;exact absurd rfl (hno _ (someL_mem (t:=t') (by simpa using h')))
  | succ t=>cases t' with
   | zero=>simp at h';subst h';exact absurd rfl (hno _ (someL_mem (t:=t) (by simpa using h)))
   | succ t'=>exact congrArg (·+1) (someL_nodup (l:=l) hn.2 (by simpa using h) (by simpa using h'))
def srcAt (srcs:List (Option Nat)) (t:Nat):Option Nat:=match srcs[t]? with | some s=>s | none=>none
def sigC (srcs:List (Option Nat)) (off:Nat) (t:Nat):Option Nat:=match Nat.blt t srcs.length with
 | true=>srcAt srcs t
 | false=>some (off+(t - srcs.length))
def updsC (srcs:List (Option Nat)) (σ:Nat→Option Nat):List (Nat × Blk)→Option (List (Nat × Blk))
 | []=>some []
 | u :: l=>match updsC srcs σ l with
  | some l'=>(match Nat.blt u.1 srcs.length,srcAt srcs u.1,u.2.ren σ with
   | true,some i,some b=>some ((i,b) :: l')
   | true,none,_=>some l'
   | _,_,_=>none)
  | none=>none
theorem updsC_to {srcs:List (Option Nat)} {σ:Nat→Option Nat}:∀ {l l':List (Nat × Blk)},updsC srcs σ l=some l'→∀ u∈l,u.1<srcs.length∧∀ i,srcAt srcs u.1=some i→∃ b,u.2.ren σ=some b∧(i,b)∈l'
 | [],_,_,u,hu=>by simp at hu
 | v :: l,l',h,u,hu=>by
  simp only [updsC] at h
  split at h <;> try (cases h;done)
  rename_i l1 hl1
  rcases List.mem_cons.1 hu with rfl | hu
  ·split at h <;> cases h
   ·rename_i hb hs hr
    refine ⟨by simpa using hb,fun i hi=>?_⟩
    rw [hs] at hi;cases hi
    exact ⟨_,hr,by simp⟩
   ·rename_i hb hs
    exact ⟨by simpa using hb,fun i hi=>by rw [hs] at hi;cases hi⟩
  ·obtain ⟨h1,h2⟩:=updsC_to hl1 u hu
   refine ⟨h1,fun i hi=>?_⟩
   obtain ⟨b,hb,hm⟩:=h2 i hi
   refine ⟨b,hb,?_⟩
   split at h <;> cases h
   ·exact List.mem_cons_of_mem _ hm
   ·exact hm
theorem updsC_of {srcs:List (Option Nat)} {σ:Nat→Option Nat}:∀ {l l':List (Nat × Blk)},updsC srcs σ l=some l'→∀ u'∈l',∃ u∈l,srcAt srcs u.1=some u'.1∧u.2.ren σ=some u'.2
 | [],l',h,u',hu=>by simp only [updsC] at h;cases h;simp at hu
 | v :: l,l',h,u',hu=>by
  simp only [updsC] at h
  split at h <;> try (cases h;done)
  rename_i l1 hl1
  split at h <;> cases h
  ·rename_i hb hs hr
   rcases List.mem_cons.1 hu with rfl | hu
   ·exact ⟨v,by simp,hs,hr⟩
   ·obtain ⟨u,h1,h2⟩:=updsC_of hl1 u' hu
    exact ⟨u,List.mem_cons_of_mem _ h1,h2⟩
  ·obtain ⟨u,h1,h2⟩:=updsC_of hl1 u' hu
   exact ⟨u,List.mem_cons_of_mem _ h1,h2⟩
def OpRes.nro (q:OpRes):Bool:=q.v.nro&&(q.news.all Blk.nro&&q.upds.all fun u=>u.2.nro)
def genC (hs:List H) (m:List SV→List Blk→Option OpRes):Ctr:=fun off mem args =>
 match locVs mem hs args 0 with
 | some r=>match m r.v r.bs with
  | some q=>match nodupB (someL r.srcs)&&((r.vw.all fun i=>!(inL (someL r.srcs) i))&&(r.vw.isEmpty||q.nro)),q.v.ren (sigC r.srcs off),renBs (sigC r.srcs off) q.news,updsC r.srcs (sigC r.srcs off) q.upds with
   | true,some v,some N,some U=>some { v:=v,news:=N,upds:=U,need:=r.ns ++ q.need }
   | _,_,_,_=>none
  | none=>none
 | none=>none
def FnOk (P:Program) (f:FuncId):Prop:=∃ fn,P.funcs[f]? = some fn∧fn.body.isSome=true∧(fn.name == "runtime.NumGoroutine")=false
open Classical in
theorem ctr_gen {hs:List H} {m:List SV→List Blk→Option OpRes} {f:FuncId} (hfn:FnOk P f)
  (h:∀ vs bs q,m vs bs=some q→q.need_ok→∀ (ρ1:Env) (M:List Nat) (xs:List Value) (w:World),SV.denL ρ1 vs xs→MemDen w.heap.size M ρ1 (memOf bs) w→(∀ i,bs.length≤i→ρ1 i=none)→(∀ b∈M,∃ i∈List.range bs.length,∃ m,ρ1 i=some m∧m.blk=b) →
   Calls P f ⟨xs⟩ w fun e w'=>∃ x ρ',e=.returned x∧OpPost ρ1 ρ' bs.length q w w' x):CtrOk P (genC hs m) f:=by
 refine ⟨hfn,fun B M ρ mem off args r hr hneed hfit xs w hd hm hB hfr=>?_⟩
 unfold genC at hr
 split at hr <;> try (cases hr;done)
 rename_i lr hlr
 split at hr <;> try (cases hr;done)
 rename_i q hq
 split at hr <;> cases hr
 rename_i v N U hchk hv hN hU
 simp only [Bool.and_eq_true,Bool.or_eq_true,List.isEmpty_iff,List.all_eq_true] at hchk
 obtain ⟨hnd,hvs,hvr⟩:=hchk
 obtain ⟨hNl,hNg⟩:=renBs_get hN
 let V:Nat→Prop:=fun b=>∃ i,i∈lr.vw∧∃ m,ρ i=some m∧m.blk=b
 let od1:Od:=⟨fun b o=>if V b then w.cell? ⟨b,o,none⟩ else ρ.od b o,ρ.od.m,ρ.od.p⟩
 have hod1:OdExt ρ.od od1:=.ofC fun b o y hy=>by
  show (if V b then w.cell? ⟨b,o,none⟩ else ρ.od b o)=some y
  split
  ·exact hm.seal_ b o y hy
  ·exact hy
 let ρ1:Env:=⟨fun t=>match srcAt lr.srcs t with | some i=>ρ i | none=>none,od1,ρ.gl.ext hod1⟩
 have hsrc:∀ (t i:Nat),lr.srcs[t]? = some (some i)→ρ1 t=ρ i:=fun t i ht=>by
  show (match srcAt lr.srcs t with | some i=>ρ i | none=>none)=ρ i
  simp [srcAt,ht]
 have hsrc2:∀ (t:Nat) (mm:Nm),ρ1 t=some mm→∃ i,lr.srcs[t]? = some (some i)∧ρ i=some mm:=fun t mm ht=>by
  have ht':(match srcAt lr.srcs t with | some i=>ρ i | none=>none)=some mm:=ht
  unfold srcAt at ht'
  cases hs:lr.srcs[t]? with
  | none=>rw [hs] at ht';cases ht'
  | some s =>
   rw [hs] at ht'
   cases s with
   | none=>cases ht'
   | some i=>exact ⟨i,rfl,ht'⟩
 have hgood:Good ρ ρ1 w mem 0 lr.srcs lr.vw:=⟨fun t i ht mm hmm=>by rw [Nat.zero_add,hsrc t i ht];exact hmm,hod1,fun i hi _ mm hmm o y hy=>by
  show (if V mm.blk then w.cell? ⟨mm.blk,o,none⟩ else ρ.od mm.blk o)=some y
  rw [if_pos ⟨i,hi,mm,hmm,rfl⟩];exact hy⟩
 obtain ⟨hlok,hlden⟩:=locVs_den hm hlr (fun b hb=>hneed b (List.mem_append.2 (.inl hb))) hgood
 have hknown:∀ (t i:Nat),lr.srcs[t]? = some (some i)→(mem i).isUnk=false:=fun t i ht=>by
  have hlt:t<lr.bs.length:=by rw [hlok.len];exact (List.getElem?_eq_some_iff.1 ht).1
  exact (hlok.blk t _ _ (List.getElem?_eq_getElem hlt) ht).1
 have hod1lt:∀ b o y,od1 b o=some y→b<w.heap.size:=fun b o y hy=>by
  have hy':(if V b then w.cell? ⟨b,o,none⟩ else ρ.od b o)=some y:=hy
  split at hy'
  ·exact World.block_lt_of_cell? w _ hy'
  ·exact hm.od_lt hy'
 let M1:List Nat:=(someL lr.srcs).filterMap fun i=>(ρ i).map (·.blk)
 have hmemAt:∀ t:Nat,(memOf lr.bs t).isUnk=false→∃ (b:Blk) (s:Option Nat),lr.bs[t]? = some b∧lr.srcs[t]? = some s∧memOf lr.bs t=b:=fun t ht=>by
  unfold memOf at ht ⊢
  cases hb:lr.bs[t]? with
  | none=>rw [hb] at ht;cases ht
  | some b =>
   have hlt:t<lr.srcs.length:=by rw [← hlok.len];exact (List.getElem?_eq_some_iff.1 hb).1
   exact ⟨b,_,rfl,List.getElem?_eq_getElem hlt,rfl⟩
 have hM1:MemDen w.heap.size M1 ρ1 (memOf lr.bs) w:=by
  refine ⟨fun t ht=>?_,fun t t' mm mm' hne ht ht' hmm hmm'=>?_,⟨fun b o y hy=>?_,fun b v hv=>hm.seal_.m b v hv,fun b i hp=>let ⟨⟨v,hv⟩,h⟩:=hm.seal_.p b i hp;⟨⟨v,hod1 b 0 v hv⟩,h⟩⟩,fun t mm ht hmm o=>?_,hm.pv⟩
  ·obtain ⟨b,s,hb,hs,e⟩:=hmemAt t ht
   rw [e]
   have hbk:=hlok.blk t b s hb hs
   refine ⟨fun mm hmm=>?_,fun hn=>?_⟩
   ·obtain ⟨i,hi,hri⟩:=hsrc2 t mm hmm
    rw [hs] at hi;cases hi
    obtain ⟨h1,_,_,h3⟩:=hbk
    refine ⟨(hm.get h1 hri).1,h3 mm hri,.inr ?_⟩
    exact List.mem_filterMap.2 ⟨i,someL_mem hs,by rw [hri];rfl⟩
   ·cases s with
    | none=>exact hbk.1
    | some i =>
     rw [hsrc t i hs] at hn
     exact hbk.2.2.1 ((hm.at_ i hbk.1).2 hn)
  ·obtain ⟨i,hi,hri⟩:=hsrc2 t mm hmm
   obtain ⟨i',hi',hri'⟩:=hsrc2 t' mm' hmm'
   exact hm.apart i i' mm mm' (fun e=>hne (someL_nodup hnd hi (by rw [e];exact hi'))) (hknown t i hi) (hknown t' i' hi') hri hri'
  ·have hy':(if V b then w.cell? ⟨b,o,none⟩ else ρ.od b o)=some y:=hy
   split at hy'
   ·exact hy'
   ·exact hm.seal_ b o y hy'
  ·obtain ⟨i,hi,hri⟩:=hsrc2 t mm hmm
   show (if V mm.blk then w.cell? ⟨mm.blk,o,none⟩ else ρ.od mm.blk o)=none
   rw [if_neg]
   ·exact hm.free i mm (hknown t i hi) hri o
   ·rintro ⟨i2,hi2,m2,hm2,e⟩
    have hne:i2≠i:=fun e2=>by
     have:=hvs i2 hi2
     rw [e2,inL_iff.2 (someL_mem hi)] at this
     cases this
    exact hm.apart i2 i m2 mm hne (hlok.known i2 hi2) (hknown t i hi) hm2 hri e
 have hfr1:∀ t,lr.bs.length≤t→ρ1 t=none:=fun t ht=>by
  cases hh:ρ1.nm t with
  | none=>rfl
  | some mm =>
   obtain ⟨i,hi,_⟩:=hsrc2 t mm hh
   have:=(List.getElem?_eq_some_iff.1 hi).1
   rw [hlok.len] at ht
   omega
 have hMb:∀ b∈M1,∃ i∈List.range lr.bs.length,∃ m,ρ1 i=some m∧m.blk=b:=fun b hb=>by
  obtain ⟨i,hi,hri⟩:=List.mem_filterMap.1 hb
  cases hρ:ρ.nm i with
  | none=>rw [hρ] at hri;cases hri
  | some mm =>
   rw [hρ] at hri
   cases hri
   have:∃ t:Nat,lr.srcs[t]? = some (some i):=by
    have key:∀ (l:List (Option Nat)),i∈someL l→∃ t:Nat,l[t]? = some (some i):=by
     intro l
     induction l with
     | nil=>intro h;simp [someL] at h
     | cons a l ih =>
      intro h
      cases a with
      | none=>obtain ⟨t,ht⟩:=ih h;exact ⟨t+1,by simpa using ht⟩
      | some a =>
       rcases List.mem_cons.1 h with rfl | h
       ·exact ⟨0,rfl⟩
       ·obtain ⟨t,ht⟩:=ih h;exact ⟨t+1,by simpa using ht⟩
    exact key _ hi
   obtain ⟨t,ht⟩:=this
   refine ⟨t,List.mem_range.2 (by rw [hlok.len];exact (List.getElem?_eq_some_iff.1 ht).1),mm,?_,rfl⟩
   rw [hsrc t i ht];exact hρ
 refine (h lr.v lr.bs q hq (fun b hb=>hneed b (List.mem_append.2 (.inr hb))) ρ1 M1 xs w (hlden xs hd) hM1 hfr1 hMb).mono ?_
 rintro e w' ⟨x,ρ1',rfl,hp⟩
 rw [hlok.len] at hp
 let od2:Od:=⟨fun b o=>if w.heap.size≤b then ρ1'.od b o else ρ.od b o,ρ1'.od.m,ρ1'.od.p⟩
 let ρ2:Env:=⟨fun i=>if off≤i∧i<off+q.news.length then ρ1' (lr.srcs.length+(i - off)) else ρ i,od2,ρ.gl.mix ρ1'.gl (fun k v h=>hp.ext.od.m k v (hod1.m k v h)) w.heap.size⟩
 have hfr':∀ i mm,ρ i=some mm→¬ (off≤i∧i<off+q.news.length):=fun i mm hi hc=>by
  have:=hfr (i - off) (by simp only;omega)
  rw [show off+(i - off)=i by omega,hi] at this
  cases this
 have hkeepN:∀ i mm,ρ i=some mm→ρ2 i=some mm:=fun i mm hi=>by
  show (if off≤i∧i<off+q.news.length then ρ1' (lr.srcs.length+(i - off)) else ρ i)=some mm
  rw [if_neg (hfr' i mm hi)];exact hi
 have hnewN:∀ j,j<q.news.length→ρ2 (off+j)=ρ1' (lr.srcs.length+j):=fun j hj=>by
  show (if off≤off+j∧off+j<off+q.news.length then ρ1' (lr.srcs.length+(off+j - off)) else ρ (off+j))=_
  rw [if_pos (by omega),Nat.add_sub_cancel_left]
 have hlowN:∀ t,t<lr.srcs.length→ρ1' t=ρ1 t:=fun t ht=>hp.old t (.inl ht)
 have hσ:∀ t j,sigC lr.srcs off t=some j→∀ mm,ρ1' t=some mm→ρ2 j=some mm:=by
  intro t j hs mm hmm
  unfold sigC at hs
  split at hs
  ·rename_i hlt
   have hlt':t<lr.srcs.length:=by simpa using hlt
   rw [hlowN t hlt'] at hmm
   obtain ⟨i,hi,hri⟩:=hsrc2 t mm hmm
   have:j=i:=by simp [srcAt,hi] at hs;exact hs.symm
   rw [this];exact hkeepN i mm hri
  ·rename_i hlt
   cases hs
   have hge:lr.srcs.length≤t:=by
    rcases Nat.lt_or_ge t lr.srcs.length with h | h
    ·rw [blt_t h] at hlt;cases hlt
    ·exact h
   rcases Nat.lt_or_ge (t - lr.srcs.length) q.news.length with h1 | h1
   ·rw [hnewN _ h1,show lr.srcs.length+(t - lr.srcs.length)=t by omega];exact hmm
   ·rw [hp.old t (.inr (by omega)),hfr1 t (by rw [hlok.len];exact hge)] at hmm;cases hmm
 have hodE:lr.vw=[]→OdExt ρ1'.od od2:=fun hv0=>.ofC fun b o y hy=>by
  show (if w.heap.size≤b then ρ1'.od b o else ρ.od b o)=some y
  rcases hp.odn b o y hy with h1 | ⟨_,h1⟩
  ·have hlt:=hod1lt b o y h1
   rw [if_neg (by omega)]
   have h1':(if V b then w.cell? ⟨b,o,none⟩ else ρ.od b o)=some y:=h1
   rwa [if_neg] at h1'
   rintro ⟨i,hi,_⟩
   rw [hv0] at hi;simp at hi
  ·rw [if_pos h1];exact hy
 have hro:∀ {P:Prop},(q.nro=true→P)→∀ b:Bool,(b=false→P→False)→b=false→OdExt ρ1'.od od2:=fun hP b hb hbf=>by
  rcases hvr with hv0 | hv0
  ·exact hodE hv0
  ·exact (hb hbf (hP hv0)).elim
 have hnroV:q.v.nro=false→OdExt ρ1'.od od2:=hro (P:=q.v.nro=true) (fun hn=>by simp only [OpRes.nro,Bool.and_eq_true] at hn;exact hn.1) _ fun h1 h2=>by rw [h1] at h2;cases h2
 have hnroN:∀ b∈q.news,b.nro=false→OdExt ρ1'.od od2:=fun b hb=>hro (P:=b.nro=true) (fun hn=>by simp only [OpRes.nro,Bool.and_eq_true,List.all_eq_true] at hn;exact hn.2.1 b hb) _ fun h1 h2=>by rw [h1] at h2;cases h2
 have hnroU:∀ u∈q.upds,u.2.nro=false→OdExt ρ1'.od od2:=fun u hu=>hro (P:=u.2.nro=true) (fun hn=>by simp only [OpRes.nro,Bool.and_eq_true,List.all_eq_true] at hn;exact hn.2.2 u hu) _ fun h1 h2=>by rw [h1] at h2;cases h2
 have srcOf:∀ (t i:Nat),srcAt lr.srcs t=some i→lr.srcs[t]? = some (some i):=fun t i h=>by
  unfold srcAt at h
  cases hs:lr.srcs[t]? with
  | none=>rw [hs] at h;cases h
  | some s=>rw [hs] at h;simp only at h;rw [h]
 refine ⟨x,ρ2,rfl,⟨ren_den hσ hv hnroV hp.val,⟨hkeepN,⟨fun b o y hy=>?_,fun b v hv=>hp.ext.od.m b v hv,fun b i hi=>hp.ext.od.p b i hi⟩⟩,fun i hi=>?_,hp.os,hp.tape,hp.output,hp.size,fun b hb hu=>hp.keep b hb fun u hu' mm hmm=>?_,⟨fun b o y hy=>?_,fun b v hv=>hp.odn.m b v hv,hp.odn.p⟩,fun u' hu' hk=>?_,fun j b' hj hk=>?_,fun j j' b b' mm mm' hne hj hj' hk hk' hmm hmm'=>?_⟩⟩
 ·have:=hm.od_lt hy
  show (if w.heap.size≤b then ρ1'.od b o else ρ.od b o)=some y
  rw [if_neg (by omega)];exact hy
 ·show (if off≤i∧i<off+q.news.length then ρ1' (lr.srcs.length+(i - off)) else ρ i)=ρ i
  simp only [hNl] at hi
  rw [if_neg (by omega)]
 ·obtain ⟨i,hi,hri⟩:=hsrc2 u.1 mm hmm
  obtain ⟨b',_,hmem⟩:=(updsC_to hU u hu').2 i (by simp [srcAt,hi])
  exact hu (i,b') hmem mm hri
 ·have hy':(if w.heap.size≤b then ρ1'.od b o else ρ.od b o)=some y:=hy
  split at hy'
  ·rename_i hge
   rcases hp.odn b o y hy' with h1 | h1
   ·have:=hod1lt b o y h1;omega
   ·exact .inr h1
  ·exact .inl hy'
 ·obtain ⟨u,hu,hs,hr⟩:=updsC_of hU u' hu'
  obtain ⟨hr1,hr2⟩:=renB_unk hr
  rw [hr1] at hk
  obtain ⟨h1,h2⟩:=hp.upd u hu hk
  have hi:=srcOf _ _ hs
  refine ⟨fun mm hmm=>renB_den hσ hr (hnroU u hu) (h1 mm (by rw [hsrc _ _ hi];exact hmm)),fun hn=>hr2 (h2 (by rw [hsrc _ _ hi];exact hn))⟩
 ·obtain ⟨b,hb,hr⟩:=hNg j b' hj
  obtain ⟨hr1,hr2⟩:=renB_unk hr
  rw [hr1] at hk
  have hjl:=(List.getElem?_eq_some_iff.1 hb).1
  obtain ⟨h1,h2⟩:=hp.new j b hb hk
  rw [hnewN j hjl]
  refine ⟨fun mm hmm=>?_,fun hn=>hr2 (h2 hn)⟩
  obtain ⟨g1,g2,g3,g4⟩:=h1 mm hmm
  refine ⟨g1,renB_den hσ hr (hnroN b (List.mem_of_getElem? hb)) g2,fun o=>?_,?_⟩
  ·show (if w.heap.size≤mm.blk then ρ1'.od mm.blk o else ρ.od mm.blk o)=none
   split
   ·exact g3 o
   ·cases ho:ρ.od mm.blk o with
    | none=>rfl
    | some y=>have:=hp.ext.od _ _ _ (hod1 _ _ _ ho);rw [g3 o] at this;cases this
  ·rcases g4 with g4 | ⟨u,hu,hk2,m',hm',e⟩
   ·exact .inl g4
   ·obtain ⟨i,hi,hri⟩:=hsrc2 u.1 m' hm'
    obtain ⟨b2,hb2,hmem⟩:=(updsC_to hU u hu).2 i (by simp [srcAt,hi])
    exact .inr ⟨(i,b2),hmem,by rw [(renB_unk hb2).1];exact hk2,m',hri,e⟩
 ·obtain ⟨b0,hb0,hr⟩:=hNg j b hj
  obtain ⟨b1,hb1,hr1⟩:=hNg j' b' hj'
  rw [hnewN j (List.getElem?_eq_some_iff.1 hb0).1] at hmm
  rw [hnewN j' (List.getElem?_eq_some_iff.1 hb1).1] at hmm'
  rw [(renB_unk hr).1] at hk
  rw [(renB_unk hr1).1] at hk'
  exact hp.newapart j j' b0 b1 mm mm' hne hb0 hb1 hk hk' hmm hmm'
end runs
end Go.Sy
namespace Go.Sy
set_option linter.unusedVariables false
set_option linter.unusedSimpArgs false
open Go.RowKit
set_option linter.unusedSectionVars false
variable [Globs]
section runs
variable {P:Program}
def look:List Nat→List SV→Nat→SV
 | t :: L,v :: vs,i=>match Nat.beq i t with
  | true=>v
  | false=>look L vs i
 | _,_,_=>.any
def slots (s:SState) (L:List Nat):List SV:=L.map s.tm
def mkSt (na nt:Nat) (L:List Nat) (vs:List SV) (nx:Nat) (bs:List Blk):SState:={ na:=na,nt:=nt,tm:=look L vs,nx:=nx,mem:=memOf bs }
structure GL where
 isSlot:Bool
 a:Nat
 c:Nat
 i:Nat
 e:Nat
 sh:List Kd
def GL.val (g:GL) (s:SState):SV:=match g.isSlot with
 | true=>s.tm g.a
 | false=>match s.mem g.a with
  | .cells _ l=>l.getD g.c .any
  | _=>.any
def GL.src (g:GL) (s:SState):Option Nat:=match g.val s with
 | .gr j _ _=>some j
 | .own j _ _=>some j
 | _=>none
def glAt:List GL→Nat→Option GL
 | [],_=>none
 | g :: l,k=>match Nat.beq g.i k with
  | true=>some g
  | false=>glAt l k
def glTo (s:SState):List GL→Nat→Option Nat
 | [],_=>none
 | g :: l,k=>match g.src s with
  | some j=>(match Nat.beq j k with
   | true=>some g.i
   | false=>glTo s l k)
  | none=>glTo s l k
def sigL (s:SState) (nx:Nat) (gl:List GL) (k:Nat):Option Nat:=match glTo s gl k with
 | some i=>some i
 | none=>match Nat.blt k nx&&(glAt gl k).isNone with
  | true=>some k
  | false=>none
def GL.ro (g:GL):Bool:=Nat.beq g.e 1000000
def nro:List GL→List GL
 | []=>[]
 | g :: l=>match g.ro with
  | true=>nro l
  | false=>g :: nro l
def fitV (g:GL):SV→SV
 | .nsl=>match g.ro with
  | true=>.ro g.sh 0 noDat
  | false=>.gr g.i g.sh.length 0
 | .own i e n=>.gr i e n
 | v=>v
def fitSlots:List GL→List Nat→List SV→List SV
 | gl,t :: L,v :: vs=>(match gl.find? (fun g=>g.isSlot&&Nat.beq g.a t) with | some g=>fitV g v | none=>v) :: fitSlots gl L vs
 | _,_,vs=>vs
def fitCells (gl:List GL) (q:Nat):Nat→List SV→List SV
 | _,[]=>[]
 | c,v :: vs=>(match gl.find? (fun g=>!g.isSlot&&(Nat.beq g.a q&&Nat.beq g.c c)) with | some g=>fitV g v | none=>v) :: fitCells gl q (c+1) vs
def fitBlk (gl:List GL) (q:Nat):Blk→Blk
 | .cells e l=>.cells e (fitCells gl q 0 l)
 | b=>b
def srcBlk (s:SState) (gl:List GL) (k:Nat):Blk:=match glAt gl k with
 | some g=>(match g.src s with
  | some j=>s.mem j
  | none=>.row g.e g.sh 0 noDat)
 | none=>s.mem k
def canBlks (s:SState) (nx:Nat) (gl:List GL):Option (List Blk):=match renBs (sigL s nx (nro gl)) ((List.range nx).map (srcBlk s (nro gl))) with
 | some bs=>some ((List.range nx).zipWith (fitBlk gl) bs)
 | none=>none
def srcsOf (s:SState):List GL→List Nat
 | []=>[]
 | g :: l=>match g.src s with
  | some j=>j :: srcsOf s l
  | none=>srcsOf s l
def glOk (s:SState) (nx:Nat) (gl:List GL):Bool :=
 nodupB (srcsOf s gl)&&(nodupB (gl.map (·.i))&&(((srcsOf s gl).all fun j=>!(Nat.blt j nx&&(glAt gl j).isNone))&&(gl.all fun g=>Nat.ble s.na g.i&&Nat.blt g.i nx)))
def czv (na nt:Nat) (L:List Nat) (nx:Nat) (gl:List GL) (s:SState):Option (List SV × List Blk) :=
 match Nat.beq s.na na&&(Nat.beq s.nt nt&&(Nat.ble s.na nx&&glOk s nx (nro gl))),SV.renL (sigL s nx (nro gl)) (slots s L),canBlks s nx gl with
 | true,some vs,some bs=>some (fitSlots gl L vs,bs)
 | _,_,_=>none
def cz (na nt:Nat) (L:List Nat) (nx:Nat) (gl:List GL) (s:SState) (K:List SV→List Blk→Prop):Prop :=
 match czv na nt L nx gl s with
 | some r=>K r.1 r.2
 | none=>False
theorem glAt_some:∀ {gl:List GL} {k:Nat} {g:GL},glAt gl k=some g→g∈gl∧g.i=k
 | [],_,_,h=>by simp [glAt] at h
 | a :: l,k,g,h=>by
  simp only [glAt] at h
  split at h
  ·rename_i e;rw [Nat.beq_eq] at e;cases h;exact ⟨by simp,e⟩
  ·obtain ⟨h1,h2⟩:=glAt_some h;exact ⟨List.mem_cons_of_mem _ h1,h2⟩
theorem glAt_of:∀ {gl:List GL} {g:GL},nodupB (gl.map (·.i))=true→g∈gl→glAt gl g.i=some g
 | a :: l,g,hn,hg=>by
  simp only [List.map_cons,nodupB,Bool.and_eq_true,Bool.not_eq_true',List.any_eq_false] at hn
  simp only [glAt]
  rcases List.mem_cons.1 hg with rfl | hg
  ·simp [Nat.beq_refl]
  ·have hne:a.i≠g.i:=fun e=>hn.1 g.i (List.mem_map.2 ⟨g,hg,rfl⟩) (by rw [Nat.beq_eq];exact e.symm)
   have:Nat.beq a.i g.i=false:=by
    cases h:Nat.beq a.i g.i with
    | false=>rfl
    | true=>rw [Nat.beq_eq] at h;exact absurd h hne
   rw [this]
   exact glAt_of hn.2 hg
theorem glTo_some {s:SState}:∀ {gl:List GL} {k i:Nat},glTo s gl k=some i→∃ g∈gl,g.src s=some k∧g.i=i
 | [],_,_,h=>by simp [glTo] at h
 | a :: l,k,i,h=>by
  simp only [glTo] at h
  split at h
  ·rename_i j hj
   split at h
   ·rename_i e;rw [Nat.beq_eq] at e;subst e;cases h;exact ⟨a,by simp,hj,rfl⟩
   ·obtain ⟨g,h1,h2⟩:=glTo_some h;exact ⟨g,List.mem_cons_of_mem _ h1,h2⟩
  ·obtain ⟨g,h1,h2⟩:=glTo_some h;exact ⟨g,List.mem_cons_of_mem _ h1,h2⟩
theorem srcsOf_mem {s:SState}:∀ {gl:List GL} {g:GL} {j:Nat},g∈gl→g.src s=some j→j∈srcsOf s gl
 | a :: l,g,j,hg,hj=>by
  simp only [srcsOf]
  rcases List.mem_cons.1 hg with rfl | hg
  ·rw [hj];simp
  ·have:=srcsOf_mem hg hj
   split
   ·exact List.mem_cons_of_mem _ this
   ·exact this
theorem srcs_inj {s:SState}:∀ {gl:List GL},nodupB (srcsOf s gl)=true→∀ {g g':GL} {j:Nat},g∈gl→g'∈gl→g.src s=some j→g'.src s=some j→g=g'
 | a :: l,hn,g,g',j,hg,hg',hj,hj'=>by
  simp only [srcsOf] at hn
  cases ha:a.src s with
  | none =>
   rw [ha] at hn
   rcases List.mem_cons.1 hg with rfl | hg
   ·rw [ha] at hj;cases hj
   ·rcases List.mem_cons.1 hg' with rfl | hg'
    ·rw [ha] at hj';cases hj'
    ·exact srcs_inj hn hg hg' hj hj'
  | some b =>
   rw [ha] at hn
   simp only [nodupB,Bool.and_eq_true,Bool.not_eq_true',List.any_eq_false] at hn
   have hno:∀ x∈srcsOf s l,x≠b:=fun x hx e=>hn.1 x hx (by rw [Nat.beq_eq];exact e)
   rcases List.mem_cons.1 hg with e1 | hg <;> rcases List.mem_cons.1 hg' with e2 | hg'
   ·rw [e1,e2]
   ·rw [e1,ha] at hj;cases hj
    exact absurd rfl (hno _ (srcsOf_mem hg' hj'))
   ·rw [e2,ha] at hj';cases hj'
    exact absurd rfl (hno _ (srcsOf_mem hg hj))
   ·exact srcs_inj hn.2 hg hg' hj hj'
theorem look_get:∀ (L:List Nat) (vs:List SV) (i:Nat),look L vs i=.any∨∃ p:Nat,L[p]? = some i∧vs[p]? = some (look L vs i)
 | [],_,_=>.inl rfl
 | _ :: _,[],_=>.inl rfl
 | t :: L,v :: vs,i=>by
  simp only [look]
  split
  ·rename_i e;rw [Nat.beq_eq] at e;subst e;exact .inr ⟨0,rfl,rfl⟩
  ·rcases look_get L vs i with h | ⟨p,h1,h2⟩
   ·exact .inl h
   ·exact .inr ⟨p+1,by simpa using h1,by simpa using h2⟩
theorem fitV_den {ρ:Env} (g:GL) {v:SV} {x:Value} (h:v.den ρ x):(fitV g v).den ρ x:=by
 unfold fitV
 split
 ·split
  ·exact ⟨none,0,h,⟨Nat.le_refl _,fun _=>rfl⟩,fun h=>absurd h (Nat.lt_irrefl _)⟩
  ·exact .inl ⟨rfl,none,h⟩
 ·exact .inr h
 ·exact h
theorem fitSlots_get {gl:List GL}:∀ {L:List Nat} {vs:List SV} {p:Nat} {u:SV},(fitSlots gl L vs)[p]? = some u→∃ v,vs[p]? = some v∧∀ (ρ:Env) (x:Value),v.den ρ x→u.den ρ x
 | [],vs,p,u,h=>by simp only [fitSlots] at h;exact ⟨u,h,fun _ _ h=>h⟩
 | _ :: _,[],p,u,h=>by simp [fitSlots] at h
 | t :: L,v :: vs,p,u,h=>by
  simp only [fitSlots] at h
  cases p with
  | zero =>
   simp only [List.getElem?_cons_zero,Option.some.injEq] at h
   refine ⟨v,rfl,fun ρ x hx=>?_⟩
   rw [← h]
   split
   ·exact fitV_den _ hx
   ·exact hx
  | succ p =>
   obtain ⟨v',h1,h2⟩:=fitSlots_get (gl:=gl) (L:=L) (vs:=vs) (p:=p) (u:=u) (by simpa using h)
   exact ⟨v',by simpa using h1,h2⟩
theorem fitCells_den {gl:List GL} {q:Nat} {ρ:Env}:∀ {c:Nat} {vs:List SV} {xs:List Value},SV.denL ρ vs xs→SV.denL ρ (fitCells gl q c vs) xs
 | _,[],[],h=>h
 | c,v :: vs,x :: xs,⟨h,k⟩=>by
  simp only [fitCells]
  refine ⟨?_,fitCells_den k⟩
  split
  ·exact fitV_den _ h
  ·exact h
 | _,[],_ :: _,h=>h.elim
 | _,_ :: _,[],h=>h.elim
theorem fitBlk_den {gl:List GL} {q:Nat} {ρ:Env} {w:World} {m:Nm} {b:Blk} (h:b.den ρ w m):(fitBlk gl q b).den ρ w m:=by
 cases b with
 | cells e l=>obtain ⟨h0,c,hc,hd⟩:=h;exact ⟨h0,c,hc,fitCells_den hd⟩
 | _=>exact h
theorem fitBlk_unk {gl:List GL} {q:Nat} {b:Blk}:(fitBlk gl q b).isUnk=b.isUnk∧((fitBlk gl q b).ghost↔b.ghost):=by cases b <;> exact ⟨rfl,Iff.rfl⟩
theorem renL_get {σ:Nat→Option Nat}:∀ {l l':List SV},SV.renL σ l=some l'→∀ {i:Nat} {v':SV},l'[i]? = some v'→∃ v,l[i]? = some v∧v.ren σ=some v'
 | [],l',h,i,v',hi=>by simp only [SV.renL] at h;cases h;simp at hi
 | v :: l,l',h,i,v',hi=>by
  simp only [SV.renL] at h
  split at h <;> try (cases h;done)
  rename_i v1 hv1
  split at h <;> cases h
  rename_i l1 hl1
  cases i with
  | zero=>simp at hi;subst hi;exact ⟨v,rfl,hv1⟩
  | succ i=>exact renL_get hl1 (by simpa using hi)
theorem ren_slot {σ:Nat→Option Nat} {v v':SV} (h:v.ren σ=some v') {ρ:Env} {a:Act} {x:Value} (hd:slotDen ρ a v x):v.den ρ x:=by
 cases v <;> first | exact hd | (simp [SV.ren] at h)
theorem slot_of {ρ:Env} {a:Act} {v:SV} {x:Value} (hg:∀ t pol u,v≠.gd t pol u) (h:v.den ρ x):slotDen ρ a v x:=by
 cases v <;> first | exact h | exact absurd rfl (hg _ _ _)
theorem ren_nogd {σ:Nat→Option Nat} {v v':SV} (h:v.ren σ=some v'):∀ t pol u,v'≠.gd t pol u:=by
 intro t pol u e
 subst e
 cases v <;> simp only [SV.ren] at h <;> first | (cases h;done) | (split at h <;> cases h)
theorem fit_nogd {gl:List GL}:∀ {L:List Nat} {vs:List SV},(∀ (p:Nat) (v:SV),vs[p]? = some v→∀ t pol u,v≠SV.gd t pol u)→∀ {p:Nat} {u:SV},(fitSlots gl L vs)[p]? = some u→∀ t pol u',u≠.gd t pol u'
 | [],vs,hv,p,u,h=>by simp only [fitSlots] at h;exact hv p u h
 | _ :: _,[],_,p,u,h=>by simp [fitSlots] at h
 | t :: L,v :: vs,hv,p,u,h=>by
  simp only [fitSlots] at h
  cases p with
  | zero =>
   simp only [List.getElem?_cons_zero,Option.some.injEq] at h
   intro t' pol u' e
   have h0:=hv 0 v rfl
   rw [e] at h
   split at h
   ·unfold fitV at h
    split at h
    ·split at h <;> cases h
    ·cases h
    ·exact h0 _ _ _ h
   ·exact h0 _ _ _ h
  | succ p=>exact fit_nogd (gl:=gl) (L:=L) (vs:=vs) (fun p v hp=>hv (p+1) v (by simpa using hp)) (p:=p) (u:=u) (by simpa using h)
theorem cz_ok {B:Nat} {M:List Nat} {w0:Base} {ρ:Env} {s:SState} {a:Act} {w:World} (h:StDen B M w0 ρ s a w) {na nt nx:Nat} {L:List Nat} {gl:List GL} {r:List SV × List Blk} (hz:czv na nt L nx gl s=some r) :
  ∃ ρ',StDen B M w0 ρ' (mkSt na nt L r.1 nx r.2) a w:=by
 unfold czv at hz
 split at hz <;> cases hz
 rename_i vs bs hchk hvs hbs
 unfold canBlks at hbs
 split at hbs <;> cases hbs
 rename_i cs hcs
 generalize nro gl=gl0 at hchk hvs hcs
 simp only [glOk,Bool.and_eq_true,List.all_eq_true] at hchk
 obtain ⟨hna,hnt,hnx,hsd,hid,hsk,hgi⟩:=hchk
 have hna':s.na=na:=by simpa using hna
 have hnt':s.nt=nt:=by simpa using hnt
 have hnx':s.na≤nx:=by simpa using hnx
 subst hna'
 subst hnt'
 have glLow:∀ g∈gl0,s.na≤g.i∧g.i<nx:=fun g hg=>by
  have:=hgi g hg
  exact ⟨by simpa using this.1,by simpa using this.2⟩
 obtain ⟨hcl,hcg⟩:=renBs_get hcs
 simp only [List.length_map,List.length_range] at hcl
 let ρ2:Env:=⟨fun k=>if k<nx then (match glAt gl0 k with | some g=>(match g.src s with | some j=>ρ j | none=>none) | none=>ρ k) else none,ρ.od,ρ.gl⟩
 -- where a name comes from
 let sn:Nat→Option Nat:=fun k=>match glAt gl0 k with | some g=>g.src s | none=>some k
 have hsn:∀ k m,ρ2 k=some m→k<nx∧∃ j,sn k=some j∧ρ j=some m∧srcBlk s gl0 k=s.mem j:=by
  intro k m hk
  have hk':(if k<nx then (match glAt gl0 k with | some g=>(match g.src s with | some j=>ρ j | none=>none) | none=>ρ k) else none)=some m:=hk
  split at hk' <;> try (cases hk';done)
  rename_i hlt
  refine ⟨hlt,?_⟩
  show ∃ j,(match glAt gl0 k with | some g=>g.src s | none=>some k)=some j∧ρ j=some m∧(match glAt gl0 k with | some g=>(match g.src s with | some j=>s.mem j | none=>.row g.e g.sh 0 noDat) | none=>s.mem k)=s.mem j
  cases hg:glAt gl0 k with
  | none=>rw [hg] at hk';exact ⟨k,rfl,hk',rfl⟩
  | some g =>
   rw [hg] at hk'
   simp only at hk' ⊢
   cases hs:g.src s with
   | none=>rw [hs] at hk';cases hk'
   | some j=>rw [hs] at hk';exact ⟨j,rfl,hk',rfl⟩
 have snInj:∀ k k' j,k<nx→k'<nx→sn k=some j→sn k'=some j→k=k':=by
  intro k k' j hk hk' h1 h2
  have h1':(match glAt gl0 k with | some g=>g.src s | none=>some k)=some j:=h1
  have h2':(match glAt gl0 k' with | some g=>g.src s | none=>some k')=some j:=h2
  have kept:∀ g∈gl0,g.src s=some j→∀ q,q<nx→glAt gl0 q=none→q≠j:=by
   intro g hg hs q hq hn e
   have:=hsk j (srcsOf_mem hg hs)
   rw [← e,hn,blt_t hq] at this
   cases this
  cases hg:glAt gl0 k with
  | none =>
   rw [hg] at h1'
   cases hg':glAt gl0 k' with
   | none=>rw [hg'] at h2';simp only [Option.some.injEq] at h1' h2';omega
   | some g' =>
    rw [hg'] at h2'
    simp only [Option.some.injEq] at h1'
    exact absurd h1' (kept g' (glAt_some hg').1 h2' k hk hg)
  | some g =>
   rw [hg] at h1'
   cases hg':glAt gl0 k' with
   | none =>
    rw [hg'] at h2'
    simp only [Option.some.injEq] at h2'
    exact absurd h2' (kept g (glAt_some hg).1 h1' k' hk' hg')
   | some g' =>
    rw [hg'] at h2'
    have e:=srcs_inj hsd (glAt_some hg).1 (glAt_some hg').1 h1' h2'
    rw [← (glAt_some hg).2,← (glAt_some hg').2,e]
 have hσ:∀ k k',sigL s nx gl0 k=some k'→∀ m,ρ k=some m→ρ2 k'=some m:=by
  intro k k' hs m hm
  show (if k'<nx then (match glAt gl0 k' with | some g=>(match g.src s with | some j=>ρ j | none=>none) | none=>ρ k') else none)=some m
  unfold sigL at hs
  split at hs
  ·rename_i i hi
   cases hs
   obtain ⟨g,hg,hsrc,rfl⟩:=glTo_some hi
   rw [if_pos (glLow g hg).2,glAt_of hid hg]
   simp only [hsrc]
   exact hm
  ·split at hs <;> cases hs
   rename_i hb
   simp only [Bool.and_eq_true,Option.isNone_iff_eq_none] at hb
   rw [if_pos (by simpa using hb.1),hb.2]
   exact hm
 have hblk:∀ k,(memOf ((List.range nx).zipWith (fitBlk gl) cs) k).isUnk=false→∃ c,memOf ((List.range nx).zipWith (fitBlk gl) cs) k=fitBlk gl k c∧(srcBlk s gl0 k).ren (sigL s nx gl0)=some c∧c.isUnk=false∧(srcBlk s gl0 k).isUnk=false∧k<nx:=by
  intro k hk
  have hk0:=hk
  unfold memOf at hk ⊢
  cases hb:((List.range nx).zipWith (fitBlk gl) cs)[k]? with
  | none=>rw [hb] at hk;cases hk
  | some b =>
   rw [hb] at hk
   rw [List.getElem?_zipWith] at hb
   cases hr:(List.range nx)[k]? with
   | none=>rw [hr] at hb;cases hb
   | some k0 =>
    have hk0:k0=k∧k<nx:=by
     have hlt:k<nx:=by have:=(List.getElem?_eq_some_iff.1 hr).1;simpa using this
     rw [List.getElem?_range hlt] at hr
     cases hr;exact ⟨rfl,hlt⟩
    obtain ⟨rfl,hlt⟩:=hk0
    cases hc:cs[k0]? with
    | none=>rw [hr,hc] at hb;cases hb
    | some c =>
     rw [hr,hc] at hb
     cases hb
     obtain ⟨b0,hb0,hren⟩:=hcg k0 c hc
     rw [List.getElem?_map,hr] at hb0
     cases hb0
     rw [fitBlk_unk.1] at hk
     exact ⟨c,rfl,hren,hk,by rw [← (renB_unk hren).1];exact hk,hlt⟩
 have hMem:MemDen B M ρ2 (memOf ((List.range nx).zipWith (fitBlk gl) cs)) w:=by
  refine ⟨fun k hk=>?_,fun k k' m m' hne hk hk' hm hm'=>?_,h.mem.seal_,fun k m hk hm=>?_,h.mem.pv⟩
  ·obtain ⟨c,he,hren,_,hsu,hlt⟩:=hblk k hk
   rw [he]
   refine ⟨fun m hm=>?_,fun hn=>?_⟩
   ·obtain ⟨_,j,_,hj,hsb⟩:=hsn k m hm
    rw [hsb] at hren hsu
    obtain ⟨g1,g2,g3⟩:=h.mem.get hsu hj
    exact ⟨g1,fitBlk_den (renB_den hσ hren (fun _=>⟨fun _ _ _ h=>h,fun _ _ h=>h,fun _ _ h=>h⟩) g2),g3⟩
   ·rw [fitBlk_unk.2]
    refine (renB_unk hren).2 ?_
    have hn':(if k<nx then (match glAt gl0 k with | some g=>(match g.src s with | some j=>ρ j | none=>none) | none=>ρ k) else none)=none:=hn
    rw [if_pos hlt] at hn'
    unfold srcBlk at hsu ⊢
    cases hg:glAt gl0 k with
    | none=>rw [hg] at hn' hsu;exact (h.mem.at_ k hsu).2 hn'
    | some g =>
     rw [hg] at hn' hsu
     simp only at hn' hsu ⊢
     cases hs:g.src s with
     | none=>rfl
     | some j=>rw [hs] at hn' hsu;exact (h.mem.at_ j hsu).2 hn'
  ·obtain ⟨_,_,_,_,hsu,_⟩:=hblk k hk
   obtain ⟨_,_,_,_,hsu',_⟩:=hblk k' hk'
   obtain ⟨hl,j,hj1,hj2,hj3⟩:=hsn k m hm
   obtain ⟨hl',j',hj1',hj2',hj3'⟩:=hsn k' m' hm'
   exact h.mem.apart j j' m m' (fun e=>hne (snInj k k' j hl hl' hj1 (by rw [e];exact hj1'))) (by rw [← hj3];exact hsu) (by rw [← hj3'];exact hsu') hj2 hj2'
  ·obtain ⟨_,_,_,_,hsu,_⟩:=hblk k hk
   obtain ⟨_,j,_,hj2,hj3⟩:=hsn k m hm
   exact h.mem.free j m (by rw [← hj3];exact hsu) hj2
 have low:∀ i,i<w0.n→ρ2 i=ρ i:=by
  intro i hi
  rw [← h.nab] at hi
  show (if i<nx then (match glAt gl0 i with | some g=>(match g.src s with | some j=>ρ j | none=>none) | none=>ρ i) else none)=ρ i
  rw [if_pos (by omega)]
  cases hg:glAt gl0 i with
  | none=>rfl
  | some g =>
   obtain ⟨h1,h2⟩:=glAt_some hg
   have:=(glLow g h1).1
   omega
 refine ⟨ρ2,h.defs.map fun b o hb=>⟨hb.at_,fun k m hk hm=>?_,hb.nod,hb.nom⟩,h.size,fun i x hx=>?_,fun i hi=>?_,hMem,h.kept,h.base,⟨fun i m hm=>?_,h.ext.od⟩,h.argn,fun i hi=>by rw [low i hi];exact h.argl i hi,h.nab,by rw [← h.nab];exact hnx',h.odb,h.mz⟩
 ·obtain ⟨_,_,_,_,hsu,_⟩:=hblk k hk
  obtain ⟨_,j,_,hj2,hj3⟩:=hsn k m hm
  exact hb.off j m (by rw [← hj3];exact hsu) hj2
 ·show slotDen ρ2 a (look L (fitSlots gl L vs) i) x
  rcases look_get L (fitSlots gl L vs) i with e | ⟨p,hp1,hp2⟩
  ·rw [e];trivial
  ·have hng:∀ (p:Nat) (v:SV),vs[p]? = some v→∀ t pol u,v≠.gd t pol u:=fun p v hv=>by
    obtain ⟨u,_,hu⟩:=renL_get hvs hv
    exact ren_nogd hu
   refine slot_of (fit_nogd hng hp2) ?_
   obtain ⟨v,hv,hd⟩:=fitSlots_get hp2
   refine hd ρ2 x ?_
   obtain ⟨u,hu1,hu2⟩:=renL_get hvs hv
   unfold slots at hu1
   rw [List.getElem?_map,hp1] at hu1
   cases hu1
   exact ren_den hσ hu2 (fun _=>⟨fun _ _ _ h=>h,fun _ _ h=>h,fun _ _ h=>h⟩) (ren_slot hu2 (h.tmp i x hx))
 ·show (if i<nx then (match glAt gl0 i with | some g=>(match g.src s with | some j=>ρ j | none=>none) | none=>ρ i) else none)=none
  have hi':nx≤i:=hi
  rw [if_neg (by omega)]
 ·have hlt:i<w0.n:=by
   rcases Nat.lt_or_ge i w0.n with h1 | h1
   ·exact h1
   ·rw [h.argn i h1] at hm;cases hm
  rw [low i hlt]
  exact h.ext.nm i m hm
end runs
end Go.Sy
