/-
 A symbolic executor for the model's code, part P: names told anew; a call's end under names of its own. Conditions: none.
-/
import Derived.Test.YtpfipoimpmlmoaaGreatDoorJSyO
namespace Go.Sy
set_option linter.unusedVariables false
set_option linter.unusedSimpArgs false
open Go.RowKit
section runs
variable {P:Program}
def Kd.plain:Kd→Bool
 | .sl _ | .pt _ | .pz _ | .mi _ | .mb | .m1=>false
 | _=>true
mutual
def SV.nro:SV→Bool
 | .ro _ _ _ | .rp _ _ _ _ | .ra _ _ _ | .rn _ _ _ | .rq _ _ _ _ _ | .rz _ _ _ _ | .mp _ _=>false
 | .agg l | .tup l | .fn _ l | .fb _ l | .ifc _ l=>SV.nroL l
 | _=>true
def SV.nroL:List SV→Bool
 | []=>true
 | v :: l=>v.nro&&SV.nroL l
end
def Blk.nro:Blk→Bool
 | .cells _ l=>SV.nroL l
 | .row _ sh _ _=>sh.all Kd.plain
 | .unk=>true
mutual
def SV.ren (σ:Nat→Option Nat):SV→Option SV
 | .ptr i o=>match σ i with | some j=>some (.ptr j o) | none=>none
 | .elt i s k c=>match σ i with | some j=>some (.elt j s k c) | none=>none
 | .slc i s k n=>match σ i with | some j=>some (.slc j s k n) | none=>none
 | .own i s n=>match σ i with | some j=>some (.own j s n) | none=>none
 | .gr i s n=>match σ i with | some j=>some (.gr j s n) | none=>none
 | .agg l=>match SV.renL σ l with | some l=>some (.agg l) | none=>none
 | .tup l=>match SV.renL σ l with | some l=>some (.tup l) | none=>none
 | .fn f l=>match SV.renL σ l with | some l=>some (.fn f l) | none=>none
 | .fb f l=>match SV.renL σ l with | some l=>some (.fb f l) | none=>none
 | .ifc f l=>match SV.renL σ l with | some l=>some (.ifc f l) | none=>none
 | .ni b=>some (.ni b)
 | .gd _ _ _=>none
 | .any=>some .any
 | .int k n=>some (.int k n)
 | .bool b=>some (.bool b)
 | .str s=>some (.str s)
 | .nsl=>some .nsl
 | .emp=>some .emp
 | .ro sh n d=>some (.ro sh n d)
 | .rp sh d k j=>some (.rp sh d k j)
 | .ra sh n d=>some (.ra sh n d)
 | .rn sh n d=>some (.rn sh n d)
 | .pix i o s m k c=>match σ i with | some j=>some (.pix j o s m k c) | none=>none
 | .val v=>some (.val v)
 | .rq t sh d k j=>some (.rq t sh d k j)
 | .rz t i sh d=>some (.rz t i sh d)
 | .mp kd e=>some (.mp kd e)
def SV.renL (σ:Nat→Option Nat):List SV→Option (List SV)
 | []=>some []
 | v :: l=>match v.ren σ with
  | some v=>(match SV.renL σ l with | some l=>some (v :: l) | none=>none)
  | none=>none
end
def Blk.ren (σ:Nat→Option Nat):Blk→Option Blk
 | .cells e l=>match SV.renL σ l with | some l=>some (.cells e l) | none=>none
 | .row e sh n d=>some (.row e sh n d)
 | .unk=>some .unk
def renBs (σ:Nat→Option Nat):List Blk→Option (List Blk)
 | []=>some []
 | b :: l=>match b.ren σ with
  | some b=>(match renBs σ l with | some l=>some (b :: l) | none=>none)
  | none=>none
mutual
theorem ren_den {σ:Nat→Option Nat} {ρ ρ2:Env} (hσ:∀ i j,σ i=some j→∀ m,ρ i=some m→ρ2 j=some m):∀ {v v':SV} {x:Value},v.ren σ=some v'→(v.nro=false→OdExt ρ.od ρ2.od)→v.den ρ x→v'.den ρ2 x
 | .ptr i o,v',x,h,_,⟨m,hm,e⟩=>by simp only [SV.ren] at h;split at h <;> cases h;exact ⟨m,hσ _ _ (by assumption) m hm,e⟩
 | .elt i s k c,v',x,h,_,⟨m,hm,e⟩=>by simp only [SV.ren] at h;split at h <;> cases h;exact ⟨m,hσ _ _ (by assumption) m hm,e⟩
 | .slc i s k n,v',x,h,_,⟨A,c,e,hc,hA⟩=>by
  simp only [SV.ren] at h;split at h <;> cases h
  exact ⟨A,c,e,hc,fun h0=>let ⟨m,hm,ha⟩:=hA h0;⟨m,hσ _ _ (by assumption) m hm,ha⟩⟩
 | .own i s n,v',x,h,_,⟨m,hm,e⟩=>by simp only [SV.ren] at h;split at h <;> cases h;exact ⟨m,hσ _ _ (by assumption) m hm,e⟩
 | .gr i s n,v',x,h,_,hd=>by
  simp only [SV.ren] at h;split at h <;> cases h
  exact hd.imp id fun ⟨m,hm,e⟩=>⟨m,hσ _ _ (by assumption) m hm,e⟩
 | .agg l,v',x,h,ho,⟨xs,e,hl⟩=>by simp only [SV.ren] at h;split at h <;> cases h;exact ⟨xs,e,renL_den hσ (by assumption) ho hl⟩
 | .tup l,v',x,h,ho,⟨xs,e,hl⟩=>by simp only [SV.ren] at h;split at h <;> cases h;exact ⟨xs,e,renL_den hσ (by assumption) ho hl⟩
 | .fn f l,v',x,h,ho,⟨xs,e,hl⟩=>by simp only [SV.ren] at h;split at h <;> cases h;exact ⟨xs,e,renL_den hσ (by assumption) ho hl⟩
 | .fb f l,v',x,h,ho,⟨xs,e,hl⟩=>by simp only [SV.ren] at h;split at h <;> cases h;exact ⟨xs,e,renL_den hσ (by assumption) ho hl⟩
 | .ifc f l,v',x,h,ho,⟨xs,e,hl⟩=>by simp only [SV.ren] at h;split at h <;> cases h;exact ⟨xs,e,renL_den hσ (by assumption) ho hl⟩
 | .ni _,v',x,h,_,hd=>by simp only [SV.ren] at h;cases h;exact hd
 | .gd _ _ _,_,_,h,_,_=>by simp [SV.ren] at h
 | .any,v',x,h,_,hd=>by simp only [SV.ren] at h;cases h;exact hd
 | .int k n,v',x,h,_,hd=>by simp only [SV.ren] at h;cases h;exact hd
 | .bool b,v',x,h,_,hd=>by simp only [SV.ren] at h;cases h;exact hd
 | .str s,v',x,h,_,hd=>by simp only [SV.ren] at h;cases h;exact hd
 | .nsl,v',x,h,_,hd=>by simp only [SV.ren] at h;cases h;exact hd
 | .emp,v',x,h,_,hd=>by simp only [SV.ren] at h;cases h;exact hd
 | .val _,v',x,h,_,hd=>by simp only [SV.ren] at h;cases h;exact hd
 | .ro sh n d,v',x,h,ho,⟨A,c,e,hc,hA⟩=>by
  simp only [SV.ren] at h;cases h
  exact ⟨A,c,e,hc,fun h0=>let ⟨b,o,ha,hq⟩:=hA h0;⟨b,o,ha,fun q hl=>Kd.denL_mono (ho rfl) (hq q hl)⟩⟩
 | .rp sh d k j,v',x,h,ho,⟨b,o,e,hA⟩=>by
  simp only [SV.ren] at h;cases h
  exact ⟨b,o,e,Kd.denL_mono (ho rfl) hA⟩
 | .rn sh n d,v',x,h,ho,⟨a,c,e,hc,hA⟩=>by
  simp only [SV.ren] at h;cases h
  exact ⟨a,c,e,hc,fun h0=>let ⟨b,o,ha,hq⟩:=hA h0;⟨b,o,ha,fun q hl=>Kd.denL_mono (ho rfl) (hq q hl)⟩⟩
 | .ra sh n d,v',x,h,ho,⟨b,o,e,hA⟩=>by
  simp only [SV.ren] at h;cases h
  exact ⟨b,o,e,fun q hq=>Kd.denL_mono (ho rfl) (hA q hq)⟩
 | .pix i o s m k c,v',x,h,_,⟨mm,hm,e⟩=>by simp only [SV.ren] at h;split at h <;> cases h;exact ⟨mm,hσ _ _ (by assumption) mm hm,e⟩
 | .rq t sh d k j,v',x,h,ho,hd=>by
  simp only [SV.ren] at h;cases h
  exact hd.imp (fun ⟨e,b,o,hx,hA⟩=>⟨e,b,o,hx,Kd.denL_mono (ho rfl) hA⟩) id
 | .rz t i sh d,v',x,h,ho,hd=>by
  simp only [SV.ren] at h;cases h
  exact hd.imp (fun ⟨e,b,hx,hp,hA⟩=>⟨e,b,hx,(ho rfl).p _ _ hp,Kd.denL_mono (ho rfl) hA⟩) id
 | .mp kd e,v',x,h,ho,hd=>by
  simp only [SV.ren] at h;cases h
  exact Kd.den_mono (ho rfl) hd
theorem renL_den {σ:Nat→Option Nat} {ρ ρ2:Env} (hσ:∀ i j,σ i=some j→∀ m,ρ i=some m→ρ2 j=some m):∀ {l l':List SV} {xs:List Value},SV.renL σ l=some l'→(SV.nroL l=false→OdExt ρ.od ρ2.od)→SV.denL ρ l xs→SV.denL ρ2 l' xs
 | [],l',[],h,_,_=>by simp only [SV.renL] at h;cases h;trivial
 | v :: l,l',x :: xs,h,ho,⟨hd,hl⟩=>by
  simp only [SV.renL] at h
  split at h <;> try (cases h;done)
  split at h <;> cases h
  exact ⟨ren_den hσ (by assumption) (fun hn=>ho (by simp [SV.nroL,hn])) hd,renL_den hσ (by assumption) (fun hn=>ho (by simp [SV.nroL,hn])) hl⟩
 | [],_,_ :: _,_,_,hl=>hl.elim
 | _ :: _,_,[],_,_,hl=>hl.elim
end
theorem kd_od {od od':Od} {kd:Kd} (hp:kd.plain=true) {d:Dat} {k c:Nat} {x:Value} (h:kd.den od d k c x):kd.den od' d k c x:=by cases kd <;> first | exact h | cases hp
theorem renB_den {σ:Nat→Option Nat} {ρ ρ2:Env} (hσ:∀ i j,σ i=some j→∀ m,ρ i=some m→ρ2 j=some m) {b b':Blk} (h:b.ren σ=some b') (ho:b.nro=false→OdExt ρ.od ρ2.od) {w:World} {m:Nm} (hd:b.den ρ w m):b'.den ρ2 w m:=by
 cases b with
 | unk=>cases h;trivial
 | cells e l =>
  simp only [Blk.ren] at h
  split at h <;> cases h
  obtain ⟨h0,c,hc,hl⟩:=hd
  exact ⟨h0,c,hc,renL_den hσ (by assumption) ho hl⟩
 | row e sh n d =>
  cases h
  obtain ⟨h0,h1,h2,h3⟩:=hd
  refine ⟨h0,h1,h2,fun k hk=>⟨(h3 k hk).1,fun j v hv=>?_⟩⟩
  obtain ⟨x,hx,hdx⟩:=(h3 k hk).2 j v hv
  refine ⟨x,hx,?_⟩
  rw [el_get] at hv
  cases hs:sh[j]? with
  | none=>rw [hs] at hv;cases hv
  | some kd =>
   rw [hs] at hv;cases hv
   rw [kdSV_den] at hdx ⊢
   cases hn:Blk.nro (.row e sh n d) with
   | false=>exact Kd.den_mono (ho hn) hdx
   | true=>exact kd_od ((List.all_eq_true.1 hn) kd (List.mem_of_getElem? hs)) hdx
theorem renB_unk {σ:Nat→Option Nat} {b b':Blk} (h:b.ren σ=some b'):b'.isUnk=b.isUnk∧(b.ghost→b'.ghost):=by
 cases b with
 | unk=>cases h;exact ⟨rfl,id⟩
 | cells e l=>simp only [Blk.ren] at h;split at h <;> cases h;exact ⟨rfl,id⟩
 | row e sh n d=>cases h;exact ⟨rfl,id⟩
theorem renBs_get {σ:Nat→Option Nat}:∀ {l l':List Blk},renBs σ l=some l'→l'.length=l.length∧∀ (i:Nat) (b':Blk),l'[i]? = some b'→∃ b:Blk,l[i]? = some b∧b.ren σ=some b'
 | [],l',h=>by simp only [renBs] at h;cases h;exact ⟨rfl,fun i b' hi=>by simp at hi⟩
 | b :: l,l',h=>by
  simp only [renBs] at h
  split at h <;> try (cases h;done)
  rename_i b1 hb1
  split at h <;> cases h
  rename_i l1 hl1
  obtain ⟨h1,h2⟩:=renBs_get hl1
  refine ⟨by simp [h1],fun i b' hi=>?_⟩
  cases i with
  | zero=>simp at hi;subst hi;exact ⟨b,rfl,hb1⟩
  | succ i=>exact h2 i b' (by simpa using hi)
theorem od_ext {ρ:Env} {od:Od} (he:OdExt ρ.od od):Ext ρ ⟨ρ.nm,od,ρ.gl.ext he⟩:=⟨fun _ _ h=>h,he⟩
theorem reads_ro {ρ:Env} {od:Od} (he:OdExt ρ.od od) {sh:List Kd} {n:Nat} {d:Dat} {x:Value} (h:Reads ρ (fun b o y=>od b o=some y) sh n d x):(SV.ro sh n d).den ⟨ρ.nm,od,ρ.gl.ext he⟩ x:=by
 obtain ⟨A,cap,rfl,hc,hA⟩:=h
 refine ⟨A,cap,rfl,hc,fun h0=>?_⟩
 obtain ⟨b,o,rfl,hq⟩:=hA h0
 refine ⟨b,o,rfl,fun q hl=>?_⟩
 rw [kdE_iff]
 intro j v hv
 obtain ⟨y,hy,hd⟩:=hq q hl j v hv
 exact ⟨y,by rw [Nat.add_assoc];exact hy,SV.den_mono (od_ext he) _ _ hd⟩
theorem rdR_known {sh:List Kd} {size k n:Nat} {b:Blk} {r:Nat × Dat × List Bool} (h:rdR sh size k n b=some r):b.isUnk=false:=by
 cases b <;> first | rfl | (simp [rdR] at h)
theorem rdS_known {sh:List Kd} {mem:Nat→Blk} {v:SV} {r:Nat × Dat × List Bool} (h:rdS sh mem v=some r):∀ i∈nmS v,(mem i).isUnk=false:=by
 intro i hi
 cases v <;> simp only [nmS,List.not_mem_nil,List.mem_singleton] at hi
 all_goals (subst hi;exact rdR_known h)
inductive RH where
 | k
 | ro (sh:List Kd)
 | ra (sh:List Kd) (n:Nat)
 | t (l:List RH)
 | rp (sh:List Kd)
 | f (l:List RH)
 | rq (sh:List Kd)
 | rz (sh:List Kd)
def sealA (mem:Nat→Blk) (sh:List Kd) (n:Nat):SV→Option (SV × List Nat × List Bool)
 | .ptr i o=>match mem i with
  | .cells _ l=>match Nat.ble (o+n * sh.length) l.length&&(List.range n).all (fun q=>kdsB sh (((l.drop o).drop (q * sh.length)).take sh.length)) with
   | true=>some (.ra sh n (datS (l.drop o) sh.length),[i],[])
   | false=>none
  | _=>none
 | .ra sh' n' d=>match kdsEq sh' sh&&Nat.beq n n' with
  | true=>some (.ra sh n d,[],[])
  | false=>none
 | _=>none
theorem sealA_den {B:Nat} {M:List Nat} {ρ:Env} {mem:Nat→Blk} {w:World} (hm:MemDen B M ρ mem w) {od:Od} (he:OdExt ρ.od od) {sh:List Kd} {n:Nat} {v v':SV} {sl:List Nat} {ns:List Bool} {x:Value} (h:sealA mem sh n v=some (v',sl,ns))
  (hs:∀ i∈sl,∀ m,ρ i=some m→∀ o y,w.cell? ⟨m.blk,o,none⟩=some y→od m.blk o=some y) (hd:v.den ρ x):v'.den ⟨ρ.nm,od,ρ.gl.ext he⟩ x:=by
 unfold sealA at h
 split at h <;> try (cases h;done)
 ·rename_i i o
  split at h <;> try (cases h;done)
  rename_i e l hi
  split at h <;> cases h
  rename_i hb
  simp only [Bool.and_eq_true,List.all_eq_true,List.mem_range] at hb
  obtain ⟨m,hmi,rfl⟩:=hd
  obtain ⟨_,hbk,_⟩:=hm.get (by rw [hi];rfl) hmi
  rw [hi] at hbk
  obtain ⟨h0,c,hc,hl⟩:=hbk
  refine ⟨m.blk,m.off+o,rfl,fun q hq=>?_⟩
  rw [kdE_iff]
  intro c' u hu
  have hk:=hb.2 q hq
  have hu':=hu
  rw [el_datS hk,List.getElem?_take] at hu
  split at hu <;> try (cases hu;done)
  rw [List.getElem?_drop,List.getElem?_drop] at hu
  obtain ⟨y,hy,hd⟩:=denL_get hl hu
  refine ⟨y,hs i (by simp) m hmi _ y ?_,?_⟩
  ·rw [h0,Nat.zero_add,cell_of_row w m.blk _ c e (0,0) hc,← Array.getElem?_toList,← hy]
   congr 1
   omega
  ·rw [el_get] at hu'
   cases hs':sh[c']? with
   | none=>rw [hs'] at hu';cases hu'
   | some kd=>rw [hs'] at hu';cases hu';rw [kdSV_den] at hd ⊢;exact Kd.den_mono he hd
 ·rename_i sh' n' d
  split at h <;> cases h
  rename_i heq
  simp only [Bool.and_eq_true] at heq
  have e1:=kdsEq_ok heq.1
  subst e1
  have e2:n=n':=by simpa using heq.2
  subst e2
  obtain ⟨b,o,e,hL⟩:=hd
  exact ⟨b,o,e,fun q hq=>Kd.denL_mono he (hL q hq)⟩
theorem sealA_known {mem:Nat→Blk} {sh:List Kd} {n:Nat} {v v':SV} {sl:List Nat} {ns:List Bool} (h:sealA mem sh n v=some (v',sl,ns)):∀ i∈sl,(mem i).isUnk=false:=by
 unfold sealA at h
 split at h <;> try (cases h;done)
 ·split at h <;> try (cases h;done)
  rename_i hi
  split at h <;> cases h
  intro i' hi'
  simp at hi';subst hi';rw [hi];rfl
 ·split at h <;> cases h
  intro i hi;simp at hi
def sealP (mem:Nat→Blk) (sh:List Kd):SV→Option (SV × List Nat × List Bool)
 | .ptr i o=>match mem i with
  | .cells _ l=>match kdsB sh l with
   | true=>some (.rp sh (datC l) 0 o,[i],[])
   | false=>none
  | _=>none
 | .rp sh' d k j=>match kdsEq sh' sh with
  | true=>some (.rp sh d k j,[],[])
  | false=>none
 | _=>none
theorem sealP_den {B:Nat} {M:List Nat} {ρ:Env} {mem:Nat→Blk} {w:World} (hm:MemDen B M ρ mem w) {od:Od} (he:OdExt ρ.od od) {sh:List Kd} {v v':SV} {sl:List Nat} {ns:List Bool} {x:Value} (h:sealP mem sh v=some (v',sl,ns))
  (hs:∀ i∈sl,∀ m,ρ i=some m→∀ o y,w.cell? ⟨m.blk,o,none⟩=some y→od m.blk o=some y) (hd:v.den ρ x):v'.den ⟨ρ.nm,od,ρ.gl.ext he⟩ x:=by
 unfold sealP at h
 split at h <;> try (cases h;done)
 ·rename_i i o
  split at h <;> try (cases h;done)
  rename_i e l hi
  split at h <;> cases h
  rename_i hb
  obtain ⟨m,hmi,rfl⟩:=hd
  obtain ⟨_,hbk,_⟩:=hm.get (by rw [hi];rfl) hmi
  rw [hi] at hbk
  obtain ⟨h0,c,hc,hl⟩:=hbk
  refine ⟨m.blk,0,by rw [h0],?_⟩
  rw [kdE_iff]
  intro j u hu
  have hu':=hu
  rw [el_datC hb] at hu
  obtain ⟨y,hy,hd⟩:=denL_get hl hu
  refine ⟨y,hs i (by simp) m hmi _ y ?_,?_⟩
  ·rw [Nat.zero_add,cell_of_row w m.blk _ c e (0,0) hc,← Array.getElem?_toList,← hy]
  ·rw [el_get] at hu'
   cases hs':sh[j]? with
   | none=>rw [hs'] at hu';cases hu'
   | some kd=>rw [hs'] at hu';cases hu';rw [kdSV_den] at hd ⊢;exact Kd.den_mono he hd
 ·rename_i sh' d k j
  split at h <;> cases h
  rename_i heq
  have e1:=kdsEq_ok heq
  subst e1
  obtain ⟨b,o,e,hL⟩:=hd
  exact ⟨b,o,e,Kd.denL_mono he hL⟩
theorem sealP_known {mem:Nat→Blk} {sh:List Kd} {v v':SV} {sl:List Nat} {ns:List Bool} (h:sealP mem sh v=some (v',sl,ns)):∀ i∈sl,(mem i).isUnk=false:=by
 unfold sealP at h
 split at h <;> try (cases h;done)
 ·split at h <;> try (cases h;done)
  rename_i hi
  split at h <;> cases h
  intro i' hi'
  simp at hi';subst hi';rw [hi];rfl
 ·split at h <;> cases h
  intro i hi;simp at hi
def sealQ (sh:List Kd):SV→Option (SV × List Nat × List Bool)
 | .rp sh' d k j=>(match kdsEq sh' sh with
  | true=>some (.rq true sh d k j,[],[])
  | false=>none)
 | .rq t sh' d k j=>(match kdsEq sh' sh with
  | true=>some (.rq t sh d k j,[],[])
  | false=>none)
 | .val v=>(match v with
  | .pointer none=>some (.rq false sh noDat 0 0,[],[])
  | _=>none)
 | _=>none
theorem sealQ_den {ρ:Env} {od:Od} (he:OdExt ρ.od od) {sh:List Kd} {v v':SV} {sl:List Nat} {ns:List Bool} {x:Value} (h:sealQ sh v=some (v',sl,ns)) (hd:v.den ρ x):v'.den ⟨ρ.nm,od,ρ.gl.ext he⟩ x:=by
 unfold sealQ at h
 split at h <;> try (cases h;done)
 ·split at h <;> cases h
  rename_i heq
  have e1:=kdsEq_ok heq
  subst e1
  obtain ⟨b,o,e,hL⟩:=hd
  exact .inl ⟨rfl,b,o,e,Kd.denL_mono he hL⟩
 ·split at h <;> cases h
  rename_i heq
  have e1:=kdsEq_ok heq
  subst e1
  exact hd.imp (fun ⟨t,b,o,e,hL⟩=>⟨t,b,o,e,Kd.denL_mono he hL⟩) id
 ·split at h <;> cases h
  exact .inr ⟨rfl,hd⟩
theorem sealQ_known {mem:Nat→Blk} {sh:List Kd} {v v':SV} {sl:List Nat} {ns:List Bool} (h:sealQ sh v=some (v',sl,ns)):∀ i∈sl,(mem i).isUnk=false:=by
 unfold sealQ at h
 split at h <;> try (cases h;done)
 all_goals (split at h <;> cases h;intro i hi;simp at hi)
def sealZ (sh:List Kd):SV→Option (SV × List Nat × List Bool)
 | .rz t i sh' d=>(match kdsEq sh' sh with
  | true=>some (.rz t i sh d,[],[])
  | false=>none)
 | .val v=>(match v with
  | .pointer none=>some (.rz false 0 sh noDat,[],[])
  | _=>none)
 | _=>none
theorem sealZ_den {ρ:Env} {od:Od} (he:OdExt ρ.od od) {sh:List Kd} {v v':SV} {sl:List Nat} {ns:List Bool} {x:Value} (h:sealZ sh v=some (v',sl,ns)) (hd:v.den ρ x):v'.den ⟨ρ.nm,od,ρ.gl.ext he⟩ x:=by
 unfold sealZ at h
 split at h <;> try (cases h;done)
 ·split at h <;> cases h
  rename_i heq
  have e1:=kdsEq_ok heq
  subst e1
  exact hd.imp (fun ⟨t,b,e,hp,hL⟩=>⟨t,b,e,he.p _ _ hp,Kd.denL_mono he hL⟩) id
 ·split at h <;> cases h
  exact .inr ⟨rfl,hd⟩
theorem sealZ_known {mem:Nat→Blk} {sh:List Kd} {v v':SV} {sl:List Nat} {ns:List Bool} (h:sealZ sh v=some (v',sl,ns)):∀ i∈sl,(mem i).isUnk=false:=by
 unfold sealZ at h
 split at h <;> try (cases h;done)
 all_goals (split at h <;> cases h;intro i hi;simp at hi)
def fnOf:SV→Option (Nat × List SV)
 | .fn f vs=>some (f,vs)
 | _=>none
theorem fnOf_some {v:SV} {p:Nat × List SV} (h:fnOf v=some p):v=.fn p.1 p.2:=by
 unfold fnOf at h
 split at h <;> cases h
 rfl
mutual
def sealV (mem:Nat→Blk):RH→SV→Option (SV × List Nat × List Bool)
 | .k,v=>some (v,[],[])
 | .ro sh,v=>match rdS sh mem v with
  | some (n,d,ns)=>some (.ro sh n d,nmS v,ns)
  | none=>none
 | .ra sh n,v=>sealA mem sh n v
 | .t l,.tup vs=>match sealVs mem l vs with
  | some (vs,sl,ns)=>some (.tup vs,sl,ns)
  | none=>none
 | .t l,.agg vs=>match sealVs mem l vs with
  | some (vs,sl,ns)=>some (.agg vs,sl,ns)
  | none=>none
 | .rp sh,v=>sealP mem sh v
 | .rq sh,v=>sealQ sh v
 | .rz sh,v=>sealZ sh v
 | .f l,v=>match fnOf v with
  | some p=>(match sealVs mem l p.2 with
   | some (vs,sl,ns)=>some (.fn p.1 vs,sl,ns)
   | none=>none)
  | none=>none
 | .t _,_=>none
def sealVs (mem:Nat→Blk):List RH→List SV→Option (List SV × List Nat × List Bool)
 | _,[]=>some ([],[],[])
 | [],vs=>some (vs,[],[])
 | h :: l,v :: vs=>match sealV mem h v with
  | some (v,sl,ns)=>(match sealVs mem l vs with
   | some (vs,sl',ns')=>some (v :: vs,sl ++ sl',ns ++ ns')
   | none=>none)
  | none=>none
end
mutual
theorem seal_den {B:Nat} {M:List Nat} {ρ:Env} {mem:Nat→Blk} {w:World} (hm:MemDen B M ρ mem w) {od:Od} (he:OdExt ρ.od od):∀ {h:RH} {v v':SV} {sl:List Nat} {ns:List Bool} {x:Value},sealV mem h v=some (v',sl,ns)→(∀ b∈ns,b=true) →
  (∀ i∈sl,∀ m,ρ i=some m→∀ o y,w.cell? ⟨m.blk,o,none⟩=some y→od m.blk o=some y)→v.den ρ x→v'.den ⟨ρ.nm,od,ρ.gl.ext he⟩ x
 | .k,v,v',sl,ns,x,h,_,_,hd=>by simp only [sealV] at h;cases h;exact SV.den_mono (od_ext he) _ _ hd
 | .ro sh,v,v',sl,ns,x,h,hn,hs,hd=>by
  simp only [sealV] at h
  split at h <;> cases h
  exact reads_ro he (rdS_reads hm (fun b o y hy=>he b o y hy) (fun i m hi hmi o y hy=>hs i hi m hmi o y hy) (by assumption) hn hd)
 | .ra sh n,v,v',sl,ns,x,h,hn,hs,hd=>by simp only [sealV] at h;exact sealA_den hm he h hs hd
 | .rp sh,v,v',sl,ns,x,h,hn,hs,hd=>by simp only [sealV] at h;exact sealP_den hm he h hs hd
 | .rq sh,v,v',sl,ns,x,h,hn,hs,hd=>by simp only [sealV] at h;exact sealQ_den he h hd
 | .rz sh,v,v',sl,ns,x,h,hn,hs,hd=>by simp only [sealV] at h;exact sealZ_den he h hd
 | .f l,v,v',sl,ns,x,h,hn,hs,hd=>by
  simp only [sealV] at h
  split at h <;> try (cases h;done)
  rename_i p hp
  split at h <;> cases h
  rw [fnOf_some hp] at hd
  obtain ⟨xs,e,hd⟩:=hd
  exact ⟨xs,e,seals_den hm he (by assumption) hn hs hd⟩
 | .t l,.tup vs,v',sl,ns,x,h,hn,hs,⟨xs,e,hd⟩=>by
  simp only [sealV] at h
  split at h <;> cases h
  exact ⟨xs,e,seals_den hm he (by assumption) hn hs hd⟩
 | .t l,.agg vs,v',sl,ns,x,h,hn,hs,⟨xs,e,hd⟩=>by
  simp only [sealV] at h
  split at h <;> cases h
  exact ⟨xs,e,seals_den hm he (by assumption) hn hs hd⟩
 | .t l,.any,_,_,_,_,h,_,_,_ | .t l,.int _ _,_,_,_,_,h,_,_,_ | .t l,.bool _,_,_,_,_,h,_,_,_ | .t l,.str _,_,_,_,_,h,_,_,_ | .t l,.ptr _ _,_,_,_,_,h,_,_,_ | .t l,.elt _ _ _ _,_,_,_,_,h,_,_,_=>by simp [sealV] at h
 | .t l,.slc _ _ _ _,_,_,_,_,h,_,_,_ | .t l,.own _ _ _,_,_,_,_,h,_,_,_ | .t l,.gr _ _ _,_,_,_,_,h,_,_,_ | .t l,.nsl,_,_,_,_,h,_,_,_ | .t l,.ro _ _ _,_,_,_,_,h,_,_,_ | .t l,.rp _ _ _ _,_,_,_,_,h,_,_,_=>by simp [sealV] at h
 | .t l,.rn _ _ _,_,_,_,_,h,_,_,_ | .t l,.ra _ _ _,_,_,_,_,h,_,_,_ | .t l,.pix _ _ _ _ _ _,_,_,_,_,h,_,_,_ | .t l,.fn _ _,_,_,_,_,h,_,_,_ | .t l,.fb _ _,_,_,_,_,h,_,_,_ | .t l,.gd _ _ _,_,_,_,_,h,_,_,_ | .t l,.val _,_,_,_,_,h,_,_,_ | .t l,.rq _ _ _ _ _,_,_,_,_,h,_,_,_ | .t l,.rz _ _ _ _,_,_,_,_,h,_,_,_ | .t l,.mp _ _,_,_,_,_,h,_,_,_ | .t l,.ni _,_,_,_,_,h,_,_,_ | .t l,.ifc _ _,_,_,_,_,h,_,_,_=>by simp [sealV] at h
theorem seals_den {B:Nat} {M:List Nat} {ρ:Env} {mem:Nat→Blk} {w:World} (hm:MemDen B M ρ mem w) {od:Od} (he:OdExt ρ.od od):∀ {h:List RH} {v v':List SV} {sl:List Nat} {ns:List Bool} {x:List Value},sealVs mem h v=some (v',sl,ns)→(∀ b∈ns,b=true) →
  (∀ i∈sl,∀ m,ρ i=some m→∀ o y,w.cell? ⟨m.blk,o,none⟩=some y→od m.blk o=some y)→SV.denL ρ v x→SV.denL ⟨ρ.nm,od,ρ.gl.ext he⟩ v' x
 | _,[],v',sl,ns,[],h,_,_,hd=>by simp only [sealVs] at h;cases h;trivial
 | [],v :: vs,v',sl,ns,x :: xs,h,_,_,hd=>by simp only [sealVs] at h;cases h;exact SV.denL_mono (od_ext he) _ _ hd
 | h0 :: l,v :: vs,v',sl,ns,x :: xs,h,hn,hs,⟨hd,hl⟩=>by
  simp only [sealVs] at h
  split at h <;> try (cases h;done)
  split at h <;> cases h
  exact ⟨seal_den hm he (by assumption) (fun b hb=>hn b (List.mem_append.2 (.inl hb))) (fun i hi=>hs i (List.mem_append.2 (.inl hi))) hd,seals_den hm he (by assumption) (fun b hb=>hn b (List.mem_append.2 (.inr hb))) (fun i hi=>hs i (List.mem_append.2 (.inr hi))) hl⟩
 | _,[],_,_,_,_ :: _,_,_,_,hd=>hd.elim
 | _,_ :: _,_,_,_,[],_,_,_,hd=>hd.elim
end
mutual
theorem seal_known {mem:Nat→Blk}:∀ {h:RH} {v v':SV} {sl:List Nat} {ns:List Bool},sealV mem h v=some (v',sl,ns)→∀ i∈sl,(mem i).isUnk=false
 | .k,v,v',sl,ns,h,i,hi=>by simp only [sealV] at h;cases h;simp at hi
 | .ro sh,v,v',sl,ns,h,i,hi=>by
  simp only [sealV] at h
  split at h <;> cases h
  exact rdS_known (by assumption) i hi
 | .ra sh n,v,v',sl,ns,h,i,hi=>by simp only [sealV] at h;exact sealA_known h i hi
 | .rp sh,v,v',sl,ns,h,i,hi=>by simp only [sealV] at h;exact sealP_known h i hi
 | .rq sh,v,v',sl,ns,h,i,hi=>by simp only [sealV] at h;exact sealQ_known h i hi
 | .rz sh,v,v',sl,ns,h,i,hi=>by simp only [sealV] at h;exact sealZ_known h i hi
 | .f l,v,v',sl,ns,h,i,hi=>by
  simp only [sealV] at h
  split at h <;> try (cases h;done)
  split at h <;> cases h
  exact seals_known (by assumption) i hi
 | .t l,v,v',sl,ns,h,i,hi=>by
  unfold sealV at h
  split at h <;> try (cases h;done)
  all_goals (rename_i e;cases e)
  all_goals (split at h <;> cases h;exact seals_known (by assumption) i hi)
theorem seals_known {mem:Nat→Blk}:∀ {h:List RH} {v v':List SV} {sl:List Nat} {ns:List Bool},sealVs mem h v=some (v',sl,ns)→∀ i∈sl,(mem i).isUnk=false
 | _,[],v',sl,ns,h,i,hi=>by simp only [sealVs] at h;cases h;simp at hi
 | [],v :: vs,v',sl,ns,h,i,hi=>by simp only [sealVs] at h;cases h;simp at hi
 | h0 :: l,v :: vs,v',sl,ns,h,i,hi=>by
  simp only [sealVs] at h
  split at h <;> try (cases h;done)
  split at h <;> cases h
  rcases List.mem_append.1 hi with hi | hi
  ·exact seal_known (by assumption) i hi
  ·exact seals_known (by assumption) i hi
end
end runs
end Go.Sy
