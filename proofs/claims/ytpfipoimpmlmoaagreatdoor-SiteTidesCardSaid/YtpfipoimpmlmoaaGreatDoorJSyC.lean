/-
 A symbolic executor for the model's code, part C: operations that write or make memory, arithmetic, addresses. Conditions: none.
-/
import Derived.Test.YtpfipoimpmlmoaaGreatDoorJSyB
namespace Go.Sy
set_option linter.unusedVariables false
set_option linter.unusedSimpArgs false
open Go.RowKit
section runs
variable {P:Program}
def Dat.upd (d:Dat) (k j:Nat) (cs:List SV):Dat where
 ii:=fun q c=>if q=k then (if j≤c then (match cs[c - j]? with | some (.int _ x)=>x | _=>d.ii q c) else d.ii q c) else d.ii q c
 ss:=fun q c=>if q=k then (if j≤c then (match cs[c - j]? with | some (.str x)=>x | _=>d.ss q c) else d.ss q c) else d.ss q c
 bb:=fun q c=>if q=k then (if j≤c then (match cs[c - j]? with | some (.bool x)=>x | _=>d.bb q c) else d.bb q c) else d.bb q c
 sn:=fun q c=>if q=k then (if j≤c then (match cs[c - j]? with | some (.ro _ n _)=>n | some (.rz _ i _ _)=>i | _=>d.sn q c) else d.sn q c) else d.sn q c
 sd:=fun q c=>if q=k then (if j≤c then (match cs[c - j]? with | some (.ro _ _ e)=>some e | some (.rp _ e _ _)=>some e | some (.mp _ e)=>some e | some (.rz _ _ _ e)=>some e | _=>d.sd q c) else d.sd q c) else d.sd q c
def chSV (b:Bool):SV→SV→SV
 | .int k x,.int _ y=>.int k (cond b x y)
 | .bool x,.bool y=>.bool (cond b x y)
 | .str x,.str y=>.str (cond b x y)
 | _,v=>v
def pixL (l:List SV) (o s m k j n:Nat) (cs:List SV):List SV:=(List.range l.length).map fun c=>match l[c]? with
 | some old=>(match Nat.ble o c&&(Nat.blt c (o+m * s)&&(Nat.ble j ((c - o) % s)&&Nat.blt ((c - o) % s) (j+n))) with
  | true=>(match cs[(c - o) % s - j]? with | some new=>chSV (Nat.beq ((c - o) / s) k) new old | none=>old)
  | false=>old)
 | none=>.any
def xStore (P:Program) (mem:Nat→Blk) (t:TypeId) (p v:SV):Option OpRes :=
 match szOf P t,v.cells? with
 | some n,some cs=>if cs.length=n∧cs.all SV.one=true then
   (match p with
   | .ptr i o=>match mem i with
    | .cells e l=>if o+n≤l.length then some { v:=.any,upds:=[(i,.cells e (over l o cs))] } else none
    | _=>none
   | .elt i size k j=>match mem i with
    | .cells e l=>if k * size+j+n≤l.length then some { v:=.any,upds:=[(i,.cells e (over l (k * size+j) cs))] } else none
    | .row e sh m d=>if sh.length=size∧j+n≤sh.length∧kdsB ((sh.drop j).take n) cs=true then some { v:=.any,upds:=[(i,.row e sh m (d.upd k j cs))],need:=[decide (k<m)] } else none
    | _=>none
   | .pix i o s m k j=>match mem i with
    | .cells e l=>if homB l o s m j n=true∧o+m * s≤l.length∧j+n≤s∧(List.range n).all (fun c=>match l[o+j+c]?,cs[c]? with | some p,some v=>likeSV p v | _,_=>false)=true then some { v:=.any,upds:=[(i,.cells e (pixL l o s m k j n cs))],need:=[decide (k<m)] } else none
    | _=>none
   | _=>none) else none
 | _,_=>none
theorem setCells_heap (b:Nat):∀ (vs:List Value) (o:Nat) (w:World) (c:Array Value) (e:TypeId) (fz:Nat × Nat),w.heap[b]? = some (.cells c e fz)→o+vs.length≤c.size →
  (w.setCells b o vs).heap[b]? = some (.cells ⟨over c.toList o vs⟩ e fz)∧(∀ k,k≠b→(w.setCells b o vs).heap[k]? = w.heap[k]?)∧(w.setCells b o vs).heap.size=w.heap.size∧(w.setCells b o vs).os=w.os∧(w.setCells b o vs).tape=w.tape∧(w.setCells b o vs).output=w.output
 | [],o,w,c,e,fz,h,_=>by
  refine ⟨?_,fun _ _=>rfl,rfl,rfl,rfl,rfl⟩
  simp only [over,List.append_nil,List.length_nil,Nat.add_zero,List.take_append_drop]
  exact h
 | v :: vs,o,w,c,e,fz,h,hl=>by
  have h1:(w.setCell ⟨b,o,none⟩ v).heap[b]? = some (.cells (c.setIfInBounds o v) e fz):=by
   simp [World.setCell,Array.getElem?_modify,h]
  obtain ⟨g1,g2,g3,g4,g5,g6⟩:=setCells_heap b vs (o+1) (w.setCell ⟨b,o,none⟩ v) (c.setIfInBounds o v) e fz h1 (by simp at hl ⊢;omega)
  refine ⟨?_,fun k hk=>?_,?_,g4,g5,g6⟩
  ·have:(w.setCells b o (v :: vs))=((w.setCell ⟨b,o,none⟩ v).setCells b (o+1) vs):=rfl
   rw [this,g1]
   congr 2
   congr 1
   simp only [over,List.length_cons,Array.toList_setIfInBounds]
   apply List.ext_getElem?
   intro q
   simp only [List.getElem?_append,List.getElem?_take,List.getElem?_drop,List.getElem?_set,List.length_take,List.length_append,List.length_set,Array.length_toList,List.length_cons]
   simp at hl
   grind
  ·exact (g2 k hk).trans (Below.heap_setCell _ _ _ _ (by exact hk))
  ·have:(w.setCell ⟨b,o,none⟩ v).heap.size=w.heap.size:=by simp [World.setCell]
   exact g3.trans this
theorem over_get {α:Type} {l vs:List α} {o:Nat} (h:o+vs.length≤l.length) (i:Nat):(over l o vs)[i]? = if o≤i∧i<o+vs.length then vs[i - o]? else l[i]?:=by
 simp only [over,List.getElem?_append,List.getElem?_take,List.getElem?_drop,List.length_take,List.length_append]
 grind
theorem over_length {α:Type} {l vs:List α} {o:Nat} (h:o+vs.length≤l.length):(over l o vs).length=l.length:=by
 simp [over];omega
theorem el_upd_other {sh:List Kd} {d:Dat} {k j q:Nat} {cs:List SV} (h:q≠k):el sh (d.upd k j cs) q=el sh d q:=by
 apply List.ext_getElem?
 intro c
 rw [el_get,el_get]
 cases hs:sh[c]? with
 | none=>rfl
 | some kd=>cases kd <;> simp [kdSV,Dat.upd,Dat.sub,h]
theorem el_upd_same {sh:List Kd} {d:Dat} {k j:Nat} {cs:List SV} (hl:j+cs.length≤sh.length) (h:kdsB ((sh.drop j).take cs.length) cs=true):el sh (d.upd k j cs) k=over (el sh d k) j cs:=by
 rw [kdsB_iff] at h
 have hlen:=el_length sh d k
 have ov:=fun c=>over_get (l:=el sh d k) (vs:=cs) (o:=j) (by omega) c
 have inside:∀ c,j≤c∧c<j+cs.length→∀ kd v,sh[c]? = some kd→cs[c - j]? = some v→kd.ok v=true:=fun c hc kd v hk hv=>h.2 (c - j) kd v (by
  rw [List.getElem?_take,if_pos (by omega),List.getElem?_drop];rw [show j+(c - j)=c by omega];exact hk) hv
 refine el_of ?_ (fun c v hc=>?_)
 ·rw [kdsB_iff]
  refine ⟨by rw [over_length (by omega),hlen],fun c kd v hk hv=>?_⟩
  rw [ov] at hv
  split at hv
  ·exact inside c (by assumption) kd v hk hv
  ·exact (kdsB_iff.1 (el_kds sh d k)).2 c kd v hk hv
 ·rw [ov] at hc
  split at hc
  ·rename_i hin
   cases v <;> simp [Dat.has,Dat.upd,Dat.sub,hin.1,hc]
  ·rename_i hin
   rw [el_get] at hc
   have hd:d.has k c v:=by
    cases hs:sh[c]? with
    | none=>rw [hs] at hc;cases hc
    | some kd=>rw [hs] at hc;cases hc;exact kdSV_has d k c kd
   have:j≤c→cs[c - j]? = none:=fun _=>by rw [List.getElem?_eq_none_iff];omega
   cases v <;> simp only [Dat.has,Dat.upd,Dat.sub,if_true] at hd ⊢
   all_goals
    by_cases hj:j≤c
    ·simp only [if_pos hj,this hj];exact hd
    ·simp only [if_neg hj];exact hd
theorem run_store_cells {w:World} {m:Nm} {c:Array Value} {e:TypeId} {o n:Nat} {t:TypeId} {y:Value} (hc:w.heap[m.blk]? = some (.cells c e (0,0))) (hsz:szOf P t=some n) (hl:y.cells.toList.length=n) (ho:o+n≤c.size)
  (h1:∀ v∈y.cells.toList,v.oneCell'=true):(Instr.storeAt t (.pointer (some ⟨m.blk,o,none⟩)) y).run P w=.ok () (w.setCells m.blk o y.cells.toList):=by
 have:=run_storeCells_cells (P:=P) m.blk o y.cells.toList 0 w
  (fun j hj=>by rw [cell_of_row w m.blk _ c e (0,0) hc];simp;omega)
  (fun j hj=>by simp [World.frozen?,hc]) h1
 simp only [Nat.add_zero] at this
 have hs:y.cells.size=n:=by simpa using hl
 simp [Instr.storeAt,Instr.sureAddr,storeVar,run_szOf hsz,hs,this]
theorem ch_like {p a b:SV} (h:likeSV p a=true) (k:likeSV p b=true):chSV true a b=a∧chSV false a b=b:=by
 cases p <;> cases a <;> simp [likeSV] at h <;> cases b <;> simp [likeSV] at k <;> simp [chSV]
 rw [← h,← k]
theorem pix_den {ρ:Env} {l cs:List SV} {xs ys:List Value} {o s m k j n:Nat} (hl:SV.denL ρ l xs) (hc:SV.denL ρ cs ys) (hn:cs.length=n) (hk:k<m) (hom:homB l o s m j n=true) (hfit:o+m * s≤l.length) (hj:j+n≤s) (hkd:∀ c,c<n→∃ p v,l[o+j+c]? = some p∧cs[c]? = some v∧likeSV p v=true) :
  SV.denL ρ (pixL l o s m k j n cs) (over xs (o+k * s+j) ys):=by
 have hlen:=denL_length hl
 have hlc:=denL_length hc
 have hks:(k+1) * s≤m * s:=Nat.mul_le_mul_right _ hk
 rw [Nat.succ_mul] at hks
 refine denL_of_get (by rw [over_length (by omega)];simp [pixL,hlen]) fun c v x hv hx=>?_
 rw [over_get (by omega),hlc,hn] at hx
 unfold pixL at hv
 rw [List.getElem?_map] at hv
 cases hr:(List.range l.length)[c]? with
 | none=>rw [hr] at hv;cases hv
 | some c' =>
  have hcl:c<l.length:=by have:=(List.getElem?_eq_some_iff.1 hr).1;simpa using this
  rw [List.getElem?_range hcl] at hv
  have hold:l[c]? = some l[c]:=List.getElem?_eq_getElem hcl
  obtain ⟨xo,hxo,hdo⟩:=denL_get hl hold
  simp only [Option.map_some,hold,Option.some.injEq] at hv
  have outside:¬ (o+k * s+j≤c∧c<o+k * s+j+n)→v=l[c]→v.den ρ x:=by
   intro ho e
   rw [if_neg ho,hxo] at hx
   cases hx
   rw [e];exact hdo
  split at hv
  ·rename_i hin
   simp only [Bool.and_eq_true] at hin
   have h1:o≤c:=by simpa using hin.1
   have h2:c<o+m * s:=by simpa using hin.2.1
   have h3:j≤(c - o) % s:=by simpa using hin.2.2.1
   have h4:(c - o) % s<j+n:=by simpa using hin.2.2.2
   have hs:0<s:=by omega
   have hdm:(c - o) / s * s+(c - o) % s=c - o:=by rw [Nat.mul_comm];exact Nat.div_add_mod _ _
   have hq:(c - o) / s<m:=Nat.div_lt_of_lt_mul (by rw [Nat.mul_comm];omega)
   obtain ⟨p,u,hp1,hp2,hp3⟩:=homB_at hom hq (c:=(c - o) % s - j) (by omega)
   obtain ⟨p',u',hp1',hp2',hp3'⟩:=hkd ((c - o) % s - j) (by omega)
   rw [hp1] at hp1';cases hp1'
   rw [hp2'] at hv
   simp only at hv
   have hcu:l[c]=u:=by
    have:o+(c - o) / s * s+j+((c - o) % s - j)=c:=by omega
    rw [this,hold] at hp2;cases hp2;rfl
   rw [hcu] at hv
   obtain ⟨e1,e2⟩:=ch_like hp3' hp3
   by_cases hqk:(c - o) / s=k
   ·rw [hqk] at hdm
    rw [hqk,Nat.beq_refl,e1] at hv
    rw [if_pos (by omega)] at hx
    obtain ⟨y,hy,hdy⟩:=denL_get hc hp2'
    have:c - (o+k * s+j)=(c - o) % s - j:=by omega
    rw [this,hy] at hx
    cases hx
    rw [← hv];exact hdy
   ·have hb:Nat.beq ((c - o) / s) k=false:=by
     cases h:Nat.beq ((c - o) / s) k with
     | false=>rfl
     | true=>rw [Nat.beq_eq] at h;exact absurd h hqk
    rw [hb,e2] at hv
    refine outside (fun hh=>hqk ?_) (by rw [← hv,hcu])
    refine Nat.div_eq_of_lt_le ?_ ?_
    ·omega
    ·rw [Nat.succ_mul];omega
  ·rename_i hin
   refine outside (fun hh=>?_) hv.symm
   have hs:0<s:=by omega
   have hmod:(c - o) % s=c - (o+k * s):=by
    have:c - o=c - (o+k * s)+k * s:=by omega
    rw [this,Nat.add_mul_mod_self_right,Nat.mod_eq_of_lt (by omega)]
   have hcond:(Nat.ble o c&&(Nat.blt c (o+m * s)&&(Nat.ble j ((c - o) % s)&&Nat.blt ((c - o) % s) (j+n))))=true:=by
    simp only [Bool.and_eq_true,Nat.ble_eq,Nat.blt_eq,hmod]
    omega
   rw [hcond] at hin
   cases hin
theorem run_xStore {B:Nat} {M:List Nat} {ρ:Env} {mem:Nat→Blk} {w:World} (hm:MemDen B M ρ mem w) {t:TypeId} {p v:SV} {r:OpRes} (h:xStore P mem t p v=some r) (hn:∀ b∈r.need,b=true) {x y:Value} (hp:p.den ρ x) (hv:v.den ρ y) (off:Nat) :
  ∃ w',(Instr.storeAt t x y).run P w=.ok () w'∧OpPost ρ ρ off r w w' undef:=by
 unfold xStore at h
 split at h <;> try (cases h;done)
 rename_i n cs hsz hcs
 split at h <;> try (cases h;done)
 rename_i hcond
 obtain ⟨hlen,hone⟩:=hcond
 have hd:=cells?_den hv hcs
 have hly:y.cells.toList.length=n:=by rw [denL_length hd,hlen]
 have h1:=one_denL hd hone
 have post:∀ (i e:Nat) (m:Nm) (c:Array Value) (o:Nat) (b':Blk) (need:List Bool),ρ i=some m→(mem i).mine=true→w.heap[m.blk]? = some (.cells c e (0,0))→o+n≤c.size →
   (b'.den ρ (w.setCells m.blk o y.cells.toList) m)→OpPost ρ ρ off { v:=.any,upds:=[(i,b')],need:=need } w (w.setCells m.blk o y.cells.toList) undef:=by
  intro i e m c o b' need hi hmine hc ho hb
  obtain ⟨g1,g2,g3,g4,g5,g6⟩:=setCells_heap m.blk y.cells.toList o w c e (0,0) hc (by rw [hly];exact ho)
  refine ⟨trivial,Ext.refl _,fun _ _=>rfl,g4,g5,g6,by rw [g3];exact Nat.le_refl _,fun b _ hu=>g2 b fun e'=>hu (i,b') (by simp) m hi e'.symm,⟨fun _ _ _ h=>.inl h,fun _ _ h=>.inl h,rfl⟩,fun u hu _=>?_,fun _ _ hj=>by simp at hj,fun _ _ _ _ _ _ _ hj=>by simp at hj⟩
  simp at hu
  subst hu
  exact ⟨fun m' hm'=>by rw [hi] at hm';cases hm';exact hb,fun hn=>by rw [hi] at hn;cases hn⟩
 have cellsCase:∀ (i e:Nat) (l:List SV) (o:Nat),mem i=.cells e l→o+n≤l.length→(∃ m,ρ i=some m∧x=.pointer (some ⟨m.blk,m.off+o,none⟩)) →
   r={ v:=.any,upds:=[(i,.cells e (over l o cs))] }→∃ w',(Instr.storeAt t x y).run P w=.ok () w'∧OpPost ρ ρ off r w w' undef:=by
  rintro i e l o hmem ho ⟨m,hi,rfl⟩ rfl
  obtain ⟨_,hb,_⟩:=hm.get (by simp [hmem,Blk.isUnk]) hi
  rw [hmem] at hb
  obtain ⟨h0,c,hc,hd'⟩:=hb
  have hcl:c.size=l.length:=by simpa using denL_length hd'
  refine ⟨_,by rw [h0,Nat.zero_add];exact run_store_cells hc hsz hly (by omega) h1,?_⟩
  refine post i e m c o _ _ hi (by simp [hmem,Blk.mine]) hc (by omega) ⟨h0,_,(setCells_heap m.blk y.cells.toList o w c e (0,0) hc (by rw [hly];omega)).1,?_⟩
  exact denL_over hd' hd o
 split at h
 ·rename_i i o
  split at h <;> try (cases h;done)
  rename_i e l hmem
  split at h <;> cases h
  exact cellsCase i e l o hmem (by assumption) hp rfl
 ·rename_i i size k j
  split at h <;> try (cases h;done)
  ·rename_i e l hmem
   split at h <;> cases h
   exact cellsCase i e l _ hmem (by assumption) hp rfl
  ·rename_i e sh m d hmem
   split at h <;> cases h
   rename_i hs
   obtain ⟨rfl,hjn,hkd⟩:=hs
   simp only [List.mem_singleton,forall_eq,decide_eq_true_eq] at hn
   obtain ⟨nm,hi,rfl⟩:=hp
   obtain ⟨_,hb,_⟩:=hm.get (by simp [hmem,Blk.isUnk]) hi
   rw [hmem] at hb
   obtain ⟨h0,hcap,⟨c,hc,hcs',hmx⟩,hel⟩:=hb
   have hks:(k+1) * sh.length≤nm.cap * sh.length:=Nat.mul_le_mul_right _ (by omega)
   have hks':(k+1) * sh.length=k * sh.length+sh.length:=Nat.succ_mul k sh.length
   have hfit:k * sh.length+j+n≤c.size:=by omega
   have hheap:=(setCells_heap nm.blk y.cells.toList (k * sh.length+j) w c e (0,0) hc (by rw [hly];omega)).1
   refine ⟨_,by rw [h0,Nat.zero_add];exact run_store_cells hc hsz hly hfit h1,?_⟩
   have hsizes:(over c.toList (k * sh.length+j) y.cells.toList).length=c.size:=by rw [over_length (by rw [hly];simpa using hfit)];simp
   refine post i e nm c (k * sh.length+j) _ _ hi (by simp [hmem,Blk.mine]) hc hfit ⟨h0,hcap,⟨_,hheap,by simpa [hsizes] using hcs',hmx⟩,fun q hq=>⟨el_length _ _ _,?_⟩⟩
   have hcell:∀ o',(w.setCells nm.blk (k * sh.length+j) y.cells.toList).cell? ⟨nm.blk,o',none⟩=if k * sh.length+j≤o'∧o'<k * sh.length+j+n then y.cells.toList[o' - (k * sh.length+j)]? else w.cell? ⟨nm.blk,o',none⟩:=by
    intro o'
    rw [cell_of_row _ nm.blk o' _ e (0,0) hheap,cell_of_row w nm.blk o' c e (0,0) hc]
    have:=over_get (l:=c.toList) (vs:=y.cells.toList) (o:=k * sh.length+j) (by rw [hly];simpa using hfit) o'
    rw [hly] at this
    simpa using this
   by_cases hqk:q=k
   ·subst hqk
    rw [el_upd_same (by omega) (by rw [hlen];exact hkd)]
    intro j' sv hj'
    rw [over_get (by rw [el_length];omega),hlen] at hj'
    rw [h0,Nat.zero_add,hcell]
    by_cases hin:j≤j'∧j'<j+n
    ·rw [if_pos hin] at hj'
     rw [if_pos (by omega)]
     obtain ⟨z,hz,hdz⟩:=denL_get hd hj'
     exact ⟨z,by rw [← hz];congr 1;omega,hdz⟩
    ·rw [if_neg hin] at hj'
     rw [if_neg (by omega)]
     have:=(hel q hq).2 j' sv hj'
     rwa [h0,Nat.zero_add] at this
   ·rw [el_upd_other hqk]
    intro j' sv hj'
    have hjl:j'<sh.length:=by have:=(List.getElem?_eq_some_iff.1 hj').1;rw [el_length] at this;exact this
    rw [h0,Nat.zero_add,hcell]
    have hout:¬ (k * sh.length+j≤q * sh.length+j'∧q * sh.length+j'<k * sh.length+j+n):=by
     rintro ⟨ha,hb⟩
     rcases Nat.lt_or_gt_of_ne hqk with hlt | hlt
     ·have:(q+1) * sh.length≤k * sh.length:=Nat.mul_le_mul_right _ (by omega)
      rw [Nat.succ_mul] at this
      omega
     ·have:(k+1) * sh.length≤q * sh.length:=Nat.mul_le_mul_right _ (by omega)
      omega
    rw [if_neg hout]
    have:=(hel q hq).2 j' sv hj'
    rwa [h0,Nat.zero_add] at this
 ·rename_i i o s m k j
  split at h <;> try (cases h;done)
  rename_i e l hmem
  split at h <;> cases h
  rename_i hcond
  obtain ⟨hom,hfit,hj,hall⟩:=hcond
  have hkm:k<m:=by simpa using hn
  obtain ⟨nm,hi,rfl⟩:=hp
  obtain ⟨_,hb,_⟩:=hm.get (by simp [hmem,Blk.isUnk]) hi
  rw [hmem] at hb
  obtain ⟨h0,c,hc,hd'⟩:=hb
  have hcl:c.size=l.length:=by simpa using denL_length hd'
  have hks:(k+1) * s≤m * s:=Nat.mul_le_mul_right _ hkm
  rw [Nat.succ_mul] at hks
  have hfit':o+k * s+j+n≤c.size:=by omega
  refine ⟨_,by rw [h0,Nat.zero_add];exact run_store_cells hc hsz hly hfit' h1,?_⟩
  refine post i e nm c (o+k * s+j) _ _ hi (by simp [hmem,Blk.mine]) hc hfit' ⟨h0,_,(setCells_heap nm.blk y.cells.toList (o+k * s+j) w c e (0,0) hc (by rw [hly];omega)).1,?_⟩
  refine pix_den hd' hd hlen hkm hom hfit hj fun q hq=>?_
  have:=List.all_eq_true.1 hall q (List.mem_range.2 hq)
  split at this
  ·exact ⟨_,_,by assumption,by assumption,this⟩
  ·cases this
 ·cases h
end runs
end Go.Sy
