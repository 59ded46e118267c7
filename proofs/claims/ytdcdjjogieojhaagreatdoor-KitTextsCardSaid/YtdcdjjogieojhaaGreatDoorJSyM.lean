/-
 A symbolic executor for the model's code, part M: a region in any order, the induction. Conditions: none.
-/
import Derived.Test.YtdcdjjogieojhaaGreatDoorJSyL
namespace Go.Sy
set_option linter.unusedVariables false
set_option linter.unusedSimpArgs false
open Go.RowKit
set_option linter.unusedSectionVars false
variable [Globs]
section runs
variable {P:Program} {rd:Option Nat} {n:Nat}
theorem xStep_gd {Γ:Gam} {ops:Array Oper} {s:SState} {off:Nat} {o:Oper} {r:SRes} (h:xStep P Γ ops s off o=some r) {t:Nat} {pol:Bool} {u:SV} (hv:r.v=.gd t pol u):∃ g,o.guard=some (g,pol)∧(ops[g]?).bind (·.dst)=some t:=by
 unfold xStep at h
 split at h
 ·split at h <;> try (cases h;done)
  rename_i r0 _
  split at h <;> cases h
  exfalso
  simp only at hv
  cases hr:r0.v <;> rw [hr] at hv <;> simp [SV.top] at hv
 ·rename_i j pol' hg
  split at h <;> try (cases h;done)
  rename_i t' ht
  split at h
  ·split at h
   ·split at h <;> try (cases h;done)
    rename_i r0 _
    split at h <;> cases h
    exfalso
    simp only at hv
    cases hr:r0.v <;> rw [hr] at hv <;> simp [SV.top] at hv
   ·split at h <;> cases h
    cases hv
    exact ⟨j,hg,ht⟩
  split at h <;> try (cases h;done)
  split at h <;> cases h
  cases hv
  exact ⟨j,hg,ht⟩
theorem put_same {a:Act} {t:Nat} {x y:Value} (h:(a.put (some t) x).tmps[t]? = some y):y=x:=by
 simp only [Act.put,Array.getElem?_setIfInBounds] at h
 simp only [if_true] at h
 split at h
 ·cases h;rfl
 ·cases h
theorem likeB_weak {a b:Blk} (h:a.likeB b=true):a.weak=b.weak:=by
 cases a <;> cases b <;> simp only [Blk.likeB] at h <;> try (first | rfl | (cases h;done))
 rename_i e l e' l'
 rw [Bool.and_eq_true,Nat.beq_eq,Nat.beq_eq] at h
 obtain ⟨rfl,hl⟩:=h
 simp only [Blk.weak]
 congr 1
 apply List.ext_getElem (by simpa using hl)
 intro i h1 h2
 simp
theorem ownerAt_take:∀ {rs:Runs} {i i0 q j:Nat} {b:Blk},ownerAt (rs.take i) i0 q=some (j,b)→ownerAt rs i0 q=some (j,b)∧j<i0+i
 | [],i,_,_,_,_,h=>by simp [ownerAt] at h
 | (off,r) :: rs,0,_,_,_,_,h=>by simp [ownerAt] at h
 | (off,r) :: rs,i+1,i0,q,j,b,h=>by
  simp only [List.take_succ_cons,ownerAt] at h ⊢
  split at h
  ·rename_i hc
   cases h
   rw [if_pos hc]
   exact ⟨rfl,by omega⟩
  ·rename_i hc
   rw [if_neg hc]
   obtain ⟨h1,h2⟩:=ownerAt_take h
   exact ⟨h1,by omega⟩
structure DrawOk (P:Program) (Γ:Gam) (opsA:Array Oper) (T:List Nat) (s:SState) (U:Olds) (rs:Runs) (off:Nat):Prop where
 table:tableOk T 0 opsA.toList=true
 once:dstsOnce opsA.toList=true
 guards:guardsOk T 0 opsA.toList=true
 upds:updsOk T s U rs 0 rs=true
 runs:RunsOk P Γ opsA opsA.toList T s U rs opsA.toList.length off
 need:∀ p∈rs,∀ b∈p.2.need,b=true
structure DJ (B:Nat) (M:List Nat) (w0:Base) (opsA:Array Oper) (s:SState) (rs:Runs) (D:Nat→Bool) (ρ:Env) (a:Act) (w:World):Prop where
 defs:Side B w0.ob w0.df ρ (exMem s rs D) w a.defers
 size:a.tmps.size=s.nt
 tmp:∀ t x,a.tmps[t]? = some x→slotDen ρ a (exTm opsA.toList s rs D t) x
 fresh:∀ q,s.nx≤q→(∀ j p,rs[j]? = some p→D j=true→¬ (p.1≤q∧q<p.1+p.2.news.length))→ρ q=none
 mem:MemDen B M ρ (exMem s rs D) w
 kept:Kept B M w0.w w
 base:B≤w.heap.size
 ext:Ext w0.ρ ρ
 argn:∀ i,w0.n≤i→w0.ρ i=none
 argl:∀ i,i<w0.n→ρ i=w0.ρ i
 nab:s.na=w0.n
 nale:w0.n≤s.nx
 odb:OdB w0.ρ.od ρ.od B
 mz:w0.n=0→M=[]
 closed:∀ j o,D j=true→opsA.toList[j]? = some o→∀ e∈o.after.toList,Region.binds .any e=true→D e.on=true
section
variable {Γ:Gam} {opsA:Array Oper} {T:List Nat} {s:SState} {U:Olds} {rs:Runs} {offE:Nat} {B:Nat} {M:List Nat} {w0:Base} {D:Nat→Bool} {ρ:Env} {a:Act} {w:World}
theorem DJ.bits (hok:DrawOk P Γ opsA T s U rs offE) (h:DJ B M w0 opsA s rs D ρ a w) {j:Nat} {o:Oper} (ho:opsA.toList[j]? = some o) (hj:D j=true) {q:Nat} (hb:bit T j q=true):D q=true :=
 (bit_before hok.table h.closed j o ho (h.closed j o hj ho) q hb).1
theorem DJ.notAfter (hok:DrawOk P Γ opsA T s U rs offE) (h:DJ B M w0 opsA s rs D ρ a w) {i:Nat} (hi:D i=false) {k:Nat} {p:Nat × SRes} (hk:rs[k]? = some p) (hb:bit T k i=true):D k=false:=by
 cases hD:D k
 ·rfl
 ·obtain ⟨o,ho,_⟩:=hok.runs.at_ k _ hk
  rw [h.bits hok ho hD hb] at hi;cases hi
theorem upd_like (hok:DrawOk P Γ opsA T s U rs offE) {q:Nat} {b0:Blk} (hb0:(q<s.nx∧b0=s.mem q)∨(¬ q<s.nx∧∃ j,ownerAt rs 0 q=some (j,b0))) {k off:Nat} {r:SRes} {b:Blk} (hk:rs[k]? = some (off,r)) (hb:lookUpd r.upds q=some b):b0.weak=b.weak∧k∈lookUs U q∧∀ k'∈lookUs U q,k'≠k→(k'<k→bit T k k'=true)∧(k<k'→bit T k' k=true):=by
 obtain ⟨h1,h2,h3⟩:=updsOk_at hok.upds hk _ (lookUpd_some hb)
 rw [Nat.zero_add] at h2 h3
 refine ⟨?_,h2,h3⟩
 rcases hb0 with ⟨hq,rfl⟩ | ⟨hq,j,hj⟩
 ·rcases h1 with h1 | h1
  ·exact likeB_weak h1.2
  ·exact absurd hq h1.1
 ·rcases h1 with h1 | ⟨_,q',b0',h1,_,h4⟩
  ·exact absurd h1.1 hq
  ·simp only at h1
   rw [hj] at h1;cases h1
   exact likeB_weak h4
theorem ex_weak (hok:DrawOk P Γ opsA T s U rs offE) {q:Nat} {b0:Blk} (hb0:(q<s.nx∧b0=s.mem q)∨(¬ q<s.nx∧∃ j,ownerAt rs 0 q=some (j,b0))) (D:Nat→Bool):b0.weak=((updIn D rs 0 q).getD b0).weak:=by
 cases hu:updIn D rs 0 q with
 | none=>rfl
 | some b =>
  obtain ⟨k,off,r,h1,_,h3⟩:=updIn_some hu
  exact (upd_like hok hb0 h1 h3).1
theorem vis_one (hok:DrawOk P Γ opsA T s U rs offE) {i q:Nat} (hbits:∀ j,bit T i j=true→D j=true∧j<i) (hnot:∀ k p,rs[k]? = some p→(bit T k i=true∨k=i)→D k=false) {b0:Blk} (hb0:(q<s.nx∧b0=s.mem q)∨(¬ q<s.nx∧∃ j,ownerAt rs 0 q=some (j,b0))):wkOf (vis1 T U (rs.take i) i q b0) ((updIn D rs 0 q).getD b0):=by
 unfold vis1
 cases hs:seesB T U i q with
 | false=>exact .inr (.inr (ex_weak hok hb0 D))
 | true =>
  refine .inr (.inl ?_)
  simp only
  rw [updIn_take fun k hk=>?_]
  ·congr 1
   refine updIn_congr fun k off r b hk hb=>?_
   rw [Nat.zero_add]
   obtain ⟨_,h2,_⟩:=upd_like hok hb0 hk hb
   have:=(List.all_eq_true.1 hs) k h2
   simp only [Bool.or_eq_true,Nat.beq_eq] at this
   rcases this with rfl | h | h
   ·rw [hnot k _ hk (.inr rfl)]
    cases hb':bit T k k with
    | false=>rfl
    | true=>exact absurd (hbits k hb').2 (Nat.lt_irrefl _)
   ·rw [h,(hbits k h).1]
   ·rw [hnot k _ hk (.inl h)]
    cases hb':bit T i k with
    | false=>rfl
    | true=>have:=(hbits k hb').1;rw [hnot k _ hk (.inl h)] at this;cases this
  ·cases hb':bit T i k with
   | false=>rfl
   | true=>have:=(hbits k hb').2;omega
theorem vis_mem (hok:DrawOk P Γ opsA T s U rs offE) {i q:Nat} (hbits:∀ j,bit T i j=true→D j=true∧j<i) (hnot:∀ k p,rs[k]? = some p→(bit T k i=true∨k=i)→D k=false):wkOf (visMem T s U (rs.take i) i q) (exMem s rs D q):=by
 unfold visMem exMem
 by_cases hq:q<s.nx
 ·rw [if_pos hq,if_pos hq]
  exact vis_one hok hbits hnot (.inl ⟨hq,rfl⟩)
 ·rw [if_neg hq,if_neg hq]
  cases ho:ownerAt (rs.take i) 0 q with
  | none=>exact .inl rfl
  | some p =>
   obtain ⟨j,b0⟩:=p
   obtain ⟨ho',hji⟩:=ownerAt_take ho
   rw [ho']
   simp only
   by_cases hb:bit T i j=true
   ·rw [if_pos hb,if_pos (hbits j hb).1]
    exact vis_one hok hbits hnot (.inr ⟨hq,j,ho'⟩)
   ·rw [if_neg hb];exact .inl rfl
theorem vis_tm (hok:DrawOk P Γ opsA T s U rs offE) (h:DJ B M w0 opsA s rs D ρ a w) {i:Nat} (hi:D i=false) (hbits:∀ j,bit T i j=true→D j=true∧j<i):TmDen ρ (visSt opsA.toList T s U (rs.take i) i) a:=by
 refine ⟨h.size,fun t x hx=>?_⟩
 have hd:=h.tmp t x hx
 show slotDen ρ a (visTm opsA.toList T s (rs.take i) i t) x
 unfold exTm at hd
 unfold visTm
 cases hw:wrAt opsA.toList 0 t with
 | none=>rw [hw] at hd;exact hd
 | some j =>
  rw [hw] at hd
  simp only at hd ⊢
  by_cases hb:bit T i j=true
  ·obtain ⟨hD,hlt⟩:=hbits j hb
   rw [if_pos hb]
   rw [if_pos hD] at hd
   unfold slotOf at hd ⊢
   rw [List.getElem?_take,if_pos hlt]
   exact hd
  ·rw [if_neg hb]
   by_cases hb':bit T j i=true
   ·rw [if_pos hb']
    have hDj:D j=false:=by
     cases hDj:D j
     ·rfl
     ·obtain ⟨q,o,h1,h2,h3⟩:=wrAt_some hw
      have:j=q:=by omega
      subst this
      rw [h.bits hok h2 hDj hb'] at hi
      cases hi
    rw [hDj] at hd
    exact hd
   ·rw [if_neg hb'];trivial
theorem DJ.step (hok:DrawOk P Γ opsA T s U rs offE) (h:DJ B M w0 opsA s rs D ρ a w) {i:Nat} (hi:D i=false) {o:Oper} (ho:opsA.toList[i]? = some o) (hpre:∀ e∈o.after.toList,Region.binds .any e=true→D e.on=true) (hDlt:∀ j,D j=true→j<opsA.toList.length)
  {off:Nat} {r:SRes} (hr:rs[i]? = some (off,r)) (hx:xStep P Γ opsA (visSt opsA.toList T s U (rs.take i) i) off o=some r) {ρ':Env} {w':World} {x:Value} (hp:SPost ρ ρ' off r a w w' x) :
  DJ B M w0 opsA s rs (fun j=>if j=i then true else D j) ρ' (a.put o.dst x) w':=by
 have hbits:=bit_before hok.table h.closed i o ho hpre
 obtain ⟨hfits,hdst⟩:=xStep_fits hx
 rw [← hdst]
 obtain ⟨hoff1,hoff2,hoff3⟩:=hok.runs.offs i _ hr
 have hnot:∀ k p,rs[k]? = some p→(bit T k i=true∨k=i)→D k=false:=fun k p hk hb=>hb.elim (h.notAfter hok hi hk) fun e=>by rw [e];exact hi
 have hwk:∀ q,wkOf (visMem T s U (rs.take i) i q) (exMem s rs D q):=fun q=>vis_mem hok hbits hnot
 have hF:OpRes.fits { v:=.any,news:=r.news,upds:=r.upds } (exMem s rs D) off:=by
  refine ⟨fun u hu=>?_,hfits.2⟩
  obtain ⟨h1,h2⟩:=hfits.1 u hu
  refine ⟨?_,h2⟩
  have h1':(visMem T s U (rs.take i) i u.1).mine=true:=h1
  rcases hwk u.1 with e | e | e
  ·rw [e] at h1';cases h1'
  ·rw [← e];exact h1'
  ·rw [e] at h1';exact weak_mine h1'
 -- a known block's content behind this operation
 have contStep:∀ (q:Nat) (b0:Blk),((q<s.nx∧b0=s.mem q)∨(¬ q<s.nx∧∃ j,ownerAt rs 0 q=some (j,b0)))→exMem s rs D q=(updIn D rs 0 q).getD b0→wkOf ((updIn (fun k=>if k=i then true else D k) rs 0 q).getD b0) (setUpds (exMem s rs D) r.upds q):=by
  intro q b0 hb0 hex
  refine .inr (.inl ?_)
  rcases setUpds_cases (exMem s rs D) r.upds q with ⟨u,hu,e',hv⟩ | ⟨hno,hv⟩
  ·have hlu:∃ b,lookUpd r.upds q=some b:=by
    cases hl:lookUpd r.upds q with
    | some b=>exact ⟨b,rfl⟩
    | none=>exact absurd e' (lookUpd_none hl u hu)
   obtain ⟨b,hlu⟩:=hlu
   have hub:b=u.2:=hfits.2 (q,b) (lookUpd_some hlu) u hu e'.symm
   rw [hv,updIn_last hr hlu (by simp) fun k' off' r' b' hlt hk' hb'=>?_]
   ·exact hub
   ·rw [Nat.zero_add,if_neg (by omega)]
    obtain ⟨_,hmem,_⟩:=upd_like hok hb0 hk' hb'
    have:=((upd_like hok hb0 hr hlu).2.2 k' hmem (by omega)).2 hlt
    exact h.notAfter hok hi hk' this
  ·rw [hv,hex]
   congr 1
   refine updIn_congr fun k off' r' b' hk hb=>?_
   rw [Nat.zero_add]
   have hki:k≠i:=by
    intro e2
    subst e2
    rw [hr] at hk;cases hk
    exact hno _ (lookUpd_some hb) rfl
   simp [hki]
 have hWk:∀ q,wkOf (exMem s rs (fun j=>if j=i then true else D j) q) (OpRes.mem { v:=.any,news:=r.news,upds:=r.upds } (exMem s rs D) off q):=fun q=>by
  unfold OpRes.mem
  by_cases hq:q<s.nx
  ·have hex:exMem s rs D q=(updIn D rs 0 q).getD (s.mem q):=by unfold exMem;rw [if_pos hq]
   have hL:exMem s rs (fun j=>if j=i then true else D j) q=(updIn (fun j=>if j=i then true else D j) rs 0 q).getD (s.mem q):=by unfold exMem;rw [if_pos hq]
   have hR0:setNews (setUpds (exMem s rs D) r.upds) off r.news q=setUpds (exMem s rs D) r.upds q:=by
    rcases setNews_cases (setUpds (exMem s rs D) r.upds) off r.news q with ⟨jj,b,e,hb,_⟩ | ⟨_,e⟩
    ·omega
    ·exact e
   rw [hL,hR0]
   exact contStep q (s.mem q) (.inl ⟨hq,rfl⟩) hex
  ·unfold exMem
   rw [if_neg hq]
   cases hown:ownerAt rs 0 q with
   | none=>exact .inl rfl
   | some p =>
    obtain ⟨j,b0⟩:=p
    simp only
    obtain ⟨k,offj,rj,e,hrj,hr1,hr2,hr3⟩:=ownerAt_some hown
    have:j=k:=by omega
    subst this
    by_cases hji:j=i
    ·subst hji
     rw [hr] at hrj;cases hrj
     rw [if_pos (by simp)]
     have hR:setNews (setUpds (exMem s rs D) r.upds) off r.news q=b0:=by
      unfold setNews
      rw [if_neg (by omega),hr3]
     have hR':setNews (setUpds (fun q=>exMem s rs D q) r.upds) off r.news q=b0:=hR
     have hL:(updIn (fun k=>if k=j then true else D k) rs 0 q).getD b0=b0:=by
      cases hu:updIn (fun k=>if k=j then true else D k) rs 0 q with
      | none=>rfl
      | some b =>
       obtain ⟨k,off',r',hk',hD',hu'⟩:=updIn_some hu
       rw [Nat.zero_add] at hD'
       obtain ⟨h1 | ⟨_,q',b0',h1,h2,_⟩,_⟩:=updsOk_at hok.upds hk' _ (lookUpd_some hu')
       ·exact absurd h1.1 hq
       simp only at h1
       rw [hown] at h1;cases h1
       rw [Nat.zero_add] at h2
       by_cases hkj:k=j
       ·subst hkj
        have:=(hbits k h2).2
        omega
       ·rw [if_neg hkj,h.notAfter hok hi hk' h2] at hD';cases hD'
     rw [hL]
     exact .inr (.inl hR'.symm)
    ·have hnin:q<off∨off+r.news.length≤q:=by
      rcases Nat.lt_or_gt_of_ne hji with hlt | hlt
      ·have:=hoff3 j _ hlt hrj
       simp only at this
       omega
      ·have:=(hok.runs.offs j _ hrj).2.2 i _ hlt hr
       simp only at this
       omega
     have hR0:setNews (setUpds (exMem s rs D) r.upds) off r.news q=setUpds (exMem s rs D) r.upds q:=by
      rcases setNews_cases (setUpds (exMem s rs D) r.upds) off r.news q with ⟨jj,b,e,hb,_⟩ | ⟨_,e⟩
      ·have:=(List.getElem?_eq_some_iff.1 hb).1
       omega
      ·exact e
     have hwk':wkOf (if (if j=i then true else D j)=true then (updIn (fun k=>if k=i then true else D k) rs 0 q).getD b0 else .unk) (setUpds (exMem s rs D) r.upds q):=by
      rw [if_neg hji]
      by_cases hDj:D j=true
      ·rw [if_pos hDj]
       have hex:exMem s rs D q=(updIn D rs 0 q).getD b0:=by
        unfold exMem
        rw [if_neg hq,hown]
        simp only
        rw [if_pos hDj]
       exact contStep q b0 (.inr ⟨hq,j,hown⟩) hex
      ·rw [if_neg hDj];exact .inl rfl
     have hgoal:=hwk'
     rw [← hR0] at hgoal
     exact hgoal
 refine ⟨by rw [put_defs];exact (h.defs.step hp.post hF).unk fun q=>wkOf_unk (hWk q),by rw [put_size];exact h.size,fun t y hy=>?_,fun q hq hno=>?_,?_,?_,by have:=hp.post.size;have:=h.base;simp only at *;omega,h.ext.trans hp.post.ext,h.argn,fun i hi=>by rw [hp.post.old i (.inl (by have:=h.nale;simp only at *;omega))];exact h.argl i hi,h.nab,h.nale,h.odb.step hp.post.odn h.base,h.mz,fun j oj hj hoj e he hb=>?_⟩
 ·-- slots
  have keepBase:∀ t',(wrAt opsA.toList 0 t'=none)→(a.put r.dst x).tmps[t']? = a.tmps[t']?:=fun t' hn =>
   put_get a r.dst x t' fun d hd e=>by subst e;rw [hdst] at hd;exact wrAt_none hn o (List.mem_of_getElem? ho) hd
  have baseOk:∀ y,(r.dst≠some t)→slotDen ρ a (baseTm opsA.toList s t) y→slotDen ρ' (a.put r.dst x) (baseTm opsA.toList s t) y:=by
   intro y _ hd
   have hd':=slotDen_mono hp.post.ext hd
   unfold baseTm at hd' ⊢
   cases hs:s.tm t <;> rw [hs] at hd' <;> try exact hd'
   rename_i t' pol u
   simp only at hd' ⊢
   by_cases hw:(wrAt opsA.toList 0 t').isSome=true
   ·rw [if_pos hw];trivial
   ·rw [if_neg hw] at hd' ⊢
    have hn:wrAt opsA.toList 0 t'=none:=by
     cases hwt:wrAt opsA.toList 0 t' <;> simp_all
    show ((a.put r.dst x).tmps[t']? = some (.bool pol)∧u.den ρ' y)∨((a.put r.dst x).tmps[t']?≠some (.bool pol)∧y=undef)
    rw [keepBase t' hn]
    exact hd'
  unfold exTm
  cases hw:wrAt opsA.toList 0 t with
  | none =>
   have hnt:r.dst≠some t:=fun e=>wrAt_none hw o (List.mem_of_getElem? ho) (by rw [← hdst];exact e)
   rw [keepBase t hw] at hy
   have hd:=h.tmp t y hy
   unfold exTm at hd
   rw [hw] at hd
   exact baseOk y hnt hd
  | some j =>
   obtain ⟨j',oj,e,hoj,hdj⟩:=wrAt_some hw
   have:j=j':=by omega
   subst this
   simp only
   by_cases hji:j=i
   ·subst hji
    rw [if_pos (by simp)]
    rw [ho] at hoj;cases hoj
    have hyx:y=x:=by
     rw [hdst,hdj] at hy
     exact put_same hy
    have:=hp.slot t (by rw [hdst];exact hdj)
    unfold slotOf
    rw [hr,hyx]
    exact this
   ·have hnt:r.dst≠some t:=fun e=>hji (dstsOnce_eq hok.once hoj ho hdj (by rw [← hdst];exact e))
    rw [put_get a r.dst x t (fun d hd e=>hnt (by rw [hd,e]))] at hy
    have hd:=h.tmp t y hy
    unfold exTm at hd
    rw [hw] at hd
    simp only [if_neg hji] at hd ⊢
    by_cases hDj:D j=true
    ·rw [if_pos hDj] at hd ⊢
     have hjl:=hDlt j hDj
     have hrj:∃ p,rs[j]? = some p:=⟨rs[j]'(by rw [hok.runs.len];exact hjl),List.getElem?_eq_getElem _⟩
     obtain ⟨p,hrj⟩:=hrj
     obtain ⟨oj',hoj',hxj⟩:=hok.runs.at_ j p hrj
     rw [hoj] at hoj';cases hoj'
     have hd':=slotDen_mono hp.post.ext hd
     unfold slotOf at hd' ⊢
     rw [hrj] at hd' ⊢
     simp only at hd' ⊢
     cases hv:p.2.v <;> rw [hv] at hd' <;> try exact hd'
     rename_i t' pol u
     obtain ⟨g,hg1,hg2⟩:=xStep_gd hxj hv
     have hgi:r.dst≠some t':=by
      intro e
      rw [hdst] at e
      cases hog:opsA[g]? with
      | none=>rw [hog] at hg2;simp at hg2
      | some og =>
       rw [hog] at hg2
       have hgl:opsA.toList[g]? = some og:=by simpa using hog
       have:g=i:=dstsOnce_eq hok.once hgl ho (by simpa using hg2) e
       subst this
       have hb:=guardsOk_at hok.guards hoj hg1
       rw [Nat.zero_add] at hb
       have:=h.bits hok hoj hDj hb
       rw [hi] at this;cases this
     show ((a.put r.dst x).tmps[t']? = some (.bool pol)∧u.den ρ' y)∨((a.put r.dst x).tmps[t']?≠some (.bool pol)∧y=undef)
     rw [put_get a r.dst x t' (fun d hd e=>hgi (by rw [hd,e]))]
     exact hd'
    ·rw [if_neg hDj] at hd ⊢
     exact baseOk y hnt hd
 ·-- names
  have hnot:q<off∨off+r.news.length≤q:=by
   have:=hno i _ hr (by simp)
   simp only at this
   omega
  rw [hp.post.old q hnot]
  refine h.fresh q hq fun j p hj hDj=>hno j p hj ?_
  split
  ·rfl
  ·exact hDj
 ·-- memory
  exact (hp.post.memDen h.mem hF h.base).weaken hWk
 ·exact hp.post.kept h.mem hF h.kept h.base
 ·show (if e.on=i then true else D e.on)=true
  have hj:(if j=i then true else D j)=true:=hj
  by_cases hji:j=i
  ·subst hji
   rw [ho] at hoj;cases hoj
   have:=hpre e he hb
   split
   ·rfl
   ·exact this
  ·rw [if_neg hji] at hj
   have:=h.closed j oj hj hoj e he hb
   split
   ·rfl
   ·exact this
theorem countP_set {l:List Bool} {i:Nat} (h:l[i]? = some false):(l.set i true).countP (!·)+1=l.countP (!·):=by
 induction l generalizing i with
 | nil=>simp at h
 | cons b l ih =>
  cases i with
  | zero=>simp at h;subst h;simp
  | succ i =>
   have:=ih (i:=i) (by simpa using h)
   simp only [List.set_cons_succ,List.countP_cons]
   omega
theorem ready_iff {ops:Array Oper} {listed:Array Bool} {i:Nat}:i∈Region.ready .any ops listed↔i<ops.size∧listed.getD i true=false∧∃ o,ops[i]? = some o∧∀ e∈o.after.toList,Region.binds .any e=true→listed.getD e.on false=true:=by
 unfold Region.ready
 rw [List.mem_filter,List.mem_range]
 refine and_congr_right fun hi=>?_
 rw [Bool.and_eq_true,Bool.not_eq_true']
 refine and_congr_right fun _=>?_
 have:ops[i]? = some (ops[i]'hi):=Array.getElem?_eq_getElem hi
 rw [this]
 simp only [Option.map_some,Option.getD_some,Option.some.injEq,exists_eq_left']
 rw [Array.all_eq_true_iff_forall_mem]
 simp only [Bool.or_eq_true,Bool.not_eq_true',Array.mem_toList_iff]
 constructor
 ·intro h e he hb
  rcases h e he with h1 | h1
  ·rw [hb] at h1;cases h1
  ·exact h1
 ·intro h e he
  cases hb:Region.binds .any e
  ·exact .inl rfl
  ·exact .inr (h e he hb)
def drawEnd (ops:List Oper) (s:SState) (rs:Runs) (off:Nat):SState:={ na:=s.na,nt:=s.nt,tm:=exTm ops s rs fun _=>true,nx:=off,mem:=exMem s rs fun _=>true }
theorem DJ.done (hok:DrawOk P Γ opsA T s U rs offE) (h:DJ B M w0 opsA s rs D ρ a w) (hall:∀ j,j<opsA.toList.length→D j=true):StDen B M w0 ρ (drawEnd opsA.toList s rs offE) a w:=by
 have hcg:exMem s rs (fun _=>true)=exMem s rs D:=by
  have hcong:∀ q,updIn (fun _=>true) rs 0 q=updIn D rs 0 q:=fun q=>updIn_congr fun k off r b hk _=>by
   have hj:=hall k (by have:=(List.getElem?_eq_some_iff.1 hk).1;rw [hok.runs.len] at this;exact this)
   rw [Nat.zero_add,hj]
  funext q
  unfold exMem
  rw [hcong]
  split
  ·rfl
  ·cases ho:ownerAt rs 0 q with
   | none=>rfl
   | some p =>
    obtain ⟨j,b0⟩:=p
    obtain ⟨k,off,r,e,hk,_⟩:=ownerAt_some ho
    have hj:=hall j (by have:=(List.getElem?_eq_some_iff.1 hk).1;rw [hok.runs.len] at this;omega)
    simp only [hj,if_true]
 refine ⟨by show Side B w0.ob w0.df ρ (exMem s rs fun _=>true) w a.defers;rw [hcg];exact h.defs,h.size,fun t x hx=>?_,fun q hq=>?_,?_,h.kept,h.base,h.ext,h.argn,h.argl,h.nab,by have:=h.nale;have:=hok.runs.off;show w0.n≤offE;omega,h.odb,h.mz⟩
 ·have:=h.tmp t x hx
  show slotDen ρ a (exTm opsA.toList s rs (fun _=>true) t) x
  unfold exTm at this ⊢
  cases hw:wrAt opsA.toList 0 t with
  | none=>rw [hw] at this;exact this
  | some j =>
   rw [hw] at this
   obtain ⟨q,o,h1,h2,_⟩:=wrAt_some hw
   have hj:=hall j (by have:=(List.getElem?_eq_some_iff.1 h2).1;omega)
   simp only [hj] at this
   exact this
 ·refine h.fresh q (by have:=hok.runs.off;have:offE≤q:=hq;omega) fun j p hj _=>?_
  have:=(hok.runs.offs j p hj).2.1
  have:offE≤q:=hq
  omega
 ·show MemDen B M ρ (exMem s rs fun _=>true) w
  rw [hcg]
  exact h.mem
theorem draw_any (hΓ:GamOk P Γ) (hok:DrawOk P Γ opsA T s U rs offE) {Q:Exit→Act→World→Prop} (hQ:∀ ρ a w,StDen B M w0 ρ (drawEnd opsA.toList s rs offE) a w→Q .normal a w) :
  ∀ (fuel:Nat) (listed:Array Bool) (ρ:Env) (a:Act) (w:World),listed.size=opsA.size→listed.toList.countP (!·)≤fuel→DJ B M w0 opsA s rs (fun j=>listed.getD j false) ρ a w→wpAnyIn (FW rd) n P .any opsA Q fuel listed a w:=by
 -- nothing is ready: all has come up
 have endOf:∀ (listed:Array Bool) (ρ:Env) (a:Act) (w:World),listed.size=opsA.size→DJ B M w0 opsA s rs (fun j=>listed.getD j false) ρ a w→Region.ready .any opsA listed=[]→Q .normal a w:=by
  intro listed ρ a w hsz hJ hr
  refine hQ ρ a w (hJ.done hok fun j=>?_)
  induction j using Nat.strongRecOn with
  | _ j ih =>
   intro hj
   have hjs:j<opsA.size:=by simpa using hj
   cases hD:listed.getD j false
   ·exfalso
    have:j∈Region.ready .any opsA listed:=by
     rw [ready_iff]
     refine ⟨hjs,?_,opsA[j],Array.getElem?_eq_getElem hjs,fun e he hb=>?_⟩
     ·have hl:j<listed.size:=by omega
      simp only [Array.getD_eq_getD_getElem?,Array.getElem?_eq_getElem hl,Option.getD_some] at hD ⊢
      exact hD
     ·have hlt:=(tableOk_at hok.table (j:=j) (o:=opsA[j]) (by simp [hjs])).2 e he hb
      exact ih e.on (by omega) (by omega)
    rw [hr] at this
    cases this
   ·rfl
 intro fuel
 induction fuel with
 | zero =>
  intro listed ρ a w hsz hc hJ
  have hnone:Region.ready .any opsA listed=[]:=by
   cases hr:Region.ready .any opsA listed with
   | nil=>rfl
   | cons i l =>
    have:i∈Region.ready .any opsA listed:=by rw [hr];simp
    rw [ready_iff] at this
    obtain ⟨h1,h2,_⟩:=this
    have hl:i<listed.size:=by omega
    have hli:listed.toList[i]? = some false:=by
     simp only [Array.getD_eq_getD_getElem?,Array.getElem?_eq_getElem hl,Option.getD_some] at h2
     simp [hl,h2]
    have:=countP_set hli
    omega
  exact ⟨hnone,endOf listed ρ a w hsz hJ hnone⟩
 | succ fuel ih =>
  intro listed ρ a w hsz hc hJ
  refine ⟨endOf listed ρ a w hsz hJ,fun i hi=>?_⟩
  rw [ready_iff] at hi
  obtain ⟨hi,hli,o,ho,hpre⟩:=hi
  have hl:i<listed.size:=by omega
  have hfi:listed.getD i false=false:=by
   simp only [Array.getD_eq_getD_getElem?,Array.getElem?_eq_getElem hl,Option.getD_some] at hli ⊢
   exact hli
  have hli':listed.toList[i]? = some false:=by
   simp only [Array.getD_eq_getD_getElem?,Array.getElem?_eq_getElem hl,Option.getD_some] at hli
   simp [hl,hli]
  have hoL:opsA.toList[i]? = some o:=by simpa using ho
  have hDlt:∀ j,listed.getD j false=true→j<opsA.toList.length:=by
   intro j hj
   rcases Nat.lt_or_ge j listed.size with h | h
   ·simp;omega
   ·simp [Array.getD_eq_getD_getElem?,h] at hj
  have hrl:i<rs.length:=by rw [hok.runs.len];simpa using hi
  obtain ⟨p,hrp⟩:∃ p,rs[i]? = some p:=⟨rs[i],List.getElem?_eq_getElem hrl⟩
  obtain ⟨off,r⟩:=p
  obtain ⟨o',ho',hx⟩:=hok.runs.at_ i _ hrp
  rw [hoL] at ho';cases ho'
  have hbits:=bit_before hok.table hJ.closed i o hoL hpre
  have hT:=vis_tm hok hJ hfi hbits
  have hM:MemDen B M ρ (visSt opsA.toList T s U (rs.take i) i).mem w:=hJ.mem.weaken fun q=>vis_mem hok hbits fun k p hk hb=>hb.elim (hJ.notAfter hok hfi hk) fun e=>by rw [e];exact hfi
  have hfr:∀ j,j<r.news.length→ρ (off+j)=none:=fun j hj=>hJ.fresh (off+j) (by have:=(hok.runs.offs i _ hrp).1;simp only at this;omega) fun k p hk hDk hin=>by
   by_cases hki:k=i
   ·subst hki;rw [hfi] at hDk;cases hDk
   ·rcases Nat.lt_or_gt_of_ne hki with hlt | hlt
    ·have:=(hok.runs.offs i _ hrp).2.2 k p hlt hk;simp only at this;omega
    ·have:=(hok.runs.offs k p hk).2.2 i _ hlt hrp;simp only at this;omega
  have key:=xStep_wp (rd:=rd) (n:=n) hΓ hx (hok.need _ (List.mem_of_getElem? hrp)) hT hM hJ.base hfr (Q:=Q) (K:=wpAnyIn (FW rd) n P .any opsA Q fuel (listed.setIfInBounds i true)) fun x w' ρ' hp=>by
   refine ih (listed.setIfInBounds i true) ρ' _ w' (by simpa using hsz) ?_ ?_
   ·have:=countP_set hli'
    simp only [Array.toList_setIfInBounds]
    omega
   ·have hstep:=hJ.step hok hfi hoL hpre hDlt hrp hx hp
    have:(fun j=>if j=i then true else listed.getD j false)=fun j=>(listed.setIfInBounds i true).getD j false:=by
     funext j
     simp only [Array.getD_eq_getD_getElem?,Array.getElem?_setIfInBounds]
     by_cases hji:j=i
     ·subst hji;simp [hl]
     ·simp [hji,Ne.symm hji]
    rw [← this]
    exact hstep
  unfold wpOpIn
  rw [ho]
  simp only
  split
  ·rename_i hw;rw [if_pos hw] at key;exact key
  ·rename_i hw;rw [if_neg hw] at key;exact ⟨fun _ _=>trivial,key⟩
end
def oldsOf:Nat→Runs→Olds
 | _,[]=>[]
 | i,(_,r) :: l=>(r.upds.map fun u=>(u.1,i)) ++ oldsOf (i+1) l
def lookOlds (P:Program) (Γ:Gam) (opsA:Array Oper) (s:SState):Olds :=
 match opsA.toList.any fun o=>match o.op with | .store _ _ _ | .call _=>true | _=>false with
 | false=>[]
 | true=>match drawRun P Γ opsA opsA.toList (masks opsA.toList []) s [] opsA.toList [] s.nx with
  | some (rs,_)=>oldsOf 0 rs
  | none=>[]
def xDraw0 (P:Program) (Γ:Gam) (opsA:Array Oper) (s:SState) (k:SState→Prop):Prop :=
 match drawRun P Γ opsA opsA.toList (masks opsA.toList []) s (lookOlds P Γ opsA s) opsA.toList [] s.nx with
 | some (rs,off)=>cnd (tableOk (masks opsA.toList []) 0 opsA.toList&&(dstsOnce opsA.toList&&(guardsOk (masks opsA.toList []) 0 opsA.toList&&updsOk (masks opsA.toList []) s (lookOlds P Γ opsA s) rs 0 rs)))
   (needs (rs.flatMap fun p=>p.2.need) (k (drawEnd opsA.toList s rs off))) False
 | none=>False
theorem xDraw0_any {Γ:Gam} (hΓ:GamOk P Γ) {B:Nat} {M:List Nat} {w0:Base} {opsA:Array Oper} {Q:Exit→Act→World→Prop} {k:SState→Prop} (hk:∀ s ρ a w,StDen B M w0 ρ s a w→k s→Q .normal a w)
  {s:SState} {ρ:Env} {a:Act} {w:World} (h:StDen B M w0 ρ s a w) (hx:xDraw0 P Γ opsA s k):wpAnyIn (FW rd) n P .any opsA Q opsA.size (Array.replicate opsA.size false) a { w with drawn:=w.drawn+1 }:=by
 unfold xDraw0 at hx
 split at hx <;> try exact hx.elim
 rename_i rs off hr
 rw [cnd_iff,needs_iff] at hx
 have hb:(tableOk (masks opsA.toList []) 0 opsA.toList&&(dstsOnce opsA.toList&&(guardsOk (masks opsA.toList []) 0 opsA.toList&&updsOk (masks opsA.toList []) s (lookOlds P Γ opsA s) rs 0 rs)))=true:=by
  cases hc:(tableOk (masks opsA.toList []) 0 opsA.toList&&(dstsOnce opsA.toList&&(guardsOk (masks opsA.toList []) 0 opsA.toList&&updsOk (masks opsA.toList []) s (lookOlds P Γ opsA s) rs 0 rs)))
  ·exact (hx.2 hc).elim
  ·rfl
 obtain ⟨hneed,hkk⟩:=hx.1 hb
 simp only [Bool.and_eq_true] at hb
 obtain ⟨hb1,hb2,hb3,hb4⟩:=hb
 have hruns:=drawRun_ok (P:=P) (Γ:=Γ) (opsA:=opsA) (ops:=opsA.toList) (T:=masks opsA.toList []) (s:=s) (U:=lookOlds P Γ opsA s) opsA.toList [] s.nx rs off (fun j=>by simp)
  ⟨rfl,fun i p hp=>by simp at hp,fun i p hp=>by simp at hp,Nat.le_refl _⟩ hr
 have hok:DrawOk P Γ opsA (masks opsA.toList []) s (lookOlds P Γ opsA s) rs off:=⟨hb1,hb2,hb3,hb4,by simpa using hruns,fun p hp b hbm=>hneed b (List.mem_flatMap.2 ⟨p,hp,hbm⟩)⟩
 refine draw_any hΓ hok (B:=B) (M:=M) (w0:=w0) (fun ρ a w hS=>hk _ ρ a w hS hkk) opsA.size (Array.replicate opsA.size false) ρ a _ (by simp) ?_ ?_
 ·exact Nat.le_trans List.countP_le_length (by simp)
 have hd:=h.drew
 have hD:∀ j,(Array.replicate opsA.size false).getD j false=false:=by
  intro j
  simp only [Array.getD_eq_getD_getElem?,Array.getElem?_replicate]
  split <;> rfl
 have hWk:∀ q,wkOf (exMem s rs (fun j=>(Array.replicate opsA.size false).getD j false) q) (s.mem q):=fun q=>by
  unfold exMem
  split
  ·have:updIn (fun j=>(Array.replicate opsA.size false).getD j false) rs 0 q=none:=by
    cases hu:updIn (fun j=>(Array.replicate opsA.size false).getD j false) rs 0 q with
    | none=>rfl
    | some b=>obtain ⟨k,_,_,_,h2,_⟩:=updIn_some hu;rw [hD] at h2;cases h2
   rw [this]
   exact .inr (.inl rfl)
  ·cases ho:ownerAt rs 0 q with
   | none=>exact .inl rfl
   | some p=>obtain ⟨j,b0⟩:=p;simp only [hD];exact .inl rfl
 refine ⟨hd.defs.unk fun q=>wkOf_unk (hWk q),hd.size,fun t x hx=>?_,fun q hq _=>hd.fresh q hq,hd.mem.weaken hWk,hd.kept,hd.base,hd.ext,hd.argn,hd.argl,hd.nab,hd.nale,hd.odb,hd.mz,fun j o hj=>by rw [hD] at hj;cases hj⟩
 ·have hx':=hd.tmp t x hx
  have base:slotDen ρ a (baseTm opsA.toList s t) x:=by
   unfold baseTm
   cases hs:s.tm t <;> rw [hs] at hx' <;> try exact hx'
   rename_i t' pol u
   simp only
   split
   ·trivial
   ·exact hx'
  unfold exTm
  cases hw:wrAt opsA.toList 0 t with
  | none=>exact base
  | some j=>simp only [hD];exact base
def okRun (P:Program) (Γ:Gam) (opsA:Array Oper) (s:SState):Bool:=match drawRun P Γ opsA opsA.toList (masks opsA.toList []) s (lookOlds P Γ opsA s) opsA.toList [] s.nx with
 | some _=>true
 | none=>false
def firstGuard:List Oper→Option Nat
 | []=>none
 | o :: l=>match o.guard with
  | some (j,_)=>some j
  | none=>firstGuard l
def splitAt (P:Program) (Γ:Gam) (opsA:Array Oper) (s:SState):Option (Nat × Bool):=match firstGuard opsA.toList with
 | some j=>(match drawRun P Γ opsA opsA.toList (masks opsA.toList []) s (lookOlds P Γ opsA s) (opsA.toList.take (j+1)) [] s.nx with
  | some (rs,_)=>(match (opsA[j]?).bind (·.dst) with
   | some t=>(match slotOf rs j with
    | .bool b=>some (t,b)
    | _=>none)
   | none=>none)
  | none=>none)
 | none=>none
def xDraw (P:Program) (Γ:Gam) (opsA:Array Oper) (s:SState) (k:SState→Prop):Prop :=
 match drawRun P Γ opsA opsA.toList (masks opsA.toList []) s (lookOlds P Γ opsA s) opsA.toList [] s.nx with
 | some (rs,off)=>cnd (tableOk (masks opsA.toList []) 0 opsA.toList&&(dstsOnce opsA.toList&&(guardsOk (masks opsA.toList []) 0 opsA.toList&&updsOk (masks opsA.toList []) s (lookOlds P Γ opsA s) rs 0 rs)))
   (needs (rs.flatMap fun p=>p.2.need) (k (drawEnd opsA.toList s rs off))) False
 | none=>(match splitAt P Γ opsA s with
  | some (t,b)=>(match okRun P Γ opsA (s.grant t true)&&okRun P Γ opsA (s.grant t false) with
   | true=>cnd b (xDraw0 P Γ opsA (s.grant t true) k) (xDraw0 P Γ opsA (s.grant t false) k)
   | false=>False)
  | none=>False)
theorem xDraw_any {Γ:Gam} (hΓ:GamOk P Γ) {B:Nat} {M:List Nat} {w0:Base} {opsA:Array Oper} {Q:Exit→Act→World→Prop} {k:SState→Prop} (hk:∀ s ρ a w,StDen B M w0 ρ s a w→k s→Q .normal a w)
  {s:SState} {ρ:Env} {a:Act} {w:World} (h:StDen B M w0 ρ s a w) (hx:xDraw P Γ opsA s k):wpAnyIn (FW rd) n P .any opsA Q opsA.size (Array.replicate opsA.size false) a { w with drawn:=w.drawn+1 }:=by
 unfold xDraw at hx
 split at hx
 ·rename_i rs off hr
  refine xDraw0_any hΓ hk h ?_
  unfold xDraw0
  rw [hr]
  exact hx
 ·split at hx <;> try exact hx.elim
  rename_i t b _
  split at hx <;> try exact hx.elim
  rw [cnd_iff] at hx
  cases b with
  | true=>exact xDraw0_any hΓ hk (h.grant t true) (hx.1 rfl)
  | false=>exact xDraw0_any hΓ hk (h.grant t false) (hx.2 rfl)
theorem xDraw_wp {Γ:Gam} (hΓ:GamOk P Γ) (hmix:P.follows .mixedOrders=true) {B:Nat} {M:List Nat} {w0:Base} {opsA:Array Oper} {id:Nat} {Q:Exit→Act→World→Prop} {k:SState→Prop} (hk:∀ s ρ a w,StDen B M w0 ρ s a w→k s→Q .normal a w)
  {s:SState} {ρ:Env} {a:Act} {w:World} (h:StDen B M w0 ρ s a w) (hx:xDraw P Γ opsA s k):(Code.region id opsA true).wpIn (FW rd) n P Q a w:=wpIn_region_any hmix (xDraw_any hΓ hk h hx)
def withEnd (Q:Exit→Act→World→Prop) (X:Act→World→Prop):Exit→Act→World→Prop
 | .normal,a,w=>X a w
 | e,a,w=>Q e a w
theorem oper_end {F:Fence} {o:Oper} {Q:Exit→Act→World→Prop} {X K:Act→World→Prop} {a:Act} {w:World} (h:o.wpIn F n P a w K (withEnd Q X)):o.wpIn F n P a w K Q:=by
 refine ⟨h.1,?_⟩
 have hh:=h.2
 generalize (o.semAt F.round a.eval).run P w=r at *
 cases r with
 | ok x w' =>
  cases x <;> simp only [Oper.uponIn] at hh ⊢ <;>
   first
    | exact hh
    | exact ⟨hh.1,CallsIn.mono hh.2 (fun e w'' he=>by cases e <;> exact he)⟩
    | exact ⟨hh.1,RoundIn.mono hh.2 (fun e w'' he=>by cases e <;> exact he)⟩
 | halt x w'=>cases x <;> simp only [Oper.uponIn] at hh ⊢ <;> exact hh
theorem wpOpIn_push {F:Fence} {init:Array Oper} {o:Oper} (hd:o.dst=none) {Q:Exit→Act→World→Prop} {X K:Act→World→Prop} {i:Nat} (hi:i<init.size) {a:Act} {w:World}
  (h:wpOpIn F n P init (withEnd Q X) i K a w):wpOpIn F n P (init.push o) Q i K a w:=by
 have hy:yielded (init.push o) a.tmps=yielded init a.tmps:=by
  funext j
  by_cases e:j=init.size
  ·subst e;simp [yielded,hd]
  ·simp only [yielded,Array.getElem?_push,if_neg e]
 unfold wpOpIn at h ⊢
 rw [Array.getElem?_push,if_neg (by omega)]
 cases ho:init[i]? with
 | none=>rw [ho] at h;exact h
 | some p =>
  rw [ho] at h
  simp only at h ⊢
  rw [hy]
  split
  ·rename_i hw;rw [if_pos hw] at h;exact oper_end h
  ·rename_i hw;rw [if_neg hw] at h;exact h
def domB (T:List Nat) (n:Nat):Bool:=(List.range n).all fun j=>bit T n j
theorem anyIn_last {F:Fence} {init:Array Oper} {o:Oper} {T:List Nat} (hT:tableOk T 0 (init.push o).toList=true) (hb:domB T init.size=true) (hd:o.dst=none) {Q:Exit→Act→World→Prop} :
  ∀ (fuel:Nat) (listed:Array Bool) (a:Act) (w:World),listed.size=init.size→(∀ j p,listed.getD j false=true→init[j]? = some p→∀ e∈p.after.toList,Region.binds .any e=true→listed.getD e.on false=true) →
   wpAnyIn F n P .any init (withEnd Q fun a w=>wpOpIn F n P (init.push o) Q init.size (Q .normal) a w) fuel listed a w→wpAnyIn F n P .any (init.push o) Q (fuel+1) (listed.push false) a w:=by
 have gd:∀ (listed:Array Bool) (j:Nat),listed.size=init.size→(listed.push false).getD j false=listed.getD j false:=fun listed j hs=>by
  simp only [Array.getD_eq_getD_getElem?,Array.getElem?_push]
  split
  ·rename_i e;subst e;simp
  ·rfl
 have gdt:∀ (listed:Array Bool) (j:Nat),listed.size=init.size→j<init.size→(listed.push false).getD j true=listed.getD j true:=fun listed j hs hj=>by
  simp only [Array.getD_eq_getD_getElem?,Array.getElem?_push]
  rw [if_neg (by omega)]
 have gft:∀ (listed:Array Bool) (j:Nat),listed.size=init.size→j<init.size→listed.getD j true=false→listed.getD j false=true→False:=fun listed j hs hj h1 h2=>by
  have hl:j<listed.size:=by omega
  simp only [Array.getD_eq_getD_getElem?,Array.getElem?_eq_getElem hl,Option.getD_some] at h1 h2
  rw [h1] at h2;cases h2
 have edges:∀ j p,init[j]? = some p→∀ e∈p.after.toList,Region.binds .any e=true→e.on<j:=fun j p hp e he hbe=>by
  have hlt:j<init.size:=(Array.getElem?_eq_some_iff.1 hp).1
  have:=(tableOk_at hT (j:=j) (o:=p) (by rw [Array.getElem?_toList,Array.getElem?_push,if_neg (by omega)];exact hp)).2 e he hbe
  omega
 have all:∀ (listed:Array Bool),listed.size=init.size→Region.ready .any init listed=[]→∀ j,j<init.size→listed.getD j false=true:=by
  intro listed hs hr j
  induction j using Nat.strongRecOn with
  | _ j ih =>
   intro hj
   cases hD:listed.getD j false
   ·exfalso
    have:j∈Region.ready .any init listed:=by
     rw [ready_iff]
     refine ⟨hj,?_,init[j],Array.getElem?_eq_getElem hj,fun e he hbe=>?_⟩
     ·have hl:j<listed.size:=by omega
      simp only [Array.getD_eq_getD_getElem?,Array.getElem?_eq_getElem hl,Option.getD_some] at hD ⊢
      exact hD
     ·have hlt:=edges j _ (Array.getElem?_eq_getElem hj) e he hbe
      exact ih e.on hlt (by omega)
    rw [hr] at this
    cases this
   ·rfl
 -- the last one is ready only behind all others
 have lastAll:∀ (listed:Array Bool),listed.size=init.size→(∀ j p,listed.getD j false=true→init[j]? = some p→∀ e∈p.after.toList,Region.binds .any e=true→listed.getD e.on false=true)→init.size∈Region.ready .any (init.push o) (listed.push false)→∀ j,j<init.size→listed.getD j false=true:=by
  intro listed hs hcl hr j hj
  rw [ready_iff] at hr
  obtain ⟨_,_,o',ho',hpre⟩:=hr
  have hcl':∀ j p,(fun j=>listed.getD j false) j=true→(init.push o).toList[j]? = some p→∀ e∈p.after.toList,Region.binds .any e=true→(fun j=>listed.getD j false) e.on=true:=by
   intro j p hj hp e he hbe
   by_cases hjn:j<init.size
   ·refine hcl j p hj ?_ e he hbe
    simp only [Array.getElem?_toList,Array.getElem?_push] at hp
    rwa [if_neg (by omega)] at hp
   ·have:listed.getD j false=false:=by
     simp only [Array.getD_eq_getD_getElem?]
     rw [Array.getElem?_eq_none (by omega)]
     rfl
    exact absurd hj (by show ¬ listed.getD j false=true;rw [this];simp)
  have hbit:=(List.all_eq_true.1 hb) j (List.mem_range.2 hj)
  exact (bit_before hT hcl' init.size o' (by rw [Array.getElem?_toList];exact ho') (fun e he hbe=>by have h9:=hpre e he hbe;rw [gd listed e.on hs] at h9;exact h9) j hbit).1
 have last:∀ (fuel:Nat) (listed:Array Bool) (a:Act) (w:World),listed.size=init.size→(∀ j,j<init.size→listed.getD j false=true)→wpOpIn F n P (init.push o) Q init.size (Q .normal) a w →
   wpOpIn F n P (init.push o) Q init.size (wpAnyIn F n P .any (init.push o) Q fuel ((listed.push false).setIfInBounds init.size true)) a w:=by
  intro fuel listed a w hs hall h
  refine wpOpIn_mono (fun a w hQ=>?_) h
  have hnone:Region.ready .any (init.push o) ((listed.push false).setIfInBounds init.size true)=[]:=by
   cases hr:Region.ready .any (init.push o) ((listed.push false).setIfInBounds init.size true) with
   | nil=>rfl
   | cons i l =>
    have:i∈Region.ready .any (init.push o) ((listed.push false).setIfInBounds init.size true):=by rw [hr];simp
    rw [ready_iff] at this
    obtain ⟨h1,h2,_⟩:=this
    exfalso
    simp only [Array.size_push] at h1
    rcases Nat.lt_or_ge i init.size with hi | hi
    ·have:=hall i hi
     refine gft listed i hs hi ?_ this
     have h3:((listed.push false).setIfInBounds init.size true).getD i true=(listed.push false).getD i true:=by
      simp only [Array.getD_eq_getD_getElem?,Array.getElem?_setIfInBounds]
      rw [if_neg (by omega)]
     rw [← gdt listed i hs hi,← h3]
     exact h2
    ·have:i=init.size:=by omega
     subst this
     simp [Array.getD_eq_getD_getElem?,hs] at h2
  cases fuel with
  | zero=>exact ⟨hnone,hQ⟩
  | succ fuel=>exact ⟨fun _=>hQ,fun i hi=>by rw [hnone] at hi;cases hi⟩
 intro fuel
 induction fuel with
 | zero =>
  intro listed a w hs hcl h
  obtain ⟨hr,h⟩:=h
  have hall:=all listed hs hr
  refine ⟨fun hno=>?_,fun i hi=>?_⟩
  ·exfalso
   have:init.size∈Region.ready .any (init.push o) (listed.push false):=by
    rw [ready_iff]
    refine ⟨by simp,by simp [Array.getD_eq_getD_getElem?,← hs],o,by simp,fun e he hbe=>?_⟩
    have:=(tableOk_at hT (j:=init.size) (o:=o) (by simp)).2 e he hbe
    rw [gd listed _ hs]
    exact hall e.on (by omega)
   rw [hno] at this
   cases this
  ·have hi':i=init.size:=by
    rw [ready_iff] at hi
    obtain ⟨h1,h2,_⟩:=hi
    simp only [Array.size_push] at h1
    rcases Nat.lt_or_ge i init.size with hlt | hge
    ·exfalso
     have:=hall i hlt
     rw [gdt listed i hs hlt] at h2
     exact gft listed i hs hlt h2 this
    ·omega
   subst hi'
   exact last 0 listed a w hs hall h
 | succ fuel ih =>
  intro listed a w hs hcl h
  obtain ⟨h0,h1⟩:=h
  refine ⟨fun hno=>?_,fun i hi=>?_⟩
  ·exfalso
   have hr:Region.ready .any init listed=[]:=by
    cases hr:Region.ready .any init listed with
    | nil=>rfl
    | cons i l =>
     have hi:i∈Region.ready .any init listed:=by rw [hr];simp
     have:i∈Region.ready .any (init.push o) (listed.push false):=by
      rw [ready_iff] at hi ⊢
      obtain ⟨g1,g2,p,g3,g4⟩:=hi
      exact ⟨by simp;omega,by rw [gdt listed i hs g1];exact g2,p,by rw [Array.getElem?_push,if_neg (by omega)];exact g3,fun e he hbe=>by rw [gd listed _ hs];exact g4 e he hbe⟩
     rw [hno] at this
     cases this
   have hall:=all listed hs hr
   have:init.size∈Region.ready .any (init.push o) (listed.push false):=by
    rw [ready_iff]
    refine ⟨by simp,by simp [Array.getD_eq_getD_getElem?,← hs],o,by simp,fun e he hbe=>?_⟩
    have:=(tableOk_at hT (j:=init.size) (o:=o) (by simp)).2 e he hbe
    rw [gd listed _ hs]
    exact hall e.on (by omega)
   rw [hno] at this
   cases this
  ·rcases Nat.lt_or_ge i init.size with hlt | hge
   ·have hir:i∈Region.ready .any init listed:=by
     rw [ready_iff] at hi ⊢
     obtain ⟨g1,g2,p,g3,g4⟩:=hi
     exact ⟨hlt,by rw [← gdt listed i hs hlt];exact g2,p,by rw [Array.getElem?_push,if_neg (by omega)] at g3;exact g3,fun e he hbe=>by rw [← gd listed _ hs];exact g4 e he hbe⟩
    have hstep:=wpOpIn_push (o:=o) hd hlt (h1 i hir)
    refine wpOpIn_mono (fun a w hk=>?_) hstep
    have hset:(listed.push false).setIfInBounds i true=(listed.setIfInBounds i true).push false:=by
     apply Array.ext_getElem?
     intro j
     simp only [Array.getElem?_setIfInBounds,Array.getElem?_push,Array.size_setIfInBounds,Array.size_push]
     by_cases hj:i=j
     ·subst hj
      have:¬ i=listed.size:=by omega
      simp [this,(by omega:i<listed.size+1),(by omega:i<listed.size)]
     ·simp [hj]
    rw [hset]
    refine ih (listed.setIfInBounds i true) a w (by simpa using hs) ?_ hk
    intro j p hj hp e he hbe
    have hg:∀ q,(listed.setIfInBounds i true).getD q false=if q=i then true else listed.getD q false:=fun q=>by
     simp only [Array.getD_eq_getD_getElem?,Array.getElem?_setIfInBounds]
     by_cases hq:q=i
     ·subst hq;simp [(by omega:q<listed.size)]
     ·simp [hq,Ne.symm hq]
    rw [hg] at hj ⊢
    by_cases hq:e.on=i
    ·rw [if_pos hq]
    ·rw [if_neg hq]
     by_cases hji:j=i
     ·subst hji
      rw [ready_iff] at hir
      obtain ⟨_,_,p',g3,g4⟩:=hir
      rw [hp] at g3;cases g3
      exact g4 e he hbe
     ·rw [if_neg hji] at hj
      exact hcl j p hj hp e he hbe
   ·have hi':i=init.size:=by
     rw [ready_iff] at hi
     have:=hi.1
     simp only [Array.size_push] at this
     omega
    subst hi'
    have hall:=lastAll listed hs hcl hi
    have hno:Region.ready .any init listed=[]:=by
     cases hr:Region.ready .any init listed with
     | nil=>rfl
     | cons j l =>
      have hj:j∈Region.ready .any init listed:=by rw [hr];simp
      rw [ready_iff] at hj
      obtain ⟨g1,g2,_⟩:=hj
      have:=hall j g1
      exact (gft listed j hs g1 g2 this).elim
    exact last (fuel+1) listed a w hs hall (h0 hno)
def sealEnd (f:Bool) (opsA:Array Oper) (s:SState) (k:SState→Prop):Prop:=match f&&Nat.beq s.na 0 with
 | true=>(match opsA.toList.getLast? with
  | some o=>(match o.op,o.dst with
   | .assign _,some d=>(match sealAs s d with
    | some p=>needs p.ns (k (sealSt s p))
    | none=>k s)
   | _,_=>k s)
  | none=>k s)
 | false=>k s
theorem sealEnd_ok {f:Bool} {opsA:Array Oper} {B:Nat} {M:List Nat} {w0:Base} {k:SState→Prop} {Q:Act→World→Prop} (hk:∀ s ρ a w,StDen B M w0 ρ s a w→k s→Q a w) {s:SState} {ρ:Env} {a:Act} {w:World} (h:StDen B M w0 ρ s a w) (hx:sealEnd f opsA s k):Q a w:=by
 unfold sealEnd at hx
 split at hx
 ·rename_i hc
  simp only [Bool.and_eq_true,Nat.beq_eq] at hc
  split at hx
  ·split at hx
   ·split at hx
    ·rename_i p hp
     rw [needs_iff] at hx
     obtain ⟨ρ',h'⟩:=h.sealAs hc.2 hp hx.1
     exact hk _ _ _ _ h' hx.2
    ·exact hk _ _ _ _ h hx
   ·exact hk _ _ _ _ h hx
  ·exact hk _ _ _ _ h hx
 ·exact hk _ _ _ _ h hx
def xDrawE (P:Program) (Γ:Gam) (opsA:Array Oper) (s:SState) (k:SState→Prop):Prop:=xDraw P Γ opsA s fun s'=>sealEnd (Γ.c 4).isSome opsA s' k
theorem xDrawE_wp {Γ:Gam} (hΓ:GamOk P Γ) (hmix:P.follows .mixedOrders=true) {B:Nat} {M:List Nat} {w0:Base} {opsA:Array Oper} {id:Nat} {Q:Exit→Act→World→Prop} {k:SState→Prop} (hk:∀ s ρ a w,StDen B M w0 ρ s a w→k s→Q .normal a w)
  {s:SState} {ρ:Env} {a:Act} {w:World} (h:StDen B M w0 ρ s a w) (hx:xDrawE P Γ opsA s k):(Code.region id opsA true).wpIn (FW rd) n P Q a w:=xDraw_wp hΓ hmix (fun s ρ a w h1 h2=>sealEnd_ok hk h1 h2) h hx
def xDrawL (P:Program) (Γ:Gam) (opsA:Array Oper) (s:SState) (k:SState→Prop):Prop :=
 match opsA.toList.getLast? with
 | some o=>(match tableOk (masks opsA.toList []) 0 opsA.toList&&(domB (masks opsA.toList []) (opsA.toList.length - 1)&&(match o.dst with | none=>true | _=>false)) with
  | true=>xDraw P Γ opsA.toList.dropLast.toArray s fun s'=>xSeq P Γ opsA [o] s' k
  | false=>xDrawE P Γ opsA s k)
 | none=>False
theorem xDrawL_wp {Γ:Gam} (hΓ:GamOk P Γ) (hmix:P.follows .mixedOrders=true) {B:Nat} {M:List Nat} {w0:Base} {opsA:Array Oper} {id:Nat} {Q:Exit→Act→World→Prop} {k:SState→Prop} (hk:∀ s ρ a w,StDen B M w0 ρ s a w→k s→Q .normal a w)
  {s:SState} {ρ:Env} {a:Act} {w:World} (h:StDen B M w0 ρ s a w) (hx:xDrawL P Γ opsA s k):(Code.region id opsA true).wpIn (FW rd) n P Q a w:=by
 unfold xDrawL at hx
 split at hx <;> try exact hx.elim
 rename_i o ho
 split at hx
 rotate_left
 ·exact xDrawE_wp hΓ hmix hk h hx
 ·rename_i hb
  simp only [Bool.and_eq_true] at hb
  obtain ⟨hb1,hb2,hb3⟩:=hb
  have hd:o.dst=none:=by split at hb3 <;> simp_all
  have hop:opsA=opsA.toList.dropLast.toArray.push o:=by
   apply Array.toList_inj.1
   simp only [Array.toList_push]
   obtain ⟨ys,e⟩:=List.getLast?_eq_some_iff.1 ho
   rw [e,List.dropLast_concat]
  generalize hI:opsA.toList.dropLast.toArray=init at *
  have hsz:init.size=opsA.toList.length - 1:=by rw [← hI];simp
  rw [hop] at hb1
  have hb2':domB (masks opsA.toList []) init.size=true:=by rw [hsz];exact hb2
  rw [hop] at hb2'
  refine wpIn_region_any hmix ?_
  have key:=xDraw_any (rd:=rd) (n:=n) (Q:=withEnd Q fun a w=>wpOpIn (FW rd) n P (init.push o) Q init.size (Q .normal) a w) hΓ (fun s ρ a w hs hk'=>?_) h hx
  ·have:=anyIn_last hb1 hb2' hd init.size (Array.replicate init.size false) a _ (by simp) (fun j p hj=>by
    exfalso
    simp only [Array.getD_eq_getD_getElem?,Array.getElem?_replicate] at hj
    split at hj <;> cases hj) key
   rw [hop]
   have e:(Array.replicate init.size false).push false=Array.replicate (init.push o).size false:=by rw [Array.size_push];exact Array.replicate_succ.symm
   rw [← e]
   simpa using this
  ·show wpOpIn (FW rd) n P (init.push o) Q init.size (Q .normal) a w
   have hl:=xSeq_wp (rd:=rd) (n:=n) hΓ (ops:=opsA) (fun s ρ a w h1 h2=>hk s ρ a w h1 h2) [o] s ρ a w hs hk'
   rw [hop] at hl
   unfold wpListIn at hl
   unfold wpOpIn
   rw [Array.getElem?_push_size]
   simp only
   split at hl
   ·rename_i hw;rw [if_pos hw];exact hl
   ·rename_i hw;rw [if_neg hw];exact hl
end runs
end Go.Sy
