/-
 A symbolic executor for the model's code, part Q: a call's end under names of its own, proved. Conditions: none.
-/
import Derived.Test.YtpfipoimpmlmoaaGreatDoorJSyP
namespace Go.Sy
set_option linter.unusedVariables false
set_option linter.unusedSimpArgs false
open Go.RowKit
section runs
variable {P:Program}
mutual
def SV.nms:SV→List Nat
 | .ptr i _ | .elt i _ _ _ | .slc i _ _ _ | .own i _ _ | .gr i _ _ | .pix i _ _ _ _ _=>[i]
 | .agg l | .tup l | .fn _ l | .fb _ l | .ifc _ l=>SV.nmsL l
 | _=>[]
def SV.nmsL:List SV→List Nat
 | []=>[]
 | v :: l=>v.nms ++ SV.nmsL l
end
def Blk.nms:Blk→List Nat
 | .cells _ l=>SV.nmsL l
 | _=>[]
def coll (mem:Nat→Blk) (stop:Nat→Bool):Nat→List Nat→List Nat→List Nat
 | 0,_,π=>π
 | _+1,[],π=>π
 | f+1,i :: todo,π=>match stop i||π.any (Nat.beq i) with
  | true=>coll mem stop f todo π
  | false=>coll mem stop f ((mem i).nms ++ todo) (π ++ [i])
def idx:List Nat→Nat→Nat→Option Nat
 | [],_,_=>none
 | j :: l,k,i=>match Nat.beq j i with
  | true=>some k
  | false=>idx l (k+1) i
theorem idx_some:∀ {l:List Nat} {k i j:Nat},idx l k i=some j→∃ t,j=k+t∧l[t]? = some i
 | [],_,_,_,h=>by simp [idx] at h
 | a :: l,k,i,j,h=>by
  simp only [idx] at h
  split at h
  ·rename_i e;rw [Nat.beq_eq] at e;subst e;cases h;exact ⟨0,rfl,rfl⟩
  ·obtain ⟨t,h1,h2⟩:=idx_some h;exact ⟨t+1,by omega,by simpa using h2⟩
def inL (l:List Nat) (i:Nat):Bool:=l.any (Nat.beq i)
theorem inL_iff {l:List Nat} {i:Nat}:inL l i=true↔i∈l:=by
 unfold inL
 rw [List.any_eq_true]
 constructor
 ·rintro ⟨j,hj,e⟩;rw [Nat.beq_eq] at e;rw [e];exact hj
 ·exact fun h=>⟨i,h,by rw [Nat.beq_eq]⟩
def stopOut (na:Nat) (grs:List Nat) (i:Nat):Bool:=Nat.blt i na&&!(inL grs i)
def sigOut (na:Nat) (grs π:List Nat) (i:Nat):Option Nat:=match stopOut na grs i with
 | true=>some i
 | false=>idx π na i
def outAll (na:Nat) (muts grs:List Nat) (rh:RH) (v:SV) (mem:Nat→Blk):Option (SV × List Blk × List Blk × List Bool) :=
 match sealV mem rh v with
 | some (v1,sl,ns) =>
  let π:=coll mem (stopOut na grs) 64 (v1.nms ++ muts.flatMap fun q=>match inL grs q with | true=>[] | false=>(mem q).nms) []
  let σ:=sigOut na grs π
  match (sl.isEmpty||muts.isEmpty)&&((sl.all fun i=>!(inL π i))&&(nodupB π&&((grs.all fun q=>inL muts q)&&π.all fun i=>!(stopOut na grs i)))),v1.ren σ,renBs σ (muts.map fun q=>match inL grs q with | true=>.unk | false=>mem q),renBs σ (π.map mem) with
  | true,some v',some U,some N=>some (v',U,N,ns)
  | _,_,_,_=>none
 | none=>none
def outK (na:Nat) (muts grs:List Nat) (rh:RH) (R:SV→List Blk→List Blk→Prop):SV→(Nat→Blk)→Prop:=fun v mem =>
 match outAll na muts grs rh v mem with
 | some (v,U,N,ns)=>needs ns (R v U N)
 | none=>False
theorem nodupB_at {l:List Nat} (h:nodupB l=true):∀ {i j:Nat} {x:Nat},l[i]? = some x→l[j]? = some x→i=j:=by
 induction l with
 | nil=>intro i j x hi;simp at hi
 | cons a l ih =>
  simp only [nodupB,Bool.and_eq_true,Bool.not_eq_true',List.any_eq_false] at h
  have hno:∀ x∈l,x≠a:=fun x hx e=>h.1 x hx (by rw [Nat.beq_eq];exact e)
  intro i j x hi hj
  cases i with
  | zero =>
   cases j with
   | zero=>rfl
   | succ j=>simp at hi;subst hi;exact absurd rfl (hno _ (List.mem_of_getElem? (by simpa using hj)))
  | succ i =>
   cases j with
   | zero=>simp at hj;subst hj;exact absurd rfl (hno _ (List.mem_of_getElem? (by simpa using hi)))
   | succ j=>exact congrArg (·+1) (ih h.2 (by simpa using hi) (by simpa using hj))
open Classical in
theorem out_post {M:List Nat} {ρ0 ρ:Env} {na:Nat} {muts grs:List Nat} {rh:RH} {v:SV} {x:Value} {mem0 mem:Nat→Blk} {w w':World} (hM0:MemDen w.heap.size M ρ0 mem0 w) (hfr:∀ i,na≤i→ρ0 i=none) (hMb:∀ b∈M,∃ q∈muts,∃ m,ρ0 q=some m∧m.blk=b) (hmn:∀ q∈muts,q<na)
  (hv:v.den ρ x) (he:Ext ρ0 ρ) (hlow:∀ i,i<na→ρ i=ρ0 i) (hodb:OdB ρ0.od ρ.od w.heap.size) (hm:MemDen w.heap.size M ρ mem w') (hk:Kept w.heap.size M w w')
  {v':SV} {U N:List Blk} {ns:List Bool} (h:outAll na muts grs rh v mem=some (v',U,N,ns)) (hn:∀ b∈ns,b=true) (need:List Bool) :
  ∃ ρ',OpPost ρ0 ρ' na { v:=v',news:=N,upds:=muts.zip U,need:=need } w w' x:=by
 unfold outAll at h
 split at h <;> try (cases h;done)
 rename_i v1 sl ns1 hseal
 simp only at h
 generalize hπ:coll mem (stopOut na grs) 64 (v1.nms ++ muts.flatMap fun q=>match inL grs q with | true=>[] | false=>(mem q).nms) []=π at h
 split at h <;> cases h
 rename_i hchk hv' hU hN
 simp only [Bool.and_eq_true,Bool.or_eq_true,List.isEmpty_iff,List.all_eq_true] at hchk
 obtain ⟨hsm,hsπ,hnd,hgm,hπs⟩:=hchk
 obtain ⟨hUl,hUg⟩:=renBs_get hU
 obtain ⟨hNl,hNg⟩:=renBs_get hN
 rw [List.length_map] at hUl hNl
 let S:Nat→Prop:=fun b=>∃ i,i∈sl∧∃ m,ρ i=some m∧m.blk=b
 let od2:Od:=⟨fun b o=>if S b then w'.cell? ⟨b,o,none⟩ else ρ.od b o,ρ.od.m,ρ.od.p⟩
 have hod:OdExt ρ.od od2:=.ofC fun b o y hy=>by
  show (if S b then w'.cell? ⟨b,o,none⟩ else ρ.od b o)=some y
  split
  ·exact hm.seal_ b o y hy
  ·exact hy
 let ρ':Env:=⟨fun i=>if i<na then ρ0 i else match π[i - na]? with | some j=>ρ j | none=>none,od2,ρ.gl.ext hod⟩
 have hSnew:∀ b,S b→w.heap.size≤b:=by
  rintro b ⟨i,hi,m,hmi,rfl⟩
  have hknown:=seal_known hseal i hi
  rcases (hm.get hknown hmi).2.2 with h | h
  ·exact h
  ·rcases hsm with h0 | h0
   ·rw [h0] at hi;simp at hi
   ·obtain ⟨q,hq,_⟩:=hMb _ h;rw [h0] at hq;simp at hq
 have hπn:∀ t j,π[t]? = some j→ρ' (na+t)=ρ j:=by
  intro t j ht
  show (if na+t<na then ρ0 (na+t) else match π[na+t - na]? with | some j=>ρ j | none=>none)=ρ j
  rw [if_neg (by omega),Nat.add_sub_cancel_left,ht]
 have hlow':∀ i,i<na→ρ' i=ρ0 i:=fun i hi=>by
  show (if i<na then ρ0 i else match π[i - na]? with | some j=>ρ j | none=>none)=ρ0 i
  rw [if_pos hi]
 have hσ:∀ i j,sigOut na grs π i=some j→∀ m,ρ i=some m→ρ' j=some m:=by
  intro i j hs m hmi
  unfold sigOut at hs
  split at hs
  ·rename_i hst
   cases hs
   have hi:i<na:=by simp only [stopOut,Bool.and_eq_true] at hst;simpa using hst.1
   rw [hlow' i hi,← hlow i hi];exact hmi
  ·obtain ⟨t,rfl,ht⟩:=idx_some hs
   rw [hπn t i ht];exact hmi
 have hσ2:∀ i j,sigOut na grs π i=some j→∀ m,(⟨ρ.nm,od2,ρ.gl.ext hod⟩:Env) i=some m→ρ' j=some m:=hσ
 have ext:Ext ρ0 ρ':=⟨fun i m hi=>by
  have hlt:i<na:=by
   rcases Nat.lt_or_ge i na with h | h
   ·exact h
   ·rw [hfr i h] at hi;cases hi
  rw [hlow' i hlt];exact hi,⟨fun b o y hy=>hod b o y (he.od b o y hy),fun b v hv=>he.od.m b v hv,fun b i hi=>he.od.p b i hi⟩⟩
 -- where a name's block lies
 have sealedApart:∀ i m,(mem i).isUnk=false→ρ i=some m→i ∉ sl→¬ S m.blk:=by
  rintro i m hi hmi hns ⟨i2,hi2,m2,hm2,e⟩
  exact hm.apart i2 i m2 m (fun e2=>hns (by rw [← e2];exact hi2)) (seal_known hseal i2 hi2) hi hm2 hmi e
 have odNone:∀ i m,(mem i).isUnk=false→ρ i=some m→i ∉ sl→∀ o,od2 m.blk o=none:=fun i m hi hmi hns o=>by
  show (if S m.blk then w'.cell? ⟨m.blk,o,none⟩ else ρ.od m.blk o)=none
  rw [if_neg (sealedApart i m hi hmi hns)]
  exact hm.free i m hi hmi o
 have πsl:∀ t j,π[t]? = some j→j ∉ sl:=fun t j ht hj=>by
  have h1:=hsπ j hj
  rw [Bool.not_eq_true'] at h1
  rw [inL_iff.2 (List.mem_of_getElem? ht)] at h1
  cases h1
 have updAt_:∀ q∈muts,∃ (t:Nat) (b:Blk),muts[t]? = some q∧U[t]? = some b∧(q,b)∈muts.zip U∧Blk.ren (sigOut na grs π) (match inL grs q with | true=>.unk | false=>mem q)=some b:=by
  intro q hq
  obtain ⟨t,ht⟩:=List.mem_iff_getElem?.1 hq
  have hlt:t<U.length:=by rw [hUl];exact (List.getElem?_eq_some_iff.1 ht).1
  refine ⟨t,U[t],ht,List.getElem?_eq_getElem hlt,?_,?_⟩
  ·rw [List.mem_iff_getElem?]
   exact ⟨t,by rw [List.getElem?_zip_eq_some];exact ⟨ht,List.getElem?_eq_getElem hlt⟩⟩
  ·obtain ⟨b,hb1,hb2⟩:=hUg t _ (List.getElem?_eq_getElem hlt)
   rw [List.getElem?_map,ht] at hb1
   cases hb1
   exact hb2
 have ofUpd:∀ u∈muts.zip U,u.1∈muts∧Blk.ren (sigOut na grs π) (match inL grs u.1 with | true=>.unk | false=>mem u.1)=some u.2:=by
  intro u hu
  obtain ⟨t,ht⟩:=List.mem_iff_getElem?.1 hu
  rw [List.getElem?_zip_eq_some] at ht
  obtain ⟨b,hb1,hb2⟩:=hUg t _ ht.2
  rw [List.getElem?_map,ht.1] at hb1
  cases hb1
  exact ⟨List.mem_of_getElem? ht.1,hb2⟩
 have hv1:=seal_den hm hod hseal hn (fun i hi m hmi o y hy=>by
  show (if S m.blk then w'.cell? ⟨m.blk,o,none⟩ else ρ.od m.blk o)=some y
  rw [if_pos ⟨i,hi,m,hmi,rfl⟩];exact hy) hv
 refine ⟨ρ',ren_den hσ2 hv' (fun _=>⟨fun _ _ _ h=>h,fun _ _ h=>h,fun _ _ h=>h⟩) hv1,ext,fun i hi=>?_,hk.os,hk.tape,hk.output,hk.size,fun b hb hu=>hk.block b hb fun hbM=>?_,⟨fun b o y hy=>?_,fun b v hv=>(hodb.m b v hv).imp id fun h1=>⟨hm.seal_.m b v hv,h1⟩,hodb.p⟩,fun u hu hku=>?_,fun t b ht hku=>?_,fun t t' b b' m m' hne ht ht' hkb hkb' hmt hmt'=>?_⟩
 ·rcases hi with hi | hi
  ·exact hlow' i hi
  ·have hge:na≤i:=by omega
   rw [hfr i hge]
   show (if i<na then ρ0 i else match π[i - na]? with | some j=>ρ j | none=>none)=none
   rw [if_neg (by omega),List.getElem?_eq_none_iff.2 (by simp only at hi;omega)]
 ·obtain ⟨q,hq,m,hqm,e⟩:=hMb b hbM
  obtain ⟨t,bb,_,_,hz,_⟩:=updAt_ q hq
  exact hu (q,bb) hz m hqm e
 ·by_cases hS:S b
  ·have hy':w'.cell? ⟨b,o,none⟩=some y:=by
    have:(if S b then w'.cell? ⟨b,o,none⟩ else ρ.od b o)=some y:=hy
    rwa [if_pos hS] at this
   exact .inr ⟨hy',hSnew b hS⟩
  ·have hy':ρ.od b o=some y:=by
    have:(if S b then w'.cell? ⟨b,o,none⟩ else ρ.od b o)=some y:=hy
    rwa [if_neg hS] at this
   rcases hodb b o y hy' with h1 | h1
   ·exact .inl h1
   ·exact .inr ⟨hm.seal_ b o y hy',h1⟩
 ·obtain ⟨hqm,hren⟩:=ofUpd u hu
  have hlt:=hmn _ hqm
  cases hg:inL grs u.1 with
  | true =>
   rw [hg] at hren
   simp only [Blk.ren,Option.some.injEq] at hren
   rw [← hren] at hku;cases hku
  | false =>
   rw [hg] at hren
   simp only at hren
   obtain ⟨hu1,hu2⟩:=renB_unk hren
   rw [hu1] at hku
   obtain ⟨g1,g2⟩:=hm.at_ u.1 hku
   refine ⟨fun m hmm=>?_,fun hnn=>hu2 (g2 (by rw [hlow _ hlt];exact hnn))⟩
   obtain ⟨_,g3,_⟩:=g1 m (by rw [hlow _ hlt];exact hmm)
   exact renB_den hσ hren (fun _=>hod) g3
 ·obtain ⟨b0,hb0,hren⟩:=hNg t b ht
  rw [List.getElem?_map] at hb0
  cases hj:π[t]? with
  | none=>rw [hj] at hb0;cases hb0
  | some j =>
   rw [hj] at hb0;cases hb0
   obtain ⟨hu1,hu2⟩:=renB_unk hren
   rw [hu1] at hku
   obtain ⟨g1,g2⟩:=hm.at_ j hku
   rw [hπn t j hj]
   refine ⟨fun m hmm=>?_,fun hnn=>hu2 (g2 hnn)⟩
   obtain ⟨g3,g4,g5⟩:=g1 m hmm
   refine ⟨g3,renB_den hσ hren (fun _=>hod) g4,odNone j m hku hmm (πsl t j hj),?_⟩
   rcases g5 with g5 | g5
   ·exact .inl g5
   ·obtain ⟨q,hq,mq,hqm,e⟩:=hMb _ g5
    have hqlt:=hmn q hq
    obtain ⟨t2,bb,_,_,hz,hren2⟩:=updAt_ q hq
    refine .inr ⟨(q,bb),hz,?_,mq,hqm,e⟩
    cases hg:inL grs q with
    | true=>rw [hg] at hren2;simp only [Blk.ren,Option.some.injEq] at hren2;rw [← hren2];rfl
    | false =>
     rw [hg] at hren2
     simp only at hren2
     rw [(renB_unk hren2).1]
     cases hku2:(mem q).isUnk with
     | true=>rfl
     | false =>
      exfalso
      have hqj:q≠j:=by
       intro e2
       subst e2
       have:=hπs q (List.mem_of_getElem? hj)
       rw [Bool.not_eq_true'] at this
       simp only [stopOut,hg,Bool.not_false,Bool.and_true] at this
       rw [blt_t hqlt] at this
       cases this
      exact hm.apart q j mq m hqj hku2 hku (by rw [hlow q hqlt];exact hqm) hmm e
 ·obtain ⟨b0,hb0,hren⟩:=hNg t b ht
  obtain ⟨b1,hb1,hren1⟩:=hNg t' b' ht'
  rw [List.getElem?_map] at hb0 hb1
  cases hj:π[t]? with
  | none=>rw [hj] at hb0;cases hb0
  | some j =>
   cases hj':π[t']? with
   | none=>rw [hj'] at hb1;cases hb1
   | some j' =>
    rw [hj] at hb0;cases hb0
    rw [hj'] at hb1;cases hb1
    rw [hπn t j hj] at hmt
    rw [hπn t' j' hj'] at hmt'
    rw [(renB_unk hren).1] at hkb
    rw [(renB_unk hren1).1] at hkb'
    exact hm.apart j j' m m' (fun e=>hne (nodupB_at hnd hj (by rw [e];exact hj'))) hkb hkb' hmt hmt'
theorem calls_out {L:Tab} (hL:TabOk P L) (hmix:P.follows .mixedOrders=true) {Λ:Lam} (fuel:Nat) {f:FuncId} {fn:Func} {c:Code} (hf:P.funcs[f]? = some fn) (hb:fn.body=some c) (hΛ:∀ id b g,hasBlk c id b→Λ id=some g→LOk P g (.block id b))
  {M:List Nat} {ρ0:Env} {na:Nat} {mem0:Nat→Blk} {args:List SV} {xs:List Value} {w:World} {muts grs:List Nat} {rh:RH} (hargs:SV.denL ρ0 args xs) (hM:MemDen w.heap.size M ρ0 mem0 w) (hfr:∀ i,na≤i→ρ0 i=none) (hMb:∀ b∈M,∃ q∈muts,∃ m,ρ0 q=some m∧m.blk=b) (hmn:∀ q∈muts,q<na) {R:SV→List Blk→List Blk→Prop}
  (h:exec P L Λ fuel c (initS fn.ntmps args na mem0) (retK P fn.results.toList (outK na muts grs rh R))) :
  Calls P f ⟨xs⟩ w fun e w'=>∃ v U N x ρ',e=.returned x∧R v U N∧OpPost ρ0 ρ' na { v:=v,news:=N,upds:=muts.zip U } w w' x:=by
 refine (calls_exec hL hmix hf hb hΛ hargs hM hfr (fun h0=>by
  cases M with
  | nil=>rfl
  | cons b l =>
   obtain ⟨q,hq,_⟩:=hMb b (by simp)
   have:=hmn q hq
   omega) h).mono ?_
 rintro e w' ⟨v,x,ρ,mem,rfl,hd,he,hlow,hodb,hm,hk,hR⟩
 unfold outK at hR
 split at hR
 ·rename_i v' U N ns hout
  rw [needs_iff] at hR
  obtain ⟨ρ',hp⟩:=out_post hM hfr hMb hmn hd he hlow hodb hm hk hout hR.1 []
  exact ⟨v',U,N,x,ρ',rfl,hR.2,hp⟩
 ·exact hR.elim
end runs
end Go.Sy
