/-
 A symbolic executor for the model's code: contracts whose new slice (nil, or of the call's own) is read only from the call on. Conditions: none.
-/
import Derived.Test.YtldjapmfmhifkaaUSyY
namespace Go.Sy
set_option linter.unusedVariables false
set_option linter.unusedSimpArgs false
open Go.RowKit
section runs
variable {P:Program}
def sealL(c:Ctr):Ctr:=fun off mem args=>match c off mem args with
 | some { v:=.gr i sz n,news:=[.row e sh m d],upds:=[],need:=ns } =>
   (match Nat.beq i off&&Nat.beq sz sh.length with
   | true=>some { v:=.ro sh n d,news:=[.unk],need:=ns ++ [decide (n<=m)] }
   | false=>none)
 | _=>none
theorem seal_l{c:Ctr}{f:FuncId}(h:CtrOk P c f):CtrOk P (sealL c) f:=by
 refine ⟨h.1,fun B M ρ mem off args r hr hn hf xs w hd hm hB hfr=>?_⟩
 unfold sealL at hr
 split at hr <;> try (cases hr;done)
 rename_i i sz n e sh m d ns hr0
 split at hr <;> cases hr
 rename_i hb
 simp only [Bool.and_eq_true] at hb
 have e1:i=off:=by simpa using hb.1
 have e2:sz=sh.length:=by simpa using hb.2
 subst e1;subst e2
 have hnm:n<=m:=by simpa using hn (decide (n<=m)) (by simp)
 refine (h.2 B M ρ mem i args _ hr0 (fun b hb=>hn b (List.mem_append.2 (.inl hb))) ⟨fun u hu=>by simp at hu,fun u hu=>by simp at hu⟩ xs w hd hm hB (fun j hj=>hfr j hj)).mono ?_
 rintro ex w' ⟨y,ρ',rfl,hp⟩
 have h0:=hp.val
 rcases h0 with ⟨n0,A,rfl⟩ | ⟨mm,hmm,o0,hcap,rfl⟩
 ·have n0:n=0:=n0
  subst n0
  refine ⟨_,ρ',rfl,⟨⟨A,0,rfl,⟨Nat.le_refl _,fun _=>rfl⟩,fun h=>absurd h (Nat.lt_irrefl _)⟩,hp.ext,hp.old,hp.os,hp.tape,hp.output,hp.size,hp.keep,hp.odn,fun u hu=>by simp at hu,fun j b hj hk=>?_,fun j j' b b' m1 m2 hne hj hj' hk=>?_⟩⟩
  ·cases j with
   | zero=>simp at hj;subst hj;cases hk
   | succ j=>simp at hj
  ·cases j with
   | zero=>simp at hj;subst hj;cases hk
   | succ j=>simp at hj
 ·obtain ⟨g1,_⟩:=hp.new 0 _ rfl rfl
  obtain ⟨q1,q2,q3,q4⟩:=g1 mm (by simpa using hmm)
  have hge:w.heap.size<=mm.blk:=q4.elim id fun ⟨u,hu,_⟩=>by simp at hu
  obtain ⟨_,_,⟨cur,hcur,hcs,_⟩,hel⟩:=q2
  let od2:Od:=⟨fun b o=>if b=mm.blk then w'.cell? ⟨b,o,none⟩ else ρ'.od b o,ρ'.od.m,ρ'.od.p⟩
  have hodE:OdExt ρ'.od od2:=OdExt.ofC fun b o v hb=>by
   by_cases hbe:b=mm.blk
   ·subst hbe;rw [q3 o] at hb;cases hb
   ·simp only [if_neg hbe,hb]
  have hE:Ext ρ' ⟨ρ'.nm,od2⟩:=⟨fun i m hm=>hm,hodE⟩
  refine ⟨_,⟨ρ'.nm,od2⟩,rfl,⟨⟨_,_,rfl,⟨hcap,fun h=>by cases h⟩,fun _=>⟨mm.blk,0,rfl,fun q hq=>?_⟩⟩,hp.ext.trans hE,hp.old,hp.os,hp.tape,hp.output,hp.size,hp.keep,⟨fun b o v hb=>?_,hp.odn.m,hp.odn.p⟩,fun u hu=>by simp at hu,fun j b hj hk=>?_,fun j j' b b' m1 m2 hne hj hj' hk=>?_⟩⟩
  ·refine (kdE_iff (ρ:=⟨ρ'.nm,od2⟩)).2 fun j v hj=>?_
   obtain ⟨y,hy,hdy⟩:=(hel q (by omega)).2 j v hj
   refine ⟨y,?_,SV.den_mono hE _ _ hdy⟩
   show (if mm.blk=mm.blk then w'.cell? ⟨mm.blk,0+q * sh.length+j,none⟩ else ρ'.od mm.blk (0+q * sh.length+j))=some y
   rw [if_pos rfl]
   rw [o0] at hy
   simpa [Nat.add_assoc] using hy
  ·have hb':(if b=mm.blk then w'.cell? ⟨b,o,none⟩ else ρ'.od b o)=some v:=hb
   split at hb'
   ·rename_i e;subst e;exact .inr ⟨hb',hge⟩
   ·exact hp.odn b o v hb'
  ·cases j with
   | zero=>simp at hj;subst hj;cases hk
   | succ j=>simp at hj
  ·cases j with
   | zero=>simp at hj;subst hj;cases hk
   | succ j=>simp at hj
end runs
end Go.Sy
