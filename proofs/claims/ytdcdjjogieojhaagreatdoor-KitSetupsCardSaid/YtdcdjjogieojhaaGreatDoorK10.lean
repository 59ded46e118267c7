/-
 Contracts of functions: models, equations by the kernel, contracts. Conditions: none.
-/
import Derived.Test.YtdcdjjogieojhaaGreatDoorK9
import Derived.KernelRfl
set_option linter.unusedVariables false
set_option linter.unusedSimpArgs false
set_option linter.unusedSectionVars false
namespace Go.Proofs.YtdcdjjogieojhaaGreatDoor
open Go Go.Sy Go.RowKit Go.ChangeMaps
noncomputable section
set_option maxRecDepth 100000
set_option maxHeartbeats 2000000
attribute [local instance 3000] Go.Sy.G2
/-! ### the lines of a text,by hand -/
def EL:Nat->BA->List BA
 | 0,_=>[]
 | f+1,s=>if 0<s.size then (if 0<=m79 s 10 then s.extract 0 (m79 s 10+1).toNat :: EL f (s.extract (m79 s 10+1).toNat s.size) else [s]) else []
def N78(s:BA):Nat:=(EL (s.size+8) s).length
def Y78(s:BA):Dat:=T2 (EL (s.size+8) s)
def ok78(s:BA):Bool:=decide (s.size<=1000000000)
theorem m79_lt{s:BA}{c:Int}(h:0<=m79 s c):m79 s c<s.size:=by
 unfold m79 at h ⊢
 obtain ⟨o,ho⟩:∃ o:Nat,Lib.indexByte s.data.toList c.toNat.toUInt8=o:=⟨_,(Int.toNat_of_nonneg h).symm⟩
 obtain ⟨h1,_⟩:=Lib.indexByte_some ho
 have:=(List.getElem?_eq_some_iff.1 h1).1
 rw [ho,Lib.size_eq]
 omega
theorem NM{n:Int}(h0:0<=n)(h1:n<=1000000001):IntKind.i64.wrap n=n:=by
 unfold IntKind.wrap IntKind.signed IntKind.bits
 simp
 omega
theorem K8(l N:Nat)(Y:Dat):∀ (g k:Nat) (s:BA),s.size<g->(0<s.size->s.size+1<g)->s.size<=1000000000->k+(EL g s).length=N->(∀ i,i<(EL g s).length->Y.ss (k+i) 0=(EL g s).getD i ByteArray.empty)->∃ s',l78_0 l N Y g k s=some (N,s')
 | 0,_,_,h,_,_,_,_=>by omega
 | g+1,k,s,h,hp,hb,hN,hY=>by
  unfold l78_0
  unfold EL at hN hY
  by_cases h0:0<s.size
  .rw [if_pos h0] at hN hY
   rw [show (decide ((0:Int)<(s.size:Int)))=true by simpa using h0]
   simp only [cond_true]
   by_cases hi:0<=m79 s 10
   .rw [if_pos hi] at hN hY
    have hlt:=m79_lt hi
    obtain ⟨e,he⟩:∃ e:Nat,m79 s 10+1=e:=⟨(m79 s 10+1).toNat,by omega⟩
    have hw:IntKind.i64.wrap (m79 s 10+1)=e:=by rw [NM (by omega) (by omega),he]
    rw [he] at hN hY
    simp only [Int.toNat_natCast] at hN hY
    simp only [hw,Int.toNat_natCast]
    have e1:1<=e:=by omega
    have e2:e<=s.size:=by omega
    simp only [List.length_cons] at hN hY
    have hsz:(s.extract e s.size).size=s.size - e:=by rw [ByteArray.size_extract];omega
    have hY0:=hY 0 (by omega)
    simp only [Nat.add_zero,List.getD_cons_zero] at hY0
    rw [show decide (0<=m79 s 10)=true by simpa using hi,show decide ((0:Int)<=0/\(0:Int)<=e/\(e:Int)<=s.size)=true by rw [decide_eq_true_eq];omega,show decide ((0:Int)<=e/\(e:Int)<=s.size/\(s.size:Int)<=s.size)=true by rw [decide_eq_true_eq];omega,show decide (k<N)=true by rw [decide_eq_true_eq];omega,show decide (s.extract 0 e=Y.ss k 0)=true by rw [decide_eq_true_eq];exact hY0.symm]
    simp only [cond_true]
    refine K8 l N Y g (k+1) _ (by omega) (fun hp'=>by have:=hp h0;omega) (by omega) (by omega) fun i hi'=>?_
    have:=hY (i+1) (by omega)
    rw [List.getD_cons_succ] at this
    rw [<- this]
    congr 1
    omega
   .rw [if_neg hi] at hN hY
    simp only [List.length_cons,List.length_nil] at hN hY
    have hY0:=hY 0 (by omega)
    simp only [Nat.add_zero,List.getD_cons_zero] at hY0
    rw [show decide (0<=m79 s 10)=false by simpa using hi,show decide (k<N)=true by rw [decide_eq_true_eq];omega,show decide (s=Y.ss k 0)=true by rw [decide_eq_true_eq];exact hY0.symm]
    simp only [cond_true,cond_false]
    obtain ⟨g',rfl⟩:∃ g',g=g'+1:=⟨g - 1,by have:=hp h0;omega⟩
    unfold l78_0
    exact ⟨_,by rw [show k+1=N by omega];rfl⟩
  .rw [if_neg h0] at hN
   rw [show (decide ((0:Int)<(s.size:Int)))=false by simpa using h0]
   exact ⟨s,by rw [show k=N by simpa using hN];rfl⟩
theorem Tc(s:BA)(hok:ok78 s=true):Lm Tryz.prog 78 [.ptr 0 0] [.cells 9 [.str s]] (N78 s) (fun k=>[.str ((Y78 s).ss k 0)]):=by
 refine it78 s _ _ fun l=>?_
 have hs:s.size<=1000000000:=by simpa [ok78] using hok
 obtain ⟨s',h⟩:=K8 l (N78 s) (Y78 s) (s.size+8) 0 s (by omega) (fun _=>by omega) hs (by unfold N78;omega) (fun i hi=>by rw [Nat.zero_add];rfl)
 unfold n78 o78_0
 rw [h]
 simp
/-! ### shotline/kit.line,of setups -/
def c29s:Ctr:=orC c29i c29r
theorem k29s:Ag Tryz.prog c29s 29:=QN k29i k29r
/-! ### shotline/kit.scan,of setups -/
def c31s:Ctr:=orC c31i c31r
theorem k31s:Ag Tryz.prog c31s 31:=QN k31i k31r
end
end Go.Proofs.YtdcdjjogieojhaaGreatDoor
