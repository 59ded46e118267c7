/-
 Loops over numbers, as functions of natural numbers. Conditions: none.
-/
import Derived.Test.YtdcdjjogieojhaaGreatDoorKSyV
set_option linter.unusedVariables false
set_option linter.unusedSimpArgs false
set_option linter.unusedSectionVars false
namespace Go.Sy
open Go
theorem wrp{n:Int}(h0:-9223372036854775808<=n)(h1:n<=9223372036854775807):IntKind.i64.wrap n=n:=by
 simp [IntKind.wrap,IntKind.bits,IntKind.signed];omega
theorem wrS{i n:Nat}(h:i<n)(hn:n<=9223372036854775807):IntKind.i64.wrap ((i:Int)+1)=((i+1:Nat):Int):=by rw [wrp (by omega) (by omega)];omega
def brk{β:Type}:Option β->Option β->Option β
 | some b,_=>some b
 | none,r=>r
def first{β:Type}(g:Nat->Option β)(e:β):Nat->Nat->β
 | 0,_=>e
 | k+1,i=>match g i with | some b=>b | none=>first g e k (i+1)
theorem DL{β:Type}{l:Nat->Int->Option β}{g:Nat->Option β}{e:β}{n:Nat}(hn:n<=9223372036854775807)(step:∀ f i,i<n->l (f+1) (i:Int)=brk (g i) (l f (IntKind.i64.wrap ((i:Int)+1))))(stop:∀ f,l (f+1) (n:Int)=some e) :
  ∀ (k i f:Nat),i+k=n->k<f->l f (i:Int)=some (first g e k i)
 | 0,i,f,hi,hf=>by
  obtain ⟨f,rfl⟩:∃ f',f=f'+1:=⟨f - 1,by omega⟩
  obtain rfl:i=n:=by omega
  exact stop f
 | k+1,i,f,hi,hf=>by
  obtain ⟨f,rfl⟩:∃ f',f=f'+1:=⟨f - 1,by omega⟩
  rw [step f i (by omega),wrS (show i<n by omega) hn,first]
  cases g i with
  | some b=>rfl
  | none=>exact DL hn step stop k (i+1) f (by omega) (by omega)
section
variable {β:Type} {g:Nat->Option β} {e:β}
theorem IK:∀ {k i:Nat},(∀ j,i<=j->j<i+k->g j=none)->first g e k i=e
 | 0,_,_=>rfl
 | k+1,i,h=>by
  rw [first,h i (Nat.le_refl _) (by omega)]
  exact IK fun j h1 h2=>h j (by omega) (by omega)
theorem IL:∀ {k i:Nat} {j:Nat} {b:β},i<=j->j<i+k->g j=some b->(∀ j',i<=j'->j'<j->g j'=none)->first g e k i=b
 | 0,i,j,b,h1,h2,_,_=>by omega
 | k+1,i,j,b,h1,h2,hg,h=>by
  rw [first]
  by_cases hij:i=j
  .subst hij;rw [hg]
  .rw [h i (Nat.le_refl _) (by omega)]
   exact IL (by omega) (by omega) hg fun j' a b=>h j' (by omega) b
theorem BI(k i:Nat):(∃ j b,i<=j/\j<i+k/\g j=some b/\(∀ j',i<=j'->j'<j->g j'=none)/\first g e k i=b)\/((∀ j,i<=j->j<i+k->g j=none)/\first g e k i=e):=by
 induction k generalizing i with
 | zero=>exact Or.inr ⟨fun j h1 h2=>by omega,rfl⟩
 | succ k ih =>
  rw [first]
  cases hg:g i with
  | some b=>exact Or.inl ⟨i,b,Nat.le_refl _,by omega,hg,fun j' h1 h2=>by omega,rfl⟩
  | none =>
   rcases ih (i+1) with ⟨j,b,h1,h2,h3,h4,h5⟩ | ⟨h1,h2⟩
   .exact Or.inl ⟨j,b,by omega,by omega,h3,fun j' a c=>by by_cases hj:j'=i;(subst hj;exact hg);exact h4 j' (by omega) c,h5⟩
   .exact Or.inr ⟨fun j a c=>by by_cases hj:j=i;(subst hj;exact hg);exact h1 j (by omega) (by omega),h2⟩
theorem E0{g':Nat->Option β}:∀ {k i:Nat},(∀ j,i<=j->j<i+k->g j=g' j)->first g e k i=first g' e k i
 | 0,_,_=>rfl
 | k+1,i,h=>by
  rw [first,first,h i (Nat.le_refl _) (by omega)]
  split
  .rfl
  .exact E0 fun j h1 h2=>h j (by omega) (by omega)
end
theorem Lp(d e:Dat):d.app 0 e=e:=by
 have h:∀ q:Nat,Nat.blt q 0=false:=fun q=>by cases q <;> rfl
 cases e
 simp [Dat.app,h]
theorem cdd{i n:Nat}(h:i<n):decide ((0:Int)<=(i:Int)/\(i:Int)<(n:Int))=true:=decide_eq_true ⟨by omega,by omega⟩
theorem cdl{i n:Nat}(h:i<n):decide ((i:Int)<(n:Int))=true:=decide_eq_true (by omega)
theorem cdn(n:Nat):decide ((n:Int)<(n:Int))=false:=decide_eq_false (by omega)
end Go.Sy
