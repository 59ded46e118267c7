/-
  The law 'MixWider' returns true for every input, and leaves its input as it was. Conditions: none.
-/
import Derived.Test.YtmndejpcpfkajaaHPWider
namespace Go.Proofs.Ytmndejpcpfkajaa
open Go
theorem mixWider_said : Rows.MixWiderSaid := overMixWider fun n d b1 b2 b3 T ol oh hl hh x y hn hd _ _ _ _ _ _ _ _ _ _ => lawWider n (Nat.le_trans hn (by decide)) d (fun i hi => Nat.le_trans ((hd i hi).1) (by decide)) b1 b2 b3 T ol oh hl hh x y
end Go.Proofs.Ytmndejpcpfkajaa
