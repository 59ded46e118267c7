/-
  The law 'MixDuals' returns true for every input, and leaves its input as it was. Conditions: none.
-/
import Derived.Test.YtmndejpcpfkajaaCPDuals
namespace Go.Proofs.Ytmndejpcpfkajaa
open Go
theorem mixDuals_said : Rows.MixDualsSaid := overMixDuals fun n d b1 b2 b3 T ol oh hl hh p dp den W a b c e q hn hd _ _ _ _ _ _ _ _ _ _ _ _ _ _ _ _ _ => lawDuals n (Nat.le_trans hn (by decide)) d (fun i hi => Nat.le_trans ((hd i hi).1) (by decide)) b1 b2 b3 T ol oh hl hh p dp den W a b c e q
end Go.Proofs.Ytmndejpcpfkajaa
