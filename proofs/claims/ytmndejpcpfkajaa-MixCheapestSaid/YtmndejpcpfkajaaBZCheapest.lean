/-
  The law 'MixCheapest' returns true for every input, and leaves its input as it was. Conditions: none.
-/
import Derived.Test.YtmndejpcpfkajaaBPCheapest
namespace Go.Proofs.Ytmndejpcpfkajaa
open Go
theorem mixCheapest_said : Rows.MixCheapestSaid := overMixCheapest fun n d b1 b2 b3 T ol oh hl hh hn hd _ _ _ _ _ _ _ _ => lawCheapest n (Nat.le_trans hn (by decide)) d (fun i hi => Nat.le_trans ((hd i hi).1) (by decide)) b1 b2 b3 T ol oh hl hh
end Go.Proofs.Ytmndejpcpfkajaa
