/-
 The law 'TopFillMixed' returns true for every input, and leaves its input as it was. Conditions: none.
-/
import Derived.Test.YtmndejpcpfkajaaBPFillMixed
namespace Go.Proofs.Ytmndejpcpfkajaa
open Go
theorem topFillMixed_said : Rows.TopFillMixedSaid := overTopFillMixed fun n d b1 b2 b3 T ol oh hl hh p dp dn hn hd _ _ _ _ _ _ _ _ _ _ _ => lawFillMixed n (Nat.le_trans hn (by decide)) d (fun i hi => Nat.le_trans ((hd i hi).1) (by decide)) b1 b2 b3 T ol oh hl hh p dp dn
end Go.Proofs.Ytmndejpcpfkajaa
