/-
 One contract, or else another. Conditions: none.
-/
import Derived.Test.YtpfipoimpmlmoaaGreatDoorJSyY
namespace Go.Sy
open Go
def orC (a b:Ctr):Ctr:=fun off mem args=>match a off mem args with | some r=>some r | none=>b off mem args
theorem orC_ok {P:Program} {a b:Ctr} {f:FuncId} (ha:CtrOk P a f) (hb:CtrOk P b f):CtrOk P (orC a b) f:=by
 refine ⟨ha.1,fun B M ρ mem off args r hr=>?_⟩
 unfold orC at hr
 split at hr
 ·rename_i h;cases hr;exact ha.2 B M ρ mem off args _ h
 ·exact hb.2 B M ρ mem off args r hr
end Go.Sy
