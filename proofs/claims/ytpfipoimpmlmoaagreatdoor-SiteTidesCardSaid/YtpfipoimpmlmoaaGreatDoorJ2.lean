/-
 Contracts of functions: models, equations by the kernel, contracts. Conditions: none.
-/
import Derived.Test.YtpfipoimpmlmoaaGreatDoorJ1
import Derived.KernelRfl
namespace Go.Proofs.YtpfipoimpmlmoaaGreatDoor
open Go Go.Sy
noncomputable section
set_option linter.unusedVariables false
set_option linter.unusedSimpArgs false
set_option maxRecDepth 100000
set_option maxHeartbeats 2000000
attribute [local irreducible] Go.IntKind.wrap Int.tdiv Int.tmod Int.fdiv
open Go.Sy renaming tabOk_cons→tc,tabOk_nil→tn,cnd_need→cn,leaf_of→lf,cnd_gg→cg,cnd_gg2→ch,cond_f→cf,cond_t→ct,cnd_of→co,callOf→ca,roundOf→ro,cnd_not→nn,lams_cons→lc,lams_nil→ln,condT→cT,condF→cF,need1→n1,resOf→rs,and_l→al,and_r→ar,or_gg→og,ctr_of→cx,loop_blk→lb
open Go.IntKind renaming i64→Z
open Go.Sy.SV renaming int→V
open Go.Sy.Kd renaming int→W
/-! ### shotline/site.newCircle -/
def m62 :Dat :=
 (datS [V Z 0,V Z 0,V Z 100000000,V Z 100000000,V Z (m85 5000000000000000),V Z (m86 5000000000000000),V Z (m85 5000000000000000),V Z (m86 5000000000000000),V Z (m85 (Z.wrap ((Z.wrap (100000000+(m85 5000000000000000))) * 50000000))),V Z (m86 (Z.wrap ((Z.wrap (100000000+(m86 5000000000000000))) * 50000000))),V Z (m85 (Z.wrap ((Z.wrap (100000000 - (m86 5000000000000000))) * 50000000))),V Z (m86 (Z.wrap ((Z.wrap (100000000 - (m85 5000000000000000))) * 50000000))),V Z (m85 (Z.wrap ((Z.wrap (100000000+(m85 (Z.wrap ((Z.wrap (100000000+(m85 5000000000000000))) * 50000000))))) * 50000000))),V Z (m86 (Z.wrap ((Z.wrap (100000000+(m86 (Z.wrap ((Z.wrap (100000000+(m86 5000000000000000))) * 50000000))))) * 50000000))),V Z (m85 (Z.wrap ((Z.wrap (100000000 - (m86 (Z.wrap ((Z.wrap (100000000+(m86 5000000000000000))) * 50000000))))) * 50000000))),V Z (m86 (Z.wrap ((Z.wrap (100000000 - (m85 (Z.wrap ((Z.wrap (100000000+(m85 5000000000000000))) * 50000000))))) * 50000000))),V Z (m85 (Z.wrap ((Z.wrap (100000000+(m85 (Z.wrap ((Z.wrap (100000000+(m85 (Z.wrap ((Z.wrap (100000000+(m85 5000000000000000))) * 50000000))))) * 50000000))))) * 50000000))),V Z (m86 (Z.wrap ((Z.wrap (100000000+(m86 (Z.wrap ((Z.wrap (100000000+(m86 (Z.wrap ((Z.wrap (100000000+(m86 5000000000000000))) * 50000000))))) * 50000000))))) * 50000000))),V Z (m85 (Z.wrap ((Z.wrap (100000000 - (m86 (Z.wrap ((Z.wrap (100000000+(m86 (Z.wrap ((Z.wrap (100000000+(m86 5000000000000000))) * 50000000))))) * 50000000))))) * 50000000))),V Z (m86 (Z.wrap ((Z.wrap (100000000 - (m85 (Z.wrap ((Z.wrap (100000000+(m85 (Z.wrap ((Z.wrap (100000000+(m85 5000000000000000))) * 50000000))))) * 50000000))))) * 50000000))),V Z (m85 (Z.wrap ((Z.wrap (100000000+(m85 (Z.wrap ((Z.wrap (100000000+(m85 (Z.wrap ((Z.wrap (100000000+(m85 (Z.wrap ((Z.wrap (100000000+(m85 5000000000000000))) * 50000000))))) * 50000000))))) * 50000000))))) * 50000000))),V Z (m86 (Z.wrap ((Z.wrap (100000000+(m86 (Z.wrap ((Z.wrap (100000000+(m86 (Z.wrap ((Z.wrap (100000000+(m86 (Z.wrap ((Z.wrap (100000000+(m86 5000000000000000))) * 50000000))))) * 50000000))))) * 50000000))))) * 50000000))),V Z (m85 (Z.wrap ((Z.wrap (100000000 - (m86 (Z.wrap ((Z.wrap (100000000+(m86 (Z.wrap ((Z.wrap (100000000+(m86 (Z.wrap ((Z.wrap (100000000+(m86 5000000000000000))) * 50000000))))) * 50000000))))) * 50000000))))) * 50000000))),V Z (m86 (Z.wrap ((Z.wrap (100000000 - (m85 (Z.wrap ((Z.wrap (100000000+(m85 (Z.wrap ((Z.wrap (100000000+(m85 (Z.wrap ((Z.wrap (100000000+(m85 5000000000000000))) * 50000000))))) * 50000000))))) * 50000000))))) * 50000000))),V Z (m85 (Z.wrap ((Z.wrap (100000000+(m85 (Z.wrap ((Z.wrap (100000000+(m85 (Z.wrap ((Z.wrap (100000000+(m85 (Z.wrap ((Z.wrap (100000000+(m85 (Z.wrap ((Z.wrap (100000000+(m85 5000000000000000))) * 50000000))))) * 50000000))))) * 50000000))))) * 50000000))))) * 50000000))),V Z (m86 (Z.wrap ((Z.wrap (100000000+(m86 (Z.wrap ((Z.wrap (100000000+(m86 (Z.wrap ((Z.wrap (100000000+(m86 (Z.wrap ((Z.wrap (100000000+(m86 (Z.wrap ((Z.wrap (100000000+(m86 5000000000000000))) * 50000000))))) * 50000000))))) * 50000000))))) * 50000000))))) * 50000000))),V Z (m85 (Z.wrap ((Z.wrap (100000000 - (m86 (Z.wrap ((Z.wrap (100000000+(m86 (Z.wrap ((Z.wrap (100000000+(m86 (Z.wrap ((Z.wrap (100000000+(m86 (Z.wrap ((Z.wrap (100000000+(m86 5000000000000000))) * 50000000))))) * 50000000))))) * 50000000))))) * 50000000))))) * 50000000))),V Z (m86 (Z.wrap ((Z.wrap (100000000 - (m85 (Z.wrap ((Z.wrap (100000000+(m85 (Z.wrap ((Z.wrap (100000000+(m85 (Z.wrap ((Z.wrap (100000000+(m85 (Z.wrap ((Z.wrap (100000000+(m85 5000000000000000))) * 50000000))))) * 50000000))))) * 50000000))))) * 50000000))))) * 50000000))),V Z (m85 (Z.wrap ((Z.wrap (100000000+(m85 (Z.wrap ((Z.wrap (100000000+(m85 (Z.wrap ((Z.wrap (100000000+(m85 (Z.wrap ((Z.wrap (100000000+(m85 (Z.wrap ((Z.wrap (100000000+(m85 (Z.wrap ((Z.wrap (100000000+(m85 5000000000000000))) * 50000000))))) * 50000000))))) * 50000000))))) * 50000000))))) * 50000000))))) * 50000000))),V Z (m86 (Z.wrap ((Z.wrap (100000000+(m86 (Z.wrap ((Z.wrap (100000000+(m86 (Z.wrap ((Z.wrap (100000000+(m86 (Z.wrap ((Z.wrap (100000000+(m86 (Z.wrap ((Z.wrap (100000000+(m86 (Z.wrap ((Z.wrap (100000000+(m86 5000000000000000))) * 50000000))))) * 50000000))))) * 50000000))))) * 50000000))))) * 50000000))))) * 50000000))),V Z (m85 (Z.wrap ((Z.wrap (100000000 - (m86 (Z.wrap ((Z.wrap (100000000+(m86 (Z.wrap ((Z.wrap (100000000+(m86 (Z.wrap ((Z.wrap (100000000+(m86 (Z.wrap ((Z.wrap (100000000+(m86 (Z.wrap ((Z.wrap (100000000+(m86 5000000000000000))) * 50000000))))) * 50000000))))) * 50000000))))) * 50000000))))) * 50000000))))) * 50000000))),V Z (m86 (Z.wrap ((Z.wrap (100000000 - (m85 (Z.wrap ((Z.wrap (100000000+(m85 (Z.wrap ((Z.wrap (100000000+(m85 (Z.wrap ((Z.wrap (100000000+(m85 (Z.wrap ((Z.wrap (100000000+(m85 (Z.wrap ((Z.wrap (100000000+(m85 5000000000000000))) * 50000000))))) * 50000000))))) * 50000000))))) * 50000000))))) * 50000000))))) * 50000000))),V Z (m85 (Z.wrap ((Z.wrap (100000000+(m85 (Z.wrap ((Z.wrap (100000000+(m85 (Z.wrap ((Z.wrap (100000000+(m85 (Z.wrap ((Z.wrap (100000000+(m85 (Z.wrap ((Z.wrap (100000000+(m85 (Z.wrap ((Z.wrap (100000000+(m85 (Z.wrap ((Z.wrap (100000000+(m85 5000000000000000))) * 50000000))))) * 50000000))))) * 50000000))))) * 50000000))))) * 50000000))))) * 50000000))))) * 50000000))),V Z (m86 (Z.wrap ((Z.wrap (100000000+(m86 (Z.wrap ((Z.wrap (100000000+(m86 (Z.wrap ((Z.wrap (100000000+(m86 (Z.wrap ((Z.wrap (100000000+(m86 (Z.wrap ((Z.wrap (100000000+(m86 (Z.wrap ((Z.wrap (100000000+(m86 (Z.wrap ((Z.wrap (100000000+(m86 5000000000000000))) * 50000000))))) * 50000000))))) * 50000000))))) * 50000000))))) * 50000000))))) * 50000000))))) * 50000000))),V Z (m85 (Z.wrap ((Z.wrap (100000000 - (m86 (Z.wrap ((Z.wrap (100000000+(m86 (Z.wrap ((Z.wrap (100000000+(m86 (Z.wrap ((Z.wrap (100000000+(m86 (Z.wrap ((Z.wrap (100000000+(m86 (Z.wrap ((Z.wrap (100000000+(m86 (Z.wrap ((Z.wrap (100000000+(m86 5000000000000000))) * 50000000))))) * 50000000))))) * 50000000))))) * 50000000))))) * 50000000))))) * 50000000))))) * 50000000))),V Z (m86 (Z.wrap ((Z.wrap (100000000 - (m85 (Z.wrap ((Z.wrap (100000000+(m85 (Z.wrap ((Z.wrap (100000000+(m85 (Z.wrap ((Z.wrap (100000000+(m85 (Z.wrap ((Z.wrap (100000000+(m85 (Z.wrap ((Z.wrap (100000000+(m85 (Z.wrap ((Z.wrap (100000000+(m85 5000000000000000))) * 50000000))))) * 50000000))))) * 50000000))))) * 50000000))))) * 50000000))))) * 50000000))))) * 50000000))),V Z (m85 (Z.wrap ((Z.wrap (100000000+(m85 (Z.wrap ((Z.wrap (100000000+(m85 (Z.wrap ((Z.wrap (100000000+(m85 (Z.wrap ((Z.wrap (100000000+(m85 (Z.wrap ((Z.wrap (100000000+(m85 (Z.wrap ((Z.wrap (100000000+(m85 (Z.wrap ((Z.wrap (100000000+(m85 (Z.wrap ((Z.wrap (100000000+(m85 5000000000000000))) * 50000000))))) * 50000000))))) * 50000000))))) * 50000000))))) * 50000000))))) * 50000000))))) * 50000000))))) * 50000000))),V Z (m86 (Z.wrap ((Z.wrap (100000000+(m86 (Z.wrap ((Z.wrap (100000000+(m86 (Z.wrap ((Z.wrap (100000000+(m86 (Z.wrap ((Z.wrap (100000000+(m86 (Z.wrap ((Z.wrap (100000000+(m86 (Z.wrap ((Z.wrap (100000000+(m86 (Z.wrap ((Z.wrap (100000000+(m86 (Z.wrap ((Z.wrap (100000000+(m86 5000000000000000))) * 50000000))))) * 50000000))))) * 50000000))))) * 50000000))))) * 50000000))))) * 50000000))))) * 50000000))))) * 50000000))),V Z (m85 (Z.wrap ((Z.wrap (100000000 - (m86 (Z.wrap ((Z.wrap (100000000+(m86 (Z.wrap ((Z.wrap (100000000+(m86 (Z.wrap ((Z.wrap (100000000+(m86 (Z.wrap ((Z.wrap (100000000+(m86 (Z.wrap ((Z.wrap (100000000+(m86 (Z.wrap ((Z.wrap (100000000+(m86 (Z.wrap ((Z.wrap (100000000+(m86 5000000000000000))) * 50000000))))) * 50000000))))) * 50000000))))) * 50000000))))) * 50000000))))) * 50000000))))) * 50000000))))) * 50000000))),V Z (m86 (Z.wrap ((Z.wrap (100000000 - (m85 (Z.wrap ((Z.wrap (100000000+(m85 (Z.wrap ((Z.wrap (100000000+(m85 (Z.wrap ((Z.wrap (100000000+(m85 (Z.wrap ((Z.wrap (100000000+(m85 (Z.wrap ((Z.wrap (100000000+(m85 (Z.wrap ((Z.wrap (100000000+(m85 (Z.wrap ((Z.wrap (100000000+(m85 5000000000000000))) * 50000000))))) * 50000000))))) * 50000000))))) * 50000000))))) * 50000000))))) * 50000000))))) * 50000000))))) * 50000000))),V Z (m85 (Z.wrap ((Z.wrap (100000000+(m85 (Z.wrap ((Z.wrap (100000000+(m85 (Z.wrap ((Z.wrap (100000000+(m85 (Z.wrap ((Z.wrap (100000000+(m85 (Z.wrap ((Z.wrap (100000000+(m85 (Z.wrap ((Z.wrap (100000000+(m85 (Z.wrap ((Z.wrap (100000000+(m85 (Z.wrap ((Z.wrap (100000000+(m85 (Z.wrap ((Z.wrap (100000000+(m85 5000000000000000))) * 50000000))))) * 50000000))))) * 50000000))))) * 50000000))))) * 50000000))))) * 50000000))))) * 50000000))))) * 50000000))))) * 50000000))),V Z (m86 (Z.wrap ((Z.wrap (100000000+(m86 (Z.wrap ((Z.wrap (100000000+(m86 (Z.wrap ((Z.wrap (100000000+(m86 (Z.wrap ((Z.wrap (100000000+(m86 (Z.wrap ((Z.wrap (100000000+(m86 (Z.wrap ((Z.wrap (100000000+(m86 (Z.wrap ((Z.wrap (100000000+(m86 (Z.wrap ((Z.wrap (100000000+(m86 (Z.wrap ((Z.wrap (100000000+(m86 5000000000000000))) * 50000000))))) * 50000000))))) * 50000000))))) * 50000000))))) * 50000000))))) * 50000000))))) * 50000000))))) * 50000000))))) * 50000000))),V Z (m85 (Z.wrap ((Z.wrap (100000000 - (m86 (Z.wrap ((Z.wrap (100000000+(m86 (Z.wrap ((Z.wrap (100000000+(m86 (Z.wrap ((Z.wrap (100000000+(m86 (Z.wrap ((Z.wrap (100000000+(m86 (Z.wrap ((Z.wrap (100000000+(m86 (Z.wrap ((Z.wrap (100000000+(m86 (Z.wrap ((Z.wrap (100000000+(m86 (Z.wrap ((Z.wrap (100000000+(m86 5000000000000000))) * 50000000))))) * 50000000))))) * 50000000))))) * 50000000))))) * 50000000))))) * 50000000))))) * 50000000))))) * 50000000))))) * 50000000))),V Z (m86 (Z.wrap ((Z.wrap (100000000 - (m85 (Z.wrap ((Z.wrap (100000000+(m85 (Z.wrap ((Z.wrap (100000000+(m85 (Z.wrap ((Z.wrap (100000000+(m85 (Z.wrap ((Z.wrap (100000000+(m85 (Z.wrap ((Z.wrap (100000000+(m85 (Z.wrap ((Z.wrap (100000000+(m85 (Z.wrap ((Z.wrap (100000000+(m85 (Z.wrap ((Z.wrap (100000000+(m85 5000000000000000))) * 50000000))))) * 50000000))))) * 50000000))))) * 50000000))))) * 50000000))))) * 50000000))))) * 50000000))))) * 50000000))))) * 50000000)))] 4)
def n62 :Bool :=
 ((n85 5000000000000000)&&((n86 5000000000000000)&&((n85 5000000000000000)&&((n86 5000000000000000)&&((n85 (Z.wrap ((Z.wrap (100000000+(m85 5000000000000000))) * 50000000)))&&((n86 (Z.wrap ((Z.wrap (100000000+(m86 5000000000000000))) * 50000000)))&&((n85 (Z.wrap ((Z.wrap (100000000 - (m86 5000000000000000))) * 50000000)))&&((n86 (Z.wrap ((Z.wrap (100000000 - (m85 5000000000000000))) * 50000000)))&&((n85 (Z.wrap ((Z.wrap (100000000+(m85 (Z.wrap ((Z.wrap (100000000+(m85 5000000000000000))) * 50000000))))) * 50000000)))&&((n86 (Z.wrap ((Z.wrap (100000000+(m86 (Z.wrap ((Z.wrap (100000000+(m86 5000000000000000))) * 50000000))))) * 50000000)))&&((n85 (Z.wrap ((Z.wrap (100000000 - (m86 (Z.wrap ((Z.wrap (100000000+(m86 5000000000000000))) * 50000000))))) * 50000000)))&&((n86 (Z.wrap ((Z.wrap (100000000 - (m85 (Z.wrap ((Z.wrap (100000000+(m85 5000000000000000))) * 50000000))))) * 50000000)))&&((n85 (Z.wrap ((Z.wrap (100000000+(m85 (Z.wrap ((Z.wrap (100000000+(m85 (Z.wrap ((Z.wrap (100000000+(m85 5000000000000000))) * 50000000))))) * 50000000))))) * 50000000)))&&((n86 (Z.wrap ((Z.wrap (100000000+(m86 (Z.wrap ((Z.wrap (100000000+(m86 (Z.wrap ((Z.wrap (100000000+(m86 5000000000000000))) * 50000000))))) * 50000000))))) * 50000000)))&&((n85 (Z.wrap ((Z.wrap (100000000 - (m86 (Z.wrap ((Z.wrap (100000000+(m86 (Z.wrap ((Z.wrap (100000000+(m86 5000000000000000))) * 50000000))))) * 50000000))))) * 50000000)))&&((n86 (Z.wrap ((Z.wrap (100000000 - (m85 (Z.wrap ((Z.wrap (100000000+(m85 (Z.wrap ((Z.wrap (100000000+(m85 5000000000000000))) * 50000000))))) * 50000000))))) * 50000000)))&&((n85 (Z.wrap ((Z.wrap (100000000+(m85 (Z.wrap ((Z.wrap (100000000+(m85 (Z.wrap ((Z.wrap (100000000+(m85 (Z.wrap ((Z.wrap (100000000+(m85 5000000000000000))) * 50000000))))) * 50000000))))) * 50000000))))) * 50000000)))&&((n86 (Z.wrap ((Z.wrap (100000000+(m86 (Z.wrap ((Z.wrap (100000000+(m86 (Z.wrap ((Z.wrap (100000000+(m86 (Z.wrap ((Z.wrap (100000000+(m86 5000000000000000))) * 50000000))))) * 50000000))))) * 50000000))))) * 50000000)))&&((n85 (Z.wrap ((Z.wrap (100000000 - (m86 (Z.wrap ((Z.wrap (100000000+(m86 (Z.wrap ((Z.wrap (100000000+(m86 (Z.wrap ((Z.wrap (100000000+(m86 5000000000000000))) * 50000000))))) * 50000000))))) * 50000000))))) * 50000000)))&&((n86 (Z.wrap ((Z.wrap (100000000 - (m85 (Z.wrap ((Z.wrap (100000000+(m85 (Z.wrap ((Z.wrap (100000000+(m85 (Z.wrap ((Z.wrap (100000000+(m85 5000000000000000))) * 50000000))))) * 50000000))))) * 50000000))))) * 50000000)))&&((n85 (Z.wrap ((Z.wrap (100000000+(m85 (Z.wrap ((Z.wrap (100000000+(m85 (Z.wrap ((Z.wrap (100000000+(m85 (Z.wrap ((Z.wrap (100000000+(m85 (Z.wrap ((Z.wrap (100000000+(m85 5000000000000000))) * 50000000))))) * 50000000))))) * 50000000))))) * 50000000))))) * 50000000)))&&((n86 (Z.wrap ((Z.wrap (100000000+(m86 (Z.wrap ((Z.wrap (100000000+(m86 (Z.wrap ((Z.wrap (100000000+(m86 (Z.wrap ((Z.wrap (100000000+(m86 (Z.wrap ((Z.wrap (100000000+(m86 5000000000000000))) * 50000000))))) * 50000000))))) * 50000000))))) * 50000000))))) * 50000000)))&&((n85 (Z.wrap ((Z.wrap (100000000 - (m86 (Z.wrap ((Z.wrap (100000000+(m86 (Z.wrap ((Z.wrap (100000000+(m86 (Z.wrap ((Z.wrap (100000000+(m86 (Z.wrap ((Z.wrap (100000000+(m86 5000000000000000))) * 50000000))))) * 50000000))))) * 50000000))))) * 50000000))))) * 50000000)))&&((n86 (Z.wrap ((Z.wrap (100000000 - (m85 (Z.wrap ((Z.wrap (100000000+(m85 (Z.wrap ((Z.wrap (100000000+(m85 (Z.wrap ((Z.wrap (100000000+(m85 (Z.wrap ((Z.wrap (100000000+(m85 5000000000000000))) * 50000000))))) * 50000000))))) * 50000000))))) * 50000000))))) * 50000000)))&&((n85 (Z.wrap ((Z.wrap (100000000+(m85 (Z.wrap ((Z.wrap (100000000+(m85 (Z.wrap ((Z.wrap (100000000+(m85 (Z.wrap ((Z.wrap (100000000+(m85 (Z.wrap ((Z.wrap (100000000+(m85 (Z.wrap ((Z.wrap (100000000+(m85 5000000000000000))) * 50000000))))) * 50000000))))) * 50000000))))) * 50000000))))) * 50000000))))) * 50000000)))&&((n86 (Z.wrap ((Z.wrap (100000000+(m86 (Z.wrap ((Z.wrap (100000000+(m86 (Z.wrap ((Z.wrap (100000000+(m86 (Z.wrap ((Z.wrap (100000000+(m86 (Z.wrap ((Z.wrap (100000000+(m86 (Z.wrap ((Z.wrap (100000000+(m86 5000000000000000))) * 50000000))))) * 50000000))))) * 50000000))))) * 50000000))))) * 50000000))))) * 50000000)))&&((n85 (Z.wrap ((Z.wrap (100000000 - (m86 (Z.wrap ((Z.wrap (100000000+(m86 (Z.wrap ((Z.wrap (100000000+(m86 (Z.wrap ((Z.wrap (100000000+(m86 (Z.wrap ((Z.wrap (100000000+(m86 (Z.wrap ((Z.wrap (100000000+(m86 5000000000000000))) * 50000000))))) * 50000000))))) * 50000000))))) * 50000000))))) * 50000000))))) * 50000000)))&&((n86 (Z.wrap ((Z.wrap (100000000 - (m85 (Z.wrap ((Z.wrap (100000000+(m85 (Z.wrap ((Z.wrap (100000000+(m85 (Z.wrap ((Z.wrap (100000000+(m85 (Z.wrap ((Z.wrap (100000000+(m85 (Z.wrap ((Z.wrap (100000000+(m85 5000000000000000))) * 50000000))))) * 50000000))))) * 50000000))))) * 50000000))))) * 50000000))))) * 50000000)))&&((n85 (Z.wrap ((Z.wrap (100000000+(m85 (Z.wrap ((Z.wrap (100000000+(m85 (Z.wrap ((Z.wrap (100000000+(m85 (Z.wrap ((Z.wrap (100000000+(m85 (Z.wrap ((Z.wrap (100000000+(m85 (Z.wrap ((Z.wrap (100000000+(m85 (Z.wrap ((Z.wrap (100000000+(m85 5000000000000000))) * 50000000))))) * 50000000))))) * 50000000))))) * 50000000))))) * 50000000))))) * 50000000))))) * 50000000)))&&((n86 (Z.wrap ((Z.wrap (100000000+(m86 (Z.wrap ((Z.wrap (100000000+(m86 (Z.wrap ((Z.wrap (100000000+(m86 (Z.wrap ((Z.wrap (100000000+(m86 (Z.wrap ((Z.wrap (100000000+(m86 (Z.wrap ((Z.wrap (100000000+(m86 (Z.wrap ((Z.wrap (100000000+(m86 5000000000000000))) * 50000000))))) * 50000000))))) * 50000000))))) * 50000000))))) * 50000000))))) * 50000000))))) * 50000000)))&&((n85 (Z.wrap ((Z.wrap (100000000 - (m86 (Z.wrap ((Z.wrap (100000000+(m86 (Z.wrap ((Z.wrap (100000000+(m86 (Z.wrap ((Z.wrap (100000000+(m86 (Z.wrap ((Z.wrap (100000000+(m86 (Z.wrap ((Z.wrap (100000000+(m86 (Z.wrap ((Z.wrap (100000000+(m86 5000000000000000))) * 50000000))))) * 50000000))))) * 50000000))))) * 50000000))))) * 50000000))))) * 50000000))))) * 50000000)))&&((n86 (Z.wrap ((Z.wrap (100000000 - (m85 (Z.wrap ((Z.wrap (100000000+(m85 (Z.wrap ((Z.wrap (100000000+(m85 (Z.wrap ((Z.wrap (100000000+(m85 (Z.wrap ((Z.wrap (100000000+(m85 (Z.wrap ((Z.wrap (100000000+(m85 (Z.wrap ((Z.wrap (100000000+(m85 5000000000000000))) * 50000000))))) * 50000000))))) * 50000000))))) * 50000000))))) * 50000000))))) * 50000000))))) * 50000000)))&&((n85 (Z.wrap ((Z.wrap (100000000+(m85 (Z.wrap ((Z.wrap (100000000+(m85 (Z.wrap ((Z.wrap (100000000+(m85 (Z.wrap ((Z.wrap (100000000+(m85 (Z.wrap ((Z.wrap (100000000+(m85 (Z.wrap ((Z.wrap (100000000+(m85 (Z.wrap ((Z.wrap (100000000+(m85 (Z.wrap ((Z.wrap (100000000+(m85 5000000000000000))) * 50000000))))) * 50000000))))) * 50000000))))) * 50000000))))) * 50000000))))) * 50000000))))) * 50000000))))) * 50000000)))&&((n86 (Z.wrap ((Z.wrap (100000000+(m86 (Z.wrap ((Z.wrap (100000000+(m86 (Z.wrap ((Z.wrap (100000000+(m86 (Z.wrap ((Z.wrap (100000000+(m86 (Z.wrap ((Z.wrap (100000000+(m86 (Z.wrap ((Z.wrap (100000000+(m86 (Z.wrap ((Z.wrap (100000000+(m86 (Z.wrap ((Z.wrap (100000000+(m86 5000000000000000))) * 50000000))))) * 50000000))))) * 50000000))))) * 50000000))))) * 50000000))))) * 50000000))))) * 50000000))))) * 50000000)))&&((n85 (Z.wrap ((Z.wrap (100000000 - (m86 (Z.wrap ((Z.wrap (100000000+(m86 (Z.wrap ((Z.wrap (100000000+(m86 (Z.wrap ((Z.wrap (100000000+(m86 (Z.wrap ((Z.wrap (100000000+(m86 (Z.wrap ((Z.wrap (100000000+(m86 (Z.wrap ((Z.wrap (100000000+(m86 (Z.wrap ((Z.wrap (100000000+(m86 5000000000000000))) * 50000000))))) * 50000000))))) * 50000000))))) * 50000000))))) * 50000000))))) * 50000000))))) * 50000000))))) * 50000000)))&&((n86 (Z.wrap ((Z.wrap (100000000 - (m85 (Z.wrap ((Z.wrap (100000000+(m85 (Z.wrap ((Z.wrap (100000000+(m85 (Z.wrap ((Z.wrap (100000000+(m85 (Z.wrap ((Z.wrap (100000000+(m85 (Z.wrap ((Z.wrap (100000000+(m85 (Z.wrap ((Z.wrap (100000000+(m85 (Z.wrap ((Z.wrap (100000000+(m85 5000000000000000))) * 50000000))))) * 50000000))))) * 50000000))))) * 50000000))))) * 50000000))))) * 50000000))))) * 50000000))))) * 50000000)))&&((n85 (Z.wrap ((Z.wrap (100000000+(m85 (Z.wrap ((Z.wrap (100000000+(m85 (Z.wrap ((Z.wrap (100000000+(m85 (Z.wrap ((Z.wrap (100000000+(m85 (Z.wrap ((Z.wrap (100000000+(m85 (Z.wrap ((Z.wrap (100000000+(m85 (Z.wrap ((Z.wrap (100000000+(m85 (Z.wrap ((Z.wrap (100000000+(m85 (Z.wrap ((Z.wrap (100000000+(m85 5000000000000000))) * 50000000))))) * 50000000))))) * 50000000))))) * 50000000))))) * 50000000))))) * 50000000))))) * 50000000))))) * 50000000))))) * 50000000)))&&((n86 (Z.wrap ((Z.wrap (100000000+(m86 (Z.wrap ((Z.wrap (100000000+(m86 (Z.wrap ((Z.wrap (100000000+(m86 (Z.wrap ((Z.wrap (100000000+(m86 (Z.wrap ((Z.wrap (100000000+(m86 (Z.wrap ((Z.wrap (100000000+(m86 (Z.wrap ((Z.wrap (100000000+(m86 (Z.wrap ((Z.wrap (100000000+(m86 (Z.wrap ((Z.wrap (100000000+(m86 5000000000000000))) * 50000000))))) * 50000000))))) * 50000000))))) * 50000000))))) * 50000000))))) * 50000000))))) * 50000000))))) * 50000000))))) * 50000000)))&&((n85 (Z.wrap ((Z.wrap (100000000 - (m86 (Z.wrap ((Z.wrap (100000000+(m86 (Z.wrap ((Z.wrap (100000000+(m86 (Z.wrap ((Z.wrap (100000000+(m86 (Z.wrap ((Z.wrap (100000000+(m86 (Z.wrap ((Z.wrap (100000000+(m86 (Z.wrap ((Z.wrap (100000000+(m86 (Z.wrap ((Z.wrap (100000000+(m86 (Z.wrap ((Z.wrap (100000000+(m86 5000000000000000))) * 50000000))))) * 50000000))))) * 50000000))))) * 50000000))))) * 50000000))))) * 50000000))))) * 50000000))))) * 50000000))))) * 50000000)))&&((n86 (Z.wrap ((Z.wrap (100000000 - (m85 (Z.wrap ((Z.wrap (100000000+(m85 (Z.wrap ((Z.wrap (100000000+(m85 (Z.wrap ((Z.wrap (100000000+(m85 (Z.wrap ((Z.wrap (100000000+(m85 (Z.wrap ((Z.wrap (100000000+(m85 (Z.wrap ((Z.wrap (100000000+(m85 (Z.wrap ((Z.wrap (100000000+(m85 (Z.wrap ((Z.wrap (100000000+(m85 5000000000000000))) * 50000000))))) * 50000000))))) * 50000000))))) * 50000000))))) * 50000000))))) * 50000000))))) * 50000000))))) * 50000000))))) * 50000000)))&&true))))))))))))))))))))))))))))))))))))))))
def q62 (r:Dat):SV × List Blk × List Blk:=(.ra [W Z,W Z,W Z,W Z] 11 r,[],[])
def g62:GF:=fun vs bs=>match vs,bs with
 | [],[]=>some (rs 0 (q62 (m62)) [n62 ])
 | _,_=>none
def c62:Ctr:=genC [] g62
theorem k62:CtrOk Tryz.prog c62 62:=cx (tc k85 (tc k86 tn)) mix_ok 24 (fn:=Tryz.f62) (c:=(Tryz.f62.body.getD .skip)) (grs:=[]) (rh:=.ra [W Z,W Z,W Z,W Z] 11) Tryz.func62 rfl (by kernel_rfl) noLam fun vs bs q h hn=>by
 unfold g62 at h
 split at h <;> cases h
 have hn:=n1 hn
 exact ⟨_,rfl,ca (fun R => 
 let k0:=(Z.wrap ((Z.wrap (100000000+(m85 5000000000000000))) * 50000000))
 let e0:=(Z.wrap ((Z.wrap (100000000+(m85 k0))) * 50000000))
 let m0:=(Z.wrap ((Z.wrap (100000000+(m85 e0))) * 50000000))
 let a0:=(Z.wrap ((Z.wrap (100000000+(m85 m0))) * 50000000))
 let l0:=(Z.wrap ((Z.wrap (100000000+(m86 5000000000000000))) * 50000000))
 let f0:=(Z.wrap ((Z.wrap (100000000+(m86 l0))) * 50000000))
 let n0:=(Z.wrap ((Z.wrap (100000000+(m86 f0))) * 50000000))
 let b0:=(Z.wrap ((Z.wrap (100000000+(m86 n0))) * 50000000))
 let g0:=(Z.wrap ((Z.wrap (100000000+(m85 a0))) * 50000000))
 let o0:=(Z.wrap ((Z.wrap (100000000+(m85 g0))) * 50000000))
 let c0:=(Z.wrap ((Z.wrap (100000000+(m85 o0))) * 50000000))
 let h0:=(Z.wrap ((Z.wrap (100000000+(m86 b0))) * 50000000))
 let p0:=(Z.wrap ((Z.wrap (100000000+(m86 h0))) * 50000000))
 let d0:=(Z.wrap ((Z.wrap (100000000+(m86 p0))) * 50000000))
 let i0:=(Z.wrap ((Z.wrap (100000000+(m85 c0))) * 50000000))
 let j0:=(Z.wrap ((Z.wrap (100000000+(m86 d0))) * 50000000))
 let q0:=(Z.wrap ((Z.wrap (100000000 - (m86 5000000000000000))) * 50000000))
 let r0:=(Z.wrap ((Z.wrap (100000000 - (m85 5000000000000000))) * 50000000))
 let s0:=(Z.wrap ((Z.wrap (100000000 - (m86 l0))) * 50000000))
 let t0:=(Z.wrap ((Z.wrap (100000000 - (m85 k0))) * 50000000))
 let u0:=(Z.wrap ((Z.wrap (100000000 - (m86 f0))) * 50000000))
 let v0:=(Z.wrap ((Z.wrap (100000000 - (m85 e0))) * 50000000))
 let w0:=(Z.wrap ((Z.wrap (100000000 - (m86 n0))) * 50000000))
 let x0:=(Z.wrap ((Z.wrap (100000000 - (m85 m0))) * 50000000))
 let y0:=(Z.wrap ((Z.wrap (100000000 - (m86 b0))) * 50000000))
 let z0:=(Z.wrap ((Z.wrap (100000000 - (m85 a0))) * 50000000))
 let a1:=(Z.wrap ((Z.wrap (100000000 - (m86 h0))) * 50000000))
 let b1:=(Z.wrap ((Z.wrap (100000000 - (m85 g0))) * 50000000))
 let c1:=(Z.wrap ((Z.wrap (100000000 - (m86 p0))) * 50000000))
 let d1:=(Z.wrap ((Z.wrap (100000000 - (m85 o0))) * 50000000))
 let e1:=(Z.wrap ((Z.wrap (100000000 - (m86 d0))) * 50000000))
 let f1:=(Z.wrap ((Z.wrap (100000000 - (m85 c0))) * 50000000))
 let g1:=(Z.wrap ((Z.wrap (100000000+(m85 i0))) * 50000000))
 let h1:=(Z.wrap ((Z.wrap (100000000+(m86 j0))) * 50000000))
 let i1:=(Z.wrap ((Z.wrap (100000000 - (m86 j0))) * 50000000))
 let j1:=(Z.wrap ((Z.wrap (100000000 - (m85 i0))) * 50000000))
 (cnd (n85 5000000000000000)
 (cnd (n86 5000000000000000)
 (cnd (n85 5000000000000000)
 (cnd (n86 5000000000000000)
 (cnd (n85 k0)
 (cnd (n86 l0)
 (cnd (n85 q0)
 (cnd (n86 r0)
 (cnd (n85 e0)
 (cnd (n86 f0)
 (cnd (n85 s0)
 (cnd (n86 t0)
 (cnd (n85 m0)
 (cnd (n86 n0)
 (cnd (n85 u0)
 (cnd (n86 v0)
 (cnd (n85 a0)
 (cnd (n86 b0)
 (cnd (n85 w0)
 (cnd (n86 x0)
 (cnd (n85 g0)
 (cnd (n86 h0)
 (cnd (n85 y0)
 (cnd (n86 z0)
 (cnd (n85 o0)
 (cnd (n86 p0)
 (cnd (n85 a1)
 (cnd (n86 b1)
 (cnd (n85 c0)
 (cnd (n86 d0)
 (cnd (n85 c1)
 (cnd (n86 d1)
 (cnd (n85 i0)
 (cnd (n86 j0)
 (cnd (n85 e1)
 (cnd (n86 f1)
 (cnd (n85 g1)
 (cnd (n86 h1)
 (cnd (n85 i1)
 (cnd (n86 j1)
 (R (.ra [W Z,W Z,W Z,W Z] 11 (datS [V Z 0,V Z 0,V Z 100000000,V Z 100000000,V Z (m85 5000000000000000),V Z (m86 5000000000000000),V Z (m85 5000000000000000),V Z (m86 5000000000000000),V Z (m85 k0),V Z (m86 l0),V Z (m85 q0),V Z (m86 r0),V Z (m85 e0),V Z (m86 f0),V Z (m85 s0),V Z (m86 t0),V Z (m85 m0),V Z (m86 n0),V Z (m85 u0),V Z (m86 v0),V Z (m85 a0),V Z (m86 b0),V Z (m85 w0),V Z (m86 x0),V Z (m85 g0),V Z (m86 h0),V Z (m85 y0),V Z (m86 z0),V Z (m85 o0),V Z (m86 p0),V Z (m85 a1),V Z (m86 b1),V Z (m85 c0),V Z (m86 d0),V Z (m85 c1),V Z (m86 d1),V Z (m85 i0),V Z (m86 j0),V Z (m85 e1),V Z (m86 f1),V Z (m85 g1),V Z (m86 h1),V Z (m85 i1),V Z (m86 j1)] 4)) [] [])
                     False)
                    False)
                    False)
                   False)
                   False)
                  False)
                  False)
                 False)
                 False)
                False)
                False)
               False)
               False)
              False)
              False)
             False)
             False)
            False)
            False)
           False)
           False)
          False)
          False)
         False)
         False)
        False)
        False)
       False)
       False)
      False)
      False)
     False)
     False)
    False)
    False)
   False)
   False)
  False)
  False)
 False)) (fun R=>by kernel_rfl) (cn (al hn) (cn (al (ar hn)) (cn (al (ar (ar hn))) (cn (al (ar (ar (ar hn)))) (cn (al (ar (ar (ar (ar hn))))) (cn (al (ar (ar (ar (ar (ar hn)))))) (cn (al (ar (ar (ar (ar (ar (ar hn))))))) (cn (al (ar (ar (ar (ar (ar (ar (ar hn)))))))) (cn (al (ar (ar (ar (ar (ar (ar (ar (ar hn))))))))) (cn (al (ar (ar (ar (ar (ar (ar (ar (ar (ar hn)))))))))) (cn (al (ar (ar (ar (ar (ar (ar (ar (ar (ar (ar hn))))))))))) (cn (al (ar (ar (ar (ar (ar (ar (ar (ar (ar (ar (ar hn)))))))))))) (cn (al (ar (ar (ar (ar (ar (ar (ar (ar (ar (ar (ar (ar hn))))))))))))) (cn (al (ar (ar (ar (ar (ar (ar (ar (ar (ar (ar (ar (ar (ar hn)))))))))))))) (cn (al (ar (ar (ar (ar (ar (ar (ar (ar (ar (ar (ar (ar (ar (ar hn))))))))))))))) (cn (al (ar (ar (ar (ar (ar (ar (ar (ar (ar (ar (ar (ar (ar (ar (ar hn)))))))))))))))) (cn (al (ar (ar (ar (ar (ar (ar (ar (ar (ar (ar (ar (ar (ar (ar (ar (ar hn))))))))))))))))) (cn (al (ar (ar (ar (ar (ar (ar (ar (ar (ar (ar (ar (ar (ar (ar (ar (ar (ar hn)))))))))))))))))) (cn (al (ar (ar (ar (ar (ar (ar (ar (ar (ar (ar (ar (ar (ar (ar (ar (ar (ar (ar hn))))))))))))))))))) (cn (al (ar (ar (ar (ar (ar (ar (ar (ar (ar (ar (ar (ar (ar (ar (ar (ar (ar (ar (ar hn)))))))))))))))))))) (cn (al (ar (ar (ar (ar (ar (ar (ar (ar (ar (ar (ar (ar (ar (ar (ar (ar (ar (ar (ar (ar hn))))))))))))))))))))) (cn (al (ar (ar (ar (ar (ar (ar (ar (ar (ar (ar (ar (ar (ar (ar (ar (ar (ar (ar (ar (ar (ar hn)))))))))))))))))))))) (cn (al (ar (ar (ar (ar (ar (ar (ar (ar (ar (ar (ar (ar (ar (ar (ar (ar (ar (ar (ar (ar (ar (ar hn))))))))))))))))))))))) (cn (al (ar (ar (ar (ar (ar (ar (ar (ar (ar (ar (ar (ar (ar (ar (ar (ar (ar (ar (ar (ar (ar (ar (ar hn)))))))))))))))))))))))) (cn (al (ar (ar (ar (ar (ar (ar (ar (ar (ar (ar (ar (ar (ar (ar (ar (ar (ar (ar (ar (ar (ar (ar (ar (ar hn))))))))))))))))))))))))) (cn (al (ar (ar (ar (ar (ar (ar (ar (ar (ar (ar (ar (ar (ar (ar (ar (ar (ar (ar (ar (ar (ar (ar (ar (ar (ar hn)))))))))))))))))))))))))) (cn (al (ar (ar (ar (ar (ar (ar (ar (ar (ar (ar (ar (ar (ar (ar (ar (ar (ar (ar (ar (ar (ar (ar (ar (ar (ar (ar hn))))))))))))))))))))))))))) (cn (al (ar (ar (ar (ar (ar (ar (ar (ar (ar (ar (ar (ar (ar (ar (ar (ar (ar (ar (ar (ar (ar (ar (ar (ar (ar (ar (ar hn)))))))))))))))))))))))))))) (cn (al (ar (ar (ar (ar (ar (ar (ar (ar (ar (ar (ar (ar (ar (ar (ar (ar (ar (ar (ar (ar (ar (ar (ar (ar (ar (ar (ar (ar hn))))))))))))))))))))))))))))) (cn (al (ar (ar (ar (ar (ar (ar (ar (ar (ar (ar (ar (ar (ar (ar (ar (ar (ar (ar (ar (ar (ar (ar (ar (ar (ar (ar (ar (ar (ar hn)))))))))))))))))))))))))))))) (cn (al (ar (ar (ar (ar (ar (ar (ar (ar (ar (ar (ar (ar (ar (ar (ar (ar (ar (ar (ar (ar (ar (ar (ar (ar (ar (ar (ar (ar (ar (ar hn))))))))))))))))))))))))))))))) (cn (al (ar (ar (ar (ar (ar (ar (ar (ar (ar (ar (ar (ar (ar (ar (ar (ar (ar (ar (ar (ar (ar (ar (ar (ar (ar (ar (ar (ar (ar (ar (ar hn)))))))))))))))))))))))))))))))) (cn (al (ar (ar (ar (ar (ar (ar (ar (ar (ar (ar (ar (ar (ar (ar (ar (ar (ar (ar (ar (ar (ar (ar (ar (ar (ar (ar (ar (ar (ar (ar (ar (ar hn))))))))))))))))))))))))))))))))) (cn (al (ar (ar (ar (ar (ar (ar (ar (ar (ar (ar (ar (ar (ar (ar (ar (ar (ar (ar (ar (ar (ar (ar (ar (ar (ar (ar (ar (ar (ar (ar (ar (ar (ar hn)))))))))))))))))))))))))))))))))) (cn (al (ar (ar (ar (ar (ar (ar (ar (ar (ar (ar (ar (ar (ar (ar (ar (ar (ar (ar (ar (ar (ar (ar (ar (ar (ar (ar (ar (ar (ar (ar (ar (ar (ar (ar hn))))))))))))))))))))))))))))))))))) (cn (al (ar (ar (ar (ar (ar (ar (ar (ar (ar (ar (ar (ar (ar (ar (ar (ar (ar (ar (ar (ar (ar (ar (ar (ar (ar (ar (ar (ar (ar (ar (ar (ar (ar (ar (ar hn)))))))))))))))))))))))))))))))))))) (cn (al (ar (ar (ar (ar (ar (ar (ar (ar (ar (ar (ar (ar (ar (ar (ar (ar (ar (ar (ar (ar (ar (ar (ar (ar (ar (ar (ar (ar (ar (ar (ar (ar (ar (ar (ar (ar hn))))))))))))))))))))))))))))))))))))) (cn (al (ar (ar (ar (ar (ar (ar (ar (ar (ar (ar (ar (ar (ar (ar (ar (ar (ar (ar (ar (ar (ar (ar (ar (ar (ar (ar (ar (ar (ar (ar (ar (ar (ar (ar (ar (ar (ar hn)))))))))))))))))))))))))))))))))))))) (cn (al (ar (ar (ar (ar (ar (ar (ar (ar (ar (ar (ar (ar (ar (ar (ar (ar (ar (ar (ar (ar (ar (ar (ar (ar (ar (ar (ar (ar (ar (ar (ar (ar (ar (ar (ar (ar (ar (ar hn))))))))))))))))))))))))))))))))))))))) (cn (al (ar (ar (ar (ar (ar (ar (ar (ar (ar (ar (ar (ar (ar (ar (ar (ar (ar (ar (ar (ar (ar (ar (ar (ar (ar (ar (ar (ar (ar (ar (ar (ar (ar (ar (ar (ar (ar (ar (ar hn)))))))))))))))))))))))))))))))))))))))) (lf rfl rfl)))))))))))))))))))))))))))))))))))))))))⟩

/-! ### shotline/site.tideOf -/
theorem x36 (e:Int) (b:Nat) (d:Dat) (R:SV→List Blk→List Blk→Prop):exec Tryz.prog [(62,c62),(9,c9)] (fun _=>none) 8 (Tryz.f36.body.getD .skip) (initS Tryz.f36.ntmps [.agg [V Z e,.ro [W Z,W Z,W Z] b d]] 0 (memOf [])) (retK Tryz.prog Tryz.f36.results.toList (outK 0 (List.range 0) [] (.k) fun v U N=>R v U N)) =
 (cnd (n9 e b d)
 (cnd (bif (decide ((m9 e b d)=0)) then false else true)
 (R (.tup [.val (Value.pointer none),V Z (m9 e b d)]) [] [])
 (cnd (n62)
 (R (.tup [.ptr 0 0,V Z 0]) [] [.cells 123 [V Z e,.ro [W Z,W Z,W Z] b d,.ra [W Z,W Z,W Z,W Z] 11 m62]])
  False))
 False):=by kernel_rfl
def m36a (e:Int) (b:Nat) (d:Dat):Int :=
 (m9 e b d)
def n36a (e:Int) (b:Nat) (d:Dat):Bool :=
 ((n9 e b d)&&((bif (decide ((m9 e b d)=0)) then false else true)&&true))
def q36a (r:Int):SV × List Blk × List Blk:=(.tup [.val (Value.pointer none),V Z r],[],[])
def g36a:GF:=fun vs bs=>match vs,bs with
 | [.agg [V Z e,.ro [W Z,W Z,W Z] b d]],[]=>some (rs 0 (q36a (m36a e b d)) [n36a e b d])
 | _,_=>none
def c36a:Ctr:=genC [.a [.k,.ro [W Z,W Z,W Z]]] g36a
theorem k36a:CtrOk Tryz.prog c36a 36:=cx (tc k62 (tc k9 tn)) mix_ok 8 (fn:=Tryz.f36) (c:=(Tryz.f36.body.getD .skip)) (grs:=[]) (rh:=.k) Tryz.func36 rfl (by kernel_rfl) noLam fun vs bs q h hn=>by
 unfold g36a at h
 split at h <;> cases h
 rename_i e b d
 have hn:=n1 hn
 exact ⟨_,rfl,propOf (x36 e b d _) (cn (al hn) (co (fun _=>lf rfl rfl) (fun h0=>(Bool.false_ne_true (h0.symm.trans (al (ar hn)))).elim)))⟩
def m36b (e:Int) (b:Nat) (d:Dat):Int × Int × Nat × Dat × Dat :=
 (0,e,b,d,m62)
def n36b (e:Int) (b:Nat) (d:Dat):Bool :=
 ((n9 e b d)&&(!(bif (decide ((m9 e b d)=0)) then false else true)&&((n62)&&true)))
def q36b (r:Int × Int × Nat × Dat × Dat):SV × List Blk × List Blk:=(.tup [.ptr 0 0,V Z r.1],[],[.cells 123 [V Z r.2.1,.ro [W Z,W Z,W Z] r.2.2.1 r.2.2.2.1,.ra [W Z,W Z,W Z,W Z] 11 r.2.2.2.2]])
def g36b:GF:=fun vs bs=>match vs,bs with
 | [.agg [V Z e,.ro [W Z,W Z,W Z] b d]],[]=>some (rs 0 (q36b (m36b e b d)) [n36b e b d])
 | _,_=>none
def c36b:Ctr:=genC [.a [.k,.ro [W Z,W Z,W Z]]] g36b
theorem k36b:CtrOk Tryz.prog c36b 36:=cx (tc k62 (tc k9 tn)) mix_ok 8 (fn:=Tryz.f36) (c:=(Tryz.f36.body.getD .skip)) (grs:=[]) (rh:=.k) Tryz.func36 rfl (by kernel_rfl) noLam fun vs bs q h hn=>by
 unfold g36b at h
 split at h <;> cases h
 rename_i e b d
 have hn:=n1 hn
 exact ⟨_,rfl,propOf (x36 e b d _) (cn (al hn) (co (fun h0=>(Bool.false_ne_true ((not_l (ar hn)).symm.trans h0)).elim) (fun _=>cn (al (not_r (ar hn))) (lf rfl rfl))))⟩
/-! ### shotline/site.times -/
def l49_1 (i:Nat) (j:Dat) (H:Int) (A:Nat) (C:Dat) (y:Nat) (n:Dat) (E:Int) (l:Dat) (o:Nat) (p:Dat):Nat→Nat→Int→Int→Dat→Option (Bool × (Int × Nat × Nat × Dat) × (Nat × Nat × Dat))
 | 0,_,_,_,_=>none
 | f+1,F,I,b,G=>(cond (decide (b<H)) (cond (decide (0≤b∧b<↑i)) (cond (bif (m46 A C y n (j.ii b.toNat 0)) then false else true) (some (true,(6,F,F,G),default)) (cond (decide (0≤b∧b<↑o)) (cond (bif (m27 (p.ii b.toNat 0) 0 10000) then false else true) (some (true,(2,F,F,G),default)) (cond (decide ((0:Int)<b)) (cond (decide (0≤Z.wrap (b - 1)∧Z.wrap (b - 1)<(↑i:Int))) (cond (decide ((0:Int)≤l.ii (Z.wrap (b - (1:Int))).toNat (0:Nat)∧l.ii (Z.wrap (b - (1:Int))).toNat (0:Nat)<(↑y:Int))) (cond (decide ((0:Int)≤j.ii b.toNat (0:Nat)∧j.ii b.toNat (0:Nat)<(↑(n.sn (l.ii (Z.wrap (b - (1:Int))).toNat (0:Nat)).toNat (0:Nat)):Int))) (cond (decide (((n.sub ((l.ii ((Z.wrap (b - 1)).toNat) 0).toNat) 0).ii ((j.ii b.toNat 0).toNat) 0)<0)) (some (true,(14,F,F,G),default)) (cond (decide (0≤b∧b<↑o)) (cond (decide ((F+1)≤1073741824)) (cond (decide (0≤b∧b<↑o)) (l49_1 i j H A C y n E l o p f (F+1) (Z.wrap ((Z.wrap (I+((n.sub ((l.ii ((Z.wrap (b - 1)).toNat) 0).toNat) 0).ii ((j.ii b.toNat 0).toNat) 0)))+(p.ii b.toNat 0))) (Z.wrap (b+1)) (G.app F (datS [V Z (Z.wrap (I+((n.sub ((l.ii ((Z.wrap (b - 1)).toNat) 0).toNat) 0).ii ((j.ii b.toNat 0).toNat) 0))),V Z (Z.wrap ((Z.wrap (I+((n.sub ((l.ii ((Z.wrap (b - 1)).toNat) 0).toNat) 0).ii ((j.ii b.toNat 0).toNat) 0)))+(p.ii b.toNat 0)))] 2))) none) none) none)) none) none) none) (cond (decide (0≤b∧b<↑o)) (cond (decide ((F+1)≤1073741824)) (cond (decide (0≤b∧b<↑o)) (l49_1 i j H A C y n E l o p f (F+1) (Z.wrap (I+(p.ii b.toNat 0))) (Z.wrap (b+1)) (G.app F (datS [V Z I,V Z (Z.wrap (I+(p.ii b.toNat 0)))] 2))) none) none) none))) none)) none) (some (false,default,(F,F,G))))
abbrev o49_1 (i:Nat) (j:Dat) (H:Int) (A:Nat) (C:Dat) (y:Nat) (n:Dat) (E:Int) (l:Dat) (o:Nat) (p:Dat) (F:Nat) (I b:Int) (G:Dat):Option (Bool × (Int × Nat × Nat × Dat) × (Nat × Nat × Dat)):=l49_1 i j H A C y n E l o p (F+I.toNat+i+H.toNat+b.toNat+A+y+E.toNat+o+8) F I b G
def e49_1 (i:Nat) (j:Dat) (H:Int) (A:Nat) (C:Dat) (y:Nat) (n:Dat) (E:Int) (l:Dat) (o:Nat) (p:Dat) (r:Bool × (Int × Nat × Nat × Dat) × (Nat × Nat × Dat)) (K:XR):Prop:=cnd r.1 (K (XE.ret) [.nsl,V Z r.2.1.1,.gr 2 2 r.2.1.2.1] [.cells 54 [.ro [.str] A C,.ro [.sl [W Z]] y n],.cells 60 [V Z E,.ro [W Z] i l,.ro [W Z] o p],.row 62 [W Z,W Z] r.2.1.2.2.1 r.2.1.2.2.2]) (K (XE.exit 1) [.any,.any,.gr 2 2 r.2.2.1] [.cells 54 [.ro [.str] A C,.ro [.sl [W Z]] y n],.cells 60 [V Z E,.ro [W Z] i l,.ro [W Z] o p],.row 62 [W Z,W Z] r.2.2.2.1 r.2.2.2.2])
def g49_1:LSum:=fun s k=>match czv 0 105 [2,3,7,8,44,45,46] 3 [⟨true,7,0,2,62,[W Z,W Z]⟩] s with
 | some ([.ptr 0 0,.ptr 1 0,.gr 2 2 F,V Z I,.ro [W Z] i j,V Z H,V Z b],[.cells 54 [.ro [.str] A C,.ro [.sl [W Z]] y n],.cells 60 [V Z E,.ro [W Z] b1_1 l,.ro [W Z] o p],.row 62 [W Z,W Z] b2_0 G])=>needs [decide (i=b1_1),decide (F=b2_0),(o49_1 i j H A C y n E l o p F I b G).isSome] (e49_1 i j H A C y n E l o p ((o49_1 i j H A C y n E l o p F I b G).getD default) fun e vs bs=>inBlk 1 k e (mkSt 0 105 [4,5,7] vs 3 bs))
 | _=>False
theorem z49_1:LOk Tryz.prog g49_1 (.block 1 (bodyAt (Tryz.f49.body.getD .skip) 1)):=by
 refine lb (ι:=Nat × Int × Nat × Dat × Int × Int × Nat × Dat × Nat × Dat × Int × Dat × Nat × Dat × Dat) (fuel:=8) (na:=0) (nt:=105) (nx:=3) (Lh:=[2,3,7,8,44,45,46]) (Le:=[4,5,7]) (gl:=[⟨true,7,0,2,62,[W Z,W Z]⟩]) (tc k45 (tc k37 (tc k46 (tc k27 tn)))) mix_ok noLam rfl (fun f (F,I,i,j,H,b,A,C,y,n,E,l,o,p,G) K=>GG default (e49_1 i j H A C y n E l o p) K (l49_1 i j H A C y n E l o p f F I b G)) (fun (F,I,i,j,H,b,A,C,y,n,E,l,o,p,G)=>[.ptr 0 0,.ptr 1 0,.gr 2 2 F,V Z I,.ro [W Z] i j,V Z H,V Z b]) (fun (F,I,i,j,H,b,A,C,y,n,E,l,o,p,G)=>[.cells 54 [.ro [.str] A C,.ro [.sl [W Z]] y n],.cells 60 [V Z E,.ro [W Z] i l,.ro [W Z] o p],.row 62 [W Z,W Z] F G]) (fun (_,_,_,_,_,_,_,_,_,_,_,_,_,_,_) K=>gg_none) ?_ ?_
 ·rintro f ⟨F,I,i,j,H,b,A,C,y,n,E,l,o,p,G⟩ K hG
  refine ro (fun R => 
 let a0:=((n.sub ((l.ii ((Z.wrap (b - 1)).toNat) 0).toNat) 0).ii ((j.ii b.toNat 0).toNat) 0)
 let b0:=(decide (0≤b∧b<↑o))
 (cnd (decide (b<H))
 (cnd (decide (0≤b∧b<↑i))
 (cnd (bif (m46 A C y n (j.ii b.toNat 0)) then false else true)
 (R (XE.ret) [.nsl,V Z 6,.gr 2 2 F] [.cells 54 [.ro [.str] A C,.ro [.sl [W Z]] y n],.cells 60 [V Z E,.ro [W Z] i l,.ro [W Z] o p],.row 62 [W Z,W Z] F G])
 (cnd b0
 (cnd (bif (m27 (p.ii b.toNat 0) 0 10000) then false else true)
 (R (XE.ret) [.nsl,V Z 2,.gr 2 2 F] [.cells 54 [.ro [.str] A C,.ro [.sl [W Z]] y n],.cells 60 [V Z E,.ro [W Z] i l,.ro [W Z] o p],.row 62 [W Z,W Z] F G])
 (cnd (decide ((0:Int)<b))
 (cnd (decide (0≤Z.wrap (b - 1)∧Z.wrap (b - 1)<(↑i:Int)))
 (cnd (decide ((0:Int)≤l.ii (Z.wrap (b - (1:Int))).toNat (0:Nat)∧l.ii (Z.wrap (b - (1:Int))).toNat (0:Nat)<(↑y:Int)))
 (cnd (decide ((0:Int)≤j.ii b.toNat (0:Nat)∧j.ii b.toNat (0:Nat)<(↑(n.sn (l.ii (Z.wrap (b - (1:Int))).toNat (0:Nat)).toNat (0:Nat)):Int)))
 (cnd (decide (a0<0))
 (R (XE.ret) [.nsl,V Z 14,.gr 2 2 F] [.cells 54 [.ro [.str] A C,.ro [.sl [W Z]] y n],.cells 60 [V Z E,.ro [W Z] i l,.ro [W Z] o p],.row 62 [W Z,W Z] F G])
 (cnd b0
 (cnd (decide (F≤F))
 (cnd (decide ((F+1)≤1073741824))
 (cnd b0
 (R (XE.normal) [.ptr 0 0,.ptr 1 0,.gr 2 2 (F+1),V Z (Z.wrap ((Z.wrap (I+a0))+(p.ii b.toNat 0))),.ro [W Z] i j,V Z H,V Z (Z.wrap (b+1))] [.cells 54 [.ro [.str] A C,.ro [.sl [W Z]] y n],.cells 60 [V Z E,.ro [W Z] i l,.ro [W Z] o p],.row 62 [W Z,W Z] (F+1) (G.app F (datS [V Z (Z.wrap (I+a0)),V Z (Z.wrap ((Z.wrap (I+a0))+(p.ii b.toNat 0)))] 2))])
        False)
       False)
       False)
      False))
     False)
     False)
    False)
 (cnd b0
 (cnd (decide (F≤F))
 (cnd (decide ((F+1)≤1073741824))
 (cnd b0
 (R (XE.normal) [.ptr 0 0,.ptr 1 0,.gr 2 2 (F+1),V Z (Z.wrap (I+(p.ii b.toNat 0))),.ro [W Z] i j,V Z H,V Z (Z.wrap (b+1))] [.cells 54 [.ro [.str] A C,.ro [.sl [W Z]] y n],.cells 60 [V Z E,.ro [W Z] i l,.ro [W Z] o p],.row 62 [W Z,W Z] (F+1) (G.app F (datS [V Z I,V Z (Z.wrap (I+(p.ii b.toNat 0)))] 2))])
      False)
     False)
     False)
    False)))
   False))
  False)
 (R (XE.exit 1) [.any,.any,.gr 2 2 F] [.cells 54 [.ro [.str] A C,.ro [.sl [W Z]] y n],.cells 60 [V Z E,.ro [W Z] i l,.ro [W Z] o p],.row 62 [W Z,W Z] F G]))) (fun R=>by kernel_rfl) ?_
  exact ch hG (fun h0=>cg h0 fun h1=>ch h1 (fun h2=>h2.2) (fun h2=>cg h2 fun h3=>ch h3 (fun h4=>h4.2) (fun h4=>ch h4 (fun h5=>cg h5 fun h6=>cg h6 fun h7=>cg h7 fun h8=>ch h8 (fun h9=>h9.2) (fun h9=>cg h9 fun h10=>cn (decide_eq_true (Nat.le_refl _)) (cg h10 fun h11=>cg h11 fun h12=>⟨(_,_,_,_,_,_,_,_,_,_,_,_,_,_,_),rfl,rfl,h12⟩))) (fun h5=>cg h5 fun h6=>cn (decide_eq_true (Nat.le_refl _)) (cg h6 fun h7=>cg h7 fun h8=>⟨(_,_,_,_,_,_,_,_,_,_,_,_,_,_,_),rfl,rfl,h8⟩))))) (fun h0=>h0.2)
 ·intro s k h
  unfold g49_1 at h
  split at h <;> try exact h.elim
  rename_i e1
  rw [needs_iff] at h
  have hq:=h.1
  simp only [List.mem_cons,forall_eq_or_imp,decide_eq_true_eq,List.not_mem_nil,false_imp_iff,implies_true,and_true] at hq
  obtain ⟨rfl,rfl,hq⟩:=hq
  exact ⟨_,e1,_,(_,_,_,_,_,_,_,_,_,_,_,_,_,_,_),rfl,rfl,hq,h.2⟩
def m49 (u:Nat) (v:Dat) (w:Nat) (x:Dat) (m:Int) (d:Nat) (g:Dat) (z:Nat) (D:Dat):Nat × Dat × Int :=
 (cond (bif (decide ((m45 u v w x)=0)) then false else true) (0,noDat,(m45 u v w x)) (cond (bif (decide ((↑d:Int)=0)) then true else (bif (decide ((↑z:Int)=(↑d:Int))) then false else true)) (0,noDat,10) (cond (decide (12<(↑d:Int))) (0,noDat,8) (cond (bif (m37 m) then false else true) (0,noDat,2) (cond ((o49_1 d g (↑d:Int) u v w x m g z D 0 m 0 noDat).getD default).1 (0,noDat,((o49_1 d g (↑d:Int) u v w x m g z D 0 m 0 noDat).getD default).2.1.1) (((o49_1 d g (↑d:Int) u v w x m g z D 0 m 0 noDat).getD default).2.2.1,((o49_1 d g (↑d:Int) u v w x m g z D 0 m 0 noDat).getD default).2.2.2.2,0))))))
def n49 (u:Nat) (v:Dat) (w:Nat) (x:Dat) (m:Int) (d:Nat) (g:Dat) (z:Nat) (D:Dat):Bool :=
 ((n45 u v w x)&&(cond (bif (decide ((m45 u v w x)=0)) then false else true) true (cond (bif (decide ((↑d:Int)=0)) then true else (bif (decide ((↑z:Int)=(↑d:Int))) then false else true)) true (cond (decide (12<(↑d:Int))) true (cond (bif (m37 m) then false else true) true (((o49_1 d g (↑d:Int) u v w x m g z D 0 m 0 noDat).isSome)&&(cond ((o49_1 d g (↑d:Int) u v w x m g z D 0 m 0 noDat).getD default).1 true ((decide ((0+((o49_1 d g (↑d:Int) u v w x m g z D 0 m 0 noDat).getD default).2.2.1)≤((o49_1 d g (↑d:Int) u v w x m g z D 0 m 0 noDat).getD default).2.2.2.1))&&true))))))))
def q49 (r:Nat × Dat × Int):SV × List Blk × List Blk:=(.tup [.ro [W Z,W Z] r.1 r.2.1,V Z r.2.2],[],[])
def g49:GF:=fun vs bs=>match vs,bs with
 | [.agg [.ro [.str] u v,.ro [.sl [W Z]] w x],.agg [V Z m,.ro [W Z] d g,.ro [W Z] z D]],[]=>some (rs 0 (q49 (m49 u v w x m d g z D)) [n49 u v w x m d g z D])
 | _,_=>none
def c49:Ctr:=genC [.a [.ro [.str],.ro [.sl [W Z]]],.a [.k,.ro [W Z],.ro [W Z]]] g49
theorem k49:CtrOk Tryz.prog c49 49:=cx (tc k45 (tc k37 (tc k46 (tc k27 tn)))) mix_ok 8 (fn:=Tryz.f49) (c:=(Tryz.f49.body.getD .skip)) (grs:=[]) (rh:=.t [.ro [W Z,W Z],.k]) Tryz.func49 rfl (by kernel_rfl) (lam_of rfl (lc z49_1 ln)) fun vs bs q h hn=>by
 unfold g49 at h
 split at h <;> cases h
 rename_i u v w x m d g z D
 have hn:=n1 hn
 exact ⟨_,rfl,ca (fun R => 
 let a0:=((o49_1 d g (↑d:Int) u v w x m g z D 0 m 0 noDat).getD default)
 (cnd (n45 u v w x)
 (cnd (bif (decide ((m45 u v w x)=0)) then false else true)
 (R (.tup [.ro [W Z,W Z] 0 noDat,V Z (m45 u v w x)]) [] [])
 (cnd (bif (decide ((↑d:Int)=0)) then true else (bif (decide ((↑z:Int)=(↑d:Int))) then false else true))
 (R (.tup [.ro [W Z,W Z] 0 noDat,V Z 10]) [] [])
 (cnd (decide (12<(↑d:Int)))
 (R (.tup [.ro [W Z,W Z] 0 noDat,V Z 8]) [] [])
 (cnd (bif (m37 m) then false else true)
 (R (.tup [.ro [W Z,W Z] 0 noDat,V Z 2]) [] [])
 (cnd (decide (d=d))
 (cnd ((o49_1 d g (↑d:Int) u v w x m g z D 0 m 0 noDat).isSome)
 (cnd a0.1
 (R (.tup [.ro [W Z,W Z] 0 noDat,V Z a0.2.1.1]) [] [])
 (cnd (decide ((0+a0.2.2.1)≤a0.2.2.2.1))
 (R (.tup [.ro [W Z,W Z] a0.2.2.1 a0.2.2.2.2,V Z 0]) [] [])
     False))
    False)
    False)))))
 False)) (fun R=>by kernel_rfl) (cn (al hn) (co (fun h0=>lf (cT h0 rfl) rfl) (fun h0=>co (fun h1=>lf (cF h0 (cT h1 rfl)) rfl) (fun h1=>co (fun h2=>lf (cF h0 (cF h1 (cT h2 rfl))) rfl) (fun h2=>co (fun h3=>lf (cF h0 (cF h1 (cF h2 (cT h3 rfl)))) rfl) (fun h3=>cn (decide_eq_true rfl) (cn (al (cf h3 (cf h2 (cf h1 (cf h0 (ar hn)))))) (co (fun h4=>lf (cF h0 (cF h1 (cF h2 (cF h3 (cT h4 rfl))))) rfl) (fun h4=>cn (al (cf h4 (ar (cf h3 (cf h2 (cf h1 (cf h0 (ar hn)))))))) (lf (cF h0 (cF h1 (cF h2 (cF h3 (cF h4 rfl))))) rfl))))))))))⟩

/-! ### shotline/site.LevelAt -/
def m14 (g:Int) (d:Nat) (e:Dat) (i:Int):Int × Int × Int :=
 (cond (n36a g d e) (cond (bif (decide ((m36a g d e)=0)) then false else true) (0,0,(m36a g d e)) (0,0,2)) (cond (bif (decide ((m36b g d e).1=0)) then false else true) (0,0,(m36b g d e).1) (cond (bif (m37 i) then false else true) (0,0,2) ((m38 (m36b g d e).2.1 (m36b g d e).2.2.1 (m36b g d e).2.2.2.1 (m36b g d e).2.2.2.2 i).1,(m38 (m36b g d e).2.1 (m36b g d e).2.2.1 (m36b g d e).2.2.2.1 (m36b g d e).2.2.2.2 i).2.1,0))))
def n14 (g:Int) (d:Nat) (e:Dat) (i:Int):Bool :=
 (cond (n36a g d e) ((n36a g d e)&&(cond (bif (decide ((m36a g d e)=0)) then false else true) true ((bif (m37 i) then false else true)&&true))) ((n36b g d e)&&(cond (bif (decide ((m36b g d e).1=0)) then false else true) true (cond (bif (m37 i) then false else true) true ((n38 (m36b g d e).2.1 (m36b g d e).2.2.1 (m36b g d e).2.2.2.1 (m36b g d e).2.2.2.2 i)&&true)))))
def q14 (r:Int × Int × Int):SV × List Blk × List Blk:=(.tup [.agg [V Z r.1,V Z r.2.1],V Z r.2.2],[],[])
def g14:GF:=fun vs bs=>match vs,bs with
 | [.agg [V Z g,.ro [W Z,W Z,W Z] d e],V Z i],[]=>some (rs 0 (q14 (m14 g d e i)) [n14 g d e i])
 | _,_=>none
def c14:Ctr:=genC [.a [.k,.ro [W Z,W Z,W Z]],.k] g14
theorem k14:CtrOk Tryz.prog c14 14:=cx (tc k36a (tc k36b (tc k37 (tc k38 tn)))) mix_ok 8 (fn:=Tryz.f14) (c:=(Tryz.f14.body.getD .skip)) (grs:=[]) (rh:=.k) Tryz.func14 rfl (by kernel_rfl) noLam fun vs bs q h hn=>by
 unfold g14 at h
 split at h <;> cases h
 rename_i g d e i
 have hn:=n1 hn
 exact ⟨_,rfl,ca (fun R => 
 let a0:=(m38 (m36b g d e).2.1 (m36b g d e).2.2.1 (m36b g d e).2.2.2.1 (m36b g d e).2.2.2.2 i)
 ((cnd (n36a g d e)
 (cnd (bif (decide ((m36a g d e)=0)) then false else true)
 (R (.tup [.agg [V Z 0,V Z 0],V Z (m36a g d e)]) [] [])
 (cnd (bif (m37 i) then false else true)
 (R (.tup [.agg [V Z 0,V Z 0],V Z 2]) [] [])
   False))
  False) ∨
 (cnd (n36b g d e)
 (cnd (bif (decide ((m36b g d e).1=0)) then false else true)
 (R (.tup [.agg [V Z 0,V Z 0],V Z (m36b g d e).1]) [] [])
 (cnd (bif (m37 i) then false else true)
 (R (.tup [.agg [V Z 0,V Z 0],V Z 2]) [] [])
 (cnd (n38 (m36b g d e).2.1 (m36b g d e).2.2.1 (m36b g d e).2.2.2.1 (m36b g d e).2.2.2.2 i)
 (R (.tup [.agg [V Z a0.1,V Z a0.2.1],V Z 0]) [] [])
   False)))
  False))) (fun R=>by kernel_rfl) (or_of (b:=(n36a g d e)) (fun h0=>cn (al (ct h0 hn)) (co (fun h1=>lf (cT h0 (cT h1 rfl)) rfl) (fun h1=>cn (al (cf h1 (ar (ct h0 hn)))) (lf (cT h0 (cF h1 rfl)) rfl)))) (fun h0=>cn (al (cf h0 hn)) (co (fun h1=>lf (cF h0 (cT h1 rfl)) rfl) (fun h1=>co (fun h2=>lf (cF h0 (cF h1 (cT h2 rfl))) rfl) (fun h2=>cn (al (cf h2 (cf h1 (ar (cf h0 hn))))) (lf (cF h0 (cF h1 (cF h2 rfl))) rfl))))))⟩

/-! ### (shotline/site.windows).few -/
theorem x44 (a ma0:Nat) (b:Dat) (R:SV→List Blk→List Blk→Prop):exec Tryz.prog [] (fun _=>none) 8 (Tryz.f44.body.getD .skip) (initS Tryz.f44.ntmps [.gr 0 2 a] 1 (memOf [.row 41 [W Z,W Z] ma0 b])) (retK Tryz.prog Tryz.f44.results.toList (outK 1 (List.range 1) [0] (.k) fun v U N=>R v U N)) =
 (cnd (decide ((60:Int)<(↑a:Int)))
 (R (.tup [.nsl,V Z 8]) [.unk] [])
 (R (.tup [.gr 1 2 a,V Z 0]) [.unk] [.row 41 [W Z,W Z] ma0 b])):=by kernel_rfl
def m44a (a ma0:Nat) (b:Dat):Int :=
 8
def n44a (a ma0:Nat) (b:Dat):Bool :=
 ((decide ((60:Int)<(↑a:Int)))&&true)
def q44a (r:Int):SV × List Blk × List Blk:=(.tup [.nsl,V Z r],[.unk],[])
def g44a:GF:=fun vs bs=>match vs,bs with
 | [.gr 0 2 a],[.row 41 [W Z,W Z] ma0 b]=>some (rs 1 (q44a (m44a a ma0 b)) [n44a a ma0 b])
 | _,_=>none
def c44a:Ctr:=genC [.gr 41 [W Z,W Z]] g44a
theorem k44a:CtrOk Tryz.prog c44a 44:=cx tn mix_ok 8 (fn:=Tryz.f44) (c:=(Tryz.f44.body.getD .skip)) (grs:=[0]) (rh:=.k) Tryz.func44 rfl (by kernel_rfl) noLam fun vs bs q h hn=>by
 unfold g44a at h
 split at h <;> cases h
 rename_i a ma0 b
 have hn:=n1 hn
 exact ⟨_,rfl,propOf (x44 a ma0 b _) (co (fun _=>lf rfl rfl) (fun h0=>(Bool.false_ne_true (h0.symm.trans (al hn))).elim))⟩
def m44b (a ma0:Nat) (b:Dat):Nat × Int × Nat × Dat :=
 (a,0,ma0,b)
def n44b (a ma0:Nat) (b:Dat):Bool :=
 (!(decide ((60:Int)<(↑a:Int)))&&true)
def q44b (r:Nat × Int × Nat × Dat):SV × List Blk × List Blk:=(.tup [.gr 1 2 r.1,V Z r.2.1],[.unk],[.row 41 [W Z,W Z] r.2.2.1 r.2.2.2])
def g44b:GF:=fun vs bs=>match vs,bs with
 | [.gr 0 2 a],[.row 41 [W Z,W Z] ma0 b]=>some (rs 1 (q44b (m44b a ma0 b)) [n44b a ma0 b])
 | _,_=>none
def c44b:Ctr:=genC [.gr 41 [W Z,W Z]] g44b
theorem k44b:CtrOk Tryz.prog c44b 44:=cx tn mix_ok 8 (fn:=Tryz.f44) (c:=(Tryz.f44.body.getD .skip)) (grs:=[0]) (rh:=.k) Tryz.func44 rfl (by kernel_rfl) noLam fun vs bs q h hn=>by
 unfold g44b at h
 split at h <;> cases h
 rename_i a ma0 b
 have hn:=n1 hn
 exact ⟨_,rfl,propOf (x44 a ma0 b _) (co (fun h0=>(Bool.false_ne_true ((not_l hn).symm.trans h0)).elim) (fun _=>lf rfl rfl))⟩

/-! ### shotline/site.RunTimes -/
def m19 (b:Nat) (d:Dat) (e:Nat) (g:Dat) (n:Int) (i:Nat) (j:Dat) (l:Nat) (m:Dat):Nat × Dat × Int :=
 ((m49 b d e g n i j l m).1,(m49 b d e g n i j l m).2.1,(m49 b d e g n i j l m).2.2)
def n19 (b:Nat) (d:Dat) (e:Nat) (g:Dat) (n:Int) (i:Nat) (j:Dat) (l:Nat) (m:Dat):Bool :=
 ((n49 b d e g n i j l m)&&true)
def q19 (r:Nat × Dat × Int):SV × List Blk × List Blk:=(.tup [.ro [W Z,W Z] r.1 r.2.1,V Z r.2.2],[],[])
def g19:GF:=fun vs bs=>match vs,bs with
 | [.agg [.ro [.str] b d,.ro [.sl [W Z]] e g],.agg [V Z n,.ro [W Z] i j,.ro [W Z] l m]],[]=>some (rs 0 (q19 (m19 b d e g n i j l m)) [n19 b d e g n i j l m])
 | _,_=>none
def c19:Ctr:=genC [.a [.ro [.str],.ro [.sl [W Z]]],.a [.k,.ro [W Z],.ro [W Z]]] g19
theorem k19:CtrOk Tryz.prog c19 19:=cx (tc k49 tn) mix_ok 8 (fn:=Tryz.f19) (c:=(Tryz.f19.body.getD .skip)) (grs:=[]) (rh:=.t [.ro [W Z,W Z],.k]) Tryz.func19 rfl (by kernel_rfl) noLam fun vs bs q h hn=>by
 unfold g19 at h
 split at h <;> cases h
 rename_i b d e g n i j l m
 have hn:=n1 hn
 exact ⟨_,rfl,ca (fun R=>(cnd (n49 b d e g n i j l m)
 (R (.tup [.ro [W Z,W Z] (m49 b d e g n i j l m).1 (m49 b d e g n i j l m).2.1,V Z (m49 b d e g n i j l m).2.2]) [] [])
 False)) (fun R=>by kernel_rfl) (cn (al hn) (lf rfl rfl))⟩

/-! ### shotline/site.Join -/
def l16_0 (u:Nat) (v:Int) (o p:Dat) (n:Nat) (j:Dat):Nat→Int→Nat→Nat→Dat→Option (Nat × Nat × Dat)
 | 0,_,_,_,_=>none
 | f+1,l,m,b4_0,b4_1=>(cond (decide (l<v)) (cond (decide (0≤l∧l<↑u)) (cond (decide (l.toNat<n)) (cond (n43 m b4_0 b4_1 (j.ii l.toNat 0) (j.ii l.toNat 1)) (l16_0 u v o p n j f (Z.wrap (l+1)) (m43 m b4_0 b4_1 (j.ii l.toNat 0) (j.ii l.toNat 1)).1 (m43 m b4_0 b4_1 (j.ii l.toNat 0) (j.ii l.toNat 1)).2.1 (m43 m b4_0 b4_1 (j.ii l.toNat 0) (j.ii l.toNat 1)).2.2) none) none) none) (some (m,b4_0,b4_1)))
abbrev o16_0 (u:Nat) (v:Int) (o p:Dat) (n:Nat) (j:Dat) (l:Int) (m b4_0:Nat) (b4_1:Dat):Option (Nat × Nat × Dat):=l16_0 u v o p n j (u+v.toNat+l.toNat+n+m+b4_0+8) l m b4_0 b4_1
def e16_0 (u:Nat) (v:Int) (o p:Dat) (n:Nat) (j:Dat) (r:Nat × Nat × Dat) (K:XR):Prop:=K (XE.exit 0) [.ptr 3 0] [.row 45 [.sl [W Z,W Z]] 2 o,.row 45 [.sl [W Z,W Z]] 2 p,.row 41 [W Z,W Z] n j,.cells 98 [.gr 4 2 r.1],.row 41 [W Z,W Z] r.2.1 r.2.2]
def g16_0:LSum:=fun s k=>match czv 0 37 [8,24,25,26] 5 [⟨false,3,0,4,41,[W Z,W Z]⟩] s with
 | some ([.ptr 3 0,.gr 2 2 u,V Z v,V Z l],[.row 45 [.sl [W Z,W Z]] 2 o,.row 45 [.sl [W Z,W Z]] 2 p,.row 41 [W Z,W Z] n j,.cells 98 [.gr 4 2 m],.row 41 [W Z,W Z] b4_0 b4_1])=>needs [(o16_0 u v o p n j l m b4_0 b4_1).isSome] (e16_0 u v o p n j ((o16_0 u v o p n j l m b4_0 b4_1).getD default) fun e vs bs=>inBlk 0 k e (mkSt 0 37 [8] vs 5 bs))
 | _=>False
theorem z16_0:LOk Tryz.prog g16_0 (.block 0 (bodyAt (Tryz.f16.body.getD .skip) 0)):=by
 refine lb (ι:=Nat × Int × Int × Dat × Dat × Nat × Dat × Nat × Nat × Dat) (fuel:=8) (na:=0) (nt:=37) (nx:=5) (Lh:=[8,24,25,26]) (Le:=[8]) (gl:=[⟨false,3,0,4,41,[W Z,W Z]⟩]) (tc k39 (tc k43 (tc k44a (tc k44b (tc k40 (tc k41c42 (tc k42 tn))))))) mix_ok noLam rfl (fun f (u,v,l,o,p,n,j,m,b4_0,b4_1) K=>GG default (e16_0 u v o p n j) K (l16_0 u v o p n j f l m b4_0 b4_1)) (fun (u,v,l,o,p,n,j,m,b4_0,b4_1)=>[.ptr 3 0,.gr 2 2 u,V Z v,V Z l]) (fun (u,v,l,o,p,n,j,m,b4_0,b4_1)=>[.row 45 [.sl [W Z,W Z]] 2 o,.row 45 [.sl [W Z,W Z]] 2 p,.row 41 [W Z,W Z] n j,.cells 98 [.gr 4 2 m],.row 41 [W Z,W Z] b4_0 b4_1]) (fun (_,_,_,_,_,_,_,_,_,_) K=>gg_none) ?_ ?_
 ·rintro f ⟨u,v,l,o,p,n,j,m,b4_0,b4_1⟩ K hG
  refine ro (fun R => 
 let a0:=(m43 m b4_0 b4_1 (j.ii l.toNat 0) (j.ii l.toNat 1))
 (cnd (decide (l<v))
 (cnd (decide (0≤l∧l<↑u))
 (cnd (decide (l.toNat<n))
 (cnd (n43 m b4_0 b4_1 (j.ii l.toNat 0) (j.ii l.toNat 1))
 (R (XE.normal) [.ptr 3 0,.gr 2 2 u,V Z v,V Z (Z.wrap (l+1))] [.row 45 [.sl [W Z,W Z]] 2 o,.row 45 [.sl [W Z,W Z]] 2 p,.row 41 [W Z,W Z] n j,.cells 98 [.gr 4 2 a0.1],.row 41 [W Z,W Z] a0.2.1 a0.2.2])
   False)
  False)
  False)
 (R (XE.exit 0) [.ptr 3 0] [.row 45 [.sl [W Z,W Z]] 2 o,.row 45 [.sl [W Z,W Z]] 2 p,.row 41 [W Z,W Z] n j,.cells 98 [.gr 4 2 m],.row 41 [W Z,W Z] b4_0 b4_1]))) (fun R=>by kernel_rfl) ?_
  exact ch hG (fun h0=>cg h0 fun h1=>cg h1 fun h2=>cg h2 fun h3=>⟨(_,_,_,_,_,_,_,_,_,_),rfl,rfl,h3⟩) (fun h0=>h0.2)
 ·intro s k h
  unfold g16_0 at h
  split at h <;> try exact h.elim
  rename_i e1
  rw [needs_iff] at h
  exact ⟨_,e1,_,(_,_,_,_,_,_,_,_,_,_),rfl,rfl,h.1 _ (List.mem_singleton.2 rfl),h.2⟩
def m16 (a:Nat) (d:Dat) (g:Nat) (i:Dat):Nat × Dat × Int :=
 (cond (bif (decide ((m39 2 (datS [SV.ro [Kd.int Z,Kd.int Z] a d,SV.ro [Kd.int Z,Kd.int Z] g i] 1))=0)) then false else true) (0,noDat,(m39 2 (datS [SV.ro [Kd.int Z,Kd.int Z] a d,SV.ro [Kd.int Z,Kd.int Z] g i] 1))) (cond (n44a ((o16_0 (m40 2 (datS [SV.ro [Kd.int Z,Kd.int Z] a d,SV.ro [Kd.int Z,Kd.int Z] g i] 1)).1 (↑((m40 2 (datS [SV.ro [Kd.int Z,Kd.int Z] a d,SV.ro [Kd.int Z,Kd.int Z] g i] 1)).1):Int) (datS [SV.ro [Kd.int Z,Kd.int Z] a d,SV.ro [Kd.int Z,Kd.int Z] g i] 1) (datS [SV.ro [Kd.int Z,Kd.int Z] a d,SV.ro [Kd.int Z,Kd.int Z] g i] 1) (m41c42 (m40 2 (datS [SV.ro [Kd.int Z,Kd.int Z] a d,SV.ro [Kd.int Z,Kd.int Z] g i] 1)).1 (m40 2 (datS [SV.ro [Kd.int Z,Kd.int Z] a d,SV.ro [Kd.int Z,Kd.int Z] g i] 1)).2.1 (m40 2 (datS [SV.ro [Kd.int Z,Kd.int Z] a d,SV.ro [Kd.int Z,Kd.int Z] g i] 1)).2.2).1 (m41c42 (m40 2 (datS [SV.ro [Kd.int Z,Kd.int Z] a d,SV.ro [Kd.int Z,Kd.int Z] g i] 1)).1 (m40 2 (datS [SV.ro [Kd.int Z,Kd.int Z] a d,SV.ro [Kd.int Z,Kd.int Z] g i] 1)).2.1 (m40 2 (datS [SV.ro [Kd.int Z,Kd.int Z] a d,SV.ro [Kd.int Z,Kd.int Z] g i] 1)).2.2).2 0 0 0 noDat).getD default).1 ((o16_0 (m40 2 (datS [SV.ro [Kd.int Z,Kd.int Z] a d,SV.ro [Kd.int Z,Kd.int Z] g i] 1)).1 (↑((m40 2 (datS [SV.ro [Kd.int Z,Kd.int Z] a d,SV.ro [Kd.int Z,Kd.int Z] g i] 1)).1):Int) (datS [SV.ro [Kd.int Z,Kd.int Z] a d,SV.ro [Kd.int Z,Kd.int Z] g i] 1) (datS [SV.ro [Kd.int Z,Kd.int Z] a d,SV.ro [Kd.int Z,Kd.int Z] g i] 1) (m41c42 (m40 2 (datS [SV.ro [Kd.int Z,Kd.int Z] a d,SV.ro [Kd.int Z,Kd.int Z] g i] 1)).1 (m40 2 (datS [SV.ro [Kd.int Z,Kd.int Z] a d,SV.ro [Kd.int Z,Kd.int Z] g i] 1)).2.1 (m40 2 (datS [SV.ro [Kd.int Z,Kd.int Z] a d,SV.ro [Kd.int Z,Kd.int Z] g i] 1)).2.2).1 (m41c42 (m40 2 (datS [SV.ro [Kd.int Z,Kd.int Z] a d,SV.ro [Kd.int Z,Kd.int Z] g i] 1)).1 (m40 2 (datS [SV.ro [Kd.int Z,Kd.int Z] a d,SV.ro [Kd.int Z,Kd.int Z] g i] 1)).2.1 (m40 2 (datS [SV.ro [Kd.int Z,Kd.int Z] a d,SV.ro [Kd.int Z,Kd.int Z] g i] 1)).2.2).2 0 0 0 noDat).getD default).2.1 ((o16_0 (m40 2 (datS [SV.ro [Kd.int Z,Kd.int Z] a d,SV.ro [Kd.int Z,Kd.int Z] g i] 1)).1 (↑((m40 2 (datS [SV.ro [Kd.int Z,Kd.int Z] a d,SV.ro [Kd.int Z,Kd.int Z] g i] 1)).1):Int) (datS [SV.ro [Kd.int Z,Kd.int Z] a d,SV.ro [Kd.int Z,Kd.int Z] g i] 1) (datS [SV.ro [Kd.int Z,Kd.int Z] a d,SV.ro [Kd.int Z,Kd.int Z] g i] 1) (m41c42 (m40 2 (datS [SV.ro [Kd.int Z,Kd.int Z] a d,SV.ro [Kd.int Z,Kd.int Z] g i] 1)).1 (m40 2 (datS [SV.ro [Kd.int Z,Kd.int Z] a d,SV.ro [Kd.int Z,Kd.int Z] g i] 1)).2.1 (m40 2 (datS [SV.ro [Kd.int Z,Kd.int Z] a d,SV.ro [Kd.int Z,Kd.int Z] g i] 1)).2.2).1 (m41c42 (m40 2 (datS [SV.ro [Kd.int Z,Kd.int Z] a d,SV.ro [Kd.int Z,Kd.int Z] g i] 1)).1 (m40 2 (datS [SV.ro [Kd.int Z,Kd.int Z] a d,SV.ro [Kd.int Z,Kd.int Z] g i] 1)).2.1 (m40 2 (datS [SV.ro [Kd.int Z,Kd.int Z] a d,SV.ro [Kd.int Z,Kd.int Z] g i] 1)).2.2).2 0 0 0 noDat).getD default).2.2) (0,noDat,(m44a ((o16_0 (m40 2 (datS [SV.ro [Kd.int Z,Kd.int Z] a d,SV.ro [Kd.int Z,Kd.int Z] g i] 1)).1 (↑((m40 2 (datS [SV.ro [Kd.int Z,Kd.int Z] a d,SV.ro [Kd.int Z,Kd.int Z] g i] 1)).1):Int) (datS [SV.ro [Kd.int Z,Kd.int Z] a d,SV.ro [Kd.int Z,Kd.int Z] g i] 1) (datS [SV.ro [Kd.int Z,Kd.int Z] a d,SV.ro [Kd.int Z,Kd.int Z] g i] 1) (m41c42 (m40 2 (datS [SV.ro [Kd.int Z,Kd.int Z] a d,SV.ro [Kd.int Z,Kd.int Z] g i] 1)).1 (m40 2 (datS [SV.ro [Kd.int Z,Kd.int Z] a d,SV.ro [Kd.int Z,Kd.int Z] g i] 1)).2.1 (m40 2 (datS [SV.ro [Kd.int Z,Kd.int Z] a d,SV.ro [Kd.int Z,Kd.int Z] g i] 1)).2.2).1 (m41c42 (m40 2 (datS [SV.ro [Kd.int Z,Kd.int Z] a d,SV.ro [Kd.int Z,Kd.int Z] g i] 1)).1 (m40 2 (datS [SV.ro [Kd.int Z,Kd.int Z] a d,SV.ro [Kd.int Z,Kd.int Z] g i] 1)).2.1 (m40 2 (datS [SV.ro [Kd.int Z,Kd.int Z] a d,SV.ro [Kd.int Z,Kd.int Z] g i] 1)).2.2).2 0 0 0 noDat).getD default).1 ((o16_0 (m40 2 (datS [SV.ro [Kd.int Z,Kd.int Z] a d,SV.ro [Kd.int Z,Kd.int Z] g i] 1)).1 (↑((m40 2 (datS [SV.ro [Kd.int Z,Kd.int Z] a d,SV.ro [Kd.int Z,Kd.int Z] g i] 1)).1):Int) (datS [SV.ro [Kd.int Z,Kd.int Z] a d,SV.ro [Kd.int Z,Kd.int Z] g i] 1) (datS [SV.ro [Kd.int Z,Kd.int Z] a d,SV.ro [Kd.int Z,Kd.int Z] g i] 1) (m41c42 (m40 2 (datS [SV.ro [Kd.int Z,Kd.int Z] a d,SV.ro [Kd.int Z,Kd.int Z] g i] 1)).1 (m40 2 (datS [SV.ro [Kd.int Z,Kd.int Z] a d,SV.ro [Kd.int Z,Kd.int Z] g i] 1)).2.1 (m40 2 (datS [SV.ro [Kd.int Z,Kd.int Z] a d,SV.ro [Kd.int Z,Kd.int Z] g i] 1)).2.2).1 (m41c42 (m40 2 (datS [SV.ro [Kd.int Z,Kd.int Z] a d,SV.ro [Kd.int Z,Kd.int Z] g i] 1)).1 (m40 2 (datS [SV.ro [Kd.int Z,Kd.int Z] a d,SV.ro [Kd.int Z,Kd.int Z] g i] 1)).2.1 (m40 2 (datS [SV.ro [Kd.int Z,Kd.int Z] a d,SV.ro [Kd.int Z,Kd.int Z] g i] 1)).2.2).2 0 0 0 noDat).getD default).2.1 ((o16_0 (m40 2 (datS [SV.ro [Kd.int Z,Kd.int Z] a d,SV.ro [Kd.int Z,Kd.int Z] g i] 1)).1 (↑((m40 2 (datS [SV.ro [Kd.int Z,Kd.int Z] a d,SV.ro [Kd.int Z,Kd.int Z] g i] 1)).1):Int) (datS [SV.ro [Kd.int Z,Kd.int Z] a d,SV.ro [Kd.int Z,Kd.int Z] g i] 1) (datS [SV.ro [Kd.int Z,Kd.int Z] a d,SV.ro [Kd.int Z,Kd.int Z] g i] 1) (m41c42 (m40 2 (datS [SV.ro [Kd.int Z,Kd.int Z] a d,SV.ro [Kd.int Z,Kd.int Z] g i] 1)).1 (m40 2 (datS [SV.ro [Kd.int Z,Kd.int Z] a d,SV.ro [Kd.int Z,Kd.int Z] g i] 1)).2.1 (m40 2 (datS [SV.ro [Kd.int Z,Kd.int Z] a d,SV.ro [Kd.int Z,Kd.int Z] g i] 1)).2.2).1 (m41c42 (m40 2 (datS [SV.ro [Kd.int Z,Kd.int Z] a d,SV.ro [Kd.int Z,Kd.int Z] g i] 1)).1 (m40 2 (datS [SV.ro [Kd.int Z,Kd.int Z] a d,SV.ro [Kd.int Z,Kd.int Z] g i] 1)).2.1 (m40 2 (datS [SV.ro [Kd.int Z,Kd.int Z] a d,SV.ro [Kd.int Z,Kd.int Z] g i] 1)).2.2).2 0 0 0 noDat).getD default).2.2)) ((m44b ((o16_0 (m40 2 (datS [SV.ro [Kd.int Z,Kd.int Z] a d,SV.ro [Kd.int Z,Kd.int Z] g i] 1)).1 (↑((m40 2 (datS [SV.ro [Kd.int Z,Kd.int Z] a d,SV.ro [Kd.int Z,Kd.int Z] g i] 1)).1):Int) (datS [SV.ro [Kd.int Z,Kd.int Z] a d,SV.ro [Kd.int Z,Kd.int Z] g i] 1) (datS [SV.ro [Kd.int Z,Kd.int Z] a d,SV.ro [Kd.int Z,Kd.int Z] g i] 1) (m41c42 (m40 2 (datS [SV.ro [Kd.int Z,Kd.int Z] a d,SV.ro [Kd.int Z,Kd.int Z] g i] 1)).1 (m40 2 (datS [SV.ro [Kd.int Z,Kd.int Z] a d,SV.ro [Kd.int Z,Kd.int Z] g i] 1)).2.1 (m40 2 (datS [SV.ro [Kd.int Z,Kd.int Z] a d,SV.ro [Kd.int Z,Kd.int Z] g i] 1)).2.2).1 (m41c42 (m40 2 (datS [SV.ro [Kd.int Z,Kd.int Z] a d,SV.ro [Kd.int Z,Kd.int Z] g i] 1)).1 (m40 2 (datS [SV.ro [Kd.int Z,Kd.int Z] a d,SV.ro [Kd.int Z,Kd.int Z] g i] 1)).2.1 (m40 2 (datS [SV.ro [Kd.int Z,Kd.int Z] a d,SV.ro [Kd.int Z,Kd.int Z] g i] 1)).2.2).2 0 0 0 noDat).getD default).1 ((o16_0 (m40 2 (datS [SV.ro [Kd.int Z,Kd.int Z] a d,SV.ro [Kd.int Z,Kd.int Z] g i] 1)).1 (↑((m40 2 (datS [SV.ro [Kd.int Z,Kd.int Z] a d,SV.ro [Kd.int Z,Kd.int Z] g i] 1)).1):Int) (datS [SV.ro [Kd.int Z,Kd.int Z] a d,SV.ro [Kd.int Z,Kd.int Z] g i] 1) (datS [SV.ro [Kd.int Z,Kd.int Z] a d,SV.ro [Kd.int Z,Kd.int Z] g i] 1) (m41c42 (m40 2 (datS [SV.ro [Kd.int Z,Kd.int Z] a d,SV.ro [Kd.int Z,Kd.int Z] g i] 1)).1 (m40 2 (datS [SV.ro [Kd.int Z,Kd.int Z] a d,SV.ro [Kd.int Z,Kd.int Z] g i] 1)).2.1 (m40 2 (datS [SV.ro [Kd.int Z,Kd.int Z] a d,SV.ro [Kd.int Z,Kd.int Z] g i] 1)).2.2).1 (m41c42 (m40 2 (datS [SV.ro [Kd.int Z,Kd.int Z] a d,SV.ro [Kd.int Z,Kd.int Z] g i] 1)).1 (m40 2 (datS [SV.ro [Kd.int Z,Kd.int Z] a d,SV.ro [Kd.int Z,Kd.int Z] g i] 1)).2.1 (m40 2 (datS [SV.ro [Kd.int Z,Kd.int Z] a d,SV.ro [Kd.int Z,Kd.int Z] g i] 1)).2.2).2 0 0 0 noDat).getD default).2.1 ((o16_0 (m40 2 (datS [SV.ro [Kd.int Z,Kd.int Z] a d,SV.ro [Kd.int Z,Kd.int Z] g i] 1)).1 (↑((m40 2 (datS [SV.ro [Kd.int Z,Kd.int Z] a d,SV.ro [Kd.int Z,Kd.int Z] g i] 1)).1):Int) (datS [SV.ro [Kd.int Z,Kd.int Z] a d,SV.ro [Kd.int Z,Kd.int Z] g i] 1) (datS [SV.ro [Kd.int Z,Kd.int Z] a d,SV.ro [Kd.int Z,Kd.int Z] g i] 1) (m41c42 (m40 2 (datS [SV.ro [Kd.int Z,Kd.int Z] a d,SV.ro [Kd.int Z,Kd.int Z] g i] 1)).1 (m40 2 (datS [SV.ro [Kd.int Z,Kd.int Z] a d,SV.ro [Kd.int Z,Kd.int Z] g i] 1)).2.1 (m40 2 (datS [SV.ro [Kd.int Z,Kd.int Z] a d,SV.ro [Kd.int Z,Kd.int Z] g i] 1)).2.2).1 (m41c42 (m40 2 (datS [SV.ro [Kd.int Z,Kd.int Z] a d,SV.ro [Kd.int Z,Kd.int Z] g i] 1)).1 (m40 2 (datS [SV.ro [Kd.int Z,Kd.int Z] a d,SV.ro [Kd.int Z,Kd.int Z] g i] 1)).2.1 (m40 2 (datS [SV.ro [Kd.int Z,Kd.int Z] a d,SV.ro [Kd.int Z,Kd.int Z] g i] 1)).2.2).2 0 0 0 noDat).getD default).2.2).1,(m44b ((o16_0 (m40 2 (datS [SV.ro [Kd.int Z,Kd.int Z] a d,SV.ro [Kd.int Z,Kd.int Z] g i] 1)).1 (↑((m40 2 (datS [SV.ro [Kd.int Z,Kd.int Z] a d,SV.ro [Kd.int Z,Kd.int Z] g i] 1)).1):Int) (datS [SV.ro [Kd.int Z,Kd.int Z] a d,SV.ro [Kd.int Z,Kd.int Z] g i] 1) (datS [SV.ro [Kd.int Z,Kd.int Z] a d,SV.ro [Kd.int Z,Kd.int Z] g i] 1) (m41c42 (m40 2 (datS [SV.ro [Kd.int Z,Kd.int Z] a d,SV.ro [Kd.int Z,Kd.int Z] g i] 1)).1 (m40 2 (datS [SV.ro [Kd.int Z,Kd.int Z] a d,SV.ro [Kd.int Z,Kd.int Z] g i] 1)).2.1 (m40 2 (datS [SV.ro [Kd.int Z,Kd.int Z] a d,SV.ro [Kd.int Z,Kd.int Z] g i] 1)).2.2).1 (m41c42 (m40 2 (datS [SV.ro [Kd.int Z,Kd.int Z] a d,SV.ro [Kd.int Z,Kd.int Z] g i] 1)).1 (m40 2 (datS [SV.ro [Kd.int Z,Kd.int Z] a d,SV.ro [Kd.int Z,Kd.int Z] g i] 1)).2.1 (m40 2 (datS [SV.ro [Kd.int Z,Kd.int Z] a d,SV.ro [Kd.int Z,Kd.int Z] g i] 1)).2.2).2 0 0 0 noDat).getD default).1 ((o16_0 (m40 2 (datS [SV.ro [Kd.int Z,Kd.int Z] a d,SV.ro [Kd.int Z,Kd.int Z] g i] 1)).1 (↑((m40 2 (datS [SV.ro [Kd.int Z,Kd.int Z] a d,SV.ro [Kd.int Z,Kd.int Z] g i] 1)).1):Int) (datS [SV.ro [Kd.int Z,Kd.int Z] a d,SV.ro [Kd.int Z,Kd.int Z] g i] 1) (datS [SV.ro [Kd.int Z,Kd.int Z] a d,SV.ro [Kd.int Z,Kd.int Z] g i] 1) (m41c42 (m40 2 (datS [SV.ro [Kd.int Z,Kd.int Z] a d,SV.ro [Kd.int Z,Kd.int Z] g i] 1)).1 (m40 2 (datS [SV.ro [Kd.int Z,Kd.int Z] a d,SV.ro [Kd.int Z,Kd.int Z] g i] 1)).2.1 (m40 2 (datS [SV.ro [Kd.int Z,Kd.int Z] a d,SV.ro [Kd.int Z,Kd.int Z] g i] 1)).2.2).1 (m41c42 (m40 2 (datS [SV.ro [Kd.int Z,Kd.int Z] a d,SV.ro [Kd.int Z,Kd.int Z] g i] 1)).1 (m40 2 (datS [SV.ro [Kd.int Z,Kd.int Z] a d,SV.ro [Kd.int Z,Kd.int Z] g i] 1)).2.1 (m40 2 (datS [SV.ro [Kd.int Z,Kd.int Z] a d,SV.ro [Kd.int Z,Kd.int Z] g i] 1)).2.2).2 0 0 0 noDat).getD default).2.1 ((o16_0 (m40 2 (datS [SV.ro [Kd.int Z,Kd.int Z] a d,SV.ro [Kd.int Z,Kd.int Z] g i] 1)).1 (↑((m40 2 (datS [SV.ro [Kd.int Z,Kd.int Z] a d,SV.ro [Kd.int Z,Kd.int Z] g i] 1)).1):Int) (datS [SV.ro [Kd.int Z,Kd.int Z] a d,SV.ro [Kd.int Z,Kd.int Z] g i] 1) (datS [SV.ro [Kd.int Z,Kd.int Z] a d,SV.ro [Kd.int Z,Kd.int Z] g i] 1) (m41c42 (m40 2 (datS [SV.ro [Kd.int Z,Kd.int Z] a d,SV.ro [Kd.int Z,Kd.int Z] g i] 1)).1 (m40 2 (datS [SV.ro [Kd.int Z,Kd.int Z] a d,SV.ro [Kd.int Z,Kd.int Z] g i] 1)).2.1 (m40 2 (datS [SV.ro [Kd.int Z,Kd.int Z] a d,SV.ro [Kd.int Z,Kd.int Z] g i] 1)).2.2).1 (m41c42 (m40 2 (datS [SV.ro [Kd.int Z,Kd.int Z] a d,SV.ro [Kd.int Z,Kd.int Z] g i] 1)).1 (m40 2 (datS [SV.ro [Kd.int Z,Kd.int Z] a d,SV.ro [Kd.int Z,Kd.int Z] g i] 1)).2.1 (m40 2 (datS [SV.ro [Kd.int Z,Kd.int Z] a d,SV.ro [Kd.int Z,Kd.int Z] g i] 1)).2.2).2 0 0 0 noDat).getD default).2.2).2.2.2,(m44b ((o16_0 (m40 2 (datS [SV.ro [Kd.int Z,Kd.int Z] a d,SV.ro [Kd.int Z,Kd.int Z] g i] 1)).1 (↑((m40 2 (datS [SV.ro [Kd.int Z,Kd.int Z] a d,SV.ro [Kd.int Z,Kd.int Z] g i] 1)).1):Int) (datS [SV.ro [Kd.int Z,Kd.int Z] a d,SV.ro [Kd.int Z,Kd.int Z] g i] 1) (datS [SV.ro [Kd.int Z,Kd.int Z] a d,SV.ro [Kd.int Z,Kd.int Z] g i] 1) (m41c42 (m40 2 (datS [SV.ro [Kd.int Z,Kd.int Z] a d,SV.ro [Kd.int Z,Kd.int Z] g i] 1)).1 (m40 2 (datS [SV.ro [Kd.int Z,Kd.int Z] a d,SV.ro [Kd.int Z,Kd.int Z] g i] 1)).2.1 (m40 2 (datS [SV.ro [Kd.int Z,Kd.int Z] a d,SV.ro [Kd.int Z,Kd.int Z] g i] 1)).2.2).1 (m41c42 (m40 2 (datS [SV.ro [Kd.int Z,Kd.int Z] a d,SV.ro [Kd.int Z,Kd.int Z] g i] 1)).1 (m40 2 (datS [SV.ro [Kd.int Z,Kd.int Z] a d,SV.ro [Kd.int Z,Kd.int Z] g i] 1)).2.1 (m40 2 (datS [SV.ro [Kd.int Z,Kd.int Z] a d,SV.ro [Kd.int Z,Kd.int Z] g i] 1)).2.2).2 0 0 0 noDat).getD default).1 ((o16_0 (m40 2 (datS [SV.ro [Kd.int Z,Kd.int Z] a d,SV.ro [Kd.int Z,Kd.int Z] g i] 1)).1 (↑((m40 2 (datS [SV.ro [Kd.int Z,Kd.int Z] a d,SV.ro [Kd.int Z,Kd.int Z] g i] 1)).1):Int) (datS [SV.ro [Kd.int Z,Kd.int Z] a d,SV.ro [Kd.int Z,Kd.int Z] g i] 1) (datS [SV.ro [Kd.int Z,Kd.int Z] a d,SV.ro [Kd.int Z,Kd.int Z] g i] 1) (m41c42 (m40 2 (datS [SV.ro [Kd.int Z,Kd.int Z] a d,SV.ro [Kd.int Z,Kd.int Z] g i] 1)).1 (m40 2 (datS [SV.ro [Kd.int Z,Kd.int Z] a d,SV.ro [Kd.int Z,Kd.int Z] g i] 1)).2.1 (m40 2 (datS [SV.ro [Kd.int Z,Kd.int Z] a d,SV.ro [Kd.int Z,Kd.int Z] g i] 1)).2.2).1 (m41c42 (m40 2 (datS [SV.ro [Kd.int Z,Kd.int Z] a d,SV.ro [Kd.int Z,Kd.int Z] g i] 1)).1 (m40 2 (datS [SV.ro [Kd.int Z,Kd.int Z] a d,SV.ro [Kd.int Z,Kd.int Z] g i] 1)).2.1 (m40 2 (datS [SV.ro [Kd.int Z,Kd.int Z] a d,SV.ro [Kd.int Z,Kd.int Z] g i] 1)).2.2).2 0 0 0 noDat).getD default).2.1 ((o16_0 (m40 2 (datS [SV.ro [Kd.int Z,Kd.int Z] a d,SV.ro [Kd.int Z,Kd.int Z] g i] 1)).1 (↑((m40 2 (datS [SV.ro [Kd.int Z,Kd.int Z] a d,SV.ro [Kd.int Z,Kd.int Z] g i] 1)).1):Int) (datS [SV.ro [Kd.int Z,Kd.int Z] a d,SV.ro [Kd.int Z,Kd.int Z] g i] 1) (datS [SV.ro [Kd.int Z,Kd.int Z] a d,SV.ro [Kd.int Z,Kd.int Z] g i] 1) (m41c42 (m40 2 (datS [SV.ro [Kd.int Z,Kd.int Z] a d,SV.ro [Kd.int Z,Kd.int Z] g i] 1)).1 (m40 2 (datS [SV.ro [Kd.int Z,Kd.int Z] a d,SV.ro [Kd.int Z,Kd.int Z] g i] 1)).2.1 (m40 2 (datS [SV.ro [Kd.int Z,Kd.int Z] a d,SV.ro [Kd.int Z,Kd.int Z] g i] 1)).2.2).1 (m41c42 (m40 2 (datS [SV.ro [Kd.int Z,Kd.int Z] a d,SV.ro [Kd.int Z,Kd.int Z] g i] 1)).1 (m40 2 (datS [SV.ro [Kd.int Z,Kd.int Z] a d,SV.ro [Kd.int Z,Kd.int Z] g i] 1)).2.1 (m40 2 (datS [SV.ro [Kd.int Z,Kd.int Z] a d,SV.ro [Kd.int Z,Kd.int Z] g i] 1)).2.2).2 0 0 0 noDat).getD default).2.2).2.1)))
def n16 (a:Nat) (d:Dat) (g:Nat) (i:Dat):Bool :=
 ((n39 2 (datS [SV.ro [Kd.int Z,Kd.int Z] a d,SV.ro [Kd.int Z,Kd.int Z] g i] 1))&&(cond (bif (decide ((m39 2 (datS [SV.ro [Kd.int Z,Kd.int Z] a d,SV.ro [Kd.int Z,Kd.int Z] g i] 1))=0)) then false else true) true ((n40 2 (datS [SV.ro [Kd.int Z,Kd.int Z] a d,SV.ro [Kd.int Z,Kd.int Z] g i] 1))&&((n41c42 (m40 2 (datS [SV.ro [Kd.int Z,Kd.int Z] a d,SV.ro [Kd.int Z,Kd.int Z] g i] 1)).1 (m40 2 (datS [SV.ro [Kd.int Z,Kd.int Z] a d,SV.ro [Kd.int Z,Kd.int Z] g i] 1)).2.1 (m40 2 (datS [SV.ro [Kd.int Z,Kd.int Z] a d,SV.ro [Kd.int Z,Kd.int Z] g i] 1)).2.2)&&(((o16_0 (m40 2 (datS [SV.ro [Kd.int Z,Kd.int Z] a d,SV.ro [Kd.int Z,Kd.int Z] g i] 1)).1 (↑((m40 2 (datS [SV.ro [Kd.int Z,Kd.int Z] a d,SV.ro [Kd.int Z,Kd.int Z] g i] 1)).1):Int) (datS [SV.ro [Kd.int Z,Kd.int Z] a d,SV.ro [Kd.int Z,Kd.int Z] g i] 1) (datS [SV.ro [Kd.int Z,Kd.int Z] a d,SV.ro [Kd.int Z,Kd.int Z] g i] 1) (m41c42 (m40 2 (datS [SV.ro [Kd.int Z,Kd.int Z] a d,SV.ro [Kd.int Z,Kd.int Z] g i] 1)).1 (m40 2 (datS [SV.ro [Kd.int Z,Kd.int Z] a d,SV.ro [Kd.int Z,Kd.int Z] g i] 1)).2.1 (m40 2 (datS [SV.ro [Kd.int Z,Kd.int Z] a d,SV.ro [Kd.int Z,Kd.int Z] g i] 1)).2.2).1 (m41c42 (m40 2 (datS [SV.ro [Kd.int Z,Kd.int Z] a d,SV.ro [Kd.int Z,Kd.int Z] g i] 1)).1 (m40 2 (datS [SV.ro [Kd.int Z,Kd.int Z] a d,SV.ro [Kd.int Z,Kd.int Z] g i] 1)).2.1 (m40 2 (datS [SV.ro [Kd.int Z,Kd.int Z] a d,SV.ro [Kd.int Z,Kd.int Z] g i] 1)).2.2).2 0 0 0 noDat).isSome)&&(cond (n44a ((o16_0 (m40 2 (datS [SV.ro [Kd.int Z,Kd.int Z] a d,SV.ro [Kd.int Z,Kd.int Z] g i] 1)).1 (↑((m40 2 (datS [SV.ro [Kd.int Z,Kd.int Z] a d,SV.ro [Kd.int Z,Kd.int Z] g i] 1)).1):Int) (datS [SV.ro [Kd.int Z,Kd.int Z] a d,SV.ro [Kd.int Z,Kd.int Z] g i] 1) (datS [SV.ro [Kd.int Z,Kd.int Z] a d,SV.ro [Kd.int Z,Kd.int Z] g i] 1) (m41c42 (m40 2 (datS [SV.ro [Kd.int Z,Kd.int Z] a d,SV.ro [Kd.int Z,Kd.int Z] g i] 1)).1 (m40 2 (datS [SV.ro [Kd.int Z,Kd.int Z] a d,SV.ro [Kd.int Z,Kd.int Z] g i] 1)).2.1 (m40 2 (datS [SV.ro [Kd.int Z,Kd.int Z] a d,SV.ro [Kd.int Z,Kd.int Z] g i] 1)).2.2).1 (m41c42 (m40 2 (datS [SV.ro [Kd.int Z,Kd.int Z] a d,SV.ro [Kd.int Z,Kd.int Z] g i] 1)).1 (m40 2 (datS [SV.ro [Kd.int Z,Kd.int Z] a d,SV.ro [Kd.int Z,Kd.int Z] g i] 1)).2.1 (m40 2 (datS [SV.ro [Kd.int Z,Kd.int Z] a d,SV.ro [Kd.int Z,Kd.int Z] g i] 1)).2.2).2 0 0 0 noDat).getD default).1 ((o16_0 (m40 2 (datS [SV.ro [Kd.int Z,Kd.int Z] a d,SV.ro [Kd.int Z,Kd.int Z] g i] 1)).1 (↑((m40 2 (datS [SV.ro [Kd.int Z,Kd.int Z] a d,SV.ro [Kd.int Z,Kd.int Z] g i] 1)).1):Int) (datS [SV.ro [Kd.int Z,Kd.int Z] a d,SV.ro [Kd.int Z,Kd.int Z] g i] 1) (datS [SV.ro [Kd.int Z,Kd.int Z] a d,SV.ro [Kd.int Z,Kd.int Z] g i] 1) (m41c42 (m40 2 (datS [SV.ro [Kd.int Z,Kd.int Z] a d,SV.ro [Kd.int Z,Kd.int Z] g i] 1)).1 (m40 2 (datS [SV.ro [Kd.int Z,Kd.int Z] a d,SV.ro [Kd.int Z,Kd.int Z] g i] 1)).2.1 (m40 2 (datS [SV.ro [Kd.int Z,Kd.int Z] a d,SV.ro [Kd.int Z,Kd.int Z] g i] 1)).2.2).1 (m41c42 (m40 2 (datS [SV.ro [Kd.int Z,Kd.int Z] a d,SV.ro [Kd.int Z,Kd.int Z] g i] 1)).1 (m40 2 (datS [SV.ro [Kd.int Z,Kd.int Z] a d,SV.ro [Kd.int Z,Kd.int Z] g i] 1)).2.1 (m40 2 (datS [SV.ro [Kd.int Z,Kd.int Z] a d,SV.ro [Kd.int Z,Kd.int Z] g i] 1)).2.2).2 0 0 0 noDat).getD default).2.1 ((o16_0 (m40 2 (datS [SV.ro [Kd.int Z,Kd.int Z] a d,SV.ro [Kd.int Z,Kd.int Z] g i] 1)).1 (↑((m40 2 (datS [SV.ro [Kd.int Z,Kd.int Z] a d,SV.ro [Kd.int Z,Kd.int Z] g i] 1)).1):Int) (datS [SV.ro [Kd.int Z,Kd.int Z] a d,SV.ro [Kd.int Z,Kd.int Z] g i] 1) (datS [SV.ro [Kd.int Z,Kd.int Z] a d,SV.ro [Kd.int Z,Kd.int Z] g i] 1) (m41c42 (m40 2 (datS [SV.ro [Kd.int Z,Kd.int Z] a d,SV.ro [Kd.int Z,Kd.int Z] g i] 1)).1 (m40 2 (datS [SV.ro [Kd.int Z,Kd.int Z] a d,SV.ro [Kd.int Z,Kd.int Z] g i] 1)).2.1 (m40 2 (datS [SV.ro [Kd.int Z,Kd.int Z] a d,SV.ro [Kd.int Z,Kd.int Z] g i] 1)).2.2).1 (m41c42 (m40 2 (datS [SV.ro [Kd.int Z,Kd.int Z] a d,SV.ro [Kd.int Z,Kd.int Z] g i] 1)).1 (m40 2 (datS [SV.ro [Kd.int Z,Kd.int Z] a d,SV.ro [Kd.int Z,Kd.int Z] g i] 1)).2.1 (m40 2 (datS [SV.ro [Kd.int Z,Kd.int Z] a d,SV.ro [Kd.int Z,Kd.int Z] g i] 1)).2.2).2 0 0 0 noDat).getD default).2.2) ((n44a ((o16_0 (m40 2 (datS [SV.ro [Kd.int Z,Kd.int Z] a d,SV.ro [Kd.int Z,Kd.int Z] g i] 1)).1 (↑((m40 2 (datS [SV.ro [Kd.int Z,Kd.int Z] a d,SV.ro [Kd.int Z,Kd.int Z] g i] 1)).1):Int) (datS [SV.ro [Kd.int Z,Kd.int Z] a d,SV.ro [Kd.int Z,Kd.int Z] g i] 1) (datS [SV.ro [Kd.int Z,Kd.int Z] a d,SV.ro [Kd.int Z,Kd.int Z] g i] 1) (m41c42 (m40 2 (datS [SV.ro [Kd.int Z,Kd.int Z] a d,SV.ro [Kd.int Z,Kd.int Z] g i] 1)).1 (m40 2 (datS [SV.ro [Kd.int Z,Kd.int Z] a d,SV.ro [Kd.int Z,Kd.int Z] g i] 1)).2.1 (m40 2 (datS [SV.ro [Kd.int Z,Kd.int Z] a d,SV.ro [Kd.int Z,Kd.int Z] g i] 1)).2.2).1 (m41c42 (m40 2 (datS [SV.ro [Kd.int Z,Kd.int Z] a d,SV.ro [Kd.int Z,Kd.int Z] g i] 1)).1 (m40 2 (datS [SV.ro [Kd.int Z,Kd.int Z] a d,SV.ro [Kd.int Z,Kd.int Z] g i] 1)).2.1 (m40 2 (datS [SV.ro [Kd.int Z,Kd.int Z] a d,SV.ro [Kd.int Z,Kd.int Z] g i] 1)).2.2).2 0 0 0 noDat).getD default).1 ((o16_0 (m40 2 (datS [SV.ro [Kd.int Z,Kd.int Z] a d,SV.ro [Kd.int Z,Kd.int Z] g i] 1)).1 (↑((m40 2 (datS [SV.ro [Kd.int Z,Kd.int Z] a d,SV.ro [Kd.int Z,Kd.int Z] g i] 1)).1):Int) (datS [SV.ro [Kd.int Z,Kd.int Z] a d,SV.ro [Kd.int Z,Kd.int Z] g i] 1) (datS [SV.ro [Kd.int Z,Kd.int Z] a d,SV.ro [Kd.int Z,Kd.int Z] g i] 1) (m41c42 (m40 2 (datS [SV.ro [Kd.int Z,Kd.int Z] a d,SV.ro [Kd.int Z,Kd.int Z] g i] 1)).1 (m40 2 (datS [SV.ro [Kd.int Z,Kd.int Z] a d,SV.ro [Kd.int Z,Kd.int Z] g i] 1)).2.1 (m40 2 (datS [SV.ro [Kd.int Z,Kd.int Z] a d,SV.ro [Kd.int Z,Kd.int Z] g i] 1)).2.2).1 (m41c42 (m40 2 (datS [SV.ro [Kd.int Z,Kd.int Z] a d,SV.ro [Kd.int Z,Kd.int Z] g i] 1)).1 (m40 2 (datS [SV.ro [Kd.int Z,Kd.int Z] a d,SV.ro [Kd.int Z,Kd.int Z] g i] 1)).2.1 (m40 2 (datS [SV.ro [Kd.int Z,Kd.int Z] a d,SV.ro [Kd.int Z,Kd.int Z] g i] 1)).2.2).2 0 0 0 noDat).getD default).2.1 ((o16_0 (m40 2 (datS [SV.ro [Kd.int Z,Kd.int Z] a d,SV.ro [Kd.int Z,Kd.int Z] g i] 1)).1 (↑((m40 2 (datS [SV.ro [Kd.int Z,Kd.int Z] a d,SV.ro [Kd.int Z,Kd.int Z] g i] 1)).1):Int) (datS [SV.ro [Kd.int Z,Kd.int Z] a d,SV.ro [Kd.int Z,Kd.int Z] g i] 1) (datS [SV.ro [Kd.int Z,Kd.int Z] a d,SV.ro [Kd.int Z,Kd.int Z] g i] 1) (m41c42 (m40 2 (datS [SV.ro [Kd.int Z,Kd.int Z] a d,SV.ro [Kd.int Z,Kd.int Z] g i] 1)).1 (m40 2 (datS [SV.ro [Kd.int Z,Kd.int Z] a d,SV.ro [Kd.int Z,Kd.int Z] g i] 1)).2.1 (m40 2 (datS [SV.ro [Kd.int Z,Kd.int Z] a d,SV.ro [Kd.int Z,Kd.int Z] g i] 1)).2.2).1 (m41c42 (m40 2 (datS [SV.ro [Kd.int Z,Kd.int Z] a d,SV.ro [Kd.int Z,Kd.int Z] g i] 1)).1 (m40 2 (datS [SV.ro [Kd.int Z,Kd.int Z] a d,SV.ro [Kd.int Z,Kd.int Z] g i] 1)).2.1 (m40 2 (datS [SV.ro [Kd.int Z,Kd.int Z] a d,SV.ro [Kd.int Z,Kd.int Z] g i] 1)).2.2).2 0 0 0 noDat).getD default).2.2)&&true) ((n44b ((o16_0 (m40 2 (datS [SV.ro [Kd.int Z,Kd.int Z] a d,SV.ro [Kd.int Z,Kd.int Z] g i] 1)).1 (↑((m40 2 (datS [SV.ro [Kd.int Z,Kd.int Z] a d,SV.ro [Kd.int Z,Kd.int Z] g i] 1)).1):Int) (datS [SV.ro [Kd.int Z,Kd.int Z] a d,SV.ro [Kd.int Z,Kd.int Z] g i] 1) (datS [SV.ro [Kd.int Z,Kd.int Z] a d,SV.ro [Kd.int Z,Kd.int Z] g i] 1) (m41c42 (m40 2 (datS [SV.ro [Kd.int Z,Kd.int Z] a d,SV.ro [Kd.int Z,Kd.int Z] g i] 1)).1 (m40 2 (datS [SV.ro [Kd.int Z,Kd.int Z] a d,SV.ro [Kd.int Z,Kd.int Z] g i] 1)).2.1 (m40 2 (datS [SV.ro [Kd.int Z,Kd.int Z] a d,SV.ro [Kd.int Z,Kd.int Z] g i] 1)).2.2).1 (m41c42 (m40 2 (datS [SV.ro [Kd.int Z,Kd.int Z] a d,SV.ro [Kd.int Z,Kd.int Z] g i] 1)).1 (m40 2 (datS [SV.ro [Kd.int Z,Kd.int Z] a d,SV.ro [Kd.int Z,Kd.int Z] g i] 1)).2.1 (m40 2 (datS [SV.ro [Kd.int Z,Kd.int Z] a d,SV.ro [Kd.int Z,Kd.int Z] g i] 1)).2.2).2 0 0 0 noDat).getD default).1 ((o16_0 (m40 2 (datS [SV.ro [Kd.int Z,Kd.int Z] a d,SV.ro [Kd.int Z,Kd.int Z] g i] 1)).1 (↑((m40 2 (datS [SV.ro [Kd.int Z,Kd.int Z] a d,SV.ro [Kd.int Z,Kd.int Z] g i] 1)).1):Int) (datS [SV.ro [Kd.int Z,Kd.int Z] a d,SV.ro [Kd.int Z,Kd.int Z] g i] 1) (datS [SV.ro [Kd.int Z,Kd.int Z] a d,SV.ro [Kd.int Z,Kd.int Z] g i] 1) (m41c42 (m40 2 (datS [SV.ro [Kd.int Z,Kd.int Z] a d,SV.ro [Kd.int Z,Kd.int Z] g i] 1)).1 (m40 2 (datS [SV.ro [Kd.int Z,Kd.int Z] a d,SV.ro [Kd.int Z,Kd.int Z] g i] 1)).2.1 (m40 2 (datS [SV.ro [Kd.int Z,Kd.int Z] a d,SV.ro [Kd.int Z,Kd.int Z] g i] 1)).2.2).1 (m41c42 (m40 2 (datS [SV.ro [Kd.int Z,Kd.int Z] a d,SV.ro [Kd.int Z,Kd.int Z] g i] 1)).1 (m40 2 (datS [SV.ro [Kd.int Z,Kd.int Z] a d,SV.ro [Kd.int Z,Kd.int Z] g i] 1)).2.1 (m40 2 (datS [SV.ro [Kd.int Z,Kd.int Z] a d,SV.ro [Kd.int Z,Kd.int Z] g i] 1)).2.2).2 0 0 0 noDat).getD default).2.1 ((o16_0 (m40 2 (datS [SV.ro [Kd.int Z,Kd.int Z] a d,SV.ro [Kd.int Z,Kd.int Z] g i] 1)).1 (↑((m40 2 (datS [SV.ro [Kd.int Z,Kd.int Z] a d,SV.ro [Kd.int Z,Kd.int Z] g i] 1)).1):Int) (datS [SV.ro [Kd.int Z,Kd.int Z] a d,SV.ro [Kd.int Z,Kd.int Z] g i] 1) (datS [SV.ro [Kd.int Z,Kd.int Z] a d,SV.ro [Kd.int Z,Kd.int Z] g i] 1) (m41c42 (m40 2 (datS [SV.ro [Kd.int Z,Kd.int Z] a d,SV.ro [Kd.int Z,Kd.int Z] g i] 1)).1 (m40 2 (datS [SV.ro [Kd.int Z,Kd.int Z] a d,SV.ro [Kd.int Z,Kd.int Z] g i] 1)).2.1 (m40 2 (datS [SV.ro [Kd.int Z,Kd.int Z] a d,SV.ro [Kd.int Z,Kd.int Z] g i] 1)).2.2).1 (m41c42 (m40 2 (datS [SV.ro [Kd.int Z,Kd.int Z] a d,SV.ro [Kd.int Z,Kd.int Z] g i] 1)).1 (m40 2 (datS [SV.ro [Kd.int Z,Kd.int Z] a d,SV.ro [Kd.int Z,Kd.int Z] g i] 1)).2.1 (m40 2 (datS [SV.ro [Kd.int Z,Kd.int Z] a d,SV.ro [Kd.int Z,Kd.int Z] g i] 1)).2.2).2 0 0 0 noDat).getD default).2.2)&&((decide ((0+(m44b ((o16_0 (m40 2 (datS [SV.ro [Kd.int Z,Kd.int Z] a d,SV.ro [Kd.int Z,Kd.int Z] g i] 1)).1 (↑((m40 2 (datS [SV.ro [Kd.int Z,Kd.int Z] a d,SV.ro [Kd.int Z,Kd.int Z] g i] 1)).1):Int) (datS [SV.ro [Kd.int Z,Kd.int Z] a d,SV.ro [Kd.int Z,Kd.int Z] g i] 1) (datS [SV.ro [Kd.int Z,Kd.int Z] a d,SV.ro [Kd.int Z,Kd.int Z] g i] 1) (m41c42 (m40 2 (datS [SV.ro [Kd.int Z,Kd.int Z] a d,SV.ro [Kd.int Z,Kd.int Z] g i] 1)).1 (m40 2 (datS [SV.ro [Kd.int Z,Kd.int Z] a d,SV.ro [Kd.int Z,Kd.int Z] g i] 1)).2.1 (m40 2 (datS [SV.ro [Kd.int Z,Kd.int Z] a d,SV.ro [Kd.int Z,Kd.int Z] g i] 1)).2.2).1 (m41c42 (m40 2 (datS [SV.ro [Kd.int Z,Kd.int Z] a d,SV.ro [Kd.int Z,Kd.int Z] g i] 1)).1 (m40 2 (datS [SV.ro [Kd.int Z,Kd.int Z] a d,SV.ro [Kd.int Z,Kd.int Z] g i] 1)).2.1 (m40 2 (datS [SV.ro [Kd.int Z,Kd.int Z] a d,SV.ro [Kd.int Z,Kd.int Z] g i] 1)).2.2).2 0 0 0 noDat).getD default).1 ((o16_0 (m40 2 (datS [SV.ro [Kd.int Z,Kd.int Z] a d,SV.ro [Kd.int Z,Kd.int Z] g i] 1)).1 (↑((m40 2 (datS [SV.ro [Kd.int Z,Kd.int Z] a d,SV.ro [Kd.int Z,Kd.int Z] g i] 1)).1):Int) (datS [SV.ro [Kd.int Z,Kd.int Z] a d,SV.ro [Kd.int Z,Kd.int Z] g i] 1) (datS [SV.ro [Kd.int Z,Kd.int Z] a d,SV.ro [Kd.int Z,Kd.int Z] g i] 1) (m41c42 (m40 2 (datS [SV.ro [Kd.int Z,Kd.int Z] a d,SV.ro [Kd.int Z,Kd.int Z] g i] 1)).1 (m40 2 (datS [SV.ro [Kd.int Z,Kd.int Z] a d,SV.ro [Kd.int Z,Kd.int Z] g i] 1)).2.1 (m40 2 (datS [SV.ro [Kd.int Z,Kd.int Z] a d,SV.ro [Kd.int Z,Kd.int Z] g i] 1)).2.2).1 (m41c42 (m40 2 (datS [SV.ro [Kd.int Z,Kd.int Z] a d,SV.ro [Kd.int Z,Kd.int Z] g i] 1)).1 (m40 2 (datS [SV.ro [Kd.int Z,Kd.int Z] a d,SV.ro [Kd.int Z,Kd.int Z] g i] 1)).2.1 (m40 2 (datS [SV.ro [Kd.int Z,Kd.int Z] a d,SV.ro [Kd.int Z,Kd.int Z] g i] 1)).2.2).2 0 0 0 noDat).getD default).2.1 ((o16_0 (m40 2 (datS [SV.ro [Kd.int Z,Kd.int Z] a d,SV.ro [Kd.int Z,Kd.int Z] g i] 1)).1 (↑((m40 2 (datS [SV.ro [Kd.int Z,Kd.int Z] a d,SV.ro [Kd.int Z,Kd.int Z] g i] 1)).1):Int) (datS [SV.ro [Kd.int Z,Kd.int Z] a d,SV.ro [Kd.int Z,Kd.int Z] g i] 1) (datS [SV.ro [Kd.int Z,Kd.int Z] a d,SV.ro [Kd.int Z,Kd.int Z] g i] 1) (m41c42 (m40 2 (datS [SV.ro [Kd.int Z,Kd.int Z] a d,SV.ro [Kd.int Z,Kd.int Z] g i] 1)).1 (m40 2 (datS [SV.ro [Kd.int Z,Kd.int Z] a d,SV.ro [Kd.int Z,Kd.int Z] g i] 1)).2.1 (m40 2 (datS [SV.ro [Kd.int Z,Kd.int Z] a d,SV.ro [Kd.int Z,Kd.int Z] g i] 1)).2.2).1 (m41c42 (m40 2 (datS [SV.ro [Kd.int Z,Kd.int Z] a d,SV.ro [Kd.int Z,Kd.int Z] g i] 1)).1 (m40 2 (datS [SV.ro [Kd.int Z,Kd.int Z] a d,SV.ro [Kd.int Z,Kd.int Z] g i] 1)).2.1 (m40 2 (datS [SV.ro [Kd.int Z,Kd.int Z] a d,SV.ro [Kd.int Z,Kd.int Z] g i] 1)).2.2).2 0 0 0 noDat).getD default).2.2).1)≤(m44b ((o16_0 (m40 2 (datS [SV.ro [Kd.int Z,Kd.int Z] a d,SV.ro [Kd.int Z,Kd.int Z] g i] 1)).1 (↑((m40 2 (datS [SV.ro [Kd.int Z,Kd.int Z] a d,SV.ro [Kd.int Z,Kd.int Z] g i] 1)).1):Int) (datS [SV.ro [Kd.int Z,Kd.int Z] a d,SV.ro [Kd.int Z,Kd.int Z] g i] 1) (datS [SV.ro [Kd.int Z,Kd.int Z] a d,SV.ro [Kd.int Z,Kd.int Z] g i] 1) (m41c42 (m40 2 (datS [SV.ro [Kd.int Z,Kd.int Z] a d,SV.ro [Kd.int Z,Kd.int Z] g i] 1)).1 (m40 2 (datS [SV.ro [Kd.int Z,Kd.int Z] a d,SV.ro [Kd.int Z,Kd.int Z] g i] 1)).2.1 (m40 2 (datS [SV.ro [Kd.int Z,Kd.int Z] a d,SV.ro [Kd.int Z,Kd.int Z] g i] 1)).2.2).1 (m41c42 (m40 2 (datS [SV.ro [Kd.int Z,Kd.int Z] a d,SV.ro [Kd.int Z,Kd.int Z] g i] 1)).1 (m40 2 (datS [SV.ro [Kd.int Z,Kd.int Z] a d,SV.ro [Kd.int Z,Kd.int Z] g i] 1)).2.1 (m40 2 (datS [SV.ro [Kd.int Z,Kd.int Z] a d,SV.ro [Kd.int Z,Kd.int Z] g i] 1)).2.2).2 0 0 0 noDat).getD default).1 ((o16_0 (m40 2 (datS [SV.ro [Kd.int Z,Kd.int Z] a d,SV.ro [Kd.int Z,Kd.int Z] g i] 1)).1 (↑((m40 2 (datS [SV.ro [Kd.int Z,Kd.int Z] a d,SV.ro [Kd.int Z,Kd.int Z] g i] 1)).1):Int) (datS [SV.ro [Kd.int Z,Kd.int Z] a d,SV.ro [Kd.int Z,Kd.int Z] g i] 1) (datS [SV.ro [Kd.int Z,Kd.int Z] a d,SV.ro [Kd.int Z,Kd.int Z] g i] 1) (m41c42 (m40 2 (datS [SV.ro [Kd.int Z,Kd.int Z] a d,SV.ro [Kd.int Z,Kd.int Z] g i] 1)).1 (m40 2 (datS [SV.ro [Kd.int Z,Kd.int Z] a d,SV.ro [Kd.int Z,Kd.int Z] g i] 1)).2.1 (m40 2 (datS [SV.ro [Kd.int Z,Kd.int Z] a d,SV.ro [Kd.int Z,Kd.int Z] g i] 1)).2.2).1 (m41c42 (m40 2 (datS [SV.ro [Kd.int Z,Kd.int Z] a d,SV.ro [Kd.int Z,Kd.int Z] g i] 1)).1 (m40 2 (datS [SV.ro [Kd.int Z,Kd.int Z] a d,SV.ro [Kd.int Z,Kd.int Z] g i] 1)).2.1 (m40 2 (datS [SV.ro [Kd.int Z,Kd.int Z] a d,SV.ro [Kd.int Z,Kd.int Z] g i] 1)).2.2).2 0 0 0 noDat).getD default).2.1 ((o16_0 (m40 2 (datS [SV.ro [Kd.int Z,Kd.int Z] a d,SV.ro [Kd.int Z,Kd.int Z] g i] 1)).1 (↑((m40 2 (datS [SV.ro [Kd.int Z,Kd.int Z] a d,SV.ro [Kd.int Z,Kd.int Z] g i] 1)).1):Int) (datS [SV.ro [Kd.int Z,Kd.int Z] a d,SV.ro [Kd.int Z,Kd.int Z] g i] 1) (datS [SV.ro [Kd.int Z,Kd.int Z] a d,SV.ro [Kd.int Z,Kd.int Z] g i] 1) (m41c42 (m40 2 (datS [SV.ro [Kd.int Z,Kd.int Z] a d,SV.ro [Kd.int Z,Kd.int Z] g i] 1)).1 (m40 2 (datS [SV.ro [Kd.int Z,Kd.int Z] a d,SV.ro [Kd.int Z,Kd.int Z] g i] 1)).2.1 (m40 2 (datS [SV.ro [Kd.int Z,Kd.int Z] a d,SV.ro [Kd.int Z,Kd.int Z] g i] 1)).2.2).1 (m41c42 (m40 2 (datS [SV.ro [Kd.int Z,Kd.int Z] a d,SV.ro [Kd.int Z,Kd.int Z] g i] 1)).1 (m40 2 (datS [SV.ro [Kd.int Z,Kd.int Z] a d,SV.ro [Kd.int Z,Kd.int Z] g i] 1)).2.1 (m40 2 (datS [SV.ro [Kd.int Z,Kd.int Z] a d,SV.ro [Kd.int Z,Kd.int Z] g i] 1)).2.2).2 0 0 0 noDat).getD default).2.2).2.2.1))&&true))))))))
def q16 (r:Nat × Dat × Int):SV × List Blk × List Blk:=(.tup [.ro [W Z,W Z] r.1 r.2.1,V Z r.2.2],[],[])
def g16:GF:=fun vs bs=>match vs,bs with
 | [.ro [W Z,W Z] a d,.ro [W Z,W Z] g i],[]=>some (rs 0 (q16 (m16 a d g i)) [n16 a d g i])
 | _,_=>none
def c16:Ctr:=genC [.ro [W Z,W Z],.ro [W Z,W Z]] g16
theorem k16:CtrOk Tryz.prog c16 16:=cx (tc k39 (tc k43 (tc k44a (tc k44b (tc k40 (tc k41c42 (tc k42 tn))))))) mix_ok 8 (fn:=Tryz.f16) (c:=(Tryz.f16.body.getD .skip)) (grs:=[]) (rh:=.t [.ro [W Z,W Z],.k]) Tryz.func16 rfl (by kernel_rfl) (lam_of rfl (lc z16_0 ln)) fun vs bs q h hn=>by
 unfold g16 at h
 split at h <;> cases h
 rename_i a d g i
 have hn:=n1 hn
 exact ⟨_,rfl,ca (fun R => 
 let b0:=(datS [SV.ro [Kd.int Z,Kd.int Z] a d,SV.ro [Kd.int Z,Kd.int Z] g i] 1)
 let a0:=(o16_0 (m40 2 b0).1 (↑((m40 2 b0).1):Int) b0 b0 (m41c42 (m40 2 b0).1 (m40 2 b0).2.1 (m40 2 b0).2.2).1 (m41c42 (m40 2 b0).1 (m40 2 b0).2.1 (m40 2 b0).2.2).2 0 0 0 noDat)
 let c0:=(m44b (a0.getD default).1 (a0.getD default).2.1 (a0.getD default).2.2)
 (cnd (n39 2 b0)
 (cnd (bif (decide ((m39 2 b0)=0)) then false else true)
 (R (.tup [.ro [W Z,W Z] 0 noDat,V Z (m39 2 b0)]) [] [])
 (cnd (n40 2 b0)
 (cnd (n41c42 (m40 2 b0).1 (m40 2 b0).2.1 (m40 2 b0).2.2)
 (cnd (a0.isSome)
   ((cnd (n44a (a0.getD default).1 (a0.getD default).2.1 (a0.getD default).2.2)
 (R (.tup [.ro [W Z,W Z] 0 noDat,V Z (m44a (a0.getD default).1 (a0.getD default).2.1 (a0.getD default).2.2)]) [] [])
    False) ∨
 (cnd (n44b (a0.getD default).1 (a0.getD default).2.1 (a0.getD default).2.2)
 (cnd (decide ((0+c0.1)≤c0.2.2.1))
 (R (.tup [.ro [W Z,W Z] c0.1 c0.2.2.2,V Z c0.2.1]) [] [])
     False)
    False))
   False)
   False)
  False))
 False)) (fun R=>by kernel_rfl) (cn (al hn) (co (fun h0=>lf (cT h0 rfl) rfl) (fun h0=>cn (al (cf h0 (ar hn))) (cn (al (ar (cf h0 (ar hn)))) (cn (al (ar (ar (cf h0 (ar hn))))) (or_of (b:=(n44a ((o16_0 (m40 2 (datS [SV.ro [Kd.int Z,Kd.int Z] a d,SV.ro [Kd.int Z,Kd.int Z] g i] 1)).1 (↑((m40 2 (datS [SV.ro [Kd.int Z,Kd.int Z] a d,SV.ro [Kd.int Z,Kd.int Z] g i] 1)).1):Int) (datS [SV.ro [Kd.int Z,Kd.int Z] a d,SV.ro [Kd.int Z,Kd.int Z] g i] 1) (datS [SV.ro [Kd.int Z,Kd.int Z] a d,SV.ro [Kd.int Z,Kd.int Z] g i] 1) (m41c42 (m40 2 (datS [SV.ro [Kd.int Z,Kd.int Z] a d,SV.ro [Kd.int Z,Kd.int Z] g i] 1)).1 (m40 2 (datS [SV.ro [Kd.int Z,Kd.int Z] a d,SV.ro [Kd.int Z,Kd.int Z] g i] 1)).2.1 (m40 2 (datS [SV.ro [Kd.int Z,Kd.int Z] a d,SV.ro [Kd.int Z,Kd.int Z] g i] 1)).2.2).1 (m41c42 (m40 2 (datS [SV.ro [Kd.int Z,Kd.int Z] a d,SV.ro [Kd.int Z,Kd.int Z] g i] 1)).1 (m40 2 (datS [SV.ro [Kd.int Z,Kd.int Z] a d,SV.ro [Kd.int Z,Kd.int Z] g i] 1)).2.1 (m40 2 (datS [SV.ro [Kd.int Z,Kd.int Z] a d,SV.ro [Kd.int Z,Kd.int Z] g i] 1)).2.2).2 0 0 0 noDat).getD default).1 ((o16_0 (m40 2 (datS [SV.ro [Kd.int Z,Kd.int Z] a d,SV.ro [Kd.int Z,Kd.int Z] g i] 1)).1 (↑((m40 2 (datS [SV.ro [Kd.int Z,Kd.int Z] a d,SV.ro [Kd.int Z,Kd.int Z] g i] 1)).1):Int) (datS [SV.ro [Kd.int Z,Kd.int Z] a d,SV.ro [Kd.int Z,Kd.int Z] g i] 1) (datS [SV.ro [Kd.int Z,Kd.int Z] a d,SV.ro [Kd.int Z,Kd.int Z] g i] 1) (m41c42 (m40 2 (datS [SV.ro [Kd.int Z,Kd.int Z] a d,SV.ro [Kd.int Z,Kd.int Z] g i] 1)).1 (m40 2 (datS [SV.ro [Kd.int Z,Kd.int Z] a d,SV.ro [Kd.int Z,Kd.int Z] g i] 1)).2.1 (m40 2 (datS [SV.ro [Kd.int Z,Kd.int Z] a d,SV.ro [Kd.int Z,Kd.int Z] g i] 1)).2.2).1 (m41c42 (m40 2 (datS [SV.ro [Kd.int Z,Kd.int Z] a d,SV.ro [Kd.int Z,Kd.int Z] g i] 1)).1 (m40 2 (datS [SV.ro [Kd.int Z,Kd.int Z] a d,SV.ro [Kd.int Z,Kd.int Z] g i] 1)).2.1 (m40 2 (datS [SV.ro [Kd.int Z,Kd.int Z] a d,SV.ro [Kd.int Z,Kd.int Z] g i] 1)).2.2).2 0 0 0 noDat).getD default).2.1 ((o16_0 (m40 2 (datS [SV.ro [Kd.int Z,Kd.int Z] a d,SV.ro [Kd.int Z,Kd.int Z] g i] 1)).1 (↑((m40 2 (datS [SV.ro [Kd.int Z,Kd.int Z] a d,SV.ro [Kd.int Z,Kd.int Z] g i] 1)).1):Int) (datS [SV.ro [Kd.int Z,Kd.int Z] a d,SV.ro [Kd.int Z,Kd.int Z] g i] 1) (datS [SV.ro [Kd.int Z,Kd.int Z] a d,SV.ro [Kd.int Z,Kd.int Z] g i] 1) (m41c42 (m40 2 (datS [SV.ro [Kd.int Z,Kd.int Z] a d,SV.ro [Kd.int Z,Kd.int Z] g i] 1)).1 (m40 2 (datS [SV.ro [Kd.int Z,Kd.int Z] a d,SV.ro [Kd.int Z,Kd.int Z] g i] 1)).2.1 (m40 2 (datS [SV.ro [Kd.int Z,Kd.int Z] a d,SV.ro [Kd.int Z,Kd.int Z] g i] 1)).2.2).1 (m41c42 (m40 2 (datS [SV.ro [Kd.int Z,Kd.int Z] a d,SV.ro [Kd.int Z,Kd.int Z] g i] 1)).1 (m40 2 (datS [SV.ro [Kd.int Z,Kd.int Z] a d,SV.ro [Kd.int Z,Kd.int Z] g i] 1)).2.1 (m40 2 (datS [SV.ro [Kd.int Z,Kd.int Z] a d,SV.ro [Kd.int Z,Kd.int Z] g i] 1)).2.2).2 0 0 0 noDat).getD default).2.2)) (fun h1=>cn (al (ct h1 (ar (ar (ar (cf h0 (ar hn))))))) (lf (cF h0 (cT h1 rfl)) rfl)) (fun h1=>cn (al (cf h1 (ar (ar (ar (cf h0 (ar hn))))))) (cn (al (ar (cf h1 (ar (ar (ar (cf h0 (ar hn)))))))) (lf (cF h0 (cF h1 rfl)) rfl)))))))))⟩

/-! ### shotline/shotlinelaw08.awake -/
def b4_0:Bool:=n14 m15.1 1 m15.2 512
def b4_1:Bool:=eqv 9 (q14 (m14 m15.1 1 m15.2 512)).1 (.tup [.agg [V Z (270),V Z (271)],V Z (0)])
def b4_2:Bool:=n16 2 (datS [V Z 0,V Z 10,V Z 20,V Z 30] 2) 1 (datS [V Z 5,V Z 25] 2)
def b4_3:Bool:=eqv 9 (q16 (m16 2 (datS [V Z 0,V Z 10,V Z 20,V Z 30] 2) 1 (datS [V Z 5,V Z 25] 2))).1 (.tup [.ro [W Z,W Z] 1 (datS [V Z (0),V Z (30)] 2),V Z (0)])
def b4_4:Bool:=n17 3 m18.1 3 m18.2 0 2
def b4_5:Bool:=eqv 9 (q17 (m17 3 m18.1 3 m18.2 0 2)).1 (.tup [.ro [W Z] 3 (datS [V Z (0),V Z (1),V Z (2)] 1),V Z (20),V Z (0)])
def b4_6:Bool:=n19 3 m18.1 3 m18.2 100 3 (datS [V Z 0,V Z 1,V Z 2] 1) 3 (datS [V Z 0,V Z 5,V Z 5] 1)
def b4_7:Bool:=eqv 9 (q19 (m19 3 m18.1 3 m18.2 100 3 (datS [V Z 0,V Z 1,V Z 2] 1) 3 (datS [V Z 0,V Z 5,V Z 5] 1))).1 (.tup [.ro [W Z,W Z] 3 (datS [V Z (100),V Z (100),V Z (110),V Z (115),V Z (125),V Z (130)] 2),V Z (0)])
def b4_8:Bool:=n20 1 (datS [V Z 0,V Z 30] 2) 1 (datS [V Z 0,V Z 30] 2)
def b4_9:Bool:=eqv 9 (.bool (m20 1 (datS [V Z 0,V Z 30] 2) 1 (datS [V Z 0,V Z 30] 2))) (.bool true)
theorem x4 (R:SV→List Blk→List Blk→Prop):exec Tryz.prog [(3,cSeal),(14,litC c14 (.tup [.agg [V Z (270),V Z (271)],V Z (0)])),(17,litC c17 (.tup [.ro [W Z] 3 (datS [V Z (0),V Z (1),V Z (2)] 1),V Z (20),V Z (0)])),(16,litC c16 (.tup [.ro [W Z,W Z] 1 (datS [V Z (0),V Z (30)] 2),V Z (0)])),(20,litC c20 (.bool true)),(19,litC c19 (.tup [.ro [W Z,W Z] 3 (datS [V Z (100),V Z (100),V Z (110),V Z (115),V Z (125),V Z (130)] 2),V Z (0)])),(15,c15),(18,c18)] (fun _=>none) 8 (Tryz.f4.body.getD .skip) (initS Tryz.f4.ntmps [] 0 (memOf [])) (retK Tryz.prog Tryz.f4.results.toList (outK 0 (List.range 0) [] (.k) fun v U N=>R v U N)) =
 (cnd b4_0 (cnd b4_1 (cnd b4_2 (cnd b4_3 (cnd b4_4 (cnd b4_5 (cnd b4_6 (cnd b4_7 (cnd b4_8 (cnd b4_9 (R (.bool true) [] []) False) False) False) False) False) False) False) False) False) False):=by kernel_rfl
def m4:Bool:=true
def n4:Bool:=(b4_0&&(b4_1&&(b4_2&&(b4_3&&(b4_4&&(b4_5&&(b4_6&&(b4_7&&(b4_8&&(b4_9&&true))))))))))
def q4 (r:Bool):SV × List Blk × List Blk:=(.bool r,[],[])
def g4:GF:=fun vs bs=>match vs,bs with
 | [],[]=>some (rs 0 (q4 (m4)) [n4 ])
 | _,_=>none
def c4:Ctr:=genC [] g4
theorem p4 (hn:n4=true):exec Tryz.prog [(3,cSeal),(14,litC c14 (.tup [.agg [V Z (270),V Z (271)],V Z (0)])),(17,litC c17 (.tup [.ro [W Z] 3 (datS [V Z (0),V Z (1),V Z (2)] 1),V Z (20),V Z (0)])),(16,litC c16 (.tup [.ro [W Z,W Z] 1 (datS [V Z (0),V Z (30)] 2),V Z (0)])),(20,litC c20 (.bool true)),(19,litC c19 (.tup [.ro [W Z,W Z] 3 (datS [V Z (100),V Z (100),V Z (110),V Z (115),V Z (125),V Z (130)] 2),V Z (0)])),(15,c15),(18,c18)] (fun _=>none) 8 (Tryz.f4.body.getD .skip) (initS Tryz.f4.ntmps [] 0 (memOf [])) (retK Tryz.prog Tryz.f4.results.toList (outK 0 (List.range 0) [] (.k) fun v U N=>(v,U,N)=(q4 (m4)))) :=
 propOf (x4 _) (cn (al hn) (cn (al (ar hn)) (cn (al (ar (ar hn))) (cn (al (ar (ar (ar hn)))) (cn (al (ar (ar (ar (ar hn))))) (cn (al (ar (ar (ar (ar (ar hn)))))) (cn (al (ar (ar (ar (ar (ar (ar hn))))))) (cn (al (ar (ar (ar (ar (ar (ar (ar hn)))))))) (cn (al (ar (ar (ar (ar (ar (ar (ar (ar hn))))))))) (cn (al (ar (ar (ar (ar (ar (ar (ar (ar (ar hn)))))))))) rfl))))))))))
theorem k4:CtrOk Tryz.prog c4 4:=cx (tc kSeal (tc (lit_ok k14 (.tup [.agg [V Z (270),V Z (271)],V Z (0)])) (tc (lit_ok k17 (.tup [.ro [W Z] 3 (datS [V Z (0),V Z (1),V Z (2)] 1),V Z (20),V Z (0)])) (tc (lit_ok k16 (.tup [.ro [W Z,W Z] 1 (datS [V Z (0),V Z (30)] 2),V Z (0)])) (tc (lit_ok k20 (.bool true)) (tc (lit_ok k19 (.tup [.ro [W Z,W Z] 3 (datS [V Z (100),V Z (100),V Z (110),V Z (115),V Z (125),V Z (130)] 2),V Z (0)])) (tc k15 (tc k18 tn)))))))) mix_ok 8 (fn:=Tryz.f4) (c:=(Tryz.f4.body.getD .skip)) (grs:=[]) (rh:=.k) Tryz.func4 rfl (by kernel_rfl) noLam fun vs bs q h hn=>by
 unfold g4 at h
 split at h <;> cases h
 exact ⟨_,rfl,p4 (hn _ (List.mem_singleton.2 rfl))⟩

/-! ### strings.Lines -/
def m31 (a:ByteArray):ByteArray :=
 a
def q31 (r:ByteArray):SV × List Blk × List Blk:=(.fn 54 [.ptr 0 0],[],[.cells 9 [.str r]])
def g31:GF:=fun vs bs=>match vs,bs with
 | [.str a],[]=>some (rs 0 (q31 (m31 a)) [])
 | _,_=>none
def c31:Ctr:=genC [.k] g31
theorem k31:CtrOk Tryz.prog c31 31:=cx tn mix_ok 8 (fn:=Tryz.f31) (c:=(Tryz.f31.body.getD .skip)) (grs:=[]) (rh:=.k) Tryz.func31 rfl (by kernel_rfl) noLam fun vs bs q h hn=>by
 unfold g31 at h
 split at h <;> cases h
 rename_i a
 exact ⟨_,rfl,ca (fun R=>(R (.fn 54 [.ptr 0 0]) [] [.cells 9 [.str a]])) (fun R=>by kernel_rfl) (lf rfl rfl)⟩
/-! ### shotline/shotlinebase.Size -/
def m84 (a:Int):Int :=
 (imax a (Z.wrap (0 - a)))
def q84 (r:Int):SV × List Blk × List Blk:=(V Z r,[],[])
def g84:GF:=fun vs bs=>match vs,bs with
 | [V Z a],[]=>some (rs 0 (q84 (m84 a)) [])
 | _,_=>none
def c84:Ctr:=genC [.k] g84
theorem k84:CtrOk Tryz.prog c84 84:=cx tn mix_ok 8 (fn:=Tryz.f84) (c:=(Tryz.f84.body.getD .skip)) (grs:=[]) (rh:=.k) Tryz.func84 rfl (by kernel_rfl) noLam fun vs bs q h hn=>by
 unfold g84 at h
 split at h <;> cases h
 rename_i a
 exact ⟨_,rfl,ca (fun R=>(R (V Z (imax a (Z.wrap (0 - a)))) [] [])) (fun R=>by kernel_rfl) (lf rfl rfl)⟩
/-! ### shotline/shotlinebase.Cut -/
def l34_0 (g:ByteArray) (m:Int):Nat→Nat→Int→Int→Dat→Option (Nat × Int × Nat × Dat)
 | 0,_,_,_,_=>none
 | f+1,i,l,d,b=>(cond (decide (d<(↑g.size:Int))) (cond (decide (0≤d∧d<(↑g.size:Int))) (cond (decide ((byteAt g d.toNat)=m)) (cond (decide (0≤l∧l≤d∧d≤(↑g.size:Int))) (cond (decide ((i+1)≤1073741824)) (l34_0 g m f (i+1) (Z.wrap (d+1)) (Z.wrap (d+1)) (b.app i (datS [SV.str (g.extract l.toNat d.toNat)] 1))) none) none) (l34_0 g m f i l (Z.wrap (d+1)) b)) none) (some (i,l,i,b)))
abbrev o34_0 (g:ByteArray) (m:Int) (i:Nat) (l d:Int) (b:Dat):Option (Nat × Int × Nat × Dat):=l34_0 g m (g.size+m.toNat+i+l.toNat+d.toNat+8) i l d b
def e34_0 (g:ByteArray) (m:Int) (r:Nat × Int × Nat × Dat) (K:XR):Prop:=K (XE.exit 0) [.str g,.gr 0 1 r.1,V Z r.2.1] [.row 9 [.str] r.2.2.1 r.2.2.2]
def g34_0:LSum:=fun s k=>match czv 0 34 [0,1,5,6,7] 1 [⟨true,5,0,0,9,[.str]⟩] s with
 | some ([.str g,.int .u8 m,.gr 0 1 i,V Z l,V Z d],[.row 9 [.str] b0_0 b])=>needs [decide (i=b0_0),(o34_0 g m i l d b).isSome] (e34_0 g m ((o34_0 g m i l d b).getD default) fun e vs bs=>inBlk 0 k e (mkSt 0 34 [0,5,6] vs 1 bs))
 | _=>False
theorem z34_0:LOk Tryz.prog g34_0 (.block 0 (bodyAt (Tryz.f34.body.getD .skip) 0)):=by
 refine lb (ι:=ByteArray × Int × Nat × Int × Int × Dat) (fuel:=8) (na:=0) (nt:=34) (nx:=1) (Lh:=[0,1,5,6,7]) (Le:=[0,5,6]) (gl:=[⟨true,5,0,0,9,[.str]⟩]) tn mix_ok noLam rfl (fun f (g,m,i,l,d,b) K=>GG default (e34_0 g m) K (l34_0 g m f i l d b)) (fun (g,m,i,l,d,b)=>[.str g,.int .u8 m,.gr 0 1 i,V Z l,V Z d]) (fun (g,m,i,l,d,b)=>[.row 9 [.str] i b]) (fun (_,_,_,_,_,_) K=>gg_none) ?_ ?_
 ·rintro f ⟨g,m,i,l,d,b⟩ K hG
  refine ro (fun R=>(cnd (decide (d<(↑g.size:Int)))
 (cnd (decide (0≤d∧d<(↑g.size:Int)))
 (cnd (decide ((byteAt g d.toNat)=m))
 (cnd (decide (0≤l∧l≤d∧d≤(↑g.size:Int)))
 (cnd (decide (i≤i))
 (cnd (decide ((i+1)≤1073741824))
 (R (XE.normal) [.str g,.int .u8 m,.gr 0 1 (i+1),V Z (Z.wrap (d+1)),V Z (Z.wrap (d+1))] [.row 9 [.str] (i+1) (b.app i (datS [SV.str (g.extract l.toNat d.toNat)] 1))])
    False)
   False)
   False)
 (R (XE.normal) [.str g,.int .u8 m,.gr 0 1 i,V Z l,V Z (Z.wrap (d+1))] [.row 9 [.str] i b]))
  False)
 (R (XE.exit 0) [.str g,.gr 0 1 i,V Z l] [.row 9 [.str] i b]))) (fun R=>by kernel_rfl) ?_
  exact ch hG (fun h0=>cg h0 fun h1=>ch h1 (fun h2=>cg h2 fun h3=>cn (decide_eq_true (Nat.le_refl _)) (cg h3 fun h4=>⟨(_,_,_,_,_,_),rfl,rfl,h4⟩)) (fun h2=>⟨(_,_,_,_,_,_),rfl,rfl,h2⟩)) (fun h0=>h0.2)
 ·intro s k h
  unfold g34_0 at h
  split at h <;> try exact h.elim
  rename_i e1
  rw [needs_iff] at h
  have hq:=h.1
  simp only [List.mem_cons,forall_eq_or_imp,decide_eq_true_eq,List.not_mem_nil,false_imp_iff,implies_true,and_true] at hq
  obtain ⟨rfl,hq⟩:=hq
  exact ⟨_,e1,_,(_,_,_,_,_,_),rfl,rfl,hq,h.2⟩
def m34 (a:ByteArray) (j:Int):Nat × Dat :=
 ((((o34_0 a j 0 0 0 noDat).getD default).1+1),(((o34_0 a j 0 0 0 noDat).getD default).2.2.2.app ((o34_0 a j 0 0 0 noDat).getD default).1 (datS [SV.str (a.extract (((o34_0 a j 0 0 0 noDat).getD default).2.1.toNat) ((↑a.size:Int).toNat))] 1)))
def n34 (a:ByteArray) (j:Int):Bool :=
 (((o34_0 a j 0 0 0 noDat).isSome)&&((decide (0≤((o34_0 a j 0 0 0 noDat).getD default).2.1∧((o34_0 a j 0 0 0 noDat).getD default).2.1≤(↑a.size:Int)∧(↑a.size:Int)≤(↑a.size:Int)))&&((decide (((o34_0 a j 0 0 0 noDat).getD default).1≤((o34_0 a j 0 0 0 noDat).getD default).2.2.1))&&((decide ((((o34_0 a j 0 0 0 noDat).getD default).1+1)≤1073741824))&&((decide ((0+(((o34_0 a j 0 0 0 noDat).getD default).1+1))≤(((o34_0 a j 0 0 0 noDat).getD default).1+1)))&&true)))))
def q34 (r:Nat × Dat):SV × List Blk × List Blk:=(.ro [.str] r.1 r.2,[],[])
def g34:GF:=fun vs bs=>match vs,bs with
 | [.str a,.int .u8 j],[]=>some (rs 0 (q34 (m34 a j)) [n34 a j])
 | _,_=>none
def c34:Ctr:=genC [.k,.k] g34
theorem k34:CtrOk Tryz.prog c34 34:=cx tn mix_ok 8 (fn:=Tryz.f34) (c:=(Tryz.f34.body.getD .skip)) (grs:=[]) (rh:=.ro [.str]) Tryz.func34 rfl (by kernel_rfl) (lam_of rfl (lc z34_0 ln)) fun vs bs q h hn=>by
 unfold g34 at h
 split at h <;> cases h
 rename_i a j
 have hn:=n1 hn
 exact ⟨_,rfl,ca (fun R => 
 let a0:=((o34_0 a j 0 0 0 noDat).getD default)
 (cnd ((o34_0 a j 0 0 0 noDat).isSome)
 (cnd (decide (0≤a0.2.1∧a0.2.1≤(↑a.size:Int)∧(↑a.size:Int)≤(↑a.size:Int)))
 (cnd (decide (a0.1≤a0.2.2.1))
 (cnd (decide ((a0.1+1)≤1073741824))
 (cnd (decide ((0+(a0.1+1))≤(a0.1+1)))
 (R (.ro [.str] (a0.1+1) (a0.2.2.2.app a0.1 (datS [SV.str (a.extract (a0.2.1.toNat) ((↑a.size:Int).toNat))] 1))) [] [])
   False)
   False)
  False)
  False)
 False)) (fun R=>by kernel_rfl) (cn (al hn) (cn (al (ar hn)) (cn (al (ar (ar hn))) (cn (al (ar (ar (ar hn)))) (cn (al (ar (ar (ar (ar hn))))) (lf rfl rfl))))))⟩
/-! ### shotline/shotlinebase.Number -/
def l61_0 (d:ByteArray) (g:Int):Nat→Int→Int→Option (Bool × (Int × Bool × Int) × (Int))
 | 0,_,_=>none
 | f+1,i,b=>(cond (decide (b<(↑d.size:Int))) (cond (decide (0≤b∧b<(↑d.size:Int))) (cond (bif (bif (bif (decide ((byteAt d b.toNat)<48)) then false else true) then false else true) then true else (decide (0≤b∧b<(↑d.size:Int)))) (cond (bif (decide ((byteAt d b.toNat)<48)) then true else (decide (57<(byteAt d b.toNat)))) (some (true,(0,false,i),default)) (cond (decide (0≤b∧b<(↑d.size:Int))) (l61_0 d g f (Z.wrap ((Z.wrap (10 * i))+(Z.wrap (IntKind.u8.wrap ((byteAt d b.toNat) - 48))))) (Z.wrap (b+1))) none)) none) none) (some (false,default,i)))
abbrev o61_0 (d:ByteArray) (g i b:Int):Option (Bool × (Int × Bool × Int) × (Int)):=l61_0 d g (d.size+g.toNat+i.toNat+b.toNat+8) i b
def e61_0 (d:ByteArray) (g:Int) (r:Bool × (Int × Bool × Int) × (Int)) (K:XR):Prop:=cnd r.1 (K (XE.ret) [V Z r.2.1.1,.bool r.2.1.2.1,V Z g,V Z r.2.1.2.2] []) (K (XE.exit 0) [.any,.any,V Z g,V Z r.2.2] [])
def g61_0:LSum:=fun s k=>match czv 0 70 [0,6,7,8] 0 [] s with
 | some ([.str d,V Z g,V Z i,V Z b],[])=>needs [(o61_0 d g i b).isSome] (e61_0 d g ((o61_0 d g i b).getD default) fun e vs bs=>inBlk 0 k e (mkSt 0 70 [4,5,6,7] vs 0 bs))
 | _=>False
theorem z61_0:LOk Tryz.prog g61_0 (.block 0 (bodyAt (Tryz.f61.body.getD .skip) 0)):=by
 refine lb (ι:=ByteArray × Int × Int × Int) (fuel:=8) (na:=0) (nt:=70) (nx:=0) (Lh:=[0,6,7,8]) (Le:=[4,5,6,7]) (gl:=[]) tn mix_ok noLam rfl (fun f (d,g,i,b) K=>GG default (e61_0 d g) K (l61_0 d g f i b)) (fun (d,g,i,b)=>[.str d,V Z g,V Z i,V Z b]) (fun (d,g,i,b)=>[]) (fun (_,_,_,_) K=>gg_none) ?_ ?_
 ·rintro f ⟨d,g,i,b⟩ K hG
  refine ro (fun R => 
 let a0:=(decide (0≤b∧b<(↑d.size:Int)))
 (cnd (decide (b<(↑d.size:Int)))
 (cnd a0
 (cnd (bif (bif (bif (decide ((byteAt d b.toNat)<48)) then false else true) then false else true) then true else a0)
 (cnd (bif (decide ((byteAt d b.toNat)<48)) then true else (decide (57<(byteAt d b.toNat))))
 (R (XE.ret) [V Z 0,.bool false,V Z g,V Z i] [])
 (cnd a0
 (R (XE.normal) [.str d,V Z g,V Z (Z.wrap ((Z.wrap (10 * i))+(Z.wrap (IntKind.u8.wrap ((byteAt d b.toNat) - 48))))),V Z (Z.wrap (b+1))] [])
   False))
  False)
  False)
 (R (XE.exit 0) [.any,.any,V Z g,V Z i] []))) (fun R=>by kernel_rfl) ?_
  exact ch hG (fun h0=>cg h0 fun h1=>cg h1 fun h2=>ch h2 (fun h3=>h3.2) (fun h3=>cg h3 fun h4=>⟨(_,_,_,_),rfl,rfl,h4⟩)) (fun h0=>h0.2)
 ·intro s k h
  unfold g61_0 at h
  split at h <;> try exact h.elim
  rename_i e1
  rw [needs_iff] at h
  exact ⟨_,e1,_,(_,_,_,_),rfl,rfl,h.1 _ (List.mem_singleton.2 rfl),h.2⟩
def m61 (a:ByteArray) (j:Int):Int × Bool :=
 (cond (bif (decide ((0:Int)<(↑a.size:Int))) then (decide ((byteAt a 0)=45)) else false) (cond (bif (bif (decide ((↑a.size:Int)=1)) then true else (decide (j<(Z.wrap ((↑a.size:Int) - 1))))) then true else (bif (decide ((byteAt a 1)=48)) then (decide (1<(↑a.size:Int))) else false)) (0,false) (cond ((o61_0 a 1 0 1).getD default).1 (((o61_0 a 1 0 1).getD default).2.1.1,((o61_0 a 1 0 1).getD default).2.1.2.1) ((Z.wrap (0 - ((o61_0 a 1 0 1).getD default).2.2)),true))) (cond (bif (bif (decide ((↑a.size:Int)=0)) then true else (decide (j<(Z.wrap ((↑a.size:Int) - 0))))) then true else (bif (decide ((byteAt a 0)=48)) then (decide (1<(↑a.size:Int))) else false)) (0,false) (cond ((o61_0 a 0 0 0).getD default).1 (((o61_0 a 0 0 0).getD default).2.1.1,((o61_0 a 0 0 0).getD default).2.1.2.1) (((o61_0 a 0 0 0).getD default).2.2,true))))
def n61 (a:ByteArray) (j:Int):Bool :=
 ((bif (bif (decide ((0:Int)<(↑a.size:Int))) then false else true) then true else (decide ((0:Int)≤(0:Int)∧(0:Int)<(↑a.size:Int))))&&(cond (bif (decide ((0:Int)<(↑a.size:Int))) then (decide ((byteAt a 0)=45)) else false) ((bif (bif (bif (bif (decide ((↑a.size:Int)=1)) then true else (decide (j<(Z.wrap ((↑a.size:Int) - 1))))) then false else true) then false else true) then true else (decide ((0:Int)≤(1:Int)∧(1:Int)<(↑a.size:Int))))&&(cond (bif (bif (decide ((↑a.size:Int)=1)) then true else (decide (j<(Z.wrap ((↑a.size:Int) - 1))))) then true else (bif (decide ((byteAt a 1)=48)) then (decide (1<(↑a.size:Int))) else false)) true (((o61_0 a 1 0 1).isSome)&&true))) ((bif (bif (bif (bif (decide ((↑a.size:Int)=0)) then true else (decide (j<(Z.wrap ((↑a.size:Int) - 0))))) then false else true) then false else true) then true else (decide ((0:Int)≤(0:Int)∧(0:Int)<(↑a.size:Int))))&&(cond (bif (bif (decide ((↑a.size:Int)=0)) then true else (decide (j<(Z.wrap ((↑a.size:Int) - 0))))) then true else (bif (decide ((byteAt a 0)=48)) then (decide (1<(↑a.size:Int))) else false)) true (((o61_0 a 0 0 0).isSome)&&true)))))
def q61 (r:Int × Bool):SV × List Blk × List Blk:=(.tup [V Z r.1,.bool r.2],[],[])
def g61:GF:=fun vs bs=>match vs,bs with
 | [.str a,V Z j],[]=>some (rs 0 (q61 (m61 a j)) [n61 a j])
 | _,_=>none
def c61:Ctr:=genC [.k,.k] g61
theorem k61:CtrOk Tryz.prog c61 61:=cx tn mix_ok 8 (fn:=Tryz.f61) (c:=(Tryz.f61.body.getD .skip)) (grs:=[]) (rh:=.k) Tryz.func61 rfl (by kernel_rfl) (lam_of rfl (lc z61_0 ln)) fun vs bs q h hn=>by
 unfold g61 at h
 split at h <;> cases h
 rename_i a j
 have hn:=n1 hn
 exact ⟨_,rfl,ca (fun R => 
 let a0:=(bif (decide ((↑a.size:Int)=1)) then true else (decide (j<(Z.wrap ((↑a.size:Int) - 1)))))
 let b0:=(bif (decide ((↑a.size:Int)=0)) then true else (decide (j<(Z.wrap ((↑a.size:Int) - 0)))))
 let c0:=((o61_0 a 1 0 1).getD default)
 let d0:=((o61_0 a 0 0 0).getD default)
 let e0:=(decide ((0:Int)≤(0:Int)∧(0:Int)<(↑a.size:Int)))
 (cnd (bif (bif (decide ((0:Int)<(↑a.size:Int))) then false else true) then true else e0)
 (cnd (bif (decide ((0:Int)<(↑a.size:Int))) then (decide ((byteAt a 0)=45)) else false)
 (cnd (bif (bif (bif a0 then false else true) then false else true) then true else (decide ((0:Int)≤(1:Int)∧(1:Int)<(↑a.size:Int))))
 (cnd (bif a0 then true else (bif (decide ((byteAt a 1)=48)) then (decide (1<(↑a.size:Int))) else false))
 (R (.tup [V Z 0,.bool false]) [] [])
 (cnd ((o61_0 a 1 0 1).isSome)
 (cnd c0.1
 (R (.tup [V Z c0.2.1.1,.bool c0.2.1.2.1]) [] [])
 (R (.tup [V Z (Z.wrap (0 - c0.2.2)),.bool true]) [] []))
   False))
  False)
 (cnd (bif (bif (bif b0 then false else true) then false else true) then true else e0)
 (cnd (bif b0 then true else (bif (decide ((byteAt a 0)=48)) then (decide (1<(↑a.size:Int))) else false))
 (R (.tup [V Z 0,.bool false]) [] [])
 (cnd ((o61_0 a 0 0 0).isSome)
 (cnd d0.1
 (R (.tup [V Z d0.2.1.1,.bool d0.2.1.2.1]) [] [])
 (R (.tup [V Z d0.2.2,.bool true]) [] []))
   False))
  False))
 False)) (fun R=>by kernel_rfl) (cn (al hn) (co (fun h0=>cn (al (ct h0 (ar hn))) (co (fun h1=>lf (cT h0 (cT h1 rfl)) rfl) (fun h1=>cn (al (cf h1 (ar (ct h0 (ar hn))))) (co (fun h2=>lf (cT h0 (cF h1 (cT h2 rfl))) rfl) (fun h2=>lf (cT h0 (cF h1 (cF h2 rfl))) rfl))))) (fun h0=>cn (al (cf h0 (ar hn))) (co (fun h1=>lf (cF h0 (cT h1 rfl)) rfl) (fun h1=>cn (al (cf h1 (ar (cf h0 (ar hn))))) (co (fun h2=>lf (cF h0 (cF h1 (cT h2 rfl))) rfl) (fun h2=>lf (cF h0 (cF h1 (cF h2 rfl))) rfl)))))))⟩
/-! ### shotline/shotlineref08.Same -/
def l12_0 (j:Int) (g:Nat) (b:Dat) (l:Int) (i:Nat) (d:Dat):Nat→Int→Option (Bool × (Bool) × (Unit))
 | 0,_=>none
 | f+1,o=>(cond (decide (o<(↑g:Int))) (cond (decide (0≤o∧o<↑g)) (cond (decide (0≤o∧o<↑i)) (cond (bif (bif (decide ((b.ii o.toNat 0)=(d.ii o.toNat 0))) then (bif (decide ((b.ii o.toNat 1)=(d.ii o.toNat 1))) then (bif (decide ((b.ii o.toNat 2)=(d.ii o.toNat 2))) then true else false) else false) else false) then false else true) (some (true,false,default)) (l12_0 j g b l i d f (Z.wrap (o+1)))) none) none) (some (false,default,())))
abbrev o12_0 (j:Int) (g:Nat) (b:Dat) (l:Int) (i:Nat) (d:Dat) (o:Int):Option (Bool × (Bool) × (Unit)):=l12_0 j g b l i d (o.toNat+j.toNat+g+l.toNat+i+8) o
def e12_0 (j:Int) (g:Nat) (b:Dat) (l:Int) (i:Nat) (d:Dat) (r:Bool × (Bool) × (Unit)) (K:XR):Prop:=cnd r.1 (K (XE.ret) [.bool r.2.1] [.cells 24 [V Z j,.ro [W Z,W Z,W Z] g b],.cells 24 [V Z l,.ro [W Z,W Z,W Z] i d]]) (K (XE.exit 0) [.any] [.cells 24 [V Z j,.ro [W Z,W Z,W Z] g b],.cells 24 [V Z l,.ro [W Z,W Z,W Z] i d]])
def g12_0:LSum:=fun s k=>match czv 0 38 [2,3,5] 2 [] s with
 | some ([.ptr 0 0,.ptr 1 0,V Z o],[.cells 24 [V Z j,.ro [W Z,W Z,W Z] g b],.cells 24 [V Z l,.ro [W Z,W Z,W Z] i d]])=>needs [(o12_0 j g b l i d o).isSome] (e12_0 j g b l i d ((o12_0 j g b l i d o).getD default) fun e vs bs=>inBlk 0 k e (mkSt 0 38 [4] vs 2 bs))
 | _=>False
theorem z12_0:LOk Tryz.prog g12_0 (.block 0 (bodyAt (Tryz.f12.body.getD .skip) 0)):=by
 refine lb (ι:=Int × Int × Nat × Dat × Int × Nat × Dat) (fuel:=8) (na:=0) (nt:=38) (nx:=2) (Lh:=[2,3,5]) (Le:=[4]) (gl:=[]) tn mix_ok noLam rfl (fun f (o,j,g,b,l,i,d) K=>GG default (e12_0 j g b l i d) K (l12_0 j g b l i d f o)) (fun (o,j,g,b,l,i,d)=>[.ptr 0 0,.ptr 1 0,V Z o]) (fun (o,j,g,b,l,i,d)=>[.cells 24 [V Z j,.ro [W Z,W Z,W Z] g b],.cells 24 [V Z l,.ro [W Z,W Z,W Z] i d]]) (fun (_,_,_,_,_,_,_) K=>gg_none) ?_ ?_
 ·rintro f ⟨o,j,g,b,l,i,d⟩ K hG
  refine ro (fun R=>(cnd (decide (o<(↑g:Int)))
 (cnd (decide (0≤o∧o<↑g))
 (cnd (decide (0≤o∧o<↑i))
 (cnd (bif (bif (decide ((b.ii o.toNat 0)=(d.ii o.toNat 0))) then (bif (decide ((b.ii o.toNat 1)=(d.ii o.toNat 1))) then (bif (decide ((b.ii o.toNat 2)=(d.ii o.toNat 2))) then true else false) else false) else false) then false else true)
 (R (XE.ret) [.bool false] [.cells 24 [V Z j,.ro [W Z,W Z,W Z] g b],.cells 24 [V Z l,.ro [W Z,W Z,W Z] i d]])
 (R (XE.normal) [.ptr 0 0,.ptr 1 0,V Z (Z.wrap (o+1))] [.cells 24 [V Z j,.ro [W Z,W Z,W Z] g b],.cells 24 [V Z l,.ro [W Z,W Z,W Z] i d]]))
  False)
  False)
 (R (XE.exit 0) [.any] [.cells 24 [V Z j,.ro [W Z,W Z,W Z] g b],.cells 24 [V Z l,.ro [W Z,W Z,W Z] i d]]))) (fun R=>by kernel_rfl) ?_
  exact ch hG (fun h0=>cg h0 fun h1=>cg h1 fun h2=>ch h2 (fun h3=>h3.2) (fun h3=>⟨(_,_,_,_,_,_,_),rfl,rfl,h3⟩)) (fun h0=>h0.2)
 ·intro s k h
  unfold g12_0 at h
  split at h <;> try exact h.elim
  rename_i e1
  rw [needs_iff] at h
  exact ⟨_,e1,_,(_,_,_,_,_,_,_),rfl,rfl,h.1 _ (List.mem_singleton.2 rfl),h.2⟩
def m12 (p:Int) (m:Nat) (t:Dat) (u:Int) (n:Nat) (v:Dat):Bool :=
 (cond (bif (bif (decide (p=u)) then false else true) then true else (bif (decide ((↑m:Int)=(↑n:Int))) then false else true)) false (cond ((o12_0 p m t u n v 0).getD default).1 ((o12_0 p m t u n v 0).getD default).2.1 true))
def n12 (p:Int) (m:Nat) (t:Dat) (u:Int) (n:Nat) (v:Dat):Bool :=
 (cond (bif (bif (decide (p=u)) then false else true) then true else (bif (decide ((↑m:Int)=(↑n:Int))) then false else true)) true (((o12_0 p m t u n v 0).isSome)&&true))
def q12 (r:Bool):SV × List Blk × List Blk:=(.bool r,[],[])
def g12:GF:=fun vs bs=>match vs,bs with
 | [.agg [V Z p,.ro [W Z,W Z,W Z] m t],.agg [V Z u,.ro [W Z,W Z,W Z] n v]],[]=>some (rs 0 (q12 (m12 p m t u n v)) [n12 p m t u n v])
 | _,_=>none
def c12:Ctr:=genC [.a [.k,.ro [W Z,W Z,W Z]],.a [.k,.ro [W Z,W Z,W Z]]] g12
theorem k12:CtrOk Tryz.prog c12 12:=cx tn mix_ok 8 (fn:=Tryz.f12) (c:=(Tryz.f12.body.getD .skip)) (grs:=[]) (rh:=.k) Tryz.func12 rfl (by kernel_rfl) (lam_of rfl (lc z12_0 ln)) fun vs bs q h hn=>by
 unfold g12 at h
 split at h <;> cases h
 rename_i p m t u n v
 have hn:=n1 hn
 exact ⟨_,rfl,ca (fun R=>(cnd (bif (bif (decide (p=u)) then false else true) then true else (bif (decide ((↑m:Int)=(↑n:Int))) then false else true))
 (R (.bool false) [] [])
 (cnd ((o12_0 p m t u n v 0).isSome)
 (cnd ((o12_0 p m t u n v 0).getD default).1
 (R (.bool ((o12_0 p m t u n v 0).getD default).2.1) [] [])
 (R (.bool true) [] []))
  False))) (fun R=>by kernel_rfl) (co (fun h0=>lf (cT h0 rfl) rfl) (fun h0=>cn (al (cf h0 hn)) (co (fun h1=>lf (cF h0 (cT h1 rfl)) rfl) (fun h1=>lf (cF h0 (cF h1 rfl)) rfl))))⟩
/-! ### shotline/shotlineref08.words -/
def l35_0 (d:Nat) (b:Dat):Nat→Nat→Int→Dat→Option (Bool × (Bool × Nat × Nat × Dat) × (Nat × Nat × Dat))
 | 0,_,_,_=>none
 | f+1,j,g,i=>(cond (decide (g<(↑d:Int))) (cond (decide (0≤g∧g<↑d)) (cond (n61 (b.ss g.toNat 0) 7) (cond (bif (m61 (b.ss g.toNat 0) 7).2 then false else true) (some (true,(false,j,j,i),default)) (cond (decide ((j+1)≤1073741824)) (l35_0 d b f (j+1) (Z.wrap (g+1)) (i.app j (datS [V Z (m61 (b.ss g.toNat 0) 7).1] 1))) none)) none) none) (some (false,default,(j,j,i))))
abbrev o35_0 (d:Nat) (b:Dat) (j:Nat) (g:Int) (i:Dat):Option (Bool × (Bool × Nat × Nat × Dat) × (Nat × Nat × Dat)):=l35_0 d b (d+j+g.toNat+8) j g i
def e35_0 (d:Nat) (b:Dat) (r:Bool × (Bool × Nat × Nat × Dat) × (Nat × Nat × Dat)) (K:XR):Prop:=cnd r.1 (K (XE.ret) [.nsl,.bool r.2.1.1,.gr 0 1 r.2.1.2.1] [.row 3 [W Z] r.2.1.2.2.1 r.2.1.2.2.2]) (K (XE.exit 0) [.any,.any,.gr 0 1 r.2.2.1] [.row 3 [W Z] r.2.2.2.1 r.2.2.2.2])
def g35_0:LSum:=fun s k=>match czv 0 48 [8,9,10] 1 [⟨true,9,0,0,3,[W Z]⟩] s with
 | some ([.ro [.str] d b,.gr 0 1 j,V Z g],[.row 3 [W Z] b0_0 i])=>needs [decide (j=b0_0),(o35_0 d b j g i).isSome] (e35_0 d b ((o35_0 d b j g i).getD default) fun e vs bs=>inBlk 0 k e (mkSt 0 48 [6,7,9] vs 1 bs))
 | _=>False
theorem z35_0:LOk Tryz.prog g35_0 (.block 0 (bodyAt (Tryz.f35.body.getD .skip) 0)):=by
 refine lb (ι:=Nat × Dat × Nat × Int × Dat) (fuel:=8) (na:=0) (nt:=48) (nx:=1) (Lh:=[8,9,10]) (Le:=[6,7,9]) (gl:=[⟨true,9,0,0,3,[W Z]⟩]) (tc k34 (tc k61 tn)) mix_ok noLam rfl (fun f (d,b,j,g,i) K=>GG default (e35_0 d b) K (l35_0 d b f j g i)) (fun (d,b,j,g,i)=>[.ro [.str] d b,.gr 0 1 j,V Z g]) (fun (d,b,j,g,i)=>[.row 3 [W Z] j i]) (fun (_,_,_,_,_) K=>gg_none) ?_ ?_
 ·rintro f ⟨d,b,j,g,i⟩ K hG
  refine ro (fun R=>(cnd (decide (g<(↑d:Int)))
 (cnd (decide (0≤g∧g<↑d))
 (cnd (n61 (b.ss g.toNat 0) 7)
 (cnd (bif (m61 (b.ss g.toNat 0) 7).2 then false else true)
 (R (XE.ret) [.nsl,.bool false,.gr 0 1 j] [.row 3 [W Z] j i])
 (cnd (decide (j≤j))
 (cnd (decide ((j+1)≤1073741824))
 (R (XE.normal) [.ro [.str] d b,.gr 0 1 (j+1),V Z (Z.wrap (g+1))] [.row 3 [W Z] (j+1) (i.app j (datS [V Z (m61 (b.ss g.toNat 0) 7).1] 1))])
    False)
   False))
  False)
  False)
 (R (XE.exit 0) [.any,.any,.gr 0 1 j] [.row 3 [W Z] j i]))) (fun R=>by kernel_rfl) ?_
  exact ch hG (fun h0=>cg h0 fun h1=>cg h1 fun h2=>ch h2 (fun h3=>h3.2) (fun h3=>cn (decide_eq_true (Nat.le_refl _)) (cg h3 fun h4=>⟨(_,_,_,_,_),rfl,rfl,h4⟩))) (fun h0=>h0.2)
 ·intro s k h
  unfold g35_0 at h
  split at h <;> try exact h.elim
  rename_i e1
  rw [needs_iff] at h
  have hq:=h.1
  simp only [List.mem_cons,forall_eq_or_imp,decide_eq_true_eq,List.not_mem_nil,false_imp_iff,implies_true,and_true] at hq
  obtain ⟨rfl,hq⟩:=hq
  exact ⟨_,e1,_,(_,_,_,_,_),rfl,rfl,hq,h.2⟩
def m35 (a m:ByteArray) (l:Int):Nat × Dat × Bool :=
 (cond (bif (bif (decide ((↑((m34 a 32).1):Int)=(Z.wrap (l+1)))) then false else true) then true else (bif (decide (((m34 a 32).2.ss 0 0)=m)) then false else true)) (0,noDat,false) (cond ((o35_0 (m34 a 32).1 (m34 a 32).2 0 1 noDat).getD default).1 (0,noDat,((o35_0 (m34 a 32).1 (m34 a 32).2 0 1 noDat).getD default).2.1.1) (((o35_0 (m34 a 32).1 (m34 a 32).2 0 1 noDat).getD default).2.2.1,((o35_0 (m34 a 32).1 (m34 a 32).2 0 1 noDat).getD default).2.2.2.2,true)))
def n35 (a m:ByteArray) (l:Int):Bool :=
 ((n34 a 32)&&((bif (bif (bif (bif (decide ((↑((m34 a 32).1):Int)=(Z.wrap (l+1)))) then false else true) then false else true) then false else true) then true else (decide ((0:Int)≤(0:Int)∧(0:Int)<(↑(m34 a (32:Int)).1:Int))))&&(cond (bif (bif (decide ((↑((m34 a 32).1):Int)=(Z.wrap (l+1)))) then false else true) then true else (bif (decide (((m34 a 32).2.ss 0 0)=m)) then false else true)) true (((o35_0 (m34 a 32).1 (m34 a 32).2 0 1 noDat).isSome)&&(cond ((o35_0 (m34 a 32).1 (m34 a 32).2 0 1 noDat).getD default).1 true ((decide ((0+((o35_0 (m34 a 32).1 (m34 a 32).2 0 1 noDat).getD default).2.2.1)≤((o35_0 (m34 a 32).1 (m34 a 32).2 0 1 noDat).getD default).2.2.2.1))&&true))))))
def q35 (r:Nat × Dat × Bool):SV × List Blk × List Blk:=(.tup [.ro [W Z] r.1 r.2.1,.bool r.2.2],[],[])
def g35:GF:=fun vs bs=>match vs,bs with
 | [.str a,.str m,V Z l],[]=>some (rs 0 (q35 (m35 a m l)) [n35 a m l])
 | _,_=>none
def c35:Ctr:=genC [.k,.k,.k] g35
theorem k35:CtrOk Tryz.prog c35 35:=cx (tc k34 (tc k61 tn)) mix_ok 8 (fn:=Tryz.f35) (c:=(Tryz.f35.body.getD .skip)) (grs:=[]) (rh:=.t [.ro [W Z],.k]) Tryz.func35 rfl (by kernel_rfl) (lam_of rfl (lc z35_0 ln)) fun vs bs q h hn=>by
 unfold g35 at h
 split at h <;> cases h
 rename_i a m l
 have hn:=n1 hn
 exact ⟨_,rfl,ca (fun R => 
 let a0:=((o35_0 (m34 a 32).1 (m34 a 32).2 0 1 noDat).getD default)
 let b0:=(bif (decide ((↑((m34 a 32).1):Int)=(Z.wrap (l+1)))) then false else true)
 (cnd (n34 a 32)
 (cnd (bif (bif (bif b0 then false else true) then false else true) then true else (decide ((0:Int)≤(0:Int)∧(0:Int)<(↑(m34 a (32:Int)).1:Int))))
 (cnd (bif b0 then true else (bif (decide (((m34 a 32).2.ss 0 0)=m)) then false else true))
 (R (.tup [.ro [W Z] 0 noDat,.bool false]) [] [])
 (cnd ((o35_0 (m34 a 32).1 (m34 a 32).2 0 1 noDat).isSome)
 (cnd a0.1
 (R (.tup [.ro [W Z] 0 noDat,.bool a0.2.1.1]) [] [])
 (cnd (decide ((0+a0.2.2.1)≤a0.2.2.2.1))
 (R (.tup [.ro [W Z] a0.2.2.1 a0.2.2.2.2,.bool true]) [] [])
    False))
   False))
  False)
 False)) (fun R=>by kernel_rfl) (cn (al hn) (cn (al (ar hn)) (co (fun h0=>lf (cT h0 rfl) rfl) (fun h0=>cn (al (cf h0 (ar (ar hn)))) (co (fun h1=>lf (cF h0 (cT h1 rfl)) rfl) (fun h1=>cn (al (cf h1 (ar (cf h0 (ar (ar hn)))))) (lf (cF h0 (cF h1 rfl)) rfl)))))))⟩
/-! ### shotline/shotlinebase.Decimal -/
def l60_0 (d:ByteArray):Nat→Int→ByteArray→Option (ByteArray)
 | 0,_,_=>none
 | f+1,a,g=>(cond (bif (decide (a=0)) then false else true) (cond (decide (0≤(IntKind.u8.wrap (Z.wrap (48+(m84 (a.tmod 10)))))∧(IntKind.u8.wrap (Z.wrap (48+(m84 (a.tmod 10)))))≤255)) (cond (decide ((((byteS (IntKind.u8.wrap (Z.wrap (48+(m84 (a.tmod 10)))))).size)+g.size)≤9223372036854775807)) (l60_0 d f (Z.wrap (a.tdiv 10)) ((byteS (IntKind.u8.wrap (Z.wrap (48+(m84 (a.tmod 10)))))) ++ g)) none) none) (some g))
abbrev o60_0 (d:ByteArray) (a:Int) (g:ByteArray):Option (ByteArray):=l60_0 d (a.toNat+g.size+d.size+8) a g
def e60_0 (d r:ByteArray) (K:XR):Prop:=K (XE.exit 0) [.str r,.str d] []
def g60_0:LSum:=fun s k=>match czv 0 27 [0,3,4] 0 [] s with
 | some ([V Z a,.str g,.str d],[])=>needs [(o60_0 d a g).isSome] (e60_0 d ((o60_0 d a g).getD default) fun e vs bs=>inBlk 0 k e (mkSt 0 27 [3,4] vs 0 bs))
 | _=>False
theorem z60_0:LOk Tryz.prog g60_0 (.block 0 (bodyAt (Tryz.f60.body.getD .skip) 0)):=by
 refine lb (ι:=Int × ByteArray × ByteArray) (fuel:=8) (na:=0) (nt:=27) (nx:=0) (Lh:=[0,3,4]) (Le:=[3,4]) (gl:=[]) (tc k84 tn) mix_ok noLam rfl (fun f (a,g,d) K=>GG default (e60_0 d) K (l60_0 d f a g)) (fun (a,g,d)=>[V Z a,.str g,.str d]) (fun (a,g,d)=>[]) (fun (_,_,_) K=>gg_none) ?_ ?_
 ·rintro f ⟨a,g,d⟩ K hG
  refine ro (fun R => 
 let a0:=(IntKind.u8.wrap (Z.wrap (48+(m84 (a.tmod 10)))))
 (cnd (bif (decide (a=0)) then false else true)
 (cnd (decide (0≤a0∧a0≤255))
 (cnd (decide ((((byteS a0).size)+g.size)≤9223372036854775807))
 (R (XE.normal) [V Z (Z.wrap (a.tdiv 10)),.str ((byteS a0) ++ g),.str d] [])
  False)
  False)
 (R (XE.exit 0) [.str g,.str d] []))) (fun R=>by kernel_rfl) ?_
  exact ch hG (fun h0=>cg h0 fun h1=>cg h1 fun h2=>⟨(_,_,_),rfl,rfl,h2⟩) (fun h0=>h0.2)
 ·intro s k h
  unfold g60_0 at h
  split at h <;> try exact h.elim
  rename_i e1
  rw [needs_iff] at h
  exact ⟨_,e1,_,(_,_,_),rfl,rfl,h.1 _ (List.mem_singleton.2 rfl),h.2⟩
def m60 (b:Int):ByteArray :=
 (cond (decide (b=0)) ({ data:=#[48] }:ByteArray) (cond (decide (b<(0:Int))) (({ data:=#[45] }:ByteArray) ++ ((o60_0 ({ data:=#[45] }:ByteArray) b ({ data:=#[] }:ByteArray)).getD default)) (({ data:=#[] }:ByteArray) ++ ((o60_0 ({ data:=#[] }:ByteArray) b ({ data:=#[] }:ByteArray)).getD default))))
def n60 (b:Int):Bool :=
 (cond (decide (b=0)) true (cond (decide (b<(0:Int))) (((o60_0 ({ data:=#[45] }:ByteArray) b ({ data:=#[] }:ByteArray)).isSome)&&((decide ((1+(((o60_0 ({ data:=#[45] }:ByteArray) b ({ data:=#[] }:ByteArray)).getD default).size))≤9223372036854775807))&&true)) (((o60_0 ({ data:=#[] }:ByteArray) b ({ data:=#[] }:ByteArray)).isSome)&&((decide ((0+(((o60_0 ({ data:=#[] }:ByteArray) b ({ data:=#[] }:ByteArray)).getD default).size))≤9223372036854775807))&&true))))
def q60 (r:ByteArray):SV × List Blk × List Blk:=(.str r,[],[])
def g60:GF:=fun vs bs=>match vs,bs with
 | [V Z b],[]=>some (rs 0 (q60 (m60 b)) [n60 b])
 | _,_=>none
def c60:Ctr:=genC [.k] g60
theorem k60:CtrOk Tryz.prog c60 60:=cx (tc k84 tn) mix_ok 8 (fn:=Tryz.f60) (c:=(Tryz.f60.body.getD .skip)) (grs:=[]) (rh:=.k) Tryz.func60 rfl (by kernel_rfl) (lam_of rfl (lc z60_0 ln)) fun vs bs q h hn=>by
 unfold g60 at h
 split at h <;> cases h
 rename_i b
 have hn:=n1 hn
 exact ⟨_,rfl,ca (fun R => 
 let a0:=({ data:=#[] }:ByteArray)
 let b0:=({ data:=#[45] }:ByteArray)
 (cnd (decide (b=0))
 (R (.str ({ data:=#[48] }:ByteArray)) [] [])
 (cnd (decide (b<(0:Int)))
 (cnd ((o60_0 b0 b a0).isSome)
 (cnd (decide ((1+(((o60_0 b0 b a0).getD default).size))≤9223372036854775807))
 (R (.str (b0 ++ ((o60_0 b0 b a0).getD default))) [] [])
   False)
  False)
 (cnd ((o60_0 a0 b a0).isSome)
 (cnd (decide ((0+(((o60_0 a0 b a0).getD default).size))≤9223372036854775807))
 (R (.str (a0 ++ ((o60_0 a0 b a0).getD default))) [] [])
   False)
  False)))) (fun R=>by kernel_rfl) (co (fun h0=>lf (cT h0 rfl) rfl) (fun h0=>co (fun h1=>cn (al (ct h1 (cf h0 hn))) (cn (al (ar (ct h1 (cf h0 hn)))) (lf (cF h0 (cT h1 rfl)) rfl))) (fun h1=>cn (al (cf h1 (cf h0 hn))) (cn (al (ar (cf h1 (cf h0 hn)))) (lf (cF h0 (cF h1 rfl)) rfl)))))⟩
/-! ### shotline/shotlineref08.numbers -/
def l33_0 (b:Nat) (a:Dat):Nat→ByteArray→Int→Option (ByteArray)
 | 0,_,_=>none
 | f+1,g,d=>(cond (decide (d<(↑b:Int))) (cond (decide ((g.size+1)≤9223372036854775807)) (cond (decide (0≤d∧d<(↑b:Int))) (cond (n60 (a.ii d.toNat 0)) (cond (decide ((((g ++ ({ data:=#[32] }:ByteArray)).size)+((m60 (a.ii d.toNat 0)).size))≤9223372036854775807)) (l33_0 b a f ((g ++ ({ data:=#[32] }:ByteArray)) ++ (m60 (a.ii d.toNat 0))) (Z.wrap (d+1))) none) none) none) none) (some g))
abbrev o33_0 (b:Nat) (a:Dat) (g:ByteArray) (d:Int):Option (ByteArray):=l33_0 b a (g.size+b+d.toNat+8) g d
def e33_0 (b:Nat) (a:Dat) (r:ByteArray) (K:XR):Prop:=K (XE.exit 0) [.str r] []
def g33_0:LSum:=fun s k=>match czv 0 22 [0,1,5] 0 [] s with
 | some ([.str g,.ro [W Z] b a,V Z d],[])=>needs [(o33_0 b a g d).isSome] (e33_0 b a ((o33_0 b a g d).getD default) fun e vs bs=>inBlk 0 k e (mkSt 0 22 [0] vs 0 bs))
 | _=>False
theorem z33_0:LOk Tryz.prog g33_0 (.block 0 (bodyAt (Tryz.f33.body.getD .skip) 0)):=by
 refine lb (ι:=ByteArray × Nat × Dat × Int) (fuel:=8) (na:=0) (nt:=22) (nx:=0) (Lh:=[0,1,5]) (Le:=[0]) (gl:=[]) (tc k60 tn) mix_ok noLam rfl (fun f (g,b,a,d) K=>GG default (e33_0 b a) K (l33_0 b a f g d)) (fun (g,b,a,d)=>[.str g,.ro [W Z] b a,V Z d]) (fun (g,b,a,d)=>[]) (fun (_,_,_,_) K=>gg_none) ?_ ?_
 ·rintro f ⟨g,b,a,d⟩ K hG
  refine ro (fun R => 
 let a0:=(g ++ ({ data:=#[32] }:ByteArray))
 (cnd (decide (d<(↑b:Int)))
 (cnd (decide ((g.size+1)≤9223372036854775807))
 (cnd (decide (0≤d∧d<(↑b:Int)))
 (cnd (n60 (a.ii d.toNat 0))
 (cnd (decide (((a0.size)+((m60 (a.ii d.toNat 0)).size))≤9223372036854775807))
 (R (XE.normal) [.str (a0 ++ (m60 (a.ii d.toNat 0))),.ro [W Z] b a,V Z (Z.wrap (d+1))] [])
   False)
   False)
  False)
  False)
 (R (XE.exit 0) [.str g] []))) (fun R=>by kernel_rfl) ?_
  exact ch hG (fun h0=>cg h0 fun h1=>cg h1 fun h2=>cg h2 fun h3=>cg h3 fun h4=>⟨(_,_,_,_),rfl,rfl,h4⟩) (fun h0=>h0.2)
 ·intro s k h
  unfold g33_0 at h
  split at h <;> try exact h.elim
  rename_i e1
  rw [needs_iff] at h
  exact ⟨_,e1,_,(_,_,_,_),rfl,rfl,h.1 _ (List.mem_singleton.2 rfl),h.2⟩
def m33 (l:ByteArray) (i:Nat) (j:Dat):ByteArray :=
 (((o33_0 i j l 0).getD default) ++ ({ data:=#[10] }:ByteArray))
def n33 (l:ByteArray) (i:Nat) (j:Dat):Bool :=
 (((o33_0 i j l 0).isSome)&&((decide (((((o33_0 i j l 0).getD default).size)+1)≤9223372036854775807))&&true))
def q33 (r:ByteArray):SV × List Blk × List Blk:=(.str r,[],[])
def g33:GF:=fun vs bs=>match vs,bs with
 | [.str l,.ro [W Z] i j],[]=>some (rs 0 (q33 (m33 l i j)) [n33 l i j])
 | _,_=>none
def c33:Ctr:=genC [.k,.ro [W Z]] g33
theorem k33:CtrOk Tryz.prog c33 33:=cx (tc k60 tn) mix_ok 8 (fn:=Tryz.f33) (c:=(Tryz.f33.body.getD .skip)) (grs:=[]) (rh:=.k) Tryz.func33 rfl (by kernel_rfl) (lam_of rfl (lc z33_0 ln)) fun vs bs q h hn=>by
 unfold g33 at h
 split at h <;> cases h
 rename_i l i j
 have hn:=n1 hn
 exact ⟨_,rfl,ca (fun R=>(cnd ((o33_0 i j l 0).isSome)
 (cnd (decide (((((o33_0 i j l 0).getD default).size)+1)≤9223372036854775807))
 (R (.str (((o33_0 i j l 0).getD default) ++ ({ data:=#[10] }:ByteArray))) [] [])
  False)
 False)) (fun R=>by kernel_rfl) (cn (al hn) (cn (al (ar hn)) (lf rfl rfl)))⟩
/-! ### shotline/shotlineref08.Parse -/
def l13_0 (i:Nat) (a:Dat) (l:Int):Nat→Int→Int→Nat→Dat→Option (Bool × (Int × Nat × Nat × Dat) × (Int × Int × Int × Int × Nat × Nat × Dat))
 | 0,_,_,_,_=>none
 | f+1,g,m,b,j=>(cond (decide (g<(↑i:Int))) (cond (bif (bif (decide (g=(Z.wrap ((↑i:Int) - 1)))) then false else true) then true else (decide (0≤g∧g<(↑i:Int)))) (cond (bif (decide (g=(Z.wrap ((↑i:Int) - 1)))) then (decide ((a.ss g.toNat 0)=({ data:=#[] }:ByteArray))) else false) (some (true,(m,b,b,j),default)) (cond (decide (g=0)) (cond (decide (0≤g∧g<(↑i:Int))) (cond (n35 (a.ss g.toNat 0) ({ data:=#[116,105,100,101] }:ByteArray) 1) (cond (bif (bif (m35 (a.ss g.toNat 0) ({ data:=#[116,105,100,101] }:ByteArray) 1).2.2 then false else true) then true else (decide (g=(Z.wrap ((↑i:Int) - 1))))) (some (false,default,((Z.wrap (g+1)),7,0,m,b,b,j))) (cond (decide (g=0)) (cond (decide ((0:Int)≤(0:Int)∧(0:Int)<(↑((m35 (a.ss g.toNat 0) ({ data:=#[116,105,100,101] }:ByteArray) 1).1):Int))) (l13_0 i a l f (Z.wrap (g+1)) ((m35 (a.ss g.toNat 0) ({ data:=#[116,105,100,101] }:ByteArray) 1).2.1.ii 0 0) b j) none) (cond (decide ((0:Int)≤(0:Int)∧(0:Int)<(↑((m35 (a.ss g.toNat 0) ({ data:=#[116,105,100,101] }:ByteArray) 1).1):Int))) (cond (decide ((0:Int)≤(1:Int)∧(1:Int)<(↑((m35 (a.ss g.toNat 0) ({ data:=#[116,105,100,101] }:ByteArray) 1).1):Int))) (cond (decide ((0:Int)≤(2:Int)∧(2:Int)<(↑((m35 (a.ss g.toNat 0) ({ data:=#[116,105,100,101] }:ByteArray) 1).1):Int))) (cond (decide ((b+1)≤1073741824)) (l13_0 i a l f (Z.wrap (g+1)) m (b+1) (j.app b (datS [V Z ((m35 (a.ss g.toNat 0) ({ data:=#[116,105,100,101] }:ByteArray) 1).2.1.ii 0 0),V Z ((m35 (a.ss g.toNat 0) ({ data:=#[116,105,100,101] }:ByteArray) 1).2.1.ii 1 0),V Z ((m35 (a.ss g.toNat 0) ({ data:=#[116,105,100,101] }:ByteArray) 1).2.1.ii 2 0)] 3))) none) none) none) none))) none) none) (cond (decide (0≤g∧g<(↑i:Int))) (cond (n35 (a.ss g.toNat 0) ({ data:=#[119,97,118,101] }:ByteArray) 3) (cond (bif (bif (m35 (a.ss g.toNat 0) ({ data:=#[119,97,118,101] }:ByteArray) 3).2.2 then false else true) then true else (decide (g=(Z.wrap ((↑i:Int) - 1))))) (some (false,default,((Z.wrap (g+1)),7,0,m,b,b,j))) (cond (decide (g=0)) (cond (decide ((0:Int)≤(0:Int)∧(0:Int)<(↑((m35 (a.ss g.toNat 0) ({ data:=#[119,97,118,101] }:ByteArray) 3).1):Int))) (l13_0 i a l f (Z.wrap (g+1)) ((m35 (a.ss g.toNat 0) ({ data:=#[119,97,118,101] }:ByteArray) 3).2.1.ii 0 0) b j) none) (cond (decide ((0:Int)≤(0:Int)∧(0:Int)<(↑((m35 (a.ss g.toNat 0) ({ data:=#[119,97,118,101] }:ByteArray) 3).1):Int))) (cond (decide ((0:Int)≤(1:Int)∧(1:Int)<(↑((m35 (a.ss g.toNat 0) ({ data:=#[119,97,118,101] }:ByteArray) 3).1):Int))) (cond (decide ((0:Int)≤(2:Int)∧(2:Int)<(↑((m35 (a.ss g.toNat 0) ({ data:=#[119,97,118,101] }:ByteArray) 3).1):Int))) (cond (decide ((b+1)≤1073741824)) (l13_0 i a l f (Z.wrap (g+1)) m (b+1) (j.app b (datS [V Z ((m35 (a.ss g.toNat 0) ({ data:=#[119,97,118,101] }:ByteArray) 3).2.1.ii 0 0),V Z ((m35 (a.ss g.toNat 0) ({ data:=#[119,97,118,101] }:ByteArray) 3).2.1.ii 1 0),V Z ((m35 (a.ss g.toNat 0) ({ data:=#[119,97,118,101] }:ByteArray) 3).2.1.ii 2 0)] 3))) none) none) none) none))) none) none))) none) (some (true,(m,b,b,j),default)))
abbrev o13_0 (i:Nat) (a:Dat) (l g m:Int) (b:Nat) (j:Dat):Option (Bool × (Int × Nat × Nat × Dat) × (Int × Int × Int × Int × Nat × Nat × Dat)):=l13_0 i a l (i+g.toNat+l.toNat+m.toNat+b+8) g m b j
def e13_0 (i:Nat) (a:Dat) (l:Int) (r:Bool × (Int × Nat × Nat × Dat) × (Int × Int × Int × Int × Nat × Nat × Dat)) (K:XR):Prop:=cnd r.1 (K (XE.exit 0) [.ptr 0 0,.any,.any,.ptr 1 0] [.cells 24 [V Z l,.nsl],.cells 24 [V Z r.2.1.1,.gr 2 3 r.2.1.2.1],.row 73 [W Z,W Z,W Z] r.2.1.2.2.1 r.2.1.2.2.2]) (K (XE.ret) [.ptr 0 0,V Z r.2.2.1,V Z r.2.2.2.1,.ptr 1 0] [.cells 24 [V Z r.2.2.2.2.1,.nsl],.cells 24 [V Z r.2.2.2.2.2.1,.gr 2 3 r.2.2.2.2.2.2.1],.row 73 [W Z,W Z,W Z] r.2.2.2.2.2.2.2.1 r.2.2.2.2.2.2.2.2])
def g13_0:LSum:=fun s k=>match czv 0 92 [2,5,6,7] 3 [⟨false,1,1,2,73,[W Z,W Z,W Z]⟩] s with
 | some ([.ptr 0 0,.ro [.str] i a,.ptr 1 0,V Z g],[.cells 24 [V Z l,.nsl],.cells 24 [V Z m,.gr 2 3 b],.row 73 [W Z,W Z,W Z] b2_0 j])=>needs [decide (b=b2_0),(o13_0 i a l g m b j).isSome] (e13_0 i a l ((o13_0 i a l g m b j).getD default) fun e vs bs=>inBlk 0 k e (mkSt 0 92 [2,3,4,6] vs 3 bs))
 | _=>False
theorem z13_0:LOk Tryz.prog g13_0 (.block 0 (bodyAt (Tryz.f13.body.getD .skip) 0)):=by
 refine lb (ι:=Nat × Dat × Int × Int × Int × Nat × Dat) (fuel:=8) (na:=0) (nt:=92) (nx:=3) (Lh:=[2,5,6,7]) (Le:=[2,3,4,6]) (gl:=[⟨false,1,1,2,73,[W Z,W Z,W Z]⟩]) (tc k8 (tc k34 (tc k35 tn))) mix_ok noLam rfl (fun f (i,a,g,l,m,b,j) K=>GG default (e13_0 i a l) K (l13_0 i a l f g m b j)) (fun (i,a,g,l,m,b,j)=>[.ptr 0 0,.ro [.str] i a,.ptr 1 0,V Z g]) (fun (i,a,g,l,m,b,j)=>[.cells 24 [V Z l,.nsl],.cells 24 [V Z m,.gr 2 3 b],.row 73 [W Z,W Z,W Z] b j]) (fun (_,_,_,_,_,_,_) K=>gg_none) ?_ ?_
 ·rintro f ⟨i,a,g,l,m,b,j⟩ K hG
  refine ro (fun R => 
 let a0:=(m35 (a.ss g.toNat 0) ({ data:=#[116,105,100,101] }:ByteArray) 1)
 let b0:=(m35 (a.ss g.toNat 0) ({ data:=#[119,97,118,101] }:ByteArray) 3)
 let c0:=(decide (g=(Z.wrap ((↑i:Int) - 1))))
 let d0:=(decide (0≤g∧g<(↑i:Int)))
 let e0:=(decide ((0:Int)≤(0:Int)∧(0:Int)<(↑(a0.1):Int)))
 let f0:=(decide ((0:Int)≤(0:Int)∧(0:Int)<(↑(b0.1):Int)))
 (cnd (decide (g<(↑i:Int)))
 (cnd (bif (bif c0 then false else true) then true else d0)
 (cnd (bif c0 then (decide ((a.ss g.toNat 0)=({ data:=#[] }:ByteArray))) else false)
 (R (XE.exit 0) [.ptr 0 0,.any,.any,.ptr 1 0] [.cells 24 [V Z l,.nsl],.cells 24 [V Z m,.gr 2 3 b],.row 73 [W Z,W Z,W Z] b j])
 (cnd (decide (g=0))
 (cnd d0
 (cnd (n35 (a.ss g.toNat 0) ({ data:=#[116,105,100,101] }:ByteArray) 1)
 (cnd (bif (bif a0.2.2 then false else true) then true else c0)
 (R (XE.ret) [.ptr 0 0,V Z (Z.wrap (g+1)),V Z 7,.ptr 1 0] [.cells 24 [V Z 0,.nsl],.cells 24 [V Z m,.gr 2 3 b],.row 73 [W Z,W Z,W Z] b j])
 (cnd (decide (g=0))
 (cnd e0
 (R (XE.normal) [.ptr 0 0,.ro [.str] i a,.ptr 1 0,V Z (Z.wrap (g+1))] [.cells 24 [V Z l,.nsl],.cells 24 [V Z (a0.2.1.ii 0 0),.gr 2 3 b],.row 73 [W Z,W Z,W Z] b j])
     False)
 (cnd e0
 (cnd (decide ((0:Int)≤(1:Int)∧(1:Int)<(↑(a0.1):Int)))
 (cnd (decide ((0:Int)≤(2:Int)∧(2:Int)<(↑(a0.1):Int)))
 (cnd (decide (b≤b))
 (cnd (decide ((b+1)≤1073741824))
 (R (XE.normal) [.ptr 0 0,.ro [.str] i a,.ptr 1 0,V Z (Z.wrap (g+1))] [.cells 24 [V Z l,.nsl],.cells 24 [V Z m,.gr 2 3 (b+1)],.row 73 [W Z,W Z,W Z] (b+1) (j.app b (datS [V Z (a0.2.1.ii 0 0),V Z (a0.2.1.ii 1 0),V Z (a0.2.1.ii 2 0)] 3))])
       False)
       False)
      False)
      False)
     False)))
    False)
   False)
 (cnd d0
 (cnd (n35 (a.ss g.toNat 0) ({ data:=#[119,97,118,101] }:ByteArray) 3)
 (cnd (bif (bif b0.2.2 then false else true) then true else c0)
 (R (XE.ret) [.ptr 0 0,V Z (Z.wrap (g+1)),V Z 7,.ptr 1 0] [.cells 24 [V Z 0,.nsl],.cells 24 [V Z m,.gr 2 3 b],.row 73 [W Z,W Z,W Z] b j])
 (cnd (decide (g=0))
 (cnd f0
 (R (XE.normal) [.ptr 0 0,.ro [.str] i a,.ptr 1 0,V Z (Z.wrap (g+1))] [.cells 24 [V Z l,.nsl],.cells 24 [V Z (b0.2.1.ii 0 0),.gr 2 3 b],.row 73 [W Z,W Z,W Z] b j])
     False)
 (cnd f0
 (cnd (decide ((0:Int)≤(1:Int)∧(1:Int)<(↑(b0.1):Int)))
 (cnd (decide ((0:Int)≤(2:Int)∧(2:Int)<(↑(b0.1):Int)))
 (cnd (decide (b≤b))
 (cnd (decide ((b+1)≤1073741824))
 (R (XE.normal) [.ptr 0 0,.ro [.str] i a,.ptr 1 0,V Z (Z.wrap (g+1))] [.cells 24 [V Z l,.nsl],.cells 24 [V Z m,.gr 2 3 (b+1)],.row 73 [W Z,W Z,W Z] (b+1) (j.app b (datS [V Z (b0.2.1.ii 0 0),V Z (b0.2.1.ii 1 0),V Z (b0.2.1.ii 2 0)] 3))])
       False)
       False)
      False)
      False)
     False)))
    False)
   False)))
  False)
 (R (XE.exit 0) [.ptr 0 0,.any,.any,.ptr 1 0] [.cells 24 [V Z l,.nsl],.cells 24 [V Z m,.gr 2 3 b],.row 73 [W Z,W Z,W Z] b j]))) (fun R=>by kernel_rfl) ?_
  exact ch hG (fun h0=>cg h0 fun h1=>ch h1 (fun h2=>h2.2) (fun h2=>ch h2 (fun h3=>cg h3 fun h4=>cg h4 fun h5=>ch h5 (fun h6=>h6.2) (fun h6=>ch h6 (fun h7=>cg h7 fun h8=>⟨(_,_,_,_,_,_,_),rfl,rfl,h8⟩) (fun h7=>cg h7 fun h8=>cg h8 fun h9=>cg h9 fun h10=>cn (decide_eq_true (Nat.le_refl _)) (cg h10 fun h11=>⟨(_,_,_,_,_,_,_),rfl,rfl,h11⟩)))) (fun h3=>cg h3 fun h4=>cg h4 fun h5=>ch h5 (fun h6=>h6.2) (fun h6=>ch h6 (fun h7=>cg h7 fun h8=>⟨(_,_,_,_,_,_,_),rfl,rfl,h8⟩) (fun h7=>cg h7 fun h8=>cg h8 fun h9=>cg h9 fun h10=>cn (decide_eq_true (Nat.le_refl _)) (cg h10 fun h11=>⟨(_,_,_,_,_,_,_),rfl,rfl,h11⟩)))))) (fun h0=>h0.2)
 ·intro s k h
  unfold g13_0 at h
  split at h <;> try exact h.elim
  rename_i e1
  rw [needs_iff] at h
  have hq:=h.1
  simp only [List.mem_cons,forall_eq_or_imp,decide_eq_true_eq,List.not_mem_nil,false_imp_iff,implies_true,and_true] at hq
  obtain ⟨rfl,hq⟩:=hq
  exact ⟨_,e1,_,(_,_,_,_,_,_,_),rfl,rfl,hq,h.2⟩
def m13 (d:ByteArray):Int × Nat × Dat × Int × Int :=
 (cond (decide ((60000:Int)<(↑d.size:Int))) (0,0,noDat,0,8) (cond (decide (d=({ data:=#[] }:ByteArray))) (0,0,noDat,1,7) (cond ((o13_0 (m34 d 10).1 (m34 d 10).2 0 0 0 0 noDat).getD default).1 (cond (bif (decide ((m8 ((o13_0 (m34 d 10).1 (m34 d 10).2 0 0 0 0 noDat).getD default).2.1.1 ((o13_0 (m34 d 10).1 (m34 d 10).2 0 0 0 0 noDat).getD default).2.1.2.1 ((o13_0 (m34 d 10).1 (m34 d 10).2 0 0 0 0 noDat).getD default).2.1.2.2.2)=0)) then false else true) (0,0,noDat,0,(m8 ((o13_0 (m34 d 10).1 (m34 d 10).2 0 0 0 0 noDat).getD default).2.1.1 ((o13_0 (m34 d 10).1 (m34 d 10).2 0 0 0 0 noDat).getD default).2.1.2.1 ((o13_0 (m34 d 10).1 (m34 d 10).2 0 0 0 0 noDat).getD default).2.1.2.2.2)) (((o13_0 (m34 d 10).1 (m34 d 10).2 0 0 0 0 noDat).getD default).2.1.1,((o13_0 (m34 d 10).1 (m34 d 10).2 0 0 0 0 noDat).getD default).2.1.2.1,((o13_0 (m34 d 10).1 (m34 d 10).2 0 0 0 0 noDat).getD default).2.1.2.2.2,0,0)) (((o13_0 (m34 d 10).1 (m34 d 10).2 0 0 0 0 noDat).getD default).2.2.2.2.1,0,noDat,((o13_0 (m34 d 10).1 (m34 d 10).2 0 0 0 0 noDat).getD default).2.2.1,((o13_0 (m34 d 10).1 (m34 d 10).2 0 0 0 0 noDat).getD default).2.2.2.1))))
def n13 (d:ByteArray):Bool :=
 (cond (decide ((60000:Int)<(↑d.size:Int))) true ((n34 d 10)&&(cond (decide (d=({ data:=#[] }:ByteArray))) true (((o13_0 (m34 d 10).1 (m34 d 10).2 0 0 0 0 noDat).isSome)&&(cond ((o13_0 (m34 d 10).1 (m34 d 10).2 0 0 0 0 noDat).getD default).1 ((decide ((0+((o13_0 (m34 d 10).1 (m34 d 10).2 0 0 0 0 noDat).getD default).2.1.2.1)≤((o13_0 (m34 d 10).1 (m34 d 10).2 0 0 0 0 noDat).getD default).2.1.2.2.1))&&((n8 ((o13_0 (m34 d 10).1 (m34 d 10).2 0 0 0 0 noDat).getD default).2.1.1 ((o13_0 (m34 d 10).1 (m34 d 10).2 0 0 0 0 noDat).getD default).2.1.2.1 ((o13_0 (m34 d 10).1 (m34 d 10).2 0 0 0 0 noDat).getD default).2.1.2.2.2)&&(cond (bif (decide ((m8 ((o13_0 (m34 d 10).1 (m34 d 10).2 0 0 0 0 noDat).getD default).2.1.1 ((o13_0 (m34 d 10).1 (m34 d 10).2 0 0 0 0 noDat).getD default).2.1.2.1 ((o13_0 (m34 d 10).1 (m34 d 10).2 0 0 0 0 noDat).getD default).2.1.2.2.2)=0)) then false else true) true ((decide ((0+((o13_0 (m34 d 10).1 (m34 d 10).2 0 0 0 0 noDat).getD default).2.1.2.1)≤((o13_0 (m34 d 10).1 (m34 d 10).2 0 0 0 0 noDat).getD default).2.1.2.2.1))&&true)))) true)))))
def q13 (r:Int × Nat × Dat × Int × Int):SV × List Blk × List Blk:=(.tup [.agg [V Z r.1,.ro [W Z,W Z,W Z] r.2.1 r.2.2.1],V Z r.2.2.2.1,V Z r.2.2.2.2],[],[])
def g13:GF:=fun vs bs=>match vs,bs with
 | [.str d],[]=>some (rs 0 (q13 (m13 d)) [n13 d])
 | _,_=>none
def c13:Ctr:=genC [.k] g13
theorem k13:CtrOk Tryz.prog c13 13:=cx (tc k8 (tc k34 (tc k35 tn))) mix_ok 8 (fn:=Tryz.f13) (c:=(Tryz.f13.body.getD .skip)) (grs:=[]) (rh:=.t [.t [.k,.ro [W Z,W Z,W Z]],.k,.k]) Tryz.func13 rfl (by kernel_rfl) (lam_of rfl (lc z13_0 ln)) fun vs bs q h hn=>by
 unfold g13 at h
 split at h <;> cases h
 rename_i d
 have hn:=n1 hn
 exact ⟨_,rfl,ca (fun R => 
 let a0:=((o13_0 (m34 d 10).1 (m34 d 10).2 0 0 0 0 noDat).getD default)
 (cnd (decide ((60000:Int)<(↑d.size:Int)))
 (R (.tup [.agg [V Z 0,.ro [W Z,W Z,W Z] 0 noDat],V Z 0,V Z 8]) [] [])
 (cnd (n34 d 10)
 (cnd (decide (d=({ data:=#[] }:ByteArray)))
 (R (.tup [.agg [V Z 0,.ro [W Z,W Z,W Z] 0 noDat],V Z 1,V Z 7]) [] [])
 (cnd ((o13_0 (m34 d 10).1 (m34 d 10).2 0 0 0 0 noDat).isSome)
 (cnd a0.1
 (cnd (decide ((0+a0.2.1.2.1)≤a0.2.1.2.2.1))
 (cnd (n8 a0.2.1.1 a0.2.1.2.1 a0.2.1.2.2.2)
 (cnd (bif (decide ((m8 a0.2.1.1 a0.2.1.2.1 a0.2.1.2.2.2)=0)) then false else true)
 (R (.tup [.agg [V Z 0,.ro [W Z,W Z,W Z] 0 noDat],V Z 0,V Z (m8 a0.2.1.1 a0.2.1.2.1 a0.2.1.2.2.2)]) [] [])
 (cnd (decide ((0+a0.2.1.2.1)≤a0.2.1.2.2.1))
 (R (.tup [.agg [V Z a0.2.1.1,.ro [W Z,W Z,W Z] a0.2.1.2.1 a0.2.1.2.2.2],V Z 0,V Z 0]) [] [])
     False))
    False)
    False)
 (R (.tup [.agg [V Z a0.2.2.2.2.1,.ro [W Z,W Z,W Z] 0 noDat],V Z a0.2.2.1,V Z a0.2.2.2.1]) [] []))
   False))
  False))) (fun R=>by kernel_rfl) (co (fun h0=>lf (cT h0 rfl) rfl) (fun h0=>cn (al (cf h0 hn)) (co (fun h1=>lf (cF h0 (cT h1 rfl)) rfl) (fun h1=>cn (al (cf h1 (ar (cf h0 hn)))) (co (fun h2=>cn (al (ct h2 (ar (cf h1 (ar (cf h0 hn)))))) (cn (al (ar (ct h2 (ar (cf h1 (ar (cf h0 hn))))))) (co (fun h3=>lf (cF h0 (cF h1 (cT h2 (cT h3 rfl)))) rfl) (fun h3=>cn (al (cf h3 (ar (ar (ct h2 (ar (cf h1 (ar (cf h0 hn))))))))) (lf (cF h0 (cF h1 (cT h2 (cF h3 rfl)))) rfl))))) (fun h2=>lf (cF h0 (cF h1 (cF h2 rfl))) rfl))))))⟩
/-! ### shotline/shotlineref08.Print -/
def l11_0 (g:Int) (d:Nat) (b l:Dat):Nat→ByteArray→Int→Option (ByteArray)
 | 0,_,_=>none
 | f+1,o,j=>(cond (decide (j<(↑d:Int))) (cond (decide (0≤j∧j<(↑d:Int))) (cond (n33 ({ data:=#[119,97,118,101] }:ByteArray) 3 (datS [V Z (b.ii j.toNat 0),V Z (b.ii j.toNat 1),V Z (b.ii j.toNat 2)] 1)) (cond (decide ((o.size+((m33 ({ data:=#[119,97,118,101] }:ByteArray) 3 (datS [V Z (b.ii j.toNat 0),V Z (b.ii j.toNat 1),V Z (b.ii j.toNat 2)] 1)).size))≤9223372036854775807)) (l11_0 g d b l f (o ++ (m33 ({ data:=#[119,97,118,101] }:ByteArray) 3 (datS [V Z (b.ii j.toNat 0),V Z (b.ii j.toNat 1),V Z (b.ii j.toNat 2)] 1))) (Z.wrap (j+1))) none) none) none) (some o))
abbrev o11_0 (g:Int) (d:Nat) (b l:Dat) (o:ByteArray) (j:Int):Option (ByteArray):=l11_0 g d b l (o.size+j.toNat+g.toNat+d+8) o j
def e11_0 (g:Int) (d:Nat) (b l:Dat) (r:ByteArray) (K:XR):Prop:=K (XE.exit 0) [.str r] [.cells 24 [V Z g,.ro [W Z,W Z,W Z] d b],.row 3 [W Z] 1 l]
def g11_0:LSum:=fun s k=>match czv 0 33 [1,3,4] 2 [] s with
 | some ([.ptr 0 0,.str o,V Z j],[.cells 24 [V Z g,.ro [W Z,W Z,W Z] d b],.row 3 [W Z] 1 l])=>needs [(o11_0 g d b l o j).isSome] (e11_0 g d b l ((o11_0 g d b l o j).getD default) fun e vs bs=>inBlk 0 k e (mkSt 0 33 [3] vs 2 bs))
 | _=>False
theorem z11_0:LOk Tryz.prog g11_0 (.block 0 (bodyAt (Tryz.f11.body.getD .skip) 0)):=by
 refine lb (ι:=ByteArray × Int × Int × Nat × Dat × Dat) (fuel:=8) (na:=0) (nt:=33) (nx:=2) (Lh:=[1,3,4]) (Le:=[3]) (gl:=[]) (tc k33 tn) mix_ok noLam rfl (fun f (o,j,g,d,b,l) K=>GG default (e11_0 g d b l) K (l11_0 g d b l f o j)) (fun (o,j,g,d,b,l)=>[.ptr 0 0,.str o,V Z j]) (fun (o,j,g,d,b,l)=>[.cells 24 [V Z g,.ro [W Z,W Z,W Z] d b],.row 3 [W Z] 1 l]) (fun (_,_,_,_,_,_) K=>gg_none) ?_ ?_
 ·rintro f ⟨o,j,g,d,b,l⟩ K hG
  refine ro (fun R => 
 let a0:=({ data:=#[119,97,118,101] }:ByteArray)
 let b0:=(datS [V Z (b.ii j.toNat 0),V Z (b.ii j.toNat 1),V Z (b.ii j.toNat 2)] 1)
 (cnd (decide (j<(↑d:Int)))
 (cnd (decide (0≤j∧j<(↑d:Int)))
 (cnd (n33 a0 3 b0)
 (cnd (decide ((o.size+((m33 a0 3 b0).size))≤9223372036854775807))
 (R (XE.normal) [.ptr 0 0,.str (o ++ (m33 a0 3 b0)),V Z (Z.wrap (j+1))] [.cells 24 [V Z g,.ro [W Z,W Z,W Z] d b],.row 3 [W Z] 1 l])
   False)
  False)
  False)
 (R (XE.exit 0) [.str o] [.cells 24 [V Z g,.ro [W Z,W Z,W Z] d b],.row 3 [W Z] 1 l]))) (fun R=>by kernel_rfl) ?_
  exact ch hG (fun h0=>cg h0 fun h1=>cg h1 fun h2=>cg h2 fun h3=>⟨(_,_,_,_,_,_),rfl,rfl,h3⟩) (fun h0=>h0.2)
 ·intro s k h
  unfold g11_0 at h
  split at h <;> try exact h.elim
  rename_i e1
  rw [needs_iff] at h
  exact ⟨_,e1,_,(_,_,_,_,_,_),rfl,rfl,h.1 _ (List.mem_singleton.2 rfl),h.2⟩
def m11 (i:Int) (m:Nat) (n:Dat):ByteArray :=
 ((o11_0 i m n (datS [V Z i] 1) (m33 ({ data:=#[116,105,100,101] }:ByteArray) 1 (datS [V Z i] 1)) 0).getD default)
def n11 (i:Int) (m:Nat) (n:Dat):Bool :=
 ((n33 ({ data:=#[116,105,100,101] }:ByteArray) 1 (datS [V Z i] 1))&&(((o11_0 i m n (datS [V Z i] 1) (m33 ({ data:=#[116,105,100,101] }:ByteArray) 1 (datS [V Z i] 1)) 0).isSome)&&true))
def q11 (r:ByteArray):SV × List Blk × List Blk:=(.str r,[],[])
def g11:GF:=fun vs bs=>match vs,bs with
 | [.agg [V Z i,.ro [W Z,W Z,W Z] m n]],[]=>some (rs 0 (q11 (m11 i m n)) [n11 i m n])
 | _,_=>none
def c11:Ctr:=genC [.a [.k,.ro [W Z,W Z,W Z]]] g11
theorem k11:CtrOk Tryz.prog c11 11:=cx (tc k33 tn) mix_ok 8 (fn:=Tryz.f11) (c:=(Tryz.f11.body.getD .skip)) (grs:=[]) (rh:=.k) Tryz.func11 rfl (by kernel_rfl) (lam_of rfl (lc z11_0 ln)) fun vs bs q h hn=>by
 unfold g11 at h
 split at h <;> cases h
 rename_i i m n
 have hn:=n1 hn
 exact ⟨_,rfl,ca (fun R => 
 let a0:=({ data:=#[116,105,100,101] }:ByteArray)
 let b0:=(o11_0 i m n (datS [V Z i] 1) (m33 a0 1 (datS [V Z i] 1)) 0)
 (cnd (n33 a0 1 (datS [V Z i] 1))
 (cnd (b0.isSome)
 (R (.str (b0.getD default)) [] [])
  False)
 False)) (fun R=>by kernel_rfl) (cn (al hn) (cn (al (ar hn)) (lf rfl rfl)))⟩
end
end Go.Proofs.YtpfipoimpmlmoaaGreatDoor
