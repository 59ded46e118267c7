/-
 The package variables are in each world that the row speaks of. Conditions: none.
-/
import Derived.Test.YtpfipoimpmlmoaaGreatDoorJSyX
import Derived.Test.YtpfipoimpmlmoaaGreatDoorJSyHd
import Derived.Test.YtpfipoimpmlmoaaGreatDoorRows
import Derived.LaidSub
import Derived.LaidMore
import Derived.LaidLaws
import Derived.MakeChecks
import Derived.Lib.LaidTab
import Derived.Shelf.Vars
import Derived.KernelRfl
import Derived.Test.YtpfipoimpmlmoaaGreatDoorJ6
namespace Go.Proofs.YtpfipoimpmlmoaaGreatDoor
open Go Go.Sy
set_option maxRecDepth 100000
def laidL:List (String × DataW Unit):=[("math/bits.deBruijn32tab",Rows.laid_math_bits_deBruijn32tab),("math/bits.deBruijn64tab",Rows.laid_math_bits_deBruijn64tab),("internal/strconv.uint64pow10",Rows.laid_internal_strconv_uint64pow10),("unicode/utf8.acceptRanges",Rows.laid_unicode_utf8_acceptRanges),("strconv.ErrRange",Rows.laid_strconv_ErrRange),("strconv.ErrSyntax",Rows.laid_strconv_ErrSyntax),("unicode/utf8.first",Rows.laid_unicode_utf8_first)]
def isI (P:Program) (g:Nat):Bool:=match (P.globals[g]?).map (·.type) with
 | some t=>(match P.underlying t with
  | some (.interface _)=>true
  | _=>false)
 | none=>false
theorem iface_head {P:Program} {W:World} {n nm:String} {d:DataW Unit} {r:List (String × DataW Unit)} {g:Nat} (hg:P.globalNamed n=some g) (hi:isI P g=true) (h:laidMet P ((n,.iface nm d) :: r) W):∃ u v t z,W.heap[g]? = some (.cells #[.iface u v] t z):=by
 obtain ⟨ps,⟨g',t',cs,fuel,p,q,hg',ht',hvar,hd,_,_⟩,_⟩:=h
 obtain rfl:=Option.some.inj (hg.symm.trans hg')
 unfold isI at hi
 rw [ht'] at hi
 dsimp only at hi
 split at hi
 ·rename_i ms hu
  obtain ⟨f',u,v,e,_,_⟩:=iface_of_trod hu hd
  unfold World.var? at hvar
  rw [hg] at hvar
  simp only [Option.bind_some] at hvar
  split at hvar
  ·rename_i cs' t z e2
   cases hvar
   refine ⟨u,v,t,z,?_⟩
   rw [e2]
   obtain ⟨l⟩:=cs
   dsimp only at e
   rw [e]
  ·cases hvar
 ·cases hi
theorem pv_laid (w:World) (hS:w.ShapedOpen Tryz.prog) (h:laidMetH Tryz.prog laidL w):PvOk w:=by
 refine ⟨?_,?_,?_,?_⟩
 ·have h1:=laidMetH.filter (fun x=>x.1 == "internal/strconv.uint64pow10") h
  rw [show laidL.filter (fun x=>x.1 == "internal/strconv.uint64pow10")=[("internal/strconv.uint64pow10",Lib.tabData .u64 Lib.pow10Tab)] by kernel_rfl,MakeChecks.laidMetH_plain _ _ _ (by kernel_rfl)] at h1
  have h2:=Lib.tabIs_of_head (g:=0) (t:=182) (e:=158) (n:=20) (by kernel_rfl) (by kernel_rfl) (by kernel_rfl) (by kernel_rfl) (by kernel_rfl) (by kernel_rfl) h1
  unfold Lib.TabIs World.var? at h2
  rw [show Tryz.prog.globalNamed "internal/strconv.uint64pow10"=some 0 by kernel_rfl,pow10_eq] at h2
  simp only [Option.bind_some] at h2
  split at h2
  ·rename_i cs t z e
   cases h2
   exact ⟨_,_,e⟩
  ·cases h2
 ·exact Go.Proofs.cell_of_shapedOpen_int (g:=1) (t:=3) (zero:=#[.int .i64 0]) (k:=.i64) hS (Nat.le_of_ble_eq_true (by kernel_rfl)) (by kernel_rfl) rfl (by kernel_rfl) (by kernel_rfl) (by kernel_rfl)
 ·have h1:=laidMetH.filter (fun x=>x.1 == "strconv.ErrSyntax") h
  rw [show laidL.filter (fun x=>x.1 == "strconv.ErrSyntax")=[("strconv.ErrSyntax",Rows.laid_strconv_ErrSyntax)] by kernel_rfl,MakeChecks.laidMetH_plain _ _ _ (by kernel_rfl)] at h1
  exact iface_head (by kernel_rfl) (by kernel_rfl) h1
 ·have h1:=laidMetH.filter (fun x=>x.1 == "strconv.ErrRange") h
  rw [show laidL.filter (fun x=>x.1 == "strconv.ErrRange")=[("strconv.ErrRange",Rows.laid_strconv_ErrRange)] by kernel_rfl,MakeChecks.laidMetH_plain _ _ _ (by kernel_rfl)] at h1
  exact iface_head (by kernel_rfl) (by kernel_rfl) h1
end Go.Proofs.YtpfipoimpmlmoaaGreatDoor
