/-
 Helpers of the contracts by hand. Conditions: none.
-/
import Derived.Test.YtpfipoimpmlmoaaGreatDoorJSyY
import Derived.Test.YtpfipoimpmlmoaaGreatDoorJSyLay
import Derived.Test.YtpfipoimpmlmoaaGreatDoorJBase
namespace Go.Proofs.YtpfipoimpmlmoaaGreatDoor
open Go Go.Sy
set_option linter.unusedVariables false
set_option maxRecDepth 100000
theorem pow10_eq:Lib.pow10Tab.map (fun z=>Value.int .u64 z)=pow10:=by
 unfold Lib.pow10Tab pow10
 rw [List.map_map];rfl
theorem tab_of {w:World} (h:PvOk w):Lib.TabIs Tryz.prog w "internal/strconv.uint64pow10" .u64 Lib.pow10Tab:=by
 obtain ⟨t,z,h⟩:=h.p10
 unfold Lib.TabIs World.var?
 rw [show Tryz.prog.globalNamed "internal/strconv.uint64pow10"=some 0 by kernel_rfl,pow10_eq]
 simp only [Option.bind_some,h]
theorem es_of {w:World} (h:PvOk w):∃ tp p,w.var? Tryz.prog "strconv.ErrSyntax"=some #[.iface tp p]:=by
 obtain ⟨a,b,t,z,h⟩:=h.es
 refine ⟨a,b,?_⟩
 unfold World.var?
 rw [show Tryz.prog.globalNamed "strconv.ErrSyntax"=some 2 by kernel_rfl]
 simp only [Option.bind_some,h]
theorem er_of {w:World} (h:PvOk w):∃ tp p,w.var? Tryz.prog "strconv.ErrRange"=some #[.iface tp p]:=by
 obtain ⟨a,b,t,z,h⟩:=h.er
 refine ⟨a,b,?_⟩
 unfold World.var?
 rw [show Tryz.prog.globalNamed "strconv.ErrRange"=some 3 by kernel_rfl]
 simp only [Option.bind_some,h]
theorem grow_below (w:World) (k:Nat) (os:Array Obj):RowKit.Below w.heap.size w (Go.Sort.grow (w.drewN k) os) :=
 ⟨rfl,rfl,rfl,by simp [Go.Sort.grow],fun b hb=>by
  show (w.heap ++ os)[b]? = w.heap[b]?
  rw [Array.getElem?_append_left hb]⟩
theorem post_val {ρ:Env} {off:Nat} {v:SV} {ns:List Bool} {w w':World} {x:Value} (hx:v.den ρ x) (hB:RowKit.Below w.heap.size w w'):OpPost ρ ρ off { v:=v,need:=ns } w w' x :=
 ⟨hx,Ext.refl _,fun _ _=>rfl,hB.os,hB.tape,hB.output,hB.size,fun b hb _=>hB.block b hb,⟨fun _ _ _ h=>.inl h,fun _ _ h=>.inl h,rfl⟩,fun u hu=>by simp at hu,fun j b hj=>by simp at hj,fun j j' b b' m m' hne hj=>by simp at hj⟩
theorem bytes_below (w:World) (e:Nat) (s:ByteArray):RowKit.Below w.heap.size w (Lib.bytesWorld w e s) :=
 ⟨rfl,rfl,rfl,by rw [Lib.bytesWorld_size];omega,fun b hb=>Lib.bytesWorld_at_old w e s b hb⟩
end Go.Proofs.YtpfipoimpmlmoaaGreatDoor
