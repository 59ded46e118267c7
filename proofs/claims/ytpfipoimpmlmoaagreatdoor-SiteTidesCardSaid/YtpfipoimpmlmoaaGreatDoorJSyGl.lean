/-
 A symbolic executor for the model's code: what nobody writes any more; package variables, in every memory as they were laid. Conditions: none.
-/
import Derived.Test.YtpfipoimpmlmoaaGreatDoorJSyMp
namespace Go.Sy
set_option linter.unusedVariables false
open Go.RowKit
structure Nm where
 blk:Nat
 off:Nat
 cap:Nat
structure Ids where
 f:Nat→Option Nat
 inj:∀ b b' i,f b=some i→f b'=some i→b=b'
def noIds:Ids:=⟨fun _=>none,fun _ _ _ h=>by cases h⟩
structure Od where
 c:Nat→Nat→Option Value
 m:Nat→Option (Array MapEntry × Nat)
 p:Ids
instance:CoeFun Od fun _=>Nat→Nat→Option Value:=⟨Od.c⟩
structure OdExt (od od':Od):Prop where
 c:∀ b o v,od b o=some v→od' b o=some v
 m:∀ b v,od.m b=some v→od'.m b=some v
 p:∀ b i,od.p.f b=some i→od'.p.f b=some i
instance (od od':Od):CoeFun (OdExt od od') fun _=>∀ b o v,od b o=some v→od' b o=some v:=⟨OdExt.c⟩
theorem OdExt.refl (od:Od):OdExt od od:=⟨fun _ _ _ h=>h,fun _ _ h=>h,fun _ _ h=>h⟩
theorem OdExt.trans {a b c:Od} (h:OdExt a b) (k:OdExt b c):OdExt a c:=⟨fun x o v hv=>k.c x o v (h.c x o v hv),fun x v hv=>k.m x v (h.m x v hv),fun x i hi=>k.p x i (h.p x i hi)⟩
def glC:List Nat:=[0,1,2,3]
def Gl (od:Od):Prop:=∀ b∈glC,∃ v,od.c b 0=some v
theorem Gl.ext {od od':Od} (h:Gl od) (e:OdExt od od'):Gl od':=fun b hb=>let ⟨v,hv⟩:=h b hb;⟨v,e.c b 0 v hv⟩
theorem Gl.mix {a b:Od} (ha:Gl a) (hb:Gl b) (n:Nat):Gl ⟨fun x o=>if n≤x then b.c x o else a.c x o,b.m,b.p⟩:=fun x hx=>by
 show ∃ v,(if n≤x then b.c x 0 else a.c x 0)=some v
 split
 ·exact hb x hx
 ·exact ha x hx
def pow10:List Value:=(List.range 20).map fun i=>Value.int .u64 ((10 ^ i:Nat):Int)
structure PvOk (w:World):Prop where
 p10:∃ t z,w.heap[0]? = some (.cells pow10.toArray t z)
 mx:∃ m,w.cell? ⟨1,0,none⟩=some (.int .i64 m)
 es:∃ a b t z,w.heap[2]? = some (.cells #[.iface a b] t z)
 er:∃ a b t z,w.heap[3]? = some (.cells #[.iface a b] t z)
theorem PvOk.same {w w':World} (h:PvOk w) (e:∀ b∈glC,w'.heap[b]? = w.heap[b]?):PvOk w':=by
 obtain ⟨⟨a1,a2,a⟩,⟨b1,b⟩,⟨c1,c2,c3,c4,c⟩,⟨d1,d2,d3,d4,d⟩⟩:=h
 exact ⟨⟨_,_,(e 0 (by decide)).trans a⟩,⟨b1,(World.cell?_of_block (e 1 (by decide))).trans b⟩,⟨_,_,_,_,(e 2 (by decide)).trans c⟩,⟨_,_,_,_,(e 3 (by decide)).trans d⟩⟩
theorem PvOk.keep {w w':World} {od:Od} (h:PvOk w) (g:Gl od) (hc:∀ b o v,od.c b o=some v→w'.heap[b]? = w.heap[b]?) (hm:∀ b v,od.m b=some v→w'.heap[b]? = w.heap[b]?):PvOk w' :=
 h.same fun b hb=>let ⟨v,hv⟩:=g b hb;hc b 0 v hv
theorem PvOk.gl {w:World} (h:PvOk w) (m:Nat→Option (Array MapEntry × Nat)) (p:Ids):Gl ⟨fun b o=>w.cell? ⟨b,o,none⟩,m,p⟩:=by
 obtain ⟨⟨a1,a2,a⟩,⟨b1,b⟩,⟨c1,c2,c3,c4,c⟩,⟨d1,d2,d3,d4,d⟩⟩:=h
 intro x hx
 simp only [glC,List.mem_cons,List.not_mem_nil,or_false] at hx
 rcases hx with rfl | rfl | rfl | rfl
 ·exact ⟨.int .u64 1,by simp only [World.cell?,a];rfl⟩
 ·exact ⟨_,b⟩
 ·exact ⟨_,by simp only [World.cell?,c];rfl⟩
 ·exact ⟨_,by simp only [World.cell?,d];rfl⟩
def anyOd:Od:=⟨fun _ _=>some (.bool true),fun _=>none,noIds⟩
theorem any_gl:Gl anyOd:=fun _ _=>⟨_,rfl⟩
class GlbIs (w:World):Prop where
 pv:PvOk w
end Go.Sy
