/-
  Contracts of functions: models, equations by the kernel, contracts. Conditions: none.
-/
import Derived.Test.YtchhhoamnagbfaaGreatDoorB3
import Derived.KernelRfl
namespace Go.Proofs.YtchhhoamnagbfaaGreatDoor
open Go Go.Sy
set_option linter.unusedVariables false
set_option linter.unusedSimpArgs false
set_option maxRecDepth 100000
set_option maxHeartbeats 2000000
attribute [local irreducible] Go.IntKind.wrap Int.tdiv Int.tmod Int.fdiv
open Go.Sy renaming tabOk_cons → tc, tabOk_nil → tn, cnd_need → cn, leaf_of → lf, cnd_gg → cg, cnd_gg2 → ch, cond_f → cf, cond_t → ct, cnd_of → co, callOf → ca, roundOf → ro, cnd_not → nn, lams_cons → lc, lams_nil → ln, condT → cT, condF → cF, need1 → n1, resOf → rs, and_l → al, and_r → ar, or_gg → og, ctr_of → cx, loop_blk → lb
open Go.IntKind renaming i64 → Z
open Go.Sy.SV renaming int → V
open Go.Sy.Kd renaming int → W
/-! ### shotline/profile.metres -/
noncomputable def m57 (a : Int) : ByteArray :=
  (cond (decide ((0 : Int) < (a.tmod 100))) ((m56 (Z.wrap (a.tdiv 100))) ++ (({ data := #[OfNat.ofNat 46] } : ByteArray) ++ (m74 ((m56 (Z.wrap (100 + (a.tmod 100)))).extract 1 ((↑((m56 (Z.wrap (100 + (a.tmod 100)))).size) : Int).toNat))))) (m56 (Z.wrap (a.tdiv 100))))
noncomputable def n57 (a : Int) : Bool :=
  ((n56 (Z.wrap (a.tdiv 100))) && (cond (decide ((0 : Int) < (a.tmod 100))) ((n56 (Z.wrap (100 + (a.tmod 100)))) && ((decide ((0 : Int) ≤ (1 : Int) ∧ (1 : Int) ≤ (↑(m56 (Z.wrap ((100 : Int) + a.tmod (100 : Int)))).size : Int) ∧ (↑(m56 (Z.wrap ((100 : Int) + a.tmod (100 : Int)))).size : Int) ≤ (↑(m56 (Z.wrap ((100 : Int) + a.tmod (100 : Int)))).size : Int))) && ((n74 ((m56 (Z.wrap (100 + (a.tmod 100)))).extract 1 ((↑((m56 (Z.wrap (100 + (a.tmod 100)))).size) : Int).toNat)) ({ data := #[OfNat.ofNat 48] } : ByteArray)) && ((decide ((1 + ((m74 ((m56 (Z.wrap (100 + (a.tmod 100)))).extract 1 ((↑((m56 (Z.wrap (100 + (a.tmod 100)))).size) : Int).toNat))).size)) ≤ 9223372036854775807)) && ((decide ((((m56 (Z.wrap (a.tdiv 100))).size) + ((({ data := #[OfNat.ofNat 46] } : ByteArray) ++ (m74 ((m56 (Z.wrap (100 + (a.tmod 100)))).extract 1 ((↑((m56 (Z.wrap (100 + (a.tmod 100)))).size) : Int).toNat)))).size)) ≤ 9223372036854775807)) && true))))) true))
noncomputable def q57 (r : ByteArray) : SV × List Blk × List Blk := (.str r, [], [])
noncomputable def g57 : GF := fun vs bs => match vs, bs with
  | [V Z a], [] => some (rs 0 (q57 (m57 a)) [n57 a])
  | _, _ => none
noncomputable def c57 : Ctr := genC [.k] g57
theorem k57 : CtrOk Tryz.prog c57 57 := cx (tc k56 (tc k74 tn)) mix_ok 8 (fn := Tryz.f57) (c := (Tryz.f57.body.getD .skip)) (grs := []) (rh := .k) Tryz.func57 rfl (by kernel_rfl) noLam fun vs bs q h hn => by
  unfold g57 at h
  split at h <;> cases h
  rename_i a
  have hn := n1 hn
  exact ⟨_, rfl, ca (fun R => (cnd (n56 (Z.wrap (a.tdiv 100)))
 (cnd (decide ((0 : Int) < (a.tmod 100)))
 (cnd (n56 (Z.wrap (100 + (a.tmod 100))))
 (cnd (decide ((0 : Int) ≤ (1 : Int) ∧ (1 : Int) ≤ (↑(m56 (Z.wrap ((100 : Int) + a.tmod (100 : Int)))).size : Int) ∧ (↑(m56 (Z.wrap ((100 : Int) + a.tmod (100 : Int)))).size : Int) ≤ (↑(m56 (Z.wrap ((100 : Int) + a.tmod (100 : Int)))).size : Int)))
 (cnd (n74 ((m56 (Z.wrap (100 + (a.tmod 100)))).extract 1 ((↑((m56 (Z.wrap (100 + (a.tmod 100)))).size) : Int).toNat)) ({ data := #[OfNat.ofNat 48] } : ByteArray))
 (cnd (decide ((1 + ((m74 ((m56 (Z.wrap (100 + (a.tmod 100)))).extract 1 ((↑((m56 (Z.wrap (100 + (a.tmod 100)))).size) : Int).toNat))).size)) ≤ 9223372036854775807))
 (cnd (decide ((((m56 (Z.wrap (a.tdiv 100))).size) + ((({ data := #[OfNat.ofNat 46] } : ByteArray) ++ (m74 ((m56 (Z.wrap (100 + (a.tmod 100)))).extract 1 ((↑((m56 (Z.wrap (100 + (a.tmod 100)))).size) : Int).toNat)))).size)) ≤ 9223372036854775807))
 (R (.str ((m56 (Z.wrap (a.tdiv 100))) ++ (({ data := #[OfNat.ofNat 46] } : ByteArray) ++ (m74 ((m56 (Z.wrap (100 + (a.tmod 100)))).extract 1 ((↑((m56 (Z.wrap (100 + (a.tmod 100)))).size) : Int).toNat)))))) [] [])
        False)
       False)
      False)
     False)
    False)
 (R (.str (m56 (Z.wrap (a.tdiv 100)))) [] []))
  False)) (fun R => by kernel_rfl) (cn (al hn) (co (fun h0 => cn (al (ct h0 (ar hn))) (cn (al (ar (ct h0 (ar hn)))) (cn (al (ar (ar (ct h0 (ar hn))))) (cn (al (ar (ar (ar (ct h0 (ar hn)))))) (cn (al (ar (ar (ar (ar (ct h0 (ar hn))))))) (lf (cT h0 rfl) rfl)))))) (fun h0 => lf (cF h0 rfl) rfl)))⟩

/-! ### (*strings.Builder).WriteString -/
noncomputable def m54u (a ma0_1 : Nat) (b : Dat) (d : ByteArray) : Int × Nat × Nat × Dat :=
  ((↑d.size : Int), (a + d.size), (a + d.size), (b.app a ({ ii := fun q x => (↑(d.data.toList.getD q 0).toNat : Int), ss := noDat.ss, bb := noDat.bb, sn := noDat.sn, sd := noDat.sd })))
noncomputable def n54u (a ma0_1 : Nat) (b : Dat) (d : ByteArray) : Bool :=
  ((decide ((0 : Nat) < d.size)) && ((decide (a ≤ ma0_1)) && ((decide ((a + d.size) ≤ 1073741824)) && true)))
noncomputable def q54u (r : Int × Nat × Nat × Dat) : SV × List Blk × List Blk := (.tup [V Z r.1, .val Value.nilIface], [.cells 94 [.ptr 0 0, .gr 2 1 r.2.1], .unk], [.row 5 [.int .u8] r.2.2.1 r.2.2.2])
noncomputable def g54u : GF := fun vs bs => match vs, bs with
  | [.ptr 0 0, .str d], [.cells 94 [.ptr 0 0, .gr 1 1 a], .row 5 [.int .u8] ma0_1 b] => some (rs 2 (q54u (m54u a ma0_1 b d)) [n54u a ma0_1 b d])
  | _, _ => none
noncomputable def c54u : Ctr := genC [.s [.gr 5 [.int .u8]], .k] g54u
theorem k54u : CtrOk Tryz.prog c54u 54 := cx (tc k71u tn) mix_ok 8 (fn := Tryz.f54) (c := (Tryz.f54.body.getD .skip)) (grs := [1]) (rh := .k) Tryz.func54 rfl (by kernel_rfl) noLam fun vs bs q h hn => by
  unfold g54u at h
  split at h <;> cases h
  rename_i d a ma0_1 b
  have hn := n1 hn
  exact ⟨_, rfl, ca (fun R => (cnd (decide ((0 : Nat) < d.size))
 (cnd (decide (a ≤ ma0_1))
 (cnd (decide ((a + d.size) ≤ 1073741824))
 (R (.tup [V Z (↑d.size : Int), .val (Value.nilIface)]) [.cells 94 [.ptr 0 0, .gr 2 1 (a + d.size)], .unk] [.row 5 [.int .u8] (a + d.size) (b.app a ({ ii := fun q x => (↑(d.data.toList.getD q 0).toNat : Int), ss := noDat.ss, bb := noDat.bb, sn := noDat.sn, sd := noDat.sd }))])
    False)
   False)
  False)) (fun R => by kernel_rfl) (cn (al hn) (cn (al (ar hn)) (cn (al (ar (ar hn))) (lf rfl rfl))))⟩
/-! ### (*strings.Builder).WriteString -/
noncomputable def m54f (a ma0_1 : Nat) (b : Dat) (d : ByteArray) : Int × Nat × Nat × Dat :=
  ((↑d.size : Int), (a + d.size), (a + d.size), (b.app a ({ ii := fun q x => (↑(d.data.toList.getD q 0).toNat : Int), ss := noDat.ss, bb := noDat.bb, sn := noDat.sn, sd := noDat.sd })))
noncomputable def n54f (a ma0_1 : Nat) (b : Dat) (d : ByteArray) : Bool :=
  ((decide ((0 : Nat) < d.size)) && ((decide (a ≤ ma0_1)) && ((decide ((a + d.size) ≤ 1073741824)) && true)))
noncomputable def q54f (r : Int × Nat × Nat × Dat) : SV × List Blk × List Blk := (.tup [V Z r.1, .val Value.nilIface], [.cells 94 [.ptr 0 0, .gr 2 1 r.2.1], .unk], [.row 5 [.int .u8] r.2.2.1 r.2.2.2])
noncomputable def g54f : GF := fun vs bs => match vs, bs with
  | [.ptr 0 0, .str d], [.cells 94 [.val (.pointer none), .gr 1 1 a], .row 5 [.int .u8] ma0_1 b] => some (rs 2 (q54f (m54f a ma0_1 b d)) [n54f a ma0_1 b d])
  | _, _ => none
noncomputable def c54f : Ctr := genC [.c [.k, .gr 5 [.int .u8]], .k] g54f
theorem k54f : CtrOk Tryz.prog c54f 54 := cx (tc k71f tn) mix_ok 8 (fn := Tryz.f54) (c := (Tryz.f54.body.getD .skip)) (grs := [1]) (rh := .k) Tryz.func54 rfl (by kernel_rfl) noLam fun vs bs q h hn => by
  unfold g54f at h
  split at h <;> cases h
  rename_i d a ma0_1 b
  have hn := n1 hn
  exact ⟨_, rfl, ca (fun R => (cnd (decide ((0 : Nat) < d.size))
 (cnd (decide (a ≤ ma0_1))
 (cnd (decide ((a + d.size) ≤ 1073741824))
 (R (.tup [V Z (↑d.size : Int), .val (Value.nilIface)]) [.cells 94 [.ptr 0 0, .gr 2 1 (a + d.size)], .unk] [.row 5 [.int .u8] (a + d.size) (b.app a ({ ii := fun q x => (↑(d.data.toList.getD q 0).toNat : Int), ss := noDat.ss, bb := noDat.bb, sn := noDat.sn, sd := noDat.sd }))])
    False)
   False)
  False)) (fun R => by kernel_rfl) (cn (al hn) (cn (al (ar hn)) (cn (al (ar (ar hn))) (lf rfl rfl))))⟩

/-! ### shotline/profile.Print$1 -/
noncomputable def m53u (d : Nat) (e : Dat) (a ma1_1 : Nat) (b : Dat) : Nat × Nat × Dat :=
  ((m54u a ma1_1 b ((m55 d e ({ data := #[OfNat.ofNat 32] } : ByteArray)) ++ ({ data := #[OfNat.ofNat 10] } : ByteArray))).2.1, (m54u a ma1_1 b ((m55 d e ({ data := #[OfNat.ofNat 32] } : ByteArray)) ++ ({ data := #[OfNat.ofNat 10] } : ByteArray))).2.2.1, (m54u a ma1_1 b ((m55 d e ({ data := #[OfNat.ofNat 32] } : ByteArray)) ++ ({ data := #[OfNat.ofNat 10] } : ByteArray))).2.2.2)
noncomputable def n53u (d : Nat) (e : Dat) (a ma1_1 : Nat) (b : Dat) : Bool :=
  ((n55 d e ({ data := #[OfNat.ofNat 32] } : ByteArray)) && ((decide ((((m55 d e ({ data := #[OfNat.ofNat 32] } : ByteArray)).size) + 1) ≤ 9223372036854775807)) && ((n54u a ma1_1 b ((m55 d e ({ data := #[OfNat.ofNat 32] } : ByteArray)) ++ ({ data := #[OfNat.ofNat 10] } : ByteArray))) && true)))
noncomputable def q53u (r : Nat × Nat × Dat) : SV × List Blk × List Blk := (.tup [], [.cells 94 [.ptr 0 0, .gr 2 1 r.1], .unk], [.row 5 [.int .u8] r.2.1 r.2.2])
noncomputable def g53u : GF := fun vs bs => match vs, bs with
  | [.ro [.str] d e, .ptr 0 0], [.cells 94 [.ptr 0 0, .gr 1 1 a], .row 5 [.int .u8] ma1_1 b] => some (rs 2 (q53u (m53u d e a ma1_1 b)) [n53u d e a ma1_1 b])
  | _, _ => none
noncomputable def c53u : Ctr := genC [.ro [.str], .s [.gr 5 [.int .u8]]] g53u
theorem k53u : CtrOk Tryz.prog c53u 53 := cx (tc k54u (tc k55 tn)) mix_ok 8 (fn := Tryz.f53) (c := (Tryz.f53.body.getD .skip)) (grs := [1]) (rh := .k) Tryz.func53 rfl (by kernel_rfl) noLam fun vs bs q h hn => by
  unfold g53u at h
  split at h <;> cases h
  rename_i d e a ma1_1 b
  have hn := n1 hn
  exact ⟨_, rfl, ca (fun R => (cnd (n55 d e ({ data := #[OfNat.ofNat 32] } : ByteArray))
 (cnd (decide ((((m55 d e ({ data := #[OfNat.ofNat 32] } : ByteArray)).size) + 1) ≤ 9223372036854775807))
 (cnd (n54u a ma1_1 b ((m55 d e ({ data := #[OfNat.ofNat 32] } : ByteArray)) ++ ({ data := #[OfNat.ofNat 10] } : ByteArray)))
 (R (.tup []) [.cells 94 [.ptr 0 0, .gr 2 1 (m54u a ma1_1 b ((m55 d e ({ data := #[OfNat.ofNat 32] } : ByteArray)) ++ ({ data := #[OfNat.ofNat 10] } : ByteArray))).2.1], .unk] [.row 5 [.int .u8] (m54u a ma1_1 b ((m55 d e ({ data := #[OfNat.ofNat 32] } : ByteArray)) ++ ({ data := #[OfNat.ofNat 10] } : ByteArray))).2.2.1 (m54u a ma1_1 b ((m55 d e ({ data := #[OfNat.ofNat 32] } : ByteArray)) ++ ({ data := #[OfNat.ofNat 10] } : ByteArray))).2.2.2])
    False)
   False)
  False)) (fun R => by kernel_rfl) (cn (al hn) (cn (al (ar hn)) (cn (al (ar (ar hn))) (lf rfl rfl))))⟩
/-! ### shotline/profile.Print$1 -/
noncomputable def m53f (d : Nat) (e : Dat) (a ma1_1 : Nat) (b : Dat) : Nat × Nat × Dat :=
  ((m54f a ma1_1 b ((m55 d e ({ data := #[OfNat.ofNat 32] } : ByteArray)) ++ ({ data := #[OfNat.ofNat 10] } : ByteArray))).2.1, (m54f a ma1_1 b ((m55 d e ({ data := #[OfNat.ofNat 32] } : ByteArray)) ++ ({ data := #[OfNat.ofNat 10] } : ByteArray))).2.2.1, (m54f a ma1_1 b ((m55 d e ({ data := #[OfNat.ofNat 32] } : ByteArray)) ++ ({ data := #[OfNat.ofNat 10] } : ByteArray))).2.2.2)
noncomputable def n53f (d : Nat) (e : Dat) (a ma1_1 : Nat) (b : Dat) : Bool :=
  ((n55 d e ({ data := #[OfNat.ofNat 32] } : ByteArray)) && ((decide ((((m55 d e ({ data := #[OfNat.ofNat 32] } : ByteArray)).size) + 1) ≤ 9223372036854775807)) && ((n54f a ma1_1 b ((m55 d e ({ data := #[OfNat.ofNat 32] } : ByteArray)) ++ ({ data := #[OfNat.ofNat 10] } : ByteArray))) && true)))
noncomputable def q53f (r : Nat × Nat × Dat) : SV × List Blk × List Blk := (.tup [], [.cells 94 [.ptr 0 0, .gr 2 1 r.1], .unk], [.row 5 [.int .u8] r.2.1 r.2.2])
noncomputable def g53f : GF := fun vs bs => match vs, bs with
  | [.ro [.str] d e, .ptr 0 0], [.cells 94 [.val (.pointer none), .gr 1 1 a], .row 5 [.int .u8] ma1_1 b] => some (rs 2 (q53f (m53f d e a ma1_1 b)) [n53f d e a ma1_1 b])
  | _, _ => none
noncomputable def c53f : Ctr := genC [.ro [.str], .c [.k, .gr 5 [.int .u8]]] g53f
theorem k53f : CtrOk Tryz.prog c53f 53 := cx (tc k54f (tc k55 tn)) mix_ok 8 (fn := Tryz.f53) (c := (Tryz.f53.body.getD .skip)) (grs := [1]) (rh := .k) Tryz.func53 rfl (by kernel_rfl) noLam fun vs bs q h hn => by
  unfold g53f at h
  split at h <;> cases h
  rename_i d e a ma1_1 b
  have hn := n1 hn
  exact ⟨_, rfl, ca (fun R => (cnd (n55 d e ({ data := #[OfNat.ofNat 32] } : ByteArray))
 (cnd (decide ((((m55 d e ({ data := #[OfNat.ofNat 32] } : ByteArray)).size) + 1) ≤ 9223372036854775807))
 (cnd (n54f a ma1_1 b ((m55 d e ({ data := #[OfNat.ofNat 32] } : ByteArray)) ++ ({ data := #[OfNat.ofNat 10] } : ByteArray)))
 (R (.tup []) [.cells 94 [.ptr 0 0, .gr 2 1 (m54f a ma1_1 b ((m55 d e ({ data := #[OfNat.ofNat 32] } : ByteArray)) ++ ({ data := #[OfNat.ofNat 10] } : ByteArray))).2.1], .unk] [.row 5 [.int .u8] (m54f a ma1_1 b ((m55 d e ({ data := #[OfNat.ofNat 32] } : ByteArray)) ++ ({ data := #[OfNat.ofNat 10] } : ByteArray))).2.2.1 (m54f a ma1_1 b ((m55 d e ({ data := #[OfNat.ofNat 32] } : ByteArray)) ++ ({ data := #[OfNat.ofNat 10] } : ByteArray))).2.2.2])
    False)
   False)
  False)) (fun R => by kernel_rfl) (cn (al hn) (cn (al (ar hn)) (cn (al (ar (ar hn))) (lf rfl rfl))))⟩

/-! ### shotline/profile.CheckLabels -/
noncomputable def l27_0 (w : Nat) (z : Dat) (D : Int) (n : Nat) (v : Dat) (C : Int) (a : Dat) (g i : Int) : Nat → Int → Option (Bool × (Int × Int) × (Unit))
  | 0, _ => none
  | f + 1, A => (cond (decide (A < C)) (cond (decide (0 ≤ A ∧ A < ↑n)) (cond (bif (m51 (v.ii A.toNat 0) 0 200) then false else true) (some (true, (0, 2), default)) (l27_0 w z D n v C a g i f (Z.wrap (A + 1)))) none) (some (false, default, ())))
noncomputable abbrev o27_0 (w : Nat) (z : Dat) (D : Int) (n : Nat) (v : Dat) (C : Int) (a : Dat) (g i A : Int) : Option (Bool × (Int × Int) × (Unit)) := l27_0 w z D n v C a g i (w + D.toNat + n + C.toNat + A.toNat + g.toNat + i.toNat + 8) A
noncomputable def e27_0 (w : Nat) (z : Dat) (D : Int) (n : Nat) (v : Dat) (C : Int) (a : Dat) (g i : Int) (r : Bool × (Int × Int) × (Unit)) (K : XR) : Prop := cnd r.1 (K (XE.ret) [.ro [W Z, W Z] w z, V Z D, .ptr 0 0, .ptr 1 0, .ptr 2 0] [.cells 59 [.ro [W Z] n a], .cells 3 [V Z r.2.1.1], .cells 30 [V Z r.2.1.2]]) (K (XE.exit 0) [.ro [W Z, W Z] w z, V Z D, .ptr 0 0, .ptr 1 0, .ptr 2 0] [.cells 59 [.ro [W Z] n a], .cells 3 [V Z g], .cells 30 [V Z i]])
noncomputable def g27_0 : LSum := fun s k => match czv 0 60 [0, 1, 5, 6, 7, 24, 25, 26] 3 [] s with
  | some ([.ro [W Z, W Z] w z, V Z D, .ptr 0 0, .ptr 1 0, .ptr 2 0, .ro [W Z] n v, V Z C, V Z A], [.cells 59 [.ro [W Z] p a], .cells 3 [V Z g], .cells 30 [V Z i]]) => needs [decide (n = p), (o27_0 w z D n v C a g i A).isSome] (e27_0 w z D n v C a g i ((o27_0 w z D n v C a g i A).getD default) fun e vs bs => inBlk 0 k e (mkSt 0 60 [0, 1, 5, 6, 7] vs 3 bs))
  | _ => False
theorem z27_0 : LOk Tryz.prog g27_0 (.block 0 (bodyAt (Tryz.f27.body.getD .skip) 0)) := by
  refine lb (ι := Nat × Dat × Int × Nat × Dat × Int × Int × Dat × Int × Int) (fuel := 8) (na := 0) (nt := 60) (nx := 3) (Lh := [0, 1, 5, 6, 7, 24, 25, 26]) (Le := [0, 1, 5, 6, 7]) (gl := []) (tc k51 (tc k50 (tc k52 tn))) mix_ok noLam rfl (fun f (w, z, D, n, v, C, A, a, g, i) K => GG default (e27_0 w z D n v C a g i) K (l27_0 w z D n v C a g i f A)) (fun (w, z, D, n, v, C, A, a, g, i) => [.ro [W Z, W Z] w z, V Z D, .ptr 0 0, .ptr 1 0, .ptr 2 0, .ro [W Z] n v, V Z C, V Z A]) (fun (w, z, D, n, v, C, A, a, g, i) => [.cells 59 [.ro [W Z] n a], .cells 3 [V Z g], .cells 30 [V Z i]]) (fun (_, _, _, _, _, _, _, _, _, _) K => gg_none) ?_ ?_
  · rintro f ⟨w, z, D, n, v, C, A, a, g, i⟩ K hG
    refine ro (fun R => (cnd (decide (A < C))
 (cnd (decide (0 ≤ A ∧ A < ↑n))
 (cnd (bif (m51 (v.ii A.toNat 0) 0 200) then false else true)
 (R (XE.ret) [.ro [W Z, W Z] w z, V Z D, .ptr 0 0, .ptr 1 0, .ptr 2 0] [.cells 59 [.ro [W Z] n a], .cells 3 [V Z 0], .cells 30 [V Z 2]])
 (R (XE.normal) [.ro [W Z, W Z] w z, V Z D, .ptr 0 0, .ptr 1 0, .ptr 2 0, .ro [W Z] n v, V Z C, V Z (Z.wrap (A + 1))] [.cells 59 [.ro [W Z] n a], .cells 3 [V Z g], .cells 30 [V Z i]]))
   False)
 (R (XE.exit 0) [.ro [W Z, W Z] w z, V Z D, .ptr 0 0, .ptr 1 0, .ptr 2 0] [.cells 59 [.ro [W Z] n a], .cells 3 [V Z g], .cells 30 [V Z i]]))) (fun R => by kernel_rfl) ?_
    exact ch hG (fun h0 => cg h0 fun h1 => ch h1 (fun h2 => h2.2) (fun h2 => ⟨(_, _, _, _, _, _, _, _, _, _), rfl, rfl, h2⟩)) (fun h0 => h0.2)
  · intro s k h
    unfold g27_0 at h
    split at h <;> try exact h.elim
    rename_i e1
    rw [needs_iff] at h
    have hq := h.1
    simp only [List.mem_cons, forall_eq_or_imp, decide_eq_true_eq, List.not_mem_nil, false_imp_iff, implies_true, and_true] at hq
    obtain ⟨rfl, hq⟩ := hq
    exact ⟨_, e1, _, (_, _, _, _, _, _, _, _, _, _), rfl, rfl, hq, h.2⟩
noncomputable def l27_2 (b d : Dat) (p : Nat) (a : Dat) (g i : Int) (Y : Dat) : Nat → Nat → Option (Bool × (Unit) × (Int × Int))
  | 0, kk => some (true, (), default)
  | f + 1, kk => (cond (decide (0 ≤ Y.ii kk 1 ∧ Y.ii kk 1 < (↑p : Int))) (cond (decide ((0 : Int) ≤ Y.ii kk (0 : Nat) ∧ Y.ii kk (0 : Nat) < (↑p : Int))) (cond (decide ((Z.wrap ((a.ii ((Y.ii kk 0).toNat) 0) + 1)) < (a.ii ((Y.ii kk 1).toNat) 0))) (some (false, default, (0, 22))) (l27_2 b d p a g i Y f (kk + 1) )) none) none)
noncomputable abbrev o27_2 (b d : Dat) (p : Nat) (a : Dat) (g i : Int)   : Option (Bool × (Unit) × (Int × Int)) := l27_2 b d p a g i (Y69 b d) (N69 b d) 0 
noncomputable def e27_2 (b d : Dat) (p : Nat) (a : Dat) (g i : Int) (r : Bool × (Unit) × (Int × Int)) (K : XR) : Prop := cnd r.1 (K (XE.normal) [] [.cells 59 [.ro [W Z] p a], .cells 3 [V Z g], .cells 30 [V Z i]]) (K (XE.ret) [] [.cells 59 [.ro [W Z] p a], .cells 3 [V Z r.2.2.1], .cells 30 [V Z r.2.2.2]])
noncomputable def g27_2 : LSum := fun s k => match czv 0 60 [5, 6, 7, 40] 3 [] s with
  | some ([.ptr 0 0, .ptr 1 0, .ptr 2 0, .fn 69 [.rp [.sl [W Z, W Z]] b 0 0, .rp [W Z] d 0 0]], [.cells 59 [.ro [W Z] p a], .cells 3 [V Z g], .cells 30 [V Z i]]) => needs [(o27_2 b d p a g i  ).isSome, (ok69 b d)] (e27_2 b d p a g i ((o27_2 b d p a g i  ).getD default) fun e _ bs => inBlk 2 k e (mkSt 0 60 [5, 6, 7, 40] [.ptr 0 0, .ptr 1 0, .ptr 2 0, .fn 69 [.rp [.sl [W Z, W Z]] b 0 0, .rp [W Z] d 0 0]] 3 bs))
  | _ => False
theorem y27_2 (b d : Dat) (p : Nat) (a : Dat) (g i : Int) (Y : Dat) (kk : Nat) (R : XR) : rfRound Tryz.prog [(51, c51), (50, c50), (52, c52)] (lamOf [(0, g27_0)]) 8 (asgOf (bodyAt (Tryz.f27.body.getD .skip) 2)) (unloop (bodyAt (Tryz.f27.body.getD .skip) 2)) (putAll (mkSt 3 60 [5, 6, 7, 40] [.ptr 0 0, .ptr 1 0, .ptr 2 0, .fn 69 [.rp [.sl [W Z, W Z]] b 0 0, .rp [W Z] d 0 0]] 3 [.cells 59 [.ro [W Z] p a], .cells 3 [V Z g], .cells 30 [V Z i]]) [41, 42] [V Z (Y.ii kk 0), V Z (Y.ii kk 1)]) (canonK 3 60 [] [] 3 [] R) =
 (cnd (decide (0 ≤ Y.ii kk 1 ∧ Y.ii kk 1 < (↑p : Int)))
 (cnd (decide ((0 : Int) ≤ Y.ii kk (0 : Nat) ∧ Y.ii kk (0 : Nat) < (↑p : Int)))
 (cnd (decide ((Z.wrap ((a.ii ((Y.ii kk 0).toNat) 0) + 1)) < (a.ii ((Y.ii kk 1).toNat) 0)))
 (R (XE.ret) [] [.cells 59 [.ro [W Z] p a], .cells 3 [V Z 0], .cells 30 [V Z 22]])
 (R (XE.normal) [] [.cells 59 [.ro [W Z] p a], .cells 3 [V Z g], .cells 30 [V Z i]]))
   False)
  False) := by kernel_rfl
theorem z27_2 : LOk Tryz.prog g27_2 (.block 2 (bodyAt (Tryz.f27.body.getD .skip) 2)) := by
  refine rf_blk (ι := Unit) (τ := Dat × Dat × Nat × Dat × Int × Int) (L := [(51, c51), (50, c50), (52, c52)]) (Λ := (lamOf [(0, g27_0)])) (fuel := 8) (na := 0) (ns := 3) (nt := 60) (nx := 3) (Lh := [5, 6, 7, 40]) (gl := []) (gf := 69) (tc k51 (tc k50 (tc k52 tn))) mix_ok (lam_of rfl (lc z27_0 ln)) rfl rfl rfl rfl rfl rfl (enters_ok Tryz.func69 (by kernel_rfl) (by kernel_rfl)) [] rfl
    (fun t => [.ptr 0 0, .ptr 1 0, .ptr 2 0, .fn 69 [.rp [.sl [W Z, W Z]] t.1 0 0, .rp [W Z] t.2.1 0 0]]) (fun t => [.rp [.sl [W Z, W Z]] t.1 0 0, .rp [W Z] t.2.1 0 0]) (fun t => [.rp [.sl [W Z, W Z]] t.1 0 0, .rp [W Z] t.2.1 0 0]) (fun t => [.cells 59 [.ro [W Z] t.2.2.1 t.2.2.2.1], .cells 3 [V Z t.2.2.2.2.1], .cells 30 [V Z t.2.2.2.2.2]]) (fun t => (N69 t.1 t.2.1)) (fun t k => [V Z ((Y69 t.1 t.2.1).ii k 0), V Z ((Y69 t.1 t.2.1).ii k 1)]) (fun t x => [.cells 59 [.ro [W Z] t.2.2.1 t.2.2.2.1], .cells 3 [V Z t.2.2.2.2.1], .cells 30 [V Z t.2.2.2.2.2]])
    (fun t k x K => GG default (e27_2 t.1 t.2.1 t.2.2.1 t.2.2.2.1 t.2.2.2.2.1 t.2.2.2.2.2) K (l27_2 t.1 t.2.1 t.2.2.1 t.2.2.2.1 t.2.2.2.2.1 t.2.2.2.2.2 (Y69 t.1 t.2.1) ((N69 t.1 t.2.1) - k) k )) (fun t => (ok69 t.1 t.2.1))
    (fun t => rfl) (fun t => rfl) (fun t => rfl) (fun t hok => (iter32 t.1 t.2.1 hok)) (fun t j hj => by simp at hj) (fun t j hj => by simp at hj) (fun t k => rfl) ?_ ?_ ?_
  · rintro ⟨b, d, p, a, g, i⟩ kk ⟨⟩ K hk hG
    obtain ⟨r, hr⟩ : ∃ r, (N69 b d) - kk = r + 1 := ⟨(N69 b d) - kk - 1, by have hk' : kk < (N69 b d) := hk; omega⟩
    have hr' : (N69 b d) - (kk + 1) = r := by omega
    have hG : GG default (e27_2 b d p a g i) K (l27_2 b d p a g i (Y69 b d) ((N69 b d) - kk) kk ) := hG
    rw [hr] at hG
    have key : ∀ x : Unit, GG default (e27_2 b d p a g i) K (l27_2 b d p a g i (Y69 b d) r (kk + 1) ) → GG default (e27_2 b d p a g i) K (l27_2 b d p a g i (Y69 b d) ((N69 b d) - (kk + 1)) (kk + 1) ) := fun x h => by rw [hr']; exact h
    refine propOf (y27_2 b d p a g i (Y69 b d) kk _) ?_
    exact cg hG fun h0 => cg h0 fun h1 => ch h1 (fun h2 => h2.2) (fun h2 => ⟨(), rfl, key () h2⟩)
  · rintro ⟨b, d, p, a, g, i⟩ ⟨⟩ K h
    have h : GG default (e27_2 b d p a g i) K (l27_2 b d p a g i (Y69 b d) ((N69 b d) - (N69 b d)) (N69 b d) ) := h
    rw [Nat.sub_self] at h
    exact h.2
  · intro s k h
    unfold g27_2 at h
    split at h <;> try exact h.elim
    rename_i e1
    rw [needs_iff] at h
    exact ⟨(_, _, _, _, _, _), (), e1, rfl, h.1 _ (List.mem_cons_of_mem _ (List.mem_singleton.2 rfl)), h.1 _ (List.mem_cons_self ..), h.2⟩
noncomputable def m27 (m : Nat) (o : Dat) (y : Int) (l : Nat) (u : Dat) : Int × Int :=
  (cond (bif (decide ((m50 m o y) = 0)) then false else true) (0, (m50 m o y)) (cond (bif (decide ((↑l : Int) = (↑m : Int))) then false else true) (0, 10) (cond ((o27_0 m o y l u (↑l : Int) u 0 0 0).getD default).1 (((o27_0 m o y l u (↑l : Int) u 0 0 0).getD default).2.1.1, ((o27_0 m o y l u (↑l : Int) u 0 0 0).getD default).2.1.2) (cond (bif (decide ((u.ii 0 0) = 0)) then false else true) (0, 22) (cond ((o27_2 (m52 m o y).1 (m52 m o y).2 l u 0 0).getD default).1 ((Z.wrap ((u.ii ((Z.wrap ((↑l : Int) - 1)).toNat) 0) + 1)), 0) (((o27_2 (m52 m o y).1 (m52 m o y).2 l u 0 0).getD default).2.2.1, ((o27_2 (m52 m o y).1 (m52 m o y).2 l u 0 0).getD default).2.2.2))))))
noncomputable def n27 (m : Nat) (o : Dat) (y : Int) (l : Nat) (u : Dat) : Bool :=
  ((n50 m o y) && (cond (bif (decide ((m50 m o y) = 0)) then false else true) true (cond (bif (decide ((↑l : Int) = (↑m : Int))) then false else true) true (((o27_0 m o y l u (↑l : Int) u 0 0 0).isSome) && (cond ((o27_0 m o y l u (↑l : Int) u 0 0 0).getD default).1 true ((decide ((0 : Int) ≤ (0 : Int) ∧ (0 : Int) < (↑l : Int))) && (cond (bif (decide ((u.ii 0 0) = 0)) then false else true) true (((o27_2 (m52 m o y).1 (m52 m o y).2 l u 0 0).isSome) && ((ok69 (m52 m o y).1 (m52 m o y).2) && (cond ((o27_2 (m52 m o y).1 (m52 m o y).2 l u 0 0).getD default).1 ((decide (0 ≤ Z.wrap ((↑l : Int) - 1) ∧ Z.wrap ((↑l : Int) - 1) < (↑l : Int))) && true) true))))))))))
noncomputable def q27 (r : Int × Int) : SV × List Blk × List Blk := (.tup [V Z r.1, V Z r.2], [], [])
noncomputable def g27 : GF := fun vs bs => match vs, bs with
  | [.ro [W Z, W Z] m o, V Z y, .ro [W Z] l u], [] => some (rs 0 (q27 (m27 m o y l u)) [n27 m o y l u])
  | _, _ => none
noncomputable def c27 : Ctr := genC [.ro [W Z, W Z], .k, .ro [W Z]] g27
theorem k27 : CtrOk Tryz.prog c27 27 := cx (tc k51 (tc k50 (tc k52 tn))) mix_ok 8 (fn := Tryz.f27) (c := (Tryz.f27.body.getD .skip)) (grs := []) (rh := .k) Tryz.func27 rfl (by kernel_rfl) (lam_of rfl (lc z27_0 (lc z27_2 ln))) fun vs bs q h hn => by
  unfold g27 at h
  split at h <;> cases h
  rename_i m o y l u
  have hn := n1 hn
  exact ⟨_, rfl, ca (fun R => (cnd (n50 m o y)
 (cnd (bif (decide ((m50 m o y) = 0)) then false else true)
 (R (.tup [V Z 0, V Z (m50 m o y)]) [] [])
 (cnd (bif (decide ((↑l : Int) = (↑m : Int))) then false else true)
 (R (.tup [V Z 0, V Z 10]) [] [])
 (cnd (decide (l = l))
 (cnd ((o27_0 m o y l u (↑l : Int) u 0 0 0).isSome)
 (cnd ((o27_0 m o y l u (↑l : Int) u 0 0 0).getD default).1
 (R (.tup [V Z ((o27_0 m o y l u (↑l : Int) u 0 0 0).getD default).2.1.1, V Z ((o27_0 m o y l u (↑l : Int) u 0 0 0).getD default).2.1.2]) [] [])
 (cnd (decide ((0 : Int) ≤ (0 : Int) ∧ (0 : Int) < (↑l : Int)))
 (cnd (bif (decide ((u.ii 0 0) = 0)) then false else true)
 (R (.tup [V Z 0, V Z 22]) [] [])
 (cnd ((o27_2 (m52 m o y).1 (m52 m o y).2 l u 0 0).isSome)
 (cnd (ok69 (m52 m o y).1 (m52 m o y).2)
 (cnd ((o27_2 (m52 m o y).1 (m52 m o y).2 l u 0 0).getD default).1
 (cnd (decide (0 ≤ Z.wrap ((↑l : Int) - 1) ∧ Z.wrap ((↑l : Int) - 1) < (↑l : Int)))
 (R (.tup [V Z (Z.wrap ((u.ii ((Z.wrap ((↑l : Int) - 1)).toNat) 0) + 1)), V Z 0]) [] [])
             False)
 (R (.tup [V Z ((o27_2 (m52 m o y).1 (m52 m o y).2 l u 0 0).getD default).2.2.1, V Z ((o27_2 (m52 m o y).1 (m52 m o y).2 l u 0 0).getD default).2.2.2]) [] []))
           False)
          False))
        False))
      False)
     False)))
  False)) (fun R => by kernel_rfl) (cn (al hn) (co (fun h0 => lf (cT h0 rfl) rfl) (fun h0 => co (fun h1 => lf (cF h0 (cT h1 rfl)) rfl) (fun h1 => cn (decide_eq_true rfl) (cn (al (cf h1 (cf h0 (ar hn)))) (co (fun h2 => lf (cF h0 (cF h1 (cT h2 rfl))) rfl) (fun h2 => cn (al (cf h2 (ar (cf h1 (cf h0 (ar hn)))))) (co (fun h3 => lf (cF h0 (cF h1 (cF h2 (cT h3 rfl)))) rfl) (fun h3 => cn (al (cf h3 (ar (cf h2 (ar (cf h1 (cf h0 (ar hn)))))))) (cn (al (ar (cf h3 (ar (cf h2 (ar (cf h1 (cf h0 (ar hn))))))))) (co (fun h4 => cn (al (ct h4 (ar (ar (cf h3 (ar (cf h2 (ar (cf h1 (cf h0 (ar hn))))))))))) (lf (cF h0 (cF h1 (cF h2 (cF h3 (cT h4 rfl))))) rfl)) (fun h4 => lf (cF h0 (cF h1 (cF h2 (cF h3 (cF h4 rfl))))) rfl))))))))))))⟩

end Go.Proofs.YtchhhoamnagbfaaGreatDoor
