/-
  Contracts of functions: models, equations by the kernel, contracts. Conditions: none.
-/
import Derived.Test.YtchhhoamnagbfaaDoorJ2
import Derived.KernelRfl
namespace Go.Proofs.YtchhhoamnagbfaaDoor
open Go Go.Sy
set_option linter.unusedVariables false
set_option linter.unusedSimpArgs false
set_option maxRecDepth 100000
set_option maxHeartbeats 2000000
attribute [local irreducible] Go.IntKind.wrap Int.tdiv Int.tmod Int.fdiv
open Go.Sy renaming tabOk_cons → tc, tabOk_nil → tn, cnd_need → cn, leaf_of → lf, cnd_gg → cg, cnd_gg2 → ch, cond_f → cf, cond_t → ct, cnd_of → co, callOf → ca, roundOf → ro, cnd_not → nn, lams_cons → lc, lams_nil → ln, condT → cT, condF → cF, need1 → n1, resOf → rs, and_l → al, and_r → ar, or_gg → og, ctr_of → cx, loop_blk → lb
open Go.IntKind renaming i64 → Z
open Go.Sy.SV renaming int → V
open Go.Sy.Kd renaming int → W
/-! ### shotline/profile.metres -/
noncomputable def m89 (a : Int) : ByteArray :=
  (cond (decide ((0 : Int) < (a.tmod 100))) ((m88 (Z.wrap (a.tdiv 100))) ++ (({ data := #[OfNat.ofNat 46] } : ByteArray) ++ (m110 ((m88 (Z.wrap (100 + (a.tmod 100)))).extract 1 ((↑((m88 (Z.wrap (100 + (a.tmod 100)))).size) : Int).toNat))))) (m88 (Z.wrap (a.tdiv 100))))
noncomputable def n89 (a : Int) : Bool :=
  ((n88 (Z.wrap (a.tdiv 100))) && (cond (decide ((0 : Int) < (a.tmod 100))) ((n88 (Z.wrap (100 + (a.tmod 100)))) && ((decide ((0 : Int) ≤ (1 : Int) ∧ (1 : Int) ≤ (↑(m88 (Z.wrap ((100 : Int) + a.tmod (100 : Int)))).size : Int) ∧ (↑(m88 (Z.wrap ((100 : Int) + a.tmod (100 : Int)))).size : Int) ≤ (↑(m88 (Z.wrap ((100 : Int) + a.tmod (100 : Int)))).size : Int))) && ((n110 ((m88 (Z.wrap (100 + (a.tmod 100)))).extract 1 ((↑((m88 (Z.wrap (100 + (a.tmod 100)))).size) : Int).toNat)) ({ data := #[OfNat.ofNat 48] } : ByteArray)) && ((decide ((1 + ((m110 ((m88 (Z.wrap (100 + (a.tmod 100)))).extract 1 ((↑((m88 (Z.wrap (100 + (a.tmod 100)))).size) : Int).toNat))).size)) ≤ 9223372036854775807)) && ((decide ((((m88 (Z.wrap (a.tdiv 100))).size) + ((({ data := #[OfNat.ofNat 46] } : ByteArray) ++ (m110 ((m88 (Z.wrap (100 + (a.tmod 100)))).extract 1 ((↑((m88 (Z.wrap (100 + (a.tmod 100)))).size) : Int).toNat)))).size)) ≤ 9223372036854775807)) && true))))) true))
noncomputable def q89 (r : ByteArray) : SV × List Blk × List Blk := (.str r, [], [])
noncomputable def g89 : GF := fun vs bs => match vs, bs with
  | [V Z a], [] => some (rs 0 (q89 (m89 a)) [n89 a])
  | _, _ => none
noncomputable def c89 : Ctr := genC [.k] g89
theorem k89 : CtrOk Tryd.prog c89 89 := cx (tc k88 (tc k110 tn)) mix_ok 8 (fn := Tryd.f89) (c := (Tryd.f89.body.getD .skip)) (grs := []) (rh := .k) Tryd.func89 rfl (by kernel_rfl) noLam fun vs bs q h hn => by
  unfold g89 at h
  split at h <;> cases h
  rename_i a
  have hn := n1 hn
  exact ⟨_, rfl, ca (fun R => (cnd (n88 (Z.wrap (a.tdiv 100)))
 (cnd (decide ((0 : Int) < (a.tmod 100)))
 (cnd (n88 (Z.wrap (100 + (a.tmod 100))))
 (cnd (decide ((0 : Int) ≤ (1 : Int) ∧ (1 : Int) ≤ (↑(m88 (Z.wrap ((100 : Int) + a.tmod (100 : Int)))).size : Int) ∧ (↑(m88 (Z.wrap ((100 : Int) + a.tmod (100 : Int)))).size : Int) ≤ (↑(m88 (Z.wrap ((100 : Int) + a.tmod (100 : Int)))).size : Int)))
 (cnd (n110 ((m88 (Z.wrap (100 + (a.tmod 100)))).extract 1 ((↑((m88 (Z.wrap (100 + (a.tmod 100)))).size) : Int).toNat)) ({ data := #[OfNat.ofNat 48] } : ByteArray))
 (cnd (decide ((1 + ((m110 ((m88 (Z.wrap (100 + (a.tmod 100)))).extract 1 ((↑((m88 (Z.wrap (100 + (a.tmod 100)))).size) : Int).toNat))).size)) ≤ 9223372036854775807))
 (cnd (decide ((((m88 (Z.wrap (a.tdiv 100))).size) + ((({ data := #[OfNat.ofNat 46] } : ByteArray) ++ (m110 ((m88 (Z.wrap (100 + (a.tmod 100)))).extract 1 ((↑((m88 (Z.wrap (100 + (a.tmod 100)))).size) : Int).toNat)))).size)) ≤ 9223372036854775807))
 (R (.str ((m88 (Z.wrap (a.tdiv 100))) ++ (({ data := #[OfNat.ofNat 46] } : ByteArray) ++ (m110 ((m88 (Z.wrap (100 + (a.tmod 100)))).extract 1 ((↑((m88 (Z.wrap (100 + (a.tmod 100)))).size) : Int).toNat)))))) [] [])
        False)
       False)
      False)
     False)
    False)
 (R (.str (m88 (Z.wrap (a.tdiv 100)))) [] []))
  False)) (fun R => by kernel_rfl) (cn (al hn) (co (fun h0 => cn (al (ct h0 (ar hn))) (cn (al (ar (ct h0 (ar hn)))) (cn (al (ar (ar (ct h0 (ar hn))))) (cn (al (ar (ar (ar (ct h0 (ar hn)))))) (cn (al (ar (ar (ar (ar (ct h0 (ar hn))))))) (lf (cT h0 rfl) rfl)))))) (fun h0 => lf (cF h0 rfl) rfl)))⟩
/-! ### (*strings.Builder).WriteString -/
noncomputable def m86u (a ma0_1 : Nat) (b : Dat) (d : ByteArray) : Int × Nat × Nat × Dat :=
  ((↑d.size : Int), (a + d.size), (a + d.size), (b.app a ({ ii := fun q x => (↑(d.data.toList.getD q 0).toNat : Int), ss := noDat.ss, bb := noDat.bb, sn := noDat.sn, sd := noDat.sd })))
noncomputable def n86u (a ma0_1 : Nat) (b : Dat) (d : ByteArray) : Bool :=
  ((decide ((0 : Nat) < d.size)) && ((decide (a ≤ ma0_1)) && ((decide ((a + d.size) ≤ 1073741824)) && true)))
noncomputable def q86u (r : Int × Nat × Nat × Dat) : SV × List Blk × List Blk := (.tup [V Z r.1, .val Value.nilIface], [.cells 125 [.ptr 0 0, .gr 2 1 r.2.1], .unk], [.row 5 [.int .u8] r.2.2.1 r.2.2.2])
noncomputable def g86u : GF := fun vs bs => match vs, bs with
  | [.ptr 0 0, .str d], [.cells 125 [.ptr 0 0, .gr 1 1 a], .row 5 [.int .u8] ma0_1 b] => some (rs 2 (q86u (m86u a ma0_1 b d)) [n86u a ma0_1 b d])
  | _, _ => none
noncomputable def c86u : Ctr := genC [.s [.gr 5 [.int .u8]], .k] g86u
theorem k86u : CtrOk Tryd.prog c86u 86 := cx (tc k107u tn) mix_ok 8 (fn := Tryd.f86) (c := (Tryd.f86.body.getD .skip)) (grs := [1]) (rh := .k) Tryd.func86 rfl (by kernel_rfl) noLam fun vs bs q h hn => by
  unfold g86u at h
  split at h <;> cases h
  rename_i d a ma0_1 b
  have hn := n1 hn
  exact ⟨_, rfl, ca (fun R => (cnd (decide ((0 : Nat) < d.size))
 (cnd (decide (a ≤ ma0_1))
 (cnd (decide ((a + d.size) ≤ 1073741824))
 (R (.tup [V Z (↑d.size : Int), .val (Value.nilIface)]) [.cells 125 [.ptr 0 0, .gr 2 1 (a + d.size)], .unk] [.row 5 [.int .u8] (a + d.size) (b.app a ({ ii := fun q x => (↑(d.data.toList.getD q 0).toNat : Int), ss := noDat.ss, bb := noDat.bb, sn := noDat.sn, sd := noDat.sd }))])
    False)
   False)
  False)) (fun R => by kernel_rfl) (cn (al hn) (cn (al (ar hn)) (cn (al (ar (ar hn))) (lf rfl rfl))))⟩
/-! ### (*strings.Builder).WriteString -/
noncomputable def m86f (a ma0_1 : Nat) (b : Dat) (d : ByteArray) : Int × Nat × Nat × Dat :=
  ((↑d.size : Int), (a + d.size), (a + d.size), (b.app a ({ ii := fun q x => (↑(d.data.toList.getD q 0).toNat : Int), ss := noDat.ss, bb := noDat.bb, sn := noDat.sn, sd := noDat.sd })))
noncomputable def n86f (a ma0_1 : Nat) (b : Dat) (d : ByteArray) : Bool :=
  ((decide ((0 : Nat) < d.size)) && ((decide (a ≤ ma0_1)) && ((decide ((a + d.size) ≤ 1073741824)) && true)))
noncomputable def q86f (r : Int × Nat × Nat × Dat) : SV × List Blk × List Blk := (.tup [V Z r.1, .val Value.nilIface], [.cells 125 [.ptr 0 0, .gr 2 1 r.2.1], .unk], [.row 5 [.int .u8] r.2.2.1 r.2.2.2])
noncomputable def g86f : GF := fun vs bs => match vs, bs with
  | [.ptr 0 0, .str d], [.cells 125 [.val (.pointer none), .gr 1 1 a], .row 5 [.int .u8] ma0_1 b] => some (rs 2 (q86f (m86f a ma0_1 b d)) [n86f a ma0_1 b d])
  | _, _ => none
noncomputable def c86f : Ctr := genC [.c [.k, .gr 5 [.int .u8]], .k] g86f
theorem k86f : CtrOk Tryd.prog c86f 86 := cx (tc k107f tn) mix_ok 8 (fn := Tryd.f86) (c := (Tryd.f86.body.getD .skip)) (grs := [1]) (rh := .k) Tryd.func86 rfl (by kernel_rfl) noLam fun vs bs q h hn => by
  unfold g86f at h
  split at h <;> cases h
  rename_i d a ma0_1 b
  have hn := n1 hn
  exact ⟨_, rfl, ca (fun R => (cnd (decide ((0 : Nat) < d.size))
 (cnd (decide (a ≤ ma0_1))
 (cnd (decide ((a + d.size) ≤ 1073741824))
 (R (.tup [V Z (↑d.size : Int), .val (Value.nilIface)]) [.cells 125 [.ptr 0 0, .gr 2 1 (a + d.size)], .unk] [.row 5 [.int .u8] (a + d.size) (b.app a ({ ii := fun q x => (↑(d.data.toList.getD q 0).toNat : Int), ss := noDat.ss, bb := noDat.bb, sn := noDat.sn, sd := noDat.sd }))])
    False)
   False)
  False)) (fun R => by kernel_rfl) (cn (al hn) (cn (al (ar hn)) (cn (al (ar (ar hn))) (lf rfl rfl))))⟩
/-! ### shotline/profile.Print$1 -/
noncomputable def m85u (d : Nat) (e : Dat) (a ma1_1 : Nat) (b : Dat) : Nat × Nat × Dat :=
  ((m86u a ma1_1 b ((m87 d e ({ data := #[OfNat.ofNat 32] } : ByteArray)) ++ ({ data := #[OfNat.ofNat 10] } : ByteArray))).2.1, (m86u a ma1_1 b ((m87 d e ({ data := #[OfNat.ofNat 32] } : ByteArray)) ++ ({ data := #[OfNat.ofNat 10] } : ByteArray))).2.2.1, (m86u a ma1_1 b ((m87 d e ({ data := #[OfNat.ofNat 32] } : ByteArray)) ++ ({ data := #[OfNat.ofNat 10] } : ByteArray))).2.2.2)
noncomputable def n85u (d : Nat) (e : Dat) (a ma1_1 : Nat) (b : Dat) : Bool :=
  ((n87 d e ({ data := #[OfNat.ofNat 32] } : ByteArray)) && ((decide ((((m87 d e ({ data := #[OfNat.ofNat 32] } : ByteArray)).size) + 1) ≤ 9223372036854775807)) && ((n86u a ma1_1 b ((m87 d e ({ data := #[OfNat.ofNat 32] } : ByteArray)) ++ ({ data := #[OfNat.ofNat 10] } : ByteArray))) && true)))
noncomputable def q85u (r : Nat × Nat × Dat) : SV × List Blk × List Blk := (.tup [], [.cells 125 [.ptr 0 0, .gr 2 1 r.1], .unk], [.row 5 [.int .u8] r.2.1 r.2.2])
noncomputable def g85u : GF := fun vs bs => match vs, bs with
  | [.ro [.str] d e, .ptr 0 0], [.cells 125 [.ptr 0 0, .gr 1 1 a], .row 5 [.int .u8] ma1_1 b] => some (rs 2 (q85u (m85u d e a ma1_1 b)) [n85u d e a ma1_1 b])
  | _, _ => none
noncomputable def c85u : Ctr := genC [.ro [.str], .s [.gr 5 [.int .u8]]] g85u
theorem k85u : CtrOk Tryd.prog c85u 85 := cx (tc k86u (tc k87 tn)) mix_ok 8 (fn := Tryd.f85) (c := (Tryd.f85.body.getD .skip)) (grs := [1]) (rh := .k) Tryd.func85 rfl (by kernel_rfl) noLam fun vs bs q h hn => by
  unfold g85u at h
  split at h <;> cases h
  rename_i d e a ma1_1 b
  have hn := n1 hn
  exact ⟨_, rfl, ca (fun R => (cnd (n87 d e ({ data := #[OfNat.ofNat 32] } : ByteArray))
 (cnd (decide ((((m87 d e ({ data := #[OfNat.ofNat 32] } : ByteArray)).size) + 1) ≤ 9223372036854775807))
 (cnd (n86u a ma1_1 b ((m87 d e ({ data := #[OfNat.ofNat 32] } : ByteArray)) ++ ({ data := #[OfNat.ofNat 10] } : ByteArray)))
 (R (.tup []) [.cells 125 [.ptr 0 0, .gr 2 1 (m86u a ma1_1 b ((m87 d e ({ data := #[OfNat.ofNat 32] } : ByteArray)) ++ ({ data := #[OfNat.ofNat 10] } : ByteArray))).2.1], .unk] [.row 5 [.int .u8] (m86u a ma1_1 b ((m87 d e ({ data := #[OfNat.ofNat 32] } : ByteArray)) ++ ({ data := #[OfNat.ofNat 10] } : ByteArray))).2.2.1 (m86u a ma1_1 b ((m87 d e ({ data := #[OfNat.ofNat 32] } : ByteArray)) ++ ({ data := #[OfNat.ofNat 10] } : ByteArray))).2.2.2])
    False)
   False)
  False)) (fun R => by kernel_rfl) (cn (al hn) (cn (al (ar hn)) (cn (al (ar (ar hn))) (lf rfl rfl))))⟩
/-! ### shotline/profile.Print$1 -/
noncomputable def m85f (d : Nat) (e : Dat) (a ma1_1 : Nat) (b : Dat) : Nat × Nat × Dat :=
  ((m86f a ma1_1 b ((m87 d e ({ data := #[OfNat.ofNat 32] } : ByteArray)) ++ ({ data := #[OfNat.ofNat 10] } : ByteArray))).2.1, (m86f a ma1_1 b ((m87 d e ({ data := #[OfNat.ofNat 32] } : ByteArray)) ++ ({ data := #[OfNat.ofNat 10] } : ByteArray))).2.2.1, (m86f a ma1_1 b ((m87 d e ({ data := #[OfNat.ofNat 32] } : ByteArray)) ++ ({ data := #[OfNat.ofNat 10] } : ByteArray))).2.2.2)
noncomputable def n85f (d : Nat) (e : Dat) (a ma1_1 : Nat) (b : Dat) : Bool :=
  ((n87 d e ({ data := #[OfNat.ofNat 32] } : ByteArray)) && ((decide ((((m87 d e ({ data := #[OfNat.ofNat 32] } : ByteArray)).size) + 1) ≤ 9223372036854775807)) && ((n86f a ma1_1 b ((m87 d e ({ data := #[OfNat.ofNat 32] } : ByteArray)) ++ ({ data := #[OfNat.ofNat 10] } : ByteArray))) && true)))
noncomputable def q85f (r : Nat × Nat × Dat) : SV × List Blk × List Blk := (.tup [], [.cells 125 [.ptr 0 0, .gr 2 1 r.1], .unk], [.row 5 [.int .u8] r.2.1 r.2.2])
noncomputable def g85f : GF := fun vs bs => match vs, bs with
  | [.ro [.str] d e, .ptr 0 0], [.cells 125 [.val (.pointer none), .gr 1 1 a], .row 5 [.int .u8] ma1_1 b] => some (rs 2 (q85f (m85f d e a ma1_1 b)) [n85f d e a ma1_1 b])
  | _, _ => none
noncomputable def c85f : Ctr := genC [.ro [.str], .c [.k, .gr 5 [.int .u8]]] g85f
theorem k85f : CtrOk Tryd.prog c85f 85 := cx (tc k86f (tc k87 tn)) mix_ok 8 (fn := Tryd.f85) (c := (Tryd.f85.body.getD .skip)) (grs := [1]) (rh := .k) Tryd.func85 rfl (by kernel_rfl) noLam fun vs bs q h hn => by
  unfold g85f at h
  split at h <;> cases h
  rename_i d e a ma1_1 b
  have hn := n1 hn
  exact ⟨_, rfl, ca (fun R => (cnd (n87 d e ({ data := #[OfNat.ofNat 32] } : ByteArray))
 (cnd (decide ((((m87 d e ({ data := #[OfNat.ofNat 32] } : ByteArray)).size) + 1) ≤ 9223372036854775807))
 (cnd (n86f a ma1_1 b ((m87 d e ({ data := #[OfNat.ofNat 32] } : ByteArray)) ++ ({ data := #[OfNat.ofNat 10] } : ByteArray)))
 (R (.tup []) [.cells 125 [.ptr 0 0, .gr 2 1 (m86f a ma1_1 b ((m87 d e ({ data := #[OfNat.ofNat 32] } : ByteArray)) ++ ({ data := #[OfNat.ofNat 10] } : ByteArray))).2.1], .unk] [.row 5 [.int .u8] (m86f a ma1_1 b ((m87 d e ({ data := #[OfNat.ofNat 32] } : ByteArray)) ++ ({ data := #[OfNat.ofNat 10] } : ByteArray))).2.2.1 (m86f a ma1_1 b ((m87 d e ({ data := #[OfNat.ofNat 32] } : ByteArray)) ++ ({ data := #[OfNat.ofNat 10] } : ByteArray))).2.2.2])
    False)
   False)
  False)) (fun R => by kernel_rfl) (cn (al hn) (cn (al (ar hn)) (cn (al (ar (ar hn))) (lf rfl rfl))))⟩
/-! ### shotline/profile.CheckLabels -/
noncomputable def l49_0 (w : Nat) (z : Dat) (D : Int) (n : Nat) (v : Dat) (C : Int) (a : Dat) (g i : Int) : Nat → Int → Option (Bool × (Int × Int) × (Unit))
  | 0, _ => none
  | f + 1, A => (cond (decide (A < C)) (cond (decide (0 ≤ A ∧ A < ↑n)) (cond (bif (m52 (v.ii A.toNat 0) 0 200) then false else true) (some (true, (0, 2), default)) (l49_0 w z D n v C a g i f (Z.wrap (A + 1)))) none) (some (false, default, ())))
noncomputable abbrev o49_0 (w : Nat) (z : Dat) (D : Int) (n : Nat) (v : Dat) (C : Int) (a : Dat) (g i A : Int) : Option (Bool × (Int × Int) × (Unit)) := l49_0 w z D n v C a g i (w + D.toNat + n + C.toNat + A.toNat + g.toNat + i.toNat + 8) A
noncomputable def e49_0 (w : Nat) (z : Dat) (D : Int) (n : Nat) (v : Dat) (C : Int) (a : Dat) (g i : Int) (r : Bool × (Int × Int) × (Unit)) (K : XR) : Prop := cnd r.1 (K (XE.ret) [.ro [W Z, W Z] w z, V Z D, .ptr 0 0, .ptr 1 0, .ptr 2 0] [.cells 77 [.ro [W Z] n a], .cells 3 [V Z r.2.1.1], .cells 27 [V Z r.2.1.2]]) (K (XE.exit 0) [.ro [W Z, W Z] w z, V Z D, .ptr 0 0, .ptr 1 0, .ptr 2 0] [.cells 77 [.ro [W Z] n a], .cells 3 [V Z g], .cells 27 [V Z i]])
noncomputable def g49_0 : LSum := fun s k => match czv 0 60 [0, 1, 5, 6, 7, 24, 25, 26] 3 [] s with
  | some ([.ro [W Z, W Z] w z, V Z D, .ptr 0 0, .ptr 1 0, .ptr 2 0, .ro [W Z] n v, V Z C, V Z A], [.cells 77 [.ro [W Z] p a], .cells 3 [V Z g], .cells 27 [V Z i]]) => needs [decide (n = p), (o49_0 w z D n v C a g i A).isSome] (e49_0 w z D n v C a g i ((o49_0 w z D n v C a g i A).getD default) fun e vs bs => inBlk 0 k e (mkSt 0 60 [0, 1, 5, 6, 7] vs 3 bs))
  | _ => False
theorem z49_0 : LOk Tryd.prog g49_0 (.block 0 (bodyAt (Tryd.f49.body.getD .skip) 0)) := by
  refine lb (ι := Nat × Dat × Int × Nat × Dat × Int × Int × Dat × Int × Int) (fuel := 8) (na := 0) (nt := 60) (nx := 3) (Lh := [0, 1, 5, 6, 7, 24, 25, 26]) (Le := [0, 1, 5, 6, 7]) (gl := []) (tc k52 (tc k81 (tc k82 tn))) mix_ok noLam rfl (fun f (w, z, D, n, v, C, A, a, g, i) K => GG default (e49_0 w z D n v C a g i) K (l49_0 w z D n v C a g i f A)) (fun (w, z, D, n, v, C, A, a, g, i) => [.ro [W Z, W Z] w z, V Z D, .ptr 0 0, .ptr 1 0, .ptr 2 0, .ro [W Z] n v, V Z C, V Z A]) (fun (w, z, D, n, v, C, A, a, g, i) => [.cells 77 [.ro [W Z] n a], .cells 3 [V Z g], .cells 27 [V Z i]]) (fun (_, _, _, _, _, _, _, _, _, _) K => gg_none) ?_ ?_
  · rintro f ⟨w, z, D, n, v, C, A, a, g, i⟩ K hG
    refine ro (fun R => (cnd (decide (A < C))
 (cnd (decide (0 ≤ A ∧ A < ↑n))
 (cnd (bif (m52 (v.ii A.toNat 0) 0 200) then false else true)
 (R (XE.ret) [.ro [W Z, W Z] w z, V Z D, .ptr 0 0, .ptr 1 0, .ptr 2 0] [.cells 77 [.ro [W Z] n a], .cells 3 [V Z 0], .cells 27 [V Z 2]])
 (R (XE.normal) [.ro [W Z, W Z] w z, V Z D, .ptr 0 0, .ptr 1 0, .ptr 2 0, .ro [W Z] n v, V Z C, V Z (Z.wrap (A + 1))] [.cells 77 [.ro [W Z] n a], .cells 3 [V Z g], .cells 27 [V Z i]]))
   False)
 (R (XE.exit 0) [.ro [W Z, W Z] w z, V Z D, .ptr 0 0, .ptr 1 0, .ptr 2 0] [.cells 77 [.ro [W Z] n a], .cells 3 [V Z g], .cells 27 [V Z i]]))) (fun R => by kernel_rfl) ?_
    exact ch hG (fun h0 => cg h0 fun h1 => ch h1 (fun h2 => h2.2) (fun h2 => ⟨(_, _, _, _, _, _, _, _, _, _), rfl, rfl, h2⟩)) (fun h0 => h0.2)
  · intro s k h
    unfold g49_0 at h
    split at h <;> try exact h.elim
    rename_i e1
    rw [needs_iff] at h
    have hq := h.1
    simp only [List.mem_cons, forall_eq_or_imp, decide_eq_true_eq, List.not_mem_nil, false_imp_iff, implies_true, and_true] at hq
    obtain ⟨rfl, hq⟩ := hq
    exact ⟨_, e1, _, (_, _, _, _, _, _, _, _, _, _), rfl, rfl, hq, h.2⟩
noncomputable def l49_2 (b d : Dat) (p : Nat) (a : Dat) (g i : Int) (Y : Dat) : Nat → Nat → Option (Bool × (Unit) × (Int × Int))
  | 0, kk => some (true, (), default)
  | f + 1, kk => (cond (decide (0 ≤ Y.ii kk 1 ∧ Y.ii kk 1 < (↑p : Int))) (cond (decide ((0 : Int) ≤ Y.ii kk (0 : Nat) ∧ Y.ii kk (0 : Nat) < (↑p : Int))) (cond (decide ((Z.wrap ((a.ii ((Y.ii kk 0).toNat) 0) + 1)) < (a.ii ((Y.ii kk 1).toNat) 0))) (some (false, default, (0, 22))) (l49_2 b d p a g i Y f (kk + 1) )) none) none)
noncomputable abbrev o49_2 (b d : Dat) (p : Nat) (a : Dat) (g i : Int)   : Option (Bool × (Unit) × (Int × Int)) := l49_2 b d p a g i (Y102 b d) (N102 b d) 0 
noncomputable def e49_2 (b d : Dat) (p : Nat) (a : Dat) (g i : Int) (r : Bool × (Unit) × (Int × Int)) (K : XR) : Prop := cnd r.1 (K (XE.normal) [] [.cells 77 [.ro [W Z] p a], .cells 3 [V Z g], .cells 27 [V Z i]]) (K (XE.ret) [] [.cells 77 [.ro [W Z] p a], .cells 3 [V Z r.2.2.1], .cells 27 [V Z r.2.2.2]])
noncomputable def g49_2 : LSum := fun s k => match czv 0 60 [5, 6, 7, 40] 3 [] s with
  | some ([.ptr 0 0, .ptr 1 0, .ptr 2 0, .fn 102 [.rp [.sl [W Z, W Z]] b 0 0, .rp [W Z] d 0 0]], [.cells 77 [.ro [W Z] p a], .cells 3 [V Z g], .cells 27 [V Z i]]) => needs [(o49_2 b d p a g i  ).isSome, (ok102 b d)] (e49_2 b d p a g i ((o49_2 b d p a g i  ).getD default) fun e _ bs => inBlk 2 k e (mkSt 0 60 [5, 6, 7, 40] [.ptr 0 0, .ptr 1 0, .ptr 2 0, .fn 102 [.rp [.sl [W Z, W Z]] b 0 0, .rp [W Z] d 0 0]] 3 bs))
  | _ => False
theorem y49_2 (b d : Dat) (p : Nat) (a : Dat) (g i : Int) (Y : Dat) (kk : Nat) (R : XR) : rfRound Tryd.prog [(52, c52), (81, c81), (82, c82)] (lamOf [(0, g49_0)]) 8 (asgOf (bodyAt (Tryd.f49.body.getD .skip) 2)) (unloop (bodyAt (Tryd.f49.body.getD .skip) 2)) (putAll (mkSt 3 60 [5, 6, 7, 40] [.ptr 0 0, .ptr 1 0, .ptr 2 0, .fn 102 [.rp [.sl [W Z, W Z]] b 0 0, .rp [W Z] d 0 0]] 3 [.cells 77 [.ro [W Z] p a], .cells 3 [V Z g], .cells 27 [V Z i]]) [41, 42] [V Z (Y.ii kk 0), V Z (Y.ii kk 1)]) (canonK 3 60 [] [] 3 [] R) =
 (cnd (decide (0 ≤ Y.ii kk 1 ∧ Y.ii kk 1 < (↑p : Int)))
 (cnd (decide ((0 : Int) ≤ Y.ii kk (0 : Nat) ∧ Y.ii kk (0 : Nat) < (↑p : Int)))
 (cnd (decide ((Z.wrap ((a.ii ((Y.ii kk 0).toNat) 0) + 1)) < (a.ii ((Y.ii kk 1).toNat) 0)))
 (R (XE.ret) [] [.cells 77 [.ro [W Z] p a], .cells 3 [V Z 0], .cells 27 [V Z 22]])
 (R (XE.normal) [] [.cells 77 [.ro [W Z] p a], .cells 3 [V Z g], .cells 27 [V Z i]]))
   False)
  False) := by kernel_rfl
theorem z49_2 : LOk Tryd.prog g49_2 (.block 2 (bodyAt (Tryd.f49.body.getD .skip) 2)) := by
  refine rf_blk (ι := Unit) (τ := Dat × Dat × Nat × Dat × Int × Int) (L := [(52, c52), (81, c81), (82, c82)]) (Λ := (lamOf [(0, g49_0)])) (fuel := 8) (na := 0) (ns := 3) (nt := 60) (nx := 3) (Lh := [5, 6, 7, 40]) (gl := []) (gf := 102) (tc k52 (tc k81 (tc k82 tn))) mix_ok (lam_of rfl (lc z49_0 ln)) rfl rfl rfl rfl rfl rfl (enters_ok Tryd.func102 (by kernel_rfl) (by kernel_rfl)) [] rfl
    (fun t => [.ptr 0 0, .ptr 1 0, .ptr 2 0, .fn 102 [.rp [.sl [W Z, W Z]] t.1 0 0, .rp [W Z] t.2.1 0 0]]) (fun t => [.rp [.sl [W Z, W Z]] t.1 0 0, .rp [W Z] t.2.1 0 0]) (fun t => [.rp [.sl [W Z, W Z]] t.1 0 0, .rp [W Z] t.2.1 0 0]) (fun t => [.cells 77 [.ro [W Z] t.2.2.1 t.2.2.2.1], .cells 3 [V Z t.2.2.2.2.1], .cells 27 [V Z t.2.2.2.2.2]]) (fun t => (N102 t.1 t.2.1)) (fun t k => [V Z ((Y102 t.1 t.2.1).ii k 0), V Z ((Y102 t.1 t.2.1).ii k 1)]) (fun t x => [.cells 77 [.ro [W Z] t.2.2.1 t.2.2.2.1], .cells 3 [V Z t.2.2.2.2.1], .cells 27 [V Z t.2.2.2.2.2]])
    (fun t k x K => GG default (e49_2 t.1 t.2.1 t.2.2.1 t.2.2.2.1 t.2.2.2.2.1 t.2.2.2.2.2) K (l49_2 t.1 t.2.1 t.2.2.1 t.2.2.2.1 t.2.2.2.2.1 t.2.2.2.2.2 (Y102 t.1 t.2.1) ((N102 t.1 t.2.1) - k) k )) (fun t => (ok102 t.1 t.2.1))
    (fun t => rfl) (fun t => rfl) (fun t => rfl) (fun t hok => (iter32 t.1 t.2.1 hok)) (fun t j hj => by simp at hj) (fun t j hj => by simp at hj) (fun t k => rfl) ?_ ?_ ?_
  · rintro ⟨b, d, p, a, g, i⟩ kk ⟨⟩ K hk hG
    obtain ⟨r, hr⟩ : ∃ r, (N102 b d) - kk = r + 1 := ⟨(N102 b d) - kk - 1, by have hk' : kk < (N102 b d) := hk; omega⟩
    have hr' : (N102 b d) - (kk + 1) = r := by omega
    have hG : GG default (e49_2 b d p a g i) K (l49_2 b d p a g i (Y102 b d) ((N102 b d) - kk) kk ) := hG
    rw [hr] at hG
    have key : ∀ x : Unit, GG default (e49_2 b d p a g i) K (l49_2 b d p a g i (Y102 b d) r (kk + 1) ) → GG default (e49_2 b d p a g i) K (l49_2 b d p a g i (Y102 b d) ((N102 b d) - (kk + 1)) (kk + 1) ) := fun x h => by rw [hr']; exact h
    refine propOf (y49_2 b d p a g i (Y102 b d) kk _) ?_
    exact cg hG fun h0 => cg h0 fun h1 => ch h1 (fun h2 => h2.2) (fun h2 => ⟨(), rfl, key () h2⟩)
  · rintro ⟨b, d, p, a, g, i⟩ ⟨⟩ K h
    have h : GG default (e49_2 b d p a g i) K (l49_2 b d p a g i (Y102 b d) ((N102 b d) - (N102 b d)) (N102 b d) ) := h
    rw [Nat.sub_self] at h
    exact h.2
  · intro s k h
    unfold g49_2 at h
    split at h <;> try exact h.elim
    rename_i e1
    rw [needs_iff] at h
    exact ⟨(_, _, _, _, _, _), (), e1, rfl, h.1 _ (List.mem_cons_of_mem _ (List.mem_singleton.2 rfl)), h.1 _ (List.mem_cons_self ..), h.2⟩
noncomputable def m49 (m : Nat) (o : Dat) (y : Int) (l : Nat) (u : Dat) : Int × Int :=
  (cond (bif (decide ((m81 m o y) = 0)) then false else true) (0, (m81 m o y)) (cond (bif (decide ((↑l : Int) = (↑m : Int))) then false else true) (0, 10) (cond ((o49_0 m o y l u (↑l : Int) u 0 0 0).getD default).1 (((o49_0 m o y l u (↑l : Int) u 0 0 0).getD default).2.1.1, ((o49_0 m o y l u (↑l : Int) u 0 0 0).getD default).2.1.2) (cond (bif (decide ((u.ii 0 0) = 0)) then false else true) (0, 22) (cond ((o49_2 (m82 m o y).1 (m82 m o y).2 l u 0 0).getD default).1 ((Z.wrap ((u.ii ((Z.wrap ((↑l : Int) - 1)).toNat) 0) + 1)), 0) (((o49_2 (m82 m o y).1 (m82 m o y).2 l u 0 0).getD default).2.2.1, ((o49_2 (m82 m o y).1 (m82 m o y).2 l u 0 0).getD default).2.2.2))))))
noncomputable def n49 (m : Nat) (o : Dat) (y : Int) (l : Nat) (u : Dat) : Bool :=
  ((n81 m o y) && (cond (bif (decide ((m81 m o y) = 0)) then false else true) true (cond (bif (decide ((↑l : Int) = (↑m : Int))) then false else true) true (((o49_0 m o y l u (↑l : Int) u 0 0 0).isSome) && (cond ((o49_0 m o y l u (↑l : Int) u 0 0 0).getD default).1 true ((decide ((0 : Int) ≤ (0 : Int) ∧ (0 : Int) < (↑l : Int))) && (cond (bif (decide ((u.ii 0 0) = 0)) then false else true) true (((o49_2 (m82 m o y).1 (m82 m o y).2 l u 0 0).isSome) && ((ok102 (m82 m o y).1 (m82 m o y).2) && (cond ((o49_2 (m82 m o y).1 (m82 m o y).2 l u 0 0).getD default).1 ((decide (0 ≤ Z.wrap ((↑l : Int) - 1) ∧ Z.wrap ((↑l : Int) - 1) < (↑l : Int))) && true) true))))))))))
noncomputable def q49 (r : Int × Int) : SV × List Blk × List Blk := (.tup [V Z r.1, V Z r.2], [], [])
noncomputable def g49 : GF := fun vs bs => match vs, bs with
  | [.ro [W Z, W Z] m o, V Z y, .ro [W Z] l u], [] => some (rs 0 (q49 (m49 m o y l u)) [n49 m o y l u])
  | _, _ => none
noncomputable def c49 : Ctr := genC [.ro [W Z, W Z], .k, .ro [W Z]] g49
theorem k49 : CtrOk Tryd.prog c49 49 := cx (tc k52 (tc k81 (tc k82 tn))) mix_ok 8 (fn := Tryd.f49) (c := (Tryd.f49.body.getD .skip)) (grs := []) (rh := .k) Tryd.func49 rfl (by kernel_rfl) (lam_of rfl (lc z49_0 (lc z49_2 ln))) fun vs bs q h hn => by
  unfold g49 at h
  split at h <;> cases h
  rename_i m o y l u
  have hn := n1 hn
  exact ⟨_, rfl, ca (fun R => (cnd (n81 m o y)
 (cnd (bif (decide ((m81 m o y) = 0)) then false else true)
 (R (.tup [V Z 0, V Z (m81 m o y)]) [] [])
 (cnd (bif (decide ((↑l : Int) = (↑m : Int))) then false else true)
 (R (.tup [V Z 0, V Z 10]) [] [])
 (cnd (decide (l = l))
 (cnd ((o49_0 m o y l u (↑l : Int) u 0 0 0).isSome)
 (cnd ((o49_0 m o y l u (↑l : Int) u 0 0 0).getD default).1
 (R (.tup [V Z ((o49_0 m o y l u (↑l : Int) u 0 0 0).getD default).2.1.1, V Z ((o49_0 m o y l u (↑l : Int) u 0 0 0).getD default).2.1.2]) [] [])
 (cnd (decide ((0 : Int) ≤ (0 : Int) ∧ (0 : Int) < (↑l : Int)))
 (cnd (bif (decide ((u.ii 0 0) = 0)) then false else true)
 (R (.tup [V Z 0, V Z 22]) [] [])
 (cnd ((o49_2 (m82 m o y).1 (m82 m o y).2 l u 0 0).isSome)
 (cnd (ok102 (m82 m o y).1 (m82 m o y).2)
 (cnd ((o49_2 (m82 m o y).1 (m82 m o y).2 l u 0 0).getD default).1
 (cnd (decide (0 ≤ Z.wrap ((↑l : Int) - 1) ∧ Z.wrap ((↑l : Int) - 1) < (↑l : Int)))
 (R (.tup [V Z (Z.wrap ((u.ii ((Z.wrap ((↑l : Int) - 1)).toNat) 0) + 1)), V Z 0]) [] [])
             False)
 (R (.tup [V Z ((o49_2 (m82 m o y).1 (m82 m o y).2 l u 0 0).getD default).2.2.1, V Z ((o49_2 (m82 m o y).1 (m82 m o y).2 l u 0 0).getD default).2.2.2]) [] []))
           False)
          False))
        False))
      False)
     False)))
  False)) (fun R => by kernel_rfl) (cn (al hn) (co (fun h0 => lf (cT h0 rfl) rfl) (fun h0 => co (fun h1 => lf (cF h0 (cT h1 rfl)) rfl) (fun h1 => cn (decide_eq_true rfl) (cn (al (cf h1 (cf h0 (ar hn)))) (co (fun h2 => lf (cF h0 (cF h1 (cT h2 rfl))) rfl) (fun h2 => cn (al (cf h2 (ar (cf h1 (cf h0 (ar hn)))))) (co (fun h3 => lf (cF h0 (cF h1 (cF h2 (cT h3 rfl)))) rfl) (fun h3 => cn (al (cf h3 (ar (cf h2 (ar (cf h1 (cf h0 (ar hn)))))))) (cn (al (ar (cf h3 (ar (cf h2 (ar (cf h1 (cf h0 (ar hn))))))))) (co (fun h4 => cn (al (ct h4 (ar (ar (cf h3 (ar (cf h2 (ar (cf h1 (cf h0 (ar hn))))))))))) (lf (cF h0 (cF h1 (cF h2 (cF h3 (cT h4 rfl))))) rfl)) (fun h4 => lf (cF h0 (cF h1 (cF h2 (cF h3 (cF h4 rfl))))) rfl))))))))))))⟩
/-! ### shotline/profile.Extended -/
noncomputable def m35 (i : ByteArray) (j : Int) (e : Nat) (g : Dat) (b : Nat) (d : Dat) (l : Nat) (m : Dat) : ByteArray × Int × Nat × Dat × Nat × Dat × Int :=
  (cond (bif (decide ((m60 2 (datS [SV.str i, V Z j, SV.ro [Kd.int Z, Kd.int Z] e g, SV.ro [Kd.int Z, Kd.int Z, Kd.int Z] b d, SV.str i, V Z j, SV.ro [Kd.int Z, Kd.int Z] e g, SV.ro [Kd.int Z, Kd.int Z, Kd.int Z] (m72 2 (datS [SV.ro [Kd.int Z, Kd.int Z, Kd.int Z] b d, SV.ro [Kd.int Z, Kd.int Z, Kd.int Z] l m] 1)).1 (m72 2 (datS [SV.ro [Kd.int Z, Kd.int Z, Kd.int Z] b d, SV.ro [Kd.int Z, Kd.int Z, Kd.int Z] l m] 1)).2] 4)) = 0)) then false else true) (({ data := #[] } : ByteArray), 0, 0, noDat, 0, noDat, (m60 2 (datS [SV.str i, V Z j, SV.ro [Kd.int Z, Kd.int Z] e g, SV.ro [Kd.int Z, Kd.int Z, Kd.int Z] b d, SV.str i, V Z j, SV.ro [Kd.int Z, Kd.int Z] e g, SV.ro [Kd.int Z, Kd.int Z, Kd.int Z] (m72 2 (datS [SV.ro [Kd.int Z, Kd.int Z, Kd.int Z] b d, SV.ro [Kd.int Z, Kd.int Z, Kd.int Z] l m] 1)).1 (m72 2 (datS [SV.ro [Kd.int Z, Kd.int Z, Kd.int Z] b d, SV.ro [Kd.int Z, Kd.int Z, Kd.int Z] l m] 1)).2] 4))) (i, j, e, g, (m72 2 (datS [SV.ro [Kd.int Z, Kd.int Z, Kd.int Z] b d, SV.ro [Kd.int Z, Kd.int Z, Kd.int Z] l m] 1)).1, (m72 2 (datS [SV.ro [Kd.int Z, Kd.int Z, Kd.int Z] b d, SV.ro [Kd.int Z, Kd.int Z, Kd.int Z] l m] 1)).2, 0))
noncomputable def n35 (i : ByteArray) (j : Int) (e : Nat) (g : Dat) (b : Nat) (d : Dat) (l : Nat) (m : Dat) : Bool :=
  ((decide (e ≤ 1073741824)) && ((n72 2 (datS [SV.ro [Kd.int Z, Kd.int Z, Kd.int Z] b d, SV.ro [Kd.int Z, Kd.int Z, Kd.int Z] l m] 1)) && ((n60 2 (datS [SV.str i, V Z j, SV.ro [Kd.int Z, Kd.int Z] e g, SV.ro [Kd.int Z, Kd.int Z, Kd.int Z] b d, SV.str i, V Z j, SV.ro [Kd.int Z, Kd.int Z] e g, SV.ro [Kd.int Z, Kd.int Z, Kd.int Z] (m72 2 (datS [SV.ro [Kd.int Z, Kd.int Z, Kd.int Z] b d, SV.ro [Kd.int Z, Kd.int Z, Kd.int Z] l m] 1)).1 (m72 2 (datS [SV.ro [Kd.int Z, Kd.int Z, Kd.int Z] b d, SV.ro [Kd.int Z, Kd.int Z, Kd.int Z] l m] 1)).2] 4)) && true)))
noncomputable def q35 (r : ByteArray × Int × Nat × Dat × Nat × Dat × Int) : SV × List Blk × List Blk := (.tup [.agg [.str r.1, V Z r.2.1, .ro [W Z, W Z] r.2.2.1 r.2.2.2.1, .ro [W Z, W Z, W Z] r.2.2.2.2.1 r.2.2.2.2.2.1], V Z r.2.2.2.2.2.2], [], [])
noncomputable def g35 : GF := fun vs bs => match vs, bs with
  | [.agg [.str i, V Z j, .ro [W Z, W Z] e g, .ro [W Z, W Z, W Z] b d], .ro [W Z, W Z, W Z] l m], [] => some (rs 0 (q35 (m35 i j e g b d l m)) [n35 i j e g b d l m])
  | _, _ => none
noncomputable def c35 : Ctr := genC [.a [.k, .k, .ro [W Z, W Z], .ro [W Z, W Z, W Z]], .ro [W Z, W Z, W Z]] g35
theorem k35 : CtrOk Tryd.prog c35 35 := cx (tc kSeal (tc k60 (tc k71r (tc k72 tn)))) mix_ok 8 (fn := Tryd.f35) (c := (Tryd.f35.body.getD .skip)) (grs := []) (rh := .t [.t [.k, .k, .ro [W Z, W Z], .ro [W Z, W Z, W Z]], .k]) Tryd.func35 rfl (by kernel_rfl) noLam fun vs bs q h hn => by
  unfold g35 at h
  split at h <;> cases h
  rename_i i j e g b d l m
  have hn := n1 hn
  exact ⟨_, rfl, ca (fun R => (cnd (decide (e ≤ 1073741824))
 (cnd (decide (e ≤ e))
 (cnd (n72 2 (datS [SV.ro [Kd.int Z, Kd.int Z, Kd.int Z] b d, SV.ro [Kd.int Z, Kd.int Z, Kd.int Z] l m] 1))
 (cnd (n60 2 (datS [SV.str i, V Z j, SV.ro [Kd.int Z, Kd.int Z] e g, SV.ro [Kd.int Z, Kd.int Z, Kd.int Z] b d, SV.str i, V Z j, SV.ro [Kd.int Z, Kd.int Z] e g, SV.ro [Kd.int Z, Kd.int Z, Kd.int Z] (m72 2 (datS [SV.ro [Kd.int Z, Kd.int Z, Kd.int Z] b d, SV.ro [Kd.int Z, Kd.int Z, Kd.int Z] l m] 1)).1 (m72 2 (datS [SV.ro [Kd.int Z, Kd.int Z, Kd.int Z] b d, SV.ro [Kd.int Z, Kd.int Z, Kd.int Z] l m] 1)).2] 4))
 (cnd (bif (decide ((m60 2 (datS [SV.str i, V Z j, SV.ro [Kd.int Z, Kd.int Z] e g, SV.ro [Kd.int Z, Kd.int Z, Kd.int Z] b d, SV.str i, V Z j, SV.ro [Kd.int Z, Kd.int Z] e g, SV.ro [Kd.int Z, Kd.int Z, Kd.int Z] (m72 2 (datS [SV.ro [Kd.int Z, Kd.int Z, Kd.int Z] b d, SV.ro [Kd.int Z, Kd.int Z, Kd.int Z] l m] 1)).1 (m72 2 (datS [SV.ro [Kd.int Z, Kd.int Z, Kd.int Z] b d, SV.ro [Kd.int Z, Kd.int Z, Kd.int Z] l m] 1)).2] 4)) = 0)) then false else true)
 (R (.tup [.agg [.str ({ data := #[] } : ByteArray), V Z 0, .ro [W Z, W Z] 0 noDat, .ro [W Z, W Z, W Z] 0 noDat], V Z (m60 2 (datS [SV.str i, V Z j, SV.ro [Kd.int Z, Kd.int Z] e g, SV.ro [Kd.int Z, Kd.int Z, Kd.int Z] b d, SV.str i, V Z j, SV.ro [Kd.int Z, Kd.int Z] e g, SV.ro [Kd.int Z, Kd.int Z, Kd.int Z] (m72 2 (datS [SV.ro [Kd.int Z, Kd.int Z, Kd.int Z] b d, SV.ro [Kd.int Z, Kd.int Z, Kd.int Z] l m] 1)).1 (m72 2 (datS [SV.ro [Kd.int Z, Kd.int Z, Kd.int Z] b d, SV.ro [Kd.int Z, Kd.int Z, Kd.int Z] l m] 1)).2] 4))]) [] [])
 (R (.tup [.agg [.str i, V Z j, .ro [W Z, W Z] e g, .ro [W Z, W Z, W Z] (m72 2 (datS [SV.ro [Kd.int Z, Kd.int Z, Kd.int Z] b d, SV.ro [Kd.int Z, Kd.int Z, Kd.int Z] l m] 1)).1 (m72 2 (datS [SV.ro [Kd.int Z, Kd.int Z, Kd.int Z] b d, SV.ro [Kd.int Z, Kd.int Z, Kd.int Z] l m] 1)).2], V Z 0]) [] []))
     False)
    False)
   False)
  False)) (fun R => by kernel_rfl) (cn (al hn) (cn (decide_eq_true (Nat.le_refl _)) (cn (al (ar hn)) (cn (al (ar (ar hn))) (co (fun h0 => lf (cT h0 rfl) rfl) (fun h0 => lf (cF h0 rfl) rfl))))))⟩
end Go.Proofs.YtchhhoamnagbfaaDoor
