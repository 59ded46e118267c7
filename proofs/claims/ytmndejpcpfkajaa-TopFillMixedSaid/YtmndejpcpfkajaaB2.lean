/-
 Contracts of functions: models, equations by the kernel, contracts. Conditions: none.
-/
import Derived.Test.YtmndejpcpfkajaaB1
import Derived.KernelRfl
namespace Go.Proofs.Ytmndejpcpfkajaa
open Go Go.Sy
noncomputable section
set_option linter.unusedVariables false
set_option linter.unusedSimpArgs false
set_option maxRecDepth 100000
set_option maxHeartbeats 2000000
attribute [local irreducible] Go.IntKind.wrap Int.tdiv Int.tmod Int.fdiv
open Go.Sy renaming tabOk_cons → tc, tabOk_nil → tn, cnd_need → cn, leaf_of → lf, cnd_gg → cg, cnd_gg2 → ch, cond_f → cf, cond_t → ct, cnd_of → co, callOf → ca, roundOf → ro, cnd_not → nn, lams_cons → lc, lams_nil → ln, condT → cT, condF → cF, need1 → n1, resOf → rs, and_l → al, and_r → ar, or_gg → og, ctr_of → cx, loop_blk → lb
open Go.IntKind renaming i64 → Z
open Go.Sy.SV renaming int → V
open Go.Sy.Kd renaming int → W
/-! ### shotline/mix.ask -/
theorem x93 (g : Nat) (i : Dat) (b d e o j l m n : Int) (R : SV → List Blk → List Blk → Prop) : exec Try.prog [(75, c75), (82, c82), (84, c84), (134, c134)] (fun _ => none) 8 (Try.f93.body.getD .skip) (initS Try.f93.ntmps [.agg [.ro [.str, W Z, W Z, W Z, W Z] g i, V Z b, V Z d, V Z e, V Z o, V Z j, V Z l, V Z m, V Z n]] 0 (memOf [])) (retK Try.prog Try.f93.results.toList (outK 0 (List.range 0) [] (.k) fun v U N => R v U N)) =
 (cnd (n75 g i b d e o j l m n)
 (cnd (bif (decide (m75 g i b d e o j l m n = 0)) then false else true)
 (R (.tup [.val (Value.pointer none), V Z (m75 g i b d e o j l m n)]) [] [])
 (R (.tup [.ptr 0 0, V Z 0]) [] [.cells 204 [.ro [.str, W Z, W Z, W Z, W Z] g i, V Z b, V Z d, V Z e, V Z o, V Z j, V Z l, V Z m, V Z n, V Z (Z.wrap (o - m84 (m82 b d e).1 (m82 b d e).2.1 (m82 b d e).2.2)), V Z (m134 j l (m82 b d e).1 (datC [SV.ro [Kd.str, Kd.int Z, Kd.int Z, Kd.int Z, Kd.int Z] g i, V Z b, V Z d, V Z e, V Z o, V Z j, V Z l, V Z m, V Z n])).1, V Z (m134 j l (m82 b d e).1 (datC [SV.ro [Kd.str, Kd.int Z, Kd.int Z, Kd.int Z, Kd.int Z] g i, V Z b, V Z d, V Z e, V Z o, V Z j, V Z l, V Z m, V Z n])).2, V Z (m134 m n (m82 b d e).2.1 (datC [SV.ro [Kd.str, Kd.int Z, Kd.int Z, Kd.int Z, Kd.int Z] g i, V Z b, V Z d, V Z e, V Z o, V Z j, V Z l, V Z m, V Z n])).1, V Z (m134 m n (m82 b d e).2.1 (datC [SV.ro [Kd.str, Kd.int Z, Kd.int Z, Kd.int Z, Kd.int Z] g i, V Z b, V Z d, V Z e, V Z o, V Z j, V Z l, V Z m, V Z n])).2]]))
 False) := by kernel_rfl
def m93a (g : Nat) (i : Dat) (b d e o j l m n : Int) : Int :=
 (m75 g i b d e o j l m n)
def n93a (g : Nat) (i : Dat) (b d e o j l m n : Int) : Bool :=
 ((n75 g i b d e o j l m n) && ((bif (decide (m75 g i b d e o j l m n = 0)) then false else true) && true))
def q93a (r : Int) : SV × List Blk × List Blk := (.tup [.val (Value.pointer none), V Z r], [], [])
def g93a : GF := fun vs bs => match vs, bs with
 | [.agg [.ro [.str, W Z, W Z, W Z, W Z] g i, V Z b, V Z d, V Z e, V Z o, V Z j, V Z l, V Z m, V Z n]], [] => some (rs 0 (q93a (m93a g i b d e o j l m n)) [n93a g i b d e o j l m n])
 | _, _ => none
def c93a : Ctr := genC [.a [.ro [.str, W Z, W Z, W Z, W Z], .k, .k, .k, .k, .k, .k, .k, .k]] g93a
theorem k93a : CtrOk Try.prog c93a 93 := cx (tc k75 (tc k82 (tc k84 (tc k134 tn)))) mix_ok 8 (fn := Try.f93) (c := (Try.f93.body.getD .skip)) (grs := []) (rh := .k) Try.func93 rfl (by kernel_rfl) noLam fun vs bs q h hn => by
 unfold g93a at h
 split at h <;> cases h
 rename_i g i b d e o j l m n
 have hn := n1 hn
 exact ⟨_, rfl, propOf (x93 g i b d e o j l m n _) (cn (al hn) (co (fun _ => lf rfl rfl) (fun h0 => (Bool.false_ne_true (h0.symm.trans (al (ar hn)))).elim)))⟩
def m93b (g : Nat) (i : Dat) (b d e o j l m n : Int) : Int × Nat × Dat × Int × Int × Int × Int × Int × Int × Int × Int × Int × Int × Int × Int × Int :=
 (0, g, i, b, d, e, o, j, l, m, n, (Z.wrap (o - m84 (m82 b d e).1 (m82 b d e).2.1 (m82 b d e).2.2)), (m134 j l (m82 b d e).1 (datC [SV.ro [Kd.str, Kd.int Z, Kd.int Z, Kd.int Z, Kd.int Z] g i, V Z b, V Z d, V Z e, V Z o, V Z j, V Z l, V Z m, V Z n])).1, (m134 j l (m82 b d e).1 (datC [SV.ro [Kd.str, Kd.int Z, Kd.int Z, Kd.int Z, Kd.int Z] g i, V Z b, V Z d, V Z e, V Z o, V Z j, V Z l, V Z m, V Z n])).2, (m134 m n (m82 b d e).2.1 (datC [SV.ro [Kd.str, Kd.int Z, Kd.int Z, Kd.int Z, Kd.int Z] g i, V Z b, V Z d, V Z e, V Z o, V Z j, V Z l, V Z m, V Z n])).1, (m134 m n (m82 b d e).2.1 (datC [SV.ro [Kd.str, Kd.int Z, Kd.int Z, Kd.int Z, Kd.int Z] g i, V Z b, V Z d, V Z e, V Z o, V Z j, V Z l, V Z m, V Z n])).2)
def n93b (g : Nat) (i : Dat) (b d e o j l m n : Int) : Bool :=
 ((n75 g i b d e o j l m n) && (!(bif (decide (m75 g i b d e o j l m n = 0)) then false else true) && true))
def q93b (r : Int × Nat × Dat × Int × Int × Int × Int × Int × Int × Int × Int × Int × Int × Int × Int × Int) : SV × List Blk × List Blk := (.tup [.ptr 0 0, V Z r.1], [], [.cells 204 [.ro [.str, W Z, W Z, W Z, W Z] r.2.1 r.2.2.1, V Z r.2.2.2.1, V Z r.2.2.2.2.1, V Z r.2.2.2.2.2.1, V Z r.2.2.2.2.2.2.1, V Z r.2.2.2.2.2.2.2.1, V Z r.2.2.2.2.2.2.2.2.1, V Z r.2.2.2.2.2.2.2.2.2.1, V Z r.2.2.2.2.2.2.2.2.2.2.1, V Z r.2.2.2.2.2.2.2.2.2.2.2.1, V Z r.2.2.2.2.2.2.2.2.2.2.2.2.1, V Z r.2.2.2.2.2.2.2.2.2.2.2.2.2.1, V Z r.2.2.2.2.2.2.2.2.2.2.2.2.2.2.1, V Z r.2.2.2.2.2.2.2.2.2.2.2.2.2.2.2]])
def g93b : GF := fun vs bs => match vs, bs with
 | [.agg [.ro [.str, W Z, W Z, W Z, W Z] g i, V Z b, V Z d, V Z e, V Z o, V Z j, V Z l, V Z m, V Z n]], [] => some (rs 0 (q93b (m93b g i b d e o j l m n)) [n93b g i b d e o j l m n])
 | _, _ => none
def c93b : Ctr := genC [.a [.ro [.str, W Z, W Z, W Z, W Z], .k, .k, .k, .k, .k, .k, .k, .k]] g93b
theorem k93b : CtrOk Try.prog c93b 93 := cx (tc k75 (tc k82 (tc k84 (tc k134 tn)))) mix_ok 8 (fn := Try.f93) (c := (Try.f93.body.getD .skip)) (grs := []) (rh := .k) Try.func93 rfl (by kernel_rfl) noLam fun vs bs q h hn => by
 unfold g93b at h
 split at h <;> cases h
 rename_i g i b d e o j l m n
 have hn := n1 hn
 exact ⟨_, rfl, propOf (x93 g i b d e o j l m n _) (cn (al hn) (co (fun h0 => (Bool.false_ne_true ((not_l (ar hn)).symm.trans h0)).elim) (fun _ => lf rfl rfl)))⟩

/-! ### shotline/mix.CheckPlan -/
def m38 (d : Nat) (e : Dat) (g i j l m n o p : Int) (s : Nat) (t : Dat) (u : Int) : Int × Int :=
 (cond (n93a d e g i j l m n o p) (0, (m93a d e g i j l m n o p)) (cond (bif (decide ((m93b d e g i j l m n o p).1 = 0)) then false else true) (0, (m93b d e g i j l m n o p).1) ((m97 (datC [SV.ro [Kd.str, Kd.int Z, Kd.int Z, Kd.int Z, Kd.int Z] (m93b d e g i j l m n o p).2.1 (m93b d e g i j l m n o p).2.2.1, V Z (m93b d e g i j l m n o p).2.2.2.1, V Z (m93b d e g i j l m n o p).2.2.2.2.1, V Z (m93b d e g i j l m n o p).2.2.2.2.2.1, V Z (m93b d e g i j l m n o p).2.2.2.2.2.2.1, V Z (m93b d e g i j l m n o p).2.2.2.2.2.2.2.1, V Z (m93b d e g i j l m n o p).2.2.2.2.2.2.2.2.1, V Z (m93b d e g i j l m n o p).2.2.2.2.2.2.2.2.2.1, V Z (m93b d e g i j l m n o p).2.2.2.2.2.2.2.2.2.2.1, V Z (m93b d e g i j l m n o p).2.2.2.2.2.2.2.2.2.2.2.1, V Z (m93b d e g i j l m n o p).2.2.2.2.2.2.2.2.2.2.2.2.1, V Z (m93b d e g i j l m n o p).2.2.2.2.2.2.2.2.2.2.2.2.2.1, V Z (m93b d e g i j l m n o p).2.2.2.2.2.2.2.2.2.2.2.2.2.2.1, V Z (m93b d e g i j l m n o p).2.2.2.2.2.2.2.2.2.2.2.2.2.2.2]) s t u).1, (m97 (datC [SV.ro [Kd.str, Kd.int Z, Kd.int Z, Kd.int Z, Kd.int Z] (m93b d e g i j l m n o p).2.1 (m93b d e g i j l m n o p).2.2.1, V Z (m93b d e g i j l m n o p).2.2.2.1, V Z (m93b d e g i j l m n o p).2.2.2.2.1, V Z (m93b d e g i j l m n o p).2.2.2.2.2.1, V Z (m93b d e g i j l m n o p).2.2.2.2.2.2.1, V Z (m93b d e g i j l m n o p).2.2.2.2.2.2.2.1, V Z (m93b d e g i j l m n o p).2.2.2.2.2.2.2.2.1, V Z (m93b d e g i j l m n o p).2.2.2.2.2.2.2.2.2.1, V Z (m93b d e g i j l m n o p).2.2.2.2.2.2.2.2.2.2.1, V Z (m93b d e g i j l m n o p).2.2.2.2.2.2.2.2.2.2.2.1, V Z (m93b d e g i j l m n o p).2.2.2.2.2.2.2.2.2.2.2.2.1, V Z (m93b d e g i j l m n o p).2.2.2.2.2.2.2.2.2.2.2.2.2.1, V Z (m93b d e g i j l m n o p).2.2.2.2.2.2.2.2.2.2.2.2.2.2.1, V Z (m93b d e g i j l m n o p).2.2.2.2.2.2.2.2.2.2.2.2.2.2.2]) s t u).2)))
def n38 (d : Nat) (e : Dat) (g i j l m n o p : Int) (s : Nat) (t : Dat) (u : Int) : Bool :=
 (cond (n93a d e g i j l m n o p) ((n93a d e g i j l m n o p) && ((bif (decide (m93a d e g i j l m n o p = 0)) then false else true) && true)) ((n93b d e g i j l m n o p) && (cond (bif (decide ((m93b d e g i j l m n o p).1 = 0)) then false else true) true ((n97 (datC [SV.ro [Kd.str, Kd.int Z, Kd.int Z, Kd.int Z, Kd.int Z] (m93b d e g i j l m n o p).2.1 (m93b d e g i j l m n o p).2.2.1, V Z (m93b d e g i j l m n o p).2.2.2.1, V Z (m93b d e g i j l m n o p).2.2.2.2.1, V Z (m93b d e g i j l m n o p).2.2.2.2.2.1, V Z (m93b d e g i j l m n o p).2.2.2.2.2.2.1, V Z (m93b d e g i j l m n o p).2.2.2.2.2.2.2.1, V Z (m93b d e g i j l m n o p).2.2.2.2.2.2.2.2.1, V Z (m93b d e g i j l m n o p).2.2.2.2.2.2.2.2.2.1, V Z (m93b d e g i j l m n o p).2.2.2.2.2.2.2.2.2.2.1, V Z (m93b d e g i j l m n o p).2.2.2.2.2.2.2.2.2.2.2.1, V Z (m93b d e g i j l m n o p).2.2.2.2.2.2.2.2.2.2.2.2.1, V Z (m93b d e g i j l m n o p).2.2.2.2.2.2.2.2.2.2.2.2.2.1, V Z (m93b d e g i j l m n o p).2.2.2.2.2.2.2.2.2.2.2.2.2.2.1, V Z (m93b d e g i j l m n o p).2.2.2.2.2.2.2.2.2.2.2.2.2.2.2]) s t u) && true))))
def q38 (r : Int × Int) : SV × List Blk × List Blk := (.tup [V Z r.1, V Z r.2], [], [])
def g38 : GF := fun vs bs => match vs, bs with
 | [.agg [.ro [.str, W Z, W Z, W Z, W Z] d e, V Z g, V Z i, V Z j, V Z l, V Z m, V Z n, V Z o, V Z p], .agg [.ro [W Z] s t, V Z u]], [] => some (rs 0 (q38 (m38 d e g i j l m n o p s t u)) [n38 d e g i j l m n o p s t u])
 | _, _ => none
def c38 : Ctr := genC [.a [.ro [.str, W Z, W Z, W Z, W Z], .k, .k, .k, .k, .k, .k, .k, .k], .a [.ro [W Z], .k]] g38
theorem k38 : CtrOk Try.prog c38 38 := cx (tc k93a (tc k93b (tc k97 tn))) mix_ok 8 (fn := Try.f38) (c := (Try.f38.body.getD .skip)) (grs := []) (rh := .k) Try.func38 rfl (by kernel_rfl) noLam fun vs bs q h hn => by
 unfold g38 at h
 split at h <;> cases h
 rename_i d e g i j l m n o p s t u
 have hn := n1 hn
 exact ⟨_, rfl, ca (fun R => 
 let a0 := (datC [SV.ro [Kd.str, Kd.int Z, Kd.int Z, Kd.int Z, Kd.int Z] (m93b d e g i j l m n o p).2.1 (m93b d e g i j l m n o p).2.2.1, V Z (m93b d e g i j l m n o p).2.2.2.1, V Z (m93b d e g i j l m n o p).2.2.2.2.1, V Z (m93b d e g i j l m n o p).2.2.2.2.2.1, V Z (m93b d e g i j l m n o p).2.2.2.2.2.2.1, V Z (m93b d e g i j l m n o p).2.2.2.2.2.2.2.1, V Z (m93b d e g i j l m n o p).2.2.2.2.2.2.2.2.1, V Z (m93b d e g i j l m n o p).2.2.2.2.2.2.2.2.2.1, V Z (m93b d e g i j l m n o p).2.2.2.2.2.2.2.2.2.2.1, V Z (m93b d e g i j l m n o p).2.2.2.2.2.2.2.2.2.2.2.1, V Z (m93b d e g i j l m n o p).2.2.2.2.2.2.2.2.2.2.2.2.1, V Z (m93b d e g i j l m n o p).2.2.2.2.2.2.2.2.2.2.2.2.2.1, V Z (m93b d e g i j l m n o p).2.2.2.2.2.2.2.2.2.2.2.2.2.2.1, V Z (m93b d e g i j l m n o p).2.2.2.2.2.2.2.2.2.2.2.2.2.2.2])
 ((cnd (n93a d e g i j l m n o p)
 (cnd (bif (decide (m93a d e g i j l m n o p = 0)) then false else true)
 (R (.tup [V Z 0, V Z (m93a d e g i j l m n o p)]) [] [])
  False)
  False) ∨
 (cnd (n93b d e g i j l m n o p)
 (cnd (bif (decide ((m93b d e g i j l m n o p).1 = 0)) then false else true)
 (R (.tup [V Z 0, V Z (m93b d e g i j l m n o p).1]) [] [])
 (cnd (n97 a0 s t u)
 (R (.tup [V Z (m97 a0 s t u).1, V Z (m97 a0 s t u).2]) [] [])
   False))
  False))) (fun R => by kernel_rfl) (or_of (b := (n93a d e g i j l m n o p)) (fun h0 => cn (al (ct h0 hn)) (cn (al (ar (ct h0 hn))) (lf (cT h0 rfl) rfl))) (fun h0 => cn (al (cf h0 hn)) (co (fun h1 => lf (cF h0 (cT h1 rfl)) rfl) (fun h1 => cn (al (cf h1 (ar (cf h0 hn)))) (lf (cF h0 (cF h1 rfl)) rfl)))))⟩
/-! ### shotline/mix.CheckProof -/
def m41 (d : Nat) (e : Dat) (g i j l m n o p s t u v w x : Int) : Int × Int :=
 (cond (n93a d e g i j l m n o p) (cond (bif (decide (m93a d e g i j l m n o p = 0)) then false else true) (0, (m93a d e g i j l m n o p)) (0, 2)) (cond (bif (decide ((m93b d e g i j l m n o p).1 = 0)) then false else true) (0, (m93b d e g i j l m n o p).1) (cond (bif (m98 s t u v w x) then false else true) (0, 2) ((m99 (datC [SV.ro [Kd.str, Kd.int Z, Kd.int Z, Kd.int Z, Kd.int Z] (m93b d e g i j l m n o p).2.1 (m93b d e g i j l m n o p).2.2.1, V Z (m93b d e g i j l m n o p).2.2.2.1, V Z (m93b d e g i j l m n o p).2.2.2.2.1, V Z (m93b d e g i j l m n o p).2.2.2.2.2.1, V Z (m93b d e g i j l m n o p).2.2.2.2.2.2.1, V Z (m93b d e g i j l m n o p).2.2.2.2.2.2.2.1, V Z (m93b d e g i j l m n o p).2.2.2.2.2.2.2.2.1, V Z (m93b d e g i j l m n o p).2.2.2.2.2.2.2.2.2.1, V Z (m93b d e g i j l m n o p).2.2.2.2.2.2.2.2.2.2.1, V Z (m93b d e g i j l m n o p).2.2.2.2.2.2.2.2.2.2.2.1, V Z (m93b d e g i j l m n o p).2.2.2.2.2.2.2.2.2.2.2.2.1, V Z (m93b d e g i j l m n o p).2.2.2.2.2.2.2.2.2.2.2.2.2.1, V Z (m93b d e g i j l m n o p).2.2.2.2.2.2.2.2.2.2.2.2.2.2.1, V Z (m93b d e g i j l m n o p).2.2.2.2.2.2.2.2.2.2.2.2.2.2.2]) s t u v w x 1), 0))))
def n41 (d : Nat) (e : Dat) (g i j l m n o p s t u v w x : Int) : Bool :=
 (cond (n93a d e g i j l m n o p) ((n93a d e g i j l m n o p) && (cond (bif (decide (m93a d e g i j l m n o p = 0)) then false else true) true ((n98 s t u v w x) && ((bif (m98 s t u v w x) then false else true) && true)))) ((n93b d e g i j l m n o p) && (cond (bif (decide ((m93b d e g i j l m n o p).1 = 0)) then false else true) true ((n98 s t u v w x) && (cond (bif (m98 s t u v w x) then false else true) true ((n99 (datC [SV.ro [Kd.str, Kd.int Z, Kd.int Z, Kd.int Z, Kd.int Z] (m93b d e g i j l m n o p).2.1 (m93b d e g i j l m n o p).2.2.1, V Z (m93b d e g i j l m n o p).2.2.2.1, V Z (m93b d e g i j l m n o p).2.2.2.2.1, V Z (m93b d e g i j l m n o p).2.2.2.2.2.1, V Z (m93b d e g i j l m n o p).2.2.2.2.2.2.1, V Z (m93b d e g i j l m n o p).2.2.2.2.2.2.2.1, V Z (m93b d e g i j l m n o p).2.2.2.2.2.2.2.2.1, V Z (m93b d e g i j l m n o p).2.2.2.2.2.2.2.2.2.1, V Z (m93b d e g i j l m n o p).2.2.2.2.2.2.2.2.2.2.1, V Z (m93b d e g i j l m n o p).2.2.2.2.2.2.2.2.2.2.2.1, V Z (m93b d e g i j l m n o p).2.2.2.2.2.2.2.2.2.2.2.2.1, V Z (m93b d e g i j l m n o p).2.2.2.2.2.2.2.2.2.2.2.2.2.1, V Z (m93b d e g i j l m n o p).2.2.2.2.2.2.2.2.2.2.2.2.2.2.1, V Z (m93b d e g i j l m n o p).2.2.2.2.2.2.2.2.2.2.2.2.2.2.2]) s t u v w x 1) && true))))))
def q41 (r : Int × Int) : SV × List Blk × List Blk := (.tup [V Z r.1, V Z r.2], [], [])
def g41 : GF := fun vs bs => match vs, bs with
 | [.agg [.ro [.str, W Z, W Z, W Z, W Z] d e, V Z g, V Z i, V Z j, V Z l, V Z m, V Z n, V Z o, V Z p], .agg [V Z s, V Z t, V Z u, V Z v, V Z w, V Z x]], [] => some (rs 0 (q41 (m41 d e g i j l m n o p s t u v w x)) [n41 d e g i j l m n o p s t u v w x])
 | _, _ => none
def c41 : Ctr := genC [.a [.ro [.str, W Z, W Z, W Z, W Z], .k, .k, .k, .k, .k, .k, .k, .k], .k] g41
theorem k41 : CtrOk Try.prog c41 41 := cx (tc k93a (tc k93b (tc k98 (tc k99 tn)))) mix_ok 8 (fn := Try.f41) (c := (Try.f41.body.getD .skip)) (grs := []) (rh := .k) Try.func41 rfl (by kernel_rfl) noLam fun vs bs q h hn => by
 unfold g41 at h
 split at h <;> cases h
 rename_i d e g i j l m n o p s t u v w x
 have hn := n1 hn
 exact ⟨_, rfl, ca (fun R => 
 let a0 := (datC [SV.ro [Kd.str, Kd.int Z, Kd.int Z, Kd.int Z, Kd.int Z] (m93b d e g i j l m n o p).2.1 (m93b d e g i j l m n o p).2.2.1, V Z (m93b d e g i j l m n o p).2.2.2.1, V Z (m93b d e g i j l m n o p).2.2.2.2.1, V Z (m93b d e g i j l m n o p).2.2.2.2.2.1, V Z (m93b d e g i j l m n o p).2.2.2.2.2.2.1, V Z (m93b d e g i j l m n o p).2.2.2.2.2.2.2.1, V Z (m93b d e g i j l m n o p).2.2.2.2.2.2.2.2.1, V Z (m93b d e g i j l m n o p).2.2.2.2.2.2.2.2.2.1, V Z (m93b d e g i j l m n o p).2.2.2.2.2.2.2.2.2.2.1, V Z (m93b d e g i j l m n o p).2.2.2.2.2.2.2.2.2.2.2.1, V Z (m93b d e g i j l m n o p).2.2.2.2.2.2.2.2.2.2.2.2.1, V Z (m93b d e g i j l m n o p).2.2.2.2.2.2.2.2.2.2.2.2.2.1, V Z (m93b d e g i j l m n o p).2.2.2.2.2.2.2.2.2.2.2.2.2.2.1, V Z (m93b d e g i j l m n o p).2.2.2.2.2.2.2.2.2.2.2.2.2.2.2])
 ((cnd (n93a d e g i j l m n o p)
 (cnd (bif (decide (m93a d e g i j l m n o p = 0)) then false else true)
 (R (.tup [V Z 0, V Z (m93a d e g i j l m n o p)]) [] [])
 (cnd (n98 s t u v w x)
 (cnd (bif (m98 s t u v w x) then false else true)
 (R (.tup [V Z 0, V Z 2]) [] [])
   False)
   False))
  False) ∨
 (cnd (n93b d e g i j l m n o p)
 (cnd (bif (decide ((m93b d e g i j l m n o p).1 = 0)) then false else true)
 (R (.tup [V Z 0, V Z (m93b d e g i j l m n o p).1]) [] [])
 (cnd (n98 s t u v w x)
 (cnd (bif (m98 s t u v w x) then false else true)
 (R (.tup [V Z 0, V Z 2]) [] [])
 (cnd (n99 a0 s t u v w x 1)
 (R (.tup [V Z (m99 a0 s t u v w x 1), V Z 0]) [] [])
    False))
   False))
  False))) (fun R => by kernel_rfl) (or_of (b := (n93a d e g i j l m n o p)) (fun h0 => cn (al (ct h0 hn)) (co (fun h1 => lf (cT h0 (cT h1 rfl)) rfl) (fun h1 => cn (al (cf h1 (ar (ct h0 hn)))) (cn (al (ar (cf h1 (ar (ct h0 hn))))) (lf (cT h0 (cF h1 rfl)) rfl))))) (fun h0 => cn (al (cf h0 hn)) (co (fun h1 => lf (cF h0 (cT h1 rfl)) rfl) (fun h1 => cn (al (cf h1 (ar (cf h0 hn)))) (co (fun h2 => lf (cF h0 (cF h1 (cT h2 rfl))) rfl) (fun h2 => cn (al (cf h2 (ar (cf h1 (ar (cf h0 hn)))))) (lf (cF h0 (cF h1 (cF h2 rfl))) rfl)))))))⟩
/-! ### shotline/mix.CheckRefusal -/
def m70 (d : Nat) (e : Dat) (g i j l m n o p s t u v w x : Int) : Int × Int :=
 (cond (n93a d e g i j l m n o p) (cond (bif (decide (m93a d e g i j l m n o p = 0)) then false else true) (0, (m93a d e g i j l m n o p)) (0, 2)) (cond (bif (decide ((m93b d e g i j l m n o p).1 = 0)) then false else true) (0, (m93b d e g i j l m n o p).1) (cond (bif (m98 s t u v w x) then false else true) (0, 2) (cond (decide (m99 (datC [SV.ro [Kd.str, Kd.int Z, Kd.int Z, Kd.int Z, Kd.int Z] (m93b d e g i j l m n o p).2.1 (m93b d e g i j l m n o p).2.2.1, V Z (m93b d e g i j l m n o p).2.2.2.1, V Z (m93b d e g i j l m n o p).2.2.2.2.1, V Z (m93b d e g i j l m n o p).2.2.2.2.2.1, V Z (m93b d e g i j l m n o p).2.2.2.2.2.2.1, V Z (m93b d e g i j l m n o p).2.2.2.2.2.2.2.1, V Z (m93b d e g i j l m n o p).2.2.2.2.2.2.2.2.1, V Z (m93b d e g i j l m n o p).2.2.2.2.2.2.2.2.2.1, V Z (m93b d e g i j l m n o p).2.2.2.2.2.2.2.2.2.2.1, V Z (m93b d e g i j l m n o p).2.2.2.2.2.2.2.2.2.2.2.1, V Z (m93b d e g i j l m n o p).2.2.2.2.2.2.2.2.2.2.2.2.1, V Z (m93b d e g i j l m n o p).2.2.2.2.2.2.2.2.2.2.2.2.2.1, V Z (m93b d e g i j l m n o p).2.2.2.2.2.2.2.2.2.2.2.2.2.2.1, V Z (m93b d e g i j l m n o p).2.2.2.2.2.2.2.2.2.2.2.2.2.2.2]) s t u v w x (0 : Int) ≤ (0 : Int))) (0, 22) ((m99 (datC [SV.ro [Kd.str, Kd.int Z, Kd.int Z, Kd.int Z, Kd.int Z] (m93b d e g i j l m n o p).2.1 (m93b d e g i j l m n o p).2.2.1, V Z (m93b d e g i j l m n o p).2.2.2.1, V Z (m93b d e g i j l m n o p).2.2.2.2.1, V Z (m93b d e g i j l m n o p).2.2.2.2.2.1, V Z (m93b d e g i j l m n o p).2.2.2.2.2.2.1, V Z (m93b d e g i j l m n o p).2.2.2.2.2.2.2.1, V Z (m93b d e g i j l m n o p).2.2.2.2.2.2.2.2.1, V Z (m93b d e g i j l m n o p).2.2.2.2.2.2.2.2.2.1, V Z (m93b d e g i j l m n o p).2.2.2.2.2.2.2.2.2.2.1, V Z (m93b d e g i j l m n o p).2.2.2.2.2.2.2.2.2.2.2.1, V Z (m93b d e g i j l m n o p).2.2.2.2.2.2.2.2.2.2.2.2.1, V Z (m93b d e g i j l m n o p).2.2.2.2.2.2.2.2.2.2.2.2.2.1, V Z (m93b d e g i j l m n o p).2.2.2.2.2.2.2.2.2.2.2.2.2.2.1, V Z (m93b d e g i j l m n o p).2.2.2.2.2.2.2.2.2.2.2.2.2.2.2]) s t u v w x 0), 0)))))
def n70 (d : Nat) (e : Dat) (g i j l m n o p s t u v w x : Int) : Bool :=
 (cond (n93a d e g i j l m n o p) ((n93a d e g i j l m n o p) && (cond (bif (decide (m93a d e g i j l m n o p = 0)) then false else true) true ((n98 s t u v w x) && ((bif (m98 s t u v w x) then false else true) && true)))) ((n93b d e g i j l m n o p) && (cond (bif (decide ((m93b d e g i j l m n o p).1 = 0)) then false else true) true ((n98 s t u v w x) && (cond (bif (m98 s t u v w x) then false else true) true ((n99 (datC [SV.ro [Kd.str, Kd.int Z, Kd.int Z, Kd.int Z, Kd.int Z] (m93b d e g i j l m n o p).2.1 (m93b d e g i j l m n o p).2.2.1, V Z (m93b d e g i j l m n o p).2.2.2.1, V Z (m93b d e g i j l m n o p).2.2.2.2.1, V Z (m93b d e g i j l m n o p).2.2.2.2.2.1, V Z (m93b d e g i j l m n o p).2.2.2.2.2.2.1, V Z (m93b d e g i j l m n o p).2.2.2.2.2.2.2.1, V Z (m93b d e g i j l m n o p).2.2.2.2.2.2.2.2.1, V Z (m93b d e g i j l m n o p).2.2.2.2.2.2.2.2.2.1, V Z (m93b d e g i j l m n o p).2.2.2.2.2.2.2.2.2.2.1, V Z (m93b d e g i j l m n o p).2.2.2.2.2.2.2.2.2.2.2.1, V Z (m93b d e g i j l m n o p).2.2.2.2.2.2.2.2.2.2.2.2.1, V Z (m93b d e g i j l m n o p).2.2.2.2.2.2.2.2.2.2.2.2.2.1, V Z (m93b d e g i j l m n o p).2.2.2.2.2.2.2.2.2.2.2.2.2.2.1, V Z (m93b d e g i j l m n o p).2.2.2.2.2.2.2.2.2.2.2.2.2.2.2]) s t u v w x 0) && true))))))
def q70 (r : Int × Int) : SV × List Blk × List Blk := (.tup [V Z r.1, V Z r.2], [], [])
def g70 : GF := fun vs bs => match vs, bs with
 | [.agg [.ro [.str, W Z, W Z, W Z, W Z] d e, V Z g, V Z i, V Z j, V Z l, V Z m, V Z n, V Z o, V Z p], .agg [V Z s, V Z t, V Z u, V Z v, V Z w, V Z x]], [] => some (rs 0 (q70 (m70 d e g i j l m n o p s t u v w x)) [n70 d e g i j l m n o p s t u v w x])
 | _, _ => none
def c70 : Ctr := genC [.a [.ro [.str, W Z, W Z, W Z, W Z], .k, .k, .k, .k, .k, .k, .k, .k], .k] g70
theorem k70 : CtrOk Try.prog c70 70 := cx (tc k93a (tc k93b (tc k98 (tc k99 tn)))) mix_ok 8 (fn := Try.f70) (c := (Try.f70.body.getD .skip)) (grs := []) (rh := .k) Try.func70 rfl (by kernel_rfl) noLam fun vs bs q h hn => by
 unfold g70 at h
 split at h <;> cases h
 rename_i d e g i j l m n o p s t u v w x
 have hn := n1 hn
 exact ⟨_, rfl, ca (fun R => 
 let a0 := (datC [SV.ro [Kd.str, Kd.int Z, Kd.int Z, Kd.int Z, Kd.int Z] (m93b d e g i j l m n o p).2.1 (m93b d e g i j l m n o p).2.2.1, V Z (m93b d e g i j l m n o p).2.2.2.1, V Z (m93b d e g i j l m n o p).2.2.2.2.1, V Z (m93b d e g i j l m n o p).2.2.2.2.2.1, V Z (m93b d e g i j l m n o p).2.2.2.2.2.2.1, V Z (m93b d e g i j l m n o p).2.2.2.2.2.2.2.1, V Z (m93b d e g i j l m n o p).2.2.2.2.2.2.2.2.1, V Z (m93b d e g i j l m n o p).2.2.2.2.2.2.2.2.2.1, V Z (m93b d e g i j l m n o p).2.2.2.2.2.2.2.2.2.2.1, V Z (m93b d e g i j l m n o p).2.2.2.2.2.2.2.2.2.2.2.1, V Z (m93b d e g i j l m n o p).2.2.2.2.2.2.2.2.2.2.2.2.1, V Z (m93b d e g i j l m n o p).2.2.2.2.2.2.2.2.2.2.2.2.2.1, V Z (m93b d e g i j l m n o p).2.2.2.2.2.2.2.2.2.2.2.2.2.2.1, V Z (m93b d e g i j l m n o p).2.2.2.2.2.2.2.2.2.2.2.2.2.2.2])
 ((cnd (n93a d e g i j l m n o p)
 (cnd (bif (decide (m93a d e g i j l m n o p = 0)) then false else true)
 (R (.tup [V Z 0, V Z (m93a d e g i j l m n o p)]) [] [])
 (cnd (n98 s t u v w x)
 (cnd (bif (m98 s t u v w x) then false else true)
 (R (.tup [V Z 0, V Z 2]) [] [])
   False)
   False))
  False) ∨
 (cnd (n93b d e g i j l m n o p)
 (cnd (bif (decide ((m93b d e g i j l m n o p).1 = 0)) then false else true)
 (R (.tup [V Z 0, V Z (m93b d e g i j l m n o p).1]) [] [])
 (cnd (n98 s t u v w x)
 (cnd (bif (m98 s t u v w x) then false else true)
 (R (.tup [V Z 0, V Z 2]) [] [])
 (cnd (n99 a0 s t u v w x 0)
 (cnd (decide (m99 a0 s t u v w x (0 : Int) ≤ (0 : Int)))
 (R (.tup [V Z 0, V Z 22]) [] [])
 (R (.tup [V Z (m99 a0 s t u v w x 0), V Z 0]) [] []))
    False))
   False))
  False))) (fun R => by kernel_rfl) (or_of (b := (n93a d e g i j l m n o p)) (fun h0 => cn (al (ct h0 hn)) (co (fun h1 => lf (cT h0 (cT h1 rfl)) rfl) (fun h1 => cn (al (cf h1 (ar (ct h0 hn)))) (cn (al (ar (cf h1 (ar (ct h0 hn))))) (lf (cT h0 (cF h1 rfl)) rfl))))) (fun h0 => cn (al (cf h0 hn)) (co (fun h1 => lf (cF h0 (cT h1 rfl)) rfl) (fun h1 => cn (al (cf h1 (ar (cf h0 hn)))) (co (fun h2 => lf (cF h0 (cF h1 (cT h2 rfl))) rfl) (fun h2 => cn (al (cf h2 (ar (cf h1 (ar (cf h0 hn)))))) (co (fun h3 => lf (cF h0 (cF h1 (cF h2 (cT h3 rfl)))) rfl) (fun h3 => lf (cF h0 (cF h1 (cF h2 (cF h3 rfl)))) rfl))))))))⟩

/-! ### (shotline/mix.gases).share -/
def l85_2 (A : Nat) (C o p t u v w x y z : Int) (i : Dat) : Nat → Int → Int → Int → Int → Option (Int × Int × Int)
 | 0, _, _, _, _ => none
 | f + 1, j, l, m, n => (cond (decide (j < C)) (cond (decide (0 ≤ j ∧ j < ↑A)) (cond (decide ((0 + j.toNat) < 3)) (cond (decide ((0 : Int) ≤ i.ii ((0 : Nat) + j.toNat) (0 : Nat) ∧ i.ii ((0 : Nat) + j.toNat) (0 : Nat) < (↑(3 : Nat) : Int))) (cond (decide (((i.ii (0 + j.toNat) 0).toNat) < 3)) (cond (decide ((0 : Int) ≤ i.ii ((0 : Nat) + j.toNat) (0 : Nat) ∧ i.ii ((0 : Nat) + j.toNat) (0 : Nat) < (↑(3 : Nat) : Int))) (cond (decide (((i.ii (0 + j.toNat) 0).toNat) < 3)) (l85_2 A C o p t u v w x y z i f (Z.wrap (j + 1)) (bif (((0 - 0) / (Try.prog.types[3].size)).beq ((i.ii (0 + j.toNat) 0).toNat)) then (Z.wrap ((intAt [V Z l, V Z m, V Z n] (((0 + (((i.ii (0 + j.toNat) 0).toNat) * (Try.prog.types[3].size))) + 0) + 0)) + 1)) else l) (bif (((1 - 0) / (Try.prog.types[3].size)).beq ((i.ii (0 + j.toNat) 0).toNat)) then (Z.wrap ((intAt [V Z l, V Z m, V Z n] (((0 + (((i.ii (0 + j.toNat) 0).toNat) * (Try.prog.types[3].size))) + 0) + 0)) + 1)) else m) (bif (((2 - 0) / (Try.prog.types[3].size)).beq ((i.ii (0 + j.toNat) 0).toNat)) then (Z.wrap ((intAt [V Z l, V Z m, V Z n] (((0 + (((i.ii (0 + j.toNat) 0).toNat) * (Try.prog.types[3].size))) + 0) + 0)) + 1)) else n)) none) none) none) none) none) none) (some (l, m, n)))
abbrev o85_2 (A : Nat) (C o p t u v w x y z : Int) (i : Dat) (j l m n : Int) : Option (Int × Int × Int) := l85_2 A C o p t u v w x y z i (A + C.toNat + j.toNat + o.toNat + p.toNat + t.toNat + u.toNat + v.toNat + w.toNat + l.toNat + m.toNat + n.toNat + x.toNat + y.toNat + z.toNat + 8) j l m n
def e85_2 (A : Nat) (C o p t u v w x y z : Int) (i : Dat) (r : Int × Int × Int) (K : XR) : Prop := K (XE.exit 2) [.ptr 1 0, .ptr 2 0] [.cells 153 [V Z o, V Z p, V Z t], .cells 153 [V Z u, V Z v, V Z w], .cells 153 [V Z r.1, V Z r.2.1, V Z r.2.2], .cells 153 [V Z x, V Z y, V Z z], .row 3 [W Z] 3 i]
def g85_2 : LSum := fun s k => match czv 0 62 [4, 6, 49, 50, 51] 5 [] s with
 | some ([.ptr 1 0, .ptr 2 0, .slc 4 1 0 A, V Z C, V Z j], [.cells 153 [V Z o, V Z p, V Z t], .cells 153 [V Z u, V Z v, V Z w], .cells 153 [V Z l, V Z m, V Z n], .cells 153 [V Z x, V Z y, V Z z], .row 3 [W Z] 3 i]) => needs [(o85_2 A C o p t u v w x y z i j l m n).isSome] (e85_2 A C o p t u v w x y z i ((o85_2 A C o p t u v w x y z i j l m n).getD default) fun e vs bs => inBlk 2 k e (mkSt 0 62 [4, 6] vs 5 bs))
 | _ => False
theorem z85_2 : LOk Try.prog g85_2 (.block 2 (bodyAt (Try.f85.body.getD .skip) 2)) := by
 refine lb (ι := Nat × Int × Int × Int × Int × Int × Int × Int × Int × Int × Int × Int × Int × Int × Int × Dat) (fuel := 9) (na := 0) (nt := 62) (nx := 5) (Lh := [4, 6, 49, 50, 51]) (Le := [4, 6]) (gl := []) (tc k84 (tc k122c123 (tc k123 tn))) mix_ok noLam rfl (fun f (A, C, j, o, p, t, u, v, w, l, m, n, x, y, z, i) K => GG default (e85_2 A C o p t u v w x y z i) K (l85_2 A C o p t u v w x y z i f j l m n)) (fun (A, C, j, o, p, t, u, v, w, l, m, n, x, y, z, i) => [.ptr 1 0, .ptr 2 0, .slc 4 1 0 A, V Z C, V Z j]) (fun (A, C, j, o, p, t, u, v, w, l, m, n, x, y, z, i) => [.cells 153 [V Z o, V Z p, V Z t], .cells 153 [V Z u, V Z v, V Z w], .cells 153 [V Z l, V Z m, V Z n], .cells 153 [V Z x, V Z y, V Z z], .row 3 [W Z] 3 i]) (fun (_, _, _, _, _, _, _, _, _, _, _, _, _, _, _, _) K => gg_none) ?_ ?_
 ·rintro f ⟨A, C, j, o, p, t, u, v, w, l, m, n, x, y, z, i⟩ K hG
  refine ro (fun R => 
 let c0 := ((i.ii (0 + j.toNat) 0).toNat)
 let a0 := (Z.wrap ((intAt [V Z l, V Z m, V Z n] (((0 + (c0 * (Try.prog.types[3].size))) + 0) + 0)) + 1))
 let b0 := (decide ((0 : Int) ≤ i.ii ((0 : Nat) + j.toNat) (0 : Nat) ∧ i.ii ((0 : Nat) + j.toNat) (0 : Nat) < (↑(3 : Nat) : Int)))
 (cnd (decide (j < C))
 (cnd (decide (0 ≤ j ∧ j < ↑A))
 (cnd (decide ((0 + j.toNat) < 3))
 (cnd b0
 (cnd (decide (c0 < 3))
 (cnd b0
 (cnd (decide (c0 < 3))
 (R (XE.normal) [.ptr 1 0, .ptr 2 0, .slc 4 1 0 A, V Z C, V Z (Z.wrap (j + 1))] [.cells 153 [V Z o, V Z p, V Z t], .cells 153 [V Z u, V Z v, V Z w], .cells 153 [V Z (bif (((0 - 0) / (Try.prog.types[3].size)).beq c0) then a0 else l), V Z (bif (((1 - 0) / (Try.prog.types[3].size)).beq c0) then a0 else m), V Z (bif (((2 - 0) / (Try.prog.types[3].size)).beq c0) then a0 else n)], .cells 153 [V Z x, V Z y, V Z z], .row 3 [W Z] 3 i])
    False)
    False)
   False)
   False)
  False)
  False)
 (R (XE.exit 2) [.ptr 1 0, .ptr 2 0] [.cells 153 [V Z o, V Z p, V Z t], .cells 153 [V Z u, V Z v, V Z w], .cells 153 [V Z l, V Z m, V Z n], .cells 153 [V Z x, V Z y, V Z z], .row 3 [W Z] 3 i]))) (fun R => by kernel_rfl) ?_
  exact ch hG (fun h0 => cg h0 fun h1 => cg h1 fun h2 => cg h2 fun h3 => cg h3 fun h4 => cg h4 fun h5 => cg h5 fun h6 => ⟨(_, _, _, _, _, _, _, _, _, _, _, _, _, _, _, _), rfl, rfl, h6⟩) (fun h0 => h0.2)
 ·intro s k h
  unfold g85_2 at h
  split at h <;> try exact h.elim
  rename_i e1
  rw [needs_iff] at h
  exact ⟨_, e1, _, (_, _, _, _, _, _, _, _, _, _, _, _, _, _, _, _), rfl, rfl, h.1 _ (List.mem_singleton.2 rfl), h.2⟩
def m85 (a b d g : Int) : Int × Int × Int :=
 (cond (decide ((m84 a b d) = 0)) (0, 0, 0) (((o85_2 (((Z.wrap (g - (m84 (Z.wrap ((Z.wrap (a * g)).tdiv (m84 a b d))) (Z.wrap ((Z.wrap (b * g)).tdiv (m84 a b d))) (Z.wrap ((Z.wrap (d * g)).tdiv (m84 a b d)))))) - 0).toNat) (↑(((Z.wrap (g - (m84 (Z.wrap ((Z.wrap (a * g)).tdiv (m84 a b d))) (Z.wrap ((Z.wrap (b * g)).tdiv (m84 a b d))) (Z.wrap ((Z.wrap (d * g)).tdiv (m84 a b d)))))) - 0).toNat) : Int) a b d 0 0 0 ((Z.wrap (a * g)).tmod (m84 a b d)) ((Z.wrap (b * g)).tmod (m84 a b d)) ((Z.wrap (d * g)).tmod (m84 a b d)) (m122c123 (datS [V Z 0, V Z 1, V Z 2] 1) (datS [V Z ((Z.wrap (a * g)).tmod (m84 a b d)), V Z ((Z.wrap (b * g)).tmod (m84 a b d)), V Z ((Z.wrap (d * g)).tmod (m84 a b d))] 1)) 0 (Z.wrap ((Z.wrap (a * g)).tdiv (m84 a b d))) (Z.wrap ((Z.wrap (b * g)).tdiv (m84 a b d))) (Z.wrap ((Z.wrap (d * g)).tdiv (m84 a b d)))).getD default).1, ((o85_2 (((Z.wrap (g - (m84 (Z.wrap ((Z.wrap (a * g)).tdiv (m84 a b d))) (Z.wrap ((Z.wrap (b * g)).tdiv (m84 a b d))) (Z.wrap ((Z.wrap (d * g)).tdiv (m84 a b d)))))) - 0).toNat) (↑(((Z.wrap (g - (m84 (Z.wrap ((Z.wrap (a * g)).tdiv (m84 a b d))) (Z.wrap ((Z.wrap (b * g)).tdiv (m84 a b d))) (Z.wrap ((Z.wrap (d * g)).tdiv (m84 a b d)))))) - 0).toNat) : Int) a b d 0 0 0 ((Z.wrap (a * g)).tmod (m84 a b d)) ((Z.wrap (b * g)).tmod (m84 a b d)) ((Z.wrap (d * g)).tmod (m84 a b d)) (m122c123 (datS [V Z 0, V Z 1, V Z 2] 1) (datS [V Z ((Z.wrap (a * g)).tmod (m84 a b d)), V Z ((Z.wrap (b * g)).tmod (m84 a b d)), V Z ((Z.wrap (d * g)).tmod (m84 a b d))] 1)) 0 (Z.wrap ((Z.wrap (a * g)).tdiv (m84 a b d))) (Z.wrap ((Z.wrap (b * g)).tdiv (m84 a b d))) (Z.wrap ((Z.wrap (d * g)).tdiv (m84 a b d)))).getD default).2.1, ((o85_2 (((Z.wrap (g - (m84 (Z.wrap ((Z.wrap (a * g)).tdiv (m84 a b d))) (Z.wrap ((Z.wrap (b * g)).tdiv (m84 a b d))) (Z.wrap ((Z.wrap (d * g)).tdiv (m84 a b d)))))) - 0).toNat) (↑(((Z.wrap (g - (m84 (Z.wrap ((Z.wrap (a * g)).tdiv (m84 a b d))) (Z.wrap ((Z.wrap (b * g)).tdiv (m84 a b d))) (Z.wrap ((Z.wrap (d * g)).tdiv (m84 a b d)))))) - 0).toNat) : Int) a b d 0 0 0 ((Z.wrap (a * g)).tmod (m84 a b d)) ((Z.wrap (b * g)).tmod (m84 a b d)) ((Z.wrap (d * g)).tmod (m84 a b d)) (m122c123 (datS [V Z 0, V Z 1, V Z 2] 1) (datS [V Z ((Z.wrap (a * g)).tmod (m84 a b d)), V Z ((Z.wrap (b * g)).tmod (m84 a b d)), V Z ((Z.wrap (d * g)).tmod (m84 a b d))] 1)) 0 (Z.wrap ((Z.wrap (a * g)).tdiv (m84 a b d))) (Z.wrap ((Z.wrap (b * g)).tdiv (m84 a b d))) (Z.wrap ((Z.wrap (d * g)).tdiv (m84 a b d)))).getD default).2.2))
def n85 (a b d g : Int) : Bool :=
 (cond (decide ((m84 a b d) = 0)) true ((bif (decide ((m84 a b d) = 0)) then false else true) && ((bif (decide ((m84 a b d) = 0)) then false else true) && ((bif (decide ((m84 a b d) = 0)) then false else true) && ((bif (decide ((m84 a b d) = 0)) then false else true) && ((bif (decide ((m84 a b d) = 0)) then false else true) && ((bif (decide ((m84 a b d) = 0)) then false else true) && ((n122c123 (datS [V Z 0, V Z 1, V Z 2] 1) (datS [V Z ((Z.wrap (a * g)).tmod (m84 a b d)), V Z ((Z.wrap (b * g)).tmod (m84 a b d)), V Z ((Z.wrap (d * g)).tmod (m84 a b d))] 1)) && ((decide ((0 : Int) ≤ (0 : Int) ∧ (0 : Int) ≤ Z.wrap (g - m84 (bif ((nat_lit 0 - (0 : Nat)) / Try.prog.types[(3 : Nat)].size).beq (Z.wrap (Z.wrap ((0 : Int) + (1 : Int)) + (1 : Int))).toNat then Z.wrap ((Z.wrap (d * g)).tdiv (m84 a b d)) else bif ((nat_lit 0 - (0 : Nat)) / Try.prog.types[(3 : Nat)].size).beq (Z.wrap ((0 : Int) + (1 : Int))).toNat then Z.wrap ((Z.wrap (b * g)).tdiv (m84 a b d)) else bif ((nat_lit 0 - (0 : Nat)) / Try.prog.types[(3 : Nat)].size).beq (Int.toNat (0 : Int)) then Z.wrap ((Z.wrap (a * g)).tdiv (m84 a b d)) else (0 : Int)) (bif ((nat_lit 1 - (0 : Nat)) / Try.prog.types[(3 : Nat)].size).beq (Z.wrap (Z.wrap ((0 : Int) + (1 : Int)) + (1 : Int))).toNat then Z.wrap ((Z.wrap (d * g)).tdiv (m84 a b d)) else bif ((nat_lit 1 - (0 : Nat)) / Try.prog.types[(3 : Nat)].size).beq (Z.wrap ((0 : Int) + (1 : Int))).toNat then Z.wrap ((Z.wrap (b * g)).tdiv (m84 a b d)) else bif ((nat_lit 1 - (0 : Nat)) / Try.prog.types[(3 : Nat)].size).beq (Int.toNat (0 : Int)) then Z.wrap ((Z.wrap (a * g)).tdiv (m84 a b d)) else (0 : Int)) (bif ((nat_lit 2 - (0 : Nat)) / Try.prog.types[(3 : Nat)].size).beq (Z.wrap (Z.wrap ((0 : Int) + (1 : Int)) + (1 : Int))).toNat then Z.wrap ((Z.wrap (d * g)).tdiv (m84 a b d)) else bif ((nat_lit 2 - (0 : Nat)) / Try.prog.types[(3 : Nat)].size).beq (Z.wrap ((0 : Int) + (1 : Int))).toNat then Z.wrap ((Z.wrap (b * g)).tdiv (m84 a b d)) else bif ((nat_lit 2 - (0 : Nat)) / Try.prog.types[(3 : Nat)].size).beq (Int.toNat (0 : Int)) then Z.wrap ((Z.wrap (a * g)).tdiv (m84 a b d)) else (0 : Int))) ∧ Z.wrap (g - m84 (bif ((nat_lit 0 - (0 : Nat)) / Try.prog.types[(3 : Nat)].size).beq (Z.wrap (Z.wrap ((0 : Int) + (1 : Int)) + (1 : Int))).toNat then Z.wrap ((Z.wrap (d * g)).tdiv (m84 a b d)) else bif ((nat_lit 0 - (0 : Nat)) / Try.prog.types[(3 : Nat)].size).beq (Z.wrap ((0 : Int) + (1 : Int))).toNat then Z.wrap ((Z.wrap (b * g)).tdiv (m84 a b d)) else bif ((nat_lit 0 - (0 : Nat)) / Try.prog.types[(3 : Nat)].size).beq (Int.toNat (0 : Int)) then Z.wrap ((Z.wrap (a * g)).tdiv (m84 a b d)) else (0 : Int)) (bif ((nat_lit 1 - (0 : Nat)) / Try.prog.types[(3 : Nat)].size).beq (Z.wrap (Z.wrap ((0 : Int) + (1 : Int)) + (1 : Int))).toNat then Z.wrap ((Z.wrap (d * g)).tdiv (m84 a b d)) else bif ((nat_lit 1 - (0 : Nat)) / Try.prog.types[(3 : Nat)].size).beq (Z.wrap ((0 : Int) + (1 : Int))).toNat then Z.wrap ((Z.wrap (b * g)).tdiv (m84 a b d)) else bif ((nat_lit 1 - (0 : Nat)) / Try.prog.types[(3 : Nat)].size).beq (Int.toNat (0 : Int)) then Z.wrap ((Z.wrap (a * g)).tdiv (m84 a b d)) else (0 : Int)) (bif ((nat_lit 2 - (0 : Nat)) / Try.prog.types[(3 : Nat)].size).beq (Z.wrap (Z.wrap ((0 : Int) + (1 : Int)) + (1 : Int))).toNat then Z.wrap ((Z.wrap (d * g)).tdiv (m84 a b d)) else bif ((nat_lit 2 - (0 : Nat)) / Try.prog.types[(3 : Nat)].size).beq (Z.wrap ((0 : Int) + (1 : Int))).toNat then Z.wrap ((Z.wrap (b * g)).tdiv (m84 a b d)) else bif ((nat_lit 2 - (0 : Nat)) / Try.prog.types[(3 : Nat)].size).beq (Int.toNat (0 : Int)) then Z.wrap ((Z.wrap (a * g)).tdiv (m84 a b d)) else (0 : Int))) ≤ (↑(3 : Nat) : Int))) && (((o85_2 (((Z.wrap (g - (m84 (Z.wrap ((Z.wrap (a * g)).tdiv (m84 a b d))) (Z.wrap ((Z.wrap (b * g)).tdiv (m84 a b d))) (Z.wrap ((Z.wrap (d * g)).tdiv (m84 a b d)))))) - 0).toNat) (↑(((Z.wrap (g - (m84 (Z.wrap ((Z.wrap (a * g)).tdiv (m84 a b d))) (Z.wrap ((Z.wrap (b * g)).tdiv (m84 a b d))) (Z.wrap ((Z.wrap (d * g)).tdiv (m84 a b d)))))) - 0).toNat) : Int) a b d 0 0 0 ((Z.wrap (a * g)).tmod (m84 a b d)) ((Z.wrap (b * g)).tmod (m84 a b d)) ((Z.wrap (d * g)).tmod (m84 a b d)) (m122c123 (datS [V Z 0, V Z 1, V Z 2] 1) (datS [V Z ((Z.wrap (a * g)).tmod (m84 a b d)), V Z ((Z.wrap (b * g)).tmod (m84 a b d)), V Z ((Z.wrap (d * g)).tmod (m84 a b d))] 1)) 0 (Z.wrap ((Z.wrap (a * g)).tdiv (m84 a b d))) (Z.wrap ((Z.wrap (b * g)).tdiv (m84 a b d))) (Z.wrap ((Z.wrap (d * g)).tdiv (m84 a b d)))).isSome) && true))))))))))
def q85 (r : Int × Int × Int) : SV × List Blk × List Blk := (.agg [V Z r.1, V Z r.2.1, V Z r.2.2], [], [])
def g85 : GF := fun vs bs => match vs, bs with
 | [.agg [V Z a, V Z b, V Z d], V Z g], [] => some (rs 0 (q85 (m85 a b d g)) [n85 a b d g])
 | _, _ => none
def c85 : Ctr := genC [.k, .k] g85
theorem k85 : CtrOk Try.prog c85 85 := cx (tc k84 (tc k122c123 (tc k123 tn))) mix_ok 9 (fn := Try.f85) (c := (Try.f85.body.getD .skip)) (grs := []) (rh := .k) Try.func85 rfl (by kernel_rfl) (lam_of rfl (lc z85_2 ln)) fun vs bs q h hn => by
 unfold g85 at h
 split at h <;> cases h
 rename_i a b d g
 have hn := n1 hn
 exact ⟨_, rfl, ca (fun R => 
 let a0 := (o85_2 (((Z.wrap (g - (m84 (Z.wrap ((Z.wrap (a * g)).tdiv (m84 a b d))) (Z.wrap ((Z.wrap (b * g)).tdiv (m84 a b d))) (Z.wrap ((Z.wrap (d * g)).tdiv (m84 a b d)))))) - 0).toNat) (↑(((Z.wrap (g - (m84 (Z.wrap ((Z.wrap (a * g)).tdiv (m84 a b d))) (Z.wrap ((Z.wrap (b * g)).tdiv (m84 a b d))) (Z.wrap ((Z.wrap (d * g)).tdiv (m84 a b d)))))) - 0).toNat) : Int) a b d 0 0 0 ((Z.wrap (a * g)).tmod (m84 a b d)) ((Z.wrap (b * g)).tmod (m84 a b d)) ((Z.wrap (d * g)).tmod (m84 a b d)) (m122c123 (datS [V Z 0, V Z 1, V Z 2] 1) (datS [V Z ((Z.wrap (a * g)).tmod (m84 a b d)), V Z ((Z.wrap (b * g)).tmod (m84 a b d)), V Z ((Z.wrap (d * g)).tmod (m84 a b d))] 1)) 0 (Z.wrap ((Z.wrap (a * g)).tdiv (m84 a b d))) (Z.wrap ((Z.wrap (b * g)).tdiv (m84 a b d))) (Z.wrap ((Z.wrap (d * g)).tdiv (m84 a b d))))
 let b0 := (g - m84 (bif ((nat_lit 0 - (0 : Nat)) / Try.prog.types[(3 : Nat)].size).beq (Z.wrap (Z.wrap ((0 : Int) + (1 : Int)) + (1 : Int))).toNat then Z.wrap ((Z.wrap (d * g)).tdiv (m84 a b d)) else bif ((nat_lit 0 - (0 : Nat)) / Try.prog.types[(3 : Nat)].size).beq (Z.wrap ((0 : Int) + (1 : Int))).toNat then Z.wrap ((Z.wrap (b * g)).tdiv (m84 a b d)) else bif ((nat_lit 0 - (0 : Nat)) / Try.prog.types[(3 : Nat)].size).beq (Int.toNat (0 : Int)) then Z.wrap ((Z.wrap (a * g)).tdiv (m84 a b d)) else (0 : Int)) (bif ((nat_lit 1 - (0 : Nat)) / Try.prog.types[(3 : Nat)].size).beq (Z.wrap (Z.wrap ((0 : Int) + (1 : Int)) + (1 : Int))).toNat then Z.wrap ((Z.wrap (d * g)).tdiv (m84 a b d)) else bif ((nat_lit 1 - (0 : Nat)) / Try.prog.types[(3 : Nat)].size).beq (Z.wrap ((0 : Int) + (1 : Int))).toNat then Z.wrap ((Z.wrap (b * g)).tdiv (m84 a b d)) else bif ((nat_lit 1 - (0 : Nat)) / Try.prog.types[(3 : Nat)].size).beq (Int.toNat (0 : Int)) then Z.wrap ((Z.wrap (a * g)).tdiv (m84 a b d)) else (0 : Int)) (bif ((nat_lit 2 - (0 : Nat)) / Try.prog.types[(3 : Nat)].size).beq (Z.wrap (Z.wrap ((0 : Int) + (1 : Int)) + (1 : Int))).toNat then Z.wrap ((Z.wrap (d * g)).tdiv (m84 a b d)) else bif ((nat_lit 2 - (0 : Nat)) / Try.prog.types[(3 : Nat)].size).beq (Z.wrap ((0 : Int) + (1 : Int))).toNat then Z.wrap ((Z.wrap (b * g)).tdiv (m84 a b d)) else bif ((nat_lit 2 - (0 : Nat)) / Try.prog.types[(3 : Nat)].size).beq (Int.toNat (0 : Int)) then Z.wrap ((Z.wrap (a * g)).tdiv (m84 a b d)) else (0 : Int)))
 let c0 := (bif (decide ((m84 a b d) = 0)) then false else true)
 (cnd (decide ((m84 a b d) = 0))
 (R (.agg [V Z 0, V Z 0, V Z 0]) [] [])
 (cnd c0
 (cnd c0
 (cnd c0
 (cnd c0
 (cnd c0
 (cnd c0
 (cnd (n122c123 (datS [V Z 0, V Z 1, V Z 2] 1) (datS [V Z ((Z.wrap (a * g)).tmod (m84 a b d)), V Z ((Z.wrap (b * g)).tmod (m84 a b d)), V Z ((Z.wrap (d * g)).tmod (m84 a b d))] 1))
 (cnd (decide ((0 : Int) ≤ (0 : Int) ∧ (0 : Int) ≤ Z.wrap b0 ∧ Z.wrap b0 ≤ (↑(3 : Nat) : Int)))
 (cnd (a0.isSome)
 (R (.agg [V Z (a0.getD default).1, V Z (a0.getD default).2.1, V Z (a0.getD default).2.2]) [] [])
      False)
     False)
     False)
    False)
    False)
   False)
   False)
  False)
  False))) (fun R => by kernel_rfl) (co (fun h0 => lf (cT h0 rfl) rfl) (fun h0 => cn (al (cf h0 hn)) (cn (al (ar (cf h0 hn))) (cn (al (ar (ar (cf h0 hn)))) (cn (al (ar (ar (ar (cf h0 hn))))) (cn (al (ar (ar (ar (ar (cf h0 hn)))))) (cn (al (ar (ar (ar (ar (ar (cf h0 hn))))))) (cn (al (ar (ar (ar (ar (ar (ar (cf h0 hn)))))))) (cn (al (ar (ar (ar (ar (ar (ar (ar (cf h0 hn))))))))) (cn (al (ar (ar (ar (ar (ar (ar (ar (ar (cf h0 hn)))))))))) (lf (cF h0 rfl) rfl)))))))))))⟩

/-! ### shotline/mix.compare -/
def m114 (b d a e : Int) : Int :=
 (cond (decide (a < 0)) 1 (m148 2 (datS [V Z (m149 (m147 (IntKind.u64.wrap b) (IntKind.u64.wrap e)).1 (m147 (IntKind.u64.wrap a) (IntKind.u64.wrap d)).1), V Z (m149 (m147 (IntKind.u64.wrap b) (IntKind.u64.wrap e)).2 (m147 (IntKind.u64.wrap a) (IntKind.u64.wrap d)).2)] 1)))
def n114 (b d a e : Int) : Bool :=
 (cond (decide (a < 0)) true ((n148 2 (datS [V Z (m149 (m147 (IntKind.u64.wrap b) (IntKind.u64.wrap e)).1 (m147 (IntKind.u64.wrap a) (IntKind.u64.wrap d)).1), V Z (m149 (m147 (IntKind.u64.wrap b) (IntKind.u64.wrap e)).2 (m147 (IntKind.u64.wrap a) (IntKind.u64.wrap d)).2)] 1)) && true))
def q114 (r : Int) : SV × List Blk × List Blk := (V Z r, [], [])
def g114 : GF := fun vs bs => match vs, bs with
 | [V Z b, V Z d, V Z a, V Z e], [] => some (rs 0 (q114 (m114 b d a e)) [n114 b d a e])
 | _, _ => none
def c114 : Ctr := genC [.k, .k, .k, .k] g114
theorem k114 : CtrOk Try.prog c114 114 := cx (tc k147 (tc k148 (tc k149 tn))) mix_ok 8 (fn := Try.f114) (c := (Try.f114.body.getD .skip)) (grs := []) (rh := .k) Try.func114 rfl (by kernel_rfl) noLam fun vs bs q h hn => by
 unfold g114 at h
 split at h <;> cases h
 rename_i b d a e
 have hn := n1 hn
 exact ⟨_, rfl, ca (fun R => 
 let a0 := (datS [V Z (m149 (m147 (IntKind.u64.wrap b) (IntKind.u64.wrap e)).1 (m147 (IntKind.u64.wrap a) (IntKind.u64.wrap d)).1), V Z (m149 (m147 (IntKind.u64.wrap b) (IntKind.u64.wrap e)).2 (m147 (IntKind.u64.wrap a) (IntKind.u64.wrap d)).2)] 1)
 (cnd (decide (a < 0))
 (R (V Z 1) [] [])
 (cnd (n148 2 a0)
 (R (V Z (m148 2 a0)) [] [])
  False))) (fun R => by kernel_rfl) (co (fun h0 => lf (cT h0 rfl) rfl) (fun h0 => cn (al (cf h0 hn)) (lf (cF h0 rfl) rfl)))⟩
/-! ### (*shotline/mix.store).enter -/
def t86_0 (b : Nat) (a : Dat) (d ma0_1 : Nat) (e : Dat) (m n o p s t y i l : Int) (j g : ByteArray) (w x u : Int) (z : Bool) : Int := m125 i l j g w x u z
def t86_1 (b : Nat) (a : Dat) (d ma0_1 : Nat) (e : Dat) (m n o p s t y i l : Int) (j g : ByteArray) (w x u : Int) (z : Bool) : Int := e.ii ((m105 b a j).toNat) 0
def t86_2 (b : Nat) (a : Dat) (d ma0_1 : Nat) (e : Dat) (m n o p s t y i l : Int) (j g : ByteArray) (w x u : Int) (z : Bool) : Int := e.ii ((m105 b a j).toNat) (0 + 1)
def t86_3 (b : Nat) (a : Dat) (d ma0_1 : Nat) (e : Dat) (m n o p s t y i l : Int) (j g : ByteArray) (w x u : Int) (z : Bool) : Int := e.ii ((m105 b a j).toNat) ((0 + 1) + 1)
def t86_4 (b : Nat) (a : Dat) (d ma0_1 : Nat) (e : Dat) (m n o p s t y i l : Int) (j g : ByteArray) (w x u : Int) (z : Bool) : Int := e.ii ((m105 b a g).toNat) 0
def t86_5 (b : Nat) (a : Dat) (d ma0_1 : Nat) (e : Dat) (m n o p s t y i l : Int) (j g : ByteArray) (w x u : Int) (z : Bool) : Int := e.ii ((m105 b a g).toNat) (0 + 1)
def t86_6 (b : Nat) (a : Dat) (d ma0_1 : Nat) (e : Dat) (m n o p s t y i l : Int) (j g : ByteArray) (w x u : Int) (z : Bool) : Int := e.ii ((m105 b a g).toNat) ((0 + 1) + 1)
def t86_7 (b : Nat) (a : Dat) (d ma0_1 : Nat) (e : Dat) (m n o p s t y i l : Int) (j g : ByteArray) (w x u : Int) (z : Bool) : Int := Z.wrap ((m84 (t86_4 b a d ma0_1 e m n o p s t y i l j g w x u z) (t86_5 b a d ma0_1 e m n o p s t y i l j g w x u z) (t86_6 b a d ma0_1 e m n o p s t y i l j g w x u z)) + u)
def t86_8 (b : Nat) (a : Dat) (d ma0_1 : Nat) (e : Dat) (m n o p s t y i l : Int) (j g : ByteArray) (w x u : Int) (z : Bool) : Dat := datC [SV.ro [Kd.str, Kd.int Z, Kd.int Z] b a, SV.ro [Kd.int Z, Kd.int Z, Kd.int Z] d e, V Z m, V Z n, V Z o, V Z p, V Z s, V Z t, V Z y]
def t86_9 (b : Nat) (a : Dat) (d ma0_1 : Nat) (e : Dat) (m n o p s t y i l : Int) (j g : ByteArray) (w x u : Int) (z : Bool) : Int := Z.wrap ((m84 (t86_1 b a d ma0_1 e m n o p s t y i l j g w x u z) (t86_2 b a d ma0_1 e m n o p s t y i l j g w x u z) (t86_3 b a d ma0_1 e m n o p s t y i l j g w x u z)) - u)
def t86_10 (b : Nat) (a : Dat) (d ma0_1 : Nat) (e : Dat) (m n o p s t y i l : Int) (j g : ByteArray) (w x u : Int) (z : Bool) : Int := (m85 (t86_1 b a d ma0_1 e m n o p s t y i l j g w x u z) (t86_2 b a d ma0_1 e m n o p s t y i l j g w x u z) (t86_3 b a d ma0_1 e m n o p s t y i l j g w x u z) u).1
def t86_11 (b : Nat) (a : Dat) (d ma0_1 : Nat) (e : Dat) (m n o p s t y i l : Int) (j g : ByteArray) (w x u : Int) (z : Bool) : Int := (m85 (t86_1 b a d ma0_1 e m n o p s t y i l j g w x u z) (t86_2 b a d ma0_1 e m n o p s t y i l j g w x u z) (t86_3 b a d ma0_1 e m n o p s t y i l j g w x u z) u).2.1
def t86_12 (b : Nat) (a : Dat) (d ma0_1 : Nat) (e : Dat) (m n o p s t y i l : Int) (j g : ByteArray) (w x u : Int) (z : Bool) : Int := (m85 (t86_1 b a d ma0_1 e m n o p s t y i l j g w x u z) (t86_2 b a d ma0_1 e m n o p s t y i l j g w x u z) (t86_3 b a d ma0_1 e m n o p s t y i l j g w x u z) u).2.2
def t86_13 (b : Nat) (a : Dat) (d ma0_1 : Nat) (e : Dat) (m n o p s t y i l : Int) (j g : ByteArray) (w x u : Int) (z : Bool) : Int := (m131 m n o (t86_10 b a d ma0_1 e m n o p s t y i l j g w x u z) (t86_11 b a d ma0_1 e m n o p s t y i l j g w x u z) (t86_12 b a d ma0_1 e m n o p s t y i l j g w x u z)).1
def t86_14 (b : Nat) (a : Dat) (d ma0_1 : Nat) (e : Dat) (m n o p s t y i l : Int) (j g : ByteArray) (w x u : Int) (z : Bool) : Int := (m131 m n o (t86_10 b a d ma0_1 e m n o p s t y i l j g w x u z) (t86_11 b a d ma0_1 e m n o p s t y i l j g w x u z) (t86_12 b a d ma0_1 e m n o p s t y i l j g w x u z)).2.1
def t86_15 (b : Nat) (a : Dat) (d ma0_1 : Nat) (e : Dat) (m n o p s t y i l : Int) (j g : ByteArray) (w x u : Int) (z : Bool) : Int := (m131 m n o (t86_10 b a d ma0_1 e m n o p s t y i l j g w x u z) (t86_11 b a d ma0_1 e m n o p s t y i l j g w x u z) (t86_12 b a d ma0_1 e m n o p s t y i l j g w x u z)).2.2
def t86_16 (b : Nat) (a : Dat) (d ma0_1 : Nat) (e : Dat) (m n o p s t y i l : Int) (j g : ByteArray) (w x u : Int) (z : Bool) : Dat := e.upd ((m105 b a j).toNat) 0 [V Z (m130 (t86_1 b a d ma0_1 e m n o p s t y i l j g w x u z) (t86_2 b a d ma0_1 e m n o p s t y i l j g w x u z) (t86_3 b a d ma0_1 e m n o p s t y i l j g w x u z) (t86_10 b a d ma0_1 e m n o p s t y i l j g w x u z) (t86_11 b a d ma0_1 e m n o p s t y i l j g w x u z) (t86_12 b a d ma0_1 e m n o p s t y i l j g w x u z)).1, V Z (m130 (t86_1 b a d ma0_1 e m n o p s t y i l j g w x u z) (t86_2 b a d ma0_1 e m n o p s t y i l j g w x u z) (t86_3 b a d ma0_1 e m n o p s t y i l j g w x u z) (t86_10 b a d ma0_1 e m n o p s t y i l j g w x u z) (t86_11 b a d ma0_1 e m n o p s t y i l j g w x u z) (t86_12 b a d ma0_1 e m n o p s t y i l j g w x u z)).2.1, V Z (m130 (t86_1 b a d ma0_1 e m n o p s t y i l j g w x u z) (t86_2 b a d ma0_1 e m n o p s t y i l j g w x u z) (t86_3 b a d ma0_1 e m n o p s t y i l j g w x u z) (t86_10 b a d ma0_1 e m n o p s t y i l j g w x u z) (t86_11 b a d ma0_1 e m n o p s t y i l j g w x u z) (t86_12 b a d ma0_1 e m n o p s t y i l j g w x u z)).2.2]
def t86_17 (b : Nat) (a : Dat) (d ma0_1 : Nat) (e : Dat) (m n o p s t y i l : Int) (j g : ByteArray) (w x u : Int) (z : Bool) : Int := (t86_16 b a d ma0_1 e m n o p s t y i l j g w x u z).ii ((m105 b a g).toNat) 0
def t86_18 (b : Nat) (a : Dat) (d ma0_1 : Nat) (e : Dat) (m n o p s t y i l : Int) (j g : ByteArray) (w x u : Int) (z : Bool) : Int := (t86_16 b a d ma0_1 e m n o p s t y i l j g w x u z).ii ((m105 b a g).toNat) (0 + 1)
def t86_19 (b : Nat) (a : Dat) (d ma0_1 : Nat) (e : Dat) (m n o p s t y i l : Int) (j g : ByteArray) (w x u : Int) (z : Bool) : Int := (t86_16 b a d ma0_1 e m n o p s t y i l j g w x u z).ii ((m105 b a g).toNat) ((0 + 1) + 1)
def t86_20 (b : Nat) (a : Dat) (d ma0_1 : Nat) (e : Dat) (m n o p s t y i l : Int) (j g : ByteArray) (w x u : Int) (z : Bool) : Dat := (t86_16 b a d ma0_1 e m n o p s t y i l j g w x u z).upd ((m105 b a g).toNat) 0 [V Z (m131 (t86_17 b a d ma0_1 e m n o p s t y i l j g w x u z) (t86_18 b a d ma0_1 e m n o p s t y i l j g w x u z) (t86_19 b a d ma0_1 e m n o p s t y i l j g w x u z) (t86_10 b a d ma0_1 e m n o p s t y i l j g w x u z) (t86_11 b a d ma0_1 e m n o p s t y i l j g w x u z) (t86_12 b a d ma0_1 e m n o p s t y i l j g w x u z)).1, V Z (m131 (t86_17 b a d ma0_1 e m n o p s t y i l j g w x u z) (t86_18 b a d ma0_1 e m n o p s t y i l j g w x u z) (t86_19 b a d ma0_1 e m n o p s t y i l j g w x u z) (t86_10 b a d ma0_1 e m n o p s t y i l j g w x u z) (t86_11 b a d ma0_1 e m n o p s t y i l j g w x u z) (t86_12 b a d ma0_1 e m n o p s t y i l j g w x u z)).2.1, V Z (m131 (t86_17 b a d ma0_1 e m n o p s t y i l j g w x u z) (t86_18 b a d ma0_1 e m n o p s t y i l j g w x u z) (t86_19 b a d ma0_1 e m n o p s t y i l j g w x u z) (t86_10 b a d ma0_1 e m n o p s t y i l j g w x u z) (t86_11 b a d ma0_1 e m n o p s t y i l j g w x u z) (t86_12 b a d ma0_1 e m n o p s t y i l j g w x u z)).2.2]
def t86_21 (b : Nat) (a : Dat) (d ma0_1 : Nat) (e : Dat) (m n o p s t y i l : Int) (j g : ByteArray) (w x u : Int) (z : Bool) : Int := (m131 p s t (t86_10 b a d ma0_1 e m n o p s t y i l j g w x u z) (t86_11 b a d ma0_1 e m n o p s t y i l j g w x u z) (t86_12 b a d ma0_1 e m n o p s t y i l j g w x u z)).1
def t86_22 (b : Nat) (a : Dat) (d ma0_1 : Nat) (e : Dat) (m n o p s t y i l : Int) (j g : ByteArray) (w x u : Int) (z : Bool) : Int := (m131 p s t (t86_10 b a d ma0_1 e m n o p s t y i l j g w x u z) (t86_11 b a d ma0_1 e m n o p s t y i l j g w x u z) (t86_12 b a d ma0_1 e m n o p s t y i l j g w x u z)).2.1
def t86_23 (b : Nat) (a : Dat) (d ma0_1 : Nat) (e : Dat) (m n o p s t y i l : Int) (j g : ByteArray) (w x u : Int) (z : Bool) : Int := (m131 p s t (t86_10 b a d ma0_1 e m n o p s t y i l j g w x u z) (t86_11 b a d ma0_1 e m n o p s t y i l j g w x u z) (t86_12 b a d ma0_1 e m n o p s t y i l j g w x u z)).2.2
def t86_24 (b : Nat) (a : Dat) (d ma0_1 : Nat) (e : Dat) (m n o p s t y i l : Int) (j g : ByteArray) (w x u : Int) (z : Bool) : Int := (m131 m n o (m129 w x u).1 (m129 w x u).2.1 (m129 w x u).2.2).1
def t86_25 (b : Nat) (a : Dat) (d ma0_1 : Nat) (e : Dat) (m n o p s t y i l : Int) (j g : ByteArray) (w x u : Int) (z : Bool) : Int := (m131 m n o (m129 w x u).1 (m129 w x u).2.1 (m129 w x u).2.2).2.1
def t86_26 (b : Nat) (a : Dat) (d ma0_1 : Nat) (e : Dat) (m n o p s t y i l : Int) (j g : ByteArray) (w x u : Int) (z : Bool) : Int := (m131 m n o (m129 w x u).1 (m129 w x u).2.1 (m129 w x u).2.2).2.2
def t86_27 (b : Nat) (a : Dat) (d ma0_1 : Nat) (e : Dat) (m n o p s t y i l : Int) (j g : ByteArray) (w x u : Int) (z : Bool) : Dat := e.upd ((m105 b a g).toNat) 0 [V Z (m131 (t86_4 b a d ma0_1 e m n o p s t y i l j g w x u z) (t86_5 b a d ma0_1 e m n o p s t y i l j g w x u z) (t86_6 b a d ma0_1 e m n o p s t y i l j g w x u z) (m129 w x u).1 (m129 w x u).2.1 (m129 w x u).2.2).1, V Z (m131 (t86_4 b a d ma0_1 e m n o p s t y i l j g w x u z) (t86_5 b a d ma0_1 e m n o p s t y i l j g w x u z) (t86_6 b a d ma0_1 e m n o p s t y i l j g w x u z) (m129 w x u).1 (m129 w x u).2.1 (m129 w x u).2.2).2.1, V Z (m131 (t86_4 b a d ma0_1 e m n o p s t y i l j g w x u z) (t86_5 b a d ma0_1 e m n o p s t y i l j g w x u z) (t86_6 b a d ma0_1 e m n o p s t y i l j g w x u z) (m129 w x u).1 (m129 w x u).2.1 (m129 w x u).2.2).2.2]
def t86_28 (b : Nat) (a : Dat) (d ma0_1 : Nat) (e : Dat) (m n o p s t y i l : Int) (j g : ByteArray) (w x u : Int) (z : Bool) : Int := (m131 p s t (m129 w x u).1 (m129 w x u).2.1 (m129 w x u).2.2).1
def t86_29 (b : Nat) (a : Dat) (d ma0_1 : Nat) (e : Dat) (m n o p s t y i l : Int) (j g : ByteArray) (w x u : Int) (z : Bool) : Int := (m131 p s t (m129 w x u).1 (m129 w x u).2.1 (m129 w x u).2.2).2.1
def t86_30 (b : Nat) (a : Dat) (d ma0_1 : Nat) (e : Dat) (m n o p s t y i l : Int) (j g : ByteArray) (w x u : Int) (z : Bool) : Int := (m131 p s t (m129 w x u).1 (m129 w x u).2.1 (m129 w x u).2.2).2.2
def U86 (b : Nat) (a : Dat) (d ma0_1 : Nat) (e : Dat) (m n o p s t y i l : Int) (j g : ByteArray) (w x u : Int) (z : Bool) (z0 z1 z2 z3 z7 : Int) (z8 : Dat) (z9 z13 z14 z15 : Int) (z16 z20 : Dat) (z21 z22 z23 z24 z25 z26 : Int) (z27 : Dat) (z28 z29 z30 : Int) (R : SV → List Blk → List Blk → Prop) : Prop :=
 (cnd (n125 i l j g w x u z)
 (cnd (bif (decide (z0 = 0)) then false else true)
 (R (V Z z0) [.cells 155 [.ro [.str, W Z, W Z] b a, .own 1 3 d, V Z m, V Z n, V Z o, V Z p, V Z s, V Z t, V Z y], .row 153 [W Z, W Z, W Z] ma0_1 e] [])
 (cnd (n105 b a j)
 (cnd (n105 b a g)
 (cnd (bif (bif (m126 i) then (decide ((m105 b a j) < 0)) else false) then true else (bif (m127 i) then (decide ((m105 b a g) < 0)) else false))
 (R (V Z 6) [.cells 155 [.ro [.str, W Z, W Z] b a, .own 1 3 d, V Z m, V Z n, V Z o, V Z p, V Z s, V Z t, V Z y], .row 153 [W Z, W Z, W Z] ma0_1 e] [])
 (cnd (decide (l < y))
 (R (V Z 9) [.cells 155 [.ro [.str, W Z, W Z] b a, .own 1 3 d, V Z m, V Z n, V Z o, V Z p, V Z s, V Z t, V Z y], .row 153 [W Z, W Z, W Z] ma0_1 e] [])
 (cnd (bif (bif (m126 i) then false else true) then true else (decide (0 ≤ m105 b a j ∧ m105 b a j < (↑d : Int))))
 (cnd (bif (bif (m126 i) then false else true) then true else (decide (((m105 b a j).toNat) < ma0_1)))
 (cnd (bif (m126 i) then (decide ((m84 z1 z2 z3) < u)) else false)
 (R (V Z 20) [.cells 155 [.ro [.str, W Z, W Z] b a, .own 1 3 d, V Z m, V Z n, V Z o, V Z p, V Z s, V Z t, V Z y], .row 153 [W Z, W Z, W Z] ma0_1 e] [])
 (cnd (m127 i)
 (cnd (decide (0 ≤ m105 b a g ∧ m105 b a g < (↑d : Int)))
 (cnd (decide (((m105 b a g).toNat) < ma0_1))
 (cnd (decide (0 ≤ m105 b a g ∧ m105 b a g < (↑b : Int)))
 (cnd (decide ((Z.wrap ((a.ii ((m105 b a g).toNat) ((0 + 1) + 1)) * (a.ii ((m105 b a g).toNat) (0 + 1)))) < (Z.wrap (1000 * z7))))
 (R (V Z 16) [.cells 155 [.ro [.str, W Z, W Z] b a, .own 1 3 d, V Z m, V Z n, V Z o, V Z p, V Z s, V Z t, V Z y], .row 153 [W Z, W Z, W Z] ma0_1 e] [])
 (cnd (bif (bif (bif (decide (i = 1)) then (bif z then false else true) else false) then false else true) then true else (decide (0 ≤ m105 b a j ∧ m105 b a j < (↑d : Int))))
 (cnd (bif (bif (bif (decide (i = 1)) then (bif z then false else true) else false) then false else true) then true else (decide (((m105 b a j).toNat) < ma0_1)))
 (cnd (bif (bif (bif (decide (i = 1)) then (bif z then false else true) else false) then false else true) then true else (decide ((0 + d) ≤ ma0_1)))
 (cnd (bif (bif (bif (decide (i = 1)) then (bif z then false else true) else false) then false else true) then true else (n128 z8 (m105 b a g) z7 (m105 b a j) z9))
 (cnd (bif (bif (decide (i = 1)) then (bif z then false else true) else false) then (m128 z8 (m105 b a g) z7 (m105 b a j) z9) else false)
 (R (V Z 24) [.cells 155 [.ro [.str, W Z, W Z] b a, .own 1 3 d, V Z m, V Z n, V Z o, V Z p, V Z s, V Z t, V Z y], .row 153 [W Z, W Z, W Z] ma0_1 e] [])
 (cnd (m126 i)
 (cnd (decide (0 ≤ m105 b a j ∧ m105 b a j < (↑d : Int)))
 (cnd (decide (((m105 b a j).toNat) < ma0_1))
 (cnd (n85 z1 z2 z3 u)
 (cnd (decide (0 ≤ m105 b a j ∧ m105 b a j < (↑d : Int)))
 (cnd (decide (((m105 b a j).toNat) < ma0_1))
 (cnd (decide (0 ≤ m105 b a j ∧ m105 b a j < (↑d : Int)))
 (cnd (decide (((m105 b a j).toNat) < ma0_1))
 (cnd (m127 i)
 (cnd (decide (0 ≤ m105 b a g ∧ m105 b a g < (↑d : Int)))
 (cnd (decide (((m105 b a g).toNat) < ma0_1))
 (cnd (decide (0 ≤ m105 b a g ∧ m105 b a g < (↑d : Int)))
 (cnd (decide (((m105 b a g).toNat) < ma0_1))
 (cnd (decide (i = 0))
 (R (V Z 0) [.cells 155 [.ro [.str, W Z, W Z] b a, .own 1 3 d, V Z z13, V Z z14, V Z z15, V Z p, V Z s, V Z t, V Z l], .row 153 [W Z, W Z, W Z] ma0_1 z20] [])
 (cnd (decide (i = 2))
 (R (V Z 0) [.cells 155 [.ro [.str, W Z, W Z] b a, .own 1 3 d, V Z m, V Z n, V Z o, V Z z21, V Z z22, V Z z23, V Z l], .row 153 [W Z, W Z, W Z] ma0_1 z20] [])
 (R (V Z 0) [.cells 155 [.ro [.str, W Z, W Z] b a, .own 1 3 d, V Z m, V Z n, V Z o, V Z p, V Z s, V Z t, V Z l], .row 153 [W Z, W Z, W Z] ma0_1 z20] [])))
                 False)
                False)
                False)
               False)
 (cnd (decide (i = 0))
 (R (V Z 0) [.cells 155 [.ro [.str, W Z, W Z] b a, .own 1 3 d, V Z z13, V Z z14, V Z z15, V Z p, V Z s, V Z t, V Z l], .row 153 [W Z, W Z, W Z] ma0_1 z16] [])
 (cnd (decide (i = 2))
 (R (V Z 0) [.cells 155 [.ro [.str, W Z, W Z] b a, .own 1 3 d, V Z m, V Z n, V Z o, V Z z21, V Z z22, V Z z23, V Z l], .row 153 [W Z, W Z, W Z] ma0_1 z16] [])
 (R (V Z 0) [.cells 155 [.ro [.str, W Z, W Z] b a, .own 1 3 d, V Z m, V Z n, V Z o, V Z p, V Z s, V Z t, V Z l], .row 153 [W Z, W Z, W Z] ma0_1 z16] []))))
              False)
              False)
             False)
             False)
            False)
            False)
           False)
 (cnd (m127 i)
 (cnd (decide (0 ≤ m105 b a g ∧ m105 b a g < (↑d : Int)))
 (cnd (decide (((m105 b a g).toNat) < ma0_1))
 (cnd (decide (0 ≤ m105 b a g ∧ m105 b a g < (↑d : Int)))
 (cnd (decide (((m105 b a g).toNat) < ma0_1))
 (cnd (decide (i = 0))
 (R (V Z 0) [.cells 155 [.ro [.str, W Z, W Z] b a, .own 1 3 d, V Z z24, V Z z25, V Z z26, V Z p, V Z s, V Z t, V Z l], .row 153 [W Z, W Z, W Z] ma0_1 z27] [])
 (cnd (decide (i = 2))
 (R (V Z 0) [.cells 155 [.ro [.str, W Z, W Z] b a, .own 1 3 d, V Z m, V Z n, V Z o, V Z z28, V Z z29, V Z z30, V Z l], .row 153 [W Z, W Z, W Z] ma0_1 z27] [])
 (R (V Z 0) [.cells 155 [.ro [.str, W Z, W Z] b a, .own 1 3 d, V Z m, V Z n, V Z o, V Z p, V Z s, V Z t, V Z l], .row 153 [W Z, W Z, W Z] ma0_1 z27] [])))
             False)
             False)
            False)
            False)
 (cnd (decide (i = 0))
 (R (V Z 0) [.cells 155 [.ro [.str, W Z, W Z] b a, .own 1 3 d, V Z z24, V Z z25, V Z z26, V Z p, V Z s, V Z t, V Z l], .row 153 [W Z, W Z, W Z] ma0_1 e] [])
 (cnd (decide (i = 2))
 (R (V Z 0) [.cells 155 [.ro [.str, W Z, W Z] b a, .own 1 3 d, V Z m, V Z n, V Z o, V Z z28, V Z z29, V Z z30, V Z l], .row 153 [W Z, W Z, W Z] ma0_1 e] [])
 (R (V Z 0) [.cells 155 [.ro [.str, W Z, W Z] b a, .own 1 3 d, V Z m, V Z n, V Z o, V Z p, V Z s, V Z t, V Z l], .row 153 [W Z, W Z, W Z] ma0_1 e] []))))))
          False)
         False)
         False)
        False))
       False)
       False)
      False)
 (cnd (m126 i)
 (cnd (decide (0 ≤ m105 b a j ∧ m105 b a j < (↑d : Int)))
 (cnd (decide (((m105 b a j).toNat) < ma0_1))
 (cnd (n85 z1 z2 z3 u)
 (cnd (decide (0 ≤ m105 b a j ∧ m105 b a j < (↑d : Int)))
 (cnd (decide (((m105 b a j).toNat) < ma0_1))
 (cnd (decide (0 ≤ m105 b a j ∧ m105 b a j < (↑d : Int)))
 (cnd (decide (((m105 b a j).toNat) < ma0_1))
 (cnd (m127 i)
 (cnd (decide (0 ≤ m105 b a g ∧ m105 b a g < (↑d : Int)))
 (cnd (decide (((m105 b a g).toNat) < ma0_1))
 (cnd (decide (0 ≤ m105 b a g ∧ m105 b a g < (↑d : Int)))
 (cnd (decide (((m105 b a g).toNat) < ma0_1))
 (cnd (decide (i = 0))
 (R (V Z 0) [.cells 155 [.ro [.str, W Z, W Z] b a, .own 1 3 d, V Z z13, V Z z14, V Z z15, V Z p, V Z s, V Z t, V Z l], .row 153 [W Z, W Z, W Z] ma0_1 z20] [])
 (cnd (decide (i = 2))
 (R (V Z 0) [.cells 155 [.ro [.str, W Z, W Z] b a, .own 1 3 d, V Z m, V Z n, V Z o, V Z z21, V Z z22, V Z z23, V Z l], .row 153 [W Z, W Z, W Z] ma0_1 z20] [])
 (R (V Z 0) [.cells 155 [.ro [.str, W Z, W Z] b a, .own 1 3 d, V Z m, V Z n, V Z o, V Z p, V Z s, V Z t, V Z l], .row 153 [W Z, W Z, W Z] ma0_1 z20] [])))
            False)
            False)
           False)
           False)
 (cnd (decide (i = 0))
 (R (V Z 0) [.cells 155 [.ro [.str, W Z, W Z] b a, .own 1 3 d, V Z z13, V Z z14, V Z z15, V Z p, V Z s, V Z t, V Z l], .row 153 [W Z, W Z, W Z] ma0_1 z16] [])
 (cnd (decide (i = 2))
 (R (V Z 0) [.cells 155 [.ro [.str, W Z, W Z] b a, .own 1 3 d, V Z m, V Z n, V Z o, V Z z21, V Z z22, V Z z23, V Z l], .row 153 [W Z, W Z, W Z] ma0_1 z16] [])
 (R (V Z 0) [.cells 155 [.ro [.str, W Z, W Z] b a, .own 1 3 d, V Z m, V Z n, V Z o, V Z p, V Z s, V Z t, V Z l], .row 153 [W Z, W Z, W Z] ma0_1 z16] []))))
          False)
         False)
         False)
        False)
        False)
       False)
       False)
 (cnd (m127 i)
 (cnd (decide (0 ≤ m105 b a g ∧ m105 b a g < (↑d : Int)))
 (cnd (decide (((m105 b a g).toNat) < ma0_1))
 (cnd (decide (0 ≤ m105 b a g ∧ m105 b a g < (↑d : Int)))
 (cnd (decide (((m105 b a g).toNat) < ma0_1))
 (cnd (decide (i = 0))
 (R (V Z 0) [.cells 155 [.ro [.str, W Z, W Z] b a, .own 1 3 d, V Z z24, V Z z25, V Z z26, V Z p, V Z s, V Z t, V Z l], .row 153 [W Z, W Z, W Z] ma0_1 z27] [])
 (cnd (decide (i = 2))
 (R (V Z 0) [.cells 155 [.ro [.str, W Z, W Z] b a, .own 1 3 d, V Z m, V Z n, V Z o, V Z z28, V Z z29, V Z z30, V Z l], .row 153 [W Z, W Z, W Z] ma0_1 z27] [])
 (R (V Z 0) [.cells 155 [.ro [.str, W Z, W Z] b a, .own 1 3 d, V Z m, V Z n, V Z o, V Z p, V Z s, V Z t, V Z l], .row 153 [W Z, W Z, W Z] ma0_1 z27] [])))
         False)
        False)
        False)
       False)
 (cnd (decide (i = 0))
 (R (V Z 0) [.cells 155 [.ro [.str, W Z, W Z] b a, .own 1 3 d, V Z z24, V Z z25, V Z z26, V Z p, V Z s, V Z t, V Z l], .row 153 [W Z, W Z, W Z] ma0_1 e] [])
 (cnd (decide (i = 2))
 (R (V Z 0) [.cells 155 [.ro [.str, W Z, W Z] b a, .own 1 3 d, V Z m, V Z n, V Z o, V Z z28, V Z z29, V Z z30, V Z l], .row 153 [W Z, W Z, W Z] ma0_1 e] [])
 (R (V Z 0) [.cells 155 [.ro [.str, W Z, W Z] b a, .own 1 3 d, V Z m, V Z n, V Z o, V Z p, V Z s, V Z t, V Z l], .row 153 [W Z, W Z, W Z] ma0_1 e] [])))))))
     False)
    False)))
   False)
  False))
 False)
def w86 (b : Nat) (a : Dat) (d ma0_1 : Nat) (e : Dat) (m n o p s t y i l : Int) (j g : ByteArray) (w x u : Int) (z : Bool) (z0 z1 z2 z3 z7 : Int) (z8 : Dat) (z9 z13 z14 z15 : Int) (z16 z20 : Dat) (z21 z22 z23 z24 z25 z26 : Int) (z27 : Dat) (z28 z29 z30 : Int) : Int × Nat × Dat × Nat × Int × Int × Int × Int × Int × Int × Int × Nat × Dat :=
 (cond (bif (decide (z0 = 0)) then false else true) (z0, b, a, d, m, n, o, p, s, t, y, ma0_1, e) (cond (bif (bif (m126 i) then (decide ((m105 b a j) < 0)) else false) then true else (bif (m127 i) then (decide ((m105 b a g) < 0)) else false)) (6, b, a, d, m, n, o, p, s, t, y, ma0_1, e) (cond (decide (l < y)) (9, b, a, d, m, n, o, p, s, t, y, ma0_1, e) (cond (bif (m126 i) then (decide ((m84 z1 z2 z3) < u)) else false) (20, b, a, d, m, n, o, p, s, t, y, ma0_1, e) (cond (m127 i) (cond (decide ((Z.wrap ((a.ii ((m105 b a g).toNat) ((0 + 1) + 1)) * (a.ii ((m105 b a g).toNat) (0 + 1)))) < (Z.wrap (1000 * z7)))) (16, b, a, d, m, n, o, p, s, t, y, ma0_1, e) (cond (bif (bif (decide (i = 1)) then (bif z then false else true) else false) then (m128 z8 (m105 b a g) z7 (m105 b a j) z9) else false) (24, b, a, d, m, n, o, p, s, t, y, ma0_1, e) (cond (m126 i) (cond (m127 i) (cond (decide (i = 0)) (0, b, a, d, z13, z14, z15, p, s, t, l, ma0_1, z20) (cond (decide (i = 2)) (0, b, a, d, m, n, o, z21, z22, z23, l, ma0_1, z20) (0, b, a, d, m, n, o, p, s, t, l, ma0_1, z20))) (cond (decide (i = 0)) (0, b, a, d, z13, z14, z15, p, s, t, l, ma0_1, z16) (cond (decide (i = 2)) (0, b, a, d, m, n, o, z21, z22, z23, l, ma0_1, z16) (0, b, a, d, m, n, o, p, s, t, l, ma0_1, z16)))) (cond (m127 i) (cond (decide (i = 0)) (0, b, a, d, z24, z25, z26, p, s, t, l, ma0_1, z27) (cond (decide (i = 2)) (0, b, a, d, m, n, o, z28, z29, z30, l, ma0_1, z27) (0, b, a, d, m, n, o, p, s, t, l, ma0_1, z27))) (cond (decide (i = 0)) (0, b, a, d, z24, z25, z26, p, s, t, l, ma0_1, e) (cond (decide (i = 2)) (0, b, a, d, m, n, o, z28, z29, z30, l, ma0_1, e) (0, b, a, d, m, n, o, p, s, t, l, ma0_1, e))))))) (cond (m126 i) (cond (m127 i) (cond (decide (i = 0)) (0, b, a, d, z13, z14, z15, p, s, t, l, ma0_1, z20) (cond (decide (i = 2)) (0, b, a, d, m, n, o, z21, z22, z23, l, ma0_1, z20) (0, b, a, d, m, n, o, p, s, t, l, ma0_1, z20))) (cond (decide (i = 0)) (0, b, a, d, z13, z14, z15, p, s, t, l, ma0_1, z16) (cond (decide (i = 2)) (0, b, a, d, m, n, o, z21, z22, z23, l, ma0_1, z16) (0, b, a, d, m, n, o, p, s, t, l, ma0_1, z16)))) (cond (m127 i) (cond (decide (i = 0)) (0, b, a, d, z24, z25, z26, p, s, t, l, ma0_1, z27) (cond (decide (i = 2)) (0, b, a, d, m, n, o, z28, z29, z30, l, ma0_1, z27) (0, b, a, d, m, n, o, p, s, t, l, ma0_1, z27))) (cond (decide (i = 0)) (0, b, a, d, z24, z25, z26, p, s, t, l, ma0_1, e) (cond (decide (i = 2)) (0, b, a, d, m, n, o, z28, z29, z30, l, ma0_1, e) (0, b, a, d, m, n, o, p, s, t, l, ma0_1, e))))))))))
def v86 (b : Nat) (a : Dat) (d ma0_1 : Nat) (e : Dat) (m n o p s t y i l : Int) (j g : ByteArray) (w x u : Int) (z : Bool) (z0 z1 z2 z3 z7 : Int) (z8 : Dat) (z9 z13 z14 z15 : Int) (z16 z20 : Dat) (z21 z22 z23 z24 z25 z26 : Int) (z27 : Dat) (z28 z29 z30 : Int) : Bool :=
 ((n125 i l j g w x u z) && (cond (bif (decide (z0 = 0)) then false else true) true ((n105 b a j) && ((n105 b a g) && (cond (bif (bif (m126 i) then (decide ((m105 b a j) < 0)) else false) then true else (bif (m127 i) then (decide ((m105 b a g) < 0)) else false)) true (cond (decide (l < y)) true ((bif (bif (m126 i) then false else true) then true else (decide (0 ≤ m105 b a j ∧ m105 b a j < (↑d : Int)))) && ((bif (bif (m126 i) then false else true) then true else (decide (((m105 b a j).toNat) < ma0_1))) && (cond (bif (m126 i) then (decide ((m84 z1 z2 z3) < u)) else false) true (cond (m127 i) ((decide (0 ≤ m105 b a g ∧ m105 b a g < (↑d : Int))) && ((decide (((m105 b a g).toNat) < ma0_1)) && ((decide (0 ≤ m105 b a g ∧ m105 b a g < (↑b : Int))) && (cond (decide ((Z.wrap ((a.ii ((m105 b a g).toNat) ((0 + 1) + 1)) * (a.ii ((m105 b a g).toNat) (0 + 1)))) < (Z.wrap (1000 * z7)))) true ((bif (bif (bif (decide (i = 1)) then (bif z then false else true) else false) then false else true) then true else (decide (0 ≤ m105 b a j ∧ m105 b a j < (↑d : Int)))) && ((bif (bif (bif (decide (i = 1)) then (bif z then false else true) else false) then false else true) then true else (decide (((m105 b a j).toNat) < ma0_1))) && ((bif (bif (bif (decide (i = 1)) then (bif z then false else true) else false) then false else true) then true else (decide ((0 + d) ≤ ma0_1))) && ((bif (bif (bif (decide (i = 1)) then (bif z then false else true) else false) then false else true) then true else (n128 z8 (m105 b a g) z7 (m105 b a j) z9)) && (cond (bif (bif (decide (i = 1)) then (bif z then false else true) else false) then (m128 z8 (m105 b a g) z7 (m105 b a j) z9) else false) true (cond (m126 i) ((decide (0 ≤ m105 b a j ∧ m105 b a j < (↑d : Int))) && ((decide (((m105 b a j).toNat) < ma0_1)) && ((n85 z1 z2 z3 u) && ((decide (0 ≤ m105 b a j ∧ m105 b a j < (↑d : Int))) && ((decide (((m105 b a j).toNat) < ma0_1)) && ((decide (0 ≤ m105 b a j ∧ m105 b a j < (↑d : Int))) && ((decide (((m105 b a j).toNat) < ma0_1)) && (cond (m127 i) ((decide (0 ≤ m105 b a g ∧ m105 b a g < (↑d : Int))) && ((decide (((m105 b a g).toNat) < ma0_1)) && ((decide (0 ≤ m105 b a g ∧ m105 b a g < (↑d : Int))) && ((decide (((m105 b a g).toNat) < ma0_1)) && true)))) true)))))))) (cond (m127 i) ((decide (0 ≤ m105 b a g ∧ m105 b a g < (↑d : Int))) && ((decide (((m105 b a g).toNat) < ma0_1)) && ((decide (0 ≤ m105 b a g ∧ m105 b a g < (↑d : Int))) && ((decide (((m105 b a g).toNat) < ma0_1)) && true)))) true))))))))))) (cond (m126 i) ((decide (0 ≤ m105 b a j ∧ m105 b a j < (↑d : Int))) && ((decide (((m105 b a j).toNat) < ma0_1)) && ((n85 z1 z2 z3 u) && ((decide (0 ≤ m105 b a j ∧ m105 b a j < (↑d : Int))) && ((decide (((m105 b a j).toNat) < ma0_1)) && ((decide (0 ≤ m105 b a j ∧ m105 b a j < (↑d : Int))) && ((decide (((m105 b a j).toNat) < ma0_1)) && (cond (m127 i) ((decide (0 ≤ m105 b a g ∧ m105 b a g < (↑d : Int))) && ((decide (((m105 b a g).toNat) < ma0_1)) && ((decide (0 ≤ m105 b a g ∧ m105 b a g < (↑d : Int))) && ((decide (((m105 b a g).toNat) < ma0_1)) && true)))) true)))))))) (cond (m127 i) ((decide (0 ≤ m105 b a g ∧ m105 b a g < (↑d : Int))) && ((decide (((m105 b a g).toNat) < ma0_1)) && ((decide (0 ≤ m105 b a g ∧ m105 b a g < (↑d : Int))) && ((decide (((m105 b a g).toNat) < ma0_1)) && true)))) true))))))))))))
def m86 (b : Nat) (a : Dat) (d ma0_1 : Nat) (e : Dat) (m n o p s t y i l : Int) (j g : ByteArray) (w x u : Int) (z : Bool) : Int × Nat × Dat × Nat × Int × Int × Int × Int × Int × Int × Int × Nat × Dat := w86 b a d ma0_1 e m n o p s t y i l j g w x u z (t86_0 b a d ma0_1 e m n o p s t y i l j g w x u z) (t86_1 b a d ma0_1 e m n o p s t y i l j g w x u z) (t86_2 b a d ma0_1 e m n o p s t y i l j g w x u z) (t86_3 b a d ma0_1 e m n o p s t y i l j g w x u z) (t86_7 b a d ma0_1 e m n o p s t y i l j g w x u z) (t86_8 b a d ma0_1 e m n o p s t y i l j g w x u z) (t86_9 b a d ma0_1 e m n o p s t y i l j g w x u z) (t86_13 b a d ma0_1 e m n o p s t y i l j g w x u z) (t86_14 b a d ma0_1 e m n o p s t y i l j g w x u z) (t86_15 b a d ma0_1 e m n o p s t y i l j g w x u z) (t86_16 b a d ma0_1 e m n o p s t y i l j g w x u z) (t86_20 b a d ma0_1 e m n o p s t y i l j g w x u z) (t86_21 b a d ma0_1 e m n o p s t y i l j g w x u z) (t86_22 b a d ma0_1 e m n o p s t y i l j g w x u z) (t86_23 b a d ma0_1 e m n o p s t y i l j g w x u z) (t86_24 b a d ma0_1 e m n o p s t y i l j g w x u z) (t86_25 b a d ma0_1 e m n o p s t y i l j g w x u z) (t86_26 b a d ma0_1 e m n o p s t y i l j g w x u z) (t86_27 b a d ma0_1 e m n o p s t y i l j g w x u z) (t86_28 b a d ma0_1 e m n o p s t y i l j g w x u z) (t86_29 b a d ma0_1 e m n o p s t y i l j g w x u z) (t86_30 b a d ma0_1 e m n o p s t y i l j g w x u z)
def n86 (b : Nat) (a : Dat) (d ma0_1 : Nat) (e : Dat) (m n o p s t y i l : Int) (j g : ByteArray) (w x u : Int) (z : Bool) : Bool := v86 b a d ma0_1 e m n o p s t y i l j g w x u z (t86_0 b a d ma0_1 e m n o p s t y i l j g w x u z) (t86_1 b a d ma0_1 e m n o p s t y i l j g w x u z) (t86_2 b a d ma0_1 e m n o p s t y i l j g w x u z) (t86_3 b a d ma0_1 e m n o p s t y i l j g w x u z) (t86_7 b a d ma0_1 e m n o p s t y i l j g w x u z) (t86_8 b a d ma0_1 e m n o p s t y i l j g w x u z) (t86_9 b a d ma0_1 e m n o p s t y i l j g w x u z) (t86_13 b a d ma0_1 e m n o p s t y i l j g w x u z) (t86_14 b a d ma0_1 e m n o p s t y i l j g w x u z) (t86_15 b a d ma0_1 e m n o p s t y i l j g w x u z) (t86_16 b a d ma0_1 e m n o p s t y i l j g w x u z) (t86_20 b a d ma0_1 e m n o p s t y i l j g w x u z) (t86_21 b a d ma0_1 e m n o p s t y i l j g w x u z) (t86_22 b a d ma0_1 e m n o p s t y i l j g w x u z) (t86_23 b a d ma0_1 e m n o p s t y i l j g w x u z) (t86_24 b a d ma0_1 e m n o p s t y i l j g w x u z) (t86_25 b a d ma0_1 e m n o p s t y i l j g w x u z) (t86_26 b a d ma0_1 e m n o p s t y i l j g w x u z) (t86_27 b a d ma0_1 e m n o p s t y i l j g w x u z) (t86_28 b a d ma0_1 e m n o p s t y i l j g w x u z) (t86_29 b a d ma0_1 e m n o p s t y i l j g w x u z) (t86_30 b a d ma0_1 e m n o p s t y i l j g w x u z)
def q86 (r : Int × Nat × Dat × Nat × Int × Int × Int × Int × Int × Int × Int × Nat × Dat) : SV × List Blk × List Blk := (V Z r.1, [.cells 155 [.ro [.str, W Z, W Z] r.2.1 r.2.2.1, .own 1 3 r.2.2.2.1, V Z r.2.2.2.2.1, V Z r.2.2.2.2.2.1, V Z r.2.2.2.2.2.2.1, V Z r.2.2.2.2.2.2.2.1, V Z r.2.2.2.2.2.2.2.2.1, V Z r.2.2.2.2.2.2.2.2.2.1, V Z r.2.2.2.2.2.2.2.2.2.2.1], .row 153 [W Z, W Z, W Z] r.2.2.2.2.2.2.2.2.2.2.2.1 r.2.2.2.2.2.2.2.2.2.2.2.2], [])
def g86 : GF := fun vs bs => match vs, bs with
 | [.ptr 0 0, .agg [V Z i, V Z l, .str j, .str g, V Z w, V Z x, V Z u, .bool z]], [.cells 155 [.ro [.str, W Z, W Z] b a, .own 1 3 d, V Z m, V Z n, V Z o, V Z p, V Z s, V Z t, V Z y], .row 153 [W Z, W Z, W Z] ma0_1 e] => some (rs 2 (q86 (m86 b a d ma0_1 e m n o p s t y i l j g w x u z)) [n86 b a d ma0_1 e m n o p s t y i l j g w x u z])
 | _, _ => none
def c86 : Ctr := genC [.c [.ro [.str, W Z, W Z], .k, .k, .k, .k, .k, .k, .k, .k], .k] g86
theorem u86 (b : Nat) (a : Dat) (d ma0_1 : Nat) (e : Dat) (m n o p s t y i l : Int) (j g : ByteArray) (w x u : Int) (z : Bool) (z0 z1 z2 z3 z7 : Int) (z8 : Dat) (z9 z13 z14 z15 : Int) (z16 z20 : Dat) (z21 z22 z23 z24 z25 z26 : Int) (z27 : Dat) (z28 z29 z30 : Int) (hn : v86 b a d ma0_1 e m n o p s t y i l j g w x u z z0 z1 z2 z3 z7 z8 z9 z13 z14 z15 z16 z20 z21 z22 z23 z24 z25 z26 z27 z28 z29 z30 = true) : U86 b a d ma0_1 e m n o p s t y i l j g w x u z z0 z1 z2 z3 z7 z8 z9 z13 z14 z15 z16 z20 z21 z22 z23 z24 z25 z26 z27 z28 z29 z30 (fun v U N => (v, U, N) = q86 (w86 b a d ma0_1 e m n o p s t y i l j g w x u z z0 z1 z2 z3 z7 z8 z9 z13 z14 z15 z16 z20 z21 z22 z23 z24 z25 z26 z27 z28 z29 z30)) :=
 cn (al hn) (co (fun h0 => lf (cT h0 rfl) rfl) (fun h0 => cn (al (cf h0 (ar hn))) (cn (al (ar (cf h0 (ar hn)))) (co (fun h1 => lf (cF h0 (cT h1 rfl)) rfl) (fun h1 => co (fun h2 => lf (cF h0 (cF h1 (cT h2 rfl))) rfl) (fun h2 => cn (al (cf h2 (cf h1 (ar (ar (cf h0 (ar hn))))))) (cn (al (ar (cf h2 (cf h1 (ar (ar (cf h0 (ar hn)))))))) (co (fun h3 => lf (cF h0 (cF h1 (cF h2 (cT h3 rfl)))) rfl) (fun h3 => co (fun h4 => cn (al (ct h4 (cf h3 (ar (ar (cf h2 (cf h1 (ar (ar (cf h0 (ar hn))))))))))) (cn (al (ar (ct h4 (cf h3 (ar (ar (cf h2 (cf h1 (ar (ar (cf h0 (ar hn)))))))))))) (cn (al (ar (ar (ct h4 (cf h3 (ar (ar (cf h2 (cf h1 (ar (ar (cf h0 (ar hn))))))))))))) (co (fun h5 => lf (cF h0 (cF h1 (cF h2 (cF h3 (cT h4 (cT h5 rfl)))))) rfl) (fun h5 => cn (al (cf h5 (ar (ar (ar (ct h4 (cf h3 (ar (ar (cf h2 (cf h1 (ar (ar (cf h0 (ar hn))))))))))))))) (cn (al (ar (cf h5 (ar (ar (ar (ct h4 (cf h3 (ar (ar (cf h2 (cf h1 (ar (ar (cf h0 (ar hn)))))))))))))))) (cn (al (ar (ar (cf h5 (ar (ar (ar (ct h4 (cf h3 (ar (ar (cf h2 (cf h1 (ar (ar (cf h0 (ar hn))))))))))))))))) (cn (al (ar (ar (ar (cf h5 (ar (ar (ar (ct h4 (cf h3 (ar (ar (cf h2 (cf h1 (ar (ar (cf h0 (ar hn)))))))))))))))))) (co (fun h6 => lf (cF h0 (cF h1 (cF h2 (cF h3 (cT h4 (cF h5 (cT h6 rfl))))))) rfl) (fun h6 => co (fun h7 => cn (al (ct h7 (cf h6 (ar (ar (ar (ar (cf h5 (ar (ar (ar (ct h4 (cf h3 (ar (ar (cf h2 (cf h1 (ar (ar (cf h0 (ar hn))))))))))))))))))))) (cn (al (ar (ct h7 (cf h6 (ar (ar (ar (ar (cf h5 (ar (ar (ar (ct h4 (cf h3 (ar (ar (cf h2 (cf h1 (ar (ar (cf h0 (ar hn)))))))))))))))))))))) (cn (al (ar (ar (ct h7 (cf h6 (ar (ar (ar (ar (cf h5 (ar (ar (ar (ct h4 (cf h3 (ar (ar (cf h2 (cf h1 (ar (ar (cf h0 (ar hn))))))))))))))))))))))) (cn (al (ar (ar (ar (ct h7 (cf h6 (ar (ar (ar (ar (cf h5 (ar (ar (ar (ct h4 (cf h3 (ar (ar (cf h2 (cf h1 (ar (ar (cf h0 (ar hn)))))))))))))))))))))))) (cn (al (ar (ar (ar (ar (ct h7 (cf h6 (ar (ar (ar (ar (cf h5 (ar (ar (ar (ct h4 (cf h3 (ar (ar (cf h2 (cf h1 (ar (ar (cf h0 (ar hn))))))))))))))))))))))))) (cn (al (ar (ar (ar (ar (ar (ct h7 (cf h6 (ar (ar (ar (ar (cf h5 (ar (ar (ar (ct h4 (cf h3 (ar (ar (cf h2 (cf h1 (ar (ar (cf h0 (ar hn)))))))))))))))))))))))))) (cn (al (ar (ar (ar (ar (ar (ar (ct h7 (cf h6 (ar (ar (ar (ar (cf h5 (ar (ar (ar (ct h4 (cf h3 (ar (ar (cf h2 (cf h1 (ar (ar (cf h0 (ar hn))))))))))))))))))))))))))) (co (fun h8 => cn (al (ct h8 (ar (ar (ar (ar (ar (ar (ar (ct h7 (cf h6 (ar (ar (ar (ar (cf h5 (ar (ar (ar (ct h4 (cf h3 (ar (ar (cf h2 (cf h1 (ar (ar (cf h0 (ar hn))))))))))))))))))))))))))))) (cn (al (ar (ct h8 (ar (ar (ar (ar (ar (ar (ar (ct h7 (cf h6 (ar (ar (ar (ar (cf h5 (ar (ar (ar (ct h4 (cf h3 (ar (ar (cf h2 (cf h1 (ar (ar (cf h0 (ar hn)))))))))))))))))))))))))))))) (cn (al (ar (ar (ct h8 (ar (ar (ar (ar (ar (ar (ar (ct h7 (cf h6 (ar (ar (ar (ar (cf h5 (ar (ar (ar (ct h4 (cf h3 (ar (ar (cf h2 (cf h1 (ar (ar (cf h0 (ar hn))))))))))))))))))))))))))))))) (cn (al (ar (ar (ar (ct h8 (ar (ar (ar (ar (ar (ar (ar (ct h7 (cf h6 (ar (ar (ar (ar (cf h5 (ar (ar (ar (ct h4 (cf h3 (ar (ar (cf h2 (cf h1 (ar (ar (cf h0 (ar hn)))))))))))))))))))))))))))))))) (co (fun h9 => lf (cF h0 (cF h1 (cF h2 (cF h3 (cT h4 (cF h5 (cF h6 (cT h7 (cT h8 (cT h9 rfl)))))))))) rfl) (fun h9 => co (fun h10 => lf (cF h0 (cF h1 (cF h2 (cF h3 (cT h4 (cF h5 (cF h6 (cT h7 (cT h8 (cF h9 (cT h10 rfl))))))))))) rfl) (fun h10 => lf (cF h0 (cF h1 (cF h2 (cF h3 (cT h4 (cF h5 (cF h6 (cT h7 (cT h8 (cF h9 (cF h10 rfl))))))))))) rfl))))))) (fun h8 => co (fun h9 => lf (cF h0 (cF h1 (cF h2 (cF h3 (cT h4 (cF h5 (cF h6 (cT h7 (cF h8 (cT h9 rfl)))))))))) rfl) (fun h9 => co (fun h10 => lf (cF h0 (cF h1 (cF h2 (cF h3 (cT h4 (cF h5 (cF h6 (cT h7 (cF h8 (cF h9 (cT h10 rfl))))))))))) rfl) (fun h10 => lf (cF h0 (cF h1 (cF h2 (cF h3 (cT h4 (cF h5 (cF h6 (cT h7 (cF h8 (cF h9 (cF h10 rfl))))))))))) rfl))))))))))) (fun h7 => co (fun h8 => cn (al (ct h8 (cf h7 (cf h6 (ar (ar (ar (ar (cf h5 (ar (ar (ar (ct h4 (cf h3 (ar (ar (cf h2 (cf h1 (ar (ar (cf h0 (ar hn)))))))))))))))))))))) (cn (al (ar (ct h8 (cf h7 (cf h6 (ar (ar (ar (ar (cf h5 (ar (ar (ar (ct h4 (cf h3 (ar (ar (cf h2 (cf h1 (ar (ar (cf h0 (ar hn))))))))))))))))))))))) (cn (al (ar (ar (ct h8 (cf h7 (cf h6 (ar (ar (ar (ar (cf h5 (ar (ar (ar (ct h4 (cf h3 (ar (ar (cf h2 (cf h1 (ar (ar (cf h0 (ar hn)))))))))))))))))))))))) (cn (al (ar (ar (ar (ct h8 (cf h7 (cf h6 (ar (ar (ar (ar (cf h5 (ar (ar (ar (ct h4 (cf h3 (ar (ar (cf h2 (cf h1 (ar (ar (cf h0 (ar hn))))))))))))))))))))))))) (co (fun h9 => lf (cF h0 (cF h1 (cF h2 (cF h3 (cT h4 (cF h5 (cF h6 (cF h7 (cT h8 (cT h9 rfl)))))))))) rfl) (fun h9 => co (fun h10 => lf (cF h0 (cF h1 (cF h2 (cF h3 (cT h4 (cF h5 (cF h6 (cF h7 (cT h8 (cF h9 (cT h10 rfl))))))))))) rfl) (fun h10 => lf (cF h0 (cF h1 (cF h2 (cF h3 (cT h4 (cF h5 (cF h6 (cF h7 (cT h8 (cF h9 (cF h10 rfl))))))))))) rfl))))))) (fun h8 => co (fun h9 => lf (cF h0 (cF h1 (cF h2 (cF h3 (cT h4 (cF h5 (cF h6 (cF h7 (cF h8 (cT h9 rfl)))))))))) rfl) (fun h9 => co (fun h10 => lf (cF h0 (cF h1 (cF h2 (cF h3 (cT h4 (cF h5 (cF h6 (cF h7 (cF h8 (cF h9 (cT h10 rfl))))))))))) rfl) (fun h10 => lf (cF h0 (cF h1 (cF h2 (cF h3 (cT h4 (cF h5 (cF h6 (cF h7 (cF h8 (cF h9 (cF h10 rfl))))))))))) rfl)))))))))))))) (fun h4 => co (fun h5 => cn (al (ct h5 (cf h4 (cf h3 (ar (ar (cf h2 (cf h1 (ar (ar (cf h0 (ar hn)))))))))))) (cn (al (ar (ct h5 (cf h4 (cf h3 (ar (ar (cf h2 (cf h1 (ar (ar (cf h0 (ar hn))))))))))))) (cn (al (ar (ar (ct h5 (cf h4 (cf h3 (ar (ar (cf h2 (cf h1 (ar (ar (cf h0 (ar hn)))))))))))))) (cn (al (ar (ar (ar (ct h5 (cf h4 (cf h3 (ar (ar (cf h2 (cf h1 (ar (ar (cf h0 (ar hn))))))))))))))) (cn (al (ar (ar (ar (ar (ct h5 (cf h4 (cf h3 (ar (ar (cf h2 (cf h1 (ar (ar (cf h0 (ar hn)))))))))))))))) (cn (al (ar (ar (ar (ar (ar (ct h5 (cf h4 (cf h3 (ar (ar (cf h2 (cf h1 (ar (ar (cf h0 (ar hn))))))))))))))))) (cn (al (ar (ar (ar (ar (ar (ar (ct h5 (cf h4 (cf h3 (ar (ar (cf h2 (cf h1 (ar (ar (cf h0 (ar hn)))))))))))))))))) (co (fun h6 => cn (al (ct h6 (ar (ar (ar (ar (ar (ar (ar (ct h5 (cf h4 (cf h3 (ar (ar (cf h2 (cf h1 (ar (ar (cf h0 (ar hn)))))))))))))))))))) (cn (al (ar (ct h6 (ar (ar (ar (ar (ar (ar (ar (ct h5 (cf h4 (cf h3 (ar (ar (cf h2 (cf h1 (ar (ar (cf h0 (ar hn))))))))))))))))))))) (cn (al (ar (ar (ct h6 (ar (ar (ar (ar (ar (ar (ar (ct h5 (cf h4 (cf h3 (ar (ar (cf h2 (cf h1 (ar (ar (cf h0 (ar hn)))))))))))))))))))))) (cn (al (ar (ar (ar (ct h6 (ar (ar (ar (ar (ar (ar (ar (ct h5 (cf h4 (cf h3 (ar (ar (cf h2 (cf h1 (ar (ar (cf h0 (ar hn))))))))))))))))))))))) (co (fun h7 => lf (cF h0 (cF h1 (cF h2 (cF h3 (cF h4 (cT h5 (cT h6 (cT h7 rfl)))))))) rfl) (fun h7 => co (fun h8 => lf (cF h0 (cF h1 (cF h2 (cF h3 (cF h4 (cT h5 (cT h6 (cF h7 (cT h8 rfl))))))))) rfl) (fun h8 => lf (cF h0 (cF h1 (cF h2 (cF h3 (cF h4 (cT h5 (cT h6 (cF h7 (cF h8 rfl))))))))) rfl))))))) (fun h6 => co (fun h7 => lf (cF h0 (cF h1 (cF h2 (cF h3 (cF h4 (cT h5 (cF h6 (cT h7 rfl)))))))) rfl) (fun h7 => co (fun h8 => lf (cF h0 (cF h1 (cF h2 (cF h3 (cF h4 (cT h5 (cF h6 (cF h7 (cT h8 rfl))))))))) rfl) (fun h8 => lf (cF h0 (cF h1 (cF h2 (cF h3 (cF h4 (cT h5 (cF h6 (cF h7 (cF h8 rfl))))))))) rfl))))))))))) (fun h5 => co (fun h6 => cn (al (ct h6 (cf h5 (cf h4 (cf h3 (ar (ar (cf h2 (cf h1 (ar (ar (cf h0 (ar hn))))))))))))) (cn (al (ar (ct h6 (cf h5 (cf h4 (cf h3 (ar (ar (cf h2 (cf h1 (ar (ar (cf h0 (ar hn)))))))))))))) (cn (al (ar (ar (ct h6 (cf h5 (cf h4 (cf h3 (ar (ar (cf h2 (cf h1 (ar (ar (cf h0 (ar hn))))))))))))))) (cn (al (ar (ar (ar (ct h6 (cf h5 (cf h4 (cf h3 (ar (ar (cf h2 (cf h1 (ar (ar (cf h0 (ar hn)))))))))))))))) (co (fun h7 => lf (cF h0 (cF h1 (cF h2 (cF h3 (cF h4 (cF h5 (cT h6 (cT h7 rfl)))))))) rfl) (fun h7 => co (fun h8 => lf (cF h0 (cF h1 (cF h2 (cF h3 (cF h4 (cF h5 (cT h6 (cF h7 (cT h8 rfl))))))))) rfl) (fun h8 => lf (cF h0 (cF h1 (cF h2 (cF h3 (cF h4 (cF h5 (cT h6 (cF h7 (cF h8 rfl))))))))) rfl))))))) (fun h6 => co (fun h7 => lf (cF h0 (cF h1 (cF h2 (cF h3 (cF h4 (cF h5 (cF h6 (cT h7 rfl)))))))) rfl) (fun h7 => co (fun h8 => lf (cF h0 (cF h1 (cF h2 (cF h3 (cF h4 (cF h5 (cF h6 (cF h7 (cT h8 rfl))))))))) rfl) (fun h8 => lf (cF h0 (cF h1 (cF h2 (cF h3 (cF h4 (cF h5 (cF h6 (cF h7 (cF h8 rfl))))))))) rfl))))))))))))))
theorem k86 : CtrOk Try.prog c86 86 := cx (tc k84 (tc k85 (tc k105 (tc k125 (tc k126 (tc k127 (tc k128 (tc k129 (tc k130 (tc k131 tn)))))))))) mix_ok 8 (fn := Try.f86) (c := (Try.f86.body.getD .skip)) (grs := []) (rh := .k) Try.func86 rfl (by kernel_rfl) noLam fun vs bs q h hn => by
 unfold g86 at h
 split at h <;> cases h
 rename_i i l j g w x u z b a d m n o p s t y ma0_1 e
 have hn := n1 hn
 exact ⟨_, rfl, ca (fun R => U86 b a d ma0_1 e m n o p s t y i l j g w x u z (t86_0 b a d ma0_1 e m n o p s t y i l j g w x u z) (t86_1 b a d ma0_1 e m n o p s t y i l j g w x u z) (t86_2 b a d ma0_1 e m n o p s t y i l j g w x u z) (t86_3 b a d ma0_1 e m n o p s t y i l j g w x u z) (t86_7 b a d ma0_1 e m n o p s t y i l j g w x u z) (t86_8 b a d ma0_1 e m n o p s t y i l j g w x u z) (t86_9 b a d ma0_1 e m n o p s t y i l j g w x u z) (t86_13 b a d ma0_1 e m n o p s t y i l j g w x u z) (t86_14 b a d ma0_1 e m n o p s t y i l j g w x u z) (t86_15 b a d ma0_1 e m n o p s t y i l j g w x u z) (t86_16 b a d ma0_1 e m n o p s t y i l j g w x u z) (t86_20 b a d ma0_1 e m n o p s t y i l j g w x u z) (t86_21 b a d ma0_1 e m n o p s t y i l j g w x u z) (t86_22 b a d ma0_1 e m n o p s t y i l j g w x u z) (t86_23 b a d ma0_1 e m n o p s t y i l j g w x u z) (t86_24 b a d ma0_1 e m n o p s t y i l j g w x u z) (t86_25 b a d ma0_1 e m n o p s t y i l j g w x u z) (t86_26 b a d ma0_1 e m n o p s t y i l j g w x u z) (t86_27 b a d ma0_1 e m n o p s t y i l j g w x u z) (t86_28 b a d ma0_1 e m n o p s t y i l j g w x u z) (t86_29 b a d ma0_1 e m n o p s t y i l j g w x u z) (t86_30 b a d ma0_1 e m n o p s t y i l j g w x u z) R) (fun R => by kernel_rfl) (u86 b a d ma0_1 e m n o p s t y i l j g w x u z (t86_0 b a d ma0_1 e m n o p s t y i l j g w x u z) (t86_1 b a d ma0_1 e m n o p s t y i l j g w x u z) (t86_2 b a d ma0_1 e m n o p s t y i l j g w x u z) (t86_3 b a d ma0_1 e m n o p s t y i l j g w x u z) (t86_7 b a d ma0_1 e m n o p s t y i l j g w x u z) (t86_8 b a d ma0_1 e m n o p s t y i l j g w x u z) (t86_9 b a d ma0_1 e m n o p s t y i l j g w x u z) (t86_13 b a d ma0_1 e m n o p s t y i l j g w x u z) (t86_14 b a d ma0_1 e m n o p s t y i l j g w x u z) (t86_15 b a d ma0_1 e m n o p s t y i l j g w x u z) (t86_16 b a d ma0_1 e m n o p s t y i l j g w x u z) (t86_20 b a d ma0_1 e m n o p s t y i l j g w x u z) (t86_21 b a d ma0_1 e m n o p s t y i l j g w x u z) (t86_22 b a d ma0_1 e m n o p s t y i l j g w x u z) (t86_23 b a d ma0_1 e m n o p s t y i l j g w x u z) (t86_24 b a d ma0_1 e m n o p s t y i l j g w x u z) (t86_25 b a d ma0_1 e m n o p s t y i l j g w x u z) (t86_26 b a d ma0_1 e m n o p s t y i l j g w x u z) (t86_27 b a d ma0_1 e m n o p s t y i l j g w x u z) (t86_28 b a d ma0_1 e m n o p s t y i l j g w x u z) (t86_29 b a d ma0_1 e m n o p s t y i l j g w x u z) (t86_30 b a d ma0_1 e m n o p s t y i l j g w x u z) hn)⟩

/-! ### shotline/mix.read -/
def l79_0 (D : Nat) (a : Dat) (E : Int) : Nat → Int → Nat → Dat → Nat → Dat → Nat → Int → Int → Int → Int → Int → Int → Int → Option (Bool × (Int × Int × Nat × Dat × Nat × Dat × Nat × Int × Int × Int × Int × Int × Int × Int) × (Nat × Dat × Nat × Dat × Nat × Int × Int × Int × Int × Int × Int × Int))
 | 0, _, _, _, _, _, _, _, _, _, _, _, _, _ => none
 | f + 1, b, g, w, i, y, j, l, m, n, o, p, t, u => (cond (decide (b < E)) (cond (decide (0 ≤ b ∧ b < ↑D)) (cond (n86 i y j g w l m n o p t u (a.ii b.toNat 0) (a.ii b.toNat (0 + 1)) (a.ss b.toNat ((0 + 1) + 1)) (a.ss b.toNat (((0 + 1) + 1) + 1)) (a.ii b.toNat ((((0 + 1) + 1) + 1) + 1)) (a.ii b.toNat (((((0 + 1) + 1) + 1) + 1) + 1)) (a.ii b.toNat ((((((0 + 1) + 1) + 1) + 1) + 1) + 1)) (a.bb b.toNat (((((((0 + 1) + 1) + 1) + 1) + 1) + 1) + 1))) (cond (bif (decide ((m86 i y j g w l m n o p t u (a.ii b.toNat 0) (a.ii b.toNat (0 + 1)) (a.ss b.toNat ((0 + 1) + 1)) (a.ss b.toNat (((0 + 1) + 1) + 1)) (a.ii b.toNat ((((0 + 1) + 1) + 1) + 1)) (a.ii b.toNat (((((0 + 1) + 1) + 1) + 1) + 1)) (a.ii b.toNat ((((((0 + 1) + 1) + 1) + 1) + 1) + 1)) (a.bb b.toNat (((((((0 + 1) + 1) + 1) + 1) + 1) + 1) + 1))).1 = 0)) then false else true) (some (true, (b, (m86 i y j g w l m n o p t u (a.ii b.toNat 0) (a.ii b.toNat (0 + 1)) (a.ss b.toNat ((0 + 1) + 1)) (a.ss b.toNat (((0 + 1) + 1) + 1)) (a.ii b.toNat ((((0 + 1) + 1) + 1) + 1)) (a.ii b.toNat (((((0 + 1) + 1) + 1) + 1) + 1)) (a.ii b.toNat ((((((0 + 1) + 1) + 1) + 1) + 1) + 1)) (a.bb b.toNat (((((((0 + 1) + 1) + 1) + 1) + 1) + 1) + 1))).1, (m86 i y j g w l m n o p t u (a.ii b.toNat 0) (a.ii b.toNat (0 + 1)) (a.ss b.toNat (0 + 1 + 1)) (a.ss b.toNat (0 + 1 + 1 + 1)) (a.ii b.toNat (0 + 1 + 1 + 1 + 1)) (a.ii b.toNat (0 + 1 + 1 + 1 + 1 + 1)) (a.ii b.toNat (0 + 1 + 1 + 1 + 1 + 1 + 1)) (a.bb b.toNat (0 + 1 + 1 + 1 + 1 + 1 + 1 + 1))).2.2.2.2.2.2.2.2.2.2.2.1, (m86 i y j g w l m n o p t u (a.ii b.toNat 0) (a.ii b.toNat (0 + 1)) (a.ss b.toNat (0 + 1 + 1)) (a.ss b.toNat (0 + 1 + 1 + 1)) (a.ii b.toNat (0 + 1 + 1 + 1 + 1)) (a.ii b.toNat (0 + 1 + 1 + 1 + 1 + 1)) (a.ii b.toNat (0 + 1 + 1 + 1 + 1 + 1 + 1)) (a.bb b.toNat (0 + 1 + 1 + 1 + 1 + 1 + 1 + 1))).2.2.2.2.2.2.2.2.2.2.2.2, (m86 i y j g w l m n o p t u (a.ii b.toNat 0) (a.ii b.toNat (0 + 1)) (a.ss b.toNat (0 + 1 + 1)) (a.ss b.toNat (0 + 1 + 1 + 1)) (a.ii b.toNat (0 + 1 + 1 + 1 + 1)) (a.ii b.toNat (0 + 1 + 1 + 1 + 1 + 1)) (a.ii b.toNat (0 + 1 + 1 + 1 + 1 + 1 + 1)) (a.bb b.toNat (0 + 1 + 1 + 1 + 1 + 1 + 1 + 1))).2.1, (m86 i y j g w l m n o p t u (a.ii b.toNat 0) (a.ii b.toNat (0 + 1)) (a.ss b.toNat (0 + 1 + 1)) (a.ss b.toNat (0 + 1 + 1 + 1)) (a.ii b.toNat (0 + 1 + 1 + 1 + 1)) (a.ii b.toNat (0 + 1 + 1 + 1 + 1 + 1)) (a.ii b.toNat (0 + 1 + 1 + 1 + 1 + 1 + 1)) (a.bb b.toNat (0 + 1 + 1 + 1 + 1 + 1 + 1 + 1))).2.2.1, (m86 i y j g w l m n o p t u (a.ii b.toNat 0) (a.ii b.toNat (0 + 1)) (a.ss b.toNat (0 + 1 + 1)) (a.ss b.toNat (0 + 1 + 1 + 1)) (a.ii b.toNat (0 + 1 + 1 + 1 + 1)) (a.ii b.toNat (0 + 1 + 1 + 1 + 1 + 1)) (a.ii b.toNat (0 + 1 + 1 + 1 + 1 + 1 + 1)) (a.bb b.toNat (0 + 1 + 1 + 1 + 1 + 1 + 1 + 1))).2.2.2.1, (m86 i y j g w l m n o p t u (a.ii b.toNat 0) (a.ii b.toNat (0 + 1)) (a.ss b.toNat ((0 + 1) + 1)) (a.ss b.toNat (((0 + 1) + 1) + 1)) (a.ii b.toNat ((((0 + 1) + 1) + 1) + 1)) (a.ii b.toNat (((((0 + 1) + 1) + 1) + 1) + 1)) (a.ii b.toNat ((((((0 + 1) + 1) + 1) + 1) + 1) + 1)) (a.bb b.toNat (((((((0 + 1) + 1) + 1) + 1) + 1) + 1) + 1))).2.2.2.2.1, (m86 i y j g w l m n o p t u (a.ii b.toNat 0) (a.ii b.toNat (0 + 1)) (a.ss b.toNat ((0 + 1) + 1)) (a.ss b.toNat (((0 + 1) + 1) + 1)) (a.ii b.toNat ((((0 + 1) + 1) + 1) + 1)) (a.ii b.toNat (((((0 + 1) + 1) + 1) + 1) + 1)) (a.ii b.toNat ((((((0 + 1) + 1) + 1) + 1) + 1) + 1)) (a.bb b.toNat (((((((0 + 1) + 1) + 1) + 1) + 1) + 1) + 1))).2.2.2.2.2.1, (m86 i y j g w l m n o p t u (a.ii b.toNat 0) (a.ii b.toNat (0 + 1)) (a.ss b.toNat ((0 + 1) + 1)) (a.ss b.toNat (((0 + 1) + 1) + 1)) (a.ii b.toNat ((((0 + 1) + 1) + 1) + 1)) (a.ii b.toNat (((((0 + 1) + 1) + 1) + 1) + 1)) (a.ii b.toNat ((((((0 + 1) + 1) + 1) + 1) + 1) + 1)) (a.bb b.toNat (((((((0 + 1) + 1) + 1) + 1) + 1) + 1) + 1))).2.2.2.2.2.2.1, (m86 i y j g w l m n o p t u (a.ii b.toNat 0) (a.ii b.toNat (0 + 1)) (a.ss b.toNat ((0 + 1) + 1)) (a.ss b.toNat (((0 + 1) + 1) + 1)) (a.ii b.toNat ((((0 + 1) + 1) + 1) + 1)) (a.ii b.toNat (((((0 + 1) + 1) + 1) + 1) + 1)) (a.ii b.toNat ((((((0 + 1) + 1) + 1) + 1) + 1) + 1)) (a.bb b.toNat (((((((0 + 1) + 1) + 1) + 1) + 1) + 1) + 1))).2.2.2.2.2.2.2.1, (m86 i y j g w l m n o p t u (a.ii b.toNat 0) (a.ii b.toNat (0 + 1)) (a.ss b.toNat ((0 + 1) + 1)) (a.ss b.toNat (((0 + 1) + 1) + 1)) (a.ii b.toNat ((((0 + 1) + 1) + 1) + 1)) (a.ii b.toNat (((((0 + 1) + 1) + 1) + 1) + 1)) (a.ii b.toNat ((((((0 + 1) + 1) + 1) + 1) + 1) + 1)) (a.bb b.toNat (((((((0 + 1) + 1) + 1) + 1) + 1) + 1) + 1))).2.2.2.2.2.2.2.2.1, (m86 i y j g w l m n o p t u (a.ii b.toNat 0) (a.ii b.toNat (0 + 1)) (a.ss b.toNat ((0 + 1) + 1)) (a.ss b.toNat (((0 + 1) + 1) + 1)) (a.ii b.toNat ((((0 + 1) + 1) + 1) + 1)) (a.ii b.toNat (((((0 + 1) + 1) + 1) + 1) + 1)) (a.ii b.toNat ((((((0 + 1) + 1) + 1) + 1) + 1) + 1)) (a.bb b.toNat (((((((0 + 1) + 1) + 1) + 1) + 1) + 1) + 1))).2.2.2.2.2.2.2.2.2.1, (m86 i y j g w l m n o p t u (a.ii b.toNat 0) (a.ii b.toNat (0 + 1)) (a.ss b.toNat ((0 + 1) + 1)) (a.ss b.toNat (((0 + 1) + 1) + 1)) (a.ii b.toNat ((((0 + 1) + 1) + 1) + 1)) (a.ii b.toNat (((((0 + 1) + 1) + 1) + 1) + 1)) (a.ii b.toNat ((((((0 + 1) + 1) + 1) + 1) + 1) + 1)) (a.bb b.toNat (((((((0 + 1) + 1) + 1) + 1) + 1) + 1) + 1))).2.2.2.2.2.2.2.2.2.2.1), default)) (l79_0 D a E f (Z.wrap (b + 1)) (m86 i y j g w l m n o p t u (a.ii b.toNat 0) (a.ii b.toNat (0 + 1)) (a.ss b.toNat (0 + 1 + 1)) (a.ss b.toNat (0 + 1 + 1 + 1)) (a.ii b.toNat (0 + 1 + 1 + 1 + 1)) (a.ii b.toNat (0 + 1 + 1 + 1 + 1 + 1)) (a.ii b.toNat (0 + 1 + 1 + 1 + 1 + 1 + 1)) (a.bb b.toNat (0 + 1 + 1 + 1 + 1 + 1 + 1 + 1))).2.2.2.2.2.2.2.2.2.2.2.1 (m86 i y j g w l m n o p t u (a.ii b.toNat 0) (a.ii b.toNat (0 + 1)) (a.ss b.toNat (0 + 1 + 1)) (a.ss b.toNat (0 + 1 + 1 + 1)) (a.ii b.toNat (0 + 1 + 1 + 1 + 1)) (a.ii b.toNat (0 + 1 + 1 + 1 + 1 + 1)) (a.ii b.toNat (0 + 1 + 1 + 1 + 1 + 1 + 1)) (a.bb b.toNat (0 + 1 + 1 + 1 + 1 + 1 + 1 + 1))).2.2.2.2.2.2.2.2.2.2.2.2 (m86 i y j g w l m n o p t u (a.ii b.toNat 0) (a.ii b.toNat (0 + 1)) (a.ss b.toNat (0 + 1 + 1)) (a.ss b.toNat (0 + 1 + 1 + 1)) (a.ii b.toNat (0 + 1 + 1 + 1 + 1)) (a.ii b.toNat (0 + 1 + 1 + 1 + 1 + 1)) (a.ii b.toNat (0 + 1 + 1 + 1 + 1 + 1 + 1)) (a.bb b.toNat (0 + 1 + 1 + 1 + 1 + 1 + 1 + 1))).2.1 (m86 i y j g w l m n o p t u (a.ii b.toNat 0) (a.ii b.toNat (0 + 1)) (a.ss b.toNat (0 + 1 + 1)) (a.ss b.toNat (0 + 1 + 1 + 1)) (a.ii b.toNat (0 + 1 + 1 + 1 + 1)) (a.ii b.toNat (0 + 1 + 1 + 1 + 1 + 1)) (a.ii b.toNat (0 + 1 + 1 + 1 + 1 + 1 + 1)) (a.bb b.toNat (0 + 1 + 1 + 1 + 1 + 1 + 1 + 1))).2.2.1 (m86 i y j g w l m n o p t u (a.ii b.toNat 0) (a.ii b.toNat (0 + 1)) (a.ss b.toNat (0 + 1 + 1)) (a.ss b.toNat (0 + 1 + 1 + 1)) (a.ii b.toNat (0 + 1 + 1 + 1 + 1)) (a.ii b.toNat (0 + 1 + 1 + 1 + 1 + 1)) (a.ii b.toNat (0 + 1 + 1 + 1 + 1 + 1 + 1)) (a.bb b.toNat (0 + 1 + 1 + 1 + 1 + 1 + 1 + 1))).2.2.2.1 (m86 i y j g w l m n o p t u (a.ii b.toNat 0) (a.ii b.toNat (0 + 1)) (a.ss b.toNat ((0 + 1) + 1)) (a.ss b.toNat (((0 + 1) + 1) + 1)) (a.ii b.toNat ((((0 + 1) + 1) + 1) + 1)) (a.ii b.toNat (((((0 + 1) + 1) + 1) + 1) + 1)) (a.ii b.toNat ((((((0 + 1) + 1) + 1) + 1) + 1) + 1)) (a.bb b.toNat (((((((0 + 1) + 1) + 1) + 1) + 1) + 1) + 1))).2.2.2.2.1 (m86 i y j g w l m n o p t u (a.ii b.toNat 0) (a.ii b.toNat (0 + 1)) (a.ss b.toNat ((0 + 1) + 1)) (a.ss b.toNat (((0 + 1) + 1) + 1)) (a.ii b.toNat ((((0 + 1) + 1) + 1) + 1)) (a.ii b.toNat (((((0 + 1) + 1) + 1) + 1) + 1)) (a.ii b.toNat ((((((0 + 1) + 1) + 1) + 1) + 1) + 1)) (a.bb b.toNat (((((((0 + 1) + 1) + 1) + 1) + 1) + 1) + 1))).2.2.2.2.2.1 (m86 i y j g w l m n o p t u (a.ii b.toNat 0) (a.ii b.toNat (0 + 1)) (a.ss b.toNat ((0 + 1) + 1)) (a.ss b.toNat (((0 + 1) + 1) + 1)) (a.ii b.toNat ((((0 + 1) + 1) + 1) + 1)) (a.ii b.toNat (((((0 + 1) + 1) + 1) + 1) + 1)) (a.ii b.toNat ((((((0 + 1) + 1) + 1) + 1) + 1) + 1)) (a.bb b.toNat (((((((0 + 1) + 1) + 1) + 1) + 1) + 1) + 1))).2.2.2.2.2.2.1 (m86 i y j g w l m n o p t u (a.ii b.toNat 0) (a.ii b.toNat (0 + 1)) (a.ss b.toNat ((0 + 1) + 1)) (a.ss b.toNat (((0 + 1) + 1) + 1)) (a.ii b.toNat ((((0 + 1) + 1) + 1) + 1)) (a.ii b.toNat (((((0 + 1) + 1) + 1) + 1) + 1)) (a.ii b.toNat ((((((0 + 1) + 1) + 1) + 1) + 1) + 1)) (a.bb b.toNat (((((((0 + 1) + 1) + 1) + 1) + 1) + 1) + 1))).2.2.2.2.2.2.2.1 (m86 i y j g w l m n o p t u (a.ii b.toNat 0) (a.ii b.toNat (0 + 1)) (a.ss b.toNat ((0 + 1) + 1)) (a.ss b.toNat (((0 + 1) + 1) + 1)) (a.ii b.toNat ((((0 + 1) + 1) + 1) + 1)) (a.ii b.toNat (((((0 + 1) + 1) + 1) + 1) + 1)) (a.ii b.toNat ((((((0 + 1) + 1) + 1) + 1) + 1) + 1)) (a.bb b.toNat (((((((0 + 1) + 1) + 1) + 1) + 1) + 1) + 1))).2.2.2.2.2.2.2.2.1 (m86 i y j g w l m n o p t u (a.ii b.toNat 0) (a.ii b.toNat (0 + 1)) (a.ss b.toNat ((0 + 1) + 1)) (a.ss b.toNat (((0 + 1) + 1) + 1)) (a.ii b.toNat ((((0 + 1) + 1) + 1) + 1)) (a.ii b.toNat (((((0 + 1) + 1) + 1) + 1) + 1)) (a.ii b.toNat ((((((0 + 1) + 1) + 1) + 1) + 1) + 1)) (a.bb b.toNat (((((((0 + 1) + 1) + 1) + 1) + 1) + 1) + 1))).2.2.2.2.2.2.2.2.2.1 (m86 i y j g w l m n o p t u (a.ii b.toNat 0) (a.ii b.toNat (0 + 1)) (a.ss b.toNat ((0 + 1) + 1)) (a.ss b.toNat (((0 + 1) + 1) + 1)) (a.ii b.toNat ((((0 + 1) + 1) + 1) + 1)) (a.ii b.toNat (((((0 + 1) + 1) + 1) + 1) + 1)) (a.ii b.toNat ((((((0 + 1) + 1) + 1) + 1) + 1) + 1)) (a.bb b.toNat (((((((0 + 1) + 1) + 1) + 1) + 1) + 1) + 1))).2.2.2.2.2.2.2.2.2.2.1)) none) none) (some (false, default, (g, w, i, y, j, l, m, n, o, p, t, u))))
abbrev o79_0 (D : Nat) (a : Dat) (E b : Int) (g : Nat) (w : Dat) (i : Nat) (y : Dat) (j : Nat) (l m n o p t u : Int) : Option (Bool × (Int × Int × Nat × Dat × Nat × Dat × Nat × Int × Int × Int × Int × Int × Int × Int) × (Nat × Dat × Nat × Dat × Nat × Int × Int × Int × Int × Int × Int × Int)) := l79_0 D a E (D + E.toNat + b.toNat + g + i + j + l.toNat + m.toNat + n.toNat + o.toNat + p.toNat + t.toNat + u.toNat + 8) b g w i y j l m n o p t u
def e79_0 (D : Nat) (a : Dat) (E : Int) (r : Bool × (Int × Int × Nat × Dat × Nat × Dat × Nat × Int × Int × Int × Int × Int × Int × Int) × (Nat × Dat × Nat × Dat × Nat × Int × Int × Int × Int × Int × Int × Int)) (K : XR) : Prop := cnd r.1 (K (XE.ret) [.val (Value.pointer none), V Z r.2.1.1, V Z r.2.1.2.1, .ptr 1 0] [.row 153 [W Z, W Z, W Z] r.2.1.2.2.1 r.2.1.2.2.2.1, .cells 155 [.ro [.str, W Z, W Z] r.2.1.2.2.2.2.1 r.2.1.2.2.2.2.2.1, .own 0 3 r.2.1.2.2.2.2.2.2.1, V Z r.2.1.2.2.2.2.2.2.2.1, V Z r.2.1.2.2.2.2.2.2.2.2.1, V Z r.2.1.2.2.2.2.2.2.2.2.2.1, V Z r.2.1.2.2.2.2.2.2.2.2.2.2.1, V Z r.2.1.2.2.2.2.2.2.2.2.2.2.2.1, V Z r.2.1.2.2.2.2.2.2.2.2.2.2.2.2.1, V Z r.2.1.2.2.2.2.2.2.2.2.2.2.2.2.2]]) (K (XE.exit 0) [.any, .any, .any, .ptr 1 0] [.row 153 [W Z, W Z, W Z] r.2.2.1 r.2.2.2.1, .cells 155 [.ro [.str, W Z, W Z] r.2.2.2.2.1 r.2.2.2.2.2.1, .own 0 3 r.2.2.2.2.2.2.1, V Z r.2.2.2.2.2.2.2.1, V Z r.2.2.2.2.2.2.2.2.1, V Z r.2.2.2.2.2.2.2.2.2.1, V Z r.2.2.2.2.2.2.2.2.2.2.1, V Z r.2.2.2.2.2.2.2.2.2.2.2.1, V Z r.2.2.2.2.2.2.2.2.2.2.2.2.1, V Z r.2.2.2.2.2.2.2.2.2.2.2.2.2]])
def g79_0 : LSum := fun s k => match czv 0 42 [8, 26, 27, 28] 2 [] s with
 | some ([.ptr 1 0, .ro [W Z, W Z, .str, .str, W Z, W Z, W Z, .bool] D a, V Z E, V Z b], [.row 153 [W Z, W Z, W Z] g w, .cells 155 [.ro [.str, W Z, W Z] i y, .own 0 3 j, V Z l, V Z m, V Z n, V Z o, V Z p, V Z t, V Z u]]) => needs [(o79_0 D a E b g w i y j l m n o p t u).isSome] (e79_0 D a E ((o79_0 D a E b g w i y j l m n o p t u).getD default) fun e vs bs => inBlk 0 k e (mkSt 0 42 [4, 5, 6, 8] vs 2 bs))
 | _ => False
theorem z79_0 : LOk Try.prog g79_0 (.block 0 (bodyAt (Try.f79.body.getD .skip) 0)) := by
 refine lb (ι := Nat × Dat × Int × Int × Nat × Dat × Nat × Dat × Nat × Int × Int × Int × Int × Int × Int × Int) (fuel := 8) (na := 0) (nt := 42) (nx := 2) (Lh := [8, 26, 27, 28]) (Le := [4, 5, 6, 8]) (gl := []) (tc k50 (tc k86 tn)) mix_ok noLam rfl (fun f (D, a, E, b, g, w, i, y, j, l, m, n, o, p, t, u) K => GG default (e79_0 D a E) K (l79_0 D a E f b g w i y j l m n o p t u)) (fun (D, a, E, b, g, w, i, y, j, l, m, n, o, p, t, u) => [.ptr 1 0, .ro [W Z, W Z, .str, .str, W Z, W Z, W Z, .bool] D a, V Z E, V Z b]) (fun (D, a, E, b, g, w, i, y, j, l, m, n, o, p, t, u) => [.row 153 [W Z, W Z, W Z] g w, .cells 155 [.ro [.str, W Z, W Z] i y, .own 0 3 j, V Z l, V Z m, V Z n, V Z o, V Z p, V Z t, V Z u]]) (fun (_, _, _, _, _, _, _, _, _, _, _, _, _, _, _, _) K => gg_none) ?_ ?_
 ·rintro f ⟨D, a, E, b, g, w, i, y, j, l, m, n, o, p, t, u⟩ K hG
  refine ro (fun R => 
 let c0 := ((((0 + 1) + 1) + 1) + 1)
 let a0 := (m86 i y j g w l m n o p t u (a.ii b.toNat 0) (a.ii b.toNat (0 + 1)) (a.ss b.toNat ((0 + 1) + 1)) (a.ss b.toNat (((0 + 1) + 1) + 1)) (a.ii b.toNat c0) (a.ii b.toNat (c0 + 1)) (a.ii b.toNat ((c0 + 1) + 1)) (a.bb b.toNat (((c0 + 1) + 1) + 1)))
 let b0 := (m86 i y j g w l m n o p t u (a.ii b.toNat 0) (a.ii b.toNat (0 + 1)) (a.ss b.toNat (0 + 1 + 1)) (a.ss b.toNat (0 + 1 + 1 + 1)) (a.ii b.toNat (0 + 1 + 1 + 1 + 1)) (a.ii b.toNat (0 + 1 + 1 + 1 + 1 + 1)) (a.ii b.toNat (0 + 1 + 1 + 1 + 1 + 1 + 1)) (a.bb b.toNat (0 + 1 + 1 + 1 + 1 + 1 + 1 + 1)))
 (cnd (decide (b < E))
 (cnd (decide (0 ≤ b ∧ b < ↑D))
 (cnd (n86 i y j g w l m n o p t u (a.ii b.toNat 0) (a.ii b.toNat (0 + 1)) (a.ss b.toNat ((0 + 1) + 1)) (a.ss b.toNat (((0 + 1) + 1) + 1)) (a.ii b.toNat c0) (a.ii b.toNat (c0 + 1)) (a.ii b.toNat ((c0 + 1) + 1)) (a.bb b.toNat (((c0 + 1) + 1) + 1)))
 (cnd (bif (decide (a0.1 = 0)) then false else true)
 (R (XE.ret) [.val (Value.pointer none), V Z b, V Z a0.1, .ptr 1 0] [.row 153 [W Z, W Z, W Z] b0.2.2.2.2.2.2.2.2.2.2.2.1 b0.2.2.2.2.2.2.2.2.2.2.2.2, .cells 155 [.ro [.str, W Z, W Z] b0.2.1 b0.2.2.1, .own 0 3 b0.2.2.2.1, V Z a0.2.2.2.2.1, V Z a0.2.2.2.2.2.1, V Z a0.2.2.2.2.2.2.1, V Z a0.2.2.2.2.2.2.2.1, V Z a0.2.2.2.2.2.2.2.2.1, V Z a0.2.2.2.2.2.2.2.2.2.1, V Z a0.2.2.2.2.2.2.2.2.2.2.1]])
 (R (XE.normal) [.ptr 1 0, .ro [W Z, W Z, .str, .str, W Z, W Z, W Z, .bool] D a, V Z E, V Z (Z.wrap (b + 1))] [.row 153 [W Z, W Z, W Z] b0.2.2.2.2.2.2.2.2.2.2.2.1 b0.2.2.2.2.2.2.2.2.2.2.2.2, .cells 155 [.ro [.str, W Z, W Z] b0.2.1 b0.2.2.1, .own 0 3 b0.2.2.2.1, V Z a0.2.2.2.2.1, V Z a0.2.2.2.2.2.1, V Z a0.2.2.2.2.2.2.1, V Z a0.2.2.2.2.2.2.2.1, V Z a0.2.2.2.2.2.2.2.2.1, V Z a0.2.2.2.2.2.2.2.2.2.1, V Z a0.2.2.2.2.2.2.2.2.2.2.1]]))
  False)
  False)
 (R (XE.exit 0) [.any, .any, .any, .ptr 1 0] [.row 153 [W Z, W Z, W Z] g w, .cells 155 [.ro [.str, W Z, W Z] i y, .own 0 3 j, V Z l, V Z m, V Z n, V Z o, V Z p, V Z t, V Z u]]))) (fun R => by kernel_rfl) ?_
  exact ch hG (fun h0 => cg h0 fun h1 => cg h1 fun h2 => ch h2 (fun h3 => h3.2) (fun h3 => ⟨(_, _, _, _, _, _, _, _, _, _, _, _, _, _, _, _), rfl, rfl, h3⟩)) (fun h0 => h0.2)
 ·intro s k h
  unfold g79_0 at h
  split at h <;> try exact h.elim
  rename_i e1
  rw [needs_iff] at h
  exact ⟨_, e1, _, (_, _, _, _, _, _, _, _, _, _, _, _, _, _, _, _), rfl, rfl, h.1 _ (List.mem_singleton.2 rfl), h.2⟩
theorem x79 (d : Nat) (A : Dat) (z : Nat) (C : Dat) (R : SV → List Blk → List Blk → Prop) : exec Try.prog [(50, c50), (86, c86)] (lamOf [(0, g79_0)]) 8 (Try.f79.body.getD .skip) (initS Try.f79.ntmps [.ro [.str, W Z, W Z] d A, .ro [W Z, W Z, .str, .str, W Z, W Z, W Z, .bool] z C] 0 (memOf [])) (retK Try.prog Try.f79.results.toList (outK 0 (List.range 0) [] (.k) fun v U N => R v U N)) =
 (cnd (n50 d A)
 (cnd (bif (decide ((m50 d A) = 0)) then false else true)
 (R (.tup [.val (Value.pointer none), V Z 0, V Z (m50 d A)]) [] [])
 (cnd (decide ((200 : Int) < (↑z : Int)))
 (R (.tup [.val (Value.pointer none), V Z 0, V Z 8]) [] [])
 (cnd (decide (0 ≤ (↑d : Int) ∧ (↑d : Int) ≤ (↑d : Int) ∧ (↑d : Int) ≤ 1073741824))
 (cnd ((o79_0 z C (↑z : Int) 0 ((↑d : Int).toNat) (datC [V Z 0, V Z 0, V Z 0]) d A ((↑d : Int).toNat) 0 0 0 0 0 0 0).isSome)
 (cnd ((o79_0 z C (↑z : Int) 0 ((↑d : Int).toNat) (datC [V Z 0, V Z 0, V Z 0]) d A ((↑d : Int).toNat) 0 0 0 0 0 0 0).getD default).1
 (R (.tup [.val (Value.pointer none), V Z ((o79_0 z C (↑z : Int) 0 ((↑d : Int).toNat) (datC [V Z 0, V Z 0, V Z 0]) d A ((↑d : Int).toNat) 0 0 0 0 0 0 0).getD default).2.1.1, V Z ((o79_0 z C (↑z : Int) 0 ((↑d : Int).toNat) (datC [V Z 0, V Z 0, V Z 0]) d A ((↑d : Int).toNat) 0 0 0 0 0 0 0).getD default).2.1.2.1]) [] [])
 (R (.tup [.ptr 0 0, V Z 0, V Z 0]) [] [.cells 155 [.ro [.str, W Z, W Z] ((o79_0 z C (↑z : Int) 0 (↑d : Int).toNat (datC (fitL (List.flatMap (fun x => [Kd.int Z]) (List.range 3)) (List.map zv1 (Value.agg #[Value.int Z 0, Value.int Z 0, Value.int Z 0]).cells.toList))) d A (↑d : Int).toNat 0 0 0 0 0 0 0).getD default).2.2.2.2.1 ((o79_0 z C (↑z : Int) 0 (↑d : Int).toNat (datC (fitL (List.flatMap (fun x => [Kd.int Z]) (List.range 3)) (List.map zv1 (Value.agg #[Value.int Z 0, Value.int Z 0, Value.int Z 0]).cells.toList))) d A (↑d : Int).toNat 0 0 0 0 0 0 0).getD default).2.2.2.2.2.1, .own 1 3 ((o79_0 z C (↑z : Int) 0 (↑d : Int).toNat (datC (fitL (List.flatMap (fun x => [Kd.int Z]) (List.range 3)) (List.map zv1 (Value.agg #[Value.int Z 0, Value.int Z 0, Value.int Z 0]).cells.toList))) d A (↑d : Int).toNat 0 0 0 0 0 0 0).getD default).2.2.2.2.2.2.1, V Z ((o79_0 z C (↑z : Int) 0 ((↑d : Int).toNat) (datC [V Z 0, V Z 0, V Z 0]) d A ((↑d : Int).toNat) 0 0 0 0 0 0 0).getD default).2.2.2.2.2.2.2.1, V Z ((o79_0 z C (↑z : Int) 0 ((↑d : Int).toNat) (datC [V Z 0, V Z 0, V Z 0]) d A ((↑d : Int).toNat) 0 0 0 0 0 0 0).getD default).2.2.2.2.2.2.2.2.1, V Z ((o79_0 z C (↑z : Int) 0 ((↑d : Int).toNat) (datC [V Z 0, V Z 0, V Z 0]) d A ((↑d : Int).toNat) 0 0 0 0 0 0 0).getD default).2.2.2.2.2.2.2.2.2.1, V Z ((o79_0 z C (↑z : Int) 0 ((↑d : Int).toNat) (datC [V Z 0, V Z 0, V Z 0]) d A ((↑d : Int).toNat) 0 0 0 0 0 0 0).getD default).2.2.2.2.2.2.2.2.2.2.1, V Z ((o79_0 z C (↑z : Int) 0 ((↑d : Int).toNat) (datC [V Z 0, V Z 0, V Z 0]) d A ((↑d : Int).toNat) 0 0 0 0 0 0 0).getD default).2.2.2.2.2.2.2.2.2.2.2.1, V Z ((o79_0 z C (↑z : Int) 0 ((↑d : Int).toNat) (datC [V Z 0, V Z 0, V Z 0]) d A ((↑d : Int).toNat) 0 0 0 0 0 0 0).getD default).2.2.2.2.2.2.2.2.2.2.2.2.1, V Z ((o79_0 z C (↑z : Int) 0 ((↑d : Int).toNat) (datC [V Z 0, V Z 0, V Z 0]) d A ((↑d : Int).toNat) 0 0 0 0 0 0 0).getD default).2.2.2.2.2.2.2.2.2.2.2.2.2], .row 153 [W Z, W Z, W Z] ((o79_0 z C (↑z : Int) 0 (↑d : Int).toNat (datC (fitL (List.flatMap (fun x => [Kd.int Z]) (List.range 3)) (List.map zv1 (Value.agg #[Value.int Z 0, Value.int Z 0, Value.int Z 0]).cells.toList))) d A (↑d : Int).toNat 0 0 0 0 0 0 0).getD default).2.2.1 ((o79_0 z C (↑z : Int) 0 (↑d : Int).toNat (datC (fitL (List.flatMap (fun x => [Kd.int Z]) (List.range 3)) (List.map zv1 (Value.agg #[Value.int Z 0, Value.int Z 0, Value.int Z 0]).cells.toList))) d A (↑d : Int).toNat 0 0 0 0 0 0 0).getD default).2.2.2.1]))
   False)
   False)))
 False) := by kernel_rfl
def m79a (d : Nat) (A : Dat) (z : Nat) (C : Dat) : Int × Int :=
 (cond (bif (decide ((m50 d A) = 0)) then false else true) (0, (m50 d A)) (cond (decide ((200 : Int) < (↑z : Int))) (0, 8) (((o79_0 z C (↑z : Int) 0 ((↑d : Int).toNat) (datC [V Z 0, V Z 0, V Z 0]) d A ((↑d : Int).toNat) 0 0 0 0 0 0 0).getD default).2.1.1, ((o79_0 z C (↑z : Int) 0 ((↑d : Int).toNat) (datC [V Z 0, V Z 0, V Z 0]) d A ((↑d : Int).toNat) 0 0 0 0 0 0 0).getD default).2.1.2.1)))
def n79a (d : Nat) (A : Dat) (z : Nat) (C : Dat) : Bool :=
 ((n50 d A) && (cond (bif (decide ((m50 d A) = 0)) then false else true) true (cond (decide ((200 : Int) < (↑z : Int))) true ((decide (0 ≤ (↑d : Int) ∧ (↑d : Int) ≤ (↑d : Int) ∧ (↑d : Int) ≤ 1073741824)) && (((o79_0 z C (↑z : Int) 0 ((↑d : Int).toNat) (datC [V Z 0, V Z 0, V Z 0]) d A ((↑d : Int).toNat) 0 0 0 0 0 0 0).isSome) && (((o79_0 z C (↑z : Int) 0 ((↑d : Int).toNat) (datC [V Z 0, V Z 0, V Z 0]) d A ((↑d : Int).toNat) 0 0 0 0 0 0 0).getD default).1 && true))))))
def q79a (r : Int × Int) : SV × List Blk × List Blk := (.tup [.val (Value.pointer none), V Z r.1, V Z r.2], [], [])
def g79a : GF := fun vs bs => match vs, bs with
 | [.ro [.str, W Z, W Z] d A, .ro [W Z, W Z, .str, .str, W Z, W Z, W Z, .bool] z C], [] => some (rs 0 (q79a (m79a d A z C)) [n79a d A z C])
 | _, _ => none
def c79a : Ctr := genC [.ro [.str, W Z, W Z], .ro [W Z, W Z, .str, .str, W Z, W Z, W Z, .bool]] g79a
theorem k79a : CtrOk Try.prog c79a 79 := cx (tc k50 (tc k86 tn)) mix_ok 8 (fn := Try.f79) (c := (Try.f79.body.getD .skip)) (grs := []) (rh := .k) Try.func79 rfl (by kernel_rfl) (lam_of rfl (lc z79_0 ln)) fun vs bs q h hn => by
 unfold g79a at h
 split at h <;> cases h
 rename_i d A z C
 have hn := n1 hn
 exact ⟨_, rfl, propOf (x79 d A z C _) (cn (al hn) (co (fun h0 => lf (cT h0 rfl) rfl) (fun h0 => co (fun h1 => lf (cF h0 (cT h1 rfl)) rfl) (fun h1 => cn (al (cf h1 (cf h0 (ar hn)))) (cn (al (ar (cf h1 (cf h0 (ar hn))))) (co (fun _ => lf (cF h0 (cF h1 rfl)) rfl) (fun h2 => (Bool.false_ne_true (h2.symm.trans (al (ar (ar (cf h1 (cf h0 (ar hn)))))))).elim)))))))⟩
def m79b (d : Nat) (A : Dat) (z : Nat) (C : Dat) : Int × Int × Nat × Dat × Nat × Int × Int × Int × Int × Int × Int × Int × Nat × Dat :=
 (0, 0, ((o79_0 z C (↑z : Int) 0 (↑d : Int).toNat (datC (fitL (List.flatMap (fun x => [Kd.int Z]) (List.range 3)) (List.map zv1 (Value.agg #[Value.int Z 0, Value.int Z 0, Value.int Z 0]).cells.toList))) d A (↑d : Int).toNat 0 0 0 0 0 0 0).getD default).2.2.2.2.1, ((o79_0 z C (↑z : Int) 0 (↑d : Int).toNat (datC (fitL (List.flatMap (fun x => [Kd.int Z]) (List.range 3)) (List.map zv1 (Value.agg #[Value.int Z 0, Value.int Z 0, Value.int Z 0]).cells.toList))) d A (↑d : Int).toNat 0 0 0 0 0 0 0).getD default).2.2.2.2.2.1, ((o79_0 z C (↑z : Int) 0 (↑d : Int).toNat (datC (fitL (List.flatMap (fun x => [Kd.int Z]) (List.range 3)) (List.map zv1 (Value.agg #[Value.int Z 0, Value.int Z 0, Value.int Z 0]).cells.toList))) d A (↑d : Int).toNat 0 0 0 0 0 0 0).getD default).2.2.2.2.2.2.1, ((o79_0 z C (↑z : Int) 0 ((↑d : Int).toNat) (datC [V Z 0, V Z 0, V Z 0]) d A ((↑d : Int).toNat) 0 0 0 0 0 0 0).getD default).2.2.2.2.2.2.2.1, ((o79_0 z C (↑z : Int) 0 ((↑d : Int).toNat) (datC [V Z 0, V Z 0, V Z 0]) d A ((↑d : Int).toNat) 0 0 0 0 0 0 0).getD default).2.2.2.2.2.2.2.2.1, ((o79_0 z C (↑z : Int) 0 ((↑d : Int).toNat) (datC [V Z 0, V Z 0, V Z 0]) d A ((↑d : Int).toNat) 0 0 0 0 0 0 0).getD default).2.2.2.2.2.2.2.2.2.1, ((o79_0 z C (↑z : Int) 0 ((↑d : Int).toNat) (datC [V Z 0, V Z 0, V Z 0]) d A ((↑d : Int).toNat) 0 0 0 0 0 0 0).getD default).2.2.2.2.2.2.2.2.2.2.1, ((o79_0 z C (↑z : Int) 0 ((↑d : Int).toNat) (datC [V Z 0, V Z 0, V Z 0]) d A ((↑d : Int).toNat) 0 0 0 0 0 0 0).getD default).2.2.2.2.2.2.2.2.2.2.2.1, ((o79_0 z C (↑z : Int) 0 ((↑d : Int).toNat) (datC [V Z 0, V Z 0, V Z 0]) d A ((↑d : Int).toNat) 0 0 0 0 0 0 0).getD default).2.2.2.2.2.2.2.2.2.2.2.2.1, ((o79_0 z C (↑z : Int) 0 ((↑d : Int).toNat) (datC [V Z 0, V Z 0, V Z 0]) d A ((↑d : Int).toNat) 0 0 0 0 0 0 0).getD default).2.2.2.2.2.2.2.2.2.2.2.2.2, ((o79_0 z C (↑z : Int) 0 (↑d : Int).toNat (datC (fitL (List.flatMap (fun x => [Kd.int Z]) (List.range 3)) (List.map zv1 (Value.agg #[Value.int Z 0, Value.int Z 0, Value.int Z 0]).cells.toList))) d A (↑d : Int).toNat 0 0 0 0 0 0 0).getD default).2.2.1, ((o79_0 z C (↑z : Int) 0 (↑d : Int).toNat (datC (fitL (List.flatMap (fun x => [Kd.int Z]) (List.range 3)) (List.map zv1 (Value.agg #[Value.int Z 0, Value.int Z 0, Value.int Z 0]).cells.toList))) d A (↑d : Int).toNat 0 0 0 0 0 0 0).getD default).2.2.2.1)
def n79b (d : Nat) (A : Dat) (z : Nat) (C : Dat) : Bool :=
 ((n50 d A) && (!(bif (decide ((m50 d A) = 0)) then false else true) && (!(decide ((200 : Int) < (↑z : Int))) && ((decide (0 ≤ (↑d : Int) ∧ (↑d : Int) ≤ (↑d : Int) ∧ (↑d : Int) ≤ 1073741824)) && (((o79_0 z C (↑z : Int) 0 ((↑d : Int).toNat) (datC [V Z 0, V Z 0, V Z 0]) d A ((↑d : Int).toNat) 0 0 0 0 0 0 0).isSome) && (!((o79_0 z C (↑z : Int) 0 ((↑d : Int).toNat) (datC [V Z 0, V Z 0, V Z 0]) d A ((↑d : Int).toNat) 0 0 0 0 0 0 0).getD default).1 && true))))))
def q79b (r : Int × Int × Nat × Dat × Nat × Int × Int × Int × Int × Int × Int × Int × Nat × Dat) : SV × List Blk × List Blk := (.tup [.ptr 0 0, V Z r.1, V Z r.2.1], [], [.cells 155 [.ro [.str, W Z, W Z] r.2.2.1 r.2.2.2.1, .own 1 3 r.2.2.2.2.1, V Z r.2.2.2.2.2.1, V Z r.2.2.2.2.2.2.1, V Z r.2.2.2.2.2.2.2.1, V Z r.2.2.2.2.2.2.2.2.1, V Z r.2.2.2.2.2.2.2.2.2.1, V Z r.2.2.2.2.2.2.2.2.2.2.1, V Z r.2.2.2.2.2.2.2.2.2.2.2.1], .row 153 [W Z, W Z, W Z] r.2.2.2.2.2.2.2.2.2.2.2.2.1 r.2.2.2.2.2.2.2.2.2.2.2.2.2])
def g79b : GF := fun vs bs => match vs, bs with
 | [.ro [.str, W Z, W Z] d A, .ro [W Z, W Z, .str, .str, W Z, W Z, W Z, .bool] z C], [] => some (rs 0 (q79b (m79b d A z C)) [n79b d A z C])
 | _, _ => none
def c79b : Ctr := genC [.ro [.str, W Z, W Z], .ro [W Z, W Z, .str, .str, W Z, W Z, W Z, .bool]] g79b
theorem k79b : CtrOk Try.prog c79b 79 := cx (tc k50 (tc k86 tn)) mix_ok 8 (fn := Try.f79) (c := (Try.f79.body.getD .skip)) (grs := []) (rh := .k) Try.func79 rfl (by kernel_rfl) (lam_of rfl (lc z79_0 ln)) fun vs bs q h hn => by
 unfold g79b at h
 split at h <;> cases h
 rename_i d A z C
 have hn := n1 hn
 exact ⟨_, rfl, propOf (x79 d A z C _) (cn (al hn) (co (fun h0 => (Bool.false_ne_true ((not_l (ar hn)).symm.trans h0)).elim) (fun _ => co (fun h0 => (Bool.false_ne_true ((not_l (not_r (ar hn))).symm.trans h0)).elim) (fun _ => cn (al (not_r (not_r (ar hn)))) (cn (al (ar (not_r (not_r (ar hn))))) (co (fun h0 => (Bool.false_ne_true ((not_l (ar (ar (not_r (not_r (ar hn)))))).symm.trans h0)).elim) (fun _ => lf rfl rfl)))))))⟩

/-! ### shotline/mix.held -/
def m109 (a : Nat) (d : Dat) (e : Nat) (g : Dat) (i : ByteArray) : Int × Int × Int × Int × Int :=
 (cond (n79a a d e g) (cond (bif (decide ((m79a a d e g).2 = 0)) then false else true) (0, 0, 0, 0, (m79a a d e g).2) (0, 0, 0, 0, 6)) (cond (bif (decide ((m79b a d e g).2.1 = 0)) then false else true) (0, 0, 0, 0, (m79b a d e g).2.1) (cond (decide ((m105 a d i) < 0)) (0, 0, 0, 0, 6) (((m79b a d e g).2.2.2.2.2.2.2.2.2.2.2.2.2.ii ((m105 a d i).toNat) 0), ((m79b a d e g).2.2.2.2.2.2.2.2.2.2.2.2.2.ii ((m105 a d i).toNat) (0 + 1)), ((m79b a d e g).2.2.2.2.2.2.2.2.2.2.2.2.2.ii ((m105 a d i).toNat) ((0 + 1) + 1)), (d.ii ((m105 a d i).toNat) (0 + 1)), 0))))
def n109 (a : Nat) (d : Dat) (e : Nat) (g : Dat) (i : ByteArray) : Bool :=
 (cond (n79a a d e g) ((n79a a d e g) && (cond (bif (decide ((m79a a d e g).2 = 0)) then false else true) true ((n105 a d i) && ((decide ((m105 a d i) < 0)) && true)))) ((n79b a d e g) && (cond (bif (decide ((m79b a d e g).2.1 = 0)) then false else true) true ((n105 a d i) && (cond (decide ((m105 a d i) < 0)) true ((decide (0 ≤ m105 a d i ∧ m105 a d i < (↑(m79b a d e g).2.2.2.2.1 : Int))) && ((decide (((m105 a d i).toNat) < (m79b a d e g).2.2.2.2.2.2.2.2.2.2.2.2.1)) && ((decide (0 ≤ m105 a d i ∧ m105 a d i < (↑a : Int))) && true))))))))
def q109 (r : Int × Int × Int × Int × Int) : SV × List Blk × List Blk := (.tup [.agg [V Z r.1, V Z r.2.1, V Z r.2.2.1], V Z r.2.2.2.1, V Z r.2.2.2.2], [], [])
def g109 : GF := fun vs bs => match vs, bs with
 | [.ro [.str, W Z, W Z] a d, .ro [W Z, W Z, .str, .str, W Z, W Z, W Z, .bool] e g, .str i], [] => some (rs 0 (q109 (m109 a d e g i)) [n109 a d e g i])
 | _, _ => none
def c109 : Ctr := genC [.ro [.str, W Z, W Z], .ro [W Z, W Z, .str, .str, W Z, W Z, W Z, .bool], .k] g109
theorem k109 : CtrOk Try.prog c109 109 := cx (tc k79a (tc k79b (tc k105 tn))) mix_ok 8 (fn := Try.f109) (c := (Try.f109.body.getD .skip)) (grs := []) (rh := .k) Try.func109 rfl (by kernel_rfl) noLam fun vs bs q h hn => by
 unfold g109 at h
 split at h <;> cases h
 rename_i a d e g i
 have hn := n1 hn
 exact ⟨_, rfl, ca (fun R => 
 let a0 := ((m105 a d i).toNat)
 let b0 := (.tup [.agg [V Z 0, V Z 0, V Z 0], V Z 0, V Z 6])
 ((cnd (n79a a d e g)
 (cnd (bif (decide ((m79a a d e g).2 = 0)) then false else true)
 (R (.tup [.agg [V Z 0, V Z 0, V Z 0], V Z 0, V Z (m79a a d e g).2]) [] [])
 (cnd (n105 a d i)
 (cnd (decide ((m105 a d i) < 0))
 (R b0 [] [])
   False)
   False))
  False) ∨
 (cnd (n79b a d e g)
 (cnd (bif (decide ((m79b a d e g).2.1 = 0)) then false else true)
 (R (.tup [.agg [V Z 0, V Z 0, V Z 0], V Z 0, V Z (m79b a d e g).2.1]) [] [])
 (cnd (n105 a d i)
 (cnd (decide ((m105 a d i) < 0))
 (R b0 [] [])
 (cnd (decide (0 ≤ m105 a d i ∧ m105 a d i < (↑(m79b a d e g).2.2.2.2.1 : Int)))
 (cnd (decide (a0 < (m79b a d e g).2.2.2.2.2.2.2.2.2.2.2.2.1))
 (cnd (decide (0 ≤ m105 a d i ∧ m105 a d i < (↑a : Int)))
 (R (.tup [.agg [V Z ((m79b a d e g).2.2.2.2.2.2.2.2.2.2.2.2.2.ii a0 0), V Z ((m79b a d e g).2.2.2.2.2.2.2.2.2.2.2.2.2.ii a0 (0 + 1)), V Z ((m79b a d e g).2.2.2.2.2.2.2.2.2.2.2.2.2.ii a0 ((0 + 1) + 1))], V Z (d.ii a0 (0 + 1)), V Z 0]) [] [])
     False)
    False)
    False))
   False))
  False))) (fun R => by kernel_rfl) (or_of (b := (n79a a d e g)) (fun h0 => cn (al (ct h0 hn)) (co (fun h1 => lf (cT h0 (cT h1 rfl)) rfl) (fun h1 => cn (al (cf h1 (ar (ct h0 hn)))) (cn (al (ar (cf h1 (ar (ct h0 hn))))) (lf (cT h0 (cF h1 rfl)) rfl))))) (fun h0 => cn (al (cf h0 hn)) (co (fun h1 => lf (cF h0 (cT h1 rfl)) rfl) (fun h1 => cn (al (cf h1 (ar (cf h0 hn)))) (co (fun h2 => lf (cF h0 (cF h1 (cT h2 rfl))) rfl) (fun h2 => cn (al (cf h2 (ar (cf h1 (ar (cf h0 hn)))))) (cn (al (ar (cf h2 (ar (cf h1 (ar (cf h0 hn))))))) (cn (al (ar (ar (cf h2 (ar (cf h1 (ar (cf h0 hn)))))))) (lf (cF h0 (cF h1 (cF h2 rfl))) rfl)))))))))⟩
/-! ### shotline/mix.PressureOf -/
def m57 (a : Nat) (b : Dat) (d : Nat) (e : Dat) (g : ByteArray) : Int × Int × Int :=
 (cond (bif (decide ((m109 a b d e g).2.2.2.2 = 0)) then false else true) (0, 0, (m109 a b d e g).2.2.2.2) ((m89 (Z.wrap (1000 * (m84 (m109 a b d e g).1 (m109 a b d e g).2.1 (m109 a b d e g).2.2.1))) (m109 a b d e g).2.2.2.1).1, (m89 (Z.wrap (1000 * (m84 (m109 a b d e g).1 (m109 a b d e g).2.1 (m109 a b d e g).2.2.1))) (m109 a b d e g).2.2.2.1).2, 0))
def n57 (a : Nat) (b : Dat) (d : Nat) (e : Dat) (g : ByteArray) : Bool :=
 ((n109 a b d e g) && (cond (bif (decide ((m109 a b d e g).2.2.2.2 = 0)) then false else true) true ((n89 (Z.wrap (1000 * (m84 (m109 a b d e g).1 (m109 a b d e g).2.1 (m109 a b d e g).2.2.1))) (m109 a b d e g).2.2.2.1) && true)))
def q57 (r : Int × Int × Int) : SV × List Blk × List Blk := (.tup [.agg [V Z r.1, V Z r.2.1], V Z r.2.2], [], [])
def g57 : GF := fun vs bs => match vs, bs with
 | [.ro [.str, W Z, W Z] a b, .ro [W Z, W Z, .str, .str, W Z, W Z, W Z, .bool] d e, .str g], [] => some (rs 0 (q57 (m57 a b d e g)) [n57 a b d e g])
 | _, _ => none
def c57 : Ctr := genC [.ro [.str, W Z, W Z], .ro [W Z, W Z, .str, .str, W Z, W Z, W Z, .bool], .k] g57
theorem k57 : CtrOk Try.prog c57 57 := cx (tc k84 (tc k89 (tc k109 tn))) mix_ok 8 (fn := Try.f57) (c := (Try.f57.body.getD .skip)) (grs := []) (rh := .k) Try.func57 rfl (by kernel_rfl) noLam fun vs bs q h hn => by
 unfold g57 at h
 split at h <;> cases h
 rename_i a b d e g
 have hn := n1 hn
 exact ⟨_, rfl, ca (fun R => 
 let a0 := (Z.wrap (1000 * (m84 (m109 a b d e g).1 (m109 a b d e g).2.1 (m109 a b d e g).2.2.1)))
 (cnd (n109 a b d e g)
 (cnd (bif (decide ((m109 a b d e g).2.2.2.2 = 0)) then false else true)
 (R (.tup [.agg [V Z 0, V Z 0], V Z (m109 a b d e g).2.2.2.2]) [] [])
 (cnd (n89 a0 (m109 a b d e g).2.2.2.1)
 (R (.tup [.agg [V Z (m89 a0 (m109 a b d e g).2.2.2.1).1, V Z (m89 a0 (m109 a b d e g).2.2.2.1).2], V Z 0]) [] [])
  False))
 False)) (fun R => by kernel_rfl) (cn (al hn) (co (fun h0 => lf (cT h0 rfl) rfl) (fun h0 => cn (al (cf h0 (ar hn))) (lf (cF h0 rfl) rfl))))⟩
/-! ### shotline/mix.Compare -/
def m71 (d : Nat) (e : Dat) (g i j l m n o p : Int) (s : Nat) (t : Dat) (u w x y z A v : Int) : Int × Int :=
 (cond (n93a d e g i j l m n o p) (0, (m93a d e g i j l m n o p)) (cond (bif (decide ((m93b d e g i j l m n o p).1 = 0)) then false else true) (0, (m93b d e g i j l m n o p).1) (cond (bif (decide ((m97 (datC [SV.ro [Kd.str, Kd.int Z, Kd.int Z, Kd.int Z, Kd.int Z] (m93b d e g i j l m n o p).2.1 (m93b d e g i j l m n o p).2.2.1, V Z (m93b d e g i j l m n o p).2.2.2.1, V Z (m93b d e g i j l m n o p).2.2.2.2.1, V Z (m93b d e g i j l m n o p).2.2.2.2.2.1, V Z (m93b d e g i j l m n o p).2.2.2.2.2.2.1, V Z (m93b d e g i j l m n o p).2.2.2.2.2.2.2.1, V Z (m93b d e g i j l m n o p).2.2.2.2.2.2.2.2.1, V Z (m93b d e g i j l m n o p).2.2.2.2.2.2.2.2.2.1, V Z (m93b d e g i j l m n o p).2.2.2.2.2.2.2.2.2.2.1, V Z (m93b d e g i j l m n o p).2.2.2.2.2.2.2.2.2.2.2.1, V Z (m93b d e g i j l m n o p).2.2.2.2.2.2.2.2.2.2.2.2.1, V Z (m93b d e g i j l m n o p).2.2.2.2.2.2.2.2.2.2.2.2.2.1, V Z (m93b d e g i j l m n o p).2.2.2.2.2.2.2.2.2.2.2.2.2.2.1, V Z (m93b d e g i j l m n o p).2.2.2.2.2.2.2.2.2.2.2.2.2.2.2]) s t u).2 = 0)) then false else true) (0, (m97 (datC [SV.ro [Kd.str, Kd.int Z, Kd.int Z, Kd.int Z, Kd.int Z] (m93b d e g i j l m n o p).2.1 (m93b d e g i j l m n o p).2.2.1, V Z (m93b d e g i j l m n o p).2.2.2.1, V Z (m93b d e g i j l m n o p).2.2.2.2.1, V Z (m93b d e g i j l m n o p).2.2.2.2.2.1, V Z (m93b d e g i j l m n o p).2.2.2.2.2.2.1, V Z (m93b d e g i j l m n o p).2.2.2.2.2.2.2.1, V Z (m93b d e g i j l m n o p).2.2.2.2.2.2.2.2.1, V Z (m93b d e g i j l m n o p).2.2.2.2.2.2.2.2.2.1, V Z (m93b d e g i j l m n o p).2.2.2.2.2.2.2.2.2.2.1, V Z (m93b d e g i j l m n o p).2.2.2.2.2.2.2.2.2.2.2.1, V Z (m93b d e g i j l m n o p).2.2.2.2.2.2.2.2.2.2.2.2.1, V Z (m93b d e g i j l m n o p).2.2.2.2.2.2.2.2.2.2.2.2.2.1, V Z (m93b d e g i j l m n o p).2.2.2.2.2.2.2.2.2.2.2.2.2.2.1, V Z (m93b d e g i j l m n o p).2.2.2.2.2.2.2.2.2.2.2.2.2.2.2]) s t u).2) (cond (bif (m98 w x y z A v) then false else true) (0, 2) ((m114 (m97 (datC [SV.ro [Kd.str, Kd.int Z, Kd.int Z, Kd.int Z, Kd.int Z] (m93b d e g i j l m n o p).2.1 (m93b d e g i j l m n o p).2.2.1, V Z (m93b d e g i j l m n o p).2.2.2.1, V Z (m93b d e g i j l m n o p).2.2.2.2.1, V Z (m93b d e g i j l m n o p).2.2.2.2.2.1, V Z (m93b d e g i j l m n o p).2.2.2.2.2.2.1, V Z (m93b d e g i j l m n o p).2.2.2.2.2.2.2.1, V Z (m93b d e g i j l m n o p).2.2.2.2.2.2.2.2.1, V Z (m93b d e g i j l m n o p).2.2.2.2.2.2.2.2.2.1, V Z (m93b d e g i j l m n o p).2.2.2.2.2.2.2.2.2.2.1, V Z (m93b d e g i j l m n o p).2.2.2.2.2.2.2.2.2.2.2.1, V Z (m93b d e g i j l m n o p).2.2.2.2.2.2.2.2.2.2.2.2.1, V Z (m93b d e g i j l m n o p).2.2.2.2.2.2.2.2.2.2.2.2.2.1, V Z (m93b d e g i j l m n o p).2.2.2.2.2.2.2.2.2.2.2.2.2.2.1, V Z (m93b d e g i j l m n o p).2.2.2.2.2.2.2.2.2.2.2.2.2.2.2]) s t u).1 u (m99 (datC [SV.ro [Kd.str, Kd.int Z, Kd.int Z, Kd.int Z, Kd.int Z] (m93b d e g i j l m n o p).2.1 (m93b d e g i j l m n o p).2.2.1, V Z (m93b d e g i j l m n o p).2.2.2.1, V Z (m93b d e g i j l m n o p).2.2.2.2.1, V Z (m93b d e g i j l m n o p).2.2.2.2.2.1, V Z (m93b d e g i j l m n o p).2.2.2.2.2.2.1, V Z (m93b d e g i j l m n o p).2.2.2.2.2.2.2.1, V Z (m93b d e g i j l m n o p).2.2.2.2.2.2.2.2.1, V Z (m93b d e g i j l m n o p).2.2.2.2.2.2.2.2.2.1, V Z (m93b d e g i j l m n o p).2.2.2.2.2.2.2.2.2.2.1, V Z (m93b d e g i j l m n o p).2.2.2.2.2.2.2.2.2.2.2.1, V Z (m93b d e g i j l m n o p).2.2.2.2.2.2.2.2.2.2.2.2.1, V Z (m93b d e g i j l m n o p).2.2.2.2.2.2.2.2.2.2.2.2.2.1, V Z (m93b d e g i j l m n o p).2.2.2.2.2.2.2.2.2.2.2.2.2.2.1, V Z (m93b d e g i j l m n o p).2.2.2.2.2.2.2.2.2.2.2.2.2.2.2]) w x y z A v 1) v), 0)))))
def n71 (d : Nat) (e : Dat) (g i j l m n o p : Int) (s : Nat) (t : Dat) (u w x y z A v : Int) : Bool :=
 (cond (n93a d e g i j l m n o p) ((n93a d e g i j l m n o p) && ((bif (decide ((m93a d e g i j l m n o p) = 0)) then false else true) && true)) ((n93b d e g i j l m n o p) && (cond (bif (decide ((m93b d e g i j l m n o p).1 = 0)) then false else true) true ((n97 (datC [SV.ro [Kd.str, Kd.int Z, Kd.int Z, Kd.int Z, Kd.int Z] (m93b d e g i j l m n o p).2.1 (m93b d e g i j l m n o p).2.2.1, V Z (m93b d e g i j l m n o p).2.2.2.1, V Z (m93b d e g i j l m n o p).2.2.2.2.1, V Z (m93b d e g i j l m n o p).2.2.2.2.2.1, V Z (m93b d e g i j l m n o p).2.2.2.2.2.2.1, V Z (m93b d e g i j l m n o p).2.2.2.2.2.2.2.1, V Z (m93b d e g i j l m n o p).2.2.2.2.2.2.2.2.1, V Z (m93b d e g i j l m n o p).2.2.2.2.2.2.2.2.2.1, V Z (m93b d e g i j l m n o p).2.2.2.2.2.2.2.2.2.2.1, V Z (m93b d e g i j l m n o p).2.2.2.2.2.2.2.2.2.2.2.1, V Z (m93b d e g i j l m n o p).2.2.2.2.2.2.2.2.2.2.2.2.1, V Z (m93b d e g i j l m n o p).2.2.2.2.2.2.2.2.2.2.2.2.2.1, V Z (m93b d e g i j l m n o p).2.2.2.2.2.2.2.2.2.2.2.2.2.2.1, V Z (m93b d e g i j l m n o p).2.2.2.2.2.2.2.2.2.2.2.2.2.2.2]) s t u) && (cond (bif (decide ((m97 (datC [SV.ro [Kd.str, Kd.int Z, Kd.int Z, Kd.int Z, Kd.int Z] (m93b d e g i j l m n o p).2.1 (m93b d e g i j l m n o p).2.2.1, V Z (m93b d e g i j l m n o p).2.2.2.1, V Z (m93b d e g i j l m n o p).2.2.2.2.1, V Z (m93b d e g i j l m n o p).2.2.2.2.2.1, V Z (m93b d e g i j l m n o p).2.2.2.2.2.2.1, V Z (m93b d e g i j l m n o p).2.2.2.2.2.2.2.1, V Z (m93b d e g i j l m n o p).2.2.2.2.2.2.2.2.1, V Z (m93b d e g i j l m n o p).2.2.2.2.2.2.2.2.2.1, V Z (m93b d e g i j l m n o p).2.2.2.2.2.2.2.2.2.2.1, V Z (m93b d e g i j l m n o p).2.2.2.2.2.2.2.2.2.2.2.1, V Z (m93b d e g i j l m n o p).2.2.2.2.2.2.2.2.2.2.2.2.1, V Z (m93b d e g i j l m n o p).2.2.2.2.2.2.2.2.2.2.2.2.2.1, V Z (m93b d e g i j l m n o p).2.2.2.2.2.2.2.2.2.2.2.2.2.2.1, V Z (m93b d e g i j l m n o p).2.2.2.2.2.2.2.2.2.2.2.2.2.2.2]) s t u).2 = 0)) then false else true) true ((n98 w x y z A v) && (cond (bif (m98 w x y z A v) then false else true) true ((n99 (datC [SV.ro [Kd.str, Kd.int Z, Kd.int Z, Kd.int Z, Kd.int Z] (m93b d e g i j l m n o p).2.1 (m93b d e g i j l m n o p).2.2.1, V Z (m93b d e g i j l m n o p).2.2.2.1, V Z (m93b d e g i j l m n o p).2.2.2.2.1, V Z (m93b d e g i j l m n o p).2.2.2.2.2.1, V Z (m93b d e g i j l m n o p).2.2.2.2.2.2.1, V Z (m93b d e g i j l m n o p).2.2.2.2.2.2.2.1, V Z (m93b d e g i j l m n o p).2.2.2.2.2.2.2.2.1, V Z (m93b d e g i j l m n o p).2.2.2.2.2.2.2.2.2.1, V Z (m93b d e g i j l m n o p).2.2.2.2.2.2.2.2.2.2.1, V Z (m93b d e g i j l m n o p).2.2.2.2.2.2.2.2.2.2.2.1, V Z (m93b d e g i j l m n o p).2.2.2.2.2.2.2.2.2.2.2.2.1, V Z (m93b d e g i j l m n o p).2.2.2.2.2.2.2.2.2.2.2.2.2.1, V Z (m93b d e g i j l m n o p).2.2.2.2.2.2.2.2.2.2.2.2.2.2.1, V Z (m93b d e g i j l m n o p).2.2.2.2.2.2.2.2.2.2.2.2.2.2.2]) w x y z A v 1) && ((n114 (m97 (datC [SV.ro [Kd.str, Kd.int Z, Kd.int Z, Kd.int Z, Kd.int Z] (m93b d e g i j l m n o p).2.1 (m93b d e g i j l m n o p).2.2.1, V Z (m93b d e g i j l m n o p).2.2.2.1, V Z (m93b d e g i j l m n o p).2.2.2.2.1, V Z (m93b d e g i j l m n o p).2.2.2.2.2.1, V Z (m93b d e g i j l m n o p).2.2.2.2.2.2.1, V Z (m93b d e g i j l m n o p).2.2.2.2.2.2.2.1, V Z (m93b d e g i j l m n o p).2.2.2.2.2.2.2.2.1, V Z (m93b d e g i j l m n o p).2.2.2.2.2.2.2.2.2.1, V Z (m93b d e g i j l m n o p).2.2.2.2.2.2.2.2.2.2.1, V Z (m93b d e g i j l m n o p).2.2.2.2.2.2.2.2.2.2.2.1, V Z (m93b d e g i j l m n o p).2.2.2.2.2.2.2.2.2.2.2.2.1, V Z (m93b d e g i j l m n o p).2.2.2.2.2.2.2.2.2.2.2.2.2.1, V Z (m93b d e g i j l m n o p).2.2.2.2.2.2.2.2.2.2.2.2.2.2.1, V Z (m93b d e g i j l m n o p).2.2.2.2.2.2.2.2.2.2.2.2.2.2.2]) s t u).1 u (m99 (datC [SV.ro [Kd.str, Kd.int Z, Kd.int Z, Kd.int Z, Kd.int Z] (m93b d e g i j l m n o p).2.1 (m93b d e g i j l m n o p).2.2.1, V Z (m93b d e g i j l m n o p).2.2.2.1, V Z (m93b d e g i j l m n o p).2.2.2.2.1, V Z (m93b d e g i j l m n o p).2.2.2.2.2.1, V Z (m93b d e g i j l m n o p).2.2.2.2.2.2.1, V Z (m93b d e g i j l m n o p).2.2.2.2.2.2.2.1, V Z (m93b d e g i j l m n o p).2.2.2.2.2.2.2.2.1, V Z (m93b d e g i j l m n o p).2.2.2.2.2.2.2.2.2.1, V Z (m93b d e g i j l m n o p).2.2.2.2.2.2.2.2.2.2.1, V Z (m93b d e g i j l m n o p).2.2.2.2.2.2.2.2.2.2.2.1, V Z (m93b d e g i j l m n o p).2.2.2.2.2.2.2.2.2.2.2.2.1, V Z (m93b d e g i j l m n o p).2.2.2.2.2.2.2.2.2.2.2.2.2.1, V Z (m93b d e g i j l m n o p).2.2.2.2.2.2.2.2.2.2.2.2.2.2.1, V Z (m93b d e g i j l m n o p).2.2.2.2.2.2.2.2.2.2.2.2.2.2.2]) w x y z A v 1) v) && true)))))))))
def q71 (r : Int × Int) : SV × List Blk × List Blk := (.tup [V Z r.1, V Z r.2], [], [])
def g71 : GF := fun vs bs => match vs, bs with
 | [.agg [.ro [.str, W Z, W Z, W Z, W Z] d e, V Z g, V Z i, V Z j, V Z l, V Z m, V Z n, V Z o, V Z p], .agg [.ro [W Z] s t, V Z u], .agg [V Z w, V Z x, V Z y, V Z z, V Z A, V Z v]], [] => some (rs 0 (q71 (m71 d e g i j l m n o p s t u w x y z A v)) [n71 d e g i j l m n o p s t u w x y z A v])
 | _, _ => none
def c71 : Ctr := genC [.a [.ro [.str, W Z, W Z, W Z, W Z], .k, .k, .k, .k, .k, .k, .k, .k], .a [.ro [W Z], .k], .k] g71
theorem k71 : CtrOk Try.prog c71 71 := cx (tc k93a (tc k93b (tc k97 (tc k98 (tc k99 (tc k114 tn)))))) mix_ok 8 (fn := Try.f71) (c := (Try.f71.body.getD .skip)) (grs := []) (rh := .k) Try.func71 rfl (by kernel_rfl) noLam fun vs bs q h hn => by
 unfold g71 at h
 split at h <;> cases h
 rename_i d e g i j l m n o p s t u w x y z A v
 have hn := n1 hn
 exact ⟨_, rfl, ca (fun R => 
 let a0 := (datC [SV.ro [Kd.str, Kd.int Z, Kd.int Z, Kd.int Z, Kd.int Z] (m93b d e g i j l m n o p).2.1 (m93b d e g i j l m n o p).2.2.1, V Z (m93b d e g i j l m n o p).2.2.2.1, V Z (m93b d e g i j l m n o p).2.2.2.2.1, V Z (m93b d e g i j l m n o p).2.2.2.2.2.1, V Z (m93b d e g i j l m n o p).2.2.2.2.2.2.1, V Z (m93b d e g i j l m n o p).2.2.2.2.2.2.2.1, V Z (m93b d e g i j l m n o p).2.2.2.2.2.2.2.2.1, V Z (m93b d e g i j l m n o p).2.2.2.2.2.2.2.2.2.1, V Z (m93b d e g i j l m n o p).2.2.2.2.2.2.2.2.2.2.1, V Z (m93b d e g i j l m n o p).2.2.2.2.2.2.2.2.2.2.2.1, V Z (m93b d e g i j l m n o p).2.2.2.2.2.2.2.2.2.2.2.2.1, V Z (m93b d e g i j l m n o p).2.2.2.2.2.2.2.2.2.2.2.2.2.1, V Z (m93b d e g i j l m n o p).2.2.2.2.2.2.2.2.2.2.2.2.2.2.1, V Z (m93b d e g i j l m n o p).2.2.2.2.2.2.2.2.2.2.2.2.2.2.2])
 ((cnd (n93a d e g i j l m n o p)
 (cnd (bif (decide ((m93a d e g i j l m n o p) = 0)) then false else true)
 (R (.tup [V Z 0, V Z (m93a d e g i j l m n o p)]) [] [])
  False)
  False) ∨
 (cnd (n93b d e g i j l m n o p)
 (cnd (bif (decide ((m93b d e g i j l m n o p).1 = 0)) then false else true)
 (R (.tup [V Z 0, V Z (m93b d e g i j l m n o p).1]) [] [])
 (cnd (n97 a0 s t u)
 (cnd (bif (decide ((m97 a0 s t u).2 = 0)) then false else true)
 (R (.tup [V Z 0, V Z (m97 a0 s t u).2]) [] [])
 (cnd (n98 w x y z A v)
 (cnd (bif (m98 w x y z A v) then false else true)
 (R (.tup [V Z 0, V Z 2]) [] [])
 (cnd (n99 a0 w x y z A v 1)
 (cnd (n114 (m97 a0 s t u).1 u (m99 a0 w x y z A v 1) v)
 (R (.tup [V Z (m114 (m97 a0 s t u).1 u (m99 a0 w x y z A v 1) v), V Z 0]) [] [])
     False)
     False))
    False))
   False))
  False))) (fun R => by kernel_rfl) (or_of (b := (n93a d e g i j l m n o p)) (fun h0 => cn (al (ct h0 hn)) (cn (al (ar (ct h0 hn))) (lf (cT h0 rfl) rfl))) (fun h0 => cn (al (cf h0 hn)) (co (fun h1 => lf (cF h0 (cT h1 rfl)) rfl) (fun h1 => cn (al (cf h1 (ar (cf h0 hn)))) (co (fun h2 => lf (cF h0 (cF h1 (cT h2 rfl))) rfl) (fun h2 => cn (al (cf h2 (ar (cf h1 (ar (cf h0 hn)))))) (co (fun h3 => lf (cF h0 (cF h1 (cF h2 (cT h3 rfl)))) rfl) (fun h3 => cn (al (cf h3 (ar (cf h2 (ar (cf h1 (ar (cf h0 hn)))))))) (cn (al (ar (cf h3 (ar (cf h2 (ar (cf h1 (ar (cf h0 hn))))))))) (lf (cF h0 (cF h1 (cF h2 (cF h3 rfl)))) rfl))))))))))⟩
/-! ### shotline/shotlinetop.filled -/
def m18  : Bool :=
 (bif (bif (bif (decide ((m57 2 m76 2 m77 ({ data := #[OfNat.ofNat 98, OfNat.ofNat 97, OfNat.ofNat 110, OfNat.ofNat 107] } : ByteArray)).2.2 = 0)) then (bif (decide ((m57 2 m76 2 m77 ({ data := #[OfNat.ofNat 98, OfNat.ofNat 97, OfNat.ofNat 110, OfNat.ofNat 107] } : ByteArray)).1 = 162000)) then (bif (decide ((m57 2 m76 2 m77 ({ data := #[OfNat.ofNat 98, OfNat.ofNat 97, OfNat.ofNat 110, OfNat.ofNat 107] } : ByteArray)).2.1 = 162000)) then true else false) else false) else false) then (decide ((m38 2 m78.1 m78.2.1 m78.2.2.1 m78.2.2.2.1 m78.2.2.2.2.1 m78.2.2.2.2.2.1 m78.2.2.2.2.2.2.1 m78.2.2.2.2.2.2.2.1 m78.2.2.2.2.2.2.2.2 2 (datS [V Z 680, V Z 110] 1) 1).2 = 0)) else false) then (decide ((m38 2 m78.1 m78.2.1 m78.2.2.1 m78.2.2.2.1 m78.2.2.2.2.1 m78.2.2.2.2.2.1 m78.2.2.2.2.2.2.1 m78.2.2.2.2.2.2.2.1 m78.2.2.2.2.2.2.2.2 2 (datS [V Z 680, V Z 110] 1) 1).1 = 6860)) else false)
def n18  : Bool :=
 ((n57 2 m76 2 m77 ({ data := #[OfNat.ofNat 98, OfNat.ofNat 97, OfNat.ofNat 110, OfNat.ofNat 107] } : ByteArray)) && ((n38 2 m78.1 m78.2.1 m78.2.2.1 m78.2.2.2.1 m78.2.2.2.2.1 m78.2.2.2.2.2.1 m78.2.2.2.2.2.2.1 m78.2.2.2.2.2.2.2.1 m78.2.2.2.2.2.2.2.2 2 (datS [V Z 680, V Z 110] 1) 1) && true))
def q18 (r : Bool) : SV × List Blk × List Blk := (.bool r, [], [])
def g18 : GF := fun vs bs => match vs, bs with
 | [], [] => some (rs 0 (q18 (m18)) [n18 ])
 | _, _ => none
def c18 : Ctr := genC [] g18
theorem k18 : CtrOk Try.prog c18 18 := cx (tc k38 (tc k57 (tc k76 (tc k77 (tc k78 tn))))) mix_ok 8 (fn := Try.f18) (c := (Try.f18.body.getD .skip)) (grs := []) (rh := .k) Try.func18 rfl (by kernel_rfl) noLam fun vs bs q h hn => by
 unfold g18 at h
 split at h <;> cases h
 have hn := n1 hn
 exact ⟨_, rfl, ca (fun R => 
 let a0 := ({ data := #[OfNat.ofNat 98, OfNat.ofNat 97, OfNat.ofNat 110, OfNat.ofNat 107] } : ByteArray)
 let b0 := (m38 2 m78.1 m78.2.1 m78.2.2.1 m78.2.2.2.1 m78.2.2.2.2.1 m78.2.2.2.2.2.1 m78.2.2.2.2.2.2.1 m78.2.2.2.2.2.2.2.1 m78.2.2.2.2.2.2.2.2 2 (datS [V Z 680, V Z 110] 1) 1)
 (cnd (n57 2 m76 2 m77 a0)
 (cnd (n38 2 m78.1 m78.2.1 m78.2.2.1 m78.2.2.2.1 m78.2.2.2.2.1 m78.2.2.2.2.2.1 m78.2.2.2.2.2.2.1 m78.2.2.2.2.2.2.2.1 m78.2.2.2.2.2.2.2.2 2 (datS [V Z 680, V Z 110] 1) 1)
 (R (.bool (bif (bif (bif (decide ((m57 2 m76 2 m77 a0).2.2 = 0)) then (bif (decide ((m57 2 m76 2 m77 a0).1 = 162000)) then (bif (decide ((m57 2 m76 2 m77 a0).2.1 = 162000)) then true else false) else false) else false) then (decide (b0.2 = 0)) else false) then (decide (b0.1 = 6860)) else false)) [] [])
  False)
 False)) (fun R => by kernel_rfl) (cn (al hn) (cn (al (ar hn)) (lf rfl rfl)))⟩
/-! ### (*shotline/mix.asked).columns -/
def l136_0 (d : Nat) (b : Dat) (j : Int) : Nat → Nat → Int → Dat → Option (Nat × Nat × Dat)
 | 0, _, _, _ => none
 | f + 1, l, g, i => (cond (decide (g < j)) (cond (decide (0 ≤ g ∧ g < ↑d)) (cond (decide ((l + 1) ≤ 1073741824)) (l136_0 d b j f (l + 1) (Z.wrap (g + 1)) (i.app l (datS [V Z 1, V Z (b.ii g.toNat 1), V Z (b.ii g.toNat 2)] 3))) none) none) (some (l, l, i)))
abbrev o136_0 (d : Nat) (b : Dat) (j : Int) (l : Nat) (g : Int) (i : Dat) : Option (Nat × Nat × Dat) := l136_0 d b j (l + d + j.toNat + g.toNat + 8) l g i
def e136_0 (d : Nat) (b : Dat) (j : Int) (r : Nat × Nat × Dat) (K : XR) : Prop := K (XE.exit 0) [.gr 0 3 r.1] [.row 209 [W Z, W Z, W Z] r.2.1 r.2.2]
def g136_0 : LSum := fun s k => match czv 0 32 [3, 10, 11, 12] 1 [⟨true, 3, 0, 0, 209, [W Z, W Z, W Z]⟩] s with
 | some ([.gr 0 3 l, .ro [.str, W Z, W Z, W Z, W Z] d b, V Z j, V Z g], [.row 209 [W Z, W Z, W Z] b0_0 i]) => needs [decide (l = b0_0), (o136_0 d b j l g i).isSome] (e136_0 d b j ((o136_0 d b j l g i).getD default) fun e vs bs => inBlk 0 k e (mkSt 0 32 [3] vs 1 bs))
 | _ => False
theorem z136_0 : LOk Try.prog g136_0 (.block 0 (bodyAt (Try.f136.body.getD .skip) 0)) := by
 refine lb (ι := Nat × Nat × Dat × Int × Int × Dat) (fuel := 8) (na := 0) (nt := 32) (nx := 1) (Lh := [3, 10, 11, 12]) (Le := [3]) (gl := [⟨true, 3, 0, 0, 209, [W Z, W Z, W Z]⟩]) tn mix_ok noLam rfl (fun f (l, d, b, j, g, i) K => GG default (e136_0 d b j) K (l136_0 d b j f l g i)) (fun (l, d, b, j, g, i) => [.gr 0 3 l, .ro [.str, W Z, W Z, W Z, W Z] d b, V Z j, V Z g]) (fun (l, d, b, j, g, i) => [.row 209 [W Z, W Z, W Z] l i]) (fun (_, _, _, _, _, _) K => gg_none) ?_ ?_
 ·rintro f ⟨l, d, b, j, g, i⟩ K hG
  refine ro (fun R => (cnd (decide (g < j))
 (cnd (decide (0 ≤ g ∧ g < ↑d))
 (cnd (decide (l ≤ l))
 (cnd (decide ((l + 1) ≤ 1073741824))
 (R (XE.normal) [.gr 0 3 (l + 1), .ro [.str, W Z, W Z, W Z, W Z] d b, V Z j, V Z (Z.wrap (g + 1))] [.row 209 [W Z, W Z, W Z] (l + 1) (i.app l (datS [V Z 1, V Z (b.ii g.toNat 1), V Z (b.ii g.toNat 2)] 3))])
   False)
  False)
  False)
 (R (XE.exit 0) [.gr 0 3 l] [.row 209 [W Z, W Z, W Z] l i]))) (fun R => by kernel_rfl) ?_
  exact ch hG (fun h0 => cg h0 fun h1 => cn (decide_eq_true (Nat.le_refl _)) (cg h1 fun h2 => ⟨(_, _, _, _, _, _), rfl, rfl, h2⟩)) (fun h0 => h0.2)
 ·intro s k h
  unfold g136_0 at h
  split at h <;> try exact h.elim
  rename_i e1
  rw [needs_iff] at h
  have hq := h.1
  simp only [List.mem_cons, forall_eq_or_imp, decide_eq_true_eq, List.not_mem_nil, false_imp_iff, implies_true, and_true] at hq
  obtain ⟨rfl, hq⟩ := hq
  exact ⟨_, e1, _, (_, _, _, _, _, _), rfl, rfl, hq, h.2⟩
def m136 (a : Dat) : Nat × Dat :=
 ((((o136_0 (a.sn 0 0) (a.sub 0 0) (↑(a.sn 0 0) : Int) 0 0 noDat).getD default).1 + 2), (((o136_0 (a.sn 0 0) (a.sub 0 0) (↑(a.sn 0 0) : Int) 0 0 noDat).getD default).2.2.app ((o136_0 (a.sn 0 0) (a.sub 0 0) (↑(a.sn 0 0) : Int) 0 0 noDat).getD default).1 (datS [V Z 0, V Z (-1), V Z 0, V Z 0, V Z 0, V Z (-1)] 3)))
def n136 (a : Dat) : Bool :=
 (((o136_0 (a.sn 0 0) (a.sub 0 0) (↑(a.sn 0 0) : Int) 0 0 noDat).isSome) && ((decide (((o136_0 (a.sn 0 0) (a.sub 0 0) (↑(a.sn 0 0) : Int) 0 0 noDat).getD default).1 ≤ ((o136_0 (a.sn 0 0) (a.sub 0 0) (↑(a.sn 0 0) : Int) 0 0 noDat).getD default).2.1)) && ((decide ((((o136_0 (a.sn 0 0) (a.sub 0 0) (↑(a.sn 0 0) : Int) 0 0 noDat).getD default).1 + 2) ≤ 1073741824)) && ((decide ((0 + (((o136_0 (a.sn 0 0) (a.sub 0 0) (↑(a.sn 0 0) : Int) 0 0 noDat).getD default).1 + 2)) ≤ (((o136_0 (a.sn 0 0) (a.sub 0 0) (↑(a.sn 0 0) : Int) 0 0 noDat).getD default).1 + 2))) && true))))
def q136 (r : Nat × Dat) : SV × List Blk × List Blk := (.ro [W Z, W Z, W Z] r.1 r.2, [], [])
def g136 : GF := fun vs bs => match vs, bs with
 | [.rp [.sl [.str, W Z, W Z, W Z, W Z], W Z, W Z, W Z, W Z, W Z, W Z, W Z, W Z, W Z, W Z, W Z, W Z, W Z] a 0 0], [] => some (rs 0 (q136 (m136 a)) [n136 a])
 | _, _ => none
def c136 : Ctr := genC [.rp [.sl [.str, W Z, W Z, W Z, W Z], W Z, W Z, W Z, W Z, W Z, W Z, W Z, W Z, W Z, W Z, W Z, W Z, W Z]] g136
theorem k136 : CtrOk Try.prog c136 136 := cx tn mix_ok 8 (fn := Try.f136) (c := (Try.f136.body.getD .skip)) (grs := []) (rh := .ro [W Z, W Z, W Z]) Try.func136 rfl (by kernel_rfl) (lam_of rfl (lc z136_0 ln)) fun vs bs q h hn => by
 unfold g136 at h
 split at h <;> cases h
 rename_i a
 have hn := n1 hn
 exact ⟨_, rfl, ca (fun R => 
 let a0 := ((o136_0 (a.sn 0 0) (a.sub 0 0) (↑(a.sn 0 0) : Int) 0 0 noDat).getD default)
 (cnd ((o136_0 (a.sn 0 0) (a.sub 0 0) (↑(a.sn 0 0) : Int) 0 0 noDat).isSome)
 (cnd (decide (a0.1 ≤ a0.2.1))
 (cnd (decide ((a0.1 + 2) ≤ 1073741824))
 (cnd (decide ((0 + (a0.1 + 2)) ≤ (a0.1 + 2)))
 (R (.ro [W Z, W Z, W Z] (a0.1 + 2) (a0.2.2.app a0.1 (datS [V Z 0, V Z (-1), V Z 0, V Z 0, V Z 0, V Z (-1)] 3))) [] [])
   False)
  False)
  False)
 False)) (fun R => by kernel_rfl) (cn (al hn) (cn (al (ar hn)) (cn (al (ar (ar hn))) (cn (al (ar (ar (ar hn)))) (lf rfl rfl)))))⟩
/-! ### (*shotline/mix.asked).bounds -/
def l157_0 (m : Dat) (b : Nat) (d : Dat) (j : Int) : Nat → Nat → Int → Dat → Option (Nat × Nat × Dat)
 | 0, _, _, _ => none
 | f + 1, l, g, i => (cond (decide (g < j)) (cond (decide (0 ≤ g ∧ g < ↑b)) (cond (decide ((l + 1) ≤ 1073741824)) (l157_0 m b d j f (l + 1) (Z.wrap (g + 1)) (i.app l (datS [V Z 0, V Z (d.ii g.toNat 4)] 2))) none) none) (some (l, l, i)))
abbrev o157_0 (m : Dat) (b : Nat) (d : Dat) (j : Int) (l : Nat) (g : Int) (i : Dat) : Option (Nat × Nat × Dat) := l157_0 m b d j (l + b + j.toNat + g.toNat + 8) l g i
def e157_0 (m : Dat) (b : Nat) (d : Dat) (j : Int) (r : Nat × Nat × Dat) (K : XR) : Prop := K (XE.exit 0) [.rp [.sl [.str, W Z, W Z, W Z, W Z], W Z, W Z, W Z, W Z, W Z, W Z, W Z, W Z, W Z, W Z, W Z, W Z, W Z] m 0 0, .gr 0 2 r.1] [.row 59 [W Z, W Z] r.2.1 r.2.2]
def g157_0 : LSum := fun s k => match czv 0 34 [0, 3, 10, 11, 12] 1 [⟨true, 3, 0, 0, 59, [W Z, W Z]⟩] s with
 | some ([.rp [.sl [.str, W Z, W Z, W Z, W Z], W Z, W Z, W Z, W Z, W Z, W Z, W Z, W Z, W Z, W Z, W Z, W Z, W Z] m 0 0, .gr 0 2 l, .ro [.str, W Z, W Z, W Z, W Z] b d, V Z j, V Z g], [.row 59 [W Z, W Z] b0_0 i]) => needs [decide (l = b0_0), (o157_0 m b d j l g i).isSome] (e157_0 m b d j ((o157_0 m b d j l g i).getD default) fun e vs bs => inBlk 0 k e (mkSt 0 34 [0, 3] vs 1 bs))
 | _ => False
theorem z157_0 : LOk Try.prog g157_0 (.block 0 (bodyAt (Try.f157.body.getD .skip) 0)) := by
 refine lb (ι := Dat × Nat × Nat × Dat × Int × Int × Dat) (fuel := 8) (na := 0) (nt := 34) (nx := 1) (Lh := [0, 3, 10, 11, 12]) (Le := [0, 3]) (gl := [⟨true, 3, 0, 0, 59, [W Z, W Z]⟩]) tn mix_ok noLam rfl (fun f (m, l, b, d, j, g, i) K => GG default (e157_0 m b d j) K (l157_0 m b d j f l g i)) (fun (m, l, b, d, j, g, i) => [.rp [.sl [.str, W Z, W Z, W Z, W Z], W Z, W Z, W Z, W Z, W Z, W Z, W Z, W Z, W Z, W Z, W Z, W Z, W Z] m 0 0, .gr 0 2 l, .ro [.str, W Z, W Z, W Z, W Z] b d, V Z j, V Z g]) (fun (m, l, b, d, j, g, i) => [.row 59 [W Z, W Z] l i]) (fun (_, _, _, _, _, _, _) K => gg_none) ?_ ?_
 ·rintro f ⟨m, l, b, d, j, g, i⟩ K hG
  refine ro (fun R => (cnd (decide (g < j))
 (cnd (decide (0 ≤ g ∧ g < ↑b))
 (cnd (decide (l ≤ l))
 (cnd (decide ((l + 1) ≤ 1073741824))
 (R (XE.normal) [.rp [.sl [.str, W Z, W Z, W Z, W Z], W Z, W Z, W Z, W Z, W Z, W Z, W Z, W Z, W Z, W Z, W Z, W Z, W Z] m 0 0, .gr 0 2 (l + 1), .ro [.str, W Z, W Z, W Z, W Z] b d, V Z j, V Z (Z.wrap (g + 1))] [.row 59 [W Z, W Z] (l + 1) (i.app l (datS [V Z 0, V Z (d.ii g.toNat 4)] 2))])
   False)
  False)
  False)
 (R (XE.exit 0) [.rp [.sl [.str, W Z, W Z, W Z, W Z], W Z, W Z, W Z, W Z, W Z, W Z, W Z, W Z, W Z, W Z, W Z, W Z, W Z] m 0 0, .gr 0 2 l] [.row 59 [W Z, W Z] l i]))) (fun R => by kernel_rfl) ?_
  exact ch hG (fun h0 => cg h0 fun h1 => cn (decide_eq_true (Nat.le_refl _)) (cg h1 fun h2 => ⟨(_, _, _, _, _, _, _), rfl, rfl, h2⟩)) (fun h0 => h0.2)
 ·intro s k h
  unfold g157_0 at h
  split at h <;> try exact h.elim
  rename_i e1
  rw [needs_iff] at h
  have hq := h.1
  simp only [List.mem_cons, forall_eq_or_imp, decide_eq_true_eq, List.not_mem_nil, false_imp_iff, implies_true, and_true] at hq
  obtain ⟨rfl, hq⟩ := hq
  exact ⟨_, e1, _, (_, _, _, _, _, _, _), rfl, rfl, hq, h.2⟩
def m157 (a : Dat) : Nat × Dat :=
 ((((o157_0 a (a.sn 0 0) (a.sub 0 0) (↑(a.sn 0 0) : Int) 0 0 noDat).getD default).1 + 2), (((o157_0 a (a.sn 0 0) (a.sub 0 0) (↑(a.sn 0 0) : Int) 0 0 noDat).getD default).2.2.app ((o157_0 a (a.sn 0 0) (a.sub 0 0) (↑(a.sn 0 0) : Int) 0 0 noDat).getD default).1 (datS [V Z (a.ii 0 10), V Z (a.ii 0 11), V Z (a.ii 0 12), V Z (a.ii 0 13)] 2)))
def n157 (a : Dat) : Bool :=
 (((o157_0 a (a.sn 0 0) (a.sub 0 0) (↑(a.sn 0 0) : Int) 0 0 noDat).isSome) && ((decide (((o157_0 a (a.sn 0 0) (a.sub 0 0) (↑(a.sn 0 0) : Int) 0 0 noDat).getD default).1 ≤ ((o157_0 a (a.sn 0 0) (a.sub 0 0) (↑(a.sn 0 0) : Int) 0 0 noDat).getD default).2.1)) && ((decide ((((o157_0 a (a.sn 0 0) (a.sub 0 0) (↑(a.sn 0 0) : Int) 0 0 noDat).getD default).1 + 2) ≤ 1073741824)) && ((decide ((0 + (((o157_0 a (a.sn 0 0) (a.sub 0 0) (↑(a.sn 0 0) : Int) 0 0 noDat).getD default).1 + 2)) ≤ (((o157_0 a (a.sn 0 0) (a.sub 0 0) (↑(a.sn 0 0) : Int) 0 0 noDat).getD default).1 + 2))) && true))))
def q157 (r : Nat × Dat) : SV × List Blk × List Blk := (.ro [W Z, W Z] r.1 r.2, [], [])
def g157 : GF := fun vs bs => match vs, bs with
 | [.rp [.sl [.str, W Z, W Z, W Z, W Z], W Z, W Z, W Z, W Z, W Z, W Z, W Z, W Z, W Z, W Z, W Z, W Z, W Z] a 0 0], [] => some (rs 0 (q157 (m157 a)) [n157 a])
 | _, _ => none
def c157 : Ctr := genC [.rp [.sl [.str, W Z, W Z, W Z, W Z], W Z, W Z, W Z, W Z, W Z, W Z, W Z, W Z, W Z, W Z, W Z, W Z, W Z]] g157
theorem k157 : CtrOk Try.prog c157 157 := cx tn mix_ok 8 (fn := Try.f157) (c := (Try.f157.body.getD .skip)) (grs := []) (rh := .ro [W Z, W Z]) Try.func157 rfl (by kernel_rfl) (lam_of rfl (lc z157_0 ln)) fun vs bs q h hn => by
 unfold g157 at h
 split at h <;> cases h
 rename_i a
 have hn := n1 hn
 exact ⟨_, rfl, ca (fun R => 
 let a0 := ((o157_0 a (a.sn 0 0) (a.sub 0 0) (↑(a.sn 0 0) : Int) 0 0 noDat).getD default)
 (cnd ((o157_0 a (a.sn 0 0) (a.sub 0 0) (↑(a.sn 0 0) : Int) 0 0 noDat).isSome)
 (cnd (decide (a0.1 ≤ a0.2.1))
 (cnd (decide ((a0.1 + 2) ≤ 1073741824))
 (cnd (decide ((0 + (a0.1 + 2)) ≤ (a0.1 + 2)))
 (R (.ro [W Z, W Z] (a0.1 + 2) (a0.2.2.app a0.1 (datS [V Z (a.ii 0 10), V Z (a.ii 0 11), V Z (a.ii 0 12), V Z (a.ii 0 13)] 2))) [] [])
   False)
  False)
  False)
 False)) (fun R => by kernel_rfl) (cn (al hn) (cn (al (ar hn)) (cn (al (ar (ar hn))) (cn (al (ar (ar (ar hn)))) (lf rfl rfl)))))⟩
/-! ### shotline/mix.bases -/
def m135 (a : Nat) (b : Dat) : Dat :=
 (datC [SV.ro [Kd.int Z, Kd.int Z, Kd.int Z] a b])
def q135 (r : Dat) : SV × List Blk × List Blk := (.fn 155 [.rp [.sl [W Z, W Z, W Z]] r 0 0], [], [])
def g135 : GF := fun vs bs => match vs, bs with
 | [.ro [W Z, W Z, W Z] a b], [] => some (rs 0 (q135 (m135 a b)) [])
 | _, _ => none
def c135 : Ctr := genC [.ro [W Z, W Z, W Z]] g135
theorem k135 : CtrOk Try.prog c135 135 := cx tn mix_ok 8 (fn := Try.f135) (c := (Try.f135.body.getD .skip)) (grs := []) (rh := .f [.rp [.sl [W Z, W Z, W Z]]]) Try.func135 rfl (by kernel_rfl) noLam fun vs bs q h hn => by
 unfold g135 at h
 split at h <;> cases h
 rename_i a b
 exact ⟨_, rfl, ca (fun R => (R (.fn 155 [.rp [.sl [W Z, W Z, W Z]] (datC [SV.ro [Kd.int Z, Kd.int Z, Kd.int Z] a b]) 0 0]) [] [])) (fun R => by kernel_rfl) (lf rfl rfl)⟩
end
end Go.Proofs.Ytmndejpcpfkajaa
