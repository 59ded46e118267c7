/-
  Contracts of functions: models, equations by the kernel, contracts. Conditions: none.
-/
import Derived.Test.YtmndejpcpfkajaaB5
import Derived.KernelRfl
namespace Go.Proofs.Ytmndejpcpfkajaa
open Go Go.Sy
set_option linter.unusedVariables false
set_option linter.unusedSimpArgs false
set_option maxRecDepth 100000
set_option maxHeartbeats 2000000
attribute [local irreducible] Go.IntKind.wrap Int.tdiv Int.tmod Int.fdiv
open Go.Sy renaming tabOk_cons → tc, tabOk_nil → tn, cnd_need → cn, leaf_of → lf, cnd_gg → cg, cnd_gg2 → ch, cond_f → cf, cond_t → ct, cnd_of → co, callOf → ca, roundOf → ro, cnd_not → nn, lams_cons → lc, lams_nil → ln, condT → cT, condF → cF, need1 → n1, resOf → rs, and_l → al, and_r → ar, or_gg → og, ctr_of → cx, loop_blk → lb
open Go.IntKind renaming i64 → Z
open Go.Sy.SV renaming int → V
open Go.Sy.Kd renaming int → W
/-! ### shotline/shotlinelaw06.MixCheapest -/
noncomputable def t16_0 (b : Nat) (d : Dat) (e g i j l m n o : Int) : Bool := n36 b d e g i j l m n o
noncomputable def t16_1 (b : Nat) (d : Dat) (e g i j l m n o : Int) : Nat := (m36 b d e g i j l m n o).1
noncomputable def t16_2 (b : Nat) (d : Dat) (e g i j l m n o : Int) : Dat := (m36 b d e g i j l m n o).2.1
noncomputable def t16_3 (b : Nat) (d : Dat) (e g i j l m n o : Int) : Int := (m36 b d e g i j l m n o).2.2.1
noncomputable def t16_4 (b : Nat) (d : Dat) (e g i j l m n o : Int) : Int := (m36 b d e g i j l m n o).2.2.2.1
noncomputable def t16_5 (b : Nat) (d : Dat) (e g i j l m n o : Int) : Int := (m36 b d e g i j l m n o).2.2.2.2.1
noncomputable def t16_6 (b : Nat) (d : Dat) (e g i j l m n o : Int) : Int := (m36 b d e g i j l m n o).2.2.2.2.2.1
noncomputable def t16_7 (b : Nat) (d : Dat) (e g i j l m n o : Int) : Int := (m36 b d e g i j l m n o).2.2.2.2.2.2.1
noncomputable def t16_8 (b : Nat) (d : Dat) (e g i j l m n o : Int) : Int := (m36 b d e g i j l m n o).2.2.2.2.2.2.2.1
noncomputable def t16_9 (b : Nat) (d : Dat) (e g i j l m n o : Int) : Int := (m36 b d e g i j l m n o).2.2.2.2.2.2.2.2.1
noncomputable def t16_10 (b : Nat) (d : Dat) (e g i j l m n o : Int) : Int := (m36 b d e g i j l m n o).2.2.2.2.2.2.2.2.2
noncomputable def t16_11 (b : Nat) (d : Dat) (e g i j l m n o : Int) : Int := m34 b d e g i j l m n o
noncomputable def t16_12 (b : Nat) (d : Dat) (e g i j l m n o : Int) : Int := (m35 (t16_1 b d e g i j l m n o) (t16_2 b d e g i j l m n o) (t16_3 b d e g i j l m n o) (t16_4 b d e g i j l m n o) (t16_5 b d e g i j l m n o) (t16_6 b d e g i j l m n o) (t16_7 b d e g i j l m n o) (t16_8 b d e g i j l m n o) (t16_9 b d e g i j l m n o) (t16_10 b d e g i j l m n o)).2.2.2.2.2.2.2.2.2
noncomputable def t16_13 (b : Nat) (d : Dat) (e g i j l m n o : Int) : Nat := (m35 (t16_1 b d e g i j l m n o) (t16_2 b d e g i j l m n o) (t16_3 b d e g i j l m n o) (t16_4 b d e g i j l m n o) (t16_5 b d e g i j l m n o) (t16_6 b d e g i j l m n o) (t16_7 b d e g i j l m n o) (t16_8 b d e g i j l m n o) (t16_9 b d e g i j l m n o) (t16_10 b d e g i j l m n o)).1
noncomputable def t16_14 (b : Nat) (d : Dat) (e g i j l m n o : Int) : Int := (m35 (t16_1 b d e g i j l m n o) (t16_2 b d e g i j l m n o) (t16_3 b d e g i j l m n o) (t16_4 b d e g i j l m n o) (t16_5 b d e g i j l m n o) (t16_6 b d e g i j l m n o) (t16_7 b d e g i j l m n o) (t16_8 b d e g i j l m n o) (t16_9 b d e g i j l m n o) (t16_10 b d e g i j l m n o)).2.2.1
noncomputable def t16_15 (b : Nat) (d : Dat) (e g i j l m n o : Int) : Int := (m35 (t16_1 b d e g i j l m n o) (t16_2 b d e g i j l m n o) (t16_3 b d e g i j l m n o) (t16_4 b d e g i j l m n o) (t16_5 b d e g i j l m n o) (t16_6 b d e g i j l m n o) (t16_7 b d e g i j l m n o) (t16_8 b d e g i j l m n o) (t16_9 b d e g i j l m n o) (t16_10 b d e g i j l m n o)).2.2.2.1
noncomputable def t16_16 (b : Nat) (d : Dat) (e g i j l m n o : Int) : Int := (m35 (t16_1 b d e g i j l m n o) (t16_2 b d e g i j l m n o) (t16_3 b d e g i j l m n o) (t16_4 b d e g i j l m n o) (t16_5 b d e g i j l m n o) (t16_6 b d e g i j l m n o) (t16_7 b d e g i j l m n o) (t16_8 b d e g i j l m n o) (t16_9 b d e g i j l m n o) (t16_10 b d e g i j l m n o)).2.2.2.2.1
noncomputable def t16_17 (b : Nat) (d : Dat) (e g i j l m n o : Int) : Int := (m35 (t16_1 b d e g i j l m n o) (t16_2 b d e g i j l m n o) (t16_3 b d e g i j l m n o) (t16_4 b d e g i j l m n o) (t16_5 b d e g i j l m n o) (t16_6 b d e g i j l m n o) (t16_7 b d e g i j l m n o) (t16_8 b d e g i j l m n o) (t16_9 b d e g i j l m n o) (t16_10 b d e g i j l m n o)).2.2.2.2.2.1
noncomputable def t16_18 (b : Nat) (d : Dat) (e g i j l m n o : Int) : Int := (m35 (t16_1 b d e g i j l m n o) (t16_2 b d e g i j l m n o) (t16_3 b d e g i j l m n o) (t16_4 b d e g i j l m n o) (t16_5 b d e g i j l m n o) (t16_6 b d e g i j l m n o) (t16_7 b d e g i j l m n o) (t16_8 b d e g i j l m n o) (t16_9 b d e g i j l m n o) (t16_10 b d e g i j l m n o)).2.2.2.2.2.2.1
noncomputable def t16_19 (b : Nat) (d : Dat) (e g i j l m n o : Int) : Int := (m35 (t16_1 b d e g i j l m n o) (t16_2 b d e g i j l m n o) (t16_3 b d e g i j l m n o) (t16_4 b d e g i j l m n o) (t16_5 b d e g i j l m n o) (t16_6 b d e g i j l m n o) (t16_7 b d e g i j l m n o) (t16_8 b d e g i j l m n o) (t16_9 b d e g i j l m n o) (t16_10 b d e g i j l m n o)).2.2.2.2.2.2.2.1
noncomputable def t16_20 (b : Nat) (d : Dat) (e g i j l m n o : Int) : Int := (m35 (t16_1 b d e g i j l m n o) (t16_2 b d e g i j l m n o) (t16_3 b d e g i j l m n o) (t16_4 b d e g i j l m n o) (t16_5 b d e g i j l m n o) (t16_6 b d e g i j l m n o) (t16_7 b d e g i j l m n o) (t16_8 b d e g i j l m n o) (t16_9 b d e g i j l m n o) (t16_10 b d e g i j l m n o)).2.2.2.2.2.2.2.2.1
noncomputable def t16_21 (b : Nat) (d : Dat) (e g i j l m n o : Int) : Dat := (m35 (t16_1 b d e g i j l m n o) (t16_2 b d e g i j l m n o) (t16_3 b d e g i j l m n o) (t16_4 b d e g i j l m n o) (t16_5 b d e g i j l m n o) (t16_6 b d e g i j l m n o) (t16_7 b d e g i j l m n o) (t16_8 b d e g i j l m n o) (t16_9 b d e g i j l m n o) (t16_10 b d e g i j l m n o)).2.1
noncomputable def U16 (b : Nat) (d : Dat) (e g i j l m n o : Int) (z0 : Bool) (z1 : Nat) (z2 : Dat) (z3 z4 z5 z6 z7 z8 z9 z10 z11 z12 : Int) (z13 : Nat) (z14 z15 z16 z17 z18 z19 z20 : Int) (z21 : Dat) (R : SV → List Blk → List Blk → Prop) : Prop :=
 (cnd (n44)
 (cnd (bif m44 then false else true)
 (R (.bool false) [] [])
 (cnd (n37 b d e g i j l m n o)
 (cnd (bif (m37 b d e g i j l m n o) then false else true)
 (R (.bool true) [] [])
 (cnd (z0)
 (cnd (n35 z1 z2 z3 z4 z5 z6 z7 z8 z9 z10)
 (cnd (n34 b d e g i j l m n o)
 (cnd (z0)
 (cnd (n75 z1 z2 z3 z4 z5 z6 z7 z8 z9 z10)
 (cnd (bif (decide ((m75 z1 z2 z3 z4 z5 z6 z7 z8 z9 z10) = z11)) then false else true)
 (R (.bool false) [] [])
 (cnd (bif (decide (z11 = 0)) then false else true)
 (R (.bool (bif (bif (bif (decide (z12 = z11)) then (decide ((↑z13 : Int) = 0)) else false) then (decide (z14 = 0)) else false) then (bif (decide (z15 = 0)) then (bif (decide (z16 = 0)) then (bif (decide (z17 = 0)) then (bif (decide (z18 = 0)) then (bif (decide (z19 = 0)) then (bif (decide (z20 = 0)) then true else false) else false) else false) else false) else false) else false) else false)) [] [])
 (cnd (decide (z12 = 12))
 (cnd (n73 b d e g i j l m n o z15 z16 z17 z18 z19 z20)
 (cnd (z0)
 (cnd (n70 z1 z2 z3 z4 z5 z6 z7 z8 z9 z10 z15 z16 z17 z18 z19 z20)
 (R (.bool (bif (bif (bif (decide ((↑z13 : Int) = 0)) then (decide (z14 = 0)) else false) then (decide ((m73 b d e g i j l m n o z15 z16 z17 z18 z19 z20).2 = 0)) else false) then (decide ((m70 z1 z2 z3 z4 z5 z6 z7 z8 z9 z10 z15 z16 z17 z18 z19 z20).2 = 0)) else false)) [] [])
                False)
               False)
              False)
 (cnd (n74 b d e g i j l m n o z13 z21 z14 z15 z16 z17 z18 z19 z20)
 (cnd (z0)
 (cnd (n39 z13 z21)
 (cnd (n71 z1 z2 z3 z4 z5 z6 z7 z8 z9 z10 (m39 z13 z21).1 (m39 z13 z21).2 z14 z15 z16 z17 z18 z19 z20)
 (R (.bool (bif (bif (bif (bif (decide (z12 = 0)) then (decide ((m74 b d e g i j l m n o z13 z21 z14 z15 z16 z17 z18 z19 z20).2 = 0)) else false) then (decide ((m74 b d e g i j l m n o z13 z21 z14 z15 z16 z17 z18 z19 z20).1 = 0)) else false) then (decide ((m71 z1 z2 z3 z4 z5 z6 z7 z8 z9 z10 (m39 z13 z21).1 (m39 z13 z21).2 z14 z15 z16 z17 z18 z19 z20).2 = 0)) else false) then (decide ((m71 z1 z2 z3 z4 z5 z6 z7 z8 z9 z10 (m39 z13 z21).1 (m39 z13 z21).2 z14 z15 z16 z17 z18 z19 z20).1 = 0)) else false)) [] [])
                 False)
                False)
               False)
              False))))
          False)
         False)
        False)
       False)
      False))
    False))
  False)
noncomputable def w16 (b : Nat) (d : Dat) (e g i j l m n o : Int) (z0 : Bool) (z1 : Nat) (z2 : Dat) (z3 z4 z5 z6 z7 z8 z9 z10 z11 z12 : Int) (z13 : Nat) (z14 z15 z16 z17 z18 z19 z20 : Int) (z21 : Dat) : Bool :=
  (cond (bif m44 then false else true) false (cond (bif (m37 b d e g i j l m n o) then false else true) true (cond (bif (decide ((m75 z1 z2 z3 z4 z5 z6 z7 z8 z9 z10) = z11)) then false else true) false (cond (bif (decide (z11 = 0)) then false else true) (bif (bif (bif (decide (z12 = z11)) then (decide ((↑z13 : Int) = 0)) else false) then (decide (z14 = 0)) else false) then (bif (decide (z15 = 0)) then (bif (decide (z16 = 0)) then (bif (decide (z17 = 0)) then (bif (decide (z18 = 0)) then (bif (decide (z19 = 0)) then (bif (decide (z20 = 0)) then true else false) else false) else false) else false) else false) else false) else false) (cond (decide (z12 = 12)) (bif (bif (bif (decide ((↑z13 : Int) = 0)) then (decide (z14 = 0)) else false) then (decide ((m73 b d e g i j l m n o z15 z16 z17 z18 z19 z20).2 = 0)) else false) then (decide ((m70 z1 z2 z3 z4 z5 z6 z7 z8 z9 z10 z15 z16 z17 z18 z19 z20).2 = 0)) else false) (bif (bif (bif (bif (decide (z12 = 0)) then (decide ((m74 b d e g i j l m n o z13 z21 z14 z15 z16 z17 z18 z19 z20).2 = 0)) else false) then (decide ((m74 b d e g i j l m n o z13 z21 z14 z15 z16 z17 z18 z19 z20).1 = 0)) else false) then (decide ((m71 z1 z2 z3 z4 z5 z6 z7 z8 z9 z10 (m39 z13 z21).1 (m39 z13 z21).2 z14 z15 z16 z17 z18 z19 z20).2 = 0)) else false) then (decide ((m71 z1 z2 z3 z4 z5 z6 z7 z8 z9 z10 (m39 z13 z21).1 (m39 z13 z21).2 z14 z15 z16 z17 z18 z19 z20).1 = 0)) else false))))))
noncomputable def v16 (b : Nat) (d : Dat) (e g i j l m n o : Int) (z0 : Bool) (z1 : Nat) (z2 : Dat) (z3 z4 z5 z6 z7 z8 z9 z10 z11 z12 : Int) (z13 : Nat) (z14 z15 z16 z17 z18 z19 z20 : Int) (z21 : Dat) : Bool :=
  ((n44) && (cond (bif m44 then false else true) true ((n37 b d e g i j l m n o) && (cond (bif (m37 b d e g i j l m n o) then false else true) true ((z0) && ((n35 z1 z2 z3 z4 z5 z6 z7 z8 z9 z10) && ((n34 b d e g i j l m n o) && ((z0) && ((n75 z1 z2 z3 z4 z5 z6 z7 z8 z9 z10) && (cond (bif (decide ((m75 z1 z2 z3 z4 z5 z6 z7 z8 z9 z10) = z11)) then false else true) true (cond (bif (decide (z11 = 0)) then false else true) true (cond (decide (z12 = 12)) ((n73 b d e g i j l m n o z15 z16 z17 z18 z19 z20) && ((z0) && ((n70 z1 z2 z3 z4 z5 z6 z7 z8 z9 z10 z15 z16 z17 z18 z19 z20) && true))) ((n74 b d e g i j l m n o z13 z21 z14 z15 z16 z17 z18 z19 z20) && ((z0) && ((n39 z13 z21) && ((n71 z1 z2 z3 z4 z5 z6 z7 z8 z9 z10 (m39 z13 z21).1 (m39 z13 z21).2 z14 z15 z16 z17 z18 z19 z20) && true))))))))))))))))
noncomputable def m16 (b : Nat) (d : Dat) (e g i j l m n o : Int) : Bool := w16 b d e g i j l m n o (t16_0 b d e g i j l m n o) (t16_1 b d e g i j l m n o) (t16_2 b d e g i j l m n o) (t16_3 b d e g i j l m n o) (t16_4 b d e g i j l m n o) (t16_5 b d e g i j l m n o) (t16_6 b d e g i j l m n o) (t16_7 b d e g i j l m n o) (t16_8 b d e g i j l m n o) (t16_9 b d e g i j l m n o) (t16_10 b d e g i j l m n o) (t16_11 b d e g i j l m n o) (t16_12 b d e g i j l m n o) (t16_13 b d e g i j l m n o) (t16_14 b d e g i j l m n o) (t16_15 b d e g i j l m n o) (t16_16 b d e g i j l m n o) (t16_17 b d e g i j l m n o) (t16_18 b d e g i j l m n o) (t16_19 b d e g i j l m n o) (t16_20 b d e g i j l m n o) (t16_21 b d e g i j l m n o)
noncomputable def n16 (b : Nat) (d : Dat) (e g i j l m n o : Int) : Bool := v16 b d e g i j l m n o (t16_0 b d e g i j l m n o) (t16_1 b d e g i j l m n o) (t16_2 b d e g i j l m n o) (t16_3 b d e g i j l m n o) (t16_4 b d e g i j l m n o) (t16_5 b d e g i j l m n o) (t16_6 b d e g i j l m n o) (t16_7 b d e g i j l m n o) (t16_8 b d e g i j l m n o) (t16_9 b d e g i j l m n o) (t16_10 b d e g i j l m n o) (t16_11 b d e g i j l m n o) (t16_12 b d e g i j l m n o) (t16_13 b d e g i j l m n o) (t16_14 b d e g i j l m n o) (t16_15 b d e g i j l m n o) (t16_16 b d e g i j l m n o) (t16_17 b d e g i j l m n o) (t16_18 b d e g i j l m n o) (t16_19 b d e g i j l m n o) (t16_20 b d e g i j l m n o) (t16_21 b d e g i j l m n o)
noncomputable def q16 (r : Bool) : SV × List Blk × List Blk := (.bool r, [], [])
noncomputable def g16 : List SV → List Blk → Option OpRes := fun vs bs => match vs, bs with
  | [.agg [.ro [.str, W Z, W Z, W Z, W Z] b d, V Z e, V Z g, V Z i, V Z j, V Z l, V Z m, V Z n, V Z o]], [] => some (rs 0 (q16 (m16 b d e g i j l m n o)) [n16 b d e g i j l m n o])
  | _, _ => none
noncomputable def c16 : Ctr := genC [.a [.ro [.str, W Z, W Z, W Z, W Z], .k, .k, .k, .k, .k, .k, .k, .k]] g16
theorem u16 (b : Nat) (d : Dat) (e g i j l m n o : Int) (z0 : Bool) (z1 : Nat) (z2 : Dat) (z3 z4 z5 z6 z7 z8 z9 z10 z11 z12 : Int) (z13 : Nat) (z14 z15 z16 z17 z18 z19 z20 : Int) (z21 : Dat) (hn : v16 b d e g i j l m n o z0 z1 z2 z3 z4 z5 z6 z7 z8 z9 z10 z11 z12 z13 z14 z15 z16 z17 z18 z19 z20 z21 = true) : U16 b d e g i j l m n o z0 z1 z2 z3 z4 z5 z6 z7 z8 z9 z10 z11 z12 z13 z14 z15 z16 z17 z18 z19 z20 z21 (fun v U N => (v, U, N) = q16 (w16 b d e g i j l m n o z0 z1 z2 z3 z4 z5 z6 z7 z8 z9 z10 z11 z12 z13 z14 z15 z16 z17 z18 z19 z20 z21)) :=
  cn (al hn) (co (fun h0 => lf (cT h0 rfl) rfl) (fun h0 => cn (al (cf h0 (ar hn))) (co (fun h1 => lf (cF h0 (cT h1 rfl)) rfl) (fun h1 => cn (al (cf h1 (ar (cf h0 (ar hn))))) (cn (al (ar (cf h1 (ar (cf h0 (ar hn)))))) (cn (al (ar (ar (cf h1 (ar (cf h0 (ar hn))))))) (cn (al (ar (ar (ar (cf h1 (ar (cf h0 (ar hn)))))))) (cn (al (ar (ar (ar (ar (cf h1 (ar (cf h0 (ar hn))))))))) (co (fun h2 => lf (cF h0 (cF h1 (cT h2 rfl))) rfl) (fun h2 => co (fun h3 => lf (cF h0 (cF h1 (cF h2 (cT h3 rfl)))) rfl) (fun h3 => co (fun h4 => cn (al (ct h4 (cf h3 (cf h2 (ar (ar (ar (ar (ar (cf h1 (ar (cf h0 (ar hn))))))))))))) (cn (al (ar (ct h4 (cf h3 (cf h2 (ar (ar (ar (ar (ar (cf h1 (ar (cf h0 (ar hn)))))))))))))) (cn (al (ar (ar (ct h4 (cf h3 (cf h2 (ar (ar (ar (ar (ar (cf h1 (ar (cf h0 (ar hn))))))))))))))) (lf (cF h0 (cF h1 (cF h2 (cF h3 (cT h4 rfl))))) rfl)))) (fun h4 => cn (al (cf h4 (cf h3 (cf h2 (ar (ar (ar (ar (ar (cf h1 (ar (cf h0 (ar hn))))))))))))) (cn (al (ar (cf h4 (cf h3 (cf h2 (ar (ar (ar (ar (ar (cf h1 (ar (cf h0 (ar hn)))))))))))))) (cn (al (ar (ar (cf h4 (cf h3 (cf h2 (ar (ar (ar (ar (ar (cf h1 (ar (cf h0 (ar hn))))))))))))))) (cn (al (ar (ar (ar (cf h4 (cf h3 (cf h2 (ar (ar (ar (ar (ar (cf h1 (ar (cf h0 (ar hn)))))))))))))))) (lf (cF h0 (cF h1 (cF h2 (cF h3 (cF h4 rfl))))) rfl))))))))))))))))
theorem k16 : CtrOk Try.prog c16 16 := cx (tc k34 (tc k35 (tc k36 (tc k37 (tc k39 (tc k44 (tc k70 (tc k71 (tc k73 (tc k74 (tc k75 tn))))))))))) mix_ok 8 (fn := Try.f16) (c := (Try.f16.body.getD .skip)) (grs := []) (rh := .k) (Λ := (fun _ => none)) Try.func16 rfl (by kernel_rfl) noLam fun vs bs q h hn => by
  unfold g16 at h
  split at h <;> cases h
  rename_i b d e g i j l m n o
  have hn := n1 hn
  exact ⟨_, rfl, ca (fun R => U16 b d e g i j l m n o (t16_0 b d e g i j l m n o) (t16_1 b d e g i j l m n o) (t16_2 b d e g i j l m n o) (t16_3 b d e g i j l m n o) (t16_4 b d e g i j l m n o) (t16_5 b d e g i j l m n o) (t16_6 b d e g i j l m n o) (t16_7 b d e g i j l m n o) (t16_8 b d e g i j l m n o) (t16_9 b d e g i j l m n o) (t16_10 b d e g i j l m n o) (t16_11 b d e g i j l m n o) (t16_12 b d e g i j l m n o) (t16_13 b d e g i j l m n o) (t16_14 b d e g i j l m n o) (t16_15 b d e g i j l m n o) (t16_16 b d e g i j l m n o) (t16_17 b d e g i j l m n o) (t16_18 b d e g i j l m n o) (t16_19 b d e g i j l m n o) (t16_20 b d e g i j l m n o) (t16_21 b d e g i j l m n o) R) (fun R => by kernel_rfl) (u16 b d e g i j l m n o (t16_0 b d e g i j l m n o) (t16_1 b d e g i j l m n o) (t16_2 b d e g i j l m n o) (t16_3 b d e g i j l m n o) (t16_4 b d e g i j l m n o) (t16_5 b d e g i j l m n o) (t16_6 b d e g i j l m n o) (t16_7 b d e g i j l m n o) (t16_8 b d e g i j l m n o) (t16_9 b d e g i j l m n o) (t16_10 b d e g i j l m n o) (t16_11 b d e g i j l m n o) (t16_12 b d e g i j l m n o) (t16_13 b d e g i j l m n o) (t16_14 b d e g i j l m n o) (t16_15 b d e g i j l m n o) (t16_16 b d e g i j l m n o) (t16_17 b d e g i j l m n o) (t16_18 b d e g i j l m n o) (t16_19 b d e g i j l m n o) (t16_20 b d e g i j l m n o) (t16_21 b d e g i j l m n o) hn)⟩
end Go.Proofs.Ytmndejpcpfkajaa
