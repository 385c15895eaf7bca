/- The law TraceTells, walked. Condition: capacities and events lie in memory. -/
import Derived.Test.YtnjnmoehjaikkaaTrWC
import Derived.Test.YtnjnmoehjaikkaaTrR4
namespace Go.Proofs.Ytnjnmoehjaikkaa.Tr
open Go Go.RowKit Base
set_option linter.unusedVariables false
set_option linter.unusedSimpArgs false

/-- What is walked: the calls' contracts are hypotheses. -/
structure TellsCtx (w : World) (cA A : Option Addr) (cn cc ln lc n m : Nat) (i kd o a ee cv f la nn : Int) (cok : Bool) : Prop where
  hF : ∀ x : Ext w, Calls Try.prog 7 #[.slice A ln lc] (w.ext x) fun r w' => r = .returned (.slice A m lc) ∧ ∃ y : Ext w, w' = w.ext y
  hA : ∀ x : Ext w, Calls Try.prog 9 #[] (w.ext x) fun r w' => r = .returned (.bool true) ∧ ∃ y : Ext w, w' = w.ext y
  hW : ∀ x : Ext w, Calls Try.prog 8 #[.slice cA n cc, .slice A m lc] (w.ext x) fun r w' => r = .returned (.tuple #[.int .i64 a, .int .i64 ee]) ∧ ∃ y : Ext w, w' = w.ext y
  hL : ∀ x : Ext w, Calls Try.prog 10 #[.slice A m lc, .int .i64 i] (w.ext x) fun r w' => r = .returned (.tuple #[.int .i64 la, .int .i64 f]) ∧ ∃ y : Ext w, w' = w.ext y
  hN : ∀ x : Ext w, Calls Try.prog 11 #[.slice A m lc, .int .i64 i, .int .i64 kd, .int .i64 o] (w.ext x) fun r w' => r = .returned (.tuple #[.int .i64 nn, .int .i64 f]) ∧ ∃ y : Ext w, w' = w.ext y
  hK : ∀ x : Ext w, Calls Try.prog 12 #[.slice cA n cc] (w.ext x) fun r w' => r = .returned (.bool cok) ∧ ∃ y : Ext w, w' = w.ext y
  hn : ((6 : Int) < cn ∧ n = 6) ∨ (¬ (6 : Int) < cn ∧ n = cn)
  hcn : cn ≤ cc
  hm1 : m ≤ 150
  hmc : m ≤ lc
  hnc : n ≤ cc
  hcl : cn ≤ 140737488351232

set_option maxHeartbeats 4000000 in
theorem tells_no_lo {w : World} {cA A : Option Addr} {cn cc ln lc n m : Nat} {i kd o a la nn : Int} (x0 : Ext w) (C : TellsCtx w cA A cn cc ln lc n m i kd o 0 1 0 3 0 0 false) (d1 : decide (i < 0) = true):
    Calls Try.prog 4 #[.slice cA cn cc, .slice A ln lc, .int .i64 i, .int .i64 kd, .int .i64 o] (w.ext x0) fun r w' => r = .returned (.bool true) ∧ ∃ y : Ext w, w' = w.ext y := by
  obtain ⟨hF, hA, hW, hL, hN, hK, hn, hcn, hm1, hmc, hnc, hcl⟩ := C
  rcases hn with ⟨h6, rfl⟩ | ⟨h6, rfl⟩
  · go_enter Try.func4, Try.ntmps4
    go_wp2
    refine region_at (by kernel_rfl) (by kernel_rfl) ?_
    repeat (go_big_quiet_step (exact hF _))
    refine wpQuiet_nil ?_
    rintro _ ⟨x, rfl⟩
    go_wp2_with (first | (go_at_call 9; ((with_reducible refine (hA _).mono ?_)); rintro _ _ ⟨rfl, z, rfl⟩) | (go_at_call 8; ((with_reducible refine (hW _).mono ?_)); rintro _ _ ⟨rfl, z, rfl⟩) | (go_at_call 10; ((with_reducible refine (hL _).mono ?_)); rintro _ _ ⟨rfl, z, rfl⟩) | (go_at_call 11; ((with_reducible refine (hN _).mono ?_)); rintro _ _ ⟨rfl, z, rfl⟩) | (go_at_call 12; ((with_reducible refine (hK _).mono ?_)); rintro _ _ ⟨rfl, z, rfl⟩))
    go_ret
    exact ⟨rfl, _, rfl⟩
  · go_enter Try.func4, Try.ntmps4
    go_wp2
    refine region_at (by kernel_rfl) (by kernel_rfl) ?_
    repeat (go_big_quiet_step (exact hF _))
    refine wpQuiet_nil ?_
    rintro _ ⟨x, rfl⟩
    go_wp2_with (first | (go_at_call 9; ((with_reducible refine (hA _).mono ?_)); rintro _ _ ⟨rfl, z, rfl⟩) | (go_at_call 8; ((with_reducible refine (hW _).mono ?_)); rintro _ _ ⟨rfl, z, rfl⟩) | (go_at_call 10; ((with_reducible refine (hL _).mono ?_)); rintro _ _ ⟨rfl, z, rfl⟩) | (go_at_call 11; ((with_reducible refine (hN _).mono ?_)); rintro _ _ ⟨rfl, z, rfl⟩) | (go_at_call 12; ((with_reducible refine (hK _).mono ?_)); rintro _ _ ⟨rfl, z, rfl⟩))
    go_ret
    exact ⟨rfl, _, rfl⟩

set_option maxHeartbeats 4000000 in
theorem tells_no_hi {w : World} {cA A : Option Addr} {cn cc ln lc n m : Nat} {i kd o a la nn : Int} (x0 : Ext w) (C : TellsCtx w cA A cn cc ln lc n m i kd o 0 1 0 3 0 0 false) (d1 : decide (i < 0) = false) (d2 : decide ((m : Int) ≤ i) = true):
    Calls Try.prog 4 #[.slice cA cn cc, .slice A ln lc, .int .i64 i, .int .i64 kd, .int .i64 o] (w.ext x0) fun r w' => r = .returned (.bool true) ∧ ∃ y : Ext w, w' = w.ext y := by
  obtain ⟨hF, hA, hW, hL, hN, hK, hn, hcn, hm1, hmc, hnc, hcl⟩ := C
  rcases hn with ⟨h6, rfl⟩ | ⟨h6, rfl⟩
  · go_enter Try.func4, Try.ntmps4
    go_wp2
    refine region_at (by kernel_rfl) (by kernel_rfl) ?_
    repeat (go_big_quiet_step (exact hF _))
    refine wpQuiet_nil ?_
    rintro _ ⟨x, rfl⟩
    go_wp2_with (first | (go_at_call 9; ((with_reducible refine (hA _).mono ?_)); rintro _ _ ⟨rfl, z, rfl⟩) | (go_at_call 8; ((with_reducible refine (hW _).mono ?_)); rintro _ _ ⟨rfl, z, rfl⟩) | (go_at_call 10; ((with_reducible refine (hL _).mono ?_)); rintro _ _ ⟨rfl, z, rfl⟩) | (go_at_call 11; ((with_reducible refine (hN _).mono ?_)); rintro _ _ ⟨rfl, z, rfl⟩) | (go_at_call 12; ((with_reducible refine (hK _).mono ?_)); rintro _ _ ⟨rfl, z, rfl⟩))
    go_ret
    exact ⟨rfl, _, rfl⟩
  · go_enter Try.func4, Try.ntmps4
    go_wp2
    refine region_at (by kernel_rfl) (by kernel_rfl) ?_
    repeat (go_big_quiet_step (exact hF _))
    refine wpQuiet_nil ?_
    rintro _ ⟨x, rfl⟩
    go_wp2_with (first | (go_at_call 9; ((with_reducible refine (hA _).mono ?_)); rintro _ _ ⟨rfl, z, rfl⟩) | (go_at_call 8; ((with_reducible refine (hW _).mono ?_)); rintro _ _ ⟨rfl, z, rfl⟩) | (go_at_call 10; ((with_reducible refine (hL _).mono ?_)); rintro _ _ ⟨rfl, z, rfl⟩) | (go_at_call 11; ((with_reducible refine (hN _).mono ?_)); rintro _ _ ⟨rfl, z, rfl⟩) | (go_at_call 12; ((with_reducible refine (hK _).mono ?_)); rintro _ _ ⟨rfl, z, rfl⟩))
    go_ret
    exact ⟨rfl, _, rfl⟩

set_option maxHeartbeats 4000000 in
theorem tells_no_in {w : World} {cA A : Option Addr} {cn cc ln lc n m : Nat} {i kd o a la nn : Int} (x0 : Ext w) (C : TellsCtx w cA A cn cc ln lc n m i kd o 0 1 0 0 la nn false) (d1 : decide (i < 0) = false) (d2 : decide ((m : Int) ≤ i) = false)
    (hRL : ∀ x : Ext w, Calls Try.prog 14 #[.slice A m lc, .int .i64 i] (w.ext x) fun r w' => r = .returned (.int .i64 la) ∧ ∃ y : Ext w, w' = w.ext y)
    (hRC : ∀ x : Ext w, Calls Try.prog 15 #[.slice A m lc, .int .i64 i, .int .i64 kd, .int .i64 o] (w.ext x) fun r w' => r = .returned (.int .i64 nn) ∧ ∃ y : Ext w, w' = w.ext y):
    Calls Try.prog 4 #[.slice cA cn cc, .slice A ln lc, .int .i64 i, .int .i64 kd, .int .i64 o] (w.ext x0) fun r w' => r = .returned (.bool true) ∧ ∃ y : Ext w, w' = w.ext y := by
  obtain ⟨hF, hA, hW, hL, hN, hK, hn, hcn, hm1, hmc, hnc, hcl⟩ := C
  rcases hn with ⟨h6, rfl⟩ | ⟨h6, rfl⟩
  · go_enter Try.func4, Try.ntmps4
    go_wp2
    refine region_at (by kernel_rfl) (by kernel_rfl) ?_
    repeat (go_big_quiet_step (exact hF _))
    refine wpQuiet_nil ?_
    rintro _ ⟨x, rfl⟩
    go_wp2_with (first | (go_at_call 9; ((with_reducible refine (hA _).mono ?_)); rintro _ _ ⟨rfl, z, rfl⟩) | (go_at_call 8; ((with_reducible refine (hW _).mono ?_)); rintro _ _ ⟨rfl, z, rfl⟩) | (go_at_call 10; ((with_reducible refine (hL _).mono ?_)); rintro _ _ ⟨rfl, z, rfl⟩) | (go_at_call 11; ((with_reducible refine (hN _).mono ?_)); rintro _ _ ⟨rfl, z, rfl⟩) | (go_at_call 12; ((with_reducible refine (hK _).mono ?_)); rintro _ _ ⟨rfl, z, rfl⟩) | (go_at_call 14; ((with_reducible refine (hRL _).mono ?_)); rintro _ _ ⟨rfl, z, rfl⟩) | (go_at_call 15; ((with_reducible refine (hRC _).mono ?_)); rintro _ _ ⟨rfl, z, rfl⟩))
    go_ret
    exact ⟨rfl, _, rfl⟩
  · go_enter Try.func4, Try.ntmps4
    go_wp2
    refine region_at (by kernel_rfl) (by kernel_rfl) ?_
    repeat (go_big_quiet_step (exact hF _))
    refine wpQuiet_nil ?_
    rintro _ ⟨x, rfl⟩
    go_wp2_with (first | (go_at_call 9; ((with_reducible refine (hA _).mono ?_)); rintro _ _ ⟨rfl, z, rfl⟩) | (go_at_call 8; ((with_reducible refine (hW _).mono ?_)); rintro _ _ ⟨rfl, z, rfl⟩) | (go_at_call 10; ((with_reducible refine (hL _).mono ?_)); rintro _ _ ⟨rfl, z, rfl⟩) | (go_at_call 11; ((with_reducible refine (hN _).mono ?_)); rintro _ _ ⟨rfl, z, rfl⟩) | (go_at_call 12; ((with_reducible refine (hK _).mono ?_)); rintro _ _ ⟨rfl, z, rfl⟩) | (go_at_call 14; ((with_reducible refine (hRL _).mono ?_)); rintro _ _ ⟨rfl, z, rfl⟩) | (go_at_call 15; ((with_reducible refine (hRC _).mono ?_)); rintro _ _ ⟨rfl, z, rfl⟩))
    go_ret
    exact ⟨rfl, _, rfl⟩

set_option maxHeartbeats 4000000 in
theorem tells_ok_lo {w : World} {cA A : Option Addr} {cn cc ln lc n m : Nat} {i kd o a la nn : Int} (x0 : Ext w) (C : TellsCtx w cA A cn cc ln lc n m i kd o a 0 0 3 0 0 true) (d1 : decide (i < 0) = true)
    (hR : ∀ x : Ext w, Calls Try.prog 13 #[.slice cA n cc, .slice A m lc] (w.ext x) fun r w' => r = .returned (.int .i64 a) ∧ ∃ y : Ext w, w' = w.ext y):
    Calls Try.prog 4 #[.slice cA cn cc, .slice A ln lc, .int .i64 i, .int .i64 kd, .int .i64 o] (w.ext x0) fun r w' => r = .returned (.bool true) ∧ ∃ y : Ext w, w' = w.ext y := by
  obtain ⟨hF, hA, hW, hL, hN, hK, hn, hcn, hm1, hmc, hnc, hcl⟩ := C
  rcases hn with ⟨h6, rfl⟩ | ⟨h6, rfl⟩
  · go_enter Try.func4, Try.ntmps4
    go_wp2
    refine region_at (by kernel_rfl) (by kernel_rfl) ?_
    repeat (go_big_quiet_step (exact hF _))
    refine wpQuiet_nil ?_
    rintro _ ⟨x, rfl⟩
    go_wp2_with (first | (go_at_call 9; ((with_reducible refine (hA _).mono ?_)); rintro _ _ ⟨rfl, z, rfl⟩) | (go_at_call 8; ((with_reducible refine (hW _).mono ?_)); rintro _ _ ⟨rfl, z, rfl⟩) | (go_at_call 10; ((with_reducible refine (hL _).mono ?_)); rintro _ _ ⟨rfl, z, rfl⟩) | (go_at_call 11; ((with_reducible refine (hN _).mono ?_)); rintro _ _ ⟨rfl, z, rfl⟩) | (go_at_call 12; ((with_reducible refine (hK _).mono ?_)); rintro _ _ ⟨rfl, z, rfl⟩) | (go_at_call 13; ((with_reducible refine (hR _).mono ?_)); rintro _ _ ⟨rfl, z, rfl⟩))
    go_ret
    exact ⟨rfl, _, rfl⟩
  · go_enter Try.func4, Try.ntmps4
    go_wp2
    refine region_at (by kernel_rfl) (by kernel_rfl) ?_
    repeat (go_big_quiet_step (exact hF _))
    refine wpQuiet_nil ?_
    rintro _ ⟨x, rfl⟩
    go_wp2_with (first | (go_at_call 9; ((with_reducible refine (hA _).mono ?_)); rintro _ _ ⟨rfl, z, rfl⟩) | (go_at_call 8; ((with_reducible refine (hW _).mono ?_)); rintro _ _ ⟨rfl, z, rfl⟩) | (go_at_call 10; ((with_reducible refine (hL _).mono ?_)); rintro _ _ ⟨rfl, z, rfl⟩) | (go_at_call 11; ((with_reducible refine (hN _).mono ?_)); rintro _ _ ⟨rfl, z, rfl⟩) | (go_at_call 12; ((with_reducible refine (hK _).mono ?_)); rintro _ _ ⟨rfl, z, rfl⟩) | (go_at_call 13; ((with_reducible refine (hR _).mono ?_)); rintro _ _ ⟨rfl, z, rfl⟩))
    go_ret
    exact ⟨rfl, _, rfl⟩

set_option maxHeartbeats 4000000 in
theorem tells_ok_hi {w : World} {cA A : Option Addr} {cn cc ln lc n m : Nat} {i kd o a la nn : Int} (x0 : Ext w) (C : TellsCtx w cA A cn cc ln lc n m i kd o a 0 0 3 0 0 true) (d1 : decide (i < 0) = false) (d2 : decide ((m : Int) ≤ i) = true)
    (hR : ∀ x : Ext w, Calls Try.prog 13 #[.slice cA n cc, .slice A m lc] (w.ext x) fun r w' => r = .returned (.int .i64 a) ∧ ∃ y : Ext w, w' = w.ext y):
    Calls Try.prog 4 #[.slice cA cn cc, .slice A ln lc, .int .i64 i, .int .i64 kd, .int .i64 o] (w.ext x0) fun r w' => r = .returned (.bool true) ∧ ∃ y : Ext w, w' = w.ext y := by
  obtain ⟨hF, hA, hW, hL, hN, hK, hn, hcn, hm1, hmc, hnc, hcl⟩ := C
  rcases hn with ⟨h6, rfl⟩ | ⟨h6, rfl⟩
  · go_enter Try.func4, Try.ntmps4
    go_wp2
    refine region_at (by kernel_rfl) (by kernel_rfl) ?_
    repeat (go_big_quiet_step (exact hF _))
    refine wpQuiet_nil ?_
    rintro _ ⟨x, rfl⟩
    go_wp2_with (first | (go_at_call 9; ((with_reducible refine (hA _).mono ?_)); rintro _ _ ⟨rfl, z, rfl⟩) | (go_at_call 8; ((with_reducible refine (hW _).mono ?_)); rintro _ _ ⟨rfl, z, rfl⟩) | (go_at_call 10; ((with_reducible refine (hL _).mono ?_)); rintro _ _ ⟨rfl, z, rfl⟩) | (go_at_call 11; ((with_reducible refine (hN _).mono ?_)); rintro _ _ ⟨rfl, z, rfl⟩) | (go_at_call 12; ((with_reducible refine (hK _).mono ?_)); rintro _ _ ⟨rfl, z, rfl⟩) | (go_at_call 13; ((with_reducible refine (hR _).mono ?_)); rintro _ _ ⟨rfl, z, rfl⟩))
    go_ret
    exact ⟨rfl, _, rfl⟩
  · go_enter Try.func4, Try.ntmps4
    go_wp2
    refine region_at (by kernel_rfl) (by kernel_rfl) ?_
    repeat (go_big_quiet_step (exact hF _))
    refine wpQuiet_nil ?_
    rintro _ ⟨x, rfl⟩
    go_wp2_with (first | (go_at_call 9; ((with_reducible refine (hA _).mono ?_)); rintro _ _ ⟨rfl, z, rfl⟩) | (go_at_call 8; ((with_reducible refine (hW _).mono ?_)); rintro _ _ ⟨rfl, z, rfl⟩) | (go_at_call 10; ((with_reducible refine (hL _).mono ?_)); rintro _ _ ⟨rfl, z, rfl⟩) | (go_at_call 11; ((with_reducible refine (hN _).mono ?_)); rintro _ _ ⟨rfl, z, rfl⟩) | (go_at_call 12; ((with_reducible refine (hK _).mono ?_)); rintro _ _ ⟨rfl, z, rfl⟩) | (go_at_call 13; ((with_reducible refine (hR _).mono ?_)); rintro _ _ ⟨rfl, z, rfl⟩))
    go_ret
    exact ⟨rfl, _, rfl⟩

set_option maxHeartbeats 4000000 in
theorem tells_ok_in {w : World} {cA A : Option Addr} {cn cc ln lc n m : Nat} {i kd o a la nn : Int} (x0 : Ext w) (C : TellsCtx w cA A cn cc ln lc n m i kd o a 0 0 0 la nn true) (d1 : decide (i < 0) = false) (d2 : decide ((m : Int) ≤ i) = false)
    (hR : ∀ x : Ext w, Calls Try.prog 13 #[.slice cA n cc, .slice A m lc] (w.ext x) fun r w' => r = .returned (.int .i64 a) ∧ ∃ y : Ext w, w' = w.ext y)
    (hRL : ∀ x : Ext w, Calls Try.prog 14 #[.slice A m lc, .int .i64 i] (w.ext x) fun r w' => r = .returned (.int .i64 la) ∧ ∃ y : Ext w, w' = w.ext y)
    (hRC : ∀ x : Ext w, Calls Try.prog 15 #[.slice A m lc, .int .i64 i, .int .i64 kd, .int .i64 o] (w.ext x) fun r w' => r = .returned (.int .i64 nn) ∧ ∃ y : Ext w, w' = w.ext y):
    Calls Try.prog 4 #[.slice cA cn cc, .slice A ln lc, .int .i64 i, .int .i64 kd, .int .i64 o] (w.ext x0) fun r w' => r = .returned (.bool true) ∧ ∃ y : Ext w, w' = w.ext y := by
  obtain ⟨hF, hA, hW, hL, hN, hK, hn, hcn, hm1, hmc, hnc, hcl⟩ := C
  rcases hn with ⟨h6, rfl⟩ | ⟨h6, rfl⟩
  · go_enter Try.func4, Try.ntmps4
    go_wp2
    refine region_at (by kernel_rfl) (by kernel_rfl) ?_
    repeat (go_big_quiet_step (exact hF _))
    refine wpQuiet_nil ?_
    rintro _ ⟨x, rfl⟩
    go_wp2_with (first | (go_at_call 9; ((with_reducible refine (hA _).mono ?_)); rintro _ _ ⟨rfl, z, rfl⟩) | (go_at_call 8; ((with_reducible refine (hW _).mono ?_)); rintro _ _ ⟨rfl, z, rfl⟩) | (go_at_call 10; ((with_reducible refine (hL _).mono ?_)); rintro _ _ ⟨rfl, z, rfl⟩) | (go_at_call 11; ((with_reducible refine (hN _).mono ?_)); rintro _ _ ⟨rfl, z, rfl⟩) | (go_at_call 12; ((with_reducible refine (hK _).mono ?_)); rintro _ _ ⟨rfl, z, rfl⟩) | (go_at_call 13; ((with_reducible refine (hR _).mono ?_)); rintro _ _ ⟨rfl, z, rfl⟩) | (go_at_call 14; ((with_reducible refine (hRL _).mono ?_)); rintro _ _ ⟨rfl, z, rfl⟩) | (go_at_call 15; ((with_reducible refine (hRC _).mono ?_)); rintro _ _ ⟨rfl, z, rfl⟩))
    go_ret
    exact ⟨rfl, _, rfl⟩
  · go_enter Try.func4, Try.ntmps4
    go_wp2
    refine region_at (by kernel_rfl) (by kernel_rfl) ?_
    repeat (go_big_quiet_step (exact hF _))
    refine wpQuiet_nil ?_
    rintro _ ⟨x, rfl⟩
    go_wp2_with (first | (go_at_call 9; ((with_reducible refine (hA _).mono ?_)); rintro _ _ ⟨rfl, z, rfl⟩) | (go_at_call 8; ((with_reducible refine (hW _).mono ?_)); rintro _ _ ⟨rfl, z, rfl⟩) | (go_at_call 10; ((with_reducible refine (hL _).mono ?_)); rintro _ _ ⟨rfl, z, rfl⟩) | (go_at_call 11; ((with_reducible refine (hN _).mono ?_)); rintro _ _ ⟨rfl, z, rfl⟩) | (go_at_call 12; ((with_reducible refine (hK _).mono ?_)); rintro _ _ ⟨rfl, z, rfl⟩) | (go_at_call 13; ((with_reducible refine (hR _).mono ?_)); rintro _ _ ⟨rfl, z, rfl⟩) | (go_at_call 14; ((with_reducible refine (hRL _).mono ?_)); rintro _ _ ⟨rfl, z, rfl⟩) | (go_at_call 15; ((with_reducible refine (hRC _).mono ?_)); rintro _ _ ⟨rfl, z, rfl⟩))
    go_ret
    exact ⟨rfl, _, rfl⟩

theorem rw_caps {w : World} {cA A : Option Addr} {cc lc : Nat} {caps : List Int} {l : List Ev} (hC : IntsAt w cA caps) (hE : EvsAt w A l) (hlc : l.length ≤ lc) (hll : l.length ≤ 140737488351232) (hcc : caps.length ≤ cc) (hok : capsOk caps = true) :
    ∀ x : Ext w, Calls Try.prog 13 #[.slice cA caps.length cc, .slice A l.length lc] (w.ext x) fun r w' => r = .returned (.int .i64 (wrongI caps [] s0 l)) ∧ ∃ y : Ext w, w' = w.ext y := fun x => by
  simp only [capsOk, Bool.and_eq_true, decide_eq_true_eq, Bool.not_eq_true'] at hok
  have hb : ∀ k : Int, 0 ≤ k → k < caps.length → -1 ≤ rdI caps k ∧ rdI caps k ≤ 3 := fun k h0 h1 => by
    obtain ⟨k, rfl⟩ := Int.eq_ofNat_of_zero_le h0
    have hk : k < caps.length := by omega
    have e : rdI caps k = caps[k] := by simp [rdI, List.getD_eq_getElem?_getD, hk]
    have := List.any_eq_false.1 hok.2 caps[k] (List.getElem_mem hk)
    rw [e]
    simp [capBad, inB] at this
    omega
  rw [wrong_eq hb hok.1 hll]
  exact rwrong_any x hE hlc hll hC hok.1 hcc hb

/-- The law: whatever the capacities, the events and the numbers. -/
theorem tells_any (w : World) {cA A : Option Addr} {cc lc : Nat} {caps : List Int} {l : List Ev} (i kd o : Int) (hC : IntsAt w cA caps) (hE : EvsAt w A l)
    (hcc : caps.length ≤ cc) (hlc : l.length ≤ lc) (hcl : caps.length ≤ 140737488351232) (hll : l.length ≤ 140737488351232) :
    Calls Try.prog 4 #[.slice cA caps.length cc, .slice A l.length lc, .int .i64 i, .int .i64 kd, .int .i64 o] w fun r w' => r = .returned (.bool true) ∧ ∃ y : Ext w, w' = w.ext y := by
  have c6 : (caps.take 6).length = min caps.length 6 := by rw [List.length_take]; omega
  have l1 : (l.take 150).length = min l.length 150 := by rw [List.length_take]; omega
  have hC' := hC.take 6
  have hE' := hE.take 150
  obtain ⟨m, hm⟩ : ∃ m, min l.length 150 = m := ⟨_, rfl⟩
  obtain ⟨n, hn⟩ : ∃ n, min caps.length 6 = n := ⟨_, rfl⟩
  rw [hm] at l1
  rw [hn] at c6
  have hW : ∀ x : Ext w, Calls Try.prog 8 #[.slice cA n cc, .slice A m lc] (w.ext x) fun r w' => r = .returned (.tuple #[.int .i64 (wrongA (caps.take 6) (l.take 150)), .int .i64 (wrongE (caps.take 6))]) ∧ ∃ y : Ext w, w' = w.ext y := fun x => by
    have := wrong_any (w.ext x) (cc := cc) (lc := lc) (hC'.ext x) (hE'.ext x) (by omega) (by omega) (by omega)
    rw [c6, l1] at this
    exact calls_ext2 this
  have hF : ∀ x : Ext w, Calls Try.prog 7 #[.slice A l.length lc] (w.ext x) fun r w' => r = .returned (.slice A m lc) ∧ ∃ y : Ext w, w' = w.ext y := fun x => by
    have := calls_ext2 (few_any (w.ext x) A l.length lc hlc hll); rw [hm] at this; exact this
  have hA : ∀ x : Ext w, Calls Try.prog 9 #[] (w.ext x) fun r w' => r = .returned (.bool true) ∧ ∃ y : Ext w, w' = w.ext y := fun x => calls_ext2 (alive_any (w.ext x))
  have hK : ∀ x : Ext w, Calls Try.prog 12 #[.slice cA n cc] (w.ext x) fun r w' => r = .returned (.bool (capsOk (caps.take 6))) ∧ ∃ y : Ext w, w' = w.ext y := fun x => by
    have := rcaps_any x (cc := cc) hC' (by omega) rfl
    rwa [c6] at this
  obtain ⟨x0, hx0⟩ : ∃ x0 : Ext w, w = w.ext x0 := ex_refl w
  suffices hh : Calls Try.prog 4 #[.slice cA caps.length cc, .slice A l.length lc, .int .i64 i, .int .i64 kd, .int .i64 o] (w.ext x0) fun r w' => r = .returned (.bool true) ∧ ∃ y : Ext w, w' = w.ext y by
    rwa [← hx0] at hh
  clear hx0
  have h1 : ((6 : Int) < caps.length ∧ n = 6) ∨ (¬ (6 : Int) < caps.length ∧ n = caps.length) := by omega
  have h2 : m ≤ 150 := by omega
  have h3 : m ≤ lc := by omega
  have h4 : n ≤ cc := by omega
  have hlc' : (l.take 150).length ≤ lc := by omega
  have hll' : (l.take 150).length ≤ 140737488351232 := by omega
  by_cases hi : 0 ≤ i ∧ i < m
  · have d1 : decide (i < 0) = false := by simp; omega
    have d2 : decide ((m : Int) ≤ i) = false := by simp; omega
    have hL : ∀ x : Ext w, _ := fun x => last_in x hE' hlc' hll' hi.1 (by rw [l1]; exact hi.2)
    have hN : ∀ x : Ext w, _ := fun x => count_in x hE' hlc' hll' hi.1 (by rw [l1]; exact hi.2) kd o
    have hRL : ∀ x : Ext w, _ := fun x => rlast_any x hE' hlc' hll' hi.1 (by rw [l1]; exact hi.2)
    have hRC : ∀ x : Ext w, _ := fun x => rcount_any x hE' hlc' hll' hi.1 (by rw [l1]; exact hi.2) kd o
    rw [l1] at hL hN hRL hRC
    generalize lastFrom (l.take 150) (evAt (l.take 150) i).g i.toNat = la at hL hRL
    generalize cntTo (l.take 150) kd o i.toNat = nn at hN hRC
    cases hok : capsOk (caps.take 6)
    · simp only [wrongA, wrongE, hok, Bool.false_eq_true, if_false] at hW hK
      exact tells_no_in (a := 0) x0 ⟨hF, hA, hW, hL, hN, hK, h1, hcc, h2, h3, h4, hcl⟩ d1 d2 hRL hRC
    · have hR := rw_caps (cc := cc) hC' hE' hlc' hll' (by omega) hok
      rw [c6, l1] at hR
      simp only [wrongA, wrongE, hok, if_true] at hW hK
      exact tells_ok_in x0 ⟨hF, hA, hW, hL, hN, hK, h1, hcc, h2, h3, h4, hcl⟩ d1 d2 hR hRL hRC
  · have hL : ∀ x : Ext w, _ := fun x => last_out (l := l.take 150) (lc := lc) (A := A) x hll' (i := i) (by omega)
    have hN : ∀ x : Ext w, _ := fun x => count_out (l := l.take 150) (lc := lc) (A := A) (kd := kd) (o := o) x hll' (i := i) (by omega)
    rw [l1] at hL hN
    cases hok : capsOk (caps.take 6)
    · simp only [wrongA, wrongE, hok, Bool.false_eq_true, if_false] at hW hK
      cases d1 : decide (i < 0)
      · exact tells_no_hi (a := 0) (la := 0) (nn := 0) x0 ⟨hF, hA, hW, hL, hN, hK, h1, hcc, h2, h3, h4, hcl⟩ d1 (by simp at d1 ⊢; omega)
      · exact tells_no_lo (a := 0) (la := 0) (nn := 0) x0 ⟨hF, hA, hW, hL, hN, hK, h1, hcc, h2, h3, h4, hcl⟩ d1
    · have hR := rw_caps (cc := cc) hC' hE' hlc' hll' (by omega) hok
      rw [c6, l1] at hR
      simp only [wrongA, wrongE, hok, if_true] at hW hK
      cases d1 : decide (i < 0)
      · exact tells_ok_hi (la := 0) (nn := 0) x0 ⟨hF, hA, hW, hL, hN, hK, h1, hcc, h2, h3, h4, hcl⟩ d1 (by simp at d1 ⊢; omega) hR
      · exact tells_ok_lo (la := 0) (nn := 0) x0 ⟨hF, hA, hW, hL, hN, hK, h1, hcc, h2, h3, h4, hcl⟩ d1 hR
end Go.Proofs.Ytnjnmoehjaikkaa.Tr
