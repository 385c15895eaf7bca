/- The law TraceParts, walked. Condition: capacities and events lie in memory. -/
import Derived.Test.YtnjnmoehjaikkaaTrWB
namespace Go.Proofs.Ytnjnmoehjaikkaa.Tr
open Go Go.RowKit Base
set_option linter.unusedVariables false
set_option linter.unusedSimpArgs false

theorem wrongI_range (caps : List Int) : ∀ (r done : List Ev) (s : JS), wrongI caps done s r = -1 ∨ ((done.length : Int) ≤ wrongI caps done s r ∧ wrongI caps done s r < done.length + r.length)
  | [], done, s => .inl rfl
  | e :: r, done, s => by
    unfold wrongI
    by_cases h : rightB caps s done e = true
    · rw [if_pos h]
      rcases wrongI_range caps r (done ++ [e]) (s.upd done.length e) with h1 | ⟨h1, h2⟩
      · exact .inl h1
      · simp only [List.length_append, List.length_cons, List.length_nil] at h1 h2 ⊢; omega
    · rw [if_neg h]
      simp only [List.length_cons]; omega

theorem wrongI_take (caps : List Int) : ∀ (r done : List Ev) (s : JS) (m : Nat), wrongI caps done s (r.take m) = if 0 ≤ wrongI caps done s r ∧ wrongI caps done s r < done.length + m then wrongI caps done s r else -1
  | [], done, s, m => by simp [wrongI]
  | e :: r, done, s, 0 => by
    have := wrongI_range caps (e :: r) done s
    simp only [List.take_zero]
    rw [if_neg]
    · rfl
    · omega
  | e :: r, done, s, m + 1 => by
    simp only [List.take_succ_cons]
    unfold wrongI
    by_cases h : rightB caps s done e = true
    · rw [if_pos h, if_pos h, wrongI_take caps r (done ++ [e]) (s.upd done.length e) m]
      simp only [List.length_append, List.length_cons, List.length_nil]
      congr 1
      simp only [eq_iff_iff]
      constructor <;> (rintro ⟨h1, h2⟩; exact ⟨h1, by omega⟩)
    · rw [if_neg h, if_neg h, if_pos]
      omega

theorem IntsAt.take {w : World} {A : Option Addr} {xs : List Int} (h : IntsAt w A xs) (k : Nat) : IntsAt w A (xs.take k) := fun i hi => by
  rw [List.length_take] at hi
  obtain ⟨a, h1, h2, h3⟩ := h i (by omega)
  refine ⟨a, h1, h2, ?_⟩
  rw [h3]
  simp [List.getD_eq_getElem?_getD, List.getElem?_take, show i < k by omega]

/-- What is walked: the calls' contracts are hypotheses. -/
structure PartsCtx (w : World) (cA A : Option Addr) (cn cc ln lc n m : Nat) : Prop where
  hF : ∀ x : Ext w, Calls Try.prog 7 #[.slice A ln lc] (w.ext x) fun r w' => r = .returned (.slice A m lc) ∧ ∃ y : Ext w, w' = w.ext y
  hA : ∀ x : Ext w, Calls Try.prog 9 #[] (w.ext x) fun r w' => r = .returned (.bool true) ∧ ∃ y : Ext w, w' = w.ext y
  hn : ((6 : Int) < cn ∧ n = 6) ∨ (¬ (6 : Int) < cn ∧ n = cn)
  hcn : cn ≤ cc
  hm1 : m ≤ 150
  hmc : m ≤ lc
  hnc : n ≤ cc
  hcl : cn ≤ 140737488351232

set_option maxHeartbeats 4000000 in
theorem parts_no {w : World} {cA A : Option Addr} {cn cc ln lc n m : Nat} (C : PartsCtx w cA A cn cc ln lc n m) (k : Int) (x0 : Ext w)
    (hW : ∀ x : Ext w, Calls Try.prog 8 #[.slice cA n cc, .slice A m lc] (w.ext x) fun r w' => r = .returned (.tuple #[.int .i64 0, .int .i64 1]) ∧ ∃ y : Ext w, w' = w.ext y):
    Calls Try.prog 3 #[.slice cA cn cc, .slice A ln lc, .int .i64 k] (w.ext x0) fun r w' => r = .returned (.bool true) ∧ ∃ y : Ext w, w' = w.ext y := by
  obtain ⟨hF, hA, hn, hcn, hm1, hmc, hnc, hcl⟩ := C
  rcases hn with ⟨h6, rfl⟩ | ⟨h6, rfl⟩
  · go_enter Try.func3, Try.ntmps3
    go_wp2
    refine region_at (by kernel_rfl) (by kernel_rfl) ?_
    repeat (go_big_quiet_step (exact hF _))
    refine wpQuiet_nil ?_
    rintro _ ⟨x, rfl⟩
    go_wp2_with (first | (go_at_call 9; refine (hA _).mono ?_; rintro _ _ ⟨rfl, z, rfl⟩) | ((with_reducible refine (hW _).mono ?_); rintro _ _ ⟨rfl, z, rfl⟩))
    go_ret
    exact ⟨rfl, _, rfl⟩
  · go_enter Try.func3, Try.ntmps3
    go_wp2
    refine region_at (by kernel_rfl) (by kernel_rfl) ?_
    repeat (go_big_quiet_step (exact hF _))
    refine wpQuiet_nil ?_
    rintro _ ⟨x, rfl⟩
    go_wp2_with (first | (go_at_call 9; refine (hA _).mono ?_; rintro _ _ ⟨rfl, z, rfl⟩) | ((with_reducible refine (hW _).mono ?_); rintro _ _ ⟨rfl, z, rfl⟩))
    go_ret
    exact ⟨rfl, _, rfl⟩

set_option maxHeartbeats 4000000 in
theorem parts_a {w : World} {cA A : Option Addr} {cn cc ln lc n m : Nat} (C : PartsCtx w cA A cn cc ln lc n m) (k : Int) (x0 : Ext w) {a : Int} {K : Nat} (ha0 : -1 ≤ a) (ha1 : a < m) (ht0 : -(m : Int) ≤ k.tmod ((m : Int) + 1)) (ht1 : k.tmod ((m : Int) + 1) ≤ m) (hK : (k.tmod ((m : Int) + 1) + m + 1) % ((m : Int) + 1) = K) (hKm : K ≤ m) (hKc : K ≤ lc) (hk0 : -9223372036854775808 ≤ k) (hk1 : k ≤ 9223372036854775807) (c1 : decide (0 ≤ a) = false)
    (hW : ∀ x : Ext w, Calls Try.prog 8 #[.slice cA n cc, .slice A m lc] (w.ext x) fun r w' => r = .returned (.tuple #[.int .i64 a, .int .i64 0]) ∧ ∃ y : Ext w, w' = w.ext y)
    (hW2 : ∀ x : Ext w, Calls Try.prog 8 #[.slice cA n cc, .slice A K lc] (w.ext x) fun r w' => r = .returned (.tuple #[.int .i64 (-1), .int .i64 0]) ∧ ∃ y : Ext w, w' = w.ext y):
    Calls Try.prog 3 #[.slice cA cn cc, .slice A ln lc, .int .i64 k] (w.ext x0) fun r w' => r = .returned (.bool true) ∧ ∃ y : Ext w, w' = w.ext y := by
  obtain ⟨hF, hA, hn, hcn, hm1, hmc, hnc, hcl⟩ := C
  rcases hn with ⟨h6, rfl⟩ | ⟨h6, rfl⟩
  · go_enter Try.func3, Try.ntmps3
    go_wp2
    refine region_at (by kernel_rfl) (by kernel_rfl) ?_
    repeat (go_big_quiet_step (exact hF _))
    refine wpQuiet_nil ?_
    rintro _ ⟨x, rfl⟩
    go_wp2_with (first | (go_at_call 9; refine (hA _).mono ?_; rintro _ _ ⟨rfl, z, rfl⟩) | ((with_reducible refine (hW _).mono ?_); rintro _ _ ⟨rfl, z, rfl⟩) | ((with_reducible refine (hW2 _).mono ?_); rintro _ _ ⟨rfl, z, rfl⟩))
    go_ret
    exact ⟨rfl, _, rfl⟩
  · go_enter Try.func3, Try.ntmps3
    go_wp2
    refine region_at (by kernel_rfl) (by kernel_rfl) ?_
    repeat (go_big_quiet_step (exact hF _))
    refine wpQuiet_nil ?_
    rintro _ ⟨x, rfl⟩
    go_wp2_with (first | (go_at_call 9; refine (hA _).mono ?_; rintro _ _ ⟨rfl, z, rfl⟩) | ((with_reducible refine (hW _).mono ?_); rintro _ _ ⟨rfl, z, rfl⟩) | ((with_reducible refine (hW2 _).mono ?_); rintro _ _ ⟨rfl, z, rfl⟩))
    go_ret
    exact ⟨rfl, _, rfl⟩

set_option maxHeartbeats 4000000 in
theorem parts_b {w : World} {cA A : Option Addr} {cn cc ln lc n m : Nat} (C : PartsCtx w cA A cn cc ln lc n m) (k : Int) (x0 : Ext w) {a : Int} {K : Nat} (ha0 : -1 ≤ a) (ha1 : a < m) (ht0 : -(m : Int) ≤ k.tmod ((m : Int) + 1)) (ht1 : k.tmod ((m : Int) + 1) ≤ m) (hK : (k.tmod ((m : Int) + 1) + m + 1) % ((m : Int) + 1) = K) (hKm : K ≤ m) (hKc : K ≤ lc) (hk0 : -9223372036854775808 ≤ k) (hk1 : k ≤ 9223372036854775807) (c1 : decide (0 ≤ a) = true) (c2 : decide (a < (K : Int)) = false)
    (hW : ∀ x : Ext w, Calls Try.prog 8 #[.slice cA n cc, .slice A m lc] (w.ext x) fun r w' => r = .returned (.tuple #[.int .i64 a, .int .i64 0]) ∧ ∃ y : Ext w, w' = w.ext y)
    (hW2 : ∀ x : Ext w, Calls Try.prog 8 #[.slice cA n cc, .slice A K lc] (w.ext x) fun r w' => r = .returned (.tuple #[.int .i64 (-1), .int .i64 0]) ∧ ∃ y : Ext w, w' = w.ext y):
    Calls Try.prog 3 #[.slice cA cn cc, .slice A ln lc, .int .i64 k] (w.ext x0) fun r w' => r = .returned (.bool true) ∧ ∃ y : Ext w, w' = w.ext y := by
  obtain ⟨hF, hA, hn, hcn, hm1, hmc, hnc, hcl⟩ := C
  rcases hn with ⟨h6, rfl⟩ | ⟨h6, rfl⟩
  · go_enter Try.func3, Try.ntmps3
    go_wp2
    refine region_at (by kernel_rfl) (by kernel_rfl) ?_
    repeat (go_big_quiet_step (exact hF _))
    refine wpQuiet_nil ?_
    rintro _ ⟨x, rfl⟩
    go_wp2_with (first | (go_at_call 9; refine (hA _).mono ?_; rintro _ _ ⟨rfl, z, rfl⟩) | ((with_reducible refine (hW _).mono ?_); rintro _ _ ⟨rfl, z, rfl⟩) | ((with_reducible refine (hW2 _).mono ?_); rintro _ _ ⟨rfl, z, rfl⟩))
    go_ret
    exact ⟨rfl, _, rfl⟩
  · go_enter Try.func3, Try.ntmps3
    go_wp2
    refine region_at (by kernel_rfl) (by kernel_rfl) ?_
    repeat (go_big_quiet_step (exact hF _))
    refine wpQuiet_nil ?_
    rintro _ ⟨x, rfl⟩
    go_wp2_with (first | (go_at_call 9; refine (hA _).mono ?_; rintro _ _ ⟨rfl, z, rfl⟩) | ((with_reducible refine (hW _).mono ?_); rintro _ _ ⟨rfl, z, rfl⟩) | ((with_reducible refine (hW2 _).mono ?_); rintro _ _ ⟨rfl, z, rfl⟩))
    go_ret
    exact ⟨rfl, _, rfl⟩

set_option maxHeartbeats 4000000 in
theorem parts_c {w : World} {cA A : Option Addr} {cn cc ln lc n m : Nat} (C : PartsCtx w cA A cn cc ln lc n m) (k : Int) (x0 : Ext w) {a : Int} {K : Nat} (ha0 : -1 ≤ a) (ha1 : a < m) (ht0 : -(m : Int) ≤ k.tmod ((m : Int) + 1)) (ht1 : k.tmod ((m : Int) + 1) ≤ m) (hK : (k.tmod ((m : Int) + 1) + m + 1) % ((m : Int) + 1) = K) (hKm : K ≤ m) (hKc : K ≤ lc) (hk0 : -9223372036854775808 ≤ k) (hk1 : k ≤ 9223372036854775807) (c1 : decide (0 ≤ a) = true) (c2 : decide (a < (K : Int)) = true)
    (hW : ∀ x : Ext w, Calls Try.prog 8 #[.slice cA n cc, .slice A m lc] (w.ext x) fun r w' => r = .returned (.tuple #[.int .i64 a, .int .i64 0]) ∧ ∃ y : Ext w, w' = w.ext y)
    (hW2 : ∀ x : Ext w, Calls Try.prog 8 #[.slice cA n cc, .slice A K lc] (w.ext x) fun r w' => r = .returned (.tuple #[.int .i64 (a), .int .i64 0]) ∧ ∃ y : Ext w, w' = w.ext y):
    Calls Try.prog 3 #[.slice cA cn cc, .slice A ln lc, .int .i64 k] (w.ext x0) fun r w' => r = .returned (.bool true) ∧ ∃ y : Ext w, w' = w.ext y := by
  obtain ⟨hF, hA, hn, hcn, hm1, hmc, hnc, hcl⟩ := C
  rcases hn with ⟨h6, rfl⟩ | ⟨h6, rfl⟩
  · go_enter Try.func3, Try.ntmps3
    go_wp2
    refine region_at (by kernel_rfl) (by kernel_rfl) ?_
    repeat (go_big_quiet_step (exact hF _))
    refine wpQuiet_nil ?_
    rintro _ ⟨x, rfl⟩
    go_wp2_with (first | (go_at_call 9; refine (hA _).mono ?_; rintro _ _ ⟨rfl, z, rfl⟩) | ((with_reducible refine (hW _).mono ?_); rintro _ _ ⟨rfl, z, rfl⟩) | ((with_reducible refine (hW2 _).mono ?_); rintro _ _ ⟨rfl, z, rfl⟩))
    go_ret
    exact ⟨rfl, _, rfl⟩
  · go_enter Try.func3, Try.ntmps3
    go_wp2
    refine region_at (by kernel_rfl) (by kernel_rfl) ?_
    repeat (go_big_quiet_step (exact hF _))
    refine wpQuiet_nil ?_
    rintro _ ⟨x, rfl⟩
    go_wp2_with (first | (go_at_call 9; refine (hA _).mono ?_; rintro _ _ ⟨rfl, z, rfl⟩) | ((with_reducible refine (hW _).mono ?_); rintro _ _ ⟨rfl, z, rfl⟩) | ((with_reducible refine (hW2 _).mono ?_); rintro _ _ ⟨rfl, z, rfl⟩))
    go_ret
    exact ⟨rfl, _, rfl⟩

/-- The law: whatever the capacities, the events and the number. -/
theorem parts_any (w : World) {cA A : Option Addr} {cc lc : Nat} {caps : List Int} {l : List Ev} (k : Int) (hk0 : -9223372036854775808 ≤ k) (hk1 : k ≤ 9223372036854775807) (hC : IntsAt w cA caps) (hE : EvsAt w A l)
    (hcc : caps.length ≤ cc) (hlc : l.length ≤ lc) (hcl : caps.length ≤ 140737488351232) (hll : l.length ≤ 140737488351232) :
    Calls Try.prog 3 #[.slice cA caps.length cc, .slice A l.length lc, .int .i64 k] w fun r w' => r = .returned (.bool true) ∧ ∃ y : Ext w, w' = w.ext y := by
  have c6 : (caps.take 6).length = min caps.length 6 := by rw [List.length_take]; omega
  have l1 : (l.take 150).length = min l.length 150 := by rw [List.length_take]; omega
  have hC' := hC.take 6
  have hE' := hE.take 150
  have hW : ∀ x : Ext w, Calls Try.prog 8 #[.slice cA (min caps.length 6) cc, .slice A (min l.length 150) lc] (w.ext x) fun r w' => r = .returned (.tuple #[.int .i64 (wrongA (caps.take 6) (l.take 150)), .int .i64 (wrongE (caps.take 6))]) ∧ ∃ y : Ext w, w' = w.ext y := fun x => by
    have := wrong_any (w.ext x) (cc := cc) (lc := lc) (hC'.ext x) (hE'.ext x) (by omega) (by omega) (by omega)
    rw [c6, l1] at this
    exact calls_ext2 this
  obtain ⟨m, hm⟩ : ∃ m, min l.length 150 = m := ⟨_, rfl⟩
  obtain ⟨n, hn⟩ : ∃ n, min caps.length 6 = n := ⟨_, rfl⟩
  have C : PartsCtx w cA A caps.length cc l.length lc n m := ⟨fun x => by have := calls_ext2 (few_any (w.ext x) A l.length lc hlc hll); rw [hm] at this; exact this, fun x => calls_ext2 (alive_any (w.ext x)), by omega, hcc, by omega, by omega, by omega, hcl⟩
  rw [hm, hn] at hW
  obtain ⟨x0, hx0⟩ : ∃ x0 : Ext w, w = w.ext x0 := ex_refl w
  suffices hh : Calls Try.prog 3 #[.slice cA caps.length cc, .slice A l.length lc, .int .i64 k] (w.ext x0) fun r w' => r = .returned (.bool true) ∧ ∃ y : Ext w, w' = w.ext y by
    rwa [← hx0] at hh
  clear hx0
  have ha := wrongI_range (caps.take 6) (l.take 150) [] s0
  simp only [List.length_nil, l1, hm] at ha
  cases hok : capsOk (caps.take 6)
  · simp only [wrongA, wrongE, hok, Bool.false_eq_true, if_false] at hW
    exact parts_no C k x0 hW
  · have hT : ∀ K : Nat, K ≤ m → ∀ x : Ext w, Calls Try.prog 8 #[.slice cA n cc, .slice A K lc] (w.ext x) fun r w' => r = .returned (.tuple #[.int .i64 (if 0 ≤ wrongI (caps.take 6) [] s0 (l.take 150) ∧ wrongI (caps.take 6) [] s0 (l.take 150) < K then wrongI (caps.take 6) [] s0 (l.take 150) else -1), .int .i64 0]) ∧ ∃ y : Ext w, w' = w.ext y := fun K hK x => by
      have lK : ((l.take 150).take K).length = K := by rw [List.length_take]; omega
      have := wrong_any (w.ext x) (cc := cc) (lc := lc) (hC'.ext x) ((hE'.take K).ext x) (by omega) (by omega) (by omega)
      rw [c6, lK, hn] at this
      simp only [wrongA, wrongE, hok, if_true] at this
      rw [wrongI_take (caps.take 6) (l.take 150) [] s0 K] at this
      simp only [List.length_nil, Int.natCast_zero, Int.zero_add] at this
      exact calls_ext2 this
    simp only [wrongA, wrongE, hok, if_true] at hW
    generalize wrongI (caps.take 6) [] s0 (l.take 150) = a at *
    have ht0 : -(m : Int) ≤ k.tmod ((m : Int) + 1) := by
      have := Int.lt_tmod_of_pos k (show (0 : Int) < (m : Int) + 1 by omega)
      omega
    have ht1 : k.tmod ((m : Int) + 1) ≤ m := by
      have := Int.tmod_lt_of_pos k (show (0 : Int) < (m : Int) + 1 by omega)
      omega
    obtain ⟨K, hK⟩ : ∃ K : Nat, (k.tmod ((m : Int) + 1) + m + 1) % ((m : Int) + 1) = K := ⟨((k.tmod ((m : Int) + 1) + m + 1) % ((m : Int) + 1)).toNat, by
      have := Int.emod_nonneg (k.tmod ((m : Int) + 1) + m + 1) (show (m : Int) + 1 ≠ 0 by omega)
      omega⟩
    have hKm : K ≤ m := by
      have := Int.emod_lt_of_pos (k.tmod ((m : Int) + 1) + m + 1) (show (0 : Int) < (m : Int) + 1 by omega)
      omega
    have hW2 := hT K hKm
    clear hT
    have ha0 : -1 ≤ a := by omega
    have ha1 : a < m := by omega
    have hKc : K ≤ lc := by omega
    cases c1 : decide (0 ≤ a)
    · have h1 : ¬ (0 ≤ a ∧ a < (K : Int)) := by simp at c1; omega
      simp only [h1, if_false] at hW2
      exact parts_a C k x0 ha0 ha1 ht0 ht1 hK hKm hKc hk0 hk1 c1 hW hW2
    · cases c2 : decide (a < (K : Int))
      · have h1 : ¬ (0 ≤ a ∧ a < (K : Int)) := by simp at c2; omega
        simp only [h1, if_false] at hW2
        exact parts_b C k x0 ha0 ha1 ht0 ht1 hK hKm hKc hk0 hk1 c1 c2 hW hW2
      · have h1 : 0 ≤ a ∧ a < (K : Int) := by simp at c1 c2; omega
        simp only [h1, and_self, if_true] at hW2
        exact parts_c C k x0 ha0 ha1 ht0 ht1 hK hKm hKc hk0 hk1 c1 c2 hW hW2
end Go.Proofs.Ytnjnmoehjaikkaa.Tr
