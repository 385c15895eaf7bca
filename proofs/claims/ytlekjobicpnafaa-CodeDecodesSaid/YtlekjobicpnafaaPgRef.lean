/- plaitref06: most, instr. Condition: none. -/
import Derived.Test.YtlekjobicpnafaaPgTab
namespace Go.Proofs.Ytlekjobicpnafaa.Pg
open Go Go.RowKit Base
set_option linter.unusedVariables false
set_option linter.unusedSimpArgs false

section
variable {w : World}

set_option maxHeartbeats 1000000 in
theorem most_lo (x0 : Ext w) (p : Prg) (L : PL) (A : Option Addr) (n c : Nat) (hn : n ≤ 140737488351232) {op : Int} (h1 : decide (1 ≤ op) = false) (e4 : (op == 4) = false) (e5 : (op == 5) = false) (e6 : (op == 6) = false) (e7 : (op == 7) = false) (e8 : (op == 8) = false) (e9 : (op == 9) = false) (e10 : (op == 10) = false) (e11 : (op == 11) = false) (h12 : decide (12 ≤ op) = false) :
    Calls Try.prog 60 #[p.val L, .int .i64 op, .slice A n c] (w.ext x0) fun r w' => r = .returned (.int .i64 (1)) ∧ ∃ y : Ext w, w' = w.ext y := by
  obtain ⟨w1, x1, hw1, ⟨y, hy⟩, hsz, f0, f1, f2, f3, f4, f5⟩ := boxP (w.ext x0) p L
  have hy' : ∃ y : Ext w, w1 = w.ext y := ⟨x0.trans y, hy⟩
  clear hy
  unfold Prg.val
  go_enter Try.func60, Try.ntmps60
  go_wp2
  go_ret
  exact ⟨rfl, ex_ext _ hy'⟩

set_option maxHeartbeats 1000000 in
theorem most_ch (x0 : Ext w) (p : Prg) (L : PL) (A : Option Addr) (n c : Nat) (hn : n ≤ 140737488351232) {op : Int} (h1 : decide (1 ≤ op) = true) (h3 : decide (op ≤ 3) = true) :
    Calls Try.prog 60 #[p.val L, .int .i64 op, .slice A n c] (w.ext x0) fun r w' => r = .returned (.int .i64 (p.caps.length)) ∧ ∃ y : Ext w, w' = w.ext y := by
  obtain ⟨w1, x1, hw1, ⟨y, hy⟩, hsz, f0, f1, f2, f3, f4, f5⟩ := boxP (w.ext x0) p L
  have hy' : ∃ y : Ext w, w1 = w.ext y := ⟨x0.trans y, hy⟩
  clear hy
  unfold Prg.val
  go_enter Try.func60, Try.ntmps60
  go_wp2
  go_ret
  exact ⟨rfl, ex_ext _ hy'⟩

set_option maxHeartbeats 1000000 in
theorem most_4 (x0 : Ext w) (p : Prg) (L : PL) (A : Option Addr) (n c : Nat) (hn : n ≤ 140737488351232)  :
    Calls Try.prog 60 #[p.val L, .int .i64 4, .slice A n c] (w.ext x0) fun r w' => r = .returned (.int .i64 (p.sels.length)) ∧ ∃ y : Ext w, w' = w.ext y := by
  obtain ⟨w1, x1, hw1, ⟨y, hy⟩, hsz, f0, f1, f2, f3, f4, f5⟩ := boxP (w.ext x0) p L
  have hy' : ∃ y : Ext w, w1 = w.ext y := ⟨x0.trans y, hy⟩
  clear hy
  unfold Prg.val
  go_enter Try.func60, Try.ntmps60
  go_wp2
  go_ret
  exact ⟨rfl, ex_ext _ hy'⟩

set_option maxHeartbeats 1000000 in
theorem most_5 (x0 : Ext w) (p : Prg) (L : PL) (A : Option Addr) (n c : Nat) (hn : n ≤ 140737488351232)  :
    Calls Try.prog 60 #[p.val L, .int .i64 5, .slice A n c] (w.ext x0) fun r w' => r = .returned (.int .i64 (p.mutexes)) ∧ ∃ y : Ext w, w' = w.ext y := by
  obtain ⟨w1, x1, hw1, ⟨y, hy⟩, hsz, f0, f1, f2, f3, f4, f5⟩ := boxP (w.ext x0) p L
  have hy' : ∃ y : Ext w, w1 = w.ext y := ⟨x0.trans y, hy⟩
  clear hy
  unfold Prg.val
  go_enter Try.func60, Try.ntmps60
  go_wp2
  go_ret
  exact ⟨rfl, ex_ext _ hy'⟩

set_option maxHeartbeats 1000000 in
theorem most_6 (x0 : Ext w) (p : Prg) (L : PL) (A : Option Addr) (n c : Nat) (hn : n ≤ 140737488351232)  :
    Calls Try.prog 60 #[p.val L, .int .i64 6, .slice A n c] (w.ext x0) fun r w' => r = .returned (.int .i64 (p.mutexes)) ∧ ∃ y : Ext w, w' = w.ext y := by
  obtain ⟨w1, x1, hw1, ⟨y, hy⟩, hsz, f0, f1, f2, f3, f4, f5⟩ := boxP (w.ext x0) p L
  have hy' : ∃ y : Ext w, w1 = w.ext y := ⟨x0.trans y, hy⟩
  clear hy
  unfold Prg.val
  go_enter Try.func60, Try.ntmps60
  go_wp2
  go_ret
  exact ⟨rfl, ex_ext _ hy'⟩

set_option maxHeartbeats 1000000 in
theorem most_7 (x0 : Ext w) (p : Prg) (L : PL) (A : Option Addr) (n c : Nat) (hn : n ≤ 140737488351232)  :
    Calls Try.prog 60 #[p.val L, .int .i64 7, .slice A n c] (w.ext x0) fun r w' => r = .returned (.int .i64 (p.onces)) ∧ ∃ y : Ext w, w' = w.ext y := by
  obtain ⟨w1, x1, hw1, ⟨y, hy⟩, hsz, f0, f1, f2, f3, f4, f5⟩ := boxP (w.ext x0) p L
  have hy' : ∃ y : Ext w, w1 = w.ext y := ⟨x0.trans y, hy⟩
  clear hy
  unfold Prg.val
  go_enter Try.func60, Try.ntmps60
  go_wp2
  go_ret
  exact ⟨rfl, ex_ext _ hy'⟩

set_option maxHeartbeats 1000000 in
theorem most_8 (x0 : Ext w) (p : Prg) (L : PL) (A : Option Addr) (n c : Nat) (hn : n ≤ 140737488351232)  :
    Calls Try.prog 60 #[p.val L, .int .i64 8, .slice A n c] (w.ext x0) fun r w' => r = .returned (.int .i64 (p.onces)) ∧ ∃ y : Ext w, w' = w.ext y := by
  obtain ⟨w1, x1, hw1, ⟨y, hy⟩, hsz, f0, f1, f2, f3, f4, f5⟩ := boxP (w.ext x0) p L
  have hy' : ∃ y : Ext w, w1 = w.ext y := ⟨x0.trans y, hy⟩
  clear hy
  unfold Prg.val
  go_enter Try.func60, Try.ntmps60
  go_wp2
  go_ret
  exact ⟨rfl, ex_ext _ hy'⟩

set_option maxHeartbeats 1000000 in
theorem most_9 (x0 : Ext w) (p : Prg) (L : PL) (A : Option Addr) (n c : Nat) (hn : n ≤ 140737488351232)  :
    Calls Try.prog 60 #[p.val L, .int .i64 9, .slice A n c] (w.ext x0) fun r w' => r = .returned (.int .i64 (p.blocks.length)) ∧ ∃ y : Ext w, w' = w.ext y := by
  obtain ⟨w1, x1, hw1, ⟨y, hy⟩, hsz, f0, f1, f2, f3, f4, f5⟩ := boxP (w.ext x0) p L
  have hy' : ∃ y : Ext w, w1 = w.ext y := ⟨x0.trans y, hy⟩
  clear hy
  unfold Prg.val
  go_enter Try.func60, Try.ntmps60
  go_wp2
  go_ret
  exact ⟨rfl, ex_ext _ hy'⟩

set_option maxHeartbeats 1000000 in
theorem most_10 (x0 : Ext w) (p : Prg) (L : PL) (A : Option Addr) (n c : Nat) (hn : n ≤ 140737488351232)  :
    Calls Try.prog 60 #[p.val L, .int .i64 10, .slice A n c] (w.ext x0) fun r w' => r = .returned (.int .i64 (p.vars)) ∧ ∃ y : Ext w, w' = w.ext y := by
  obtain ⟨w1, x1, hw1, ⟨y, hy⟩, hsz, f0, f1, f2, f3, f4, f5⟩ := boxP (w.ext x0) p L
  have hy' : ∃ y : Ext w, w1 = w.ext y := ⟨x0.trans y, hy⟩
  clear hy
  unfold Prg.val
  go_enter Try.func60, Try.ntmps60
  go_wp2
  go_ret
  exact ⟨rfl, ex_ext _ hy'⟩

set_option maxHeartbeats 1000000 in
theorem most_11 (x0 : Ext w) (p : Prg) (L : PL) (A : Option Addr) (n c : Nat) (hn : n ≤ 140737488351232)  :
    Calls Try.prog 60 #[p.val L, .int .i64 11, .slice A n c] (w.ext x0) fun r w' => r = .returned (.int .i64 (p.vars)) ∧ ∃ y : Ext w, w' = w.ext y := by
  obtain ⟨w1, x1, hw1, ⟨y, hy⟩, hsz, f0, f1, f2, f3, f4, f5⟩ := boxP (w.ext x0) p L
  have hy' : ∃ y : Ext w, w1 = w.ext y := ⟨x0.trans y, hy⟩
  clear hy
  unfold Prg.val
  go_enter Try.func60, Try.ntmps60
  go_wp2
  go_ret
  exact ⟨rfl, ex_ext _ hy'⟩

set_option maxHeartbeats 1000000 in
theorem most_hi (x0 : Ext w) (p : Prg) (L : PL) (A : Option Addr) (n c : Nat) (hn : n ≤ 140737488351232) {op : Int} (h1 : decide (1 ≤ op) = true) (h3 : decide (op ≤ 3) = false) (e4 : (op == 4) = false) (e5 : (op == 5) = false) (e6 : (op == 6) = false) (e7 : (op == 7) = false) (e8 : (op == 8) = false) (e9 : (op == 9) = false) (e10 : (op == 10) = false) (e11 : (op == 11) = false) (h12 : decide (12 ≤ op) = true) :
    Calls Try.prog 60 #[p.val L, .int .i64 op, .slice A n c] (w.ext x0) fun r w' => r = .returned (.int .i64 ((n : Int) + 1)) ∧ ∃ y : Ext w, w' = w.ext y := by
  obtain ⟨w1, x1, hw1, ⟨y, hy⟩, hsz, f0, f1, f2, f3, f4, f5⟩ := boxP (w.ext x0) p L
  have hy' : ∃ y : Ext w, w1 = w.ext y := ⟨x0.trans y, hy⟩
  clear hy
  unfold Prg.val
  go_enter Try.func60, Try.ntmps60
  go_wp2
  go_ret
  exact ⟨rfl, ex_ext _ hy'⟩

theorem rmost_any (op : Int) (x0 : Ext w) (p : Prg) (L : PL) (A : Option Addr) (n c : Nat) (hn : n ≤ 140737488351232) :
    Calls Try.prog 60 #[p.val L, .int .i64 op, .slice A n c] (w.ext x0) fun r w' => r = .returned (.int .i64 (mostF p op n)) ∧ ∃ y : Ext w, w' = w.ext y := by
  by_cases h1 : 1 ≤ op ∧ op ≤ 3
  · rw [mostF, if_pos h1]; exact most_ch x0 p L A n c hn (by simp; omega) (by simp; omega)
  by_cases h2 : op ≤ 0
  · have e : mostF p op n = 1 := by
      unfold mostF
      rw [if_neg h1, if_neg (by omega), if_neg (by omega), if_neg (by omega), if_neg (by omega), if_neg (by omega), if_neg (by omega)]
    rw [e]
    exact most_lo x0 p L A n c hn (by simp; omega) (by simp; omega) (by simp; omega) (by simp; omega) (by simp; omega) (by simp; omega) (by simp; omega) (by simp; omega) (by simp; omega) (by simp; omega)
  by_cases h3 : 12 ≤ op
  · have e : mostF p op n = (n : Int) + 1 := by
      unfold mostF
      rw [if_neg h1, if_neg (by omega), if_neg (by omega), if_neg (by omega), if_neg (by omega), if_neg (by omega), if_pos h3]
    rw [e]
    exact most_hi x0 p L A n c hn (by simp; omega) (by simp; omega) (by simp; omega) (by simp; omega) (by simp; omega) (by simp; omega) (by simp; omega) (by simp; omega) (by simp; omega) (by simp; omega) (by simp; omega)
  rcases (show op = 4 ∨ op = 5 ∨ op = 6 ∨ op = 7 ∨ op = 8 ∨ op = 9 ∨ op = 10 ∨ op = 11 by omega) with rfl | rfl | rfl | rfl | rfl | rfl | rfl | rfl
  · exact most_4 x0 p L A n c hn
  · exact most_5 x0 p L A n c hn
  · exact most_6 x0 p L A n c hn
  · exact most_7 x0 p L A n c hn
  · exact most_8 x0 p L A n c hn
  · exact most_9 x0 p L A n c hn
  · exact most_10 x0 p L A n c hn
  · exact most_11 x0 p L A n c hn

set_option maxHeartbeats 2000000 in
theorem rinstr_0 (x0 : Ext w) (p : Prg) (L : PL) (A : Option Addr) (n c : Nat) (hn : n ≤ 140737488351232) (op a b : Int) (c0 : decide (op < 0) = true) :
    Calls Try.prog 45 #[p.val L, .slice A n c, .agg #[.int .i64 op, .int .i64 a, .int .i64 b]] (w.ext x0) fun r w' => r = .returned (.int .i64 11) ∧ ∃ y : Ext w, w' = w.ext y := by
  obtain ⟨w1, x1, hw1, ⟨y, hy⟩, hsz, f0, f1, f2, f3, f4, f5⟩ := boxP (w.ext x0) p L
  have hy' : ∃ y : Ext w, w1 = w.ext y := ⟨x0.trans y, hy⟩
  clear hy
  obtain ⟨w2, x2, hw2, ⟨y, hy⟩, hsz2, g0, g1, g2⟩ := boxI (w1.ext x1) ⟨op, a, b⟩
  have hy2 : ∃ y : Ext w1, w2 = w1.ext y := ⟨x1.trans y, hy⟩
  replace f0 := lift_fact hy2 f0
  replace f1 := lift_fact hy2 f1
  replace f2 := lift_fact hy2 f2
  replace f3 := lift_fact hy2 f3
  replace f4 := lift_fact hy2 f4
  replace f5 := lift_fact hy2 f5
  have hw : ∃ y : Ext w, w2 = w.ext y := ex_trans hy' hy2
  clear hy hy2 hy'
  simp only at hw2 g0 g1 g2
  have hm : ∀ x : Ext w2, _ := fun x => rmost_any op x p L A n c hn
  generalize mostF p op n = m at *
  unfold Prg.val at hm ⊢
  go_enter Try.func45, Try.ntmps45
  go_wp2
  go_ret
  exact ⟨rfl, ex_ext _ hw⟩

set_option maxHeartbeats 2000000 in
theorem rinstr_1 (x0 : Ext w) (p : Prg) (L : PL) (A : Option Addr) (n c : Nat) (hn : n ≤ 140737488351232) (op a b : Int) (c0 : decide (op < 0) = false) (c1 : decide (13 < op) = true) :
    Calls Try.prog 45 #[p.val L, .slice A n c, .agg #[.int .i64 op, .int .i64 a, .int .i64 b]] (w.ext x0) fun r w' => r = .returned (.int .i64 11) ∧ ∃ y : Ext w, w' = w.ext y := by
  obtain ⟨w1, x1, hw1, ⟨y, hy⟩, hsz, f0, f1, f2, f3, f4, f5⟩ := boxP (w.ext x0) p L
  have hy' : ∃ y : Ext w, w1 = w.ext y := ⟨x0.trans y, hy⟩
  clear hy
  obtain ⟨w2, x2, hw2, ⟨y, hy⟩, hsz2, g0, g1, g2⟩ := boxI (w1.ext x1) ⟨op, a, b⟩
  have hy2 : ∃ y : Ext w1, w2 = w1.ext y := ⟨x1.trans y, hy⟩
  replace f0 := lift_fact hy2 f0
  replace f1 := lift_fact hy2 f1
  replace f2 := lift_fact hy2 f2
  replace f3 := lift_fact hy2 f3
  replace f4 := lift_fact hy2 f4
  replace f5 := lift_fact hy2 f5
  have hw : ∃ y : Ext w, w2 = w.ext y := ex_trans hy' hy2
  clear hy hy2 hy'
  simp only at hw2 g0 g1 g2
  have hm : ∀ x : Ext w2, _ := fun x => rmost_any op x p L A n c hn
  generalize mostF p op n = m at *
  unfold Prg.val at hm ⊢
  go_enter Try.func45, Try.ntmps45
  go_wp2
  go_ret
  exact ⟨rfl, ex_ext _ hw⟩

set_option maxHeartbeats 2000000 in
theorem rinstr_2 (x0 : Ext w) (p : Prg) (L : PL) (A : Option Addr) (n c : Nat) (hn : n ≤ 140737488351232) (op a b : Int) (c0 : decide (op < 0) = false) (c1 : decide (13 < op) = false) (c2 : decide (a < 0) = true) :
    Calls Try.prog 45 #[p.val L, .slice A n c, .agg #[.int .i64 op, .int .i64 a, .int .i64 b]] (w.ext x0) fun r w' => r = .returned (.int .i64 3) ∧ ∃ y : Ext w, w' = w.ext y := by
  obtain ⟨w1, x1, hw1, ⟨y, hy⟩, hsz, f0, f1, f2, f3, f4, f5⟩ := boxP (w.ext x0) p L
  have hy' : ∃ y : Ext w, w1 = w.ext y := ⟨x0.trans y, hy⟩
  clear hy
  obtain ⟨w2, x2, hw2, ⟨y, hy⟩, hsz2, g0, g1, g2⟩ := boxI (w1.ext x1) ⟨op, a, b⟩
  have hy2 : ∃ y : Ext w1, w2 = w1.ext y := ⟨x1.trans y, hy⟩
  replace f0 := lift_fact hy2 f0
  replace f1 := lift_fact hy2 f1
  replace f2 := lift_fact hy2 f2
  replace f3 := lift_fact hy2 f3
  replace f4 := lift_fact hy2 f4
  replace f5 := lift_fact hy2 f5
  have hw : ∃ y : Ext w, w2 = w.ext y := ex_trans hy' hy2
  clear hy hy2 hy'
  simp only at hw2 g0 g1 g2
  have hm : ∀ x : Ext w2, _ := fun x => rmost_any op x p L A n c hn
  generalize mostF p op n = m at *
  unfold Prg.val at hm ⊢
  go_enter Try.func45, Try.ntmps45
  go_wp2
  refine region_at (by kernel_rfl) (by kernel_rfl) ?_
  repeat (go_big_quiet_step (exact hm _))
  refine wpQuiet_nil ?_
  rintro _ ⟨x, rfl⟩
  go_wp2
  go_ret
  exact ⟨rfl, ex_ext _ hw⟩

set_option maxHeartbeats 2000000 in
theorem rinstr_3 (x0 : Ext w) (p : Prg) (L : PL) (A : Option Addr) (n c : Nat) (hn : n ≤ 140737488351232) (op a b : Int) (c0 : decide (op < 0) = false) (c1 : decide (13 < op) = false) (c2 : decide (a < 0) = false) (c3 : decide (mostF p op n ≤ a) = true) :
    Calls Try.prog 45 #[p.val L, .slice A n c, .agg #[.int .i64 op, .int .i64 a, .int .i64 b]] (w.ext x0) fun r w' => r = .returned (.int .i64 3) ∧ ∃ y : Ext w, w' = w.ext y := by
  obtain ⟨w1, x1, hw1, ⟨y, hy⟩, hsz, f0, f1, f2, f3, f4, f5⟩ := boxP (w.ext x0) p L
  have hy' : ∃ y : Ext w, w1 = w.ext y := ⟨x0.trans y, hy⟩
  clear hy
  obtain ⟨w2, x2, hw2, ⟨y, hy⟩, hsz2, g0, g1, g2⟩ := boxI (w1.ext x1) ⟨op, a, b⟩
  have hy2 : ∃ y : Ext w1, w2 = w1.ext y := ⟨x1.trans y, hy⟩
  replace f0 := lift_fact hy2 f0
  replace f1 := lift_fact hy2 f1
  replace f2 := lift_fact hy2 f2
  replace f3 := lift_fact hy2 f3
  replace f4 := lift_fact hy2 f4
  replace f5 := lift_fact hy2 f5
  have hw : ∃ y : Ext w, w2 = w.ext y := ex_trans hy' hy2
  clear hy hy2 hy'
  simp only at hw2 g0 g1 g2
  have hm : ∀ x : Ext w2, _ := fun x => rmost_any op x p L A n c hn
  generalize mostF p op n = m at *
  unfold Prg.val at hm ⊢
  go_enter Try.func45, Try.ntmps45
  go_wp2
  refine region_at (by kernel_rfl) (by kernel_rfl) ?_
  repeat (go_big_quiet_step (exact hm _))
  refine wpQuiet_nil ?_
  rintro _ ⟨x, rfl⟩
  go_wp2
  go_ret
  exact ⟨rfl, ex_ext _ hw⟩

set_option maxHeartbeats 2000000 in
theorem rinstr_4 (x0 : Ext w) (p : Prg) (L : PL) (A : Option Addr) (n c : Nat) (hn : n ≤ 140737488351232) (op a b : Int) (c0 : decide (op < 0) = false) (c1 : decide (13 < op) = false) (c2 : decide (a < 0) = false) (c3 : decide (mostF p op n ≤ a) = false) (c4 : decide (b < 0) = true) :
    Calls Try.prog 45 #[p.val L, .slice A n c, .agg #[.int .i64 op, .int .i64 a, .int .i64 b]] (w.ext x0) fun r w' => r = .returned (.int .i64 3) ∧ ∃ y : Ext w, w' = w.ext y := by
  obtain ⟨w1, x1, hw1, ⟨y, hy⟩, hsz, f0, f1, f2, f3, f4, f5⟩ := boxP (w.ext x0) p L
  have hy' : ∃ y : Ext w, w1 = w.ext y := ⟨x0.trans y, hy⟩
  clear hy
  obtain ⟨w2, x2, hw2, ⟨y, hy⟩, hsz2, g0, g1, g2⟩ := boxI (w1.ext x1) ⟨op, a, b⟩
  have hy2 : ∃ y : Ext w1, w2 = w1.ext y := ⟨x1.trans y, hy⟩
  replace f0 := lift_fact hy2 f0
  replace f1 := lift_fact hy2 f1
  replace f2 := lift_fact hy2 f2
  replace f3 := lift_fact hy2 f3
  replace f4 := lift_fact hy2 f4
  replace f5 := lift_fact hy2 f5
  have hw : ∃ y : Ext w, w2 = w.ext y := ex_trans hy' hy2
  clear hy hy2 hy'
  simp only at hw2 g0 g1 g2
  have hm : ∀ x : Ext w2, _ := fun x => rmost_any op x p L A n c hn
  generalize mostF p op n = m at *
  unfold Prg.val at hm ⊢
  go_enter Try.func45, Try.ntmps45
  go_wp2
  refine region_at (by kernel_rfl) (by kernel_rfl) ?_
  repeat (go_big_quiet_step (exact hm _))
  refine wpQuiet_nil ?_
  rintro _ ⟨x, rfl⟩
  go_wp2
  go_ret
  exact ⟨rfl, ex_ext _ hw⟩

set_option maxHeartbeats 2000000 in
theorem rinstr_5 (x0 : Ext w) (p : Prg) (L : PL) (A : Option Addr) (n c : Nat) (hn : n ≤ 140737488351232) (op a b : Int) (c0 : decide (op < 0) = false) (c1 : decide (13 < op) = false) (c2 : decide (a < 0) = false) (c3 : decide (mostF p op n ≤ a) = false) (c4 : decide (b < 0) = false) (c5 : (op == 7) = true) (c5' : (op != 7) = false) (c6 : decide ((n : Int) < b) = true) :
    Calls Try.prog 45 #[p.val L, .slice A n c, .agg #[.int .i64 op, .int .i64 a, .int .i64 b]] (w.ext x0) fun r w' => r = .returned (.int .i64 3) ∧ ∃ y : Ext w, w' = w.ext y := by
  obtain ⟨w1, x1, hw1, ⟨y, hy⟩, hsz, f0, f1, f2, f3, f4, f5⟩ := boxP (w.ext x0) p L
  have hy' : ∃ y : Ext w, w1 = w.ext y := ⟨x0.trans y, hy⟩
  clear hy
  obtain ⟨w2, x2, hw2, ⟨y, hy⟩, hsz2, g0, g1, g2⟩ := boxI (w1.ext x1) ⟨op, a, b⟩
  have hy2 : ∃ y : Ext w1, w2 = w1.ext y := ⟨x1.trans y, hy⟩
  replace f0 := lift_fact hy2 f0
  replace f1 := lift_fact hy2 f1
  replace f2 := lift_fact hy2 f2
  replace f3 := lift_fact hy2 f3
  replace f4 := lift_fact hy2 f4
  replace f5 := lift_fact hy2 f5
  have hw : ∃ y : Ext w, w2 = w.ext y := ex_trans hy' hy2
  clear hy hy2 hy'
  simp only at hw2 g0 g1 g2
  have hm : ∀ x : Ext w2, _ := fun x => rmost_any op x p L A n c hn
  generalize mostF p op n = m at *
  unfold Prg.val at hm ⊢
  go_enter Try.func45, Try.ntmps45
  go_wp2
  refine region_at (by kernel_rfl) (by kernel_rfl) ?_
  repeat (go_big_quiet_step (exact hm _))
  refine wpQuiet_nil ?_
  rintro _ ⟨x, rfl⟩
  go_wp2
  go_ret
  exact ⟨rfl, ex_ext _ hw⟩

set_option maxHeartbeats 2000000 in
theorem rinstr_6 (x0 : Ext w) (p : Prg) (L : PL) (A : Option Addr) (n c : Nat) (hn : n ≤ 140737488351232) (op a b : Int) (c0 : decide (op < 0) = false) (c1 : decide (13 < op) = false) (c2 : decide (a < 0) = false) (c3 : decide (mostF p op n ≤ a) = false) (c4 : decide (b < 0) = false) (c5 : (op == 7) = true) (c5' : (op != 7) = false) (c6 : decide ((n : Int) < b) = false) :
    Calls Try.prog 45 #[p.val L, .slice A n c, .agg #[.int .i64 op, .int .i64 a, .int .i64 b]] (w.ext x0) fun r w' => r = .returned (.int .i64 0) ∧ ∃ y : Ext w, w' = w.ext y := by
  obtain ⟨w1, x1, hw1, ⟨y, hy⟩, hsz, f0, f1, f2, f3, f4, f5⟩ := boxP (w.ext x0) p L
  have hy' : ∃ y : Ext w, w1 = w.ext y := ⟨x0.trans y, hy⟩
  clear hy
  obtain ⟨w2, x2, hw2, ⟨y, hy⟩, hsz2, g0, g1, g2⟩ := boxI (w1.ext x1) ⟨op, a, b⟩
  have hy2 : ∃ y : Ext w1, w2 = w1.ext y := ⟨x1.trans y, hy⟩
  replace f0 := lift_fact hy2 f0
  replace f1 := lift_fact hy2 f1
  replace f2 := lift_fact hy2 f2
  replace f3 := lift_fact hy2 f3
  replace f4 := lift_fact hy2 f4
  replace f5 := lift_fact hy2 f5
  have hw : ∃ y : Ext w, w2 = w.ext y := ex_trans hy' hy2
  clear hy hy2 hy'
  simp only at hw2 g0 g1 g2
  have hm : ∀ x : Ext w2, _ := fun x => rmost_any op x p L A n c hn
  generalize mostF p op n = m at *
  unfold Prg.val at hm ⊢
  go_enter Try.func45, Try.ntmps45
  go_wp2
  refine region_at (by kernel_rfl) (by kernel_rfl) ?_
  repeat (go_big_quiet_step (exact hm _))
  refine wpQuiet_nil ?_
  rintro _ ⟨x, rfl⟩
  go_wp2
  go_ret
  exact ⟨rfl, ex_ext _ hw⟩

set_option maxHeartbeats 2000000 in
theorem rinstr_7 (x0 : Ext w) (p : Prg) (L : PL) (A : Option Addr) (n c : Nat) (hn : n ≤ 140737488351232) (op a b : Int) (c0 : decide (op < 0) = false) (c1 : decide (13 < op) = false) (c2 : decide (a < 0) = false) (c3 : decide (mostF p op n ≤ a) = false) (c4 : decide (b < 0) = false) (c5 : (op == 7) = false) (c5' : (op != 7) = true) (c6 : (b != 0) = true) :
    Calls Try.prog 45 #[p.val L, .slice A n c, .agg #[.int .i64 op, .int .i64 a, .int .i64 b]] (w.ext x0) fun r w' => r = .returned (.int .i64 3) ∧ ∃ y : Ext w, w' = w.ext y := by
  obtain ⟨w1, x1, hw1, ⟨y, hy⟩, hsz, f0, f1, f2, f3, f4, f5⟩ := boxP (w.ext x0) p L
  have hy' : ∃ y : Ext w, w1 = w.ext y := ⟨x0.trans y, hy⟩
  clear hy
  obtain ⟨w2, x2, hw2, ⟨y, hy⟩, hsz2, g0, g1, g2⟩ := boxI (w1.ext x1) ⟨op, a, b⟩
  have hy2 : ∃ y : Ext w1, w2 = w1.ext y := ⟨x1.trans y, hy⟩
  replace f0 := lift_fact hy2 f0
  replace f1 := lift_fact hy2 f1
  replace f2 := lift_fact hy2 f2
  replace f3 := lift_fact hy2 f3
  replace f4 := lift_fact hy2 f4
  replace f5 := lift_fact hy2 f5
  have hw : ∃ y : Ext w, w2 = w.ext y := ex_trans hy' hy2
  clear hy hy2 hy'
  simp only at hw2 g0 g1 g2
  have hm : ∀ x : Ext w2, _ := fun x => rmost_any op x p L A n c hn
  generalize mostF p op n = m at *
  unfold Prg.val at hm ⊢
  go_enter Try.func45, Try.ntmps45
  go_wp2
  refine region_at (by kernel_rfl) (by kernel_rfl) ?_
  repeat (go_big_quiet_step (exact hm _))
  refine wpQuiet_nil ?_
  rintro _ ⟨x, rfl⟩
  go_wp2
  go_ret
  exact ⟨rfl, ex_ext _ hw⟩

set_option maxHeartbeats 2000000 in
theorem rinstr_8 (x0 : Ext w) (p : Prg) (L : PL) (A : Option Addr) (n c : Nat) (hn : n ≤ 140737488351232) (op a b : Int) (c0 : decide (op < 0) = false) (c1 : decide (13 < op) = false) (c2 : decide (a < 0) = false) (c3 : decide (mostF p op n ≤ a) = false) (c4 : decide (b < 0) = false) (c5 : (op == 7) = false) (c5' : (op != 7) = true) (c6 : (b != 0) = false) :
    Calls Try.prog 45 #[p.val L, .slice A n c, .agg #[.int .i64 op, .int .i64 a, .int .i64 b]] (w.ext x0) fun r w' => r = .returned (.int .i64 0) ∧ ∃ y : Ext w, w' = w.ext y := by
  obtain ⟨w1, x1, hw1, ⟨y, hy⟩, hsz, f0, f1, f2, f3, f4, f5⟩ := boxP (w.ext x0) p L
  have hy' : ∃ y : Ext w, w1 = w.ext y := ⟨x0.trans y, hy⟩
  clear hy
  obtain ⟨w2, x2, hw2, ⟨y, hy⟩, hsz2, g0, g1, g2⟩ := boxI (w1.ext x1) ⟨op, a, b⟩
  have hy2 : ∃ y : Ext w1, w2 = w1.ext y := ⟨x1.trans y, hy⟩
  replace f0 := lift_fact hy2 f0
  replace f1 := lift_fact hy2 f1
  replace f2 := lift_fact hy2 f2
  replace f3 := lift_fact hy2 f3
  replace f4 := lift_fact hy2 f4
  replace f5 := lift_fact hy2 f5
  have hw : ∃ y : Ext w, w2 = w.ext y := ex_trans hy' hy2
  clear hy hy2 hy'
  simp only at hw2 g0 g1 g2
  have hm : ∀ x : Ext w2, _ := fun x => rmost_any op x p L A n c hn
  generalize mostF p op n = m at *
  unfold Prg.val at hm ⊢
  go_enter Try.func45, Try.ntmps45
  go_wp2
  refine region_at (by kernel_rfl) (by kernel_rfl) ?_
  repeat (go_big_quiet_step (exact hm _))
  refine wpQuiet_nil ?_
  rintro _ ⟨x, rfl⟩
  go_wp2
  go_ret
  exact ⟨rfl, ex_ext _ hw⟩

theorem rinstr_any (x0 : Ext w) {p : Prg} (B : PrgB p) (L : PL) (A : Option Addr) (n c : Nat) (hn : n ≤ 140737488351232) (i : Ins) {v : Bool} (hv : insOk p n i = v) :
    Calls Try.prog 45 #[p.val L, .slice A n c, i.val] (w.ext x0) fun r w' => (∃ e, r = .returned (.int .i64 e) ∧ (e != 0) = !v) ∧ ∃ y : Ext w, w' = w.ext y := by
  subst hv
  obtain ⟨op, a, b⟩ := i
  simp only [insOk, Ins.val]
  have he : (inB op 0 13 && (inB a 0 (mostF p op n - 1) && inB b 0 (if op = 7 then n else 0))) = (!decide (op < 0) && (!decide (13 < op) && (!decide (a < 0) && (!decide (mostF p op n ≤ a) && (!decide (b < 0) && (if (op == 7) = true then !decide ((n : Int) < b) else !(b != 0))))))) := by
    rw [Bool.eq_iff_iff]
    simp only [inB, Bool.and_eq_true, decide_eq_true_eq, Bool.not_eq_true', decide_eq_false_iff_not, beq_iff_eq]
    by_cases h7 : op = 7
    · simp only [h7, if_true, Bool.not_eq_true', decide_eq_false_iff_not]; omega
    · simp only [h7, if_false, bne, Bool.not_not, beq_iff_eq]; omega
  rw [he]
  cases c0 : decide (op < 0)
  rotate_left
  · exact (rinstr_0 x0 p L A n c hn op a b c0).mono fun _ _ ⟨h1, h2⟩ => ⟨⟨11, h1, rfl⟩, h2⟩
  cases c1 : decide (13 < op)
  rotate_left
  · exact (rinstr_1 x0 p L A n c hn op a b c0 c1).mono fun _ _ ⟨h1, h2⟩ => ⟨⟨11, h1, rfl⟩, h2⟩
  cases c2 : decide (a < 0)
  rotate_left
  · exact (rinstr_2 x0 p L A n c hn op a b c0 c1 c2).mono fun _ _ ⟨h1, h2⟩ => ⟨⟨3, h1, rfl⟩, h2⟩
  cases c3 : decide (mostF p op n ≤ a)
  rotate_left
  · exact (rinstr_3 x0 p L A n c hn op a b c0 c1 c2 c3).mono fun _ _ ⟨h1, h2⟩ => ⟨⟨3, h1, rfl⟩, h2⟩
  cases c4 : decide (b < 0)
  rotate_left
  · exact (rinstr_4 x0 p L A n c hn op a b c0 c1 c2 c3 c4).mono fun _ _ ⟨h1, h2⟩ => ⟨⟨3, h1, rfl⟩, h2⟩
  cases c5 : (op == 7)
  · cases c6 : (b != 0)
    · exact (rinstr_8 x0 p L A n c hn op a b c0 c1 c2 c3 c4 c5 (by simp [bne, c5]) c6).mono fun _ _ ⟨h1, h2⟩ => ⟨⟨0, h1, rfl⟩, h2⟩
    · exact (rinstr_7 x0 p L A n c hn op a b c0 c1 c2 c3 c4 c5 (by simp [bne, c5]) c6).mono fun _ _ ⟨h1, h2⟩ => ⟨⟨3, h1, rfl⟩, h2⟩
  · cases c6 : decide ((n : Int) < b)
    · exact (rinstr_6 x0 p L A n c hn op a b c0 c1 c2 c3 c4 c5 (by simp [bne, c5]) c6).mono fun _ _ ⟨h1, h2⟩ => ⟨⟨0, h1, rfl⟩, h2⟩
    · exact (rinstr_5 x0 p L A n c hn op a b c0 c1 c2 c3 c4 c5 (by simp [bne, c5]) c6).mono fun _ _ ⟨h1, h2⟩ => ⟨⟨3, h1, rfl⟩, h2⟩
end
end Go.Proofs.Ytlekjobicpnafaa.Pg
