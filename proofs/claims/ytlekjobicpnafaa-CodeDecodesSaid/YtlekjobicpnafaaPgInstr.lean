/- prog.instr. Condition: the program's rows are not beyond the reach. -/
import Derived.Test.YtlekjobicpnafaaPgIn
namespace Go.Proofs.Ytlekjobicpnafaa.Pg
open Go Go.RowKit Base
set_option linter.unusedVariables false
set_option linter.unusedSimpArgs false

theorem lift_fact {w1 w2 : World} {a : Addr} {v : Option Value} (h : ∃ y : Ext w1, w2 = w1.ext y) (f : ∀ x : Ext w1, (w1.ext x).cell? a = v) : ∀ x : Ext w2, (w2.ext x).cell? a = v := fun x => by
  obtain ⟨y, rfl⟩ := h; exact f (y.trans x)
def Ins.val (i : Ins) : Value := .agg #[.int .i64 i.op, .int .i64 i.a, .int .i64 i.b]

def fOf (op : Int) : Nat := if 1 ≤ op ∧ op ≤ 3 then 65 else if op = 4 then 66 else if op = 5 ∨ op = 6 then 67 else if op = 7 ∨ op = 8 then 68
  else if op = 9 then 69 else if op = 10 ∨ op = 11 then 70 else if 12 ≤ op then 71 else 64

theorem ops_at {op : Int} (h : inB op 0 13 = true) (w : World) : (Instr.index 102 opsV (.int .i64 op)).run Try.prog w = .ok (.agg #[.func (.func (fOf op)) #[] #[]]) w := by
  simp [inB] at h
  rcases (show op = 0 ∨ op = 1 ∨ op = 2 ∨ op = 3 ∨ op = 4 ∨ op = 5 ∨ op = 6 ∨ op = 7 ∨ op = 8 ∨ op = 9 ∨ op = 10 ∨ op = 11 ∨ op = 12 ∨ op = 13 by omega) with rfl | rfl | rfl | rfl | rfl | rfl | rfl | rfl | rfl | rfl | rfl | rfl | rfl | rfl <;> kernel_rfl

theorem enter_of {f : FuncId} {fn : Func} {c : Code} (hf : Try.prog.funcs[f]? = some fn) (hname : (fn.name == "runtime.NumGoroutine") = false) (hb : fn.body = some c) (args : Array Value) (w : World) :
    (callFunc f args).run Try.prog w = .ok (.enter f args) w := by
  have h1 : fn.name ≠ "runtime.NumGoroutine" := by simpa using hname
  simp [callFunc, hf, h1, hb]
theorem fOf_mem (op : Int) : fOf op ∈ [64, 65, 66, 67, 68, 69, 70, 71] := by
  unfold fOf; repeat' split
  all_goals simp
theorem f_facts (op : Int) : (∀ w, (Instr.field 101 (.agg #[.func (.func (fOf op)) #[] #[]]) 0).run Try.prog w = .ok (.func (.func (fOf op)) #[] #[]) w) ∧ ∀ args w, (callFunc (fOf op) args).run Try.prog w = .ok (.enter (fOf op) args) w := by
  have h := fOf_mem op
  generalize fOf op = f at *
  simp only [List.mem_cons, List.not_mem_nil, or_false] at h
  rcases h with rfl | rfl | rfl | rfl | rfl | rfl | rfl | rfl
  · exact ⟨fun w => by kernel_rfl, enter_of Try.func64 (by kernel_rfl) rfl⟩
  · exact ⟨fun w => by kernel_rfl, enter_of Try.func65 (by kernel_rfl) rfl⟩
  · exact ⟨fun w => by kernel_rfl, enter_of Try.func66 (by kernel_rfl) rfl⟩
  · exact ⟨fun w => by kernel_rfl, enter_of Try.func67 (by kernel_rfl) rfl⟩
  · exact ⟨fun w => by kernel_rfl, enter_of Try.func68 (by kernel_rfl) rfl⟩
  · exact ⟨fun w => by kernel_rfl, enter_of Try.func69 (by kernel_rfl) rfl⟩
  · exact ⟨fun w => by kernel_rfl, enter_of Try.func70 (by kernel_rfl) rfl⟩
  · exact ⟨fun w => by kernel_rfl, enter_of Try.func71 (by kernel_rfl) rfl⟩

section
variable {w : World}
theorem most_any {op : Int} (h : inB op 0 13 = true) (x0 : Ext w) (p : Prg) (L : PL) (A : Option Addr) (n c : Nat) (hn : n ≤ 140737488351232) :
    Calls Try.prog (fOf op) #[p.val L, .slice A n c] (w.ext x0) fun r w' => r = .returned (.int .i64 (mostF p op n)) ∧ ∃ y : Ext w, w' = w.ext y := by
  simp [inB] at h
  unfold fOf mostF
  by_cases h1 : 1 ≤ op ∧ op ≤ 3
  · rw [if_pos h1, if_pos h1]; exact ochans_any x0 p L A n c hn
  rw [if_neg h1, if_neg h1]
  by_cases h2 : op = 4
  · rw [if_pos h2, if_pos h2]; exact oselects_any x0 p L A n c hn
  rw [if_neg h2, if_neg h2]
  by_cases h3 : op = 5 ∨ op = 6
  · rw [if_pos h3, if_pos h3]; exact omutexes_any x0 p L A n c hn
  rw [if_neg h3, if_neg h3]
  by_cases h4 : op = 7 ∨ op = 8
  · rw [if_pos h4, if_pos h4]; exact oonces_any x0 p L A n c hn
  rw [if_neg h4, if_neg h4]
  by_cases h5 : op = 9
  · rw [if_pos h5, if_pos h5]; exact oblocks_any x0 p L A n c hn
  rw [if_neg h5, if_neg h5]
  by_cases h6 : op = 10 ∨ op = 11
  · rw [if_pos h6, if_pos h6]; exact ovars_any x0 p L A n c hn
  rw [if_neg h6, if_neg h6]
  by_cases h7 : 12 ≤ op
  · rw [if_pos h7, if_pos h7]; exact oplaces_any x0 p L A n c hn
  rw [if_neg h7, if_neg h7]; exact onone_any x0 p L A n c hn

set_option maxHeartbeats 4000000 in
theorem instr_0 (x0 : Ext w) (p : Prg) (L : PL) (A : Option Addr) (n c : Nat) (hn : n ≤ 140737488351232) (op a b : Int) (c0 : inB op 0 13 = false) :
    Calls Try.prog 43 #[p.val L, .slice A n c, .agg #[.int .i64 op, .int .i64 a, .int .i64 b]] (w.ext x0) fun r w' => r = .returned (.int .i64 11) ∧ ∃ y : Ext w, w' = w.ext y := by
  obtain ⟨w1, x1, hw1, ⟨y, hy⟩, hsz, f0, f1, f2, f3, f4, f5⟩ := boxP (w.ext x0) p L
  have hy' : ∃ y : Ext w, w1 = w.ext y := ⟨x0.trans y, hy⟩
  clear hy
  obtain ⟨w2, x2, hw2, ⟨y, hy⟩, hsz2, g0, g1, g2⟩ := boxI (w1.ext x1) ⟨op, a, b⟩
  have hy2 : ∃ y : Ext w1, w2 = w1.ext y := ⟨x1.trans y, hy⟩
  replace f0 := lift_fact hy2 f0
  replace f1 := lift_fact hy2 f1
  replace f2 := lift_fact hy2 f2
  replace f3 := lift_fact hy2 f3
  replace f4 := lift_fact hy2 f4
  replace f5 := lift_fact hy2 f5
  have hw : ∃ y : Ext w, w2 = w.ext y := ex_trans hy' hy2
  clear hy hy2 hy'
  simp only at hw2 g0 g1 g2
  unfold Prg.val
  go_enter Try.func43, Try.ntmps43
  go_wp2_with (go_at_call 53; refine (in_is c0 _).mono ?_; rintro _ _ ⟨rfl, rfl⟩)
  go_ret
  exact ⟨rfl, ex_ext _ hw⟩

set_option maxHeartbeats 4000000 in
theorem instr_a1 (x0 : Ext w) (p : Prg) (L : PL) (A : Option Addr) (n c : Nat) (hn : n ≤ 140737488351232) (op a b : Int) {m : Int} (hm0 : -9223372036854775808 < m) (hm1 : m ≤ 9223372036854775807) (c0 : inB op 0 13 = true) (d0 : (op == 7) = true) (c1 : inB a 0 (m - 1) = false)
    {f : FuncId} (hf : fOf op = f) (hm : ∀ (w : World) (x0 : Ext w), Calls Try.prog f #[p.val L, .slice A n c] (w.ext x0) fun r w' => r = .returned (.int .i64 m) ∧ ∃ y : Ext w, w' = w.ext y) :
    Calls Try.prog 43 #[p.val L, .slice A n c, .agg #[.int .i64 op, .int .i64 a, .int .i64 b]] (w.ext x0) fun r w' => r = .returned (.int .i64 3) ∧ ∃ y : Ext w, w' = w.ext y := by
  have hix := ops_at c0
  obtain ⟨hfd, hcf⟩ := f_facts op
  rw [hf] at hix hfd hcf
  clear hf
  have hvp : (.agg #[.slice L.cA p.caps.length L.cc, .int .i64 p.mutexes, .int .i64 p.onces, .int .i64 p.vars, .slice L.sA p.sels.length L.sc, .slice L.bA p.blocks.length L.bc] : Value) = p.val L := rfl
  obtain ⟨w1, x1, hw1, ⟨y, hy⟩, hsz, f0, f1, f2, f3, f4, f5⟩ := boxP (w.ext x0) p L
  have hy' : ∃ y : Ext w, w1 = w.ext y := ⟨x0.trans y, hy⟩
  clear hy
  obtain ⟨w2, x2, hw2, ⟨y, hy⟩, hsz2, g0, g1, g2⟩ := boxI (w1.ext x1) ⟨op, a, b⟩
  have hy2 : ∃ y : Ext w1, w2 = w1.ext y := ⟨x1.trans y, hy⟩
  replace f0 := lift_fact hy2 f0
  replace f1 := lift_fact hy2 f1
  replace f2 := lift_fact hy2 f2
  replace f3 := lift_fact hy2 f3
  replace f4 := lift_fact hy2 f4
  replace f5 := lift_fact hy2 f5
  have hw : ∃ y : Ext w, w2 = w.ext y := ex_trans hy' hy2
  clear hy hy2 hy'
  simp only at hw2 g0 g1 g2
  unfold Prg.val at hm ⊢
  clear hvp
  go_enter Try.func43, Try.ntmps43
  go_wp2_with (go_at_call 53; refine (in_is c0 _).mono ?_; rintro _ _ ⟨rfl, rfl⟩)
  refine region_at (by kernel_rfl) (by kernel_rfl) ?_
  repeat (go_big_quiet_step ((first | (go_at_call 53; with_reducible exact in_ext c1 _) | (go_at_call 58; exact ops_any _) | exact hm _ _)))
  refine wpQuiet_nil ?_
  rintro _ ⟨x, rfl⟩
  go_wp2
  go_ret
  exact ⟨rfl, ex_ext _ hw⟩

set_option maxHeartbeats 4000000 in
theorem instr_b1 (x0 : Ext w) (p : Prg) (L : PL) (A : Option Addr) (n c : Nat) (hn : n ≤ 140737488351232) (op a b : Int) {m : Int} (hm0 : -9223372036854775808 < m) (hm1 : m ≤ 9223372036854775807) (c0 : inB op 0 13 = true) (d0 : (op == 7) = true) (c1 : inB a 0 (m - 1) = true) (c2 : inB b 0 n = false)
    {f : FuncId} (hf : fOf op = f) (hm : ∀ (w : World) (x0 : Ext w), Calls Try.prog f #[p.val L, .slice A n c] (w.ext x0) fun r w' => r = .returned (.int .i64 m) ∧ ∃ y : Ext w, w' = w.ext y) :
    Calls Try.prog 43 #[p.val L, .slice A n c, .agg #[.int .i64 op, .int .i64 a, .int .i64 b]] (w.ext x0) fun r w' => r = .returned (.int .i64 3) ∧ ∃ y : Ext w, w' = w.ext y := by
  have hix := ops_at c0
  obtain ⟨hfd, hcf⟩ := f_facts op
  rw [hf] at hix hfd hcf
  clear hf
  have hvp : (.agg #[.slice L.cA p.caps.length L.cc, .int .i64 p.mutexes, .int .i64 p.onces, .int .i64 p.vars, .slice L.sA p.sels.length L.sc, .slice L.bA p.blocks.length L.bc] : Value) = p.val L := rfl
  obtain ⟨w1, x1, hw1, ⟨y, hy⟩, hsz, f0, f1, f2, f3, f4, f5⟩ := boxP (w.ext x0) p L
  have hy' : ∃ y : Ext w, w1 = w.ext y := ⟨x0.trans y, hy⟩
  clear hy
  obtain ⟨w2, x2, hw2, ⟨y, hy⟩, hsz2, g0, g1, g2⟩ := boxI (w1.ext x1) ⟨op, a, b⟩
  have hy2 : ∃ y : Ext w1, w2 = w1.ext y := ⟨x1.trans y, hy⟩
  replace f0 := lift_fact hy2 f0
  replace f1 := lift_fact hy2 f1
  replace f2 := lift_fact hy2 f2
  replace f3 := lift_fact hy2 f3
  replace f4 := lift_fact hy2 f4
  replace f5 := lift_fact hy2 f5
  have hw : ∃ y : Ext w, w2 = w.ext y := ex_trans hy' hy2
  clear hy hy2 hy'
  simp only at hw2 g0 g1 g2
  unfold Prg.val at hm ⊢
  clear hvp
  go_enter Try.func43, Try.ntmps43
  go_wp2_with (go_at_call 53; refine (in_is c0 _).mono ?_; rintro _ _ ⟨rfl, rfl⟩)
  refine region_at (by kernel_rfl) (by kernel_rfl) ?_
  repeat (go_big_quiet_step ((first | (go_at_call 53; first | with_reducible exact in_ext c1 _ | with_reducible exact in_ext c2 _) | (go_at_call 58; exact ops_any _) | exact hm _ _)))
  refine wpQuiet_nil ?_
  rintro _ ⟨x, rfl⟩
  go_wp2
  go_ret
  exact ⟨rfl, ex_ext _ hw⟩

set_option maxHeartbeats 4000000 in
theorem instr_c1 (x0 : Ext w) (p : Prg) (L : PL) (A : Option Addr) (n c : Nat) (hn : n ≤ 140737488351232) (op a b : Int) {m : Int} (hm0 : -9223372036854775808 < m) (hm1 : m ≤ 9223372036854775807) (c0 : inB op 0 13 = true) (d0 : (op == 7) = true) (c1 : inB a 0 (m - 1) = true) (c2 : inB b 0 n = true)
    {f : FuncId} (hf : fOf op = f) (hm : ∀ (w : World) (x0 : Ext w), Calls Try.prog f #[p.val L, .slice A n c] (w.ext x0) fun r w' => r = .returned (.int .i64 m) ∧ ∃ y : Ext w, w' = w.ext y) :
    Calls Try.prog 43 #[p.val L, .slice A n c, .agg #[.int .i64 op, .int .i64 a, .int .i64 b]] (w.ext x0) fun r w' => r = .returned (.int .i64 0) ∧ ∃ y : Ext w, w' = w.ext y := by
  have hix := ops_at c0
  obtain ⟨hfd, hcf⟩ := f_facts op
  rw [hf] at hix hfd hcf
  clear hf
  have hvp : (.agg #[.slice L.cA p.caps.length L.cc, .int .i64 p.mutexes, .int .i64 p.onces, .int .i64 p.vars, .slice L.sA p.sels.length L.sc, .slice L.bA p.blocks.length L.bc] : Value) = p.val L := rfl
  obtain ⟨w1, x1, hw1, ⟨y, hy⟩, hsz, f0, f1, f2, f3, f4, f5⟩ := boxP (w.ext x0) p L
  have hy' : ∃ y : Ext w, w1 = w.ext y := ⟨x0.trans y, hy⟩
  clear hy
  obtain ⟨w2, x2, hw2, ⟨y, hy⟩, hsz2, g0, g1, g2⟩ := boxI (w1.ext x1) ⟨op, a, b⟩
  have hy2 : ∃ y : Ext w1, w2 = w1.ext y := ⟨x1.trans y, hy⟩
  replace f0 := lift_fact hy2 f0
  replace f1 := lift_fact hy2 f1
  replace f2 := lift_fact hy2 f2
  replace f3 := lift_fact hy2 f3
  replace f4 := lift_fact hy2 f4
  replace f5 := lift_fact hy2 f5
  have hw : ∃ y : Ext w, w2 = w.ext y := ex_trans hy' hy2
  clear hy hy2 hy'
  simp only at hw2 g0 g1 g2
  unfold Prg.val at hm ⊢
  clear hvp
  go_enter Try.func43, Try.ntmps43
  go_wp2_with (go_at_call 53; refine (in_is c0 _).mono ?_; rintro _ _ ⟨rfl, rfl⟩)
  refine region_at (by kernel_rfl) (by kernel_rfl) ?_
  repeat (go_big_quiet_step ((first | (go_at_call 53; first | with_reducible exact in_ext c1 _ | with_reducible exact in_ext c2 _) | (go_at_call 58; exact ops_any _) | exact hm _ _)))
  refine wpQuiet_nil ?_
  rintro _ ⟨x, rfl⟩
  go_wp2
  go_ret
  exact ⟨rfl, ex_ext _ hw⟩

set_option maxHeartbeats 4000000 in
theorem instr_a2 (x0 : Ext w) (p : Prg) (L : PL) (A : Option Addr) (n c : Nat) (hn : n ≤ 140737488351232) (op a b : Int) {m : Int} (hm0 : -9223372036854775808 < m) (hm1 : m ≤ 9223372036854775807) (c0 : inB op 0 13 = true) (d0 : (op == 7) = false) (c1 : inB a 0 (m - 1) = false)
    {f : FuncId} (hf : fOf op = f) (hm : ∀ (w : World) (x0 : Ext w), Calls Try.prog f #[p.val L, .slice A n c] (w.ext x0) fun r w' => r = .returned (.int .i64 m) ∧ ∃ y : Ext w, w' = w.ext y) :
    Calls Try.prog 43 #[p.val L, .slice A n c, .agg #[.int .i64 op, .int .i64 a, .int .i64 b]] (w.ext x0) fun r w' => r = .returned (.int .i64 3) ∧ ∃ y : Ext w, w' = w.ext y := by
  have hix := ops_at c0
  obtain ⟨hfd, hcf⟩ := f_facts op
  rw [hf] at hix hfd hcf
  clear hf
  have hvp : (.agg #[.slice L.cA p.caps.length L.cc, .int .i64 p.mutexes, .int .i64 p.onces, .int .i64 p.vars, .slice L.sA p.sels.length L.sc, .slice L.bA p.blocks.length L.bc] : Value) = p.val L := rfl
  obtain ⟨w1, x1, hw1, ⟨y, hy⟩, hsz, f0, f1, f2, f3, f4, f5⟩ := boxP (w.ext x0) p L
  have hy' : ∃ y : Ext w, w1 = w.ext y := ⟨x0.trans y, hy⟩
  clear hy
  obtain ⟨w2, x2, hw2, ⟨y, hy⟩, hsz2, g0, g1, g2⟩ := boxI (w1.ext x1) ⟨op, a, b⟩
  have hy2 : ∃ y : Ext w1, w2 = w1.ext y := ⟨x1.trans y, hy⟩
  replace f0 := lift_fact hy2 f0
  replace f1 := lift_fact hy2 f1
  replace f2 := lift_fact hy2 f2
  replace f3 := lift_fact hy2 f3
  replace f4 := lift_fact hy2 f4
  replace f5 := lift_fact hy2 f5
  have hw : ∃ y : Ext w, w2 = w.ext y := ex_trans hy' hy2
  clear hy hy2 hy'
  simp only at hw2 g0 g1 g2
  unfold Prg.val at hm ⊢
  clear hvp
  go_enter Try.func43, Try.ntmps43
  go_wp2_with (go_at_call 53; refine (in_is c0 _).mono ?_; rintro _ _ ⟨rfl, rfl⟩)
  refine region_at (by kernel_rfl) (by kernel_rfl) ?_
  repeat (go_big_quiet_step ((first | (go_at_call 53; with_reducible exact in_ext c1 _) | (go_at_call 58; exact ops_any _) | exact hm _ _)))
  refine wpQuiet_nil ?_
  rintro _ ⟨x, rfl⟩
  go_wp2
  go_ret
  exact ⟨rfl, ex_ext _ hw⟩

set_option maxHeartbeats 4000000 in
theorem instr_b2 (x0 : Ext w) (p : Prg) (L : PL) (A : Option Addr) (n c : Nat) (hn : n ≤ 140737488351232) (op a b : Int) {m : Int} (hm0 : -9223372036854775808 < m) (hm1 : m ≤ 9223372036854775807) (c0 : inB op 0 13 = true) (d0 : (op == 7) = false) (c1 : inB a 0 (m - 1) = true) (c2 : inB b 0 0 = false)
    {f : FuncId} (hf : fOf op = f) (hm : ∀ (w : World) (x0 : Ext w), Calls Try.prog f #[p.val L, .slice A n c] (w.ext x0) fun r w' => r = .returned (.int .i64 m) ∧ ∃ y : Ext w, w' = w.ext y) :
    Calls Try.prog 43 #[p.val L, .slice A n c, .agg #[.int .i64 op, .int .i64 a, .int .i64 b]] (w.ext x0) fun r w' => r = .returned (.int .i64 3) ∧ ∃ y : Ext w, w' = w.ext y := by
  have hix := ops_at c0
  obtain ⟨hfd, hcf⟩ := f_facts op
  rw [hf] at hix hfd hcf
  clear hf
  have hvp : (.agg #[.slice L.cA p.caps.length L.cc, .int .i64 p.mutexes, .int .i64 p.onces, .int .i64 p.vars, .slice L.sA p.sels.length L.sc, .slice L.bA p.blocks.length L.bc] : Value) = p.val L := rfl
  obtain ⟨w1, x1, hw1, ⟨y, hy⟩, hsz, f0, f1, f2, f3, f4, f5⟩ := boxP (w.ext x0) p L
  have hy' : ∃ y : Ext w, w1 = w.ext y := ⟨x0.trans y, hy⟩
  clear hy
  obtain ⟨w2, x2, hw2, ⟨y, hy⟩, hsz2, g0, g1, g2⟩ := boxI (w1.ext x1) ⟨op, a, b⟩
  have hy2 : ∃ y : Ext w1, w2 = w1.ext y := ⟨x1.trans y, hy⟩
  replace f0 := lift_fact hy2 f0
  replace f1 := lift_fact hy2 f1
  replace f2 := lift_fact hy2 f2
  replace f3 := lift_fact hy2 f3
  replace f4 := lift_fact hy2 f4
  replace f5 := lift_fact hy2 f5
  have hw : ∃ y : Ext w, w2 = w.ext y := ex_trans hy' hy2
  clear hy hy2 hy'
  simp only at hw2 g0 g1 g2
  unfold Prg.val at hm ⊢
  clear hvp
  go_enter Try.func43, Try.ntmps43
  go_wp2_with (go_at_call 53; refine (in_is c0 _).mono ?_; rintro _ _ ⟨rfl, rfl⟩)
  refine region_at (by kernel_rfl) (by kernel_rfl) ?_
  repeat (go_big_quiet_step ((first | (go_at_call 53; first | with_reducible exact in_ext c1 _ | with_reducible exact in_ext c2 _) | (go_at_call 58; exact ops_any _) | exact hm _ _)))
  refine wpQuiet_nil ?_
  rintro _ ⟨x, rfl⟩
  go_wp2
  go_ret
  exact ⟨rfl, ex_ext _ hw⟩

set_option maxHeartbeats 4000000 in
theorem instr_c2 (x0 : Ext w) (p : Prg) (L : PL) (A : Option Addr) (n c : Nat) (hn : n ≤ 140737488351232) (op a b : Int) {m : Int} (hm0 : -9223372036854775808 < m) (hm1 : m ≤ 9223372036854775807) (c0 : inB op 0 13 = true) (d0 : (op == 7) = false) (c1 : inB a 0 (m - 1) = true) (c2 : inB b 0 0 = true)
    {f : FuncId} (hf : fOf op = f) (hm : ∀ (w : World) (x0 : Ext w), Calls Try.prog f #[p.val L, .slice A n c] (w.ext x0) fun r w' => r = .returned (.int .i64 m) ∧ ∃ y : Ext w, w' = w.ext y) :
    Calls Try.prog 43 #[p.val L, .slice A n c, .agg #[.int .i64 op, .int .i64 a, .int .i64 b]] (w.ext x0) fun r w' => r = .returned (.int .i64 0) ∧ ∃ y : Ext w, w' = w.ext y := by
  have hix := ops_at c0
  obtain ⟨hfd, hcf⟩ := f_facts op
  rw [hf] at hix hfd hcf
  clear hf
  have hvp : (.agg #[.slice L.cA p.caps.length L.cc, .int .i64 p.mutexes, .int .i64 p.onces, .int .i64 p.vars, .slice L.sA p.sels.length L.sc, .slice L.bA p.blocks.length L.bc] : Value) = p.val L := rfl
  obtain ⟨w1, x1, hw1, ⟨y, hy⟩, hsz, f0, f1, f2, f3, f4, f5⟩ := boxP (w.ext x0) p L
  have hy' : ∃ y : Ext w, w1 = w.ext y := ⟨x0.trans y, hy⟩
  clear hy
  obtain ⟨w2, x2, hw2, ⟨y, hy⟩, hsz2, g0, g1, g2⟩ := boxI (w1.ext x1) ⟨op, a, b⟩
  have hy2 : ∃ y : Ext w1, w2 = w1.ext y := ⟨x1.trans y, hy⟩
  replace f0 := lift_fact hy2 f0
  replace f1 := lift_fact hy2 f1
  replace f2 := lift_fact hy2 f2
  replace f3 := lift_fact hy2 f3
  replace f4 := lift_fact hy2 f4
  replace f5 := lift_fact hy2 f5
  have hw : ∃ y : Ext w, w2 = w.ext y := ex_trans hy' hy2
  clear hy hy2 hy'
  simp only at hw2 g0 g1 g2
  unfold Prg.val at hm ⊢
  clear hvp
  go_enter Try.func43, Try.ntmps43
  go_wp2_with (go_at_call 53; refine (in_is c0 _).mono ?_; rintro _ _ ⟨rfl, rfl⟩)
  refine region_at (by kernel_rfl) (by kernel_rfl) ?_
  repeat (go_big_quiet_step ((first | (go_at_call 53; first | with_reducible exact in_ext c1 _ | with_reducible exact in_ext c2 _) | (go_at_call 58; exact ops_any _) | exact hm _ _)))
  refine wpQuiet_nil ?_
  rintro _ ⟨x, rfl⟩
  go_wp2
  go_ret
  exact ⟨rfl, ex_ext _ hw⟩

structure PrgB (p : Prg) : Prop where
  caps : p.caps.length ≤ 140737488351232
  sels : p.sels.length ≤ 140737488351232
  blocks : p.blocks.length ≤ 140737488351232
  m0 : -9223372036854775808 ≤ p.mutexes - 1 ∧ p.mutexes ≤ 9223372036854775807
  o0 : -9223372036854775808 ≤ p.onces - 1 ∧ p.onces ≤ 9223372036854775807
  v0 : -9223372036854775808 ≤ p.vars - 1 ∧ p.vars ≤ 9223372036854775807
theorem mostF_range {p : Prg} (B : PrgB p) (op : Int) {n : Nat} (hn : n ≤ 140737488351232) : -9223372036854775808 < mostF p op n ∧ mostF p op n ≤ 9223372036854775807 := by
  obtain ⟨h1, h2, h3, h4, h5, h6⟩ := B
  unfold mostF
  repeat' split
  all_goals omega

/-- prog.instr: whether something is wrong with an instruction. -/
theorem instr_any (x0 : Ext w) {p : Prg} (B : PrgB p) (L : PL) (A : Option Addr) (n c : Nat) (hn : n ≤ 140737488351232) (i : Ins) {v : Bool} (hv : insOk p n i = v) :
    Calls Try.prog 43 #[p.val L, .slice A n c, i.val] (w.ext x0) fun r w' => (∃ e, r = .returned (.int .i64 e) ∧ (e != 0) = !v) ∧ ∃ y : Ext w, w' = w.ext y := by
  subst hv
  obtain ⟨op, a, b⟩ := i
  simp only [insOk, Ins.val]
  cases c0 : inB op 0 13
  · exact (instr_0 x0 p L A n c hn op a b c0).mono fun _ _ ⟨h1, h2⟩ => ⟨⟨11, h1, rfl⟩, h2⟩
  obtain ⟨m0, m1⟩ := mostF_range B op hn
  have hm : ∀ (w : World) (x0 : Ext w), Calls Try.prog (fOf op) #[p.val L, .slice A n c] (w.ext x0) fun r w' => r = .returned (.int .i64 (mostF p op n)) ∧ ∃ y : Ext w, w' = w.ext y := fun w x0 => most_any c0 x0 p L A n c hn
  cases d0 : (op == 7)
  · rw [if_neg (by simpa using d0)]
    cases c1 : inB a 0 (mostF p op n - 1)
    · exact (instr_a2 x0 p L A n c hn op a b m0 m1 c0 d0 c1 rfl hm).mono fun _ _ ⟨h1, h2⟩ => ⟨⟨3, h1, rfl⟩, h2⟩
    cases c2 : inB b 0 0
    · exact (instr_b2 x0 p L A n c hn op a b m0 m1 c0 d0 c1 c2 rfl hm).mono fun _ _ ⟨h1, h2⟩ => ⟨⟨3, h1, rfl⟩, h2⟩
    · exact (instr_c2 x0 p L A n c hn op a b m0 m1 c0 d0 c1 c2 rfl hm).mono fun _ _ ⟨h1, h2⟩ => ⟨⟨0, h1, rfl⟩, h2⟩
  · rw [if_pos (by simpa using d0)]
    cases c1 : inB a 0 (mostF p op n - 1)
    · exact (instr_a1 x0 p L A n c hn op a b m0 m1 c0 d0 c1 rfl hm).mono fun _ _ ⟨h1, h2⟩ => ⟨⟨3, h1, rfl⟩, h2⟩
    cases c2 : inB b 0 n
    · exact (instr_b1 x0 p L A n c hn op a b m0 m1 c0 d0 c1 c2 rfl hm).mono fun _ _ ⟨h1, h2⟩ => ⟨⟨3, h1, rfl⟩, h2⟩
    · exact (instr_c1 x0 p L A n c hn op a b m0 m1 c0 d0 c1 c2 rfl hm).mono fun _ _ ⟨h1, h2⟩ => ⟨⟨0, h1, rfl⟩, h2⟩
end
end Go.Proofs.Ytlekjobicpnafaa.Pg
