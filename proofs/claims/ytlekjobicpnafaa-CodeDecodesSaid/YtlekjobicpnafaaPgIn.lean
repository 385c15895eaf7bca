/- prog.in, the functions of the table of ops, ops. Condition: the program lies in memory. -/
import Derived.Test.YtlekjobicpnafaaPgModel
import Derived.Laws.EntriesVeiled
namespace Go.Proofs.Ytlekjobicpnafaa.Pg
open Go Go.RowKit Base
set_option linter.unusedVariables false
set_option linter.unusedSimpArgs false

def inB (n lo hi : Int) : Bool := decide (lo ≤ n) && decide (n ≤ hi)
theorem ret_bool {a b : Bool} (h : a = b) : Ending.returned (.bool a) = .returned (.bool b) := by rw [h]
theorem ret_i64 {a b : Int} (h : a = b) : Ending.returned (.int .i64 a) = .returned (.int .i64 b) := by rw [h]

theorem in_is {n lo hi : Int} {c : Bool} (hc : inB n lo hi = c) (w : World) : Calls Try.prog 53 #[.int .i64 n, .int .i64 lo, .int .i64 hi] w fun r w' => r = .returned (.bool c) ∧ w' = w := by
  subst hc
  cases h : decide (lo ≤ n)
  · go_enter Try.func53, Try.ntmps53
    go_wp2
    go_ret
    exact ⟨ret_bool (by simp only [inB, h, Bool.false_and]; try rfl), rfl⟩
  · go_enter Try.func53, Try.ntmps53
    go_wp2
    go_ret
    exact ⟨ret_bool (by simp only [inB, h, Bool.true_and]; try rfl), rfl⟩
theorem in_ext {n lo hi : Int} {c : Bool} {w : World} (hc : inB n lo hi = c) (x : Ext w) : Calls Try.prog 53 #[.int .i64 n, .int .i64 lo, .int .i64 hi] (w.ext x) fun r w' => r = .returned (.bool c) ∧ ∃ y : Ext w, w' = w.ext y :=
  (in_is hc (w.ext x)).mono fun _ _ ⟨h1, h2⟩ => ⟨h1, x, h2⟩

section
variable {w : World}

theorem onone_any (x0 : Ext w) (p : Prg) (L : PL) (A : Option Addr) (n c : Nat) (hn : n ≤ 140737488351232) :
    Calls Try.prog 64 #[p.val L, .slice A n c] (w.ext x0) fun r w' => r = .returned (.int .i64 (1)) ∧ ∃ y : Ext w, w' = w.ext y := by
  obtain ⟨w1, x1, hw1, ⟨y, hy⟩, hsz, f0, f1, f2, f3, f4, f5⟩ := boxP (w.ext x0) p L
  have hy' : ∃ y : Ext w, w1 = w.ext y := ⟨x0.trans y, hy⟩
  clear hy
  unfold Prg.val
  go_enter Try.func64, Try.ntmps64
  go_wp2
  go_ret
  exact ⟨rfl, ex_ext _ hy'⟩

theorem ochans_any (x0 : Ext w) (p : Prg) (L : PL) (A : Option Addr) (n c : Nat) (hn : n ≤ 140737488351232) :
    Calls Try.prog 65 #[p.val L, .slice A n c] (w.ext x0) fun r w' => r = .returned (.int .i64 (p.caps.length)) ∧ ∃ y : Ext w, w' = w.ext y := by
  obtain ⟨w1, x1, hw1, ⟨y, hy⟩, hsz, f0, f1, f2, f3, f4, f5⟩ := boxP (w.ext x0) p L
  have hy' : ∃ y : Ext w, w1 = w.ext y := ⟨x0.trans y, hy⟩
  clear hy
  unfold Prg.val
  go_enter Try.func65, Try.ntmps65
  go_wp2
  go_ret
  exact ⟨rfl, ex_ext _ hy'⟩

theorem oselects_any (x0 : Ext w) (p : Prg) (L : PL) (A : Option Addr) (n c : Nat) (hn : n ≤ 140737488351232) :
    Calls Try.prog 66 #[p.val L, .slice A n c] (w.ext x0) fun r w' => r = .returned (.int .i64 (p.sels.length)) ∧ ∃ y : Ext w, w' = w.ext y := by
  obtain ⟨w1, x1, hw1, ⟨y, hy⟩, hsz, f0, f1, f2, f3, f4, f5⟩ := boxP (w.ext x0) p L
  have hy' : ∃ y : Ext w, w1 = w.ext y := ⟨x0.trans y, hy⟩
  clear hy
  unfold Prg.val
  go_enter Try.func66, Try.ntmps66
  go_wp2
  go_ret
  exact ⟨rfl, ex_ext _ hy'⟩

theorem omutexes_any (x0 : Ext w) (p : Prg) (L : PL) (A : Option Addr) (n c : Nat) (hn : n ≤ 140737488351232) :
    Calls Try.prog 67 #[p.val L, .slice A n c] (w.ext x0) fun r w' => r = .returned (.int .i64 (p.mutexes)) ∧ ∃ y : Ext w, w' = w.ext y := by
  obtain ⟨w1, x1, hw1, ⟨y, hy⟩, hsz, f0, f1, f2, f3, f4, f5⟩ := boxP (w.ext x0) p L
  have hy' : ∃ y : Ext w, w1 = w.ext y := ⟨x0.trans y, hy⟩
  clear hy
  unfold Prg.val
  go_enter Try.func67, Try.ntmps67
  go_wp2
  go_ret
  exact ⟨rfl, ex_ext _ hy'⟩

theorem oonces_any (x0 : Ext w) (p : Prg) (L : PL) (A : Option Addr) (n c : Nat) (hn : n ≤ 140737488351232) :
    Calls Try.prog 68 #[p.val L, .slice A n c] (w.ext x0) fun r w' => r = .returned (.int .i64 (p.onces)) ∧ ∃ y : Ext w, w' = w.ext y := by
  obtain ⟨w1, x1, hw1, ⟨y, hy⟩, hsz, f0, f1, f2, f3, f4, f5⟩ := boxP (w.ext x0) p L
  have hy' : ∃ y : Ext w, w1 = w.ext y := ⟨x0.trans y, hy⟩
  clear hy
  unfold Prg.val
  go_enter Try.func68, Try.ntmps68
  go_wp2
  go_ret
  exact ⟨rfl, ex_ext _ hy'⟩

theorem oblocks_any (x0 : Ext w) (p : Prg) (L : PL) (A : Option Addr) (n c : Nat) (hn : n ≤ 140737488351232) :
    Calls Try.prog 69 #[p.val L, .slice A n c] (w.ext x0) fun r w' => r = .returned (.int .i64 (p.blocks.length)) ∧ ∃ y : Ext w, w' = w.ext y := by
  obtain ⟨w1, x1, hw1, ⟨y, hy⟩, hsz, f0, f1, f2, f3, f4, f5⟩ := boxP (w.ext x0) p L
  have hy' : ∃ y : Ext w, w1 = w.ext y := ⟨x0.trans y, hy⟩
  clear hy
  unfold Prg.val
  go_enter Try.func69, Try.ntmps69
  go_wp2
  go_ret
  exact ⟨rfl, ex_ext _ hy'⟩

theorem ovars_any (x0 : Ext w) (p : Prg) (L : PL) (A : Option Addr) (n c : Nat) (hn : n ≤ 140737488351232) :
    Calls Try.prog 70 #[p.val L, .slice A n c] (w.ext x0) fun r w' => r = .returned (.int .i64 (p.vars)) ∧ ∃ y : Ext w, w' = w.ext y := by
  obtain ⟨w1, x1, hw1, ⟨y, hy⟩, hsz, f0, f1, f2, f3, f4, f5⟩ := boxP (w.ext x0) p L
  have hy' : ∃ y : Ext w, w1 = w.ext y := ⟨x0.trans y, hy⟩
  clear hy
  unfold Prg.val
  go_enter Try.func70, Try.ntmps70
  go_wp2
  go_ret
  exact ⟨rfl, ex_ext _ hy'⟩

theorem oplaces_any (x0 : Ext w) (p : Prg) (L : PL) (A : Option Addr) (n c : Nat) (hn : n ≤ 140737488351232) :
    Calls Try.prog 71 #[p.val L, .slice A n c] (w.ext x0) fun r w' => r = .returned (.int .i64 ((n : Int) + 1)) ∧ ∃ y : Ext w, w' = w.ext y := by
  obtain ⟨w1, x1, hw1, ⟨y, hy⟩, hsz, f0, f1, f2, f3, f4, f5⟩ := boxP (w.ext x0) p L
  have hy' : ∃ y : Ext w, w1 = w.ext y := ⟨x0.trans y, hy⟩
  clear hy
  unfold Prg.val
  go_enter Try.func71, Try.ntmps71
  go_wp2
  go_ret
  exact ⟨rfl, ex_ext _ hy'⟩

def fnOf (f : Nat) : Value := .agg #[.func (.func f) #[] #[]]
def opsV : Value := .agg #[.func (.func 64) #[] #[], .func (.func 65) #[] #[], .func (.func 65) #[] #[], .func (.func 65) #[] #[], .func (.func 66) #[] #[], .func (.func 67) #[] #[], .func (.func 67) #[] #[], .func (.func 68) #[] #[], .func (.func 68) #[] #[], .func (.func 69) #[] #[], .func (.func 70) #[] #[], .func (.func 70) #[] #[], .func (.func 71) #[] #[], .func (.func 71) #[] #[]]

set_option maxHeartbeats 1000000 in
theorem ops_any (x0 : Ext w) : Calls Try.prog 58 #[] (w.ext x0) fun r w' => r = .returned opsV ∧ ∃ y : Ext w, w' = w.ext y := by
  go_enter Try.func58, Try.ntmps58
  go_wp2
  refine bodyPost_ret (results_cell_row rfl _ _ _ 102 _ _ _ rfl (heap_alloc_new _ _) Try.underlying102 rfl (by kernel_rfl)) rfl ?_
  exact ⟨rfl, ex_alloc _ ⟨_, rfl⟩⟩

/-- How many there are of what an op is of. -/
def mostF (p : Prg) (op : Int) (n : Nat) : Int :=
  if 1 ≤ op ∧ op ≤ 3 then p.caps.length else if op = 4 then p.sels.length else if op = 5 ∨ op = 6 then p.mutexes else if op = 7 ∨ op = 8 then p.onces
  else if op = 9 then p.blocks.length else if op = 10 ∨ op = 11 then p.vars else if 12 ≤ op then (n : Int) + 1 else 1
def insOk (p : Prg) (n : Nat) (i : Ins) : Bool := inB i.op 0 13 && (inB i.a 0 (mostF p i.op n - 1) && inB i.b 0 (if i.op = 7 then n else 0))

end
end Go.Proofs.Ytlekjobicpnafaa.Pg
