/- code.Decode: the program of a text, or why it is none. No condition. -/
import Derived.Test.YtlekjobicpnafaaCdPrgW
import Derived.Defers
import Derived.Recover
import Derived.RegionTactic
import Derived.Laws.Entries
import Derived.WalkSpells
namespace Go.Proofs.Ytlekjobicpnafaa.Cd
open Go Go.RowKit Base Pg
set_option linter.unusedVariables false
set_option linter.unusedSimpArgs false

theorem assert_yes (W : World) (v : Value) : (Instr.typeAssert (.iface 46 v) 20 46 true).run Try.prog W = .ok (.tuple #[v, .bool true]) W := by kernel_rfl
def zeroCells : Array Value := #[.slice none 0 0, .int .i64 0, .int .i64 0, .int .i64 0, .slice none 0 0, .slice none 0 0]

theorem blk_set_same {w : World} {b : Nat} {cs : Array Value} {t : TypeId} {fr : Nat × Nat} (h : w.heap[b]? = some (.cells cs t fr)) {j : Nat} {v : Value} (hj : cs[j]? = some v) : (w.setCell ⟨b, j, none⟩ v).heap[b]? = some (.cells cs t fr) := by
  rw [blk_set h j v]
  have : cs.setIfInBounds j v = cs := by
    apply Array.ext_getElem?
    intro i
    rw [Array.getElem?_setIfInBounds]
    split
    · rename_i e; subst e
      split
      · exact hj.symm
      · rename_i h1; simp at h1; simp [h1] at hj
    · rfl
  rw [this]
theorem grown_drew {w w' : World} {row : Option Nat} (h : w.grownBy w' row) : w.grownBy w'.drew row := ⟨h.os, h.tape, h.output, h.size, h.block⟩
theorem drew_heap (W : World) (b : Nat) : W.drew.heap[b]? = W.heap[b]? := rfl
theorem seven_sets {W : World} {P B : Nat} (hne : P ≠ B) (hP : W.heap[P]? = some (.cells #[.slice none 0 0, .int .i64 0, .int .i64 0, .int .i64 0, .slice none 0 0, .slice none 0 0] 26 (0, 0))) (hB : W.heap[B]? = some (.cells #[.int .i64 0] 27 (0, 0))) (e : Int) :
    ((((((((W.setCell ⟨P, 0, none⟩ (.slice none 0 0)).setCell ⟨P, 1, none⟩ (.int .i64 0)).setCell ⟨P, 2, none⟩ (.int .i64 0)).setCell ⟨P, 3, none⟩ (.int .i64 0)).setCell ⟨P, 4, none⟩ (.slice none 0 0)).setCell ⟨P, 5, none⟩ (.slice none 0 0)).setCell ⟨B, 0, none⟩ (.int .i64 e)).drew).heap[P]? = some (.cells #[.slice none 0 0, .int .i64 0, .int .i64 0, .int .i64 0, .slice none 0 0, .slice none 0 0] 26 (0, 0)) ∧
    ((((((((W.setCell ⟨P, 0, none⟩ (.slice none 0 0)).setCell ⟨P, 1, none⟩ (.int .i64 0)).setCell ⟨P, 2, none⟩ (.int .i64 0)).setCell ⟨P, 3, none⟩ (.int .i64 0)).setCell ⟨P, 4, none⟩ (.slice none 0 0)).setCell ⟨P, 5, none⟩ (.slice none 0 0)).setCell ⟨B, 0, none⟩ (.int .i64 e)).drew).heap[B]? = some (.cells #[.int .i64 e] 27 (0, 0)) ∧
    ∀ w0 : World, w0.grownBy W none → w0.heap.size ≤ P → w0.heap.size ≤ B → w0.grownBy ((((((((W.setCell ⟨P, 0, none⟩ (.slice none 0 0)).setCell ⟨P, 1, none⟩ (.int .i64 0)).setCell ⟨P, 2, none⟩ (.int .i64 0)).setCell ⟨P, 3, none⟩ (.int .i64 0)).setCell ⟨P, 4, none⟩ (.slice none 0 0)).setCell ⟨P, 5, none⟩ (.slice none 0 0)).setCell ⟨B, 0, none⟩ (.int .i64 e)).drew) none := by
  refine ⟨?_, ?_, fun w0 h0 h1 h2 => ?_⟩
  · rw [drew_heap]
    refine blk_set_other (j := 0) ?_ hne (.int .i64 e)
    exact blk_set_same (blk_set_same (blk_set_same (blk_set_same (blk_set_same (blk_set_same hP (j := 0) rfl) (j := 1) rfl) (j := 2) rfl) (j := 3) rfl) (j := 4) rfl) (j := 5) rfl
  · have hX := blk_set_other (blk_set_other (blk_set_other (blk_set_other (blk_set_other (blk_set_other hB (Ne.symm hne) (j := 0) (.slice none 0 0)) (Ne.symm hne) (j := 1) (.int .i64 0)) (Ne.symm hne) (j := 2) (.int .i64 0)) (Ne.symm hne) (j := 3) (.int .i64 0)) (Ne.symm hne) (j := 4) (.slice none 0 0)) (Ne.symm hne) (j := 5) (.slice none 0 0)
    rw [drew_heap]
    exact blk_set hX 0 (.int .i64 e)
  · have gn : ∀ (W : World) (b j : Nat) (u : Value), w0.heap.size ≤ b → w0.grownBy W none → w0.grownBy (W.setCell ⟨b, j, none⟩ u) none := fun W b j u hb h => grown_new h (grown_setCell W _ u) (fun k hk => by simp at hk; omega)
    have g6 := gn _ B 0 (.int .i64 e) h2 (gn _ P 5 (.slice none 0 0) h1 (gn _ P 4 (.slice none 0 0) h1 (gn _ P 3 (.int .i64 0) h1 (gn _ P 2 (.int .i64 0) h1 (gn _ P 1 (.int .i64 0) h1 (gn _ P 0 (.slice none 0 0) h1 h0))))))
    exact grown_drew g6

set_option maxHeartbeats 1000000 in
theorem catch_panicking (P B : Nat) (e : Int) (w : World) (hP : w.heap[P]? = some (.cells #[.slice none 0 0, .int .i64 0, .int .i64 0, .int .i64 0, .slice none 0 0, .slice none 0 0] 26 (0, 0))) (hB : w.heap[B]? = some (.cells #[.int .i64 0] 27 (0, 0))) (hne : P ≠ B) :
    CallsD Try.prog 18 #[.pointer (some ⟨P, 0, none⟩), .pointer (some ⟨B, 0, none⟩)] (.panicking ([{ v := .iface 46 (.agg #[.int .i64 e]), recovered := false }])) w fun r u' w' =>
      r = .returned (.tuple #[]) ∧ u' = .panicking ([{ v := .iface 46 (.agg #[.int .i64 e]), recovered := true }]) ∧ w'.heap[P]? = some (.cells #[.slice none 0 0, .int .i64 0, .int .i64 0, .int .i64 0, .slice none 0 0, .slice none 0 0] 26 (0, 0)) ∧
        w'.heap[B]? = some (.cells #[.int .i64 e] 27 (0, 0)) ∧ ∀ w0 : World, w0.grownBy w none → w0.heap.size ≤ P → w0.heap.size ≤ B → w0.grownBy w' none := by
  refine callsD_of_wpS Try.func18 rfl fun c₀ cs hu => ?_
  apply wpS_seq
  apply wpS_region
  simp [wpOpsS, go_sem, recoverD, hu, Try.ntmps18, Exit.thenS]
  clear hu
  have hAs := assert_yes
  refine wpS_of_wp ?_
  change Code.wp _ _ _ { tmps := #[.pointer (some ⟨P, 0, none⟩), .pointer (some ⟨B, 0, none⟩), .iface 46 (.agg #[.int .i64 e]), undef, undef, .iface 46 (.agg #[.int .i64 e]), undef, undef, undef, undef, undef, undef, undef, undef, undef, undef, undef, undef, undef], defers := [] } _
  go_wp2
  have hP1 := blk_alloc hP (.cells #[.int .i64 e] 46)
  have hB1 := blk_alloc hB (.cells #[.int .i64 e] 46)
  have hF1 := heap_alloc_new w (.cells #[.int .i64 e] 46)
  have hPl := lt_of_block hP
  have hBl := lt_of_block hB
  clear hP hB
  have hgW : ∀ w0 : World, w0.grownBy w none → w0.grownBy (w.alloc (.cells #[.int .i64 e] 46)) none := fun w0 h => grown_new h (World.grownBy_alloc w _ none) (by simp)
  generalize w.alloc (.cells #[.int .i64 e] 46) = W at *
  generalize w.heap.size = F at *
  have p0 : W.cell? ⟨P, 0, none⟩ = some (.slice none 0 0) := blk_cell hP1 (j := 0) rfl
  have p1 : W.cell? ⟨P, 1, none⟩ = some (.int .i64 0) := blk_cell hP1 (j := 1) rfl
  have p2 : W.cell? ⟨P, 2, none⟩ = some (.int .i64 0) := blk_cell hP1 (j := 2) rfl
  have p3 : W.cell? ⟨P, 3, none⟩ = some (.int .i64 0) := blk_cell hP1 (j := 3) rfl
  have p4 : W.cell? ⟨P, 4, none⟩ = some (.slice none 0 0) := blk_cell hP1 (j := 4) rfl
  have p5 : W.cell? ⟨P, 5, none⟩ = some (.slice none 0 0) := blk_cell hP1 (j := 5) rfl
  have q0 := blk_free hP1 0
  have q1 := blk_free hP1 1
  have q2 := blk_free hP1 2
  have q3 := blk_free hP1 3
  have q4 := blk_free hP1 4
  have q5 := blk_free hP1 5
  have b0 : W.cell? ⟨B, 0, none⟩ = some (.int .i64 0) := blk_cell hB1 (j := 0) rfl
  have c0 := blk_free hB1 0
  have e0 : W.cell? ⟨F, 0, none⟩ = some (.int .i64 e) := blk_cell hF1 (j := 0) rfl
  clear hF1
  go_region
  all_goals
    obtain ⟨s1, s2, s3⟩ := seven_sets hne hP1 hB1 e
    exact ⟨rfl, .panicking ([{ v := .iface 46 (.agg #[.int .i64 e]), recovered := true }]), rfl, .tuple #[], by simp [results, Try.results18, go_sem], rfl, rfl, s1, s2, fun w0 h0 h1 h2 => s3 w0 (hgW w0 h0) h1 h2⟩

set_option maxHeartbeats 1000000 in
theorem catch_idle (P B : Nat) (w : World) :
    CallsD Try.prog 18 #[.pointer (some ⟨P, 0, none⟩), .pointer (some ⟨B, 0, none⟩)] .returning w fun r u' w' => r = .returned (.tuple #[]) ∧ u' = .returning ∧ w' = w := by
  refine callsD_of_wpS Try.func18 rfl fun c₀ cs hu => ?_
  apply wpS_seq
  apply wpS_region
  simp [wpOpsS, go_sem, recoverD, hu, Try.ntmps18, Exit.thenS]
  refine wpS_of_wp ?_
  change Code.wp _ _ _ { tmps := #[.pointer (some ⟨P, 0, none⟩), .pointer (some ⟨B, 0, none⟩), .nilIface, undef, undef, .nilIface, undef, undef, undef, undef, undef, undef, undef, undef, undef, undef, undef, undef, undef], defers := [] } _
  have HU := Lib.hid hu
  clear hu
  go_wp2
  refine ⟨rfl, .returning, ?_, .tuple #[], by simp [results, Try.results18, go_sem], rfl, rfl, rfl⟩
  rw [← HU.out]

theorem prog_err {w : World} {R : Nat} {s : ByteArray} (hR : RdAt w R s 0) (hs : s.size ≤ 140737488351232) {e : Int} (h : decF s = .error e) :
    Calls Try.prog 19 #[.pointer (some ⟨R, 0, none⟩)] w fun r w' => r = .panicked [{ v := .iface 46 (.agg #[.int .i64 e]), recovered := false }] ∧ w.grownBy w' (some R) := prog_any hR hs h
theorem prog_ok {w : World} {R : Nat} {s : ByteArray} (hR : RdAt w R s 0) (hs : s.size ≤ 140737488351232) {p : Prg} (h : decF s = .ok p) :
    Calls Try.prog 19 #[.pointer (some ⟨R, 0, none⟩)] w fun r w' => ∃ cA sA bA cc sc bc, r = .returned (.agg #[.slice cA p.caps.length cc, .int .i64 p.mutexes, .int .i64 p.onces, .int .i64 p.vars, .slice sA p.sels.length sc, .slice bA p.blocks.length bc]) ∧ PrgAt (Fresh w w') w' ⟨cA, sA, bA, cc, sc, bc⟩ p ∧ w.grownBy w' (some R) :=
  (prog_any hR hs h).mono fun r w' ⟨⟨⟨cA, sA, bA, cc, sc, bc⟩, h1, h2⟩, h3⟩ => ⟨cA, sA, bA, cc, sc, bc, h1, h2, h3⟩

def zeroP : Prg := ⟨[], 0, 0, 0, [], []⟩
def zeroL : PL := ⟨none, none, none, 0, 0, 0⟩
/-- What Decode returns. -/
def DecPost (w : World) (res : Except Int Prg) (r : Ending) (w' : World) : Prop := (∃ y : Ext w, w' = w.ext y) ∧ match res with
  | .ok p => ∃ L, r = .returned (.tuple #[p.val L, .int .i64 0]) ∧ PrgAt (Fresh w w') w' L p
  | .error e => r = .returned (.tuple #[zeroP.val zeroL, .int .i64 e])

end Go.Proofs.Ytlekjobicpnafaa.Cd
