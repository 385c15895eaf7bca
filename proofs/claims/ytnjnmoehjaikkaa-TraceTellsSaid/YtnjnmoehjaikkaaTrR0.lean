/- The document's answer for traces: last, and how many. Condition: the events lie in memory. -/
import Derived.Test.YtnjnmoehjaikkaaTrWC
namespace Go.Proofs.Ytnjnmoehjaikkaa.Tr
open Go Go.RowKit Base
set_option linter.unusedVariables false
set_option linter.unusedSimpArgs false

theorem EvsAt.at2 {w : World} {eb eo : Nat} {l : List Ev} (h : EvsAt w (some ⟨eb, eo, none⟩) l) {i : Int} (h0 : 0 ≤ i) (h1 : i < l.length) : eb < w.heap.size ∧
    (∀ x : Ext w, (w.ext x).cell? ⟨eb, eo + i.toNat * 5, none⟩ = some (.int .i64 (evAt l i).g)) ∧ (∀ x : Ext w, (w.ext x).cell? ⟨eb, eo + i.toNat * 5 + 1, none⟩ = some (.int .i64 (evAt l i).kind)) ∧ (∀ x : Ext w, (w.ext x).cell? ⟨eb, eo + i.toNat * 5 + 2, none⟩ = some (.int .i64 (evAt l i).obj)) ∧
    (∀ x : Ext w, (w.ext x).cell? ⟨eb, eo + i.toNat * 5 + 3, none⟩ = some (.int .i64 (evAt l i).no)) ∧ (∀ x : Ext w, (w.ext x).cell? ⟨eb, eo + i.toNat * 5 + 4, none⟩ = some (.int .i64 (evAt l i).start)) := by
  obtain ⟨b, o, hA, hb, f0, f1, f2, f3, f4⟩ := h.at (evAt_get h0 h1)
  simp only [Option.some.injEq, Addr.mk.injEq] at hA
  obtain ⟨rfl, rfl, _⟩ := hA
  exact ⟨hb, f0, f1, f2, f3, f4⟩

theorem EvsAt.some {w : World} {A : Option Addr} {l : List Ev} (h : EvsAt w A l) (hl : 0 < l.length) : ∃ eb eo, A = some ⟨eb, eo, none⟩ := by
  obtain ⟨eb, eo, hA, _⟩ := h 0 _ (List.getElem?_eq_getElem hl)
  exact ⟨eb, eo, hA⟩

/-- The last event ahead of i of a goroutine, looked for from k on: what was found so far is out. -/
def lastFrom (l : List Ev) (g : Int) : Nat → Int
  | 0 => -1
  | k + 1 => if (evAt l k).g == g then (k : Int) else lastFrom l g k

/-- How many there are ahead of i. -/
def cntTo (l : List Ev) (k o : Int) : Nat → Int
  | 0 => 0
  | n + 1 => cntTo l k o n + if ((evAt l n).kind == k && (evAt l n).obj == o) = true then 1 else 0

theorem cntTo_le (l : List Ev) (k o : Int) : ∀ n : Nat, 0 ≤ cntTo l k o n ∧ cntTo l k o n ≤ n
  | 0 => by simp [cntTo]
  | n + 1 => by
    have := cntTo_le l k o n
    unfold cntTo
    split <;> omega

section
variable {w : World}

set_option maxHeartbeats 2000000 in
theorem rlast_any (x0 : Ext w) {A : Option Addr} {l : List Ev} {lc : Nat} (hE : EvsAt w A l) (hlc : l.length ≤ lc) (hll : l.length ≤ 140737488351232) {i : Int} (h0 : 0 ≤ i) (h1 : i < l.length) :
    Calls Try.prog 14 #[.slice A l.length lc, .int .i64 i] (w.ext x0) fun r w' => r = .returned (.int .i64 (lastFrom l (evAt l i).g i.toNat)) ∧ ∃ x : Ext w, w' = w.ext x := by
  obtain ⟨n, rfl⟩ := Int.eq_ofNat_of_zero_le h0
  obtain ⟨eb, eo, rfl⟩ := hE.some (by omega)
  obtain ⟨hb, q0, _, _, _, _⟩ := hE.at2 h0 h1
  simp only [Int.toNat_natCast] at q0 ⊢
  have hnc : n ≤ lc := by omega
  have hnl : n < l.length := by omega
  go_enter Try.func14, Try.ntmps14
  go_wp2
  go_loopw [5, 11] (fun out i wr => ∃ (k : Nat) (x : Ext w), k ≤ n ∧ i = .int .i64 k ∧ wr = w.ext x ∧ out = .int .i64 (lastFrom l (evAt l n).g k)) (fun _ i _ => n - (intOf i).toNat)
  case atStart => exact ⟨0, x0, Nat.zero_le _, rfl, rfl, rfl⟩
  case round =>
    obtain ⟨k, x, hk, rfl, rfl, rfl⟩ := hrel
    by_cases hlt : k < n
    · obtain ⟨_, p0, _, _, _, _⟩ := hE.at2 (i := k) (by omega) (by omega)
      simp only [Int.toNat_natCast] at p0
      have HS : Hid (lastFrom l (evAt l n).g (k + 1) = if (evAt l k).g == (evAt l n).g then (k : Int) else lastFrom l (evAt l n).g k) := rfl
      have hkl : k < l.length := by omega
      cases hc : ((evAt l k).g == (evAt l n).g)
      all_goals
        go_wp2
        refine region_at (by kernel_rfl) (by kernel_rfl) ?_
        repeat (go_big_quiet_step (fail))
        refine wpQuiet_nil ?_
        rintro _ ⟨x, rfl⟩
        go_wp2
        go_roundw
        case rel => exact ⟨k + 1, _, by omega, by go_num, rfl, by rw [HS.out, hc]; rfl⟩
        case measure => simp [intOf]; omega
    · obtain rfl : k = n := by omega
      go_wp2
      go_ret
      exact ⟨rfl, _, rfl⟩

set_option maxHeartbeats 2000000 in
theorem rcount_any (x0 : Ext w) {A : Option Addr} {l : List Ev} {lc : Nat} (hE : EvsAt w A l) (hlc : l.length ≤ lc) (hll : l.length ≤ 140737488351232) {i : Int} (h0 : 0 ≤ i) (h1 : i < l.length) (kd o : Int) :
    Calls Try.prog 15 #[.slice A l.length lc, .int .i64 i, .int .i64 kd, .int .i64 o] (w.ext x0) fun r w' => r = .returned (.int .i64 (cntTo l kd o i.toNat)) ∧ ∃ x : Ext w, w' = w.ext x := by
  obtain ⟨n, rfl⟩ := Int.eq_ofNat_of_zero_le h0
  obtain ⟨eb, eo, rfl⟩ := hE.some (by omega)
  simp only [Int.toNat_natCast]
  have hnc : n ≤ lc := by omega
  have hnl : n < l.length := by omega
  go_enter Try.func15, Try.ntmps15
  go_wp2
  go_loopw [9, 16] (fun out i wr => ∃ (k : Nat) (x : Ext w), k ≤ n ∧ i = .int .i64 k ∧ wr = w.ext x ∧ out = .int .i64 (cntTo l kd o k)) (fun _ i _ => n - (intOf i).toNat)
  case atStart => exact ⟨0, x0, Nat.zero_le _, rfl, rfl, rfl⟩
  case round =>
    obtain ⟨k, x, hk, rfl, rfl, rfl⟩ := hrel
    by_cases hlt : k < n
    · obtain ⟨_, p0, p1, p2, p3, p4⟩ := hE.at2 (i := k) (by omega) (by omega)
      simp only [Int.toNat_natCast] at p0 p1 p2 p3 p4
      have HS : Hid (cntTo l kd o (k + 1) = cntTo l kd o k + if ((evAt l k).kind == kd && (evAt l k).obj == o) = true then 1 else 0) := rfl
      have hkl : k < l.length := by omega
      have hb := cntTo_le l kd o k
      generalize evAt l k = e at *
      obtain ⟨w1, x1, hw1, ⟨y, hy⟩, hsz, f0, f1, f2, f3, f4⟩ := boxEv' (w.ext x) e
      have hy' : ∃ y : Ext w, w1 = w.ext y := ⟨x.trans y, hy⟩
      clear hy
      cases hc : (e.kind == kd)
      · go_wp2
        go_roundw
        case rel =>
          obtain ⟨y, rfl⟩ := hy'
          exact ⟨k + 1, y.trans _, by omega, by go_num, rfl, by rw [HS.out, hc]; simp⟩
        case measure => simp [intOf]; omega
      · cases hd : (e.obj == o)
        all_goals
          go_wp2
          go_roundw
          case rel =>
            obtain ⟨y, rfl⟩ := hy'
            exact ⟨k + 1, y.trans _, by omega, by go_num, rfl, by rw [HS.out, hc, hd]; simp⟩
          case measure => simp [intOf]; omega
    · obtain rfl : k = n := by omega
      go_wp2
      go_ret
      exact ⟨rfl, _, rfl⟩
end
end Go.Proofs.Ytnjnmoehjaikkaa.Tr
