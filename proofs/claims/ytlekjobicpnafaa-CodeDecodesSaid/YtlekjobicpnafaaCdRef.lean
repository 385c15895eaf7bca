/- The document's reading of a program from bytes: what it comes to, and that it is the same. No condition. -/
import Derived.Test.YtlekjobicpnafaaCdPrg
namespace Go.Proofs.Ytlekjobicpnafaa.Cd
open Go Go.RowKit Base Pg
set_option linter.unusedVariables false
set_option linter.unusedSimpArgs false

/-- How far a text is read: where, the last number, and whether something went wrong. -/
structure RX where
  pos : Nat
  n : Int
  e : Int
def RX.val (s : ByteArray) (x : RX) : Value := .agg #[.string s, .int .i64 x.pos, .int .i64 x.n, .int .i64 x.e]
structure Good (s : ByteArray) (x : RX) : Prop where
  pos : x.pos ≤ s.size
  n0 : 0 ≤ x.n
  n1 : x.n ≤ 2147483647
  e0 : 0 ≤ x.e
  e1 : x.e ≤ 12

def nextX (s : ByteArray) (x : RX) : RX := if x.e = 0 then (match nextR s x.pos with | .ok (n, b) => ⟨b, n, 0⟩ | .error e => ⟨x.pos, 0, e⟩) else x
def manyX (s : ByteArray) (k most : Int) (x : RX) : RX := if (nextX s x).e = 0 ∧ most < (nextX s x).n / k then ⟨(nextX s x).pos, (nextX s x).n, 2⟩ else nextX s x
def loopX {α : Type} (p : RX → α × RX) : Nat → List α → RX → List α × RX
  | 0, acc, x => (acc, x)
  | n + 1, acc, x => if x.e = 0 then loopX p n (acc ++ [(p x).1]) (p x).2 else (acc, x)
def cseX (s : ByteArray) (x : RX) : Cse × RX := (⟨(nextX s x).n % 2 == 1, (nextX s x).n / 2⟩, nextX s x)
def selX (s : ByteArray) (x : RX) : Sel × RX := (⟨(loopX (cseX s) ((manyX s 2 4 x).n / 2).toNat [] (manyX s 2 4 x)).1, (manyX s 2 4 x).n % 2 == 1⟩, (loopX (cseX s) ((manyX s 2 4 x).n / 2).toNat [] (manyX s 2 4 x)).2)
/-- An instruction's A and B, behind its op. -/
def insA (s : ByteArray) (y : RX) : RX := if y.n = 0 then y else nextX s y
def insX (s : ByteArray) (x : RX) : Ins × RX :=
  if (nextX s x).n = 7 then (⟨7, (insA s (nextX s x)).n, (nextX s (insA s (nextX s x))).n⟩, nextX s (insA s (nextX s x)))
  else (⟨(nextX s x).n, if (nextX s x).n = 0 then 0 else (insA s (nextX s x)).n, 0⟩, insA s (nextX s x))
def blkX (s : ByteArray) (x : RX) : List Ins × RX := loopX (insX s) (manyX s 1 24 x).n.toNat [] (manyX s 1 24 x)
def capX (s : ByteArray) (x : RX) : Int × RX := ((nextX s x).n - 1, nextX s x)
def capsX (s : ByteArray) (x : RX) : List Int × RX := loopX (capX s) (manyX s 1 4 x).n.toNat [] (manyX s 1 4 x)
def selsX (s : ByteArray) (x : RX) : List Sel × RX := loopX (selX s) (manyX s 1 4 x).n.toNat [] (manyX s 1 4 x)
def blksX (s : ByteArray) (x : RX) : List (List Ins) × RX := loopX (blkX s) (manyX s 1 6 x).n.toNat [] (manyX s 1 6 x)
def tabX (s : ByteArray) (x : RX) : Prg × RX :=
  (⟨(capsX s x).1, (nextX s (capsX s x).2).n, (nextX s (nextX s (capsX s x).2)).n, (nextX s (nextX s (nextX s (capsX s x).2))).n, (selsX s (nextX s (nextX s (nextX s (capsX s x).2)))).1, []⟩,
    (selsX s (nextX s (nextX s (nextX s (capsX s x).2)))).2)
def endE (s : ByteArray) (p : Prg) (x : RX) : Int :=
  if (if x.e = 0 ∧ x.pos < s.size then 10 else x.e) = 0 ∧ rightF p = false then 1 else (if x.e = 0 ∧ x.pos < s.size then 10 else x.e)
def prgX (s : ByteArray) : Prg × RX := ({ (tabX s ⟨0, 0, 0⟩).1 with blocks := (blksX s (tabX s ⟨0, 0, 0⟩).2).1 }, (blksX s (tabX s ⟨0, 0, 0⟩).2).2)
def decX (s : ByteArray) : Except Int Prg := if endE s (prgX s).1 (prgX s).2 = 0 then .ok (prgX s).1 else .error (endE s (prgX s).1 (prgX s).2)

theorem nextX_no {s : ByteArray} {x : RX} (h : ¬ x.e = 0) : nextX s x = x := by unfold nextX; rw [if_neg h]
theorem nextX_ok {s : ByteArray} {x : RX} (h : x.e = 0) {n : Int} {b : Nat} (hn : nextR s x.pos = .ok (n, b)) : nextX s x = ⟨b, n, 0⟩ := by unfold nextX; rw [if_pos h, hn]
theorem nextX_err {s : ByteArray} {x : RX} (h : x.e = 0) {e : Int} (hn : nextR s x.pos = .error e) : nextX s x = ⟨x.pos, 0, e⟩ := by unfold nextX; rw [if_pos h, hn]
theorem nextX_good {s : ByteArray} {x : RX} (hx : Good s x) : Good s (nextX s x) := by
  by_cases h : x.e = 0
  · cases hn : nextR s x.pos with
    | error e =>
      obtain ⟨_, _, h1, h2⟩ := nextR_err hn
      rw [nextX_err h hn]; exact ⟨hx.pos, by simp, by simp, h1, h2⟩
    | ok y =>
      obtain ⟨n, b⟩ := y
      obtain ⟨_, h1, h2, _, h3⟩ := nextR_ok hn hx.pos
      rw [nextX_ok h hn]; exact ⟨h3, h1, h2, by simp, by simp⟩
  · rw [nextX_no h]; exact hx
theorem manyX_good {s : ByteArray} {k most : Int} {x : RX} (hx : Good s x) : Good s (manyX s k most x) := by
  have h := nextX_good hx
  unfold manyX
  split
  · exact ⟨h.pos, h.n0, h.n1, by simp, by simp⟩
  · exact h
theorem manyX_no {s : ByteArray} {k most : Int} {x : RX} (h : ¬ x.e = 0) : manyX s k most x = x := by
  unfold manyX
  rw [nextX_no h, if_neg (fun hh => h hh.1)]
theorem manyX_le {s : ByteArray} {k most : Int} {x : RX} (h : (manyX s k most x).e = 0) : (manyX s k most x).n / k ≤ most := by
  unfold manyX at h ⊢
  split
  · rename_i hh; rw [if_pos hh] at h; simp at h
  · rename_i hh; rw [if_neg hh] at h; simp only [h, true_and] at hh; omega
theorem loopX_no {α : Type} {p : RX → α × RX} {n : Nat} {acc : List α} {x : RX} (h : ¬ x.e = 0) : loopX p n acc x = (acc, x) := by
  cases n with
  | zero => rfl
  | succ n => unfold loopX; rw [if_neg h]
theorem loopX_ok {α : Type} {p : RX → α × RX} {n : Nat} {acc : List α} {x : RX} (h : x.e = 0) : loopX p (n + 1) acc x = loopX p n (acc ++ [(p x).1]) (p x).2 := by
  rw [loopX, if_pos h]
theorem loopX_good {α : Type} {s : ByteArray} {p : RX → α × RX} (hp : ∀ x, Good s x → Good s (p x).2) : ∀ (n : Nat) (acc : List α) (x : RX), Good s x → Good s (loopX p n acc x).2 ∧ (loopX p n acc x).1.length ≤ acc.length + n
  | 0, acc, x, hx => ⟨hx, by simp [loopX]⟩
  | n + 1, acc, x, hx => by
    by_cases h : x.e = 0
    · rw [loopX_ok h]
      obtain ⟨h1, h2⟩ := loopX_good hp n (acc ++ [(p x).1]) (p x).2 (hp x hx)
      exact ⟨h1, by simp at h2; omega⟩
    · rw [loopX_no h]; exact ⟨hx, by simp⟩
theorem loopX_len {α : Type} {s : ByteArray} {p : RX → α × RX} (hp : ∀ x, Good s x → Good s (p x).2) {k most : Int} {x : RX} (hx : Good s x) (m : Nat) (hm : (manyX s k most x).e = 0 → m ≤ most) (hmo : 0 ≤ most) :
    ((loopX p m [] (manyX s k most x)).1.length : Int) ≤ most := by
  by_cases h : (manyX s k most x).e = 0
  · have := (loopX_good hp m [] _ (manyX_good (k := k) (most := most) hx)).2
    have := hm h
    simp at *; omega
  · rw [loopX_no h]; simpa using hmo
theorem cseX_good {s : ByteArray} (x : RX) (hx : Good s x) : Good s (cseX s x).2 := nextX_good hx
theorem capX_good {s : ByteArray} (x : RX) (hx : Good s x) : Good s (capX s x).2 := nextX_good hx
theorem insA_good {s : ByteArray} {y : RX} (hy : Good s y) : Good s (insA s y) := by
  unfold insA; split
  · exact hy
  · exact nextX_good hy
theorem insX_good {s : ByteArray} (x : RX) (hx : Good s x) : Good s (insX s x).2 := by
  unfold insX; split
  · exact nextX_good (insA_good (nextX_good hx))
  · exact insA_good (nextX_good hx)
theorem selX_good {s : ByteArray} (x : RX) (hx : Good s x) : Good s (selX s x).2 := (loopX_good cseX_good _ _ _ (manyX_good hx)).1
theorem blkX_good {s : ByteArray} (x : RX) (hx : Good s x) : Good s (blkX s x).2 := (loopX_good insX_good _ _ _ (manyX_good hx)).1
theorem toNat_le {n : Int} {m : Int} (h : n ≤ m) (hm : 0 ≤ m) : (n.toNat : Int) ≤ m := by omega
theorem selX_len {s : ByteArray} (x : RX) (hx : Good s x) : (selX s x).1.cases.length ≤ 4 := by
  have := loopX_len cseX_good (k := 2) (most := 4) hx ((manyX s 2 4 x).n / 2).toNat (fun h => toNat_le (manyX_le h) (by decide)) (by decide)
  unfold selX; simp only; omega
theorem blkX_len {s : ByteArray} (x : RX) (hx : Good s x) : (blkX s x).1.length ≤ 24 := by
  have := loopX_len insX_good (k := 1) (most := 24) hx ((manyX s 1 24 x).n).toNat (fun h => toNat_le (by have := manyX_le h; simpa using this) (by decide)) (by decide)
  unfold blkX; omega
theorem capsX_good {s : ByteArray} (x : RX) (hx : Good s x) : Good s (capsX s x).2 := (loopX_good capX_good _ _ _ (manyX_good hx)).1
theorem selsX_good {s : ByteArray} (x : RX) (hx : Good s x) : Good s (selsX s x).2 := (loopX_good selX_good _ _ _ (manyX_good hx)).1
theorem blksX_good {s : ByteArray} (x : RX) (hx : Good s x) : Good s (blksX s x).2 := (loopX_good blkX_good _ _ _ (manyX_good hx)).1
theorem capsX_len {s : ByteArray} (x : RX) (hx : Good s x) : (capsX s x).1.length ≤ 4 := by
  have := loopX_len capX_good (k := 1) (most := 4) hx ((manyX s 1 4 x).n).toNat (fun h => toNat_le (by have := manyX_le h; simpa using this) (by decide)) (by decide)
  unfold capsX; omega
theorem selsX_len {s : ByteArray} (x : RX) (hx : Good s x) : (selsX s x).1.length ≤ 4 := by
  have := loopX_len selX_good (k := 1) (most := 4) hx ((manyX s 1 4 x).n).toNat (fun h => toNat_le (by have := manyX_le h; simpa using this) (by decide)) (by decide)
  unfold selsX; omega
theorem blksX_len {s : ByteArray} (x : RX) (hx : Good s x) : (blksX s x).1.length ≤ 6 := by
  have := loopX_len blkX_good (k := 1) (most := 6) hx ((manyX s 1 6 x).n).toNat (fun h => toNat_le (by have := manyX_le h; simpa using this) (by decide)) (by decide)
  unfold blksX; omega

/-- A reading by definition comes to what a reading comes to. -/
def Like {α : Type} (s : ByteArray) (p : RX → α × RX) (q : Rd α) : Prop := ∀ x, Good s x → x.e = 0 → match q x.pos with | .ok (a, b) => ∃ n, p x = (a, ⟨b, n, 0⟩) | .error e => ¬ e = 0 ∧ (p x).2.e = e
theorem nextX_like (s : ByteArray) {x : RX} (hx : Good s x) (h : x.e = 0) : match nextR s x.pos with | .ok (n, b) => nextX s x = ⟨b, n, 0⟩ | .error e => ¬ e = 0 ∧ nextX s x = ⟨x.pos, 0, e⟩ := by
  cases hn : nextR s x.pos with
  | error e => exact ⟨(nextR_err hn).2.1, nextX_err h hn⟩
  | ok y => obtain ⟨n, b⟩ := y; exact nextX_ok h hn
theorem manyX_like (s : ByteArray) {k most : Int} {x : RX} (hx : Good s x) (h : x.e = 0) : match manyR s k most x.pos with | .ok (n, b) => manyX s k most x = ⟨b, n, 0⟩ | .error e => ¬ e = 0 ∧ (manyX s k most x).e = e := by
  unfold manyR manyX
  cases hn : nextR s x.pos with
  | error e =>
    have he := (nextR_err hn).2.1
    simp only
    rw [nextX_err h hn, if_neg (fun hh => he hh.1)]
    exact ⟨he, rfl⟩
  | ok y =>
    obtain ⟨n, b⟩ := y
    rw [nextX_ok h hn]
    simp only
    by_cases hm : most < n / k
    · rw [if_pos hm]; simp only; rw [if_pos ⟨trivial, hm⟩]; exact ⟨by decide, rfl⟩
    · rw [if_neg hm]; simp only; rw [if_neg (fun hh => hm hh.2)]
theorem loopX_like {α : Type} {s : ByteArray} {p : RX → α × RX} {q : Rd α} (hp : ∀ x, Good s x → Good s (p x).2) (hl : Like s p q) : ∀ (n : Nat) (acc : List α) (x : RX), Good s x → x.e = 0 →
    match loopR q n acc x.pos with | .ok (l, b) => ∃ m, loopX p n acc x = (l, ⟨b, m, 0⟩) | .error e => ¬ e = 0 ∧ (loopX p n acc x).2.e = e
  | 0, acc, x, hx, h => ⟨x.n, by rw [loopX, ← h]⟩
  | n + 1, acc, x, hx, h => by
    rw [loopX_ok h, loopR]
    have h1 := hl x hx h
    have h2 := hp x hx
    cases hq : q x.pos with
    | error e =>
      rw [hq] at h1
      simp only at h1 ⊢
      obtain ⟨h3, h4⟩ := h1
      rw [loopX_no (by rw [h4]; exact h3)]
      exact ⟨h3, h4⟩
    | ok y =>
      obtain ⟨a, b⟩ := y
      rw [hq] at h1
      simp only at h1 ⊢
      obtain ⟨m, hm⟩ := h1
      rw [hm] at h2 ⊢
      exact loopX_like hp hl n (acc ++ [a]) ⟨b, m, 0⟩ h2 rfl
theorem cseX_like (s : ByteArray) : Like s (cseX s) (cseR s) := fun x hx h => by
  have h1 := nextX_like s hx h
  unfold cseR cseX
  cases hn : nextR s x.pos with
  | error e => rw [hn] at h1; simp only at h1 ⊢; rw [h1.2]; exact ⟨h1.1, rfl⟩
  | ok y => obtain ⟨n, b⟩ := y; rw [hn] at h1; simp only at h1 ⊢; rw [h1]; exact ⟨n, rfl⟩
theorem capX_like (s : ByteArray) : Like s (capX s) (capR s) := fun x hx h => by
  have h1 := nextX_like s hx h
  unfold capR capX
  cases hn : nextR s x.pos with
  | error e => rw [hn] at h1; simp only at h1 ⊢; rw [h1.2]; exact ⟨h1.1, rfl⟩
  | ok y => obtain ⟨n, b⟩ := y; rw [hn] at h1; simp only at h1 ⊢; rw [h1]; exact ⟨n, rfl⟩
theorem insX_like (s : ByteArray) : Like s (insX s) (insR s) := fun x hx h => by
  have h1 := nextX_like s hx h
  have g1 := nextX_good hx
  unfold insR insX insA
  cases hn : nextR s x.pos with
  | error e =>
    rw [hn] at h1; simp only at h1 ⊢; obtain ⟨he, h1⟩ := h1
    rw [h1]
    simp only [show ¬ (0 : Int) = 7 by decide, if_false, if_true]
    exact ⟨he, trivial⟩
  | ok y =>
    obtain ⟨op, b⟩ := y
    rw [hn] at h1; simp only at h1 ⊢
    rw [h1] at g1 ⊢
    by_cases h0 : op = 0
    · subst h0
      simp only [show ¬ (0 : Int) = 7 by decide, if_false, if_true]
      exact ⟨0, rfl⟩
    · have h2 := nextX_like s g1 rfl
      have g2 := nextX_good g1
      simp only [if_neg h0]
      cases hn2 : nextR s b with
      | error e =>
        simp only at h2
        rw [hn2] at h2; simp only at h2 ⊢; obtain ⟨he, h2⟩ := h2
        rw [h2]
        by_cases h7 : op = 7
        · rw [if_pos h7, nextX_no (by exact he)]; exact ⟨he, rfl⟩
        · rw [if_neg h7]; exact ⟨he, rfl⟩
      | ok z =>
        obtain ⟨a, c⟩ := z
        simp only at h2
        rw [hn2] at h2; simp only at h2 ⊢
        rw [h2] at g2 ⊢
        by_cases h7 : op = 7
        · subst h7
          simp only [if_true]
          have h3 := nextX_like s g2 rfl
          cases hn3 : nextR s c with
          | error e =>
            simp only at h3
            rw [hn3] at h3; simp only at h3 ⊢; obtain ⟨he, h3⟩ := h3
            rw [h3]; exact ⟨he, rfl⟩
          | ok u =>
            obtain ⟨b', d⟩ := u
            simp only at h3
            rw [hn3] at h3; simp only at h3 ⊢
            rw [h3]; exact ⟨b', rfl⟩
        · simp only [if_neg h7]; exact ⟨a, rfl⟩
theorem many_loop {α : Type} {s : ByteArray} {k most : Int} {p : RX → α × RX} {q : Rd α} (hp : ∀ x, Good s x → Good s (p x).2) (hl : Like s p q) (f : Int → Nat) {x : RX} (hx : Good s x) (h : x.e = 0) :
    match (match manyR s k most x.pos with | .error e => .error e | .ok (n, b) => loopR q (f n) [] b : Except Int (List α × Nat)) with
      | .ok (l, b) => ∃ m, loopX p (f (manyX s k most x).n) [] (manyX s k most x) = (l, ⟨b, m, 0⟩)
      | .error e => ¬ e = 0 ∧ (loopX p (f (manyX s k most x).n) [] (manyX s k most x)).2.e = e := by
  have h1 := manyX_like s (k := k) (most := most) hx h
  have g1 := manyX_good (k := k) (most := most) hx
  cases hm : manyR s k most x.pos with
  | error e =>
    rw [hm] at h1; simp only at h1 ⊢
    rw [loopX_no (by rw [h1.2]; exact h1.1)]
    exact h1
  | ok y =>
    obtain ⟨n, b⟩ := y
    rw [hm] at h1; simp only at h1 ⊢
    rw [h1] at g1 ⊢
    exact loopX_like hp hl (f n) [] ⟨b, n, 0⟩ g1 rfl
theorem selX_like (s : ByteArray) : Like s (selX s) (selR s) := fun x hx h => by
  have h1 := manyX_like s (k := 2) (most := 4) hx h
  have h2 := many_loop (k := 2) (most := 4) cseX_good (cseX_like s) (fun n => (n / 2).toNat) hx h
  unfold selR selX
  cases hm : manyR s 2 4 x.pos with
  | error e => rw [hm] at h2; exact h2
  | ok y =>
    obtain ⟨n, b⟩ := y
    rw [hm] at h1 h2
    simp only at h1 h2 ⊢
    cases hl : loopR (cseR s) (n / 2).toNat [] b with
    | error e => rw [hl] at h2; exact h2
    | ok z =>
      obtain ⟨l, c⟩ := z
      rw [hl] at h2
      simp only at h2 ⊢
      obtain ⟨m, h2⟩ := h2
      rw [h2, h1]
      exact ⟨m, rfl⟩
theorem blkX_like (s : ByteArray) : Like s (blkX s) (blkR s) := fun x hx h => by
  have := many_loop (k := 1) (most := 24) insX_good (insX_like s) (fun n => n.toNat) hx h
  unfold blkR blkX
  cases hm : manyR s 1 24 x.pos with
  | error e => rw [hm] at this; exact this
  | ok y =>
    obtain ⟨n, b⟩ := y
    rw [hm] at this
    simp only at this ⊢
    cases hl : loopR (insR s) n.toNat [] b with
    | error e => rw [hl] at this; exact this
    | ok z => obtain ⟨l, c⟩ := z; rw [hl] at this; exact this

theorem bindE_many {α β : Type} (x : Except Int (Int × Nat)) (q : Rd α) (f : Int → Nat) (k : List α → Nat → Except Int β) :
    bindE x (fun n a1 => bindE (loopR q (f n) [] a1) k) = bindE (match x with | .error e => .error e | .ok (n, b) => loopR q (f n) [] b) k := by
  cases x with
  | error e => rfl
  | ok y => rfl

theorem blks_no {s : ByteArray} {x : RX} (h : ¬ x.e = 0) : (blksX s x).2 = x := by
  unfold blksX
  rw [manyX_no h, loopX_no h]
theorem sels_no {s : ByteArray} {x : RX} (h : ¬ x.e = 0) : (selsX s x).2 = x := by
  unfold selsX
  rw [manyX_no h, loopX_no h]
theorem end_no {s : ByteArray} {p : Prg} {x : RX} (h : ¬ x.e = 0) : endE s p x = x.e := by
  unfold endE
  have h1 : ¬ (x.e = 0 ∧ x.pos < s.size) := fun hh => h hh.1
  rw [if_neg h1, if_neg (fun hh => h hh.1)]
theorem dec_no {s : ByteArray} (e : Int) (he : ¬ e = 0) (h : (prgX s).2.e = e) : decX s = .error e := by
  have h1 : ¬ (prgX s).2.e = 0 := by rw [h]; exact he
  unfold decX
  rw [end_no h1, if_neg h1, h]

theorem decX_eq (s : ByteArray) : decX s = decF s := by
  have g0 : Good s ⟨0, 0, 0⟩ := ⟨Nat.zero_le _, by simp, by simp, by simp, by simp⟩
  have hcap := many_loop (k := 1) (most := 4) capX_good (capX_like s) (fun n => n.toNat) g0 rfl
  have gcap := capsX_good _ g0
  rw [decF_eq, bindE_many (manyR s 1 4 0) (capR s) (fun n => n.toNat)]
  rw [show (⟨0, 0, 0⟩ : RX).pos = 0 from rfl] at hcap
  generalize hC : (match manyR s 1 4 0 with | .error e => .error e | .ok (n, b) => loopR (capR s) n.toNat [] b : Except Int (List Int × Nat)) = C at *
  cases C with
  | error e =>
    have hc : (capsX s ⟨0, 0, 0⟩).2.e = e := hcap.2
    have hne : ¬ (capsX s ⟨0, 0, 0⟩).2.e = 0 := by rw [hc]; exact hcap.1
    refine dec_no e hcap.1 ?_
    unfold prgX tabX
    simp only
    rw [nextX_no hne, nextX_no hne, nextX_no hne, sels_no hne, blks_no hne, hc]
  | ok y =>
    obtain ⟨caps, b0⟩ := y
    obtain ⟨m0, hc⟩ := hcap
    have hc : capsX s ⟨0, 0, 0⟩ = (caps, ⟨b0, m0, 0⟩) := hc
    rw [hc] at gcap
    rw [bindE_ok]
    unfold dec1
    have h1 := nextX_like s gcap rfl
    have g1 := nextX_good gcap
    simp only at h1
    cases hn1 : nextR s b0 with
    | error e =>
      rw [hn1] at h1
      simp only at h1
      have hne : ¬ (nextX s ⟨b0, m0, 0⟩).e = 0 := by rw [h1.2]; exact h1.1
      refine dec_no e h1.1 ?_
      unfold prgX tabX
      rw [hc]; simp only
      rw [nextX_no hne, nextX_no hne, sels_no hne, blks_no hne, h1.2]
    | ok y =>
      obtain ⟨n1, b1⟩ := y
      rw [hn1] at h1
      simp only at h1
      rw [h1] at g1
      rw [bindE_ok]
      have h2 := nextX_like s g1 rfl
      have g2 := nextX_good g1
      simp only at h2
      cases hn2 : nextR s b1 with
      | error e =>
        rw [hn2] at h2
        simp only at h2
        have hne : ¬ (nextX s ⟨b1, n1, 0⟩).e = 0 := by rw [h2.2]; exact h2.1
        refine dec_no e h2.1 ?_
        unfold prgX tabX
        rw [hc]; simp only
        rw [h1, nextX_no hne, sels_no hne, blks_no hne, h2.2]
      | ok y =>
        obtain ⟨n2, b2⟩ := y
        rw [hn2] at h2
        simp only at h2
        rw [h2] at g2
        rw [bindE_ok]
        have h3 := nextX_like s g2 rfl
        have g3 := nextX_good g2
        simp only at h3
        cases hn3 : nextR s b2 with
        | error e =>
          rw [hn3] at h3
          simp only at h3
          have hne : ¬ (nextX s ⟨b2, n2, 0⟩).e = 0 := by rw [h3.2]; exact h3.1
          refine dec_no e h3.1 ?_
          unfold prgX tabX
          rw [hc]; simp only
          rw [h1, h2, sels_no hne, blks_no hne, h3.2]
        | ok y =>
          obtain ⟨n3, b3⟩ := y
          rw [hn3] at h3
          simp only at h3
          rw [h3] at g3
          rw [bindE_ok]
          unfold dec2
          rw [bindE_many (manyR s 1 4 b3) (selR s) (fun n => n.toNat)]
          have h4 := many_loop (k := 1) (most := 4) selX_good (selX_like s) (fun n => n.toNat) g3 rfl
          have g4 := selsX_good _ g3
          simp only at h4
          generalize (match manyR s 1 4 b3 with | .error e => .error e | .ok (n, b) => loopR (selR s) n.toNat [] b : Except Int (List Sel × Nat)) = D at *
          cases D with
          | error e =>
            have hd : (selsX s ⟨b3, n3, 0⟩).2.e = e := h4.2
            have hne : ¬ (selsX s ⟨b3, n3, 0⟩).2.e = 0 := by rw [hd]; exact h4.1
            refine dec_no e h4.1 ?_
            unfold prgX tabX
            rw [hc]; simp only
            rw [h1, h2, h3, blks_no hne, hd]
          | ok y =>
            obtain ⟨sels, b4⟩ := y
            obtain ⟨m4, hd⟩ := h4
            have hd : selsX s ⟨b3, n3, 0⟩ = (sels, ⟨b4, m4, 0⟩) := hd
            rw [hd] at g4
            rw [bindE_ok]
            unfold dec3
            rw [bindE_many (manyR s 1 6 b4) (blkR s) (fun n => n.toNat)]
            have h5 := many_loop (k := 1) (most := 6) blkX_good (blkX_like s) (fun n => n.toNat) g4 rfl
            simp only at h5
            generalize (match manyR s 1 6 b4 with | .error e => .error e | .ok (n, b) => loopR (blkR s) n.toNat [] b : Except Int (List (List Ins) × Nat)) = F at *
            cases F with
            | error e =>
              have hf : (blksX s ⟨b4, m4, 0⟩).2.e = e := h5.2
              refine dec_no e h5.1 ?_
              unfold prgX tabX
              rw [hc]; simp only
              rw [h1, h2, h3, hd, hf]
            | ok y =>
              obtain ⟨bl, b5⟩ := y
              obtain ⟨m5, hf⟩ := h5
              have hf : blksX s ⟨b4, m4, 0⟩ = (bl, ⟨b5, m5, 0⟩) := hf
              rw [bindE_ok]
              have hp : prgX s = (⟨caps, n1, n2, n3, sels, bl⟩, ⟨b5, m5, 0⟩) := by
                unfold prgX tabX
                rw [hc]; simp only
                rw [h1, h2, h3, hd]; simp only
                rw [hf]
              unfold decX endE dec4
              rw [hp]
              simp only [true_and]
              by_cases hlt : b5 < s.size
              · simp [hlt]
              · cases hr : rightF ⟨caps, n1, n2, n3, sels, bl⟩ <;> simp [hlt, hr]
end Go.Proofs.Ytlekjobicpnafaa.Cd
