/- Reading a program from bytes: what is read, or why not. No condition. -/
import Derived.Test.YtlekjobicpnafaaCdRGet
import Derived.Test.YtlekjobicpnafaaPgSame
namespace Go.Proofs.Ytlekjobicpnafaa.Cd
open Go Go.RowKit Base Pg
set_option linter.unusedVariables false
set_option linter.unusedSimpArgs false

/-- What is read from a place on, and the place behind it; or an error. -/
abbrev Rd (α : Type) := Nat → Except Int (α × Nat)
def Rd.pure {α : Type} (x : α) : Rd α := fun a => .ok (x, a)
def Rd.bind {α β : Type} (p : Rd α) (f : α → Rd β) : Rd β := fun a => match p a with | .error e => .error e | .ok (x, a') => f x a'
instance : Monad Rd where
  pure := Rd.pure
  bind := Rd.bind

def nextR (s : ByteArray) : Rd Int := fun a => match getF s a with | (n, to, e) => if e = 0 then .ok (n, to.toNat) else .error e
def manyR (s : ByteArray) (k most : Int) : Rd Int := fun a => match nextR s a with | .error e => .error e | .ok (n, a') => if most < n / k then .error 2 else .ok (n, a')
def loopR {α : Type} (p : Rd α) : Nat → List α → Rd (List α)
  | 0, acc, a => .ok (acc, a)
  | n + 1, acc, a => match p a with | .error e => .error e | .ok (x, a') => loopR p n (acc ++ [x]) a'
def capR (s : ByteArray) : Rd Int := fun a => match nextR s a with | .error e => .error e | .ok (n, a') => .ok (n - 1, a')
def cseR (s : ByteArray) : Rd Cse := fun a => match nextR s a with | .error e => .error e | .ok (n, a') => .ok (⟨n % 2 == 1, n / 2⟩, a')
def selR (s : ByteArray) : Rd Sel := fun a => match manyR s 2 4 a with
  | .error e => .error e
  | .ok (n, a') => match loopR (cseR s) (n / 2).toNat [] a' with
    | .error e => .error e
    | .ok (l, a'') => .ok (⟨l, n % 2 == 1⟩, a'')
def insR (s : ByteArray) : Rd Ins := fun a => match nextR s a with
  | .error e => .error e
  | .ok (op, a1) =>
    if op = 0 then .ok (⟨op, 0, 0⟩, a1)
    else match nextR s a1 with
      | .error e => .error e
      | .ok (x, a2) => if op = 7 then (match nextR s a2 with | .error e => .error e | .ok (y, a3) => .ok (⟨op, x, y⟩, a3)) else .ok (⟨op, x, 0⟩, a2)
def blkR (s : ByteArray) : Rd (List Ins) := fun a => match manyR s 1 24 a with
  | .error e => .error e
  | .ok (n, a') => loopR (insR s) n.toNat [] a'
def tabR (s : ByteArray) : Rd Prg := fun a => match manyR s 1 4 a with
  | .error e => .error e
  | .ok (n, a1) => match loopR (capR s) n.toNat [] a1 with
    | .error e => .error e
    | .ok (caps, a2) => match nextR s a2 with
      | .error e => .error e
      | .ok (m, a3) => match nextR s a3 with
        | .error e => .error e
        | .ok (o, a4) => match nextR s a4 with
          | .error e => .error e
          | .ok (v, a5) => match manyR s 1 4 a5 with
            | .error e => .error e
            | .ok (k, a6) => match loopR (selR s) k.toNat [] a6 with
              | .error e => .error e
              | .ok (sels, a7) => .ok (⟨caps, m, o, v, sels, []⟩, a7)
def prgR (s : ByteArray) : Rd Prg := fun a => match tabR s a with
  | .error e => .error e
  | .ok (p, a1) => match manyR s 1 6 a1 with
    | .error e => .error e
    | .ok (k, a2) => match loopR (blkR s) k.toNat [] a2 with
      | .error e => .error e
      | .ok (blocks, a3) => .ok ({ p with blocks := blocks }, a3)
/-- The program of a text. -/
def decF (s : ByteArray) : Except Int Prg := match prgR s 0 with
  | .error e => .error e
  | .ok (p, a) => if a < s.size then .error 10 else if rightF p = true then .ok p else .error 1

theorem getGo_ok (s : ByteArray) (a : Nat) : ∀ d k m n to e, 0 ≤ m → getGo s a d k m = (n, to, e) → (e = 0 ∧ 0 ≤ n ∧ n ≤ 2147483647 ∧ (a + k : Int) < to ∧ (a + k ≤ s.size → to ≤ s.size)) ∨ (e ≠ 0 ∧ n = 0 ∧ to = 0 ∧ 0 ≤ e ∧ e ≤ 12)
  | 0, k, m, n, to, e, _, h => by
    simp [getGo] at h; right; omega
  | d + 1, k, m, n, to, e, hm, h => by
    have hp : (0 : Int) ≤ (by8 s (a + k) % 128 : Nat) * 128 ^ k := Int.mul_nonneg (by omega) (Int.le_of_lt (Int.pow_pos (by decide)))
    unfold getGo at h
    split at h
    · simp at h; right; omega
    split at h
    · rcases getGo_ok s a d (k + 1) _ n to e (by omega) h with ⟨h1, h2, h3, h4, h5⟩ | h1
      · left; refine ⟨h1, h2, h3, by omega, fun hk => h5 (by omega)⟩
      · exact .inr h1
    split at h
    · simp at h; right; omega
    split at h
    · simp at h; right; omega
    · simp only [Prod.mk.injEq] at h
      obtain ⟨rfl, rfl, rfl⟩ := h
      left; refine ⟨rfl, by omega, by omega, by omega, fun hk => by omega⟩

theorem nextR_ok {s : ByteArray} {a : Nat} {n : Int} {a' : Nat} (h : nextR s a = .ok (n, a')) (ha : a ≤ s.size) : getF s a = (n, (a' : Int), 0) ∧ 0 ≤ n ∧ n ≤ 2147483647 ∧ a < a' ∧ a' ≤ s.size := by
  unfold nextR at h
  rcases hg : getF s a with ⟨n', to, e⟩
  rw [hg] at h
  simp only at h
  split at h
  · rename_i he
    simp only [Except.ok.injEq, Prod.mk.injEq] at h
    obtain ⟨rfl, rfl⟩ := h
    rcases getGo_ok s a 5 0 0 _ _ _ (by omega) hg with ⟨h1, h2, h3, h4, h5⟩ | ⟨h1, _⟩
    · have := h5 (by omega)
      refine ⟨by rw [he]; congr 2; omega, h2, h3, by omega, by omega⟩
    · exact absurd he h1
  · cases h
theorem nextR_err {s : ByteArray} {a : Nat} {e : Int} (h : nextR s a = .error e) : getF s a = (0, 0, e) ∧ e ≠ 0 ∧ 0 ≤ e ∧ e ≤ 12 := by
  unfold nextR at h
  rcases hg : getF s a with ⟨n', to, e'⟩
  rw [hg] at h
  simp only at h
  split at h
  · cases h
  · rename_i he
    simp only [Except.error.injEq] at h
    subst h
    rcases getGo_ok s a 5 0 0 _ _ _ (by omega) hg with ⟨h1, _⟩ | ⟨h1, h2, h3, h4⟩
    · exact absurd h1 he
    · subst h2 h3; exact ⟨rfl, h1, h4⟩
end Go.Proofs.Ytlekjobicpnafaa.Cd
