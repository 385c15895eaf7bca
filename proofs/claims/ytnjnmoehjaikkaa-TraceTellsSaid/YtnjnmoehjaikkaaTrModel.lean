/- What trace's judge knows, as plain numbers, and the judge in memory. No condition. -/
import Derived.Test.YtnjnmoehjaikkaaTrKeys
namespace Go.Proofs.Ytnjnmoehjaikkaa.Tr
open Go Go.RowKit Base

structure Ev where
  g : Int
  kind : Int
  obj : Int
  no : Int
  start : Int
  deriving DecidableEq, Inhabited

def Ev.cells (e : Ev) : Array Value := #[.int .i64 e.g, .int .i64 e.kind, .int .i64 e.obj, .int .i64 e.no, .int .i64 e.start]
def Ev.val (e : Ev) : Value := .agg #[.int .i64 e.g, .int .i64 e.kind, .int .i64 e.obj, .int .i64 e.no, .int .i64 e.start]

def rdI (xs : List Int) (i : Int) : Int := xs.getD i.toNat 0

/-- A row of ints in memory. -/
def IntsAt (w : World) (A : Option Addr) (xs : List Int) : Prop := ∀ i, i < xs.length → ∃ a, A = some a ∧ a.block < w.heap.size ∧ w.cell? (a.add i) = some (.int .i64 (xs.getD i 0))

theorem IntsAt.ext {w : World} {A : Option Addr} {xs : List Int} (h : IntsAt w A xs) (x : Ext w) : IntsAt (w.ext x) A xs := fun i hi => by
  obtain ⟨a, ha, hb, hc⟩ := h i hi
  refine ⟨a, ha, World.ext_lt w x hb, ?_⟩
  rw [World.ext_cell w x]
  · exact hc
  · show (a.add i).block < _
    unfold Addr.add; split <;> exact hb

/-- A row of events in memory. -/
def EvsAt (w : World) (A : Option Addr) (l : List Ev) : Prop := ∀ i e, l[i]? = some e → ∃ b o, A = some ⟨b, o, none⟩ ∧ b < w.heap.size ∧
  w.cell? ⟨b, o + i * 5, none⟩ = some (.int .i64 e.g) ∧ w.cell? ⟨b, o + i * 5 + 1, none⟩ = some (.int .i64 e.kind) ∧ w.cell? ⟨b, o + i * 5 + 2, none⟩ = some (.int .i64 e.obj) ∧
  w.cell? ⟨b, o + i * 5 + 3, none⟩ = some (.int .i64 e.no) ∧ w.cell? ⟨b, o + i * 5 + 4, none⟩ = some (.int .i64 e.start)

theorem EvsAt.ext {w : World} {A : Option Addr} {l : List Ev} (h : EvsAt w A l) (x : Ext w) : EvsAt (w.ext x) A l := fun i e hi => by
  obtain ⟨b, o, ha, hb, h0, h1, h2, h3, h4⟩ := h i e hi
  refine ⟨b, o, ha, World.ext_lt w x hb, ?_, ?_, ?_, ?_, ?_⟩ <;> (rw [World.ext_cell w x (by exact hb)]; assumption)

/-- What the judge knows. -/
structure JS where
  count : Int → Int → Int
  last : Int → Int
  begun : Int
  first : Int → Int

/-- Where the judge lies. -/
structure Jb where
  bj : Nat
  bc : Nat
  bf : Nat
  bo : Nat
  bt : Nat
  bx : Nat
  bh : Nat
  ca : Option Addr
  cc : Nat

def originsL : List (Int × Value) := [(3, .int .i64 2), (5, .int .i64 4), (6, .int .i64 4), (9, .int .i64 8), (11, .int .i64 10), (15, .int .i64 13)]
def cl (f : Nat) (b : Nat) : Value := .func (.func f) #[] #[.pointer (some ⟨b, 0, none⟩)]
def tableL (b : Jb) : List (Int × Value) := [(1, cl 50 b.bx), (3, cl 51 b.bx), (5, cl 53 b.bx), (6, cl 54 b.bx), (7, cl 55 b.bx), (11, cl 56 b.bh), (12, cl 57 b.bh), (14, cl 58 b.bx), (15, cl 59 b.bx)]

def jcells (b : Jb) (caps : List Int) (s : JS) : Array Value := #[.slice b.ca caps.length b.cc, .map (some b.bc), .int .i64 (s.last 0), .int .i64 (s.last 1), .int .i64 (s.last 2), .int .i64 (s.last 3), .int .i64 (s.last 4), .int .i64 (s.last 5),
  .int .i64 (s.last 6), .int .i64 (s.last 7), .int .i64 s.begun, .map (some b.bf), .map (some b.bo), .map (some b.bt)]

/-- The judge in memory. -/
structure J (w : World) (b : Jb) (caps : List Int) (s : JS) : Prop where
  hj : w.heap[b.bj]? = some (.cells (jcells b caps s) 58 (0, 0))
  hx : w.heap[b.bx]? = some (.cells #[.pointer (some ⟨b.bj, 0, none⟩)] 51 (0, 0))
  hh : w.heap[b.bh]? = some (.cells #[cl 48 b.bx] 78 (0, 0))
  capsAt : IntsAt w b.ca caps
  count : ∃ l, MapAt key2 w b.bc l ∧ ∀ k o, (mget l (k, o)).getD (.int .i64 0) = .int .i64 (s.count k o)
  first : ∃ l, MapAt key1 w b.bf l ∧ ∀ o, (mget l o).getD (.int .i64 0) = .int .i64 (s.first o)
  origins : MapAt key1 w b.bo originsL
  table : MapAt key1 w b.bt (tableL b)
  ne : b.bc ≠ b.bf ∧ b.bc ≠ b.bo ∧ b.bc ≠ b.bt ∧ b.bf ≠ b.bo ∧ b.bf ≠ b.bt
  capsNe : caps ≠ [] → ∀ a, b.ca = some a → a.block ≠ b.bj

theorem heap_lt {w : World} {b : Nat} {o : Obj} (h : w.heap[b]? = some o) : b < w.heap.size := (Array.getElem?_eq_some_iff.1 h).1

section
variable {w : World} {b : Jb} {caps : List Int} {s : JS}
theorem J.ext (h : J w b caps s) (x : Ext w) : J (w.ext x) b caps s where
  hj := by rw [World.ext_heap w x (heap_lt h.hj)]; exact h.hj
  hx := by rw [World.ext_heap w x (heap_lt h.hx)]; exact h.hx
  hh := by rw [World.ext_heap w x (heap_lt h.hh)]; exact h.hh
  capsAt := h.capsAt.ext x
  count := by obtain ⟨l, h1, h2⟩ := h.count; exact ⟨l, h1.ext x, h2⟩
  first := by obtain ⟨l, h1, h2⟩ := h.first; exact ⟨l, h1.ext x, h2⟩
  origins := h.origins.ext x
  table := h.table.ext x
  ne := h.ne
  capsNe := h.capsNe

theorem cell_of {w : World} {b : Nat} {cs : Array Value} {T : TypeId} {f : Nat × Nat} (h : w.heap[b]? = some (.cells cs T f)) (i : Nat) : w.cell? ⟨b, i, none⟩ = cs[i]? := by
  simp [World.cell?, h]
theorem frozen_of {w : World} {b : Nat} {cs : Array Value} {T : TypeId} (h : w.heap[b]? = some (.cells cs T (0, 0))) (i : Nat) : w.frozen? ⟨b, i, none⟩ = false := by
  simp [World.frozen?, h]

theorem J.c0 (h : J w b caps s) (x : Ext w) : (w.ext x).cell? ⟨b.bj, 0, none⟩ = some (.slice b.ca caps.length b.cc) := by rw [cell_of (h.ext x).hj]; rfl
theorem J.c1 (h : J w b caps s) (x : Ext w) : (w.ext x).cell? ⟨b.bj, 1, none⟩ = some (.map (some b.bc)) := by rw [cell_of (h.ext x).hj]; rfl
theorem J.c10 (h : J w b caps s) (x : Ext w) : (w.ext x).cell? ⟨b.bj, 10, none⟩ = some (.int .i64 s.begun) := by rw [cell_of (h.ext x).hj]; rfl
theorem J.c11 (h : J w b caps s) (x : Ext w) : (w.ext x).cell? ⟨b.bj, 11, none⟩ = some (.map (some b.bf)) := by rw [cell_of (h.ext x).hj]; rfl
theorem J.c12 (h : J w b caps s) (x : Ext w) : (w.ext x).cell? ⟨b.bj, 12, none⟩ = some (.map (some b.bo)) := by rw [cell_of (h.ext x).hj]; rfl
theorem J.c13 (h : J w b caps s) (x : Ext w) : (w.ext x).cell? ⟨b.bj, 13, none⟩ = some (.map (some b.bt)) := by rw [cell_of (h.ext x).hj]; rfl
theorem J.clast (h : J w b caps s) {g : Int} (h0 : 0 ≤ g) (h1 : g < 8) (x : Ext w) : (w.ext x).cell? ⟨b.bj, 2 + g.toNat, none⟩ = some (.int .i64 (s.last g)) := by
  rw [cell_of (h.ext x).hj]
  have : g = 0 ∨ g = 1 ∨ g = 2 ∨ g = 3 ∨ g = 4 ∨ g = 5 ∨ g = 6 ∨ g = 7 := by omega
  rcases this with rfl | rfl | rfl | rfl | rfl | rfl | rfl | rfl <;> rfl
theorem J.cx (h : J w b caps s) (x : Ext w) : (w.ext x).cell? ⟨b.bx, 0, none⟩ = some (.pointer (some ⟨b.bj, 0, none⟩)) := by rw [cell_of (h.ext x).hx]; rfl
theorem J.ch (h : J w b caps s) (x : Ext w) : (w.ext x).cell? ⟨b.bh, 0, none⟩ = some (cl 48 b.bx) := by rw [cell_of (h.ext x).hh]; rfl
theorem J.look (h : J w b caps s) (k o : Int) (x : Ext w) : (Instr.lookup 52 (.map (some b.bc)) (.agg #[.int .i64 k, .int .i64 o]) false).run Try.prog (w.ext x) = .ok (.int .i64 (s.count k o)) (w.ext x) := by
  obtain ⟨l, h1, h2⟩ := (h.ext x).count
  have := h1.lookup ok2 Try.underlying52 (zero3 _) (k, o)
  rw [h2] at this
  exact this
theorem J.lookF (h : J w b caps s) (o : Int) (x : Ext w) : (Instr.lookup 53 (.map (some b.bf)) (.int .i64 o) false).run Try.prog (w.ext x) = .ok (.int .i64 (s.first o)) (w.ext x) := by
  obtain ⟨l, h1, h2⟩ := (h.ext x).first
  have := h1.lookup ok1 Try.underlying53 (zero3 _) o
  rw [h2] at this
  exact this

theorem J.capAt (h : J w b caps s) {i : Int} (h0 : 0 ≤ i) (h1 : i < caps.length) : ∃ bc oc, b.ca = some ⟨bc, oc, none⟩ ∧ ∀ x : Ext w, (w.ext x).cell? ⟨bc, oc + i.toNat, none⟩ = some (.int .i64 (rdI caps i)) := by
  obtain ⟨i, rfl⟩ := Int.eq_ofNat_of_zero_le h0
  have hi : i < caps.length := by omega
  simp only [rdI, Int.toNat_natCast]
  obtain ⟨⟨bc, oc, sp⟩, ha, hb, hc⟩ := h.capsAt i hi
  have hsp : sp = none := by
    cases sp with
    | none => rfl
    | some q =>
      exfalso
      by_cases h0 : i = 0
      · subst h0; simp [Addr.add, World.cell?] at hc; split at hc <;> simp at hc
      · obtain ⟨a0, ha0, _, hc0⟩ := h.capsAt 0 (by omega)
        rw [ha] at ha0
        obtain rfl := Option.some.inj ha0
        simp [Addr.add, World.cell?] at hc0; split at hc0 <;> simp at hc0
  subst hsp
  refine ⟨bc, oc, ha, fun x => ?_⟩
  rw [World.ext_cell w x (by exact hb)]
  have : (⟨bc, oc, none⟩ : Addr).add i = ⟨bc, oc + i, none⟩ := by unfold Addr.add; split <;> simp_all
  rw [← this]; exact hc

/-- The kind that begins one. -/
def originOf (k : Int) : Option Int := if k = 3 then some 2 else if k = 5 then some 4 else if k = 6 then some 4 else if k = 9 then some 8 else if k = 11 then some 10 else if k = 15 then some 13 else none

theorem get_origins (k : Int) : mget originsL k = (originOf k).map (Value.int .i64) := by
  unfold originsL originOf
  by_cases h1 : k = 3
  · subst h1; rfl
  by_cases h2 : k = 5
  · subst h2; rfl
  by_cases h3 : k = 6
  · subst h3; rfl
  by_cases h4 : k = 9
  · subst h4; rfl
  by_cases h5 : k = 11
  · subst h5; rfl
  by_cases h6 : k = 15
  · subst h6; rfl
  simp [mget, h1, h2, h3, h4, h5, h6, Ne.symm h1, Ne.symm h2, Ne.symm h3, Ne.symm h4, Ne.symm h5, Ne.symm h6]

theorem J.lookO (h : J w b caps s) {k : Int} {o : Option Int} (ho : originOf k = o) (x : Ext w) : (Instr.lookup 53 (.map (some b.bo)) (.int .i64 k) true).run Try.prog (w.ext x) = .ok (.tuple #[.int .i64 (o.getD 0), .bool o.isSome]) (w.ext x) := by
  subst ho
  have := (h.ext x).origins.lookup_ok ok1 Try.underlying53 (zero3 _) k
  rw [get_origins] at this
  refine Eq.trans this ?_
  cases originOf k <;> rfl

/-- The events' cells at a place. -/
theorem EvsAt.at {A : Option Addr} {l : List Ev} (h : EvsAt w A l) {i : Int} {e : Ev} (he : l[i.toNat]? = some e) : ∃ eb eo, A = some ⟨eb, eo, none⟩ ∧ eb < w.heap.size ∧
    (∀ x : Ext w, (w.ext x).cell? ⟨eb, eo + i.toNat * 5, none⟩ = some (.int .i64 e.g)) ∧ (∀ x : Ext w, (w.ext x).cell? ⟨eb, eo + i.toNat * 5 + 1, none⟩ = some (.int .i64 e.kind)) ∧ (∀ x : Ext w, (w.ext x).cell? ⟨eb, eo + i.toNat * 5 + 2, none⟩ = some (.int .i64 e.obj)) ∧
    (∀ x : Ext w, (w.ext x).cell? ⟨eb, eo + i.toNat * 5 + 3, none⟩ = some (.int .i64 e.no)) ∧ (∀ x : Ext w, (w.ext x).cell? ⟨eb, eo + i.toNat * 5 + 4, none⟩ = some (.int .i64 e.start)) := by
  obtain ⟨eb, eo, hA, hb, h0, h1, h2, h3, h4⟩ := h _ _ he
  refine ⟨eb, eo, hA, hb, ?_, ?_, ?_, ?_, ?_⟩ <;> (intro x; rw [World.ext_cell w x (by exact hb)]; assumption)

/-- An event that a call has laid in a block of its own. -/
theorem boxEv (w : World) (e : Ev) : ∃ (w1 : World) (x1 : Ext w1), w.alloc (.cells #[.int .i64 e.g, .int .i64 e.kind, .int .i64 e.obj, .int .i64 e.no, .int .i64 e.start] 61) = w1.ext x1 ∧ (∃ y : Ext w, w1 = w.ext y) ∧
    (∀ x : Ext w1, (w1.ext x).cell? ⟨w.heap.size, 0, none⟩ = some (.int .i64 e.g)) ∧ (∀ x : Ext w1, (w1.ext x).cell? ⟨w.heap.size, 1, none⟩ = some (.int .i64 e.kind)) ∧ (∀ x : Ext w1, (w1.ext x).cell? ⟨w.heap.size, 2, none⟩ = some (.int .i64 e.obj)) ∧
    (∀ x : Ext w1, (w1.ext x).cell? ⟨w.heap.size, 3, none⟩ = some (.int .i64 e.no)) ∧ (∀ x : Ext w1, (w1.ext x).cell? ⟨w.heap.size, 4, none⟩ = some (.int .i64 e.start)) := by
  have hh : (w.alloc (.cells e.cells 61)).heap[w.heap.size]? = some (.cells e.cells 61 (0, 0)) := by
    show (w.heap.push _)[w.heap.size]? = _
    simp
  have hs : w.heap.size < (w.alloc (.cells e.cells 61)).heap.size := by simp
  refine ⟨w.alloc (.cells e.cells 61), default, rfl, ex_alloc _ (ex_refl w), ?_, ?_, ?_, ?_, ?_⟩ <;>
    (intro x; rw [World.ext_cell _ x (by exact hs), cell_of hh]; rfl)
/-- .. and that it is a block of that world. -/
theorem boxEv' (w : World) (e : Ev) : ∃ (w1 : World) (x1 : Ext w1), w.alloc (.cells #[.int .i64 e.g, .int .i64 e.kind, .int .i64 e.obj, .int .i64 e.no, .int .i64 e.start] 61) = w1.ext x1 ∧ (∃ y : Ext w, w1 = w.ext y) ∧ w.heap.size < w1.heap.size ∧
    (∀ x : Ext w1, (w1.ext x).cell? ⟨w.heap.size, 0, none⟩ = some (.int .i64 e.g)) ∧ (∀ x : Ext w1, (w1.ext x).cell? ⟨w.heap.size, 1, none⟩ = some (.int .i64 e.kind)) ∧ (∀ x : Ext w1, (w1.ext x).cell? ⟨w.heap.size, 2, none⟩ = some (.int .i64 e.obj)) ∧
    (∀ x : Ext w1, (w1.ext x).cell? ⟨w.heap.size, 3, none⟩ = some (.int .i64 e.no)) ∧ (∀ x : Ext w1, (w1.ext x).cell? ⟨w.heap.size, 4, none⟩ = some (.int .i64 e.start)) := by
  have hh : (w.alloc (.cells e.cells 61)).heap[w.heap.size]? = some (.cells e.cells 61 (0, 0)) := by
    show (w.heap.push _)[w.heap.size]? = _
    simp
  have hs : w.heap.size < (w.alloc (.cells e.cells 61)).heap.size := by simp
  refine ⟨w.alloc (.cells e.cells 61), default, rfl, ex_alloc _ (ex_refl w), hs, ?_, ?_, ?_, ?_, ?_⟩ <;>
    (intro x; rw [World.ext_cell _ x (by exact hs), cell_of hh]; rfl)
end
end Go.Proofs.Ytnjnmoehjaikkaa.Tr
