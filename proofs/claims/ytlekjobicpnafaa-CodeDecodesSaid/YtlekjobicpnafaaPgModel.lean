/- Programs: what they are, and how they lie in memory. No condition. -/
import Derived.Test.YtlekjobicpnafaaRep
import Derived.Test.YtlekjobicpnafaaProg
import Derived.Lib.Hide
namespace Go.Proofs.Ytlekjobicpnafaa.Pg
open Go Go.RowKit Base
set_option linter.unusedVariables false
set_option linter.unusedSimpArgs false

structure Cse where
  send : Bool
  chan : Int
  deriving DecidableEq, Inhabited
structure Sel where
  cases : List Cse
  dflt : Bool
  deriving DecidableEq, Inhabited
structure Ins where
  op : Int
  a : Int
  b : Int
  deriving DecidableEq, Inhabited
structure Prg where
  caps : List Int
  mutexes : Int
  onces : Int
  vars : Int
  sels : List Sel
  blocks : List (List Ins)
  deriving DecidableEq, Inhabited

def IntE : Enc Int := fun _ _ n cs => cs = [.int .i64 n]
def CseE : Enc Cse := fun _ _ c cs => cs = [.bool c.send, .int .i64 c.chan]
def InsE : Enc Ins := fun _ _ i cs => cs = [.int .i64 i.op, .int .i64 i.a, .int .i64 i.b]
def SelE : Enc Sel := fun S w s cs => ∃ A cap, cs = [.slice A s.cases.length cap, .bool s.dflt] ∧ s.cases.length ≤ cap ∧ s.cases.length ≤ 140737488351232 ∧ RowAt 2 CseE S w A s.cases
def BlkE : Enc (List Ins) := fun S w l cs => ∃ A cap, cs = [.slice A l.length cap] ∧ l.length ≤ cap ∧ l.length ≤ 140737488351232 ∧ RowAt 3 InsE S w A l
theorem IntE.mono : Enc.Mono IntE := fun _ _ _ _ _ _ _ h => h
theorem CseE.mono : Enc.Mono CseE := fun _ _ _ _ _ _ _ h => h
theorem InsE.mono : Enc.Mono InsE := fun _ _ _ _ _ _ _ h => h
theorem SelE.mono : Enc.Mono SelE := fun _ _ _ _ _ _ hag ⟨A, cap, h1, h2, h3, h4⟩ => ⟨A, cap, h1, h2, h3, h4.mono CseE.mono hag⟩
theorem BlkE.mono : Enc.Mono BlkE := fun _ _ _ _ _ _ hag ⟨A, cap, h1, h2, h3, h4⟩ => ⟨A, cap, h1, h2, h3, h4.mono InsE.mono hag⟩

/-- Where a program's rows lie. -/
structure PL where
  cA : Option Addr
  sA : Option Addr
  bA : Option Addr
  cc : Nat
  sc : Nat
  bc : Nat

def Prg.cells (p : Prg) (L : PL) : List Value := [.slice L.cA p.caps.length L.cc, .int .i64 p.mutexes, .int .i64 p.onces, .int .i64 p.vars, .slice L.sA p.sels.length L.sc, .slice L.bA p.blocks.length L.bc]
def Prg.val (p : Prg) (L : PL) : Value := .agg #[.slice L.cA p.caps.length L.cc, .int .i64 p.mutexes, .int .i64 p.onces, .int .i64 p.vars, .slice L.sA p.sels.length L.sc, .slice L.bA p.blocks.length L.bc]

structure PrgAt (S : Nat → Prop) (w : World) (L : PL) (p : Prg) : Prop where
  caps : RowAt 1 IntE S w L.cA p.caps
  sels : RowAt 2 SelE S w L.sA p.sels
  blocks : RowAt 1 BlkE S w L.bA p.blocks
  cc : p.caps.length ≤ L.cc
  sc : p.sels.length ≤ L.sc
  bc : p.blocks.length ≤ L.bc
  cm : p.caps.length ≤ 140737488351232
  sm : p.sels.length ≤ 140737488351232
  bm : p.blocks.length ≤ 140737488351232

theorem PrgAt.mono {S S' : Nat → Prop} {w w' : World} {L : PL} {p : Prg} (hag : Agree S S' w w') (h : PrgAt S w L p) : PrgAt S' w' L p :=
  ⟨h.caps.mono IntE.mono hag, h.sels.mono SelE.mono hag, h.blocks.mono BlkE.mono hag, h.cc, h.sc, h.bc, h.cm, h.sm, h.bm⟩

/-- A program that a call has laid in a block of its own. -/
theorem boxP (w : World) (p : Prg) (L : PL) : ∃ (w1 : World) (x1 : Ext w1), w.alloc (.cells #[.slice L.cA p.caps.length L.cc, .int .i64 p.mutexes, .int .i64 p.onces, .int .i64 p.vars, .slice L.sA p.sels.length L.sc, .slice L.bA p.blocks.length L.bc] 26) = w1.ext x1 ∧
    (∃ y : Ext w, w1 = w.ext y) ∧ w.heap.size < w1.heap.size ∧
    (∀ x : Ext w1, (w1.ext x).cell? ⟨w.heap.size, 0, none⟩ = some (.slice L.cA p.caps.length L.cc)) ∧ (∀ x : Ext w1, (w1.ext x).cell? ⟨w.heap.size, 1, none⟩ = some (.int .i64 p.mutexes)) ∧
    (∀ x : Ext w1, (w1.ext x).cell? ⟨w.heap.size, 2, none⟩ = some (.int .i64 p.onces)) ∧ (∀ x : Ext w1, (w1.ext x).cell? ⟨w.heap.size, 3, none⟩ = some (.int .i64 p.vars)) ∧
    (∀ x : Ext w1, (w1.ext x).cell? ⟨w.heap.size, 4, none⟩ = some (.slice L.sA p.sels.length L.sc)) ∧ (∀ x : Ext w1, (w1.ext x).cell? ⟨w.heap.size, 5, none⟩ = some (.slice L.bA p.blocks.length L.bc)) := by
  obtain ⟨w1, x1, h1, h2, h3, h4⟩ := boxed w (p.cells L) 26
  exact ⟨w1, x1, h1, h2, h3, h4 0 _ rfl, h4 1 _ rfl, h4 2 _ rfl, h4 3 _ rfl, h4 4 _ rfl, h4 5 _ rfl⟩
theorem boxI (w : World) (i : Ins) : ∃ (w1 : World) (x1 : Ext w1), w.alloc (.cells #[.int .i64 i.op, .int .i64 i.a, .int .i64 i.b] 44) = w1.ext x1 ∧ (∃ y : Ext w, w1 = w.ext y) ∧ w.heap.size < w1.heap.size ∧
    (∀ x : Ext w1, (w1.ext x).cell? ⟨w.heap.size, 0, none⟩ = some (.int .i64 i.op)) ∧ (∀ x : Ext w1, (w1.ext x).cell? ⟨w.heap.size, 1, none⟩ = some (.int .i64 i.a)) ∧ (∀ x : Ext w1, (w1.ext x).cell? ⟨w.heap.size, 2, none⟩ = some (.int .i64 i.b)) := by
  obtain ⟨w1, x1, h1, h2, h3, h4⟩ := boxed w [.int .i64 i.op, .int .i64 i.a, .int .i64 i.b] 44
  exact ⟨w1, x1, h1, h2, h3, h4 0 _ rfl, h4 1 _ rfl, h4 2 _ rfl⟩
theorem boxC (w : World) (c : Cse) : ∃ (w1 : World) (x1 : Ext w1), w.alloc (.cells #[.bool c.send, .int .i64 c.chan] 83) = w1.ext x1 ∧ (∃ y : Ext w, w1 = w.ext y) ∧ w.heap.size < w1.heap.size ∧
    (∀ x : Ext w1, (w1.ext x).cell? ⟨w.heap.size, 0, none⟩ = some (.bool c.send)) ∧ (∀ x : Ext w1, (w1.ext x).cell? ⟨w.heap.size, 1, none⟩ = some (.int .i64 c.chan)) := by
  obtain ⟨w1, x1, h1, h2, h3, h4⟩ := boxed w [.bool c.send, .int .i64 c.chan] 83
  exact ⟨w1, x1, h1, h2, h3, h4 0 _ rfl, h4 1 _ rfl⟩
theorem boxS (w : World) (A : Option Addr) (n cap : Nat) (b : Bool) : ∃ (w1 : World) (x1 : Ext w1), w.alloc (.cells #[.slice A n cap, .bool b] 63) = w1.ext x1 ∧ (∃ y : Ext w, w1 = w.ext y) ∧ w.heap.size < w1.heap.size ∧
    (∀ x : Ext w1, (w1.ext x).cell? ⟨w.heap.size, 0, none⟩ = some (.slice A n cap)) ∧ (∀ x : Ext w1, (w1.ext x).cell? ⟨w.heap.size, 1, none⟩ = some (.bool b)) := by
  obtain ⟨w1, x1, h1, h2, h3, h4⟩ := boxed w [.slice A n cap, .bool b] 63
  exact ⟨w1, x1, h1, h2, h3, h4 0 _ rfl, h4 1 _ rfl⟩
end Go.Proofs.Ytlekjobicpnafaa.Pg
