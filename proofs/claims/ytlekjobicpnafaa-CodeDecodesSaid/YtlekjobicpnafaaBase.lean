/- Words for walks whose calls make new memory and leave the old memory alone; maps by what they hold. No condition. -/
import Derived.Below
import Derived.Deep.Draws
import Derived.WalkKit
import Derived.KernelRfl
import Derived.RowKit3
import Derived.Deep.QuietTactic
import Derived.BigQuiet
import Derived.OwnWalk
import Derived.Carry
import Derived.Outline
import Derived.StillTailTactics
namespace Go.Proofs.Ytlekjobicpnafaa.Base
open Go Go.RowKit

/-- A later world in which all that was there in w is as it was. -/
structure Ext (w : World) where
  W : World
  h : Below w.heap.size w W

instance {w : World} : Inhabited (Ext w) := ⟨⟨w, Below.refl _ _⟩⟩

end Go.Proofs.Ytlekjobicpnafaa.Base

namespace Go
open Go.Proofs.Ytlekjobicpnafaa.Base Go.RowKit
def World.ext (w : World) (x : Ext w) : World := x.W
theorem World.ext_below (w : World) (x : Ext w) : Below w.heap.size w (w.ext x) := x.h
theorem World.ext_cell (w : World) (x : Ext w) {a : Addr} (h : a.block < w.heap.size) : (w.ext x).cell? a = w.cell? a := x.h.cell h
theorem World.ext_frozen (w : World) (x : Ext w) {a : Addr} (h : a.block < w.heap.size) : (w.ext x).frozen? a = w.frozen? a := x.h.frozen h
theorem World.ext_heap (w : World) (x : Ext w) {b : Nat} (h : b < w.heap.size) : (w.ext x).heap[b]? = w.heap[b]? := x.h.block _ h
theorem World.ext_size (w : World) (x : Ext w) : w.heap.size ≤ (w.ext x).heap.size := x.h.size
theorem World.ext_lt (w : World) (x : Ext w) {b : Nat} (h : b < w.heap.size) : b < (w.ext x).heap.size := Nat.lt_of_lt_of_le h x.h.size
end Go

namespace Go.Proofs.Ytlekjobicpnafaa.Base
open Go Go.RowKit

def Ext.trans {w : World} (x : Ext w) (y : Ext (w.ext x)) : Ext w := ⟨y.W, Below.trans x.h (y.h.mono x.h.size)⟩
theorem ext_ext (w : World) (x : Ext w) (y : Ext (w.ext x)) : (w.ext x).ext y = w.ext (x.trans y) := rfl
def Ext.drew {w : World} (x : Ext w) : Ext w := ⟨x.W.drew, x.h.drew⟩
theorem ext_drew (w : World) (x : Ext w) : (w.ext x).drew = w.ext x.drew := rfl
theorem below_drewN' {w W : World} (n : Nat) (h : Below w.heap.size w W) : Below w.heap.size w (W.drewN n) := ⟨h.os, h.tape, h.output, h.size, h.block⟩
def Ext.drewN {w : World} (x : Ext w) (n : Nat) : Ext w := ⟨x.W.drewN n, below_drewN' n x.h⟩
theorem ext_drewN (w : World) (x : Ext w) (n : Nat) : (w.ext x).drewN n = w.ext (x.drewN n) := rfl
theorem Below.ex {w w' : World} (h : Below w.heap.size w w') : ∃ x : Ext w, w' = w.ext x := ⟨⟨w', h⟩, rfl⟩
theorem ex_below {w w' : World} (h : ∃ x : Ext w, w' = w.ext x) : Below w.heap.size w w' := by obtain ⟨x, rfl⟩ := h; exact x.h
theorem ex_refl (w : World) : ∃ x : Ext w, w = w.ext x := ⟨⟨w, Below.refl _ _⟩, rfl⟩
theorem ex_drew {w w' : World} (h : ∃ x : Ext w, w' = w.ext x) : ∃ x : Ext w, w'.drew = w.ext x := by obtain ⟨x, rfl⟩ := h; exact ⟨x.drew, rfl⟩
theorem ex_drewN {w w' : World} (n : Nat) (h : ∃ x : Ext w, w' = w.ext x) : ∃ x : Ext w, w'.drewN n = w.ext x := by obtain ⟨x, rfl⟩ := h; exact ⟨x.drewN n, rfl⟩
theorem ex_alloc {w w' : World} (o : Obj) (h : ∃ x : Ext w, w' = w.ext x) : ∃ x : Ext w, w'.alloc o = w.ext x := Below.ex ((ex_below h).alloc (ex_below h).size o)
theorem ex_ext {w w' : World} (y : Ext w') (h : ∃ x : Ext w, w' = w.ext x) : ∃ x : Ext w, w'.ext y = w.ext x := by obtain ⟨x, rfl⟩ := h; exact ⟨x.trans y, rfl⟩
theorem ex_trans {w w' w'' : World} (h : ∃ x : Ext w, w' = w.ext x) (k : ∃ x : Ext w', w'' = w'.ext x) : ∃ x : Ext w, w'' = w.ext x := by obtain ⟨x, rfl⟩ := h; obtain ⟨y, rfl⟩ := k; exact ⟨x.trans y, rfl⟩

/-- A region that draws its order, over all later worlds. -/
theorem region_ext {P : Program} {id : Nat} {Q : Exit → Act → World → Prop} {a : Act} {w : World} {l : List Oper} (hm : P.follows .mixedOrders = true) (hB : Region.lexB .any l.toArray = true)
    (h : wpQuiet P l.toArray (fun w' => ∃ x : Ext w, w' = w.ext x) (fun a' => ∀ w', (∃ x : Ext w, w' = w.ext x) → Q .normal a' w') l a) : (Code.region id l.toArray true).wp P Q a w :=
  wp_region_quiet (C := fun w' => ∃ x : Ext w, w' = w.ext x) hm hB ⟨⟨_, (Below.refl _ w).drew⟩, rfl⟩ (by simpa using h)

/-- .. from a later world on. -/
theorem region_at {P : Program} {id : Nat} {Q : Exit → Act → World → Prop} {a : Act} {w : World} {x : Ext w} {l : List Oper} (hm : P.follows .mixedOrders = true) (hB : Region.lexB .any l.toArray = true)
    (h : wpQuiet P l.toArray (fun w' => ∃ x : Ext w, w' = w.ext x) (fun a' => ∀ w', (∃ x : Ext w, w' = w.ext x) → Q .normal a' w') l a) : (Code.region id l.toArray true).wp P Q a (w.ext x) :=
  wp_region_quiet (C := fun w' => ∃ x : Ext w, w' = w.ext x) hm hB ⟨x.drew, rfl⟩ (by simpa using h)

theorem still_of_quiet {P : Program} {ops : Array Oper} {w : World} {Q : Act → Prop} : ∀ (l : List Oper) (a : Act), wpQuiet P ops (fun w' => w' = w) Q l a → wpStill P ops w Q l a
  | [], _, h => h
  | o :: l, a, h => by
    unfold wpQuiet at h
    unfold wpStill
    split at h
    · rename_i hw
      rw [if_pos hw]
      obtain ⟨v, h1, h2⟩ := h
      have h3 := h1 w rfl
      unfold Oper.quietAt at h3
      unfold Oper.still
      generalize (execOp a.eval o).run P w = r at *
      cases r with
      | ok n w' =>
        cases n <;> simp only [Oper.quietUpon] at h3 <;> simp only [Oper.stillUpon]
        case value u => obtain ⟨e1, e2⟩ := h3; exact ⟨e1, by rw [e2]; exact still_of_quiet l _ h2⟩
        case skip => obtain ⟨e1, e2⟩ := h3; exact ⟨e1, by rw [← e2]; exact still_of_quiet l _ h2⟩
        case enter f args => exact ⟨h3.1, v, h3.2, still_of_quiet l _ h2⟩
      | halt x w' => simp only [Oper.quietUpon] at h3
    · rename_i hw
      rw [if_neg hw]
      exact still_of_quiet l _ h

/-- A region that draws its order and ends in operations whose order is forced. -/
theorem region_tail {P : Program} {id : Nat} {Q : Exit → Act → World → Prop} {a : Act} {w : World} {l : List Oper} (n : Nat) (hm : P.follows .mixedOrders = true) (hB : Region.lexTailB .any l.toArray n = true)
    (h : wpQuiet P l.toArray (fun w' => w' = w.drew) (fun a' => wpList P l.toArray Q (l.drop n) a' w.drew) (l.take n) a) : (Code.region id l.toArray true).wp P Q a w :=
  wp_region_still_tail n hm hB (still_of_quiet _ _ h)

/-- A callee's contract, met in a later world. -/
theorem calls_ext {P : Program} {f : FuncId} {args : Array Value} {w : World} {x : Ext w} {v : Value}
    (h : Calls P f args (w.ext x) fun e w' => e = .returned v ∧ ∃ y : Ext (w.ext x), w' = (w.ext x).ext y) : Calls P f args (w.ext x) fun e w'' => e = .returned v ∧ ∃ y : Ext w, w'' = w.ext y :=
  h.mono fun _ _ ⟨he, y, hy⟩ => ⟨he, x.trans y, hy⟩
/-- .. whatever it returns. -/
theorem calls_ext2 {P : Program} {f : FuncId} {args : Array Value} {w : World} {x : Ext w} {R : Ending → Prop}
    (h : Calls P f args (w.ext x) fun e w' => R e ∧ ∃ y : Ext (w.ext x), w' = (w.ext x).ext y) : Calls P f args (w.ext x) fun e w'' => R e ∧ ∃ y : Ext w, w'' = w.ext y :=
  h.mono fun _ _ ⟨he, y, hy⟩ => ⟨he, x.trans y, hy⟩
theorem calls_ext_below {P : Program} {f : FuncId} {args : Array Value} {w : World} {x : Ext w} {v : Value}
    (h : Calls P f args (w.ext x) fun e w' => e = .returned v ∧ Below (w.ext x).heap.size (w.ext x) w') : Calls P f args (w.ext x) fun e w'' => e = .returned v ∧ ∃ y : Ext w, w'' = w.ext y :=
  calls_ext (h.mono fun _ _ ⟨he, hb⟩ => ⟨he, Below.ex hb⟩)

end Go.Proofs.Ytlekjobicpnafaa.Base
