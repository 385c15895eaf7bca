/- What came in, opened: rows of ints, rows of events. No condition. -/
import Derived.Test.YtnjnmoehjaikkaaTrModel
import Derived.Deep.Slices
import Derived.SizedLaws
import Derived.ProofKit
namespace Go.Proofs.Ytnjnmoehjaikkaa.Tr
open Go Go.RowKit Base
open Go.ChangeShapes Go.WideShapes
set_option linter.unusedVariables false
set_option linter.unusedSimpArgs false

section
variable {H : Type} {enc : TypeId × Value → H} {W : World} {held : Bool} {sp : Nat → Bool}

/-- How long a slice is, by its datum. -/
def LenOf (d : DataW H) (n : Nat) : Prop := (d = .nil ∧ n = 0) ∨ ∃ E S, d = .slice E S ∧ n = E.length

theorem sized_len {P : Program} {ts : List TypeId} {ds : List (DataW H)} {j : Nat} {t e : TypeId} {d : DataW H} {n : Nat} (hsz : (DataW.weightsEach P ts ds).all (· ≤ reachBytes) = true) (ht : ts[j]? = some t) (hd : ds[j]? = some d)
    (hu : P.underlying t = some (.slice e)) (hl : LenOf d n) {B : Nat} (hB : P.bytesOf e = B) : n * B ≤ 140737488351232 := by
  rcases hl with ⟨rfl, rfl⟩ | ⟨E, S, rfl, rfl⟩
  · simp
  · have z := sized_slice hsz ht hd hu
    rw [hB] at z
    exact Nat.le_trans (Nat.mul_le_mul_right _ (Nat.le_add_right _ _)) z

theorem cell_lt {w : World} {a : Addr} {v : Value} (h : w.cell? a = some v) : a.block < w.heap.size := by
  cases hb : w.heap[a.block]? with
  | none => simp [World.cell?, hb] at h
  | some ob => exact heap_lt hb

theorem add_block (a : Addr) (n : Nat) : (a.add n).block = a.block := by unfold Addr.add; split <;> rfl

/-- A slice of ints. -/
theorem open_intsAt {a : Option Addr} {len cap : Nat} {d : DataW H} {ps : List MemPlace} (h : DataW.Trod enc Try.prog W 0 sp held 22 (.slice a len cap) d ps) :
    ∃ xs : List Int, xs.length = len ∧ len ≤ cap ∧ IntsAt W a xs ∧ LenOf d len ∧ ∀ n ∈ xs, (Lit.int .i64 n).wf = true := by
  obtain ⟨fuel, hf⟩ := h
  rcases open_ints Try.underlying22 Try.underlying3 (by kernel_rfl) hf with ⟨hcs, hx⟩ | ⟨x, l, c, zs, hcs, _, hl, _, hz, hx, hcell, hwz⟩
  · simp [Value.cells] at hcs
    obtain ⟨rfl, rfl, rfl⟩ := hcs
    obtain ⟨rfl, _⟩ := Prod.mk.inj hx
    exact ⟨[], rfl, Nat.le_refl _, fun i hi => by simp at hi, .inl ⟨rfl, rfl⟩, by simp⟩
  · simp [Value.cells] at hcs
    obtain ⟨rfl, rfl, rfl⟩ := hcs
    obtain ⟨rfl, _⟩ := Prod.mk.inj hx
    have hlen : len ≤ zs.length := by rw [hz]; split <;> omega
    have ht : (zs.take len).length = len := by rw [List.length_take]; omega
    refine ⟨zs.take len, ht, hl, fun i hi => ?_, .inr ⟨_, _, rfl, by simp [lits]; omega⟩, fun n hn => hwz n (List.mem_of_mem_take hn)⟩
    rw [ht] at hi
    have hc := hcell i (by omega)
    refine ⟨x, rfl, by have := cell_lt hc; rwa [add_block] at this, ?_⟩
    rw [hc]
    simp [List.getD_eq_getElem?_getD, List.getElem?_take, hi]

theorem len5 {α : Type} {cs : List α} (h : cs.length = 5) : ∃ c0 c1 c2 c3 c4, cs = [c0, c1, c2, c3, c4] := by
  rcases cs with _ | ⟨c0, _ | ⟨c1, _ | ⟨c2, _ | ⟨c3, _ | ⟨c4, _ | ⟨c5, cs⟩⟩⟩⟩⟩⟩ <;> simp at h
  exact ⟨c0, c1, c2, c3, c4, rfl⟩

theorem fld {P : Program} {base : Nat} {fs : Array Field} {cs : List Value} {xs : List (DataW H × List MemPlace)} {m : Nat} (hf : ∀ (i : Nat) (f : Field), fs[i]? = some f → DataW.trod enc P W base sp held m f.type ((cs.drop f.offset).take (P.cellsOf f.type)) = xs[i]?)
    (i : Nat) (f : Field) (hi : fs[i]? = some f) (T : TypeId) (hT : f.type = T) (o : Nat) (ho : f.offset = o) {n : Nat} (hn : P.cellsOf T = n) : DataW.trod enc P W base sp held m T ((cs.drop o).take n) = xs[i]? := by
  subst hT ho hn; exact hf i f hi

/-- An event's cells. -/
theorem open_ev {n : Nat} {cs : List Value} {x : DataW H × List MemPlace} (h : DataW.trod enc Try.prog W 0 sp held n 61 cs = some x) :
    ∃ e : Ev, cs = [.int .i64 e.g, .int .i64 e.kind, .int .i64 e.obj, .int .i64 e.no, .int .i64 e.start] ∧
      (Lit.int .i64 e.g).wf = true ∧ (Lit.int .i64 e.kind).wf = true ∧ (Lit.int .i64 e.obj).wf = true ∧ (Lit.int .i64 e.no).wf = true ∧ (Lit.int .i64 e.start).wf = true := by
  obtain ⟨xs, m, _, rfl, hl, hlen, hf⟩ := DataW.trod_struct Try.underlying61 h
  have hc5 : Try.prog.cellsOf 61 = 5 := by kernel_rfl
  have hc1 : Try.prog.cellsOf 3 = 1 := by kernel_rfl
  rw [hc5] at hl
  obtain ⟨y0, y1, y2, y3, y4, rfl⟩ := len5 (show xs.length = 5 from hlen)
  obtain ⟨c0, c1, c2, c3, c4, rfl⟩ := len5 hl
  have f0 : DataW.trod enc Try.prog W 0 sp held m 3 [c0] = some y0 := fld hf 0 _ rfl 3 rfl 0 rfl hc1
  have f1 : DataW.trod enc Try.prog W 0 sp held m 3 [c1] = some y1 := fld hf 1 _ rfl 3 rfl 1 rfl hc1
  have f2 : DataW.trod enc Try.prog W 0 sp held m 3 [c2] = some y2 := fld hf 2 _ rfl 3 rfl 2 rfl hc1
  have f3 : DataW.trod enc Try.prog W 0 sp held m 3 [c3] = some y3 := fld hf 3 _ rfl 3 rfl 3 rfl hc1
  have f4 : DataW.trod enc Try.prog W 0 sp held m 3 [c4] = some y4 := fld hf 4 _ rfl 3 rfl 4 rfl hc1
  obtain ⟨g0, e0, _, w0⟩ := DataW.trod_int Try.underlying3 f0
  obtain ⟨g1, e1, _, w1⟩ := DataW.trod_int Try.underlying3 f1
  obtain ⟨g2, e2, _, w2⟩ := DataW.trod_int Try.underlying3 f2
  obtain ⟨g3, e3, _, w3⟩ := DataW.trod_int Try.underlying3 f3
  obtain ⟨g4, e4, _, w4⟩ := DataW.trod_int Try.underlying3 f4
  simp only [List.cons.injEq, and_true] at e0 e1 e2 e3 e4
  subst e0 e1 e2 e3 e4
  exact ⟨⟨g0, g1, g2, g3, g4⟩, rfl, w0, w1, w2, w3, w4⟩

def Ev.wf (e : Ev) : Prop := (Lit.int .i64 e.g).wf = true ∧ (Lit.int .i64 e.kind).wf = true ∧ (Lit.int .i64 e.obj).wf = true ∧ (Lit.int .i64 e.no).wf = true ∧ (Lit.int .i64 e.start).wf = true

/-- A slice of events. -/
theorem open_evsAt {a : Option Addr} {len cap : Nat} {d : DataW H} {ps : List MemPlace} (h : DataW.Trod enc Try.prog W 0 sp held 23 (.slice a len cap) d ps) :
    ∃ l : List Ev, l.length = len ∧ len ≤ cap ∧ EvsAt W a l ∧ LenOf d len ∧ ∀ e ∈ l, e.wf := by
  obtain ⟨fuel, hf⟩ := h
  rcases Go.Deep.open_slice Try.underlying23 hf with ⟨hcs, hx⟩ | ⟨x, l, c, m, n, D, Pl, hcs, _, hl, _, hm, hx, hel⟩
  · simp [Value.cells] at hcs
    obtain ⟨rfl, rfl, rfl⟩ := hcs
    obtain ⟨rfl, _⟩ := Prod.mk.inj hx
    exact ⟨[], rfl, Nat.le_refl _, fun i e hi => by simp at hi, .inl ⟨rfl, rfl⟩, by simp⟩
  · simp [Value.cells] at hcs
    obtain ⟨rfl, rfl, rfl⟩ := hcs
    obtain ⟨rfl, _⟩ := Prod.mk.inj hx
    have hlm : len ≤ m := by rw [hm]; split <;> omega
    have hc5 : Try.prog.cellsOf 61 = 5 := by kernel_rfl
    have each : ∀ i, i < len → ∃ e : Ev, e.wf ∧ ∀ j v, [Value.int .i64 e.g, .int .i64 e.kind, .int .i64 e.obj, .int .i64 e.no, .int .i64 e.start][j]? = some v → W.cell? (x.add (i * 5 + j)) = some v := fun i hi => by
      obtain ⟨cs', hc, ht⟩ := hel i (by omega)
      rw [hc5] at hc
      obtain ⟨_, hl5, hce⟩ := World.cells?_some hc
      obtain ⟨e, rfl, hw⟩ := open_ev ht
      refine ⟨e, hw, fun j v hj => ?_⟩
      have hj5 : j < 5 := by have := (List.getElem?_eq_some_iff.1 hj).1; simpa using this
      have := hce j hj5
      rw [Go.Deep.add_add] at this
      rw [this]; exact hj
    obtain ⟨F, hF⟩ : ∃ F : Nat → Ev, ∀ i, i < len → (F i).wf ∧ ∀ j v, [Value.int .i64 (F i).g, .int .i64 (F i).kind, .int .i64 (F i).obj, .int .i64 (F i).no, .int .i64 (F i).start][j]? = some v → W.cell? (x.add (i * 5 + j)) = some v :=
      Go.Deep.choose_lt each
    refine ⟨(List.range len).map F, by simp, hl, ?_, .inr ⟨_, _, rfl, by simp⟩, ?_⟩
    · intro i e hi
      have hil : i < len := by have := (List.getElem?_eq_some_iff.1 hi).1; simpa using this
      have he : F i = e := by simpa [hil] using hi
      subst he
      have hcell := (hF i hil).2
      have h0 := (hF 0 (by omega)).2 0 _ rfl
      have hx0 : x = ⟨x.block, x.off, none⟩ := by
        have h0' : W.cell? x = some (.int .i64 (F 0).g) := by
          have e : x.add (0 * 5 + 0) = x := if_pos rfl
          rwa [e] at h0
        clear h0
        obtain ⟨xb, xo, xs⟩ := x
        cases xs with
        | none => rfl
        | some q =>
          exfalso
          unfold World.cell? at h0'
          split at h0'
          · rw [if_pos (show (some q).isSome = true from rfl)] at h0'; cases h0'
          · cases h0'
      have sp2 : ∀ k, x.add k = ⟨x.block, x.off + k, none⟩ := fun k => by
        unfold Addr.add
        split
        · rename_i h; subst h; exact hx0
        · rfl
      have g0 := hcell 0 _ rfl
      have g1 := hcell 1 _ rfl
      have g2 := hcell 2 _ rfl
      have g3 := hcell 3 _ rfl
      have g4 := hcell 4 _ rfl
      rw [sp2] at g0 g1 g2 g3 g4
      exact ⟨x.block, x.off, by rw [← hx0], cell_lt (a := ⟨x.block, _, none⟩) g0, g0, g1, g2, g3, g4⟩
    · intro e he
      obtain ⟨i, hi, rfl⟩ := List.mem_map.1 he
      exact (hF i (by simpa using hi)).1
end
end Go.Proofs.Ytnjnmoehjaikkaa.Tr
