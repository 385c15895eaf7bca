/- plaitlaw07.alive is true. No condition. -/
import Derived.Test.YtlekjobicpnafaaCdRDecW
namespace Go.Proofs.Ytlekjobicpnafaa.Cd
open Go Go.RowKit Base Pg
set_option linter.unusedVariables false
set_option linter.unusedSimpArgs false

theorem dec_ok {w : World} {p : Prg} {r : Ending} {w' : World} (h : DecPost w (.ok p) r w') : ∃ cA sA bA cc sc bc, r = .returned (.tuple #[.agg #[.slice cA p.caps.length cc, .int .i64 p.mutexes, .int .i64 p.onces, .int .i64 p.vars, .slice sA p.sels.length sc, .slice bA p.blocks.length bc], .int .i64 0]) ∧ PrgAt (Old w') w' ⟨cA, sA, bA, cc, sc, bc⟩ p ∧ ∃ y : Ext w, w' = w.ext y := by
  obtain ⟨hx, ⟨cA, sA, bA, cc, sc, bc⟩, h1, h2⟩ := h
  exact ⟨cA, sA, bA, cc, sc, bc, h1, h2.mono (fun b hb => ⟨hb.2, rfl⟩), hx⟩
theorem dec_err {w : World} {e : Int} {r : Ending} {w' : World} (h : DecPost w (.error e) r w') : r = .returned (.tuple #[.agg #[.slice none 0 0, .int .i64 0, .int .i64 0, .int .i64 0, .slice none 0 0, .slice none 0 0], .int .i64 e]) ∧ ∃ y : Ext w, w' = w.ext y := ⟨h.2, h.1⟩

def leastS : ByteArray := ⟨#[1, 1, 0, 0, 0, 0, 1, 1, 1, 0]⟩
def leastP : Prg := ⟨[0], 0, 0, 0, [], [[⟨1, 0, 0⟩]]⟩
theorem least_dec : decF leastS = .ok leastP := by kernel_rfl

theorem least_facts {w : World} {cA sA bA : Option Addr} {cc sc bc : Nat} (h : PrgAt (Old w) w ⟨cA, sA, bA, cc, sc, bc⟩ leastP) : ∃ b1 o1 b2 o2 b3 o3 c3, cA = some ⟨b1, o1, none⟩ ∧ bA = some ⟨b2, o2, none⟩ ∧ (∀ x : Ext w, (w.ext x).cell? ⟨b1, o1, none⟩ = some (.int .i64 0)) ∧
    (∀ x : Ext w, (w.ext x).cell? ⟨b2, o2, none⟩ = some (.slice (some ⟨b3, o3, none⟩) 1 c3)) ∧ (∀ x : Ext w, (w.ext x).cell? ⟨b3, o3, none⟩ = some (.int .i64 1)) ∧ (∀ x : Ext w, (w.ext x).cell? ⟨b3, o3 + 1, none⟩ = some (.int .i64 0)) ∧ (∀ x : Ext w, (w.ext x).cell? ⟨b3, o3 + 2, none⟩ = some (.int .i64 0)) ∧ 1 ≤ cc ∧ 1 ≤ bc ∧ 1 ≤ c3 := by
  obtain ⟨b1, o1, h1, _⟩ := h.caps.addr (by decide)
  obtain ⟨b2, o2, h2, _⟩ := h.blocks.addr (by decide)
  simp only at h1 h2
  subst h1 h2
  obtain ⟨cs, _, he, hc⟩ := RowAt.get (xs := leastP.caps) h.caps (i := 0) (by decide)
  have hc0 := hc 0 (.int .i64 0) (by rw [show cs = [.int .i64 0] from he]; rfl)
  obtain ⟨ds, _, hd, hc2⟩ := RowAt.get (xs := leastP.blocks) h.blocks (i := 0) (by decide)
  obtain ⟨A, c3, hds, hl3, _, hr⟩ := hd
  have hc20 := hc2 0 (.slice A 1 c3) (by rw [hds]; rfl)
  obtain ⟨b3, o3, hA, _⟩ := hr.addr (by decide)
  subst hA
  obtain ⟨es, _, hes, hc3⟩ := RowAt.get (xs := el leastP.blocks 0) hr (i := 0) (by decide)
  have q0 := hc3 0 (.int .i64 1) (by rw [show es = [.int .i64 1, .int .i64 0, .int .i64 0] from hes]; rfl)
  have q1 := hc3 1 (.int .i64 0) (by rw [show es = [.int .i64 1, .int .i64 0, .int .i64 0] from hes]; rfl)
  have q2 := hc3 2 (.int .i64 0) (by rw [show es = [.int .i64 1, .int .i64 0, .int .i64 0] from hes]; rfl)
  exact ⟨b1, o1, b2, o2, b3, o3, c3, rfl, rfl, by simpa using hc0, by simpa using hc20, by simpa using q0, by simpa using q1, by simpa using q2, h.cc, h.bc, hl3⟩

set_option maxRecDepth 100000 in
set_option maxHeartbeats 1000000 in
theorem alive_any (w : World) : Calls Try.prog 10 #[] w fun r w' => r = .returned (.bool true) ∧ ∃ y : Ext w, w' = w.ext y := by
  have hD : ∀ W, Calls Try.prog 8 #[.string ⟨#[1, 1, 0, 0, 0, 0, 1, 1, 1, 0]⟩] W fun r w' => ∃ cA sA bA cc sc bc, r = .returned (.tuple #[.agg #[.slice cA 1 cc, .int .i64 0, .int .i64 0, .int .i64 0, .slice sA 0 sc, .slice bA 1 bc], .int .i64 0]) ∧ PrgAt (Old w') w' ⟨cA, sA, bA, cc, sc, bc⟩ leastP ∧ ∃ y : Ext W, w' = W.ext y :=
    fun W => (decode_any W (by decide) least_dec).mono fun r w' h => dec_ok h
  go_enter Try.func10, Try.ntmps10
  go_wp2_with (go_at_call 8; (with_reducible refine (hD _).mono ?_); rintro _ w' ⟨cA, sA, bA, cc, sc, bc, rfl, hP, hy⟩; obtain ⟨b1, o1, b2, o2, b3, o3, c3, rfl, rfl, q1, q2, q3, q4, q5, m1, m2, m3⟩ := least_facts hP; obtain ⟨w1, x1, hw1, hy1, hsz, f0, f1, f2, f3, f4, f5⟩ := boxP w' leastP ⟨some ⟨b1, o1, none⟩, sA, some ⟨b2, o2, none⟩, cc, sc, bc⟩; have hw2 : w'.alloc (.cells #[.slice (some ⟨b1, o1, none⟩) 1 cc, .int .i64 0, .int .i64 0, .int .i64 0, .slice sA 0 sc, .slice (some ⟨b2, o2, none⟩) 1 bc] 26) = w1.ext x1 := hw1; clear hw1; have hxx := hy1; obtain ⟨y1, rfl⟩ := hy1; have q1' := q1 (y1.trans x1); have q2' := q2 (y1.trans x1); have q3' := q3 (y1.trans x1); have q4' := q4 (y1.trans x1); have q5' := q5 (y1.trans x1); simp only [← ext_ext] at q1' q2' q3' q4' q5'; have f0' : ((w'.ext y1).ext x1).cell? ⟨w'.heap.size, 0, none⟩ = some (.slice (some ⟨b1, o1, none⟩) 1 cc) := f0 x1; have f5' : ((w'.ext y1).ext x1).cell? ⟨w'.heap.size, 5, none⟩ = some (.slice (some ⟨b2, o2, none⟩) 1 bc) := f5 x1; clear f0 f1 f2 f3 f4 f5 q1 q2 q3 q4 q5 hP)
  go_ret
  refine ⟨rfl, ?_⟩
  exact ex_ext x1 (ex_ext y1 hy)
end Go.Proofs.Ytlekjobicpnafaa.Cd
