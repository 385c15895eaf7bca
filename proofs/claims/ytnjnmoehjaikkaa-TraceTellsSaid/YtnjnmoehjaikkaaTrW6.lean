/- The judge: may. Condition: the judge and the events lie in memory. -/
import Derived.Test.YtnjnmoehjaikkaaTrW5
namespace Go.Proofs.Ytnjnmoehjaikkaa.Tr
open Go Go.RowKit Base
open Go.ChangeMaps (setBlock)
set_option linter.unusedVariables false
set_option linter.unusedSimpArgs false

section
variable {w : World} {b : Jb} {caps : List Int} {s : JS}

set_option maxHeartbeats 4000000 in
theorem may_no (h : J w b caps s) {A : Option Addr} {l : List Ev} {lc : Nat} (hE : EvsAt w A l) (hll : l.length ≤ 140737488351232) (hcl : caps.length ≤ 4) (e : Ev) (hl : ∀ g, 0 ≤ g → g < 8 → 0 ≤ s.last g ∧ s.last g ≤ 140737488351232) (hr : rightB caps s l e = false) :
    Calls Try.prog 35 #[.pointer (some ⟨b.bj, 0, none⟩), .slice A l.length lc, e.val] w fun r w' => r = .returned (.bool false) ∧ ∃ x : Ext w, w' = w.ext x := by
  unfold Ev.val
  obtain ⟨w1, x1, hw1, ⟨y, hy⟩, hsz, f0, f1, f2, f3, f4⟩ := boxEv' w e
  have J1 : J w1 b caps s := hy ▸ h.ext y
  have E1 : EvsAt w1 A l := hy ▸ hE.ext y
  have hy' : ∃ y : Ext w, w1 = w.ext y := ⟨y, hy⟩
  clear hy
  go_enter Try.func35, Try.ntmps35
  go_wp2_with (go_at_call 60; refine (calls_ext (right_is (J1.ext _) (E1.ext _) hll hcl e hl hr)).mono ?_; rintro _ _ ⟨rfl, z, rfl⟩)
  go_ret
  exact ⟨rfl, ex_ext _ hy'⟩

theorem J.upd_last {n : Nat} {e : Ev} {w' : World} (h : J w' b caps { s with count := fun k o => if e.kind = k ∧ e.obj = o then s.count e.kind e.obj + 1 else s.count k o, last := fun g => if e.g = g then (n : Int) + 1 else s.last g })
    (h0 : e.kind ≠ 0) (h13 : e.kind ≠ 13 ∨ s.first e.obj ≠ 0) : J w' b caps (s.upd n e) := by
  have : s.upd n e = { s with count := fun k o => if e.kind = k ∧ e.obj = o then s.count e.kind e.obj + 1 else s.count k o, last := fun g => if e.g = g then (n : Int) + 1 else s.last g } := by
    unfold JS.upd
    congr 1
    · rw [if_neg h0]
    · funext o
      rw [if_neg]
      rintro ⟨h1, h2, _⟩
      rcases h13 with h | h
      · exact h h1
      · exact h h2
  rw [this]; exact h
theorem J.upd_begun {n : Nat} {e : Ev} {w' : World} (h : J w' b caps { count := fun k o => if e.kind = k ∧ e.obj = o then s.count e.kind e.obj + 1 else s.count k o, last := fun g => if e.g = g then (n : Int) + 1 else s.last g, begun := s.begun + 1, first := s.first })
    (h0 : e.kind = 0) : J w' b caps (s.upd n e) := by
  have : s.upd n e = { count := fun k o => if e.kind = k ∧ e.obj = o then s.count e.kind e.obj + 1 else s.count k o, last := fun g => if e.g = g then (n : Int) + 1 else s.last g, begun := s.begun + 1, first := s.first } := by
    unfold JS.upd
    congr 1
    · rw [if_pos h0]
    · funext o
      rw [if_neg]
      rintro ⟨h1, _⟩
      omega
  rw [this]; exact h
theorem J.upd_first {n : Nat} {e : Ev} {w' : World} (h : J w' b caps { s with count := fun k o => if e.kind = k ∧ e.obj = o then s.count e.kind e.obj + 1 else s.count k o, last := fun g => if e.g = g then (n : Int) + 1 else s.last g, first := fun o => if e.obj = o then e.g + 1 else s.first o })
    (h0 : e.kind = 13) (hf : s.first e.obj = 0) : J w' b caps (s.upd n e) := by
  have : s.upd n e = { s with count := fun k o => if e.kind = k ∧ e.obj = o then s.count e.kind e.obj + 1 else s.count k o, last := fun g => if e.g = g then (n : Int) + 1 else s.last g, first := fun o => if e.obj = o then e.g + 1 else s.first o } := by
    unfold JS.upd
    congr 1
    · rw [if_neg (by omega)]
    · funext o
      simp [h0, hf]
  rw [this]; exact h

theorem lt_of_cell {w : World} {k o : Nat} {v : Value} (h : w.cell? ⟨k, o, none⟩ = some v) : k < w.heap.size := by
  cases hb : w.heap[k]? with
  | none => simp [World.cell?, hb] at h
  | some ob => exact heap_lt hb

set_option maxHeartbeats 8000000 in
theorem may_yes (h : J w b caps s) {A : Option Addr} {l : List Ev} {lc : Nat} (hE : EvsAt w A l) (hll : l.length ≤ 140737488351232) (hcl : caps.length ≤ 4) (e : Ev) (hS : Small s l.length) (hr : rightB caps s l e = true) :
    Calls Try.prog 35 #[.pointer (some ⟨b.bj, 0, none⟩), .slice A l.length lc, e.val] w fun r w' => r = .returned (.bool true) ∧ J w' b caps (s.upd l.length e) ∧ Kept3 w w' b := by
  have hg : 0 ≤ e.g ∧ e.g < 8 := by
    have hr' := hr
    simp only [rightB, inB, Bool.and_eq_true, decide_eq_true_eq] at hr'
    omega
  have hl : ∀ g, 0 ≤ g → g < 8 → 0 ≤ s.last g ∧ s.last g ≤ 140737488351232 := fun g _ _ => by have := hS.last g; omega
  obtain ⟨hg, hg'⟩ := hg
  have hbj := heap_lt h.hj
  unfold Ev.val
  obtain ⟨w1, x1, hw1, ⟨y, hy⟩, hsz, f0, f1, f2, f3, f4⟩ := boxEv' w e
  have J1 : J w1 b caps s := hy ▸ h.ext y
  have E1 : EvsAt w1 A l := hy ▸ hE.ext y
  have hy' : ∃ y : Ext w, w1 = w.ext y := ⟨y, hy⟩
  clear hy
  go_enter Try.func35, Try.ntmps35
  go_wp2_with (go_at_call 60; refine (calls_ext (right_is (J1.ext _) (E1.ext _) hll hcl e hl hr)).mono ?_; rintro _ _ ⟨rfl, z, rfl⟩)
  have KW : Kept3 w (w1.ext z) b := Kept3.of_ext b (ex_ext z hy')
  have JW : J (w1.ext z) b caps s := J1.ext z
  have g1 := J1.c1 z
  have k1 := f1 z
  have k2 := f2 z
  have k0 := f0 z
  clear f0 f1 f2 f3 f4 hw1 hy' E1 J1
  obtain ⟨lm, hm, hv⟩ := JW.count
  generalize w1.ext z = W at *
  have hmd : MapAt key2 W.drew b.bc lm := hm.of_block rfl
  have hlook := hmd.lookup ok2 Try.underlying52 (zero3 _) (e.kind, e.obj)
  obtain ⟨W1, c, hme, ht1, hlook1, hst⟩ := hmd.entry ok2 Try.underlying52 zero3 (e.kind, e.obj)
  rw [hv] at hlook hlook1 hme
  obtain ⟨W2, hes, hm2, ht2⟩ := hst (.int .i64 (s.count e.kind e.obj + 1))
  clear hst
  have hcb := hS.count e.kind e.obj
  unfold key2 at hlook hlook1 hme
  simp only at hlook hlook1 hme
  unfold goInt at hme hes
  go_region
  have J2 : J W2 b caps { s with count := fun k o => if e.kind = k ∧ e.obj = o then s.count e.kind e.obj + 1 else s.count k o } := by
    refine JW.drew.turned_c ht2 hm2 fun k o => ?_
    rw [mget_mput]
    by_cases hk : e.kind = k ∧ e.obj = o
    · rw [if_pos (by rw [hk.1, hk.2]), if_pos hk]; rfl
    · rw [if_neg (by intro e1; exact hk ⟨congrArg Prod.fst e1, congrArg Prod.snd e1⟩), if_neg hk]; exact hv k o
  have K2 : Kept3 w W2 b := KW.drew.turned_c ht2
  have nb := ne_map hm k1
  have q0 : W2.cell? ⟨w.heap.size, 0, none⟩ = some (.int .i64 e.g) := by rw [ht2.cell (by exact nb)]; exact k0
  have q1 : W2.cell? ⟨w.heap.size, 1, none⟩ = some (.int .i64 e.kind) := by rw [ht2.cell (by exact nb)]; exact k1
  have q2 : W2.cell? ⟨w.heap.size, 2, none⟩ = some (.int .i64 e.obj) := by rw [ht2.cell (by exact nb)]; exact k2
  have c2 : W2.cell? ⟨b.bj, 2 + e.g.toNat, none⟩ = some (.int .i64 (s.last e.g)) := J2.clast hg hg' default
  have z2 : W2.frozen? ⟨b.bj, 2 + e.g.toNat, none⟩ = false := frozen_of J2.hj _
  clear hme hes hlook hlook1 ht1 hm2 ht2 hmd hm hv g1 k0 k1 k2 KW JW
  go_wp2
  go_region
  have J3 := (J2.set_last hg hg' ((l.length : Int) + 1)).drew
  have K3 : Kept3 w ((W2.setCell ⟨b.bj, 2 + e.g.toNat, none⟩ (.int .i64 ((l.length : Int) + 1))).drew) b := (K2.set_j _ _).drew
  have hne : w.heap.size ≠ b.bj := by omega
  have p0 : (W2.setCell ⟨b.bj, 2 + e.g.toNat, none⟩ (.int .i64 ((l.length : Int) + 1))).drew.cell? ⟨w.heap.size, 0, none⟩ = some (.int .i64 e.g) := by
    exact (World.cell?_of_block (w := W2) (Below.heap_setCell W2 ⟨b.bj, 2 + e.g.toNat, none⟩ _ w.heap.size hne)).trans q0
  have p1 : (W2.setCell ⟨b.bj, 2 + e.g.toNat, none⟩ (.int .i64 ((l.length : Int) + 1))).drew.cell? ⟨w.heap.size, 1, none⟩ = some (.int .i64 e.kind) := by
    exact (World.cell?_of_block (w := W2) (Below.heap_setCell W2 ⟨b.bj, 2 + e.g.toNat, none⟩ _ w.heap.size hne)).trans q1
  have p2 : (W2.setCell ⟨b.bj, 2 + e.g.toNat, none⟩ (.int .i64 ((l.length : Int) + 1))).drew.cell? ⟨w.heap.size, 2, none⟩ = some (.int .i64 e.obj) := by
    exact (World.cell?_of_block (w := W2) (Below.heap_setCell W2 ⟨b.bj, 2 + e.g.toNat, none⟩ _ w.heap.size hne)).trans q2
  clear q0 q1 q2 c2 z2 K2 J2
  generalize (W2.setCell ⟨b.bj, 2 + e.g.toNat, none⟩ (.int .i64 ((l.length : Int) + 1))).drew = W3 at *
  have hbb := hS.begun
  cases h0 : (e.kind == 0)
  · cases h13 : (e.kind == 13)
    · go_wp2
      go_ret
      exact ⟨rfl, J3.upd_last (by simpa using h0) (.inl (by simpa using h13)), K3⟩
    · have g11 := J3.c11
      have glf := J3.lookF e.obj
      have lt3 : w.heap.size < W3.heap.size := lt_of_cell p2
      have r0 : ∀ x : Ext W3, (W3.ext x).cell? ⟨w.heap.size, 0, none⟩ = some (.int .i64 e.g) := fun x => by rw [World.ext_cell W3 x (by exact lt3)]; exact p0
      have r2 : ∀ x : Ext W3, (W3.ext x).cell? ⟨w.heap.size, 2, none⟩ = some (.int .i64 e.obj) := fun x => by rw [World.ext_cell W3 x (by exact lt3)]; exact p2
      cases hf : (s.first e.obj == 0)
      · go_wp2
        refine region_ext (by kernel_rfl) (by kernel_rfl) ?_
        repeat (go_big_quiet_step (fail))
        refine wpQuiet_nil ?_
        rintro _ ⟨x, rfl⟩
        go_wp2
        go_ret
        exact ⟨rfl, (J3.ext x).upd_last (by simpa using h0) (.inr (by simpa using hf)), K3.trans (Kept3.of_ext b ⟨x, rfl⟩)⟩
      · go_wp2
        refine region_ext (by kernel_rfl) (by kernel_rfl) ?_
        repeat (go_big_quiet_step (fail))
        refine wpQuiet_nil ?_
        rintro _ ⟨x, rfl⟩
        have J4 := J3.ext x
        have K4 := K3.trans (Kept3.of_ext b ⟨x, rfl⟩)
        have m11 := g11 x
        have m0 := r0 x
        have m2 := r2 x
        clear g11 glf r0 r2 p0 p1 p2 J3 K3
        generalize W3.ext x = W4 at *
        obtain ⟨lf, hmf, hvf⟩ := J4.first
        have hmd : MapAt key1 W4.drew b.bf lf := hmf.of_block rfl
        obtain ⟨W5, hup, hm5, ht5⟩ := hmd.store ok1 Try.underlying53 e.obj (.int .i64 (e.g + 1))
        unfold key1 at hup
        go_wp2
        go_region
        have J5 : J W5 b caps { s with count := fun k o => if e.kind = k ∧ e.obj = o then s.count e.kind e.obj + 1 else s.count k o, last := fun g => if e.g = g then (l.length : Int) + 1 else s.last g, first := fun o => if e.obj = o then e.g + 1 else s.first o } := by
          refine J4.drew.turned_f ht5 hm5 fun o => ?_
          rw [mget_mput]
          by_cases hk : e.obj = o
          · rw [if_pos hk, if_pos hk]; rfl
          · rw [if_neg hk, if_neg hk]; exact hvf o
        have K5 : Kept3 w W5 b := K4.drew.turned_f ht5
        clear hup hm5 ht5 hmd hmf hvf m11 m0 m2 J4 K4
        go_wp2
        go_ret
        exact ⟨rfl, J5.upd_first (by simpa using h13) (by simpa using hf), K5⟩
  · have g10 : W3.cell? ⟨b.bj, 10, none⟩ = some (.int .i64 s.begun) := J3.c10 default
    have z10 : W3.frozen? ⟨b.bj, 10, none⟩ = false := frozen_of J3.hj _
    go_wp2
    go_ret
    exact ⟨rfl, (J3.set_begun (s.begun + 1)).upd_begun (by simpa using h0), K3.set_j _ _⟩
end
end Go.Proofs.Ytnjnmoehjaikkaa.Tr
