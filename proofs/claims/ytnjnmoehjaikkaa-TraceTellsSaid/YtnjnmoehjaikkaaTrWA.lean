/- trace.Wrong: the first event that can't be a run's. Condition: capacities and events lie in memory. -/
import Derived.Test.YtnjnmoehjaikkaaTrW9
import Derived.StillTailTactics
import Derived.Lib.Hide
namespace Go.Proofs.Ytnjnmoehjaikkaa.Tr
open Go Go.RowKit Base
open Go.ChangeMaps (setBlock)
set_option linter.unusedVariables false
set_option linter.unusedSimpArgs false

def s0 : JS := ⟨fun _ _ => 0, fun _ => 0, 0, fun _ => 0⟩
theorem small0 : Small s0 0 := ⟨fun _ _ => by simp [s0], fun _ => by simp [s0], by simp [s0], fun _ => by simp [s0]⟩

def wrongI (caps : List Int) : List Ev → JS → List Ev → Int
  | _, _, [] => -1
  | done, s, e :: r => if rightB caps s done e = true then wrongI caps (done ++ [e]) (s.upd done.length e) r else done.length

theorem ret_ii {a b c d : Int} (h : a = c) (k : b = d) : Ending.returned (.tuple #[.int .i64 a, .int .i64 b]) = .returned (.tuple #[.int .i64 c, .int .i64 d]) := by rw [h, k]

/-- Capacities that are too many, or out of bounds. -/
theorem wrong_caps (w : World) {cA A : Option Addr} {cc lc : Nat} {caps : List Int} {l : List Ev} (hC : IntsAt w cA caps) (hcl : caps.length ≤ 140737488351232) (h : decide (4 < (caps.length : Int)) = true ∨ caps.any capBad = true) :
    Calls Try.prog 8 #[.slice cA caps.length cc, .slice A l.length lc] w fun r w' => r = .returned (.tuple #[.int .i64 0, .int .i64 1]) ∧ ∃ y : Ext w, w' = w.ext y := by
  cases h4 : decide (4 < (caps.length : Int))
  · have hb : caps.any capBad = true := by rcases h with h | h; · rw [h4] at h; cases h
                                           · exact h
    have hc := capsBad_any w hC hcl hb (c := cc)
    clear h hb
    go_enter Try.func8, Try.ntmps8
    go_wp2_with (go_at_call 30; refine hc.mono ?_; rintro _ _ ⟨rfl, z, rfl⟩)
    go_ret2
    exact ⟨rfl, _, rfl⟩
  · clear h
    go_enter Try.func8, Try.ntmps8
    go_wp2
    go_ret2
    exact ⟨rfl, ex_refl w⟩


theorem EvsAt.below {w w' : World} {A : Option Addr} {l : List Ev} (h : EvsAt w A l) (hB : Below w.heap.size w w') : EvsAt w' A l := by
  obtain ⟨x, rfl⟩ := Below.ex hB
  exact h.ext x
theorem EvsAt.take {w : World} {A : Option Addr} {l : List Ev} (h : EvsAt w A l) (k : Nat) : EvsAt w A (l.take k) := fun i e hi => by
  rw [List.getElem?_take] at hi
  split at hi
  · exact h i e hi
  · cases hi

/-- The judge's cells before its rules are made. -/
def jcells0 (cA : Option Addr) (n cc bc bf bo : Nat) : Array Value := #[.slice cA n cc, .map (some bc), .int .i64 0, .int .i64 0, .int .i64 0, .int .i64 0, .int .i64 0, .int .i64 0, .int .i64 0, .int .i64 0, .int .i64 0, .map (some bf), .map (some bo), .map none]

theorem J_start {w0 W2 W3 : World} {cA : Option Addr} {cc : Nat} {caps : List Int} {bo bx bh bt : Nat} (hC : IntsAt w0 cA caps)
    (hB : Below ((w0.alloc (.map #[] 0)).alloc (.map #[] 0)).heap.size ((w0.alloc (.map #[] 0)).alloc (.map #[] 0)) W2) (mo : MapAt key1 W2 bo originsL) (hbo : ((w0.alloc (.map #[] 0)).alloc (.map #[] 0)).heap.size ≤ bo)
    (hB2 : Below (W2.alloc (.cells (jcells0 cA caps.length cc w0.heap.size (w0.heap.size + 1) bo) 58)).heap.size (W2.alloc (.cells (jcells0 cA caps.length cc w0.heap.size (w0.heap.size + 1) bo) 58)) W3)
    (hx : W3.heap[bx]? = some (.cells #[.pointer (some ⟨W2.heap.size, 0, none⟩)] 51 (0, 0))) (hh : W3.heap[bh]? = some (.cells #[cl 48 bx] 78 (0, 0)))
    (mt : MapAt key1 W3 bt (tableL ⟨W2.heap.size, 0, 0, 0, bt, bx, bh, none, 0⟩))
    (hbx : (W2.alloc (.cells (jcells0 cA caps.length cc w0.heap.size (w0.heap.size + 1) bo) 58)).heap.size ≤ bx) (hbh : (W2.alloc (.cells (jcells0 cA caps.length cc w0.heap.size (w0.heap.size + 1) bo) 58)).heap.size ≤ bh)
    (hbt : (W2.alloc (.cells (jcells0 cA caps.length cc w0.heap.size (w0.heap.size + 1) bo) 58)).heap.size ≤ bt) :
    J (W3.setCell ⟨W2.heap.size, 13, none⟩ (.map (some bt))) ⟨W2.heap.size, w0.heap.size, w0.heap.size + 1, bo, bt, bx, bh, cA, cc⟩ caps s0 ∧
      Below w0.heap.size w0 (W3.setCell ⟨W2.heap.size, 13, none⟩ (.map (some bt))) ∧ w0.heap.size ≤ W2.heap.size := by
  have s1 : ((w0.alloc (.map #[] 0)).alloc (.map #[] 0)).heap.size = w0.heap.size + 2 := by simp
  have s2 : (W2.alloc (.cells (jcells0 cA caps.length cc w0.heap.size (w0.heap.size + 1) bo) 58)).heap.size = W2.heap.size + 1 := by simp
  have hsz := hB.size
  rw [s1] at hB hbo hsz
  rw [s2] at hB2 hbx hbh hbt
  have hj3 : W3.heap[W2.heap.size]? = some (.cells (jcells0 cA caps.length cc w0.heap.size (w0.heap.size + 1) bo) 58 (0, 0)) := by
    rw [hB2.block _ (by omega)]
    show (W2.heap.push _)[W2.heap.size]? = _
    simp
  have old : ∀ i, i < W2.heap.size → (W3.setCell ⟨W2.heap.size, 13, none⟩ (.map (some bt))).heap[i]? = W2.heap[i]? := fun i hi => by
    rw [Below.heap_setCell _ _ _ _ (by show i ≠ W2.heap.size; omega), hB2.block _ (by omega), Below.heap_alloc _ _ _ hi]
  have new : ∀ i, i ≠ W2.heap.size → (W3.setCell ⟨W2.heap.size, 13, none⟩ (.map (some bt))).heap[i]? = W3.heap[i]? := fun i hi => Below.heap_setCell _ _ _ _ (by exact hi)
  have ml := mo.lt
  have hW : Below w0.heap.size w0 (W3.setCell ⟨W2.heap.size, 13, none⟩ (.map (some bt))) := by
    refine Below.setCell ?_ (by show _ ≤ W2.heap.size; omega) _
    refine Below.trans (b := W2) ?_ ?_
    · exact (((Below.refl _ _).alloc (Nat.le_refl _) _).alloc (by simp) _).trans (hB.mono (by omega))
    · exact ((Below.refl _ _).alloc (by omega) _).trans (hB2.mono (by omega))
  refine ⟨⟨?_, ?_, ?_, ?_, ?_, ?_, ?_, ?_, ?_, ?_⟩, hW, by omega⟩
  · show (W3.setCell _ _).heap[W2.heap.size]? = _
    rw [heap_setCell_self hj3]; rfl
  · show (W3.setCell _ _).heap[bx]? = _
    rw [new bx (by omega)]; exact hx
  · show (W3.setCell _ _).heap[bh]? = _
    rw [new bh (by omega)]; exact hh
  · exact hC.keep hW.size (fun a _ ha => hW.block _ ha)
  · refine ⟨[], ?_, fun k o => rfl⟩
    have m1 : MapAt key2 (w0.alloc (.map #[] 0)) w0.heap.size [] := MapAt.made w0
    refine (m1.of_block (w' := W2) ?_).of_block (old _ (by show w0.heap.size < _; omega))
    rw [hB.block _ (by omega), Below.heap_alloc _ _ _ (by simp)]
  · refine ⟨[], ?_, fun o => rfl⟩
    have m1 : MapAt key1 ((w0.alloc (.map #[] 0)).alloc (.map #[] 0)) (w0.heap.size + 1) [] := by
      have := MapAt.made (enc := key1) (w0.alloc (.map #[] 0))
      simpa using this
    refine (m1.of_block (w' := W2) ?_).of_block (old _ (by show w0.heap.size + 1 < _; omega))
    rw [hB.block _ (by omega)]
  · exact mo.of_block (old _ ml)
  · exact mt.of_block (new _ (by omega))
  · refine ⟨?_, ?_, ?_, ?_, ?_⟩ <;> (show _ ≠ _; simp only; omega)
  · intro hx a ha
    obtain ⟨v, hv⟩ := hC.isCell hx ha
    have : a.block < w0.heap.size := by
      cases hb : w0.heap[a.block]? with
      | none => simp [World.cell?, hb] at hv
      | some ob => exact heap_lt hb
    show a.block ≠ W2.heap.size
    omega

theorem J_cell13 {W2 W3 : World} {cA : Option Addr} {n cc bc bf bo : Nat} (hB2 : Below (W2.alloc (.cells (jcells0 cA n cc bc bf bo) 58)).heap.size (W2.alloc (.cells (jcells0 cA n cc bc bf bo) 58)) W3) : W3.cell? ⟨W2.heap.size, 13, none⟩ = some (.map none) := by
  have hj3 : W3.heap[W2.heap.size]? = some (.cells (jcells0 cA n cc bc bf bo) 58 (0, 0)) := by
    rw [hB2.block _ (by simp)]
    show (W2.heap.push _)[W2.heap.size]? = _
    simp
  rw [cell_of hj3]; rfl
theorem J_froz13 {W2 W3 : World} {cA : Option Addr} {n cc bc bf bo : Nat} (hB2 : Below (W2.alloc (.cells (jcells0 cA n cc bc bf bo) 58)).heap.size (W2.alloc (.cells (jcells0 cA n cc bc bf bo) 58)) W3) : W3.frozen? ⟨W2.heap.size, 13, none⟩ = false := by
  have hj3 : W3.heap[W2.heap.size]? = some (.cells (jcells0 cA n cc bc bf bo) 58 (0, 0)) := by
    rw [hB2.block _ (by simp)]
    show (W2.heap.push _)[W2.heap.size]? = _
    simp
  exact frozen_of hj3 _

set_option maxHeartbeats 8000000 in
theorem wrong_ok (w : World) {cA A : Option Addr} {cc lc : Nat} {caps : List Int} {l : List Ev} (hC : IntsAt w cA caps) (hE : EvsAt w A l) (hcl : caps.length ≤ 4) (hb : caps.any capBad = false) (hlc : l.length ≤ lc) (hll : l.length ≤ 140737488351232) :
    Calls Try.prog 8 #[.slice cA caps.length cc, .slice A l.length lc] w fun r w' => r = .returned (.tuple #[.int .i64 (wrongI caps [] s0 l), .int .i64 0]) ∧ ∃ y : Ext w, w' = w.ext y := by
  have h4 : decide (4 < (caps.length : Int)) = false := by simp; omega
  have hc := capsBad_any w hC (by omega) hb (c := cc)
  have hmm := @run_makeMap Try.prog
  go_enter Try.func8, Try.ntmps8
  go_wp2_with (first | (go_at_call 30; refine hc.mono ?_; rintro _ _ ⟨rfl, z, rfl⟩; clear hc) | (go_at_call 33; refine (origins_any _).mono ?_; rintro _ W2 ⟨bo, rfl, mo, hbo, hB⟩) | (go_at_call 34; refine (rules_any _ _).mono ?_; rintro _ W3 ⟨bx, bh, bt, rfl, hx, hh, mt, hbx, hbh, hbt, hB2⟩; obtain ⟨JW0, hW, hle⟩ := J_start (hC.ext z) hB mo hbo hB2 hx hh mt hbx hbh hbt; (have c13 : W3.cell? ⟨W2.heap.size, 13, none⟩ = some (.map none) := J_cell13 hB2); (have z13 : W3.frozen? ⟨W2.heap.size, 13, none⟩ = false := J_froz13 hB2); clear hB mo hbo hB2 hx hh mt hbx hbh hbt))
  have hB1 : Below w.heap.size w (W3.setCell ⟨W2.heap.size, 13, none⟩ (.map (some bt))) := z.h.trans (hW.mono z.h.size)
  have hle' : w.heap.size ≤ W2.heap.size := Nat.le_trans z.h.size hle
  have hzz := World.ext_size w z
  clear c13 z13 hW hle h4
  generalize W3.setCell ⟨W2.heap.size, 13, none⟩ (.map (some bt)) = W at *
  generalize hbb : (⟨W2.heap.size, (w.ext z).heap.size, (w.ext z).heap.size + 1, bo, bt, bx, bh, cA, cc⟩ : Jb) = bb at *
  have e1 : W2.heap.size = bb.bj := by rw [← hbb]
  have nbj : w.heap.size ≤ bb.bj := by rw [← hbb]; exact hle'
  have nbc : w.heap.size ≤ bb.bc := by rw [← hbb]; exact hzz
  have nbf : w.heap.size ≤ bb.bf := by rw [← hbb]; show _ ≤ (w.ext z).heap.size + 1; omega
  rw [e1]
  clear e1 hle' hzz hmm
  go_loopw [29] (fun i wr => ∃ (k : Nat) (s : JS), k ≤ l.length ∧ i = .int .i64 k ∧ J wr bb caps s ∧ Small s k ∧ Below w.heap.size w wr ∧ wrongI caps [] s0 l = wrongI caps (l.take k) s (l.drop k)) (fun i _ => l.length - (intOf i).toNat)
  case atStart => exact ⟨0, s0, Nat.zero_le _, rfl, JW0, small0, hB1, by simp⟩
  case round =>
    obtain ⟨k, s, hk, rfl, Jk, Sk, Bk, hI⟩ := hrel
    clear JW0 hB1
    by_cases hlt : k < l.length
    · have he : l[k]? = some l[k] := List.getElem?_eq_getElem hlt
      have hE1 := hE.below Bk
      obtain ⟨eb, eo, hA, heb, q0, q1, q2, q3, q4⟩ := hE1 k _ he
      generalize l[k] = e at *
      obtain ⟨w1, x1, hw1, ⟨y, hy⟩, hsz, f0, f1, f2, f3, f4⟩ := boxEv' wr e
      have hdrop : l.drop k = e :: l.drop (k + 1) := by
        rw [List.drop_eq_getElem_cons hlt]
        congr 1
        exact Option.some.inj ((List.getElem?_eq_getElem hlt).symm.trans he)
      have htake : l.take (k + 1) = l.take k ++ [e] := by
        rw [List.take_succ_eq_append_getElem hlt]
        congr 2
        exact Option.some.inj ((List.getElem?_eq_getElem hlt).symm.trans he)
      have HD := Lib.hid hdrop
      have HT := Lib.hid htake
      have HI := Lib.hid hI
      have HE := Lib.hid hE1
      have HE0 := Lib.hid hE
      clear hdrop htake hI hE1 hE he hbb hb
      have HY := Lib.hid hy
      clear hy
      subst hA
      have hlk : (l.take k).length = k := by rw [List.length_take]; omega
      have hkc : k ≤ lc := by omega
      cases hr : rightB caps s (l.take k) e
      · have hno : ∀ x : Ext w1, Calls Try.prog 35 #[.pointer (some ⟨bb.bj, 0, none⟩), .slice (some ⟨eb, eo, none⟩) k lc, e.val] (w1.ext x) fun r w' => r = .returned (.bool false) ∧ ∃ z : Ext w1, w' = w1.ext z := fun x => by
          have J1 : J w1 bb caps s := HY.out ▸ Jk.ext y
          have E1 : EvsAt w1 _ l := HY.out ▸ HE.out.ext y
          have hm := may_no (J1.ext x) ((E1.ext x).take k) (lc := lc) (by omega) hcl e (fun g _ _ => by have := Sk.last g; omega) hr
          rw [hlk] at hm
          exact calls_ext hm
        have HR := Lib.hid hr
        clear hr hlk
        go_wp2
        refine region_at (by kernel_rfl) (by kernel_rfl) ?_
        repeat (go_big_quiet_step (exact hno _))
        refine wpQuiet_nil ?_
        rintro _ ⟨x, rfl⟩
        go_wp2
        go_ret2
        refine ⟨ret_ii ?_ rfl, ?_⟩
        · rw [HI.out, HD.out, wrongI, if_neg (by rw [HR.out]; exact Bool.false_ne_true), List.length_take]; omega
        · exact Below.ex (Bk.trans ((HY.out ▸ y.h : Below wr.heap.size wr w1).trans (x.h.mono (by have := World.ext_size wr y; rw [← HY.out] at this; exact this)) |>.mono Bk.size))
      · have hyes : ∀ x : Ext w1, Calls Try.prog 35 #[.pointer (some ⟨bb.bj, 0, none⟩), .slice (some ⟨eb, eo, none⟩) k lc, e.val] (w1.ext x) fun r w' => r = .returned (.bool true) ∧ J w' bb caps (s.upd k e) ∧ Kept3 (w1.ext x) w' bb := fun x => by
          have J1 : J w1 bb caps s := HY.out ▸ Jk.ext y
          have E1 : EvsAt w1 _ l := HY.out ▸ HE.out.ext y
          have hm := may_yes (J1.ext x) ((E1.ext x).take k) (lc := lc) (by omega) hcl e (by rw [hlk]; exact Sk) hr
          rw [hlk] at hm
          exact hm
        have hg : 0 ≤ e.g ∧ e.g < 8 := by
          have hr' := hr
          simp only [rightB, inB, Bool.and_eq_true, decide_eq_true_eq] at hr'
          omega
        have HR := Lib.hid hr
        clear hr
        have g0 := f0 x1
        have g1 := f1 x1
        have g2 := f2 x1
        have g3 := f3 x1
        have g4 := f4 x1
        go_wp2
        refine region_tail 5 (by kernel_rfl) (by kernel_rfl) ?_
        simp only [List.take_succ_cons, List.take_zero, List.drop_succ_cons, List.drop_zero]
        repeat (go_big_quiet_step (fail))
        refine wpQuiet_nil ?_
        rw [ext_drew]
        go_wp2_with (first | ((refine (hyes _).mono ?_); rintro _ W5 ⟨rfl, J5, K5⟩))
        go_roundw
        case rel =>
          refine ⟨k + 1, s.upd k e, by omega, by go_num, J5, Sk.upd hg.1 hg.2, ?_, ?_⟩
          · refine Bk.trans (Below.trans (b := w1.ext x1.drew) ?_ ?_)
            · have h1 : Below wr.heap.size wr w1 := HY.out ▸ y.h
              have h2 : Below w1.heap.size w1 (w1.ext x1.drew) := x1.drew.h
              exact (h1.trans (h2.mono h1.size)).mono Bk.size
            · have hs : w.heap.size ≤ (w1.ext x1.drew).heap.size := by
                have h1 : Below wr.heap.size wr w1 := HY.out ▸ y.h
                have h2 : Below w1.heap.size w1 (w1.ext x1.drew) := x1.drew.h
                exact Nat.le_trans Bk.size (Nat.le_trans h1.size h2.size)
              exact ⟨K5.os, K5.tape, K5.output, K5.size, fun i hi => K5.block i (by omega) (by omega) (by omega) (by omega)⟩
          · rw [HI.out, HD.out, wrongI, if_pos HR.out, HT.out, hlk]
        case measure => simp [intOf]; omega
    · have HI := Lib.hid hI
      clear hI
      go_wp2
      go_ret2
      refine ⟨ret_ii ?_ rfl, Below.ex Bk⟩
      rw [HI.out, List.drop_eq_nil_of_le (by omega)]
      rfl
end Go.Proofs.Ytnjnmoehjaikkaa.Tr
