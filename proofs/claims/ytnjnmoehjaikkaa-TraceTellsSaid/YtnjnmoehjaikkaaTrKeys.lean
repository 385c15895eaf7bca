/- The keys of trace's maps: a struct of two ints (type 81), and ints (type 3). No condition. -/
import Derived.Test.YtnjnmoehjaikkaaProg
import Derived.Test.YtnjnmoehjaikkaaMaps
namespace Go.Proofs.Ytnjnmoehjaikkaa.Tr
open Go Go.RowKit Base

theorem chk3 (n : Nat) (e : Bool) (a : Int) (w : World) : (Instr.checkKey e (n + 1) 3 (.int .i64 a)).run Try.prog w = .ok () w := by
  unfold Instr.checkKey
  simp [run_underlying Try.underlying3, Result.andThen]

def key2 (p : Int × Int) : Value := .agg #[.int .i64 p.1, .int .i64 p.2]
def key1 (n : Int) : Value := .int .i64 n

theorem eqA81 (d : Nat) (w : World) (a b a' b' : Int) :
    (Op.equalIn (d + 2) 81 (.agg #[.int .i64 a, .int .i64 b]) (.agg #[.int .i64 a', .int .i64 b'])).run Try.prog w = .ok ((a == a') && (b == b')) w := by
  unfold Op.equalIn
  simp [go_sem]
  by_cases h : a = a' <;> by_cases h' : b = b' <;> simp [h, h']

theorem chk81 (d : Nat) (e : Bool) (a b : Int) (w : World) : (Instr.checkKey e (d + 2) 81 (.agg #[.int .i64 a, .int .i64 b])).run Try.prog w = .ok () w := by
  unfold Instr.checkKey
  simp [go_sem, chk3]

theorem ok2 : KeyOk Try.prog 81 key2 := by
  refine KeyOk.of_equal Try.underlying81 (fun a b h => ?_) (fun w em a => ?_) (fun w a b => ?_) (fun a b => ?_) (fun a => ?_)
  · simp [key2] at h; exact Prod.ext h.1 h.2
  · exact chk81 9998 em a.1 a.2 w
  · unfold Op.equal Op.maxDepth key2
    rw [show (10000 : Nat) = 9998 + 2 from rfl, eqA81]
    congr 1
    obtain ⟨x, y⟩ := a
    obtain ⟨x', y'⟩ := b
    by_cases h1 : x = x' <;> by_cases h2 : y = y' <;> simp [h1, h2]
  · rfl
  · rw [show (10000 : Nat) = 9999 + 1 from rfl]
    unfold Instr.sameBits key2
    simp
    constructor <;> (unfold Instr.sameBits; simp)

theorem ok1 : KeyOk Try.prog 3 key1 := int_ok Try.underlying3
theorem zero3 (w : World) : (zeroValue 3).run Try.prog w = .ok (.int .i64 0) w := by kernel_rfl
end Go.Proofs.Ytnjnmoehjaikkaa.Tr
