/-
  A program parameter as the row's words read it, in the words of resources.
-/
import Derived.Test.YtfpaahkleienoaaTy
import Derived.Test.YtfpaahkleienoaaC1
import Derived.SizedLaws
namespace Go.Proofs.Ytfpaahkleienoaa
open Go.ChangeShapes Go.WideShapes Go.ChangeAt Go.RowKit
set_option linter.unusedSimpArgs false
set_option linter.unusedVariables false

section
variable {α : Type} [Enc α]
def ofSl (s : Sl α) : Ls α := ⟨.slice s.A s.l.length s.cap, s.l⟩
theorem ofSl_at {s : Sl α} {w : World} (h : s.At w) : (ofSl s).At w := ⟨s.A, s.cap, rfl, h⟩
def ofSl2 (s : Sl (Sl α)) : Ls (Ls α) := ⟨.slice s.A s.l.length s.cap, s.l.map ofSl⟩
theorem ofSl2_at {s : Sl (Sl α)} {w : World} (h : s.At w) : (ofSl2 s).At w := by
  refine ⟨s.A, s.cap, by simp [ofSl2], ⟨by simpa [ofSl2] using h.le, h.max, by simpa [ofSl2] using h.len, by simpa [ofSl2] using h.some, by simpa [ofSl2] using h.lt', fun i j hi hj => ?_, fun i hi => ?_⟩⟩
  · have hi' : i < s.l.length := by simpa [ofSl2] using hi
    show w.cell? _ = some (Enc.cell (nth (s.l.map ofSl) i) j)
    rw [nth_map' ofSl _ _ hi']
    exact h.cell i j hi' hj
  · have hi' : i < s.l.length := by simpa [ofSl2] using hi
    show Enc.inner (nth (s.l.map ofSl) i) w
    rw [nth_map' ofSl _ _ hi']
    exact ofSl_at (h.inner i hi')
end
theorem pr_ls (q : PR) (w : World) (h : q.At w) : ∃ (code : Ls (Ls Ins)) (words : Ls Int) (locks regs : Int), q.val = .agg #[code.v, words.v, .int .i64 locks, .int .i64 regs] ∧ code.At w ∧ words.At w :=
  ⟨ofSl2 q.code, ofSl q.words, q.locks, q.regs, rfl, ofSl2_at h.code, ofSl_at h.words⟩
end Go.Proofs.Ytfpaahkleienoaa
