/-
  A program parameter as the row's words read it, in the words of resources.
-/
import Derived.Test.YtmgikmjmdppfmaaRows
import Derived.Test.YtmgikmjmdppfmaaRead
import Derived.Test.YtmgikmjmdppfmaaC1
import Derived.SizedLaws
section
namespace Go.Proofs.Ytmgikmjmdppfmaa
open Go.ChangeShapes Go.WideShapes Go.ChangeAt Go.RowKit
set_option linter.unusedSimpArgs false
set_option linter.unusedVariables false

theorem own : ownKnob Try.prog.godebug = none := by kernel_rfl
theorem laidOut : laidOutB Try.prog = true := by kernel_rfl
theorem ty_int : Rd.ty Int Try.prog 3 := Try.underlying3
theorem ty_ins : Rd.ty Ins Try.prog 44 := by
  refine ⟨_, Try.underlying44, ⟨rfl, fun j f hf => ?_⟩, by kernel_rfl⟩
  rcases j with _ | _ | _ | _ | j <;> simp at hf <;> subst hf <;> exact ⟨rfl, Try.underlying3, by kernel_rfl⟩
theorem ty_ints : Rd.ty (Sl Int) Try.prog 23 := ⟨_, Try.underlying23, by kernel_rfl, of_decide_eq_true (by kernel_rfl), by decide, ty_int⟩
theorem ty_code : Rd.ty (Sl Ins) Try.prog 45 := ⟨_, Try.underlying45, by kernel_rfl, of_decide_eq_true (by kernel_rfl), by decide, ty_ins⟩
theorem ty_codes : Rd.ty (Sl (Sl Ins)) Try.prog 22 := ⟨_, Try.underlying22, by kernel_rfl, of_decide_eq_true (by kernel_rfl), by decide, ty_code⟩
theorem ty_pr : ∃ fs, Try.prog.underlying 25 = some (.struct fs) ∧ prFields Try.prog fs :=
  ⟨_, Try.underlying25, _, _, _, _, rfl, ⟨rfl, by kernel_rfl, ty_codes⟩, ⟨rfl, by kernel_rfl, ty_ints⟩, ⟨rfl, by kernel_rfl, ty_int⟩, ⟨rfl, by kernel_rfl, ty_int⟩⟩
end Go.Proofs.Ytmgikmjmdppfmaa
end
namespace Go.Proofs.Ytmgikmjmdppfmaa
open Go.ChangeShapes Go.WideShapes Go.ChangeAt Go.RowKit
set_option linter.unusedSimpArgs false
set_option linter.unusedVariables false

section
variable {α : Type} [Enc α]
def ofSl (s : Sl α) : Ls α := ⟨.slice s.A s.l.length s.cap, s.l⟩
theorem ofSl_at {s : Sl α} {w : World} (h : s.At w) : (ofSl s).At w := ⟨s.A, s.cap, rfl, h⟩
def ofSl2 (s : Sl (Sl α)) : Ls (Ls α) := ⟨.slice s.A s.l.length s.cap, s.l.map ofSl⟩
theorem ofSl2_at {s : Sl (Sl α)} {w : World} (h : s.At w) : (ofSl2 s).At w := by
  refine ⟨s.A, s.cap, by simp [ofSl2], ⟨by simpa [ofSl2] using h.le, h.max, by simpa [ofSl2] using h.len, by simpa [ofSl2] using h.some, by simpa [ofSl2] using h.lt', fun i j hi hj => ?_, fun i hi => ?_⟩⟩
  · have hi' : i < s.l.length := by simpa [ofSl2] using hi
    show w.cell? _ = some (Enc.cell (nth (s.l.map ofSl) i) j)
    rw [nth_map' ofSl _ _ hi']
    exact h.cell i j hi' hj
  · have hi' : i < s.l.length := by simpa [ofSl2] using hi
    show Enc.inner (nth (s.l.map ofSl) i) w
    rw [nth_map' ofSl _ _ hi']
    exact ofSl_at (h.inner i hi')
end
theorem pr_ls (q : PR) (w : World) (h : q.At w) : ∃ (code : Ls (Ls Ins)) (words : Ls Int) (locks regs : Int), q.val = .agg #[code.v, words.v, .int .i64 locks, .int .i64 regs] ∧ code.At w ∧ words.At w :=
  ⟨ofSl2 q.code, ofSl q.words, q.locks, q.regs, rfl, ofSl2_at h.code, ofSl_at h.words⟩
end Go.Proofs.Ytmgikmjmdppfmaa
