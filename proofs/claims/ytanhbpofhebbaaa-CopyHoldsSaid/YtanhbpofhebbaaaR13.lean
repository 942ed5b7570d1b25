/- What is the same already does as well: the program with registers put in the place of others has the same outcomes: the statement CopyHolds. -/
import Derived.Test.YtanhbpofhebbaaaRows
import Derived.Test.YtanhbpofhebbaaaRead
import Derived.Test.YtanhbpofhebbaaaC1
import Derived.SizedLaws
import Derived.Test.YtanhbpofhebbaaaX56
section
section
namespace Go.Proofs.Ytanhbpofhebbaaa
open Go.ChangeShapes Go.WideShapes Go.ChangeAt Go.RowKit
set_option linter.unusedSimpArgs false
set_option linter.unusedVariables false

theorem own : ownKnob Try.prog.godebug = none := by kernel_rfl
theorem laidOut : laidOutB Try.prog = true := by kernel_rfl
theorem ty_int : Rd.ty Int Try.prog 3 := Try.underlying3
theorem ty_ins : Rd.ty Ins Try.prog 73 := by
  refine ⟨_, Try.underlying73, ⟨rfl, fun j f hf => ?_⟩, by kernel_rfl⟩
  rcases j with _ | _ | _ | _ | j <;> simp at hf <;> subst hf <;> exact ⟨rfl, Try.underlying3, by kernel_rfl⟩
theorem ty_ints : Rd.ty (Sl Int) Try.prog 24 := ⟨_, Try.underlying24, by kernel_rfl, of_decide_eq_true (by kernel_rfl), by decide, ty_int⟩
theorem ty_code : Rd.ty (Sl Ins) Try.prog 64 := ⟨_, Try.underlying64, by kernel_rfl, of_decide_eq_true (by kernel_rfl), by decide, ty_ins⟩
theorem ty_codes : Rd.ty (Sl (Sl Ins)) Try.prog 26 := ⟨_, Try.underlying26, by kernel_rfl, of_decide_eq_true (by kernel_rfl), by decide, ty_code⟩
theorem ty_pr : ∃ fs, Try.prog.underlying 28 = some (.struct fs) ∧ prFields Try.prog fs :=
  ⟨_, Try.underlying28, _, _, _, _, rfl, ⟨rfl, by kernel_rfl, ty_codes⟩, ⟨rfl, by kernel_rfl, ty_ints⟩, ⟨rfl, by kernel_rfl, ty_int⟩, ⟨rfl, by kernel_rfl, ty_int⟩⟩
end Go.Proofs.Ytanhbpofhebbaaa
end
namespace Go.Proofs.Ytanhbpofhebbaaa
open Go.ChangeShapes Go.WideShapes Go.ChangeAt Go.RowKit
set_option linter.unusedSimpArgs false
set_option linter.unusedVariables false

section
variable {α : Type} [Enc α]
def ofSl (s : Sl α) : Ls α := ⟨.slice s.A s.l.length s.cap, s.l⟩
theorem ofSl_at {s : Sl α} {w : World} (h : s.At w) : (ofSl s).At w := ⟨s.A, s.cap, rfl, h⟩
def ofSl2 (s : Sl (Sl α)) : Ls (Ls α) := ⟨.slice s.A s.l.length s.cap, s.l.map ofSl⟩
theorem ofSl2_at {s : Sl (Sl α)} {w : World} (h : s.At w) : (ofSl2 s).At w := by
  refine ⟨s.A, s.cap, by simp [ofSl2], ⟨by simpa [ofSl2] using h.le, h.max, by simpa [ofSl2] using h.len, by simpa [ofSl2] using h.some, by simpa [ofSl2] using h.lt', fun i j hi hj => ?_, fun i hi => ?_⟩⟩
  · have hi' : i < s.l.length := by simpa [ofSl2] using hi
    show w.cell? _ = some (Enc.cell (nth (s.l.map ofSl) i) j)
    rw [nth_map' ofSl _ _ hi']
    exact h.cell i j hi' hj
  · have hi' : i < s.l.length := by simpa [ofSl2] using hi
    show Enc.inner (nth (s.l.map ofSl) i) w
    rw [nth_map' ofSl _ _ hi']
    exact ofSl_at (h.inner i hi')
end
theorem pr_ls (q : PR) (w : World) (h : q.At w) : ∃ (code : Ls (Ls Ins)) (words : Ls Int) (locks regs : Int), q.val = .agg #[code.v, words.v, .int .i64 locks, .int .i64 regs] ∧ code.At w ∧ words.At w :=
  ⟨ofSl2 q.code, ofSl q.words, q.locks, q.regs, rfl, ofSl2_at h.code, ofSl_at h.words⟩
end Go.Proofs.Ytanhbpofhebbaaa
end
namespace Go.Proofs.Ytanhbpofhebbaaa
open Go.ChangeShapes Go.WideShapes Go.ChangeAt Go.RowKit
set_option linter.unusedSimpArgs false
set_option linter.unusedVariables false

set_option maxRecDepth 100000 in
theorem copyHolds_lifted (os : Os) (started : os.Started) (H : Type) (enc : TypeId × Value → H) :
    ReturnsInHanded {} Try.checked os 16 .any (Rows.copyHoldsSpec.pre6 enc Try.prog Try.f16 Rows.copyHoldsRow.domain false) (Rows.copyHoldsSpec.post enc Try.prog Try.f16 false true false false) := by
  refine returnsInHanded_of_change_sized (C := Try.checked) own started (by kernel_rfl) Try.func16
    (ChangeSpec.witness6 (enc := enc) (C := Try.checked) false ⟨#[], #[.agg #[.slice none 0 0, .slice none 0 0, .int .i64 0, .int .i64 0]], []⟩ 8 (by kernel_rfl) (by kernel_rfl) (by kernel_rfl) (by kernel_rfl)) ?_
  intro W base args ds gs before hval0 hW _ hsz0 _
  have hsz : (DataW.weightsEach Try.prog (Try.f16.params.toList ++ Rows.copyHoldsSpec.plain.varTypes Try.prog) (ds ++ gs)).all (· ≤ reachBytes) = true := hsz0
  have hval : ∀ (j : Nat) t v, Try.f16.params[j]? = some t → args[j]? = some v → Value.okWide Try.prog W .any base t v := hval0
  have hW' := hW
  obtain ⟨p, q, hA0, hV, rfl, hfz, hnd⟩ := hW
  have hA : DataW.TrodAll enc Try.prog W 0 (fun _ => true) true Try.f16.params.toList args.toList ds p := hA0
  rw [Try.params16] at hA hval hsz
  obtain ⟨v0, d0, rfl, rfl, h0⟩ := trodAll_one hA
  obtain ⟨rfl, rfl⟩ := trodVars_none hV
  clear hA0 hval0
  simp only [List.append_nil] at hW'
  have hw0 : ∀ n ∈ DataW.weights Try.prog 28 d0, n ≤ reachBytes := by
    intro n hn
    have := List.all_eq_true.1 hsz n (by simp [DataW.weightsEach, hn])
    simpa using this
  obtain ⟨fs, hfs, hpf⟩ := ty_pr
  obtain ⟨pr, rfl, hAt, _⟩ := open_PR hfs hpf (by kernel_rfl) (hval 0 28 v0 rfl rfl) h0 hw0
  have hlt : ∀ x ∈ p, x.block < W.heap.size := fun x hx => by simpa using hW'.lt x hx
  obtain ⟨code, words, locks, regs, hv, hc, hw⟩ := pr_ls pr W hAt
  have hcall := copyHolds_any code words locks regs W hc hw
  rw [← hv] at hcall
  refine Calls.mono hcall fun e W' ⟨v', he, hv', hg0⟩ => ?_
  have hg := hg0.chg.to_below
  subst he
  subst hv'
  exact ⟨_, rfl, _, _, _, [], p, [], hW', trodAll_mk1 (shut_bool Try.underlying4 true), trodAll_mk1 (Below.trod laidOut (by kernel_rfl) (of_decide_eq_true (by kernel_rfl)) h0 hg hlt), rfl, hg.frame _, fun h => by cases h⟩

theorem copyHolds_holds : Rows.CopyHoldsSaid :=
  OpenClaim.holds_of_wide 16 Try.f16 rfl rfl rfl rfl rfl rfl rfl ⟨rfl, rfl, rfl, rfl, rfl⟩ rfl rfl rfl rfl rfl (by kernel_rfl) Try.func16 (by kernel_rfl)
    (of_decide_eq_true (by kernel_rfl)) (by unfold Func.isWrapper; first | (rw [if_pos (by decide +kernel)]; kernel_rfl) | (rw [if_neg (by decide +kernel)]; exact ⟨rfl, rfl⟩))
    (fun os started H enc _ => copyHolds_lifted os started H enc)
end Go.Proofs.Ytanhbpofhebbaaa
