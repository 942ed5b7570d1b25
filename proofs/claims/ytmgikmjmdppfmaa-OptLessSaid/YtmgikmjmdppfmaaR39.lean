/- For every program, what opt.Const and opt.Dead make of it has no more orders in any thread, and opt.Const changes nothing the second time. No conditions. -/
import Derived.Test.YtmgikmjmdppfmaaX136
import Derived.Test.YtmgikmjmdppfmaaC2
namespace Go.Proofs.Ytmgikmjmdppfmaa
open Go.ChangeShapes Go.WideShapes Go.ChangeAt Go.RowKit
set_option linter.unusedSimpArgs false
set_option linter.unusedVariables false

set_option maxRecDepth 100000 in
theorem optLess_lifted (os : Os) (started : os.Started) (H : Type) (enc : TypeId × Value → H) :
    ReturnsInHanded {} Try.checked os 5 .any (Rows.optLessSpec.pre6 enc Try.prog Try.f5 Rows.optLessRow.domain false) (Rows.optLessSpec.post enc Try.prog Try.f5 false true false false) := by
  refine returnsInHanded_of_change_sized (C := Try.checked) own started (by kernel_rfl) Try.func5
    (ChangeSpec.witness6 (enc := enc) (C := Try.checked) false ⟨#[], #[.agg #[.slice none 0 0, .slice none 0 0, .int .i64 0, .int .i64 0]], []⟩ 8 (by kernel_rfl) (by kernel_rfl) (by kernel_rfl) (by kernel_rfl)) ?_
  intro W base args ds gs before hval0 hW _ hsz0 _
  have hsz : (DataW.weightsEach Try.prog (Try.f5.params.toList ++ Rows.optLessSpec.plain.varTypes Try.prog) (ds ++ gs)).all (· ≤ reachBytes) = true := hsz0
  have hval : ∀ (j : Nat) t v, Try.f5.params[j]? = some t → args[j]? = some v → Value.okWide Try.prog W .any base t v := hval0
  have hW' := hW
  obtain ⟨p, q, hA0, hV, rfl, hfz, hnd⟩ := hW
  have hA : DataW.TrodAll enc Try.prog W 0 (fun _ => true) true Try.f5.params.toList args.toList ds p := hA0
  rw [Try.params5] at hA hval hsz
  obtain ⟨v0, d0, rfl, rfl, h0⟩ := trodAll_one hA
  obtain ⟨rfl, rfl⟩ := trodVars_none hV
  clear hA0 hval0
  simp only [List.append_nil] at hW'
  have hw0 : ∀ n ∈ DataW.weights Try.prog 25 d0, n ≤ reachBytes := by
    intro n hn
    have := List.all_eq_true.1 hsz n (by simp [DataW.weightsEach, hn])
    simpa using this
  obtain ⟨fs, hfs, hpf⟩ := ty_pr
  obtain ⟨pr, rfl, hAt, _⟩ := open_PR hfs hpf (by kernel_rfl) (hval 0 25 v0 rfl rfl) h0 hw0
  have hlt : ∀ x ∈ p, x.block < W.heap.size := fun x hx => by simpa using hW'.lt x hx
  obtain ⟨code, words, locks, regs, hv, hc, hw⟩ := pr_ls pr W hAt
  have hcall := optLess_any code words locks regs W hc hw
  rw [← hv] at hcall
  refine Calls.mono hcall fun e W' ⟨v', he, hv', hg0⟩ => ?_
  have hg := hg0.chg.to_below
  subst he
  subst hv'
  exact ⟨_, rfl, _, _, _, [], p, [], hW', trodAll_mk1 (shut_bool Try.underlying4 true), trodAll_mk1 (Below.trod laidOut (by kernel_rfl) (of_decide_eq_true (by kernel_rfl)) h0 hg hlt), rfl, hg.frame _, fun h => by cases h⟩

theorem optLess_holds : Rows.OptLessSaid :=
  OpenClaim.holds_of_wide 5 Try.f5 rfl rfl rfl rfl rfl rfl rfl ⟨rfl, rfl, rfl, rfl, rfl⟩ rfl rfl rfl rfl rfl (by kernel_rfl) Try.func5 (by kernel_rfl)
    (of_decide_eq_true (by kernel_rfl)) (by unfold Func.isWrapper; first | (rw [if_pos (by decide +kernel)]; kernel_rfl) | (rw [if_neg (by decide +kernel)]; exact ⟨rfl, rfl⟩))
    (fun os started H enc _ => optLess_lifted os started H enc)
end Go.Proofs.Ytmgikmjmdppfmaa
