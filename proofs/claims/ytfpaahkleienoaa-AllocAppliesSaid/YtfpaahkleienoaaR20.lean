/- For every program and all colours the program makes the orders that the document lays down. -/
import Derived.Test.YtfpaahkleienoaaX81
import Derived.Test.YtfpaahkleienoaaC2
namespace Go.Proofs.Ytfpaahkleienoaa
open Go.ChangeShapes Go.WideShapes Go.ChangeAt Go.RowKit
set_option linter.unusedSimpArgs false
set_option linter.unusedVariables false

theorem open_Sl {α : Type} [Rd α] {H : Type} {enc : TypeId × Value → H} {P : Program} {w : World} {base : Nat} {spare : Nat → Bool} {held : Bool} {r : Go.Reach} {b0 : Nat} {T e : TypeId} {v : Value} {d : DataW H} {p : List MemPlace}
    (hT : P.underlying T = some (.slice e)) (hR : Rd.ty (Sl α) P T) (hv : Value.okWide P w r b0 T v) (h : DataW.Trod enc P w base spare held T v d p) (hw : ∀ n ∈ DataW.weights P T d, n ≤ reachBytes) : ∃ s : Ls α, v = s.v ∧ s.At w := by
  obtain ⟨a, len, cap, rfl⟩ := okWide_slice hT hv
  obtain ⟨fuel, hf⟩ := h
  obtain ⟨s, e1, hat, _⟩ := Rd.read hR hf hw
  have e2 : (Value.slice a len cap) = .slice s.A s.l.length s.cap := by
    have : [(Value.slice a len cap)] = [.slice s.A s.l.length s.cap] := e1
    exact (List.cons.inj this).1
  exact ⟨⟨.slice s.A s.l.length s.cap, s.l⟩, e2, s.A, s.cap, rfl, hat⟩

theorem ty_intss : Rd.ty (Sl (Sl Int)) Try.prog 35 := ⟨_, Try.underlying35, by kernel_rfl, of_decide_eq_true (by kernel_rfl), by decide, ty_ints⟩
theorem ls_ls {s : Ls (Sl Int)} {w : World} (h : s.At w) : ∃ r : Ls (Ls Int), s.v = r.v ∧ r.At w := by
  obtain ⟨A, c, e, hs⟩ := h
  exact ⟨ofSl2 ⟨A, c, s.l⟩, e, ofSl2_at hs⟩

set_option maxRecDepth 100000 in
theorem allocApplies_lifted (os : Os) (started : os.Started) (H : Type) (enc : TypeId × Value → H) :
    ReturnsInHanded {} Try.checked os 4 .any (Rows.allocAppliesSpec.pre6 enc Try.prog Try.f4 Rows.allocAppliesRow.domain false) (Rows.allocAppliesSpec.post enc Try.prog Try.f4 false true false false) := by
  refine returnsInHanded_of_change_sized (C := Try.checked) own started (by kernel_rfl) Try.func4
    (ChangeSpec.witness6 (enc := enc) (C := Try.checked) false ⟨#[], #[.agg #[.slice none 0 0, .slice none 0 0, .int .i64 0, .int .i64 0], .slice none 0 0], []⟩ 8 (by kernel_rfl) (by kernel_rfl) (by kernel_rfl) (by kernel_rfl)) ?_
  intro W base args ds gs before hval0 hW _ hsz0 _
  have hsz : (DataW.weightsEach Try.prog (Try.f4.params.toList ++ Rows.allocAppliesSpec.plain.varTypes Try.prog) (ds ++ gs)).all (· ≤ reachBytes) = true := hsz0
  have hval : ∀ (j : Nat) t v, Try.f4.params[j]? = some t → args[j]? = some v → Value.okWide Try.prog W .any base t v := hval0
  have hW' := hW
  obtain ⟨p, q, hA0, hV, rfl, hfz, hnd⟩ := hW
  have hA : DataW.TrodAll enc Try.prog W 0 (fun _ => true) true Try.f4.params.toList args.toList ds p := hA0
  rw [Try.params4] at hA hval hsz
  obtain ⟨v0, v1, d0, d1, p0, p1, rfl, rfl, rfl, h0, h1⟩ := trodAll_two hA
  obtain ⟨rfl, rfl⟩ := trodVars_none hV
  clear hA0 hval0
  simp only [List.append_nil] at hW'
  have hw0 : ∀ n ∈ DataW.weights Try.prog 25 d0, n ≤ reachBytes := by
    intro n hn
    have := List.all_eq_true.1 hsz n (by simp [DataW.weightsEach, hn])
    simpa using this
  have hw1 : ∀ n ∈ DataW.weights Try.prog 35 d1, n ≤ reachBytes := by
    intro n hn
    have := List.all_eq_true.1 hsz n (by simp [DataW.weightsEach, hn])
    simpa using this
  obtain ⟨fs, hfs, hpf⟩ := ty_pr
  obtain ⟨pr, rfl, hAt, _⟩ := open_PR hfs hpf (by kernel_rfl) (hval 0 25 v0 rfl rfl) h0 hw0
  obtain ⟨sc0, hv1, hsc0⟩ := open_Sl (α := Sl Int) Try.underlying35 ty_intss (hval 1 35 v1 rfl rfl) h1 hw1
  obtain ⟨sc, hv2, hsc⟩ := ls_ls hsc0
  rw [hv2] at hv1
  have hlt : ∀ x ∈ p0 ++ p1, x.block < W.heap.size := fun x hx => by simpa using hW'.lt x hx
  obtain ⟨code, words, locks, regs, hv, hc, hw⟩ := pr_ls pr W hAt
  subst hv1
  have hcall := allocApplies_any code words sc locks regs W hc hw hsc
  rw [← hv] at hcall
  refine Calls.mono hcall fun e W' ⟨v', he, hv', hg0⟩ => ?_
  have hg := hg0.chg.to_below
  subst he
  subst hv'
  have hm := trodAll_mk2 (Below.trod laidOut (by kernel_rfl) (of_decide_eq_true (by kernel_rfl)) h0 hg (fun x hx => hlt x (by simp [hx]))) (Below.trod laidOut (by kernel_rfl) (of_decide_eq_true (by kernel_rfl)) h1 hg (fun x hx => hlt x (by simp [hx])))
  exact ⟨_, rfl, _, _, _, [], p0 ++ p1, [], hW', trodAll_mk1 (shut_bool Try.underlying4 true), hm, rfl, hg.frame _, fun h => by cases h⟩

theorem allocApplies_holds : Rows.AllocAppliesSaid :=
  OpenClaim.holds_of_wide 4 Try.f4 rfl rfl rfl rfl rfl rfl rfl ⟨rfl, rfl, rfl, rfl, rfl⟩ rfl rfl rfl rfl rfl (by kernel_rfl) Try.func4 (by kernel_rfl)
    (of_decide_eq_true (by kernel_rfl)) (by unfold Func.isWrapper; first | (rw [if_pos (by decide +kernel)]; kernel_rfl) | (rw [if_neg (by decide +kernel)]; exact ⟨rfl, rfl⟩))
    (fun os started H enc _ => allocApplies_lifted os started H enc)
end Go.Proofs.Ytfpaahkleienoaa
