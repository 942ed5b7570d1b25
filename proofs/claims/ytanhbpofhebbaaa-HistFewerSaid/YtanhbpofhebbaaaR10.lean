/- What could have been could have been without its last event, if that is a Load; and as well if two events beside one another, of unlike threads, stand the other way round: proved for all words, events and places, without conditions. -/
import Derived.Test.YtanhbpofhebbaaaX43
import Derived.Test.YtanhbpofhebbaaaC2
namespace Go.Proofs.Ytanhbpofhebbaaa
open Go.ChangeShapes Go.WideShapes Go.ChangeAt Go.RowKit
set_option linter.unusedSimpArgs false
set_option linter.unusedVariables false

theorem ty_ev : Rd.ty Ins Try.prog 36 := by
  refine ⟨_, Try.underlying36, ⟨rfl, fun j f hf => ?_⟩, by kernel_rfl⟩
  rcases j with _ | _ | _ | _ | j <;> simp at hf <;> subst hf <;> exact ⟨rfl, Try.underlying3, by kernel_rfl⟩
theorem ty_evs : Rd.ty (Sl Ins) Try.prog 37 := ⟨_, Try.underlying37, by kernel_rfl, of_decide_eq_true (by kernel_rfl), by decide, ty_ev⟩
theorem open_Sl {α : Type} [Rd α] {H : Type} {enc : TypeId × Value → H} {P : Program} {w : World} {base : Nat} {spare : Nat → Bool} {held : Bool} {r : Reach} {b0 : Nat} {T e : TypeId} {v : Value} {d : DataW H} {p : List MemPlace}
    (hT : P.underlying T = some (.slice e)) (hR : Rd.ty (Sl α) P T) (hv : Value.okWide P w r b0 T v) (h : DataW.Trod enc P w base spare held T v d p) (hw : ∀ n ∈ DataW.weights P T d, n ≤ reachBytes) : ∃ s : Ls α, v = s.v ∧ s.At w := by
  obtain ⟨a, len, cap, rfl⟩ := okWide_slice hT hv
  obtain ⟨fuel, hf⟩ := h
  obtain ⟨s, e1, hat, _⟩ := Rd.read hR hf hw
  have e2 : (Value.slice a len cap) = .slice s.A s.l.length s.cap := by
    have : [(Value.slice a len cap)] = [.slice s.A s.l.length s.cap] := e1
    exact (List.cons.inj this).1
  exact ⟨⟨.slice s.A s.l.length s.cap, s.l⟩, e2, s.A, s.cap, rfl, hat⟩

set_option maxRecDepth 100000 in
theorem histFewer_lifted (os : Os) (started : os.Started) (H : Type) (enc : TypeId × Value → H) :
    ReturnsInHanded {} Try.checked os 6 .any (Rows.histFewerSpec.pre6 enc Try.prog Try.f6 Rows.histFewerRow.domain false) (Rows.histFewerSpec.post enc Try.prog Try.f6 false true false false) := by
  refine returnsInHanded_of_change_sized (C := Try.checked) own started (by kernel_rfl) Try.func6
    (ChangeSpec.witness6 (enc := enc) (C := Try.checked) false ⟨#[], #[.slice none 0 0, .slice none 0 0, .int .i64 0], []⟩ 8 (by kernel_rfl) (by kernel_rfl) (by kernel_rfl) (by kernel_rfl)) ?_
  intro W base args ds gs before hval0 hW _ hsz0 _
  have hsz : (DataW.weightsEach Try.prog (Try.f6.params.toList ++ Rows.histFewerSpec.plain.varTypes Try.prog) (ds ++ gs)).all (· ≤ reachBytes) = true := hsz0
  have hval : ∀ (j : Nat) t v, Try.f6.params[j]? = some t → args[j]? = some v → Value.okWide Try.prog W .any base t v := hval0
  have hW' := hW
  obtain ⟨p, q, hA0, hV, rfl, hfz, hnd⟩ := hW
  have hA : DataW.TrodAll enc Try.prog W 0 (fun _ => true) true Try.f6.params.toList args.toList ds p := hA0
  rw [Try.params6] at hA hval hsz
  obtain ⟨v0, v1, v2, d0, d1, d2, p0, p1, p2, rfl, rfl, rfl, h0, h1, h2⟩ := trodAll_three hA
  obtain ⟨rfl, rfl⟩ := trodVars_none hV
  clear hA0 hval0
  simp only [List.append_nil] at hW'
  have hw0 : ∀ n ∈ DataW.weights Try.prog 24 d0, n ≤ reachBytes := by
    intro n hn
    have := List.all_eq_true.1 hsz n (by simp [DataW.weightsEach, hn])
    simpa using this
  have hw1 : ∀ n ∈ DataW.weights Try.prog 37 d1, n ≤ reachBytes := by
    intro n hn
    have := List.all_eq_true.1 hsz n (by simp [DataW.weightsEach, hn])
    simpa using this
  obtain ⟨ws, hv0, hws⟩ := open_Sl (α := Int) Try.underlying24 ty_ints (hval 0 24 v0 rfl rfl) h0 hw0
  obtain ⟨es, hv1, hes⟩ := open_Sl (α := Ins) Try.underlying37 ty_evs (hval 1 37 v1 rfl rfl) h1 hw1
  obtain ⟨q, hv2⟩ := okWide_int Try.underlying3 (hval 2 3 v2 rfl rfl)
  have hlt : ∀ x ∈ p0 ++ p1 ++ p2, x.block < W.heap.size := fun x hx => by simpa using hW'.lt x hx
  subst hv0 hv1 hv2
  have hcall := histFewer_any ws es q W hws hes
  refine Calls.mono hcall fun e W' ⟨v', he, hv', hg0⟩ => ?_
  have hg := hg0.chg.to_below
  subst he
  subst hv'
  have hm := trodAll_mk3 (Below.trod laidOut (by kernel_rfl) (of_decide_eq_true (by kernel_rfl)) h0 hg (fun x hx => hlt x (by simp [hx]))) (Below.trod laidOut (by kernel_rfl) (of_decide_eq_true (by kernel_rfl)) h1 hg (fun x hx => hlt x (by simp [hx]))) (Below.trod laidOut (by kernel_rfl) (of_decide_eq_true (by kernel_rfl)) h2 hg (fun x hx => hlt x (by simp [hx])))
  rw [← List.append_assoc] at hm
  exact ⟨_, rfl, _, _, _, [], p0 ++ p1 ++ p2, [], hW', trodAll_mk1 (shut_bool Try.underlying4 true), hm, rfl, hg.frame _, fun h => by cases h⟩

theorem histFewer_holds : Rows.HistFewerSaid :=
  OpenClaim.holds_of_wide 6 Try.f6 rfl rfl rfl rfl rfl rfl rfl ⟨rfl, rfl, rfl, rfl, rfl⟩ rfl rfl rfl rfl rfl (by kernel_rfl) Try.func6 (by kernel_rfl)
    (of_decide_eq_true (by kernel_rfl)) (by unfold Func.isWrapper; first | (rw [if_pos (by decide +kernel)]; kernel_rfl) | (rw [if_neg (by decide +kernel)]; exact ⟨rfl, rfl⟩))
    (fun os started H enc _ => histFewer_lifted os started H enc)
end Go.Proofs.Ytanhbpofhebbaaa
