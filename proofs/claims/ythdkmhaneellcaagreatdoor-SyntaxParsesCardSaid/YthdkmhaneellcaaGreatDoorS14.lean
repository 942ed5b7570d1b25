/-
  Matrices as resources: a row of rows, whose rows are the call's own; rows of arrays. It imports nothing of the dump.
-/
import Derived.Test.YthdkmhaneellcaaGreatDoorS12
import Derived.Laws.RangeString
namespace Go.Proofs.YthdkmhaneellcaaGreatDoor
open Go.RowKit
set_option linter.unusedSimpArgs false
set_option linter.unusedVariables false

/-- A row's value, as it stands. -/
structure RV where
  v : Value
instance : Inhabited RV := ⟨⟨.slice none 0 0⟩⟩
instance : Enc RV where
  sz := 1
  cell x _ := x.v
  whole x := x.v
  agg := false
  inner _ _ := True
  on _ _ := False
  one _ := ⟨rfl, fun _ => rfl⟩
  many h := by cases h
  keep _ _ _ h _ := h
  lt _ _ _ _ h := h.elim
instance : Flat RV := ⟨fun _ _ h => h, fun _ _ => trivial⟩
/-- A row that none else reads, of which no more is known than that. -/
def Asn.hold {α : Type} [Enc α] (s : Ls α) : Asn where
  fp := s.on
  rd _ := False
  ok w := s.At w
  keep w w' h hb := h.keep fun b hb' => hb b (.inl hb')
  lt w h b hb := hb.elim (fun hb => h.lt hb) fun hb => hb.elim
section
variable {α : Type}
def rvs (M : List (Ls α)) : List RV := M.map fun s => ⟨s.v⟩
def matX (R : Ls α → Asn) (E : TypeId) (v : Value) (M : List (Ls α)) : List Asn := .own E (⟨v, rvs M⟩ : Ls RV) :: M.map R
theorem rvs_len (M : List (Ls α)) : (rvs M).length = M.length := List.length_map _
end
section
variable {α : Type} [Enc α]
theorem encL_rvs (M : List (Ls α)) : encL (rvs M) = encL M := by
  have : ∀ s : Ls α, cellsOf (⟨s.v⟩ : RV) = cellsOf s := fun s => rfl
  induction M with
  | nil => rfl
  | cons s M ih =>
    have h1 : encL (rvs (s :: M)) = cellsOf (⟨s.v⟩ : RV) ++ encL (rvs M) := by simp [encL, rvs]
    have h2 : encL (s :: M) = cellsOf s ++ encL M := by simp [encL]
    rw [h1, h2, ih, this]
end
section
variable {K : Nat → Prop} {W w : World} {L : List Asn} {α : Type} {R : Ls α → Asn} {E : TypeId} {v : Value} {M : List (Ls α)}
end
section
variable {P : Program} {o : Oper} {N : Nat} {K : Nat → Prop} {W w : World} {a : Act} {F : List (Nat × Value)} {L : List Asn} {α : Type} [Enc α] {R : Ls α → Asn} {E IE : TypeId} {v : Value} {M : List (Ls α)}
/-- What is made is given away whole. -/
theorem Sh.matDeep (h : Sh K W w (.big (matX R E v M) :: L)) (hR : ∀ s w, (R s).ok w → s.At w ∧ ∀ b, s.on b → (R s).fp b) : Sh K W w (.deep E (⟨v, M⟩ : Ls (Ls α)) :: L) := by
  obtain ⟨hok, hap, hse⟩ := h.ok _ (List.mem_cons_self ..)
  have h0 := hok _ (List.mem_cons_self ..)
  obtain ⟨hown, hlen, _⟩ := h0
  have hm : ∀ i, i < M.length → R (nth M i) ∈ M.map R := fun i hi => List.mem_map.2 ⟨_, nth_mem _ _ hi, rfl⟩
  have hr : ∀ i, i < M.length → (nth M i).At w ∧ ∀ b, (nth M i).on b → (R (nth M i)).fp b := fun i hi => hR _ w (hok _ (List.mem_cons_of_mem _ (hm i hi)))
  have h2 := h.put (i := 0) (A' := .deep E (⟨v, M⟩ : Ls (Ls α))) rfl (Chg.refl _ _) ⟨by
      rw [encL_rvs] at hown
      have : (rvs M).length = M.length := rvs_len M
      simp only [this] at hown
      exact hown, by rw [← rvs_len]; exact hlen, fun i hi => (hr i hi).1, fun b hb ⟨i, hi, hb2⟩ => ?_⟩ (fun b hb => .inl ?_) (fun b hb => hb.elim) (fun b _ hb => hb)
  · exact h2
  · have := (List.pairwise_cons.1 hap).1 _ (hm i hi) b
    exact (this.1 hb).1 ((hr i hi).2 b hb2)
  · rcases hb with hb | ⟨i, hi, hb⟩
    · exact ⟨_, List.mem_cons_self .., hb⟩
    · exact ⟨_, List.mem_cons_of_mem _ (hm i hi), (hr i hi).2 b hb⟩
theorem own_mat [Flat α] (s : Ls α) (w : World) (h : (Asn.own E s).ok w) : s.At w ∧ ∀ b, s.on b → (Asn.own E s).fp b := ⟨own_at h, fun b hb => (own_on h hb).elim id fun h9 => Flat.noRd h9⟩
end
-- ---------------------------------------------------------------- rows of arrays
section
variable {P : Program} {o : Oper} {N : Nat} {K : Nat → Prop} {W w : World} {a : Act} {F : List (Nat × Value)} {L : List Asn}
end
-- ---------------------------------------------------------------- rows whose room is cut to their length
section
variable {P : Program} {o : Oper} {N : Nat} {K : Nat → Prop} {W w : World} {a : Act} {F : List (Nat × Value)} {L : List Asn} {α : Type} [Enc α]
end
end Go.Proofs.YthdkmhaneellcaaGreatDoor
