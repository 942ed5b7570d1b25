/-
  What is the same already, in plain Lean: what the program's list of work comes to.
-/
import Derived.Test.YtfpaahkleienoaaS23
import Derived.Test.YtfpaahkleienoaaX32
import Derived.Test.YtfpaahkleienoaaX10
section
namespace Go.Proofs.Ytfpaahkleienoaa
open Go.RowKit
set_option linter.unusedSimpArgs false
set_option linter.unusedVariables false

/-- A register is another one from now on. -/
def wrP (r a b : Int) : Bool := decide (a = r) || decide (b = r)
def wrZ (r : Int) (l : List (Int × Int)) : List (Int × Int) := l.filter fun z => !wrP r z.1 z.2
/-- What is not the same there. -/
def inP (lo : List (Int × Int)) (a b : Int) : Bool := !(getZ a lo).isSome || decide (b ≠ (getZ a lo).getD 0)
def inZ (lo l : List (Int × Int)) : List (Int × Int) := l.filter fun z => !inP lo z.1 z.2
/-- What is the same behind an order. -/
def wrI (x : Ins) (l : List (Int × Int)) : List (Int × Int) := if 0 ≤ wrG x then wrZ (wrG x) l else l
def behZ (x : Ins) (l : List (Int × Int)) : List (Int × Int) := if x.op = 2 ∧ x.a ≠ x.b then wrI x l ++ [(x.a, x.b)] else wrI x l
end Go.Proofs.Ytfpaahkleienoaa
end
namespace Go.Proofs.Ytfpaahkleienoaa
open Go.RowKit
set_option linter.unusedSimpArgs false
set_option linter.unusedVariables false

inductive RchC (code : List Ins) : Nat → Prop
  | zero : RchC code 0
  | step (i : Nat) (y : Int) : RchC code i → i < code.length → y ∈ nextsL code i → RchC code y.toNat
def Hits (x : Ins) (a b : Int) : Prop := wrG x = a ∨ wrG x = b
def IsMv (x : Ins) (a b : Int) : Prop := x.op = 2 ∧ x.a = a ∧ x.b = b
/-- By some way the one register is not the other. -/
inductive NotI (code : List Ins) (a b : Int) : Nat → Prop
  | zero : NotI code a b 0
  | gen (i : Nat) (y : Int) : RchC code i → i < code.length → y ∈ nextsL code i → Hits (nth code i) a b → ¬ IsMv (nth code i) a b → NotI code a b y.toNat
  | pass (i : Nat) (y : Int) : RchC code i → i < code.length → y ∈ nextsL code i → ¬ Hits (nth code i) a b → NotI code a b i → NotI code a b y.toNat
def SameI (code : List Ins) (a b : Int) (i : Nat) : Prop := RchC code i ∧ ¬ NotI code a b i
def GoodZ (code : List Ins) (z : Int × Int) : Prop := z.1 ≠ z.2 ∧ ∃ j, j < code.length ∧ IsMv (nth code j) z.1 z.2
structure CodeC (code : List Ins) : Prop where
  op : ∀ i, i < code.length → 1 ≤ (nth code i).op
  mv : ∀ i, i < code.length → (nth code i).op = 2 → 0 ≤ (nth code i).a ∧ 0 ≤ (nth code i).b
  nx : ∀ i, i < code.length → ∀ y ∈ nextsL code i, 0 ≤ y ∧ y ≤ (code.length : Int)
section
variable {code : List Ins} {a b : Int}
theorem GoodZ.pos (hc : CodeC code) {z : Int × Int} (h : GoodZ code z) : 0 ≤ z.1 ∧ 0 ≤ z.2 := by
  obtain ⟨_, j, hj, h1, h2, h3⟩ := h
  have := hc.mv j hj h1
  rw [← h2, ← h3]
  exact this
theorem nodup_sub : ∀ {l m : List Int}, l.Nodup → (∀ x ∈ l, x ∈ m) → l.length ≤ m.length
  | [], _, _, _ => Nat.zero_le _
  | x :: l, m, hn, hs => by
    rw [List.nodup_cons] at hn
    have hx := hs x (List.mem_cons_self ..)
    have h2 := nodup_sub (m := m.erase x) hn.2 fun y hy => (List.mem_erase_of_ne (fun e => hn.1 (by rw [← e]; exact hy))).2 (hs y (List.mem_cons_of_mem _ hy))
    rw [List.length_erase_of_mem hx] at h2
    have := List.length_pos_of_mem hx
    rw [List.length_cons]
    omega
theorem good_len {l : List (Int × Int)} (hn : (l.map (·.1)).Nodup) (h : ∀ z ∈ l, GoodZ code z) : l.length ≤ code.length := by
  have hsub : ∀ k ∈ l.map (·.1), k ∈ code.map (·.a) := by
    intro k hk
    obtain ⟨z, hz, rfl⟩ := List.mem_map.1 hk
    obtain ⟨_, j, hj, _, h2, _⟩ := h z hz
    exact List.mem_map.2 ⟨nth code j, nth_mem _ _ hj, h2⟩
  have := nodup_sub hn hsub
  simpa using this
end
-- ---------------------------------------------------------------- the list of work
structure LkB (code : List Ins) (M : List MP) (wk : List Int) : Prop where
  len : M.length = code.length + 1
  zero : (nth M 0).p ≠ none ∧ (nth M 0).l = []
  rch : ∀ i, i ≤ code.length → (nth M i).p ≠ none → RchC code i
  sup : ∀ i, i ≤ code.length → (nth M i).p ≠ none → ∀ z, GoodZ code z → SameI code z.1 z.2 i → z ∈ (nth M i).l
  good : ∀ i, i ≤ code.length → ∀ z ∈ (nth M i).l, GoodZ code z
  nd : ∀ i, i ≤ code.length → ((nth M i).l.map (·.1)).Nodup
  nul : ∀ i, i ≤ code.length → (nth M i).p = none → (nth M i).l = []
  wk : ∀ y ∈ wk, 0 ≤ y ∧ y ≤ (code.length : Int) ∧ (nth M y.toNat).p ≠ none
def Clo (code : List Ins) (M : List MP) (i : Nat) : Prop := ∀ y ∈ nextsL code i, (nth M y.toNat).p ≠ none ∧ ∀ z ∈ (nth M y.toNat).l, z ∈ behZ (nth code i) (nth M i).l
structure LkI (code : List Ins) (M : List MP) (wk : List Int) : Prop where
  b : LkB code M wk
  clo : ∀ i, i < code.length → (nth M i).p ≠ none → (i : Int) ∉ wk → Clo code M i
structure LkN (code : List Ins) (M : List MP) (wk : List Int) (at_ : Nat) (out : List (Int × Int)) (k : Nat) : Prop where
  b : LkB code M wk
  clo : ∀ i, i < code.length → i ≠ at_ → (nth M i).p ≠ none → (i : Int) ∉ wk → Clo code M i
  done : ∀ j, j < k → (nth M (nth (nextsL code at_) j).toNat).p ≠ none ∧ ∀ z ∈ (nth M (nth (nextsL code at_) j).toNat).l, z ∈ out
  cur : (at_ : Int) ∉ wk → out = behZ (nth code at_) (nth M at_).l
structure OutC (code : List Ins) (at_ : Nat) (out : List (Int × Int)) : Prop where
  lt : at_ < code.length
  rch : RchC code at_
  good : ∀ z ∈ out, GoodZ code z
  nd : (out.map (·.1)).Nodup
  sup : ∀ y ∈ nextsL code at_, ∀ z, GoodZ code z → SameI code z.1 z.2 y.toNat → z ∈ out
def muM (n : Nat) : List MP → Nat
  | [] => 0
  | x :: M => (if x.p = none then n + 2 else x.l.length) + muM n M
theorem muM_set (n : Nat) (y : MP) : ∀ (M : List MP) (i : Nat), i < M.length → muM n (M.set i y) + (if (nth M i).p = none then n + 2 else (nth M i).l.length) = muM n M + (if y.p = none then n + 2 else y.l.length)
  | [], _, h => by simp at h
  | x :: M, 0, _ => by
    rw [List.set_cons_zero]
    have e : nth (x :: M) 0 = x := rfl
    rw [e]
    simp only [muM]
    omega
  | x :: M, i + 1, h => by
    have ih := muM_set n y M i (by simpa using h)
    rw [List.set_cons_succ]
    have e : nth (x :: M) (i + 1) = nth M i := rfl
    rw [e]
    simp only [muM]
    omega
theorem nth_set1 {α : Type} [Inhabited α] (l : List α) (i k : Nat) (x : α) : nth (l.set i x) k = if i = k ∧ i < l.length then x else nth l k := by
  simp only [nth, List.getD, List.getElem?_set]
  by_cases h : i = k
  · subst h
    by_cases h2 : i < l.length
    · simp [h2]
    · simp [h2, List.getElem?_eq_none (Nat.le_of_not_lt h2)]
  · simp [h]
theorem nth_setM (M : List MP) (i j : Nat) (x : MP) (hi : i < M.length) : nth (M.set i x) j = if j = i then x else nth M j := by
  rw [nth_set1]
  by_cases h : j = i
  · rw [if_pos h, if_pos ⟨h.symm, hi⟩]
  · rw [if_neg h, if_neg (fun e => h e.1.symm)]
section
variable {code : List Ins} {M : List MP} {wk : List Int} {at_ k : Nat} {out : List (Int × Int)}
theorem LkI.start (hc : CodeC code) (g : Nat) : LkI code ((List.replicate (code.length + 1) (⟨none, []⟩ : MP)).set 0 ⟨some g, []⟩) [0] := by
  have hn : ∀ i, i ≤ code.length → nth ((List.replicate (code.length + 1) (⟨none, []⟩ : MP)).set 0 ⟨some g, []⟩) i = if i = 0 then ⟨some g, []⟩ else ⟨none, []⟩ := by
    intro i hi
    rw [nth_setM _ _ _ _ (by simp)]
    by_cases h : i = 0
    · rw [if_pos h, if_pos h]
    · rw [if_neg h, if_neg h]; simp [nth, List.getD, List.getElem?_replicate, show i < code.length + 1 by omega]
  have hz : ∀ i, i ≤ code.length → (nth ((List.replicate (code.length + 1) (⟨none, []⟩ : MP)).set 0 ⟨some g, []⟩) i).p ≠ none → i = 0 := by
    intro i hi h
    rw [hn i hi] at h
    apply Classical.byContradiction
    intro h2
    rw [if_neg h2] at h
    exact h rfl
  have hl : ∀ i, i ≤ code.length → (nth ((List.replicate (code.length + 1) (⟨none, []⟩ : MP)).set 0 ⟨some g, []⟩) i).l = [] := by
    intro i hi
    rw [hn i hi]
    split <;> rfl
  have h0 : nth ((List.replicate (code.length + 1) (⟨none, []⟩ : MP)).set 0 ⟨some g, []⟩) 0 = ⟨some g, []⟩ := by rw [hn 0 (by omega), if_pos rfl]
  refine ⟨⟨by simp, ?_, ?_, ?_, ?_, ?_, fun i hi _ => hl i hi, ?_⟩, ?_⟩
  · rw [h0]
    exact ⟨by simp, rfl⟩
  · intro i hi h
    rw [hz i hi h]; exact .zero
  · intro i hi h z _ hs
    rw [hz i hi h] at hs
    exact absurd .zero hs.2
  · intro i hi z hz
    rw [hl i hi] at hz; cases hz
  · intro i hi
    rw [hl i hi]; exact List.nodup_nil
  · intro y hy
    obtain rfl : y = 0 := by simpa using hy
    refine ⟨by omega, by omega, ?_⟩
    rw [show (0 : Int).toNat = 0 from rfl, h0]
    simp
  · intro i hi h hw
    rw [hz i (by omega) h] at hw
    exact absurd (by simp) hw
theorem LkB.take (h : LkB code M wk) (j : Nat) : LkB code M (wk.take j) := ⟨h.len, h.zero, h.rch, h.sup, h.good, h.nd, h.nul, fun y hy => h.wk y (List.mem_of_mem_take hy)⟩
theorem nx_at (hc : CodeC code) (ho : OutC code at_ out) (hk : k < (nextsL code at_).length) : 0 ≤ nth (nextsL code at_) k ∧ nth (nextsL code at_) k ≤ (code.length : Int) := hc.nx at_ ho.lt _ (nth_mem _ _ hk)
/-- A map in one place becomes smaller, or comes into being. -/
theorem LkN.put (hc : CodeC code) (h : LkN code M wk at_ out k) (ho : OutC code at_ out) (hk : k < (nextsL code at_).length) {q : Option Nat} {l : List (Int × Int)} {wk' : List Int} {t : Nat} (ht : t = (nth (nextsL code at_) k).toNat) (hq : q ≠ none)
    (hlo : ∀ z ∈ l, z ∈ out) (hll : (nth M t).p ≠ none → ∀ z ∈ l, z ∈ (nth M t).l) (hup : ∀ z ∈ out, ((nth M t).p ≠ none → z ∈ (nth M t).l) → z ∈ l) (hnd : (l.map (·.1)).Nodup)
    (hwk : wk' = wk ++ [nth (nextsL code at_) k] ∨ (wk' = wk ∧ (nth M t).p ≠ none ∧ l = (nth M t).l)) : LkN code (M.set t ⟨q, l⟩) wk' at_ out (k + 1) := by
  obtain ⟨n1, n2⟩ := nx_at hc ho hk
  have htl : t ≤ code.length := by omega
  have hMl := h.b.len
  have hn : ∀ j, nth (M.set t ⟨q, l⟩) j = if j = t then ⟨q, l⟩ else nth M j := fun j => nth_setM M t j _ (by omega)
  have hsub : ∀ y, y ∈ wk → y ∈ wk' := by
    intro y hy
    rcases hwk with e | ⟨e, _⟩
    · rw [e]; exact List.mem_append_left _ hy
    · rw [e]; exact hy
  have hpn : ∀ j, (nth M j).p ≠ none → (nth (M.set t ⟨q, l⟩) j).p ≠ none := by
    intro j hj
    rw [hn j]; split
    · exact hq
    · exact hj
  have htm : (t : Int) = nth (nextsL code at_) k := by omega
  have hstay : ∀ i : Nat, (i : Int) ∉ wk' → i = t → (nth M i).p ≠ none ∧ l = (nth M i).l := by
    intro i hi e
    rcases hwk with e2 | ⟨_, e2⟩
    · exact absurd (by rw [e2, e, htm]; exact List.mem_append_right _ (List.mem_singleton.2 rfl)) hi
    · rw [e]; exact e2
  have hll' : ∀ i : Nat, (i : Int) ∉ wk' → (nth (M.set t ⟨q, l⟩) i).l = (nth M i).l := by
    intro i hi
    rw [hn i]
    split
    · rename_i e; exact (hstay i hi e).2
    · rfl
  have hclo : ∀ i : Nat, (i : Int) ∉ wk' → Clo code M i → Clo code (M.set t ⟨q, l⟩) i := by
    intro i hi hcl y hy
    obtain ⟨c1, c2⟩ := hcl y hy
    refine ⟨hpn _ c1, fun z hz => ?_⟩
    rw [hll' i hi]
    refine c2 z ?_
    rw [hn] at hz
    split at hz
    · rename_i e; rw [e] at c1 ⊢; exact hll c1 z hz
    · exact hz
  have hrt : RchC code t := by rw [ht]; exact .step at_ _ ho.rch ho.lt (nth_mem _ _ hk)
  refine ⟨⟨by rw [List.length_set]; exact hMl, ?_, ?_, ?_, ?_, ?_, ?_, ?_⟩, ?_, ?_, ?_⟩
  · refine ⟨hpn 0 h.b.zero.1, ?_⟩
    rw [hn 0]
    split
    · rename_i e
      have h3 := h.b.zero
      rw [e] at h3
      apply List.eq_nil_iff_forall_not_mem.2
      intro z hz
      have := hll h3.1 z hz
      rw [h3.2] at this
      cases this
    · exact h.b.zero.2
  · intro i hi hp
    rw [hn i] at hp
    split at hp
    · rename_i e; rw [e]; exact hrt
    · exact h.b.rch i hi hp
  · intro i hi hp z hz hs
    rw [hn i] at hp ⊢
    split at hp
    · rename_i e
      rw [if_pos e]
      rw [e] at hs
      exact hup z (ho.sup _ (nth_mem _ _ hk) z hz (by rw [← ht]; exact hs)) fun h2 => h.b.sup t htl h2 z hz hs
    · rename_i e
      rw [if_neg e]
      exact h.b.sup i hi hp z hz hs
  · intro i hi z hz
    rw [hn i] at hz
    split at hz
    · exact ho.good z (hlo z hz)
    · exact h.b.good i hi z hz
  · intro i hi
    rw [hn i]
    split
    · exact hnd
    · exact h.b.nd i hi
  · intro i hi hp
    rw [hn i] at hp ⊢
    split at hp
    · exact absurd hp hq
    · rename_i e
      rw [if_neg e]; exact h.b.nul i hi hp
  · intro y hy
    have : y ∈ wk ∨ y = nth (nextsL code at_) k := by
      rcases hwk with e | ⟨e, _⟩
      · rw [e] at hy
        rcases List.mem_append.1 hy with hy | hy
        · exact .inl hy
        · exact .inr (List.mem_singleton.1 hy)
      · rw [e] at hy; exact .inl hy
    rcases this with h2 | h2
    · obtain ⟨w1, w2, w3⟩ := h.b.wk y h2
      exact ⟨w1, w2, hpn _ w3⟩
    · subst h2
      refine ⟨n1, n2, ?_⟩
      rw [← ht, hn t, if_pos rfl]; exact hq
  · intro i hi hne hp hw
    by_cases e : i = t
    · obtain ⟨e1, e2⟩ := hstay i hw e
      exact hclo i hw (h.clo i hi hne e1 fun hm => hw (hsub _ hm))
    · rw [hn i, if_neg e] at hp
      exact hclo i hw (h.clo i hi hne hp fun hm => hw (hsub _ hm))
  · intro j hj
    by_cases e : (nth (nextsL code at_) j).toNat = t
    · rw [e, hn t, if_pos rfl]
      exact ⟨hq, hlo⟩
    · rw [hn, if_neg e]
      have : j < k := by
        rcases Nat.lt_or_ge j k with h2 | h2
        · exact h2
        · obtain rfl : j = k := by omega
          exact absurd ht.symm e
      exact h.done j this
  · intro hw
    rw [hll' at_ hw]
    exact h.cur fun hm => hw (hsub _ hm)
theorem mem_inZ {lo l : List (Int × Int)} (hn : (lo.map (·.1)).Nodup) {z : Int × Int} : z ∈ inZ lo l ↔ z ∈ l ∧ z ∈ lo := by
  unfold inZ inP
  rw [List.mem_filter]
  constructor
  · rintro ⟨h1, h2⟩
    refine ⟨h1, ?_⟩
    cases hg : getZ z.1 lo with
    | none => rw [hg] at h2; simp at h2
    | some v =>
      rw [hg] at h2
      have : z.2 = v := by simpa using h2
      have h3 := (getZ_some hn).1 hg
      rw [← this] at h3
      exact h3
  · rintro ⟨h1, h2⟩
    refine ⟨h1, ?_⟩
    have : getZ z.1 lo = some z.2 := (getZ_some hn).2 h2
    rw [this]; simp
theorem LkN.new (hc : CodeC code) (h : LkN code M wk at_ out k) (ho : OutC code at_ out) (hk : k < (nextsL code at_).length) {t : Nat} (ht : t = (nth (nextsL code at_) k).toNat) (hp : (nth M t).p = none) (g : Nat) :
    LkN code (M.set t ⟨some g, out⟩) (wk ++ [nth (nextsL code at_) k]) at_ out (k + 1) ∧ (wk ++ [nth (nextsL code at_) k]).length + muM code.length (M.set t ⟨some g, out⟩) ≤ wk.length + muM code.length M := by
  refine ⟨h.put hc ho hk ht (by simp) (fun z hz => hz) (fun h2 => absurd hp h2) (fun z hz _ => hz) ho.nd (.inl rfl), ?_⟩
  obtain ⟨n1, n2⟩ := nx_at hc ho hk
  have h2 := muM_set code.length ⟨some g, out⟩ M t (by have := h.b.len; omega)
  rw [if_pos hp] at h2
  have h3 := good_len ho.nd ho.good
  simp at h2 ⊢
  omega
theorem LkN.cut (hc : CodeC code) (h : LkN code M wk at_ out k) (ho : OutC code at_ out) (hk : k < (nextsL code at_).length) {t : Nat} (ht : t = (nth (nextsL code at_) k).toNat) (hp : (nth M t).p ≠ none) (hl : (inZ out (nth M t).l).length ≠ (nth M t).l.length) :
    LkN code (M.set t ⟨(nth M t).p, inZ out (nth M t).l⟩) (wk ++ [nth (nextsL code at_) k]) at_ out (k + 1) ∧ (wk ++ [nth (nextsL code at_) k]).length + muM code.length (M.set t ⟨(nth M t).p, inZ out (nth M t).l⟩) ≤ wk.length + muM code.length M := by
  obtain ⟨n1, n2⟩ := nx_at hc ho hk
  have hsub : (inZ out (nth M t).l).Sublist (nth M t).l := List.filter_sublist
  refine ⟨h.put hc ho hk ht hp (fun z hz => ((mem_inZ ho.nd).1 hz).2) (fun _ z hz => hsub.subset hz) (fun z hz h2 => (mem_inZ ho.nd).2 ⟨h2 hp, hz⟩) ((h.b.nd t (by omega)).sublist (hsub.map _)) (.inl rfl), ?_⟩
  have h2 := muM_set code.length ⟨(nth M t).p, inZ out (nth M t).l⟩ M t (by have := h.b.len; omega)
  rw [if_neg hp] at h2
  have h3 := hsub.length_le
  simp only [if_neg hp] at h2
  simp
  omega
theorem LkN.fin (h : LkN code M wk at_ out k) (hk : k = (nextsL code at_).length) : LkI code M wk := by
  refine ⟨h.b, fun i hi hp hw => ?_⟩
  by_cases e : i = at_
  · subst e
    intro y hy
    obtain ⟨j, hj, rfl⟩ := List.getElem_of_mem hy
    have h2 := h.done j (by omega)
    rw [nth_lt _ _ hj] at h2
    rw [← h.cur hw]
    exact h2
  · exact h.clo i hi e hp hw
end
end Go.Proofs.Ytfpaahkleienoaa
