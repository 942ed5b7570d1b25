/-
  The machine's law in plain Lean: states that may be, runs, outcomes; what a search for them keeps. No program is in sight.
-/
import Derived.Test.YtfpaahkleienoaaX22
import Derived.Test.YtfpaahkleienoaaL0
namespace Go.Proofs.Ytfpaahkleienoaa
open Go.RowKit
set_option linter.unusedSimpArgs false
set_option linter.unusedVariables false

/-! ### A state's numbers tell it -/
/-! ### The order of outcomes -/
theorem lessB_irr : ∀ l : List Int, lessB l l = false
  | [] => by simp [lessB]
  | a :: l => by unfold lessB; rw [if_pos rfl]; exact lessB_irr l
theorem lessB_trans : ∀ {l m n : List Int}, lessB l m = true → lessB m n = true → lessB l n = true
  | [], m, [], h1, h2 => by cases m <;> simp [lessB] at h1 h2
  | [], m, c :: n, h1, h2 => by simp [lessB]
  | a :: l, [], n, h1, h2 => by simp [lessB] at h1
  | a :: l, b :: m, [], h1, h2 => by simp [lessB] at h2
  | a :: l, b :: m, c :: n, h1, h2 => by
    unfold lessB at h1 h2 ⊢
    by_cases e1 : a = b
    · by_cases e2 : b = c
      · rw [if_pos e1] at h1; rw [if_pos e2] at h2; rw [if_pos (e1.trans e2)]; exact lessB_trans h1 h2
      · rw [if_neg e2] at h2; subst e1; rw [if_neg e2]; exact h2
    · rw [if_neg e1] at h1
      by_cases e2 : b = c
      · subst e2; rw [if_neg e1]; exact h1
      · rw [if_neg e2] at h2
        have h1' : a < b := by simpa using h1
        have h2' : b < c := by simpa using h2
        rw [if_neg (by omega)]
        simp; omega
theorem lessB_tri : ∀ {l m : List Int}, lessB l m = false → lessB m l = false → l = m
  | [], [], _, _ => rfl
  | [], b :: m, h1, _ => by simp [lessB] at h1
  | a :: l, [], _, h2 => by simp [lessB] at h2
  | a :: l, b :: m, h1, h2 => by
    unfold lessB at h1 h2
    by_cases e : a = b
    · rw [if_pos e] at h1; rw [if_pos e.symm] at h2
      rw [e, lessB_tri h1 h2]
    · rw [if_neg e] at h1; rw [if_neg (fun h => e h.symm)] at h2
      simp at h1 h2; omega
theorem aheadB_tri {a b : Outc} (h1 : aheadB a b = false) (h2 : aheadB b a = false) : a = b := by
  unfold aheadB at h1 h2
  by_cases e : a.st = b.st
  · rw [if_pos e] at h1; rw [if_pos e.symm] at h2
    by_cases e2 : a.words = b.words
    · rw [if_pos e2] at h1; rw [if_pos e2.symm] at h2
      have e3 := lessB_tri h1 h2
      cases a; cases b; simp only at e e2 e3; rw [e, e2, e3]
    · rw [if_neg e2] at h1; rw [if_neg (fun h => e2 h.symm)] at h2
      exact absurd (lessB_tri h1 h2) e2
  · rw [if_neg e] at h1; rw [if_neg (fun h => e h.symm)] at h2
    simp at h1 h2; omega
theorem aheadB_trans {a b c : Outc} (h1 : aheadB a b = true) (h2 : aheadB b c = true) : aheadB a c = true := by
  unfold aheadB at h1 h2 ⊢
  by_cases e1 : a.st = b.st
  · rw [if_pos e1] at h1
    by_cases e2 : b.st = c.st
    · rw [if_pos e2] at h2
      rw [if_pos (e1.trans e2)]
      by_cases f1 : a.words = b.words
      · rw [if_pos f1] at h1
        by_cases f2 : b.words = c.words
        · rw [if_pos f2] at h2; rw [if_pos (f1.trans f2)]; exact lessB_trans h1 h2
        · rw [if_neg f2] at h2; rw [if_neg (fun h => f2 (f1.symm.trans h)), f1]; exact h2
      · rw [if_neg f1] at h1
        by_cases f2 : b.words = c.words
        · rw [if_neg (fun h => f1 (h.trans f2.symm)), ← f2]; exact h1
        · rw [if_neg f2] at h2
          have h3 := lessB_trans h1 h2
          rw [if_neg (fun h => ?_)]
          · exact h3
          · rw [h, lessB_irr] at h3; cases h3
    · rw [if_neg e2] at h2; rw [if_neg (fun h => e2 (e1.symm.trans h)), e1]; exact h2
  · rw [if_neg e1] at h1
    have h1' : a.st < b.st := by simpa using h1
    by_cases e2 : b.st = c.st
    · rw [if_neg (by omega)]; simp; omega
    · rw [if_neg e2] at h2
      have h2' : b.st < c.st := by simpa using h2
      rw [if_neg (by omega)]; simp; omega
def Sorted_ (l : List Outc) : Prop := l.Pairwise fun a b => aheadB a b = true
theorem PutRel.sorted {o : OutL} {l l' : List OutL} (h : PutRel o l l') (hs : Sorted_ (l.map OutL.out)) : Sorted_ (l'.map OutL.out) ∧ ∀ y, y ∈ l'.map OutL.out ↔ y ∈ l.map OutL.out ∨ y = o.out := by
  rcases h with ⟨⟨i, hi, h1, h2⟩, rfl⟩ | ⟨k, hk, h1, h2, rfl⟩
  · refine ⟨hs, fun y => ⟨.inl, fun h => h.elim id fun e => ?_⟩⟩
    rw [e, aheadB_tri h1 h2]
    exact List.mem_map.2 ⟨_, nth_mem _ _ hi, rfl⟩
  · have hsplit : l = l.take k ++ l.drop k := (List.take_append_drop k l).symm
    have hb : ∀ x ∈ l.take k, aheadB x.out o.out = true := by
      intro x hx
      obtain ⟨j, hj⟩ := List.getElem?_of_mem hx
      obtain ⟨hlt, e⟩ := List.getElem?_eq_some_iff.1 hj
      have hjk : j < k := by simp at hlt; omega
      have := (h1 j hjk).2
      rw [nth_lt _ _ (by simp at hlt; omega)] at this
      rw [← e, List.getElem_take]; exact this
    have hs2 : Sorted_ (l.take k |>.map OutL.out) ∧ Sorted_ (l.drop k |>.map OutL.out) ∧ ∀ x ∈ l.take k, ∀ y ∈ l.drop k, aheadB x.out y.out = true := by
      rw [hsplit, List.map_append] at hs
      obtain ⟨a1, a2, a3⟩ := List.pairwise_append.1 hs
      exact ⟨a1, a2, fun x hx y hy => a3 _ (List.mem_map.2 ⟨x, hx, rfl⟩) _ (List.mem_map.2 ⟨y, hy, rfl⟩)⟩
    have ha : ∀ x ∈ l.drop k, aheadB o.out x.out = true := by
      intro x hx
      rcases Nat.lt_or_ge k l.length with hlt | hge
      · have hok := h2 hlt
        rw [nth_lt l k hlt] at hok
        rw [List.drop_eq_getElem_cons hlt] at hx
        rcases List.mem_cons.1 hx with rfl | hx
        · exact hok
        · have h3 := hs2.2.1
          rw [List.drop_eq_getElem_cons hlt, List.map_cons] at h3
          exact aheadB_trans hok ((List.pairwise_cons.1 h3).1 _ (List.mem_map.2 ⟨x, hx, rfl⟩))
      · rw [List.drop_eq_nil_of_le hge] at hx; cases hx
    constructor
    · unfold Sorted_
      rw [List.map_append, List.map_cons]
      refine List.pairwise_append.2 ⟨hs2.1, List.pairwise_cons.2 ⟨fun y hy => ?_, hs2.2.1⟩, fun x hx y hy => ?_⟩
      · obtain ⟨z, hz, rfl⟩ := List.mem_map.1 hy; exact ha z hz
      · obtain ⟨z, hz, rfl⟩ := List.mem_map.1 hx
        rcases List.mem_cons.1 hy with rfl | hy
        · exact hb z hz
        · obtain ⟨u, hu, rfl⟩ := List.mem_map.1 hy; exact hs2.2.2 z hz u hu
    · intro y
      conv => rhs; rw [hsplit]
      simp only [List.map_append, List.map_cons, List.mem_append, List.mem_cons]
      constructor
      · rintro (h | h | h)
        · exact .inl (.inl h)
        · exact .inr h
        · exact .inl (.inr h)
      · rintro ((h | h) | h)
        · exact .inl h
        · exact .inr (.inr h)
        · exact .inr (.inl h)

/-! ### What the search keeps -/
def Handled (p : Pg) (m : Int) (S : List MSt) (E : List Outc) (s : MSt) (t k : Nat) : Prop := if (stepT p m s t k).fell = true then (⟨1, [], (stepT p m s t k).prints⟩ : Outc) ∈ E else s.putT t (stepT p m s t k) ∈ S
structure Expanded (p : Pg) (m : Int) (S : List MSt) (E : List Outc) (s : MSt) : Prop where
  done : ended p s = true → (⟨0, s.words, s.prints⟩ : Outc) ∈ E
  stuck : ended p s = false → Stuck_ p m s → (⟨2, s.words, s.prints⟩ : Outc) ∈ E
  moves : ∀ t k, t < p.code.length → mvOK m (nth p.code t) (s.view t) k = true → Handled p m S E s t k
structure Inv (p : Pg) (m : Int) (S : List MSt) (E : List Outc) (full : Bool) (i : Nat) : Prop where
  start : begin_ p ∈ S
  reach : ∀ s ∈ S, Reach p m s
  pr : ∀ j, j < S.length → (nth S j).prints.length ≤ 2 * j
  len : S.length ≤ 4001
  hfull : full = decide (4000 < S.length)
  sound : ∀ o ∈ E, Outs p m o
  sorted : Sorted_ E
  done : full = false → ∀ j, j < i → Expanded p m S E (nth S j)
theorem Handled.mono {p : Pg} {m : Int} {S S' : List MSt} {E E' : List Outc} {s : MSt} {t k : Nat} (h : Handled p m S E s t k) (hS : ∀ x ∈ S, x ∈ S') (hE : ∀ x ∈ E, x ∈ E') : Handled p m S' E' s t k := by
  unfold Handled at h ⊢
  split at h
  · rename_i hf; rw [if_pos hf]; exact hE _ h
  · rename_i hf; rw [if_neg hf]; exact hS _ h
theorem Expanded.mono {p : Pg} {m : Int} {S S' : List MSt} {E E' : List Outc} {s : MSt} (h : Expanded p m S E s) (hS : ∀ x ∈ S, x ∈ S') (hE : ∀ x ∈ E, x ∈ E') : Expanded p m S' E' s :=
  ⟨fun e => hE _ (h.done e), fun e e2 => hE _ (h.stuck e e2), fun t k ht hk => (h.moves t k ht hk).mono hS hE⟩
/-- At the end all is there. -/
theorem Inv.all {p : Pg} {m : Int} {S : List MSt} {E : List Outc} {i : Nat} (h : Inv p m S E false i) (hi : S.length ≤ i) : ∀ o, o ∈ E ↔ Outs p m o := by
  have hex : ∀ s ∈ S, Expanded p m S E s := by
    intro s hs
    obtain ⟨j, hj⟩ := List.getElem?_of_mem hs
    obtain ⟨hlt, e⟩ := List.getElem?_eq_some_iff.1 hj
    have := h.done rfl j (by omega)
    rwa [nth_lt _ _ hlt, e] at this
  have hall : ∀ s, Reach p m s → s ∈ S := by
    intro s hs
    induction hs with
    | start => exact h.start
    | step hr ht hk hf ih =>
      have := (hex _ ih).moves _ _ ht hk
      unfold Handled at this
      rw [if_neg (by rw [hf]; decide)] at this
      exact this
  intro o
  refine ⟨h.sound o, fun ho => ?_⟩
  cases ho with
  | done hr he => exact (hex _ (hall _ hr)).done he
  | stuck hr he hst => exact (hex _ (hall _ hr)).stuck he hst
  | fell hr ht hk hf =>
    have := (hex _ (hall _ hr)).moves _ _ ht hk
    unfold Handled at this
    rwa [if_pos hf] at this
end Go.Proofs.Ytfpaahkleienoaa
