/-
  The machine's law in plain Lean: states that may be, runs, outcomes; what a search for them keeps. No program is in sight.
-/
import Derived.Test.YtmgikmjmdppfmaaX21
import Derived.Test.YtmgikmjmdppfmaaL0
section
namespace Go.Proofs.Ytmgikmjmdppfmaa
open Go.RowKit
set_option linter.unusedSimpArgs false
set_option linter.unusedVariables false
set_option maxRecDepth 100000
set_option maxHeartbeats 8000000


/-- The last of n keys with a sum. -/
def LastSum (ks : List (List Int)) (n h : Nat) (r : Int) : Prop := (r = -1 ∧ ∀ j, j < n → sumL (nth ks j) ≠ h) ∨ ∃ k : Nat, r = k ∧ k < n ∧ sumL (nth ks k) = h ∧ ∀ j, k < j → j < n → sumL (nth ks j) ≠ h
theorem LastSum.lt {ks : List (List Int)} {n h : Nat} {r : Int} (hl : LastSum ks n h r) : -1 ≤ r ∧ r < n := by
  rcases hl with ⟨h, _⟩ | ⟨k, h, h2, _⟩ <;> omega
theorem LastSum.at {ks : List (List Int)} {n h : Nat} {r : Int} (hl : LastSum ks n h r) (h0 : 0 ≤ r) : sumL (nth ks r.toNat) = h ∧ ∀ j, r.toNat < j → j < n → sumL (nth ks j) ≠ h := by
  rcases hl with ⟨h, _⟩ | ⟨k, rfl, h2, h3, h4⟩
  · omega
  · exact ⟨by simpa using h3, fun j hj => h4 j (by simpa using hj)⟩
theorem LastSum.none {ks : List (List Int)} {n h : Nat} {r : Int} (hl : LastSum ks n h r) (h0 : ¬ 0 ≤ r) : ∀ j, j < n → sumL (nth ks j) ≠ h := by
  rcases hl with ⟨_, h⟩ | ⟨k, rfl, _⟩
  · exact h
  · omega
structure HeadsOK (ks : List (List Int)) (heads before : List Int) : Prop where
  hl : heads.length = 4096
  bl : before.length = ks.length
  hd : ∀ h, h < 4096 → LastSum ks ks.length h (nth heads h)
  bf : ∀ i, i < ks.length → LastSum ks i (sumL (nth ks i)) (nth before i)
theorem nth_app0 {α : Type} [Inhabited α] (l m : List α) (k : Nat) : nth (l ++ m) k = if k < l.length then nth l k else nth m (k - l.length) := by
  simp only [nth, List.getD]
  by_cases h : k < l.length
  · rw [List.getElem?_append_left h, if_pos h]
  · rw [List.getElem?_append_right (by omega), if_neg h]
theorem LastSum.more {ks : List (List Int)} {n h : Nat} {r : Int} (x : List Int) (hl : LastSum ks n h r) (hn : n ≤ ks.length) : LastSum (ks ++ [x]) n h r := by
  have e : ∀ j, j < n → nth (ks ++ [x]) j = nth ks j := fun j hj => by rw [nth_app0, if_pos (by omega)]
  rcases hl with ⟨h1, h2⟩ | ⟨k, h1, h2, h3, h4⟩
  · exact .inl ⟨h1, fun j hj => by rw [e j hj]; exact h2 j hj⟩
  · exact .inr ⟨k, h1, h2, by rw [e k h2]; exact h3, fun j hj hj2 => by rw [e j hj2]; exact h4 j hj hj2⟩
theorem HeadsOK.put {ks : List (List Int)} {heads before : List Int} (h : HeadsOK ks heads before) (x : List Int) : HeadsOK (ks ++ [x]) (heads.set (sumL x) ((ks.length : Nat) : Int)) (before ++ [nth heads (sumL x)]) := by
  have hx : nth (ks ++ [x]) ks.length = x := by rw [nth_app0, if_neg (by omega)]; simp [nth]
  refine ⟨by simpa using h.hl, by simp [h.bl], fun s hs => ?_, fun i hi => ?_⟩
  · rw [nth_set]
    by_cases e : sumL x = s
    · rw [if_pos ⟨e, by rw [h.hl]; exact sumL_lt x⟩]
      exact .inr ⟨ks.length, rfl, by simp, by rw [hx]; exact e, fun j hj hj2 => by simp at hj2; omega⟩
    · rw [if_neg (fun hh => e hh.1)]
      rcases h.hd s hs with ⟨h1, h2⟩ | ⟨k, h1, h2, h3, h4⟩
      · refine .inl ⟨h1, fun j hj => ?_⟩
        simp at hj
        rcases Nat.lt_or_ge j ks.length with hlt | hge
        · rw [nth_app0, if_pos hlt]; exact h2 j hlt
        · obtain rfl : j = ks.length := by omega
          rw [hx]; exact e
      · refine .inr ⟨k, h1, by simp; omega, by rw [nth_app0, if_pos h2]; exact h3, fun j hj hj2 => ?_⟩
        simp at hj2
        rcases Nat.lt_or_ge j ks.length with hlt | hge
        · rw [nth_app0, if_pos hlt]; exact h4 j hj hlt
        · obtain rfl : j = ks.length := by omega
          rw [hx]; exact e
  · simp at hi
    rcases Nat.lt_or_ge i ks.length with hlt | hge
    · rw [nth_app0 ks, if_pos hlt, nth_app0 before, if_pos (by rw [h.bl]; exact hlt)]
      exact (h.bf i hlt).more x (by omega)
    · obtain rfl : i = ks.length := by omega
      rw [hx, nth_app0 before, if_neg (by rw [h.bl]; omega), h.bl]
      have := (h.hd (sumL x) (sumL_lt x)).more x (Nat.le_refl _)
      simpa [nth] using this
/-- Which outcomes are there when one more is put in. -/
def PutRel (o : OutL) (l l' : List OutL) : Prop := ((∃ i, i < l.length ∧ aheadB o.out (nth l i).out = false ∧ aheadB (nth l i).out o.out = false) ∧ l' = l) ∨
  ∃ k, k ≤ l.length ∧ (∀ j, j < k → aheadB o.out (nth l j).out = false ∧ aheadB (nth l j).out o.out = true) ∧ (k < l.length → aheadB o.out (nth l k).out = true) ∧ l' = l.take k ++ o :: l.drop k
def PutInv (o : OutL) (l : List OutL) (i : Nat) (dn : Bool) (ol : List OutL) : Prop := (dn = false ∧ ol = l.take i ∧ ∀ j, j < i → aheadB o.out (nth l j).out = false ∧ aheadB (nth l j).out o.out = true) ∨
  (dn = true ∧ ∃ k, k < i ∧ k < l.length ∧ (∀ j, j < k → aheadB o.out (nth l j).out = false ∧ aheadB (nth l j).out o.out = true) ∧ aheadB o.out (nth l k).out = true ∧ ol = l.take k ++ o :: (l.drop k).take (i - k))
theorem PutInv.one {o : OutL} {l ol : List OutL} {i : Nat} (h : PutInv o l i false ol) (hi : i < l.length) (h1 : aheadB o.out (nth l i).out = true) : PutInv o l (i + 1) true ((ol ++ [o]) ++ [nth l i]) := by
  rcases h with ⟨_, h2, h3⟩ | ⟨h, _⟩
  · refine .inr ⟨rfl, i, by omega, hi, h3, h1, ?_⟩
    have e1 : (l.drop i).take 1 = [nth l i] := by rw [List.drop_eq_getElem_cons hi, nth_lt l i hi]; rfl
    rw [h2, show i + 1 - i = 1 by omega, e1]
    simp
  · cases h
theorem PutInv.two {o : OutL} {l ol : List OutL} {i : Nat} {dn : Bool} (h : PutInv o l i dn ol) (hi : i < l.length) (h1 : dn = true ∨ (aheadB o.out (nth l i).out = false ∧ aheadB (nth l i).out o.out = true)) : PutInv o l (i + 1) dn (ol ++ [nth l i]) := by
  rcases h with ⟨h, h2, h3⟩ | ⟨h, k, h2, h3, h4, h5, h6⟩
  · refine .inl ⟨h, by rw [h2, take_succ_nth _ _ hi], fun j hj => ?_⟩
    rcases Nat.lt_or_ge j i with hlt | hge
    · exact h3 j hlt
    · obtain rfl : j = i := by omega
      rcases h1 with h1 | h1
      · rw [h] at h1; cases h1
      · exact h1
  · refine .inr ⟨h, k, by omega, h3, h4, h5, ?_⟩
    rw [h6, show i + 1 - k = (i - k) + 1 by omega, take_succ_nth _ _ (by simp; omega)]
    have : nth (l.drop k) (i - k) = nth l i := by simp only [nth, List.getD, List.getElem?_drop, show k + (i - k) = i by omega]
    rw [this]; simp
theorem PutInv.rel {o : OutL} {l ol : List OutL} {i : Nat} (h : PutInv o l i true ol) (hi : i = l.length) : PutRel o l ol := by
  rcases h with ⟨h, _⟩ | ⟨_, k, h2, h3, h4, h5, h6⟩
  · cases h
  · exact .inr ⟨k, by omega, h4, fun _ => h5, by rw [h6, List.take_of_length_le (l := l.drop k) (by rw [List.length_drop]; omega)]⟩
theorem PutInv.len {o : OutL} {l ol : List OutL} {i : Nat} {dn : Bool} (h : PutInv o l i dn ol) (hi : i ≤ l.length) : ol.length ≤ i + 1 := by
  rcases h with ⟨_, h2, _⟩ | ⟨_, k, h2, h3, _, _, h6⟩
  · rw [h2]; simp; omega
  · rw [h6]; simp; omega
end Go.Proofs.Ytmgikmjmdppfmaa
end
namespace Go.Proofs.Ytmgikmjmdppfmaa
open Go.RowKit
set_option linter.unusedSimpArgs false
set_option linter.unusedVariables false

/-! ### A state's numbers tell it -/
/-! ### The order of outcomes -/
theorem lessB_irr : ∀ l : List Int, lessB l l = false
  | [] => by simp [lessB]
  | a :: l => by unfold lessB; rw [if_pos rfl]; exact lessB_irr l
theorem lessB_trans : ∀ {l m n : List Int}, lessB l m = true → lessB m n = true → lessB l n = true
  | [], m, [], h1, h2 => by cases m <;> simp [lessB] at h1 h2
  | [], m, c :: n, h1, h2 => by simp [lessB]
  | a :: l, [], n, h1, h2 => by simp [lessB] at h1
  | a :: l, b :: m, [], h1, h2 => by simp [lessB] at h2
  | a :: l, b :: m, c :: n, h1, h2 => by
    unfold lessB at h1 h2 ⊢
    by_cases e1 : a = b
    · by_cases e2 : b = c
      · rw [if_pos e1] at h1; rw [if_pos e2] at h2; rw [if_pos (e1.trans e2)]; exact lessB_trans h1 h2
      · rw [if_neg e2] at h2; subst e1; rw [if_neg e2]; exact h2
    · rw [if_neg e1] at h1
      by_cases e2 : b = c
      · subst e2; rw [if_neg e1]; exact h1
      · rw [if_neg e2] at h2
        have h1' : a < b := by simpa using h1
        have h2' : b < c := by simpa using h2
        rw [if_neg (by omega)]
        simp; omega
theorem lessB_tri : ∀ {l m : List Int}, lessB l m = false → lessB m l = false → l = m
  | [], [], _, _ => rfl
  | [], b :: m, h1, _ => by simp [lessB] at h1
  | a :: l, [], _, h2 => by simp [lessB] at h2
  | a :: l, b :: m, h1, h2 => by
    unfold lessB at h1 h2
    by_cases e : a = b
    · rw [if_pos e] at h1; rw [if_pos e.symm] at h2
      rw [e, lessB_tri h1 h2]
    · rw [if_neg e] at h1; rw [if_neg (fun h => e h.symm)] at h2
      simp at h1 h2; omega
theorem aheadB_tri {a b : Outc} (h1 : aheadB a b = false) (h2 : aheadB b a = false) : a = b := by
  unfold aheadB at h1 h2
  by_cases e : a.st = b.st
  · rw [if_pos e] at h1; rw [if_pos e.symm] at h2
    by_cases e2 : a.words = b.words
    · rw [if_pos e2] at h1; rw [if_pos e2.symm] at h2
      have e3 := lessB_tri h1 h2
      cases a; cases b; simp only at e e2 e3; rw [e, e2, e3]
    · rw [if_neg e2] at h1; rw [if_neg (fun h => e2 h.symm)] at h2
      exact absurd (lessB_tri h1 h2) e2
  · rw [if_neg e] at h1; rw [if_neg (fun h => e h.symm)] at h2
    simp at h1 h2; omega
theorem aheadB_trans {a b c : Outc} (h1 : aheadB a b = true) (h2 : aheadB b c = true) : aheadB a c = true := by
  unfold aheadB at h1 h2 ⊢
  by_cases e1 : a.st = b.st
  · rw [if_pos e1] at h1
    by_cases e2 : b.st = c.st
    · rw [if_pos e2] at h2
      rw [if_pos (e1.trans e2)]
      by_cases f1 : a.words = b.words
      · rw [if_pos f1] at h1
        by_cases f2 : b.words = c.words
        · rw [if_pos f2] at h2; rw [if_pos (f1.trans f2)]; exact lessB_trans h1 h2
        · rw [if_neg f2] at h2; rw [if_neg (fun h => f2 (f1.symm.trans h)), f1]; exact h2
      · rw [if_neg f1] at h1
        by_cases f2 : b.words = c.words
        · rw [if_neg (fun h => f1 (h.trans f2.symm)), ← f2]; exact h1
        · rw [if_neg f2] at h2
          have h3 := lessB_trans h1 h2
          rw [if_neg (fun h => ?_)]
          · exact h3
          · rw [h, lessB_irr] at h3; cases h3
    · rw [if_neg e2] at h2; rw [if_neg (fun h => e2 (e1.symm.trans h)), e1]; exact h2
  · rw [if_neg e1] at h1
    have h1' : a.st < b.st := by simpa using h1
    by_cases e2 : b.st = c.st
    · rw [if_neg (by omega)]; simp; omega
    · rw [if_neg e2] at h2
      have h2' : b.st < c.st := by simpa using h2
      rw [if_neg (by omega)]; simp; omega
def Sorted_ (l : List Outc) : Prop := l.Pairwise fun a b => aheadB a b = true
theorem PutRel.sorted {o : OutL} {l l' : List OutL} (h : PutRel o l l') (hs : Sorted_ (l.map OutL.out)) : Sorted_ (l'.map OutL.out) ∧ ∀ y, y ∈ l'.map OutL.out ↔ y ∈ l.map OutL.out ∨ y = o.out := by
  rcases h with ⟨⟨i, hi, h1, h2⟩, rfl⟩ | ⟨k, hk, h1, h2, rfl⟩
  · refine ⟨hs, fun y => ⟨.inl, fun h => h.elim id fun e => ?_⟩⟩
    rw [e, aheadB_tri h1 h2]
    exact List.mem_map.2 ⟨_, nth_mem _ _ hi, rfl⟩
  · have hsplit : l = l.take k ++ l.drop k := (List.take_append_drop k l).symm
    have hb : ∀ x ∈ l.take k, aheadB x.out o.out = true := by
      intro x hx
      obtain ⟨j, hj⟩ := List.getElem?_of_mem hx
      obtain ⟨hlt, e⟩ := List.getElem?_eq_some_iff.1 hj
      have hjk : j < k := by simp at hlt; omega
      have := (h1 j hjk).2
      rw [nth_lt _ _ (by simp at hlt; omega)] at this
      rw [← e, List.getElem_take]; exact this
    have hs2 : Sorted_ (l.take k |>.map OutL.out) ∧ Sorted_ (l.drop k |>.map OutL.out) ∧ ∀ x ∈ l.take k, ∀ y ∈ l.drop k, aheadB x.out y.out = true := by
      rw [hsplit, List.map_append] at hs
      obtain ⟨a1, a2, a3⟩ := List.pairwise_append.1 hs
      exact ⟨a1, a2, fun x hx y hy => a3 _ (List.mem_map.2 ⟨x, hx, rfl⟩) _ (List.mem_map.2 ⟨y, hy, rfl⟩)⟩
    have ha : ∀ x ∈ l.drop k, aheadB o.out x.out = true := by
      intro x hx
      rcases Nat.lt_or_ge k l.length with hlt | hge
      · have hok := h2 hlt
        rw [nth_lt l k hlt] at hok
        rw [List.drop_eq_getElem_cons hlt] at hx
        rcases List.mem_cons.1 hx with rfl | hx
        · exact hok
        · have h3 := hs2.2.1
          rw [List.drop_eq_getElem_cons hlt, List.map_cons] at h3
          exact aheadB_trans hok ((List.pairwise_cons.1 h3).1 _ (List.mem_map.2 ⟨x, hx, rfl⟩))
      · rw [List.drop_eq_nil_of_le hge] at hx; cases hx
    constructor
    · unfold Sorted_
      rw [List.map_append, List.map_cons]
      refine List.pairwise_append.2 ⟨hs2.1, List.pairwise_cons.2 ⟨fun y hy => ?_, hs2.2.1⟩, fun x hx y hy => ?_⟩
      · obtain ⟨z, hz, rfl⟩ := List.mem_map.1 hy; exact ha z hz
      · obtain ⟨z, hz, rfl⟩ := List.mem_map.1 hx
        rcases List.mem_cons.1 hy with rfl | hy
        · exact hb z hz
        · obtain ⟨u, hu, rfl⟩ := List.mem_map.1 hy; exact hs2.2.2 z hz u hu
    · intro y
      conv => rhs; rw [hsplit]
      simp only [List.map_append, List.map_cons, List.mem_append, List.mem_cons]
      constructor
      · rintro (h | h | h)
        · exact .inl (.inl h)
        · exact .inr h
        · exact .inl (.inr h)
      · rintro ((h | h) | h)
        · exact .inl h
        · exact .inr (.inr h)
        · exact .inr (.inl h)

/-! ### What the search keeps -/
def Handled (p : Pg) (m : Int) (S : List MSt) (E : List Outc) (s : MSt) (t k : Nat) : Prop := if (stepT p m s t k).fell = true then (⟨1, [], (stepT p m s t k).prints⟩ : Outc) ∈ E else s.putT t (stepT p m s t k) ∈ S
structure Expanded (p : Pg) (m : Int) (S : List MSt) (E : List Outc) (s : MSt) : Prop where
  done : ended p s = true → (⟨0, s.words, s.prints⟩ : Outc) ∈ E
  stuck : ended p s = false → Stuck_ p m s → (⟨2, s.words, s.prints⟩ : Outc) ∈ E
  moves : ∀ t k, t < p.code.length → mvOK m (nth p.code t) (s.view t) k = true → Handled p m S E s t k
structure Inv (p : Pg) (m : Int) (S : List MSt) (E : List Outc) (full : Bool) (i : Nat) : Prop where
  start : begin_ p ∈ S
  reach : ∀ s ∈ S, Reach p m s
  pr : ∀ j, j < S.length → (nth S j).prints.length ≤ 2 * j
  len : S.length ≤ 4001
  hfull : full = decide (4000 < S.length)
  sound : ∀ o ∈ E, Outs p m o
  sorted : Sorted_ E
  done : full = false → ∀ j, j < i → Expanded p m S E (nth S j)
  nd : S.Nodup
/-- More states than the document goes through can be come to. -/
def Big (p : Pg) (m : Int) : Prop := ∃ S : List MSt, S.Nodup ∧ (∀ s ∈ S, Reach p m s) ∧ 4000 < S.length
theorem nodup_sub : ∀ {S T : List MSt}, S.Nodup → (∀ s ∈ S, s ∈ T) → S.length ≤ T.length
  | [], _, _, _ => Nat.zero_le _
  | a :: S, T, h, hs => by
    obtain ⟨h1, h2⟩ := List.nodup_cons.1 h
    have ha := hs a (by simp)
    have := nodup_sub (S := S) (T := T.erase a) h2 fun s hm => (List.mem_erase_of_ne (fun (e : s = a) => h1 (by rw [← e]; exact hm))).2 (hs s (by simp [hm]))
    rw [List.length_erase_of_mem ha] at this
    have := List.length_pos_of_mem ha
    simp only [List.length_cons]; omega
theorem Handled.mono {p : Pg} {m : Int} {S S' : List MSt} {E E' : List Outc} {s : MSt} {t k : Nat} (h : Handled p m S E s t k) (hS : ∀ x ∈ S, x ∈ S') (hE : ∀ x ∈ E, x ∈ E') : Handled p m S' E' s t k := by
  unfold Handled at h ⊢
  split at h
  · rename_i hf; rw [if_pos hf]; exact hE _ h
  · rename_i hf; rw [if_neg hf]; exact hS _ h
theorem Expanded.mono {p : Pg} {m : Int} {S S' : List MSt} {E E' : List Outc} {s : MSt} (h : Expanded p m S E s) (hS : ∀ x ∈ S, x ∈ S') (hE : ∀ x ∈ E, x ∈ E') : Expanded p m S' E' s :=
  ⟨fun e => hE _ (h.done e), fun e e2 => hE _ (h.stuck e e2), fun t k ht hk => (h.moves t k ht hk).mono hS hE⟩
theorem Inv.states {p : Pg} {m : Int} {S : List MSt} {E : List Outc} {i : Nat} (h : Inv p m S E false i) (hi : S.length ≤ i) : ∀ s, s ∈ S ↔ Reach p m s := by
  intro s
  refine ⟨h.reach s, fun hs => ?_⟩
  induction hs with
  | start => exact h.start
  | @step s t k hr ht hk hf ih =>
    obtain ⟨j, hj⟩ := List.getElem?_of_mem ih
    obtain ⟨hlt, e⟩ := List.getElem?_eq_some_iff.1 hj
    have h9 := h.done rfl j (by omega)
    rw [nth_lt _ _ hlt, e] at h9
    have := h9.moves _ _ ht hk
    unfold Handled at this
    rw [if_neg (by rw [hf]; decide)] at this
    exact this
theorem Inv.big {p : Pg} {m : Int} {S : List MSt} {E : List Outc} {full : Bool} {i : Nat} (h : Inv p m S E full i) (hi : full = true ∨ S.length ≤ i) : full = true ↔ Big p m := by
  constructor
  · intro hf
    have := h.hfull
    rw [hf] at this
    exact ⟨S, h.nd, h.reach, of_decide_eq_true this.symm⟩
  · rintro ⟨T, h1, h2, h3⟩
    cases hf : full with
    | true => rfl
    | false =>
      rw [hf] at hi h
      have h4 := nodup_sub h1 fun s hs => (h.states (hi.resolve_left Bool.false_ne_true) s).2 (h2 s hs)
      have := h.hfull
      have := of_decide_eq_false this.symm
      omega
/-- At the end all is there. -/
theorem Inv.all {p : Pg} {m : Int} {S : List MSt} {E : List Outc} {i : Nat} (h : Inv p m S E false i) (hi : S.length ≤ i) : ∀ o, o ∈ E ↔ Outs p m o := by
  have hex : ∀ s ∈ S, Expanded p m S E s := by
    intro s hs
    obtain ⟨j, hj⟩ := List.getElem?_of_mem hs
    obtain ⟨hlt, e⟩ := List.getElem?_eq_some_iff.1 hj
    have := h.done rfl j (by omega)
    rwa [nth_lt _ _ hlt, e] at this
  have hall : ∀ s, Reach p m s → s ∈ S := by
    intro s hs
    induction hs with
    | start => exact h.start
    | step hr ht hk hf ih =>
      have := (hex _ ih).moves _ _ ht hk
      unfold Handled at this
      rw [if_neg (by rw [hf]; decide)] at this
      exact this
  intro o
  refine ⟨h.sound o, fun ho => ?_⟩
  cases ho with
  | done hr he => exact (hex _ (hall _ hr)).done he
  | stuck hr he hst => exact (hex _ (hall _ hr)).stuck he hst
  | fell hr ht hk hf =>
    have := (hex _ (hall _ hr)).moves _ _ ht hk
    unfold Handled at this
    rwa [if_pos hf] at this
end Go.Proofs.Ytmgikmjmdppfmaa
