/-
  What could have been: the search for an order, in plain Lean. No program is in sight.
-/
import Derived.Test.YtanhbpofhebbaaaS17
namespace Go.Proofs.Ytanhbpofhebbaaa
open Go.RowKit
set_option linter.unusedSimpArgs false
set_option linter.unusedVariables false

/-- An event is read as an order: op the thread, a the word, b the kind (1: Load, 2: Store), c the value. -/
inductive Can (T : List (List Ins)) : List Nat → List Int → Prop
  | done (p : List Nat) (ws : List Int) : (∀ t, t < T.length → nth p t = (nth T t).length) → Can T p ws
  | store (p : List Nat) (ws : List Int) (t : Nat) : t < T.length → nth p t < (nth T t).length → (nth (nth T t) (nth p t)).b = 2 → Can T (p.set t (nth p t + 1)) (ws.set (nth (nth T t) (nth p t)).a.toNat (nth (nth T t) (nth p t)).c) → Can T p ws
  | load (p : List Nat) (ws : List Int) (t : Nat) : t < T.length → nth p t < (nth T t).length → (nth (nth T t) (nth p t)).b ≠ 2 → nth ws (nth (nth T t) (nth p t)).a.toNat = (nth (nth T t) (nth p t)).c → Can T (p.set t (nth p t + 1)) ws → Can T p ws
def endB (T : List (List Ins)) (p : List Nat) : Bool := (List.range T.length).all fun t => decide (nth p t = (nth T t).length)
def canF (T : List (List Ins)) : Nat → List Nat → List Int → Bool
  | 0, p, _ => endB T p
  | n + 1, p, ws => endB T p || (List.range T.length).any fun t => decide (nth p t < (nth T t).length) &&
      (if (nth (nth T t) (nth p t)).b = 2 then canF T n (p.set t (nth p t + 1)) (ws.set (nth (nth T t) (nth p t)).a.toNat (nth (nth T t) (nth p t)).c)
       else decide (nth ws (nth (nth T t) (nth p t)).a.toNat = (nth (nth T t) (nth p t)).c) && canF T n (p.set t (nth p t + 1)) ws)
def sumTo (f : Nat → Nat) : Nat → Nat
  | 0 => 0
  | n + 1 => sumTo f n + f n
theorem sumTo_congr {f g : Nat → Nat} : ∀ {n : Nat}, (∀ i, i < n → f i = g i) → sumTo f n = sumTo g n
  | 0, _ => rfl
  | n + 1, h => by rw [sumTo, sumTo, sumTo_congr (fun i hi => h i (by omega)), h n (by omega)]
theorem sumTo_one {f g : Nat → Nat} {t : Nat} : ∀ {n : Nat}, t < n → (∀ i, i < n → i ≠ t → f i = g i) → f t = g t + 1 → sumTo f n = sumTo g n + 1
  | 0, h, _, _ => by omega
  | n + 1, h, h1, h2 => by
    rw [sumTo, sumTo]
    by_cases e : t = n
    · subst e
      rw [sumTo_congr (fun i hi => h1 i (by omega) (by omega)), h2]; omega
    · rw [sumTo_one (by omega) (fun i hi => h1 i (by omega)) h2, h1 n (by omega) (fun e9 => e e9.symm)]; omega
/-- How many events are left. -/
def restN (T : List (List Ins)) (p : List Nat) : Nat := sumTo (fun t => (nth T t).length - nth p t) T.length
def can (T : List (List Ins)) (p : List Nat) (ws : List Int) : Bool := canF T (restN T p) p ws
theorem nth_setN (l : List Nat) (i k n : Nat) : nth (l.set i n) k = if i = k ∧ i < l.length then n else nth l k := by
  simp only [nth, List.getD_eq_getElem?_getD, List.getElem?_set]
  by_cases h : i = k
  · subst h
    by_cases h2 : i < l.length
    · rw [if_pos rfl, if_pos h2, if_pos ⟨rfl, h2⟩]; rfl
    · rw [if_pos rfl, if_neg h2, if_neg (fun e => h2 e.2), List.getElem?_eq_none (by omega)]
  · rw [if_neg h, if_neg (fun e => h e.1)]
theorem rest_step {T : List (List Ins)} {p : List Nat} {t : Nat} (hp : p.length = T.length) (ht : t < T.length) (h : nth p t < (nth T t).length) : restN T p = restN T (p.set t (nth p t + 1)) + 1 := by
  unfold restN
  refine sumTo_one ht (fun i hi hne => ?_) ?_
  · rw [nth_setN, if_neg (fun e => hne e.1.symm)]
  · rw [nth_setN, if_pos ⟨rfl, by omega⟩]; omega
/-- One step of the search. -/
def stepB (T : List (List Ins)) (p : List Nat) (ws : List Int) (t : Nat) : Bool := decide (nth p t < (nth T t).length) &&
  (if (nth (nth T t) (nth p t)).b = 2 then can T (p.set t (nth p t + 1)) (ws.set (nth (nth T t) (nth p t)).a.toNat (nth (nth T t) (nth p t)).c)
   else decide (nth ws (nth (nth T t) (nth p t)).a.toNat = (nth (nth T t) (nth p t)).c) && can T (p.set t (nth p t + 1)) ws)
theorem any_congr' {l : List Nat} {f g : Nat → Bool} (h : ∀ x ∈ l, f x = g x) : l.any f = l.any g := by
  induction l with
  | nil => rfl
  | cons a l ih => rw [List.any_cons, List.any_cons, h a (by simp), ih fun x hx => h x (by simp [hx])]
theorem can_eq {T : List (List Ins)} {p : List Nat} {ws : List Int} (hp : p.length = T.length) : can T p ws = (endB T p || (List.range T.length).any (stepB T p ws)) := by
  have hz : ∀ {t}, t < T.length → nth p t < (nth T t).length → ∀ {n}, restN T p = n → n = restN T (p.set t (nth p t + 1)) + 1 := fun ht h n e => by rw [← e]; exact rest_step hp ht h
  unfold can
  cases hr : restN T p with
  | zero =>
    have : (List.range T.length).any (stepB T p ws) = false := by
      rw [List.any_eq_false]
      intro t ht
      have ht := List.mem_range.1 ht
      have hn : ¬ nth p t < (nth T t).length := fun h => by have := hz ht h hr; omega
      unfold stepB
      rw [decide_eq_false hn, Bool.false_and]; decide
    rw [canF, this, Bool.or_false]
  | succ n =>
    rw [canF]
    congr 1
    apply any_congr'
    intro t ht
    have ht := List.mem_range.1 ht
    unfold stepB
    by_cases h : nth p t < (nth T t).length
    · have e := hz ht h hr
      have e2 : n = restN T (p.set t (nth p t + 1)) := by omega
      unfold can
      rw [e2]
    · rw [decide_eq_false h, Bool.false_and, Bool.false_and]
theorem can_iff {T : List (List Ins)} : ∀ (n : Nat) {p : List Nat} {ws : List Int}, restN T p = n → p.length = T.length → (can T p ws = true ↔ Can T p ws) := by
  intro n
  induction n with
  | zero =>
    intro p ws hr hp
    rw [can_eq hp]
    constructor
    · intro h
      rcases (Bool.or_eq_true _ _).mp h with h | h
      · exact .done p ws fun t ht => of_decide_eq_true (List.all_eq_true.1 h t (List.mem_range.2 ht))
      · obtain ⟨t, ht, h⟩ := List.any_eq_true.1 h
        have h1 := of_decide_eq_true ((Bool.and_eq_true _ _).mp h).1
        have := rest_step hp (List.mem_range.1 ht) h1
        omega
    · intro h
      cases h with
      | done _ _ h => rw [show endB T p = true from List.all_eq_true.2 fun t ht => decide_eq_true (h t (List.mem_range.1 ht)), Bool.true_or]
      | store _ _ t ht h => have := rest_step hp ht h; omega
      | load _ _ t ht h => have := rest_step hp ht h; omega
  | succ n ih =>
    intro p ws hr hp
    rw [can_eq hp]
    have key : ∀ t, t < T.length → nth p t < (nth T t).length → ∀ ws, (can T (p.set t (nth p t + 1)) ws = true ↔ Can T (p.set t (nth p t + 1)) ws) := fun t ht h ws =>
      ih (by have := rest_step hp ht h; omega) (by rw [List.length_set]; exact hp)
    constructor
    · intro h
      rcases (Bool.or_eq_true _ _).mp h with h | h
      · exact .done p ws fun t ht => of_decide_eq_true (List.all_eq_true.1 h t (List.mem_range.2 ht))
      · obtain ⟨t, ht, h⟩ := List.any_eq_true.1 h
        have ht := List.mem_range.1 ht
        obtain ⟨h0, h1⟩ := (Bool.and_eq_true _ _).mp h
        have h0 := of_decide_eq_true h0
        split at h1
        · rename_i h2; exact .store p ws t ht h0 h2 ((key t ht h0 _).1 h1)
        · rename_i h2
          obtain ⟨h3, h4⟩ := (Bool.and_eq_true _ _).mp h1
          exact .load p ws t ht h0 h2 (of_decide_eq_true h3) ((key t ht h0 _).1 h4)
    · intro h
      cases h with
      | done _ _ h => rw [show endB T p = true from List.all_eq_true.2 fun t ht => decide_eq_true (h t (List.mem_range.1 ht)), Bool.true_or]
      | store _ _ t ht h0 h2 h =>
        rw [Bool.or_eq_true]
        refine .inr (List.any_eq_true.2 ⟨t, List.mem_range.2 ht, ?_⟩)
        unfold stepB
        rw [decide_eq_true h0, if_pos h2, Bool.true_and]
        exact (key t ht h0 _).2 h
      | load _ _ t ht h0 h2 h3 h =>
        rw [Bool.or_eq_true]
        refine .inr (List.any_eq_true.2 ⟨t, List.mem_range.2 ht, ?_⟩)
        unfold stepB
        rw [decide_eq_true h0, if_neg h2, decide_eq_true h3, Bool.true_and, Bool.true_and]
        exact (key t ht h0 _).2 h
/-! ### What was seen -/
def inS (M : List (List Nat × Ls (Ls Int))) (k : List Nat) (l : List Int) : Prop := ∃ x ∈ M, x.1 = k ∧ ∃ s ∈ x.2.l, s.l = l
def SeenOK (T : List (List Ins)) (M : List (List Nat × Ls (Ls Int))) (d : Nat) : Prop := ∀ k l, inS M k l → d ≤ k.sum → can T k l = false
def cntM (M : List (List Nat × Ls (Ls Int))) : Nat := (M.map fun x => x.2.l.length).sum
def KeysOK (M : List (List Nat × Ls (Ls Int))) : Prop := ∀ x ∈ M, x.1.length = 4
def bnd : Nat → Nat
  | 0 => 1
  | n + 1 => 1 + 4 * bnd n
def bq : Nat → Nat
  | 0 => 0
  | n + 1 => bnd n
theorem bnd_bq (n : Nat) : bnd n = 1 + 4 * bq n := by cases n <;> rfl
theorem seen_hit {T : List (List Ins)} {M : List (List Nat × Ls (Ls Int))} {k : List Nat} {l : List Int} (h : SeenOK T M k.sum) (hr : ((rowK k M).l.any fun s => decide (s.l = l)) = true) : can T k l = false := by
  obtain ⟨s, hs, he⟩ := List.any_eq_true.1 hr
  refine h k l ?_ (Nat.le_refl _)
  cases hf : findK k (kvs M) with
  | none => rw [(rowK_none hf).2.2] at hs; cases hs
  | some q =>
    obtain ⟨_, _, h3, h4, h5⟩ := rowK_some hf
    rw [h5] at hs
    exact ⟨nth M q, nth_mem _ _ h3, h4, s, hs, of_decide_eq_true he⟩
/-- With one more. -/
def insK (k : List Nat) (ws : Ls Int) (M : List (List Nat × Ls (Ls Int))) (u : Value) : List (List Nat × Ls (Ls Int)) :=
  (ensK k M).set (idxK k M) ((nth (ensK k M) (idxK k M)).1, ⟨u, (nth (ensK k M) (idxK k M)).2.l ++ [ws]⟩)
theorem ens_in {k k2 : List Nat} {l : List Int} {M : List (List Nat × Ls (Ls Int))} (h : inS (ensK k M) k2 l) : inS M k2 l := by
  obtain ⟨x, hx, h1, s, hs, h2⟩ := h
  unfold ensK at hx
  split at hx
  · rcases List.mem_append.1 hx with hx | hx
    · exact ⟨x, hx, h1, s, hs, h2⟩
    · obtain rfl : x = _ := by simpa using hx
      cases hs
  · exact ⟨x, hx, h1, s, hs, h2⟩
theorem ins_in {k k2 : List Nat} {l : List Int} {ws : Ls Int} {M : List (List Nat × Ls (Ls Int))} {u : Value} (h : inS (insK k ws M u) k2 l) : inS M k2 l ∨ (k2 = k ∧ l = ws.l) := by
  obtain ⟨x, hx, h1, s, hs, h2⟩ := h
  rcases List.mem_or_eq_of_mem_set hx with hx | rfl
  · exact .inl (ens_in ⟨x, hx, h1, s, hs, h2⟩)
  · rcases List.mem_append.1 hs with hs | hs
    · exact .inl (ens_in ⟨_, nth_mem _ _ (idxK_lt k M), h1, s, hs, h2⟩)
    · obtain rfl : s = ws := by simpa using hs
      exact .inr ⟨h1.symm.trans (ensK_key k M), h2.symm⟩
theorem cnt_ens (k : List Nat) (M : List (List Nat × Ls (Ls Int))) : cntM (ensK k M) = cntM M := by
  unfold ensK
  split
  · simp [cntM]
  · rfl
theorem cnt_set : ∀ {M : List (List Nat × Ls (Ls Int))} {i : Nat} {x : List Nat × Ls (Ls Int)}, i < M.length → cntM (M.set i x) + (nth M i).2.l.length = cntM M + x.2.l.length
  | [], _, _, h => by simp at h
  | y :: M, 0, x, _ => by simp [cntM, nth]; omega
  | y :: M, i + 1, x, h => by
    have ih := cnt_set (M := M) (i := i) (x := x) (by simpa using h)
    simp only [cntM, List.set_cons_succ, List.map_cons, List.sum_cons] at ih ⊢
    have e : nth (y :: M) (i + 1) = nth M i := by simp [nth]
    rw [e]
    omega
theorem cnt_ins {k : List Nat} {ws : Ls Int} {M : List (List Nat × Ls (Ls Int))} {u : Value} : cntM (insK k ws M u) = cntM M + 1 := by
  have h1 := cnt_set (x := ((nth (ensK k M) (idxK k M)).1, (⟨u, (nth (ensK k M) (idxK k M)).2.l ++ [ws]⟩ : Ls (Ls Int)))) (idxK_lt k M)
  rw [cnt_ens] at h1
  unfold insK
  simp only [List.length_append, List.length_singleton] at h1
  omega
theorem cnt_ge : ∀ {M : List (List Nat × Ls (Ls Int))} {i : Nat}, i < M.length → (nth M i).2.l.length ≤ cntM M
  | [], _, h => by simp at h
  | y :: M, 0, _ => by simp [cntM, nth]
  | y :: M, i + 1, h => by
    have ih := cnt_ge (M := M) (i := i) (by simpa using h)
    simp only [cntM, List.map_cons, List.sum_cons] at ih ⊢
    have e : nth (y :: M) (i + 1) = nth M i := by simp [nth]
    rw [e]
    omega
theorem keys_ins {k : List Nat} {ws : Ls Int} {M : List (List Nat × Ls (Ls Int))} {u : Value} (hk : k.length = 4) (h : KeysOK M) : KeysOK (insK k ws M u) := by
  intro x hx
  rcases List.mem_or_eq_of_mem_set hx with hx | rfl
  · exact ensK_len hk h x hx
  · show (nth (ensK k M) (idxK k M)).1.length = 4
    rw [ensK_key]; exact hk
theorem sum_set_one : ∀ {p : List Nat} {t : Nat}, t < p.length → (p.set t (nth p t + 1)).sum = p.sum + 1
  | [], _, h => by simp at h
  | a :: p, 0, _ => by simp [nth]; omega
  | a :: p, t + 1, h => by
    have ih := sum_set_one (p := p) (t := t) (by simpa using h)
    have e : nth (a :: p) (t + 1) = nth p t := by simp [nth]
    rw [e, List.set_cons_succ, List.sum_cons, List.sum_cons, ih]
    omega
end Go.Proofs.Ytanhbpofhebbaaa
