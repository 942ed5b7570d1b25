/-
  What always is one number, in plain Lean: the least of what can be ahead of each order.
-/
import Derived.Test.YtmgikmjmdppfmaaX10
import Derived.Test.YtmgikmjmdppfmaaX32
import Derived.Test.YtmgikmjmdppfmaaV1
namespace Go.Proofs.Ytmgikmjmdppfmaa
open Go.RowKit
set_option linter.unusedSimpArgs false
set_option linter.unusedVariables false

/-- Not there (0), always n (1), any (2). -/
structure VV where
  s : Int
  n : Int
deriving DecidableEq
instance : Inhabited VV := ⟨⟨0, 0⟩⟩
def meetV (a b : VV) : VV := if a.s = 0 then b else if a = b then b else if b.s = 0 then a else ⟨2, 0⟩
def OkVV (v : VV) : Prop := v = ⟨0, 0⟩ ∨ v.s = 1 ∨ v = ⟨2, 0⟩
def leV (a b : VV) : Prop := a.s = 0 ∨ a = b ∨ b.s = 2
section
variable {a b c q : VV}
theorem leV.refl (a : VV) : leV a a := .inr (.inl rfl)
theorem leV.trans (h1 : leV a b) (h2 : leV b c) : leV a c := by
  rcases h1 with h1 | rfl | h1
  · exact .inl h1
  · exact h2
  · rcases h2 with h2 | rfl | h2
    · omega
    · exact .inr (.inr h1)
    · exact .inr (.inr h2)
theorem OkVV.cases (h : OkVV a) : (a.s = 0 ∧ a.n = 0) ∨ a.s = 1 ∨ (a.s = 2 ∧ a.n = 0) := by
  rcases h with rfl | h | rfl
  · exact .inl ⟨rfl, rfl⟩
  · exact .inr (.inl h)
  · exact .inr (.inr ⟨rfl, rfl⟩)
theorem VV.ext' (h1 : a.s = b.s) (h2 : a.n = b.n) : a = b := by cases a; cases b; simp only at h1 h2; rw [h1, h2]
theorem leV.anti (ha : OkVV a) (hb : OkVV b) (h1 : leV a b) (h2 : leV b a) : a = b := by
  have ca := ha.cases
  have cb := hb.cases
  rcases h1 with h1 | h1 | h1
  · rcases h2 with h2 | h2 | h2
    · exact VV.ext' (by omega) (by omega)
    · exact h2.symm
    · omega
  · exact h1
  · rcases h2 with h2 | h2 | h2
    · omega
    · exact h2.symm
    · exact VV.ext' (by omega) (by omega)
theorem meet_l : leV a (meetV a b) := by
  unfold meetV
  split
  · exact .inl (by assumption)
  · split
    · rename_i h; exact .inr (.inl h)
    · split
      · exact .refl _
      · exact .inr (.inr rfl)
theorem meet_r : leV b (meetV a b) := by
  unfold meetV
  split
  · exact .refl _
  · split
    · exact .refl _
    · split
      · exact .inl (by assumption)
      · exact .inr (.inr rfl)
theorem meet_le (h1 : leV a q) (h2 : leV b q) : leV (meetV a b) q := by
  unfold meetV
  split
  · exact h2
  · split
    · exact h2
    · split
      · exact h1
      · rename_i n1 n2 n3
        rcases h1 with h1 | h1 | h1
        · exact absurd h1 n1
        · rcases h2 with h2 | h2 | h2
          · exact absurd h2 n3
          · exact absurd (h1.trans h2.symm) n2
          · exact .inr (.inr h2)
        · exact .inr (.inr h1)
theorem meet_ok (h1 : OkVV a) (h2 : OkVV b) : OkVV (meetV a b) := by
  unfold meetV
  split
  · exact h2
  · split
    · exact h2
    · split
      · exact h1
      · exact .inr (.inr rfl)
def rankV (v : VV) : Nat := (2 - v.s).toNat
theorem rank_le (h1 : OkVV a) (h2 : OkVV b) (h : leV a b) : rankV b ≤ rankV a := by
  have ca := h1.cases
  have cb := h2.cases
  unfold rankV
  rcases h with h | rfl | h <;> omega
theorem rank_lt (h1 : OkVV a) (h2 : OkVV b) (h : leV a b) (hne : a ≠ b) : rankV b < rankV a := by
  have ca := h1.cases
  have cb := h2.cases
  unfold rankV
  rcases h with h | h | h
  · rcases cb with cb | cb | cb
    · exact absurd (VV.ext' (by omega) (by omega)) hne
    · omega
    · omega
  · exact absurd h hne
  · rcases ca with ca | ca | ca
    · omega
    · omega
    · exact absurd (VV.ext' (by omega) (by omega)) hne
theorem rank_2 (h1 : OkVV a) : rankV a ≤ 2 := by
  have ca := h1.cases
  unfold rankV
  omega
end
-- ---------------------------------------------------------------- orders
def arV (op a b : Int) : Int := if op = 3 then wrap64 (a + b) else if op = 4 then wrap64 (a - b) else if op = 5 then wrap64 (a * b) else if op = 6 then (if a < b then 1 else 0) else if a = b then 1 else 0
def rk2 (op : Int) (a c : VV) : VV := if a.s = 0 ∨ c.s = 0 then ⟨0, 0⟩ else if a.s = 2 ∨ c.s = 2 then ⟨2, 0⟩ else ⟨1, arV op a.n c.n⟩
/-- What an order makes of what it reads. -/
def rkV (x : Ins) (e : List VV) : VV := if x.op = 1 then ⟨1, x.b⟩ else if x.op = 2 then nth e x.b.toNat else rk2 x.op (nth e x.b.toNat) (nth e x.c.toNat)
def outE (x : Ins) (e : List VV) : List VV := if 1 ≤ x.op ∧ x.op ≤ 7 then e.set x.a.toNat (rkV x e) else if 0 ≤ wrG x then e.set (wrG x).toNat ⟨2, 0⟩ else e
/-- Where one can go on. -/
def nxtE (code : List Ins) (i : Nat) (e : List VV) : List Nat :=
  if (nth code i).op = 15 then
    (if (nth e (nth code i).a.toNat).s = 2 ∨ ((nth e (nth code i).a.toNat).s = 1 ∧ (nth e (nth code i).a.toNat).n ≠ 0) then [i + 1] else []) ++
    (if (nth e (nth code i).a.toNat).s = 2 ∨ ((nth e (nth code i).a.toNat).s = 1 ∧ (nth e (nth code i).a.toNat).n = 0) then [(nth code i).b.toNat] else [])
  else (nextsL code i).map Int.toNat
def leL (x y : List VV) : Prop := ∀ r, leV (nth x r) (nth y r)
def OkEn (R : Nat) (e : List VV) : Prop := e.length = R ∧ ∀ r, OkVV (nth e r)
section
variable {x y z q e : List VV} {R : Nat} {i : Ins} {code : List Ins}
theorem leL.refl (x : List VV) : leL x x := fun r => .refl _
theorem leL.trans (h1 : leL x y) (h2 : leL y z) : leL x z := fun r => (h1 r).trans (h2 r)
theorem eq_nthL {α : Type} [Inhabited α] : ∀ {x y : List α}, x.length = y.length → (∀ r, nth x r = nth y r) → x = y
  | [], [], _, _ => rfl
  | a :: x, b :: y, h, h2 => by
    have e1 : a = b := h2 0
    rw [e1, eq_nthL (x := x) (y := y) (by simpa using h) (fun r => h2 (r + 1))]
  | [], _ :: _, h, _ => by simp at h
  | _ :: _, [], h, _ => by simp at h
theorem leL.anti (hx : OkEn R x) (hy : OkEn R y) (h1 : leL x y) (h2 : leL y x) : x = y := eq_nthL (hx.1.trans hy.1.symm) fun r => (h1 r).anti (hx.2 r) (hy.2 r) (h2 r)
theorem nth_setE (l : List VV) (i k : Nat) (v : VV) : nth (l.set i v) k = if i = k ∧ i < l.length then v else nth l k := by
  simp only [nth, List.getD, List.getElem?_set]
  by_cases h : i = k
  · subst h
    by_cases h2 : i < l.length <;> simp [h2]
  · simp [h]
theorem leL.set {k : Nat} {v u : VV} (h : leL x y) (hl : x.length = y.length) (hv : leV v u) : leL (x.set k v) (y.set k u) := by
  intro r
  rw [nth_setE, nth_setE, hl]
  by_cases h1 : k = r ∧ k < y.length
  · rw [if_pos h1, if_pos h1]; exact hv
  · rw [if_neg h1, if_neg h1]; exact h r
theorem rk2_mono {op : Int} {a b c d : VV} (h1 : leV a b) (h2 : leV c d) : leV (rk2 op a c) (rk2 op b d) := by
  unfold rk2
  by_cases h0 : a.s = 0 ∨ c.s = 0
  · rw [if_pos h0]; exact .inl rfl
  · rw [if_neg h0]
    have hb : ¬ (b.s = 0 ∨ d.s = 0) := by
      rintro (g | g)
      · rcases h1 with h | h | h
        · exact h0 (.inl h)
        · rw [h] at h0; exact h0 (.inl g)
        · omega
      · rcases h2 with h | h | h
        · exact h0 (.inr h)
        · rw [h] at h0; exact h0 (.inr g)
        · omega
    rw [if_neg hb]
    by_cases g2 : b.s = 2 ∨ d.s = 2
    · rw [if_pos g2]; exact .inr (.inr rfl)
    · have e1 : a = b := by
        rcases h1 with h | h | h
        · exact absurd (.inl h) h0
        · exact h
        · exact absurd (.inl h) g2
      have e2 : c = d := by
        rcases h2 with h | h | h
        · exact absurd (.inr h) h0
        · exact h
        · exact absurd (.inr h) g2
      subst e1 e2
      rw [if_neg g2]
      exact .refl _
theorem rkV_mono (h : leL x y) : leV (rkV i x) (rkV i y) := by
  unfold rkV
  split
  · exact .refl _
  · split
    · exact h _
    · exact rk2_mono (h _) (h _)
theorem outE_mono (h : leL x y) (hl : x.length = y.length) : leL (outE i x) (outE i y) := by
  unfold outE
  split
  · exact h.set hl (rkV_mono h)
  · split
    · exact h.set hl (.refl _)
    · exact h
theorem nxtE_mono {k : Nat} (h : leL x y) : ∀ t ∈ nxtE code k x, t ∈ nxtE code k y := by
  intro t ht
  unfold nxtE at ht ⊢
  by_cases h15 : (nth code k).op = 15
  · rw [if_pos h15] at ht ⊢
    have hv := h (nth code k).a.toNat
    rcases List.mem_append.1 ht with ht | ht
    · split at ht
      · rename_i hc
        refine List.mem_append.2 (.inl ?_)
        rw [if_pos]
        · exact ht
        · rcases hv with hv | hv | hv
          · omega
          · rw [← hv]; exact hc
          · exact .inl hv
      · cases ht
    · split at ht
      · rename_i hc
        refine List.mem_append.2 (.inr ?_)
        rw [if_pos]
        · exact ht
        · rcases hv with hv | hv | hv
          · omega
          · rw [← hv]; exact hc
          · exact .inl hv
      · cases ht
  · rw [if_neg h15] at ht ⊢; exact ht
theorem rk2_ok {op : Int} {a c : VV} : OkVV (rk2 op a c) := by
  unfold rk2
  split
  · exact .inl rfl
  · split
    · exact .inr (.inr rfl)
    · exact .inr (.inl rfl)
theorem rkV_ok (h : OkEn R x) : OkVV (rkV i x) := by
  unfold rkV
  split
  · exact .inr (.inl rfl)
  · split
    · exact h.2 _
    · exact rk2_ok
theorem OkEn.set {k : Nat} {v : VV} (h : OkEn R x) (hv : OkVV v) : OkEn R (x.set k v) := ⟨by rw [List.length_set]; exact h.1, fun r => by
  rw [nth_setE]
  split
  · exact hv
  · exact h.2 r⟩
theorem outE_ok (h : OkEn R x) : OkEn R (outE i x) := by
  unfold outE
  split
  · exact h.set (rkV_ok h)
  · split
    · exact h.set (.inr (.inr rfl))
    · exact h
/-- Two that come together. -/
def meetL (x y : List VV) : List VV := (List.range x.length).map fun r => meetV (nth x r) (nth y r)
theorem meetL_len : (meetL x y).length = x.length := by simp [meetL]
theorem nth_outE (l : List VV) (r : Nat) (h : l.length ≤ r) : nth l r = ⟨0, 0⟩ := by
  unfold nth List.getD
  rw [List.getElem?_eq_none h]
  rfl
theorem meetL_nth (hl : x.length = y.length) (r : Nat) : nth (meetL x y) r = meetV (nth x r) (nth y r) := by
  rcases Nat.lt_or_ge r x.length with h | h
  · exact nth_mapR h
  · rw [nth_outE _ _ (by rw [meetL_len]; exact h), nth_outE _ _ h, nth_outE _ _ (by omega)]
    rfl
theorem meetL_ok (hx : OkEn R x) (hy : OkEn R y) : OkEn R (meetL x y) := ⟨by rw [meetL_len]; exact hx.1, fun r => by rw [meetL_nth (hx.1.trans hy.1.symm)]; exact meet_ok (hx.2 r) (hy.2 r)⟩
end
-- ---------------------------------------------------------------- what is ahead of each order
abbrev AF := Nat → Option (List VV)
def OkA (R n : Nat) (A : AF) : Prop := ∀ t e, A t = some e → t ≤ n ∧ OkEn R e
def firstE (R : Nat) : List VV := List.replicate R ⟨1, 0⟩
def CloT (code : List Ins) (A : AF) (t : Nat) (e : List VV) (tq : Nat) : Prop := ∃ e', A tq = some e' ∧ leL (outE (nth code t) e) e'
def CloAt (code : List Ins) (A : AF) (t : Nat) : Prop := ∀ e, A t = some e → ∀ tq ∈ nxtE code t (outE (nth code t) e), CloT code A t e tq
structure Clo (code : List Ins) (R : Nat) (A : AF) : Prop where
  ok : OkA R code.length A
  first : ∃ e, A 0 = some e ∧ leL (firstE R) e
  all : ∀ t, t < code.length → CloAt code A t
def Bel (A Q : AF) : Prop := ∀ t e, A t = some e → ∃ e', Q t = some e' ∧ leL e e'
structure Least (code : List Ins) (R : Nat) (A : AF) : Prop where
  clo : Clo code R A
  bel : ∀ Q, Clo code R Q → Bel A Q
theorem Least.uniq {code : List Ins} {R : Nat} {A B : AF} (h1 : Least code R A) (h2 : Least code R B) : A = B := by
  funext t
  cases ha : A t with
  | none =>
    cases hb : B t with
    | none => rfl
    | some e =>
      obtain ⟨e', h3, _⟩ := h2.bel A h1.clo t e hb
      rw [ha] at h3; cases h3
  | some e =>
    obtain ⟨e', h3, h4⟩ := h1.bel B h2.clo t e ha
    obtain ⟨e2, h5, h6⟩ := h2.bel A h1.clo t e' h3
    rw [ha] at h5
    obtain rfl := Option.some.inj h5
    rw [h3]
    exact congrArg some (leL.anti (h1.clo.ok t e ha).2 (h2.clo.ok t e' h3).2 h4 h6)
-- ---------------------------------------------------------------- one comes to an order
def mtA (A : AF) (tq : Nat) (env : List VV) : List VV := match A tq with
  | none => env
  | some was => meetL env was
def updA (A : AF) (tq : Nat) (e : List VV) : AF := fun x => if x = tq then some e else A x
def hA (R : Nat) (A : AF) (t : Nat) : Nat := match A t with
  | none => 2 * R + 1
  | some e => ((List.range R).map fun r => rankV (nth e r)).sum
def muA (R : Nat) (A : AF) : Nat → Nat
  | 0 => 0
  | n + 1 => muA R A n + hA R A n
section
variable {A B : AF} {tq R n t : Nat} {env e : List VV} {code : List Ins}
theorem updA_self : updA A tq e tq = some e := by unfold updA; rw [if_pos rfl]
theorem updA_ne (h : t ≠ tq) : updA A tq e t = A t := by unfold updA; rw [if_neg h]
theorem mtA_ok (hA : OkA R n A) (he : OkEn R env) : OkEn R (mtA A tq env) := by
  unfold mtA
  split
  · exact he
  · rename_i was h; exact meetL_ok he (hA _ _ h).2
theorem mtA_env (hA : OkA R n A) (he : OkEn R env) : leL env (mtA A tq env) := by
  unfold mtA
  split
  · exact .refl _
  · rename_i was h
    intro r
    rw [meetL_nth (he.1.trans (hA _ _ h).2.1.symm)]
    exact meet_l
theorem mtA_was {was : List VV} (hA : OkA R n A) (he : OkEn R env) (hw : A tq = some was) : leL was (mtA A tq env) := by
  unfold mtA
  rw [hw]
  intro r
  rw [meetL_nth (he.1.trans (hA _ _ hw).2.1.symm)]
  exact meet_r
theorem mtA_le {q : List VV} (hA : OkA R n A) (he : OkEn R env) (h1 : leL env q) (h2 : ∀ was, A tq = some was → leL was q) : leL (mtA A tq env) q := by
  unfold mtA
  split
  · exact h1
  · rename_i was h
    intro r
    rw [meetL_nth (he.1.trans (hA _ _ h).2.1.symm)]
    exact meet_le (h1 r) (h2 _ h r)
/-- What only rises. -/
theorem bel_upd (hA : OkA R n A) (he : OkEn R env) : Bel A (updA A tq (mtA A tq env)) := by
  intro t e ht
  by_cases h : t = tq
  · subst h; exact ⟨_, updA_self, mtA_was hA he ht⟩
  · exact ⟨e, by rw [updA_ne h]; exact ht, .refl _⟩
theorem updA_ok (hA : OkA R n A) (he : OkEn R env) (ht : tq ≤ n) : OkA R n (updA A tq (mtA A tq env)) := by
  intro t e h
  by_cases h2 : t = tq
  · subst h2
    rw [updA_self] at h
    obtain rfl := Option.some.inj h
    exact ⟨ht, mtA_ok hA he⟩
  · rw [updA_ne h2] at h; exact hA t e h
theorem CloT.up (h : CloT code A t e tq) (hb : Bel A B) : CloT code B t e tq := by
  obtain ⟨e', h1, h2⟩ := h
  obtain ⟨e2, h3, h4⟩ := hb _ _ h1
  exact ⟨e2, h3, h2.trans h4⟩
theorem sum_le {f g : Nat → Nat} : ∀ n, (∀ r, r < n → f r ≤ g r) → ((List.range n).map f).sum ≤ ((List.range n).map g).sum
  | 0, _ => Nat.le_refl _
  | n + 1, h => by
    rw [List.range_succ, List.map_append, List.map_append, List.sum_append_nat, List.sum_append_nat]
    have h1 := sum_le n fun r hr => h r (by omega)
    have h2 := h n (Nat.lt_succ_self n)
    simp only [List.map_cons, List.map_nil, List.sum_cons, List.sum_nil]
    omega
theorem sum_lt {f g : Nat → Nat} {k : Nat} : ∀ n, (∀ r, r < n → f r ≤ g r) → k < n → f k < g k → ((List.range n).map f).sum < ((List.range n).map g).sum
  | 0, _, hk, _ => absurd hk (Nat.not_lt_zero k)
  | n + 1, h, hk, hlt => by
    rw [List.range_succ, List.map_append, List.map_append, List.sum_append_nat, List.sum_append_nat]
    have h2 := h n (Nat.lt_succ_self n)
    simp only [List.map_cons, List.map_nil, List.sum_cons, List.sum_nil]
    rcases Nat.lt_or_eq_of_le (Nat.le_of_lt_succ hk) with h3 | h3
    · have := sum_lt n (fun r hr => h r (by omega)) h3 hlt
      omega
    · subst h3
      have := sum_le k fun r hr => h r (by omega)
      omega
theorem sum_cE (c : Nat) (f : Nat → Nat) : ∀ n, (∀ r, r < n → f r ≤ c) → ((List.range n).map f).sum ≤ n * c
  | 0, _ => Nat.zero_le _
  | n + 1, h => by
    rw [List.range_succ, List.map_append, List.sum_append_nat]
    have h1 := sum_cE c f n fun r hr => h r (by omega)
    have h2 := h n (Nat.lt_succ_self n)
    simp only [List.map_cons, List.map_nil, List.sum_cons, List.sum_nil]
    rw [Nat.succ_mul]
    omega
theorem hA_lt (hA' : OkA R n A) (he : OkEn R env) (hne : A tq ≠ some (mtA A tq env)) : hA R (updA A tq (mtA A tq env)) tq < hA R A tq := by
  have hok := mtA_ok (tq := tq) hA' he
  unfold hA
  rw [updA_self]
  cases ha : A tq with
  | none =>
    have := sum_cE 2 (fun r => rankV (nth (mtA A tq env) r)) R fun r _ => rank_2 (hok.2 r)
    show ((List.range R).map fun r => rankV (nth (mtA A tq env) r)).sum < 2 * R + 1
    omega
  | some was =>
    have hw := (hA' _ _ ha).2
    have hle := mtA_was hA' he ha
    rw [ha] at hne
    have hne' : was ≠ mtA A tq env := fun h => hne (congrArg some h)
    have : ∃ k, k < R ∧ nth was k ≠ nth (mtA A tq env) k := by
      apply Classical.byContradiction
      intro hn
      refine hne' (eq_nthL (hw.1.trans hok.1.symm) fun r => ?_)
      rcases Nat.lt_or_ge r R with hr | hr
      · exact Classical.byContradiction fun h => hn ⟨r, hr, h⟩
      · rw [nth_outE _ _ (by rw [hw.1]; exact hr), nth_outE _ _ (by rw [hok.1]; exact hr)]
    obtain ⟨k, hk, hk2⟩ := this
    exact sum_lt R (fun r _ => rank_le (hw.2 r) (hok.2 r) (hle r)) hk (rank_lt (hw.2 k) (hok.2 k) (hle k) hk2)
theorem muA_same (h : ∀ t, t < n → hA R B t = hA R A t) : muA R B n = muA R A n := by
  induction n with
  | zero => rfl
  | succ n ih => rw [muA, muA, ih fun t ht => h t (by omega), h n (Nat.lt_succ_self n)]
theorem muA_lt (h : ∀ t, t ≠ tq → B t = A t) (h1 : hA R B tq < hA R A tq) : ∀ n, tq < n → muA R B n < muA R A n
  | 0, h2 => absurd h2 (Nat.not_lt_zero tq)
  | n + 1, h2 => by
    rw [muA, muA]
    have he : ∀ t, t ≠ tq → hA R B t = hA R A t := fun t ht => by unfold hA; rw [h t ht]
    rcases Nat.lt_or_eq_of_le (Nat.le_of_lt_succ h2) with h3 | h3
    · have := muA_lt h h1 n h3
      rw [he n (by omega)]
      omega
    · subst h3
      rw [muA_same fun t ht => he t (by omega)]
      omega
/-- What rises has less to rise. -/
theorem mu_upd (hA' : OkA R n A) (he : OkEn R env) (ht : tq ≤ n) (hne : A tq ≠ some (mtA A tq env)) : muA R (updA A tq (mtA A tq env)) (n + 1) < muA R A (n + 1) :=
  muA_lt (fun t h => updA_ne h) (hA_lt hA' he hne) _ (by omega)
end
end Go.Proofs.Ytmgikmjmdppfmaa
