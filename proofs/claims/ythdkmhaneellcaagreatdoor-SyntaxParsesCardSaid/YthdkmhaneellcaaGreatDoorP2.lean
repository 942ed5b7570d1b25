/-
  How far a parser comes: tokens go by, brackets close, nodes come up; in plain Lean.
-/
import Derived.Test.YthdkmhaneellcaaGreatDoorP1
namespace Go.Proofs.YthdkmhaneellcaaGreatDoor
open Go.RowKit
set_option linter.unusedSimpArgs false
set_option linter.unusedVariables false

/-- Where all goes well: at least m tokens go by, it is dd deeper, at least q more of two for each token than of nodes. -/
def Adv {α : Type} (n m : Nat) (dd q : Int) (r : RsP α) (s : PS) : Prop := ∀ a s', r = .ok (a, s') → s.i + m ≤ s'.i ∧ (s'.d : Int) = s.d + dd ∧ 2 * (s.i : Int) - s.l.length + q ≤ 2 * (s'.i : Int) - s'.l.length ∧ (s.i ≤ n → s'.i ≤ n)
section
variable {X : TE} {α β : Type}
theorem Adv.and {n m1 m2 m : Nat} {d1 d2 q1 q2 dd q : Int} {r : RsP α} {f : α → PS → RsP β} {s : PS} (h1 : Adv n m1 d1 q1 r s) (h2 : ∀ a s1, r = .ok (a, s1) → Adv n m2 d2 q2 (f a s1) s1) (hm : m ≤ m1 + m2 := by omega) (hd : dd = d1 + d2 := by omega) (hq : q ≤ q1 + q2 := by omega) : Adv n m dd q (andP r f) s := by
  intro a s' h
  cases r with
  | error e => cases h
  | ok x =>
    obtain ⟨b, s1⟩ := x
    have e1 := h1 b s1 rfl
    have e2 := h2 b s1 rfl a s' h
    refine ⟨by omega, by omega, by omega, fun hn => e2.2.2.2 (e1.2.2.2 hn)⟩
theorem Adv.bad {n m : Nat} {dd q c : Int} {s s2 : PS} : Adv (α := α) n m dd q (badP X c s2) s := by intro a s' h; cases h
theorem isl_lt {i : Nat} {tx : List ByteArray} (h : isL X i tx = true) : i < X.T.length := by
  simp only [isL, Bool.and_eq_true, decide_eq_true_eq] at h; exact h.1
theorem adv_take {x : ByteArray} {s : PS} : Adv X.T.length 1 0 2 (takeP X x s) s := by
  intro a s' h
  unfold takeP at h
  split at h
  · rename_i hb
    cases h
    have hb := isl_lt hb
    exact ⟨Nat.le_refl _, by simp, by show _ ≤ 2 * ((s.i + 1 : Nat) : Int) - s.l.length; omega, fun _ => hb⟩
  · cases h
theorem adv_name {s : PS} : Adv X.T.length 1 0 2 (nameP X s) s := by
  intro a s' h
  unfold nameP at h
  split at h
  · rename_i hb
    cases h
    simp only [kindT, Bool.and_eq_true, decide_eq_true_eq] at hb
    exact ⟨Nat.le_refl _, by simp, by show _ ≤ 2 * ((s.i + 1 : Nat) : Int) - s.l.length; omega, fun _ => hb.1⟩
  · cases h
theorem adv_open {x : ByteArray} {s : PS} : Adv X.T.length 1 1 2 (openP X x s) s := by
  intro a s' h
  unfold openP at h
  split at h
  · cases h
  · cases hr : takeP X x s with
    | error e => rw [hr] at h; cases h
    | ok y =>
      obtain ⟨b, s1⟩ := y
      rw [hr] at h
      cases h
      have := adv_take _ _ hr
      exact ⟨this.1, by show ((s1.d + 1 : Nat) : Int) = _; omega, this.2.2.1, this.2.2.2⟩
theorem adv_shut {x : ByteArray} {s : PS} (hd : 1 ≤ s.d) : Adv X.T.length 1 (-1) 2 (shutP X x s) s := by
  intro a s' h
  unfold shutP at h
  cases hr : takeP X x s with
  | error e => rw [hr] at h; cases h
  | ok y =>
    obtain ⟨b, s1⟩ := y
    rw [hr] at h
    cases h
    have := adv_take _ _ hr
    exact ⟨this.1, by show ((s1.d - 1 : Nat) : Int) = _; omega, this.2.2.1, this.2.2.2⟩
theorem adv_put {n : Nat} {x : Nd} {s : PS} : Adv n 0 0 (-1) (putP x s) s := by
  intro a s' h
  cases h
  exact ⟨Nat.le_refl _, by simp, by show _ ≤ 2 * (s.i : Int) - ((s.l ++ [x]).length : Int); rw [List.length_append]; simp only [List.length_cons, List.length_nil]; omega, fun h => h⟩
theorem adv_ok {n : Nat} {a : α} {s : PS} : Adv n 0 0 0 (.ok (a, s) : RsP α) s := by
  intro b s' h
  cases h
  exact ⟨Nat.le_refl _, by omega, by omega, fun h => h⟩
/-- Ahead of what goes on, a token has gone by. -/
theorem Adv.skip {n m : Nat} {dd q : Int} {r : RsP α} {s : PS} (hi : s.i < n) (h : Adv n m dd q r { s with i := s.i + 1 }) : Adv n (m + 1) dd (q + 2) r s := by
  intro a s' e
  have := h a s' e
  exact ⟨by have := this.1; simp only at this; omega, this.2.1, by have := this.2.2.1; simp only at this; omega, fun _ => this.2.2.2 hi⟩
theorem Adv.weak {n m m' : Nat} {dd q q' : Int} {r : RsP α} {s : PS} (h : Adv n m dd q r s) (hm : m' ≤ m := by omega) (hq : q' ≤ q := by omega) : Adv n m' dd q' r s := fun a s' e => by
  have := h a s' e
  exact ⟨by omega, this.2.1, by omega, this.2.2.2⟩
def minT : NT → Nat
  | .bin _ _ => 0 | _ => 1
theorem is_lt {i : Nat} {x : ByteArray} (h : isT X i x = true) : i < X.T.length := isl_lt h
theorem kd_lt {i : Nat} {k : Int} (h : kindT X i k = true) : i < X.T.length := by
  simp only [kindT, Bool.and_eq_true, decide_eq_true_eq] at h; exact h.1
theorem lv_lt {i k : Nat} (h : lvT X i k = true) : i < X.T.length := isl_lt h
def qT : NT → Int
  | .bin _ _ => 0 | _ => 1
def dT : NT → Int
  | .stmts _ _ => -1 | _ => 0
def AdvT (X : TE) (rc : NT → PS → RsP Int) : Prop := ∀ nt s, (dT nt = -1 → 1 ≤ s.d) → Adv X.T.length (minT nt) (dT nt) (qT nt) (rc nt s) s
theorem adv_casR {rc : NT → PS → RsP Int} (ih : AdvT X rc) : ∀ (n : Nat) (kids : List Int) (s : PS), 1 ≤ s.d → Adv X.T.length 0 (-1) 0 (casR X rc n kids s) s
  | 0, kids, s, hd => Adv.and (m2 := 0) (d2 := 0) (q2 := 0) (adv_shut hd) fun _ _ _ => adv_ok
  | n + 1, kids, s, hd => by
    have ihe : ∀ k s, Adv X.T.length 1 0 1 (rc (.expr k) s) s := fun k s => ih (.expr k) s (fun h => by cases h)
    refine Adv.and (m2 := 0) (d2 := -1) (q2 := 0) adv_take fun _ s1 h1 => ?_
    have e1 := adv_take _ _ h1
    refine Adv.and (m2 := 0) (d2 := -1) (q2 := 0) (ihe 0 s1) fun _ s2 h2 => ?_
    have e2 := ihe 0 s1 _ _ h2
    exact adv_casR ih n _ s2 (by omega)
theorem adv_cas {rc : NT → PS → RsP Int} (ih : AdvT X rc) {s : PS} (hi : s.i < X.T.length) : Adv X.T.length 1 0 1 (casP X rc s) s := by
  unfold casP
  refine Adv.weak (m := 1) (q := 5) (Adv.skip (m := 0) (q := 3) hi ?_)
  refine Adv.and (m2 := 0) (d2 := -1) (q2 := 1) adv_open fun _ s1 h1 => ?_
  have e1 := adv_open _ _ h1
  refine Adv.and (m2 := 0) (d2 := -1) (q2 := -1) adv_name fun _ s2 h2 => ?_
  have e2 := adv_name _ _ h2
  refine Adv.and (m2 := 0) (d2 := -1) (q2 := 0) adv_put fun _ s3 h3 => ?_
  have e3 := adv_put (n := X.T.length) _ _ h3
  exact adv_casR ih _ _ _ (by simp only at e1; omega)
theorem adv_asg {rc : NT → PS → RsP Int} (ih : AdvT X rc) {s : PS} : Adv X.T.length 1 0 2 (asgP X rc s) s := by
  have ihe : ∀ k s, Adv X.T.length 1 0 1 (rc (.expr k) s) s := fun k s => ih (.expr k) s (fun h => by cases h)
  unfold asgP
  refine Adv.and (m2 := 0) (d2 := 0) (q2 := 2) adv_name fun _ _ _ => Adv.and (m2 := 0) (d2 := 0) (q2 := 1) adv_take fun _ s2 _ => ?_
  split
  · rename_i hb
    exact Adv.and (m1 := 0) (q1 := 1) (m2 := 0) (d2 := 0) (q2 := 1) (adv_cas ih (is_lt hb)).weak fun _ _ _ => Adv.and (m2 := 0) (d2 := 0) (q2 := 0) adv_take fun _ _ _ => adv_ok
  · exact Adv.and (m2 := 0) (d2 := 0) (q2 := 1) (ihe _ _) fun _ _ _ => Adv.and (m2 := 0) (d2 := 0) (q2 := 0) adv_take fun _ _ _ => adv_ok
theorem adv_step {rc : NT → PS → RsP Int} (ih : AdvT X rc) : AdvT X (stepP X rc) := by
  have ihe : ∀ k s, Adv X.T.length 1 0 1 (rc (.expr k) s) s := fun k s => ih (.expr k) s (fun h => by cases h)
  have ihb : ∀ k l s, Adv X.T.length 0 0 0 (rc (.bin k l) s) s := fun k l s => ih (.bin k l) s (fun h => by cases h)
  have ihu : ∀ s, Adv X.T.length 1 0 1 (rc .unary s) s := fun s => ih .unary s (fun h => by cases h)
  have ihh : ∀ s, Adv X.T.length 1 0 1 (rc .held s) s := fun s => ih .held s (fun h => by cases h)
  have ihk : ∀ s, Adv X.T.length 1 0 1 (rc .block s) s := fun s => ih .block s (fun h => by cases h)
  have ihs : ∀ s, Adv X.T.length 1 0 1 (rc .stmt s) s := fun s => ih .stmt s (fun h => by cases h)
  have iht : ∀ a l s, 1 ≤ s.d → Adv X.T.length 1 (-1) 1 (rc (.stmts a l) s) s := fun a l s hd => ih (.stmts a l) s (fun _ => hd)
  intro nt s hd
  cases nt with
  | expr k =>
    show Adv X.T.length 1 0 1 (if k = 5 then _ else _) s
    split
    · exact ihu s
    · exact Adv.and (m2 := 0) (d2 := 0) (q2 := 0) (ihe _ _) fun _ _ _ => ihb _ _ _
  | bin k l =>
    show Adv X.T.length 0 0 0 (if lvT X s.i k = true then _ else _) s
    split
    · rename_i hb
      refine Adv.weak (m := 1) (q := 2) (Adv.skip (m := 0) (q := 0) (lv_lt hb) ?_)
      exact Adv.and (m2 := 0) (d2 := 0) (q2 := -1) (ihe _ _) fun _ _ _ => Adv.and (m2 := 0) (d2 := 0) (q2 := 0) adv_put fun _ _ _ => ihb _ _ _
    · exact adv_ok
  | unary =>
    show Adv X.T.length 1 0 1 (if isL X s.i _ = true then _ else _) s
    split
    · refine Adv.and (m2 := 0) (d2 := -1) (q2 := 0) adv_open fun _ s1 h1 => ?_
      have e1 := adv_open _ _ h1
      refine Adv.and (m2 := 0) (d2 := -1) (q2 := -1) (ihu _) fun _ s2 h2 => ?_
      have e2 := ihu _ _ _ h2
      intro a s' h
      cases h
      exact ⟨Nat.le_refl _, by show ((s2.d - 1 : Nat) : Int) = _; omega, by show _ ≤ 2 * (s2.i : Int) - ((s2.l ++ [_]).length : Int); rw [List.length_append]; simp only [List.length_cons, List.length_nil]; omega, fun h => h⟩
    · split
      · exact ihh s
      · split
        · rename_i hb
          exact Adv.weak (m := 1) (q := 1) (Adv.skip (m := 0) (q := -1) (kd_lt hb) adv_put)
        · exact Adv.and (m2 := 0) (d2 := 0) (q2 := -1) adv_name fun _ _ _ => adv_put
  | held =>
    show Adv X.T.length 1 0 1 (andP (openP X _ s) _) s
    refine Adv.and (m2 := 0) (d2 := -1) (q2 := 0) adv_open fun _ s1 h1 => ?_
    have e1 := adv_open _ _ h1
    refine Adv.and (m2 := 0) (d2 := -1) (q2 := 0) (ihe _ _) fun _ s2 h2 => ?_
    have e2 := ihe _ _ _ _ h2
    exact Adv.and (m2 := 0) (d2 := 0) (q2 := 0) (adv_shut (by omega)) fun _ s8 h8 => adv_ok
  | block =>
    show Adv X.T.length 1 0 1 (andP (openP X _ s) _) s
    refine Adv.and (m2 := 0) (d2 := -1) (q2 := 0) adv_open fun _ s1 h1 => ?_
    have e1 := adv_open _ _ h1
    exact (iht _ _ _ (by omega)).weak
  | stmts a kids =>
    show Adv X.T.length 1 (-1) 1 (if isT X s.i _ = true then _ else _) s
    have hd1 := hd rfl
    split
    · exact Adv.and (m2 := 0) (d2 := 0) (q2 := -1) (adv_shut hd1) fun _ s8 h8 => adv_put
    · refine Adv.and (m2 := 0) (d2 := -1) (q2 := 0) (ihs _) fun _ s2 h2 => ?_
      have e2 := ihs _ _ _ h2
      exact (iht _ _ _ (by omega)).weak
  | stmt =>
    show Adv X.T.length 1 0 1 (if isT X s.i _ = true then _ else _) s
    split
    · rename_i hb
      refine Adv.weak (m := 1) (q := 6) (Adv.skip (m := 0) (q := 4) (is_lt hb) ?_)
      exact Adv.and (m2 := 0) (d2 := 0) (q2 := 2) adv_name fun _ _ _ => Adv.and (m2 := 0) (d2 := 0) (q2 := 2) adv_take fun _ _ _ => Adv.and (m2 := 0) (d2 := 0) (q2 := 1) (ihe _ _) fun _ _ _ => Adv.and (m2 := 0) (d2 := 0) (q2 := -1) adv_take fun _ _ _ => adv_put
    · split
      · rename_i hb
        refine Adv.weak (m := 1) (q := 3) (Adv.skip (m := 0) (q := 1) (is_lt hb) ?_)
        refine Adv.and (m2 := 0) (d2 := 0) (q2 := 0) (ihh _) fun _ _ _ => Adv.and (m2 := 0) (d2 := 0) (q2 := -1) (ihk _) fun _ s2 _ => ?_
        split
        · rename_i hb2
          refine Adv.weak (m := 1) (q := 2) (Adv.skip (m := 0) (q := 0) (is_lt hb2) ?_)
          exact Adv.and (m2 := 0) (d2 := 0) (q2 := -1) (ihk _) fun _ _ _ => adv_put
        · exact adv_put
      · split
        · rename_i hb
          refine Adv.weak (m := 1) (q := 3) (Adv.skip (m := 0) (q := 1) (is_lt hb) ?_)
          exact Adv.and (m2 := 0) (d2 := 0) (q2 := 0) (ihh _) fun _ _ _ => Adv.and (m2 := 0) (d2 := 0) (q2 := -1) (ihk _) fun _ s2 _ => adv_put
        · split
          · rename_i hb
            refine Adv.weak (m := 1) (q := 4) (Adv.skip (m := 0) (q := 2) (is_lt hb) ?_)
            exact Adv.and (m2 := 0) (d2 := 0) (q2 := 1) (ihh _) fun _ _ _ => Adv.and (m2 := 0) (d2 := 0) (q2 := -1) adv_take fun _ s2 _ => adv_put
          · split
            · rename_i hb
              refine Adv.weak (m := 1) (q := 9) (Adv.skip (m := 0) (q := 7) (isl_lt hb) ?_)
              refine Adv.and (m2 := 0) (d2 := -1) (q2 := 5) adv_open fun _ s1 h1 => ?_
              have e1 := adv_open _ _ h1
              refine Adv.and (m2 := 0) (d2 := -1) (q2 := 3) adv_name fun _ s2 h2 => ?_
              have e2 := adv_name _ _ h2
              refine Adv.and (m2 := 0) (d2 := 0) (q2 := 1) (adv_shut (by simp only at e1; omega)) fun _ _ _ => Adv.and (m2 := 0) (d2 := 0) (q2 := -1) adv_take fun _ _ _ => adv_put
            · split
              · rename_i hb
                refine Adv.weak (m := 1) (q := 3) (Adv.skip (m := 0) (q := 1) (is_lt hb) ?_)
                exact Adv.and (m2 := 0) (d2 := 0) (q2 := -1) adv_take fun _ _ _ => adv_put
              · exact Adv.and (m1 := 1) (q1 := 2) (m2 := 0) (d2 := 0) (q2 := -1) (adv_asg ih) fun _ _ _ => adv_put
theorem adv_parse : ∀ f, AdvT X (parseP X f)
  | 0 => fun nt s hd a s' h => by cases h
  | f + 1 => adv_step (adv_parse f)
end
end Go.Proofs.YthdkmhaneellcaaGreatDoor
