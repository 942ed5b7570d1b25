/-
  Tools for laws of two programs: what a run of one comes to, one of the other comes to. No program is in sight.
-/
import Derived.Test.YtmgikmjmdppfmaaL1
import Derived.Test.YtmgikmjmdppfmaaX3
namespace Go.Proofs.Ytmgikmjmdppfmaa
open Go.RowKit
set_option linter.unusedSimpArgs false
set_option linter.unusedVariables false

section
variable {p q : Pg} {m m' : Int}
end
/-- Two states that are the same but for where threads stand. -/
structure RelP (n : Nat) (R : Nat → Int → Int → Prop) (s s' : MSt) : Prop where
  words : s'.words = s.words
  owner : s'.owner = s.owner
  prints : s'.prints = s.prints
  regs : ∀ t, t < n → (nth s'.ths t).regs = (nth s.ths t).regs
  wait : ∀ t, t < n → (nth s'.ths t).wait = (nth s.ths t).wait
  pc : ∀ t, t < n → R t (nth s.ths t).pc (nth s'.ths t).pc
theorem RelP.view {n : Nat} {R : Nat → Int → Int → Prop} {s s' : MSt} (h : RelP n R s s') {t : Nat} (ht : t < n) : s'.view t = { s.view t with pc := (nth s'.ths t).pc } := by
  unfold MSt.view
  simp only [h.words, h.owner, h.prints, h.regs t ht, h.wait t ht]
theorem putT_th {s : MSt} {t u : Nat} {y : TS} (h : t < s.ths.length) : nth (s.putT t y).ths u = if t = u then ⟨y.pc, y.regs, y.wait⟩ else nth s.ths u := by
  unfold MSt.putT
  simp only [nth_set0]
  by_cases e : t = u <;> simp [e, h]
  intro h2; exact absurd h (by rw [e]; omega)
theorem RelP.put {n : Nat} {R : Nat → Int → Int → Prop} {s s' : MSt} (h : RelP n R s s') {t : Nat} (hl : t < s.ths.length) (hl' : t < s'.ths.length) {y : TS} {u : Int} (hR : t < n → R t y.pc u) : RelP n R (s.putT t y) (s'.putT t { y with pc := u }) := by
  refine ⟨rfl, rfl, rfl, fun v hv => ?_, fun v hv => ?_, fun v hv => ?_⟩
  · rw [putT_th hl, putT_th hl']; split
    · rfl
    · exact h.regs v hv
  · rw [putT_th hl, putT_th hl']; split
    · rfl
    · exact h.wait v hv
  · rw [putT_th hl, putT_th hl']; split
    · rename_i e; subst e; exact hR hv
    · exact h.pc v hv
/-- One of the two goes on alone. -/
theorem RelP.left {n : Nat} {R : Nat → Int → Int → Prop} {s s' : MSt} (h : RelP n R s s') {t : Nat} (hl : t < s.ths.length) {u : Int} (hR : t < n → R t u (nth s'.ths t).pc) : RelP n R (s.putT t { s.view t with pc := u }) s' := by
  refine ⟨h.words, h.owner, h.prints, fun v hv => ?_, fun v hv => ?_, fun v hv => ?_⟩
  · rw [putT_th hl]; split
    · rename_i e; subst e; exact h.regs _ hv
    · exact h.regs v hv
  · rw [putT_th hl]; split
    · rename_i e; subst e; exact h.wait _ hv
    · exact h.wait v hv
  · rw [putT_th hl]; split
    · rename_i e; subst e; exact hR hv
    · exact h.pc v hv
theorem RelP.right {n : Nat} {R : Nat → Int → Int → Prop} {s s' : MSt} (h : RelP n R s s') {t : Nat} (hl : t < s'.ths.length) {u : Int} (hR : t < n → R t (nth s.ths t).pc u) : RelP n R s (s'.putT t { s'.view t with pc := u }) := by
  refine ⟨h.words, h.owner, h.prints, fun v hv => ?_, fun v hv => ?_, fun v hv => ?_⟩
  · rw [putT_th hl]; split
    · rename_i e; subst e; exact h.regs _ hv
    · exact h.regs v hv
  · rw [putT_th hl]; split
    · rename_i e; subst e; exact h.wait _ hv
    · exact h.wait v hv
  · rw [putT_th hl]; split
    · rename_i e; subst e; exact hR hv
    · exact h.pc v hv
theorem Reach.len {p : Pg} {m : Int} (hok : OkPg p) {s : MSt} (h : Reach p m s) {t : Nat} (ht : t < p.code.length) : t < s.ths.length := by rw [(h.wf hok).ths]; exact ht
theorem RelP.trans {n : Nat} {R R' R'' : Nat → Int → Int → Prop} {s s' s'' : MSt} (h : RelP n R s s') (h' : RelP n R' s' s'') (hc : ∀ t a b c, t < n → R t a b → R' t b c → R'' t a c) : RelP n R'' s s'' :=
  ⟨h'.words.trans h.words, h'.owner.trans h.owner, h'.prints.trans h.prints, fun t ht => (h'.regs t ht).trans (h.regs t ht), fun t ht => (h'.wait t ht).trans (h.wait t ht), fun t ht => hc t _ _ _ ht (h.pc t ht) (h'.pc t ht)⟩
theorem RelP.refl (n : Nat) (s : MSt) : RelP n (fun _ a b => b = a) s s := ⟨rfl, rfl, rfl, fun _ _ => rfl, fun _ _ => rfl, fun _ _ => rfl⟩
/-- One thread stands elsewhere. -/
def At1 (t : Nat) (j : Int) (u : Nat) (a b : Int) : Prop := if u = t then b = j else b = a
theorem RelP.one {n : Nat} {s : MSt} {t : Nat} {u : Int} (hl : t < s.ths.length) : RelP n (At1 t u) s (s.putT t { s.view t with pc := u }) := by
  refine ⟨rfl, rfl, rfl, fun v hv => ?_, fun v hv => ?_, fun v hv => ?_⟩
  · rw [putT_th hl]; split
    · rename_i e; subst e; rfl
    · rfl
  · rw [putT_th hl]; split
    · rename_i e; subst e; rfl
    · rfl
  · rw [putT_th hl]; unfold At1; split
    · rename_i e; subst e; rw [if_pos rfl]
    · rename_i e; rw [if_neg (fun h => e h.symm)]
theorem At1.trans {t : Nat} {i j : Int} {u : Nat} {a b c : Int} (h : At1 t i u a b) (h' : At1 t j u b c) : At1 t j u a c := by
  unfold At1 at *
  split
  · rename_i e; rw [if_pos e] at h'; exact h'
  · rename_i e; rw [if_neg e] at h h'; rw [h', h]
/-- Both have gone on, in one thread. -/
theorem RelP.both {n : Nat} {R : Nat → Int → Int → Prop} {s s' s'' : MSt} (h : RelP n R s s') {t : Nat} (hl : t < s.ths.length) {u j : Int} (h' : RelP n (At1 t j) s' s'') (hR : t < n → R t u j) : RelP n R (s.putT t { s.view t with pc := u }) s'' := by
  refine ⟨h'.words.trans h.words, h'.owner.trans h.owner, h'.prints.trans h.prints, fun v hv => ?_, fun v hv => ?_, fun v hv => ?_⟩
  · rw [h'.regs v hv, h.regs v hv, putT_th hl]; split
    · rename_i e; subst e; rfl
    · rfl
  · rw [h'.wait v hv, h.wait v hv, putT_th hl]; split
    · rename_i e; subst e; rfl
    · rfl
  · rw [putT_th hl]
    have h1 := h'.pc v hv
    unfold At1 at h1
    by_cases e : t = v
    · subst e
      rw [if_pos rfl] at h1
      rw [if_pos rfl, h1]
      exact hR hv
    · rw [if_neg (fun h => e h.symm)] at h1
      rw [if_neg e, h1]
      exact h.pc v hv
/-! ### Orders made anew -/
theorem moved_upto (B : Nat → Ins → List Ins) (code : List Ins) : ∀ n, n ≤ code.length → ((List.range n).flatMap fun i => (B i (nth code i)).map (fixMv (becL B code) code i)).length = placeL (becL B code) n ∧
    ∀ i k, i < n → k < (B i (nth code i)).length → nth ((List.range n).flatMap fun i => (B i (nth code i)).map (fixMv (becL B code) code i)) (placeL (becL B code) i + k) = fixMv (becL B code) code i (nth (B i (nth code i)) k) ∧ placeL (becL B code) i + k < placeL (becL B code) n
  | 0, _ => ⟨by simp [placeL], fun i k hi => absurd hi (by omega)⟩
  | n + 1, h => by
    obtain ⟨h1, h2⟩ := moved_upto B code n (by omega)
    have hp : placeL (becL B code) (n + 1) = placeL (becL B code) n + (B n (nth code n)).length := by
      rw [placeL_succ _ _ (by rw [becL_len]; omega), becL_nth _ _ _ (by omega)]
    rw [List.range_succ, List.flatMap_append, List.flatMap_cons, List.flatMap_nil, List.append_nil]
    refine ⟨by rw [List.length_append, h1, hp, List.length_map], fun i k hi hk => ?_⟩
    rcases Nat.lt_or_ge i n with hlt | hge
    · obtain ⟨e1, e2⟩ := h2 i k hlt hk
      exact ⟨by rw [nth_app0, if_pos (by rw [h1]; exact e2)]; exact e1, by omega⟩
    · obtain rfl : i = n := by omega
      refine ⟨?_, by omega⟩
      rw [nth_app0, if_neg (by rw [h1]; omega), h1, Nat.add_sub_cancel_left, nth_map' _ _ _ hk]
theorem moved_len (B : Nat → Ins → List Ins) (code : List Ins) : (movedL B code).length = placeL (becL B code) code.length := (moved_upto B code _ (Nat.le_refl _)).1
theorem moved_at (B : Nat → Ins → List Ins) (code : List Ins) {i k : Nat} (hi : i < code.length) (hk : k < (B i (nth code i)).length) : nth (movedL B code) (placeL (becL B code) i + k) = fixMv (becL B code) code i (nth (B i (nth code i)) k) ∧ placeL (becL B code) i + k < (movedL B code).length := by
  rw [moved_len]; exact (moved_upto B code _ (Nat.le_refl _)).2 i k hi hk
theorem place_succ (B : Nat → Ins → List Ins) (code : List Ins) {i : Nat} (hi : i < code.length) : placeL (becL B code) (i + 1) = placeL (becL B code) i + (B i (nth code i)).length := by
  rw [placeL_succ _ _ (by rw [becL_len]; exact hi), becL_nth _ _ _ hi]
theorem place_mono (B : Nat → Ins → List Ins) (code : List Ins) {i j : Nat} (hij : i ≤ j) (hj : j ≤ code.length) : placeL (becL B code) i ≤ placeL (becL B code) j := by
  induction j with
  | zero => exact (show i = 0 by omega) ▸ Nat.le_refl _
  | succ j ih =>
    rcases Nat.eq_or_lt_of_le hij with e | h
    · rw [e]; exact Nat.le_refl _
    · have := ih (by omega) (by omega)
      rw [place_succ B code (by omega)]; omega
end Go.Proofs.Ytmgikmjmdppfmaa
