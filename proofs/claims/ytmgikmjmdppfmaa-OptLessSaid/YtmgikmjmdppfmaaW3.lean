/-
  Numbers put where they always are: the same outcomes. Plain Lean.
-/
import Derived.Test.YtmgikmjmdppfmaaK1
import Derived.Test.YtmgikmjmdppfmaaX21
import Derived.Test.YtmgikmjmdppfmaaS11
import Derived.Test.YtmgikmjmdppfmaaL1
import Derived.Test.YtmgikmjmdppfmaaL3
import Derived.Test.YtmgikmjmdppfmaaE6
import Derived.Test.YtmgikmjmdppfmaaX35
import Derived.Test.YtmgikmjmdppfmaaF1
section
section
namespace Go.Proofs.Ytmgikmjmdppfmaa
open Go.RowKit
set_option linter.unusedSimpArgs false
set_option linter.unusedVariables false

section
variable {n R L : Nat} {x y : TS} {m : Int} {t : Nat}
theorem RVk.take (h : RVk n R x y) (hx : XK n R L x) {a : Int} (ha : 0 ≤ a ∧ a < L) (t : Nat) : RVk n R { x with owner := x.owner.set a.toNat t } { y with words := y.words.set ((n : Int) + a).toNat 1 } := by
  refine ⟨?_, h.p, h.wt, h.r, h.rl⟩
  show y.words.set _ _ = x.words ++ lkW (x.owner.set _ _)
  rw [lkW_set, h.w, show ((n : Int) + a).toNat = x.words.length + a.toNat by rw [hx.w]; omega, app_set_r, show lkB (t : Int) = 1 by unfold lkB; rw [if_neg (by omega)]]
end
structure RelK (p : Pg) (Rr : Nat → Int → Int → List Int → Prop) (s s' : MSt) : Prop where
  w : s'.words = s.words ++ lkW s.owner
  pr : s'.prints = s.prints
  wt : ∀ t, t < p.code.length → (nth s'.ths t).wait = (nth s.ths t).wait.map (lkWt p.words.length)
  r : ∀ t, t < p.code.length → ∀ k, k < p.regs.toNat → nth (nth s'.ths t).regs k = nth (nth s.ths t).regs k
  rl : ∀ t, t < p.code.length → (nth s'.ths t).regs.length = 8
  pc : ∀ t, t < p.code.length → Rr t (nth s.ths t).pc (nth s'.ths t).pc (nth s'.ths t).regs
section
variable {p : Pg} {Rr : Nat → Int → Int → List Int → Prop} {s s' : MSt} {t : Nat}
theorem RelK.view (h : RelK p Rr s s') (ht : t < p.code.length) : RVk p.words.length p.regs.toNat (s.view t) (s'.view t) := ⟨h.w, h.pr, h.wt t ht, h.r t ht, h.rl t ht⟩
theorem RelK.put (h : RelK p Rr s s') (hl : t < s.ths.length) (hl' : t < s'.ths.length) {x y : TS} (hv : RVk p.words.length p.regs.toNat x y) (hR : Rr t x.pc y.pc y.regs) : RelK p Rr (s.putT t x) (s'.putT t y) := by
  refine ⟨hv.w, hv.p, fun u hu => ?_, fun u hu => ?_, fun u hu => ?_, fun u hu => ?_⟩ <;> rw [putT_th hl'] <;> (try rw [putT_th hl]) <;> split
  · exact hv.wt
  · exact h.wt u hu
  · exact hv.r
  · exact h.r u hu
  · exact hv.rl
  · exact h.rl u hu
  · rename_i e; subst e; exact hR
  · exact h.pc u hu
theorem RelK.right (h : RelK p Rr s s') (hl' : t < s'.ths.length) {y : TS} (hv : RVk p.words.length p.regs.toNat (s.view t) y) (hR : Rr t (nth s.ths t).pc y.pc y.regs) : RelK p Rr s (s'.putT t y) := by
  refine ⟨hv.w, hv.p, fun u hu => ?_, fun u hu => ?_, fun u hu => ?_, fun u hu => ?_⟩ <;> rw [putT_th hl'] <;> split
  · rename_i e; subst e; exact hv.wt
  · exact h.wt u hu
  · rename_i e; subst e; exact hv.r
  · exact h.r u hu
  · exact hv.rl
  · exact h.rl u hu
  · rename_i e; subst e; exact hR
  · exact h.pc u hu
end
inductive StL (nw : Nat) (c : List Ins) (a b : Int) (rs : List Int) : Prop
  | A (i : Nat) (ha : a = i) (hi : i ≤ c.length) (hb : b = (pK nw c i : Int))
  | L1 (i : Nat) (ha : a = i) (hi : i < c.length) (ho : (nth c i).op = 17) (hb : b = ((pK nw c i + 1 : Nat) : Int)) (h6 : nth rs 6 = 0)
  | L2 (i : Nat) (ha : a = i) (hi : i < c.length) (ho : (nth c i).op = 17) (hb : b = ((pK nw c i + 2 : Nat) : Int)) (h6 : nth rs 6 = 0) (h7 : nth rs 7 = 1)
  | L3 (i : Nat) (ha : a = i) (hi : i < c.length) (ho : (nth c i).op = 17) (hb : b = ((pK nw c i + 3 : Nat) : Int)) (h6 : nth rs 6 = 0)
  | S (i : Nat) (ha : a = (i : Int) + 1) (hi : i < c.length) (ho : (nth c i).op = 17) (hb : b = ((pK nw c i + 3 : Nat) : Int)) (h6 : nth rs 6 ≠ 0)
  | U (i : Nat) (ha : a = i) (hi : i < c.length) (ho : (nth c i).op = 18) (hb : b = ((pK nw c i + 1 : Nat) : Int)) (h6 : nth rs 6 = 0)
section
variable {p : Pg} {m : Int}
end
end Go.Proofs.Ytmgikmjmdppfmaa
end
section
namespace Go.Proofs.Ytmgikmjmdppfmaa
open Go.RowKit
set_option linter.unusedSimpArgs false
set_option linter.unusedVariables false

theorem MSt.putT_view {s : MSt} {t : Nat} (h : t < s.ths.length) : s.putT t (s.view t) = s := by
  cases s with
  | mk ths w o pr =>
    unfold MSt.putT MSt.view
    have : ths.set t ⟨(nth ths t).pc, (nth ths t).regs, (nth ths t).wait⟩ = ths := by
      refine ext_nth _ _ (by simp) fun i hi => ?_
      rw [nth_set0]
      split
      · rename_i e; rw [← e.1]
      · rfl
    simp only [this]
section
variable {p : Pg} {m : Int}
end
end Go.Proofs.Ytmgikmjmdppfmaa
end
namespace Go.Proofs.Ytmgikmjmdppfmaa
open Go.RowKit
set_option linter.unusedSimpArgs false
set_option linter.unusedVariables false

theorem kl_ (op : Int) (h : ∀ k : Fin (kindsB op).size, (((kindsB op)[k.1]'k.2).toNat : Int) ≠ 108) (k : Nat) (hk : k < (kindsB op).size) : (((kindsB op)[k]).toNat : Int) ≠ 108 := h ⟨k, hk⟩
theorem kind_l {op : Int} (h17 : op ≠ 17) (h18 : op ≠ 18) (k : Nat) (hk : k < (kindsB op).size) : (((kindsB op)[k]).toNat : Int) ≠ 108 := by
  by_cases hop : 1 ≤ op ∧ op ≤ 18
  · rcases cases18 op hop with rfl | rfl | rfl | rfl | rfl | rfl | rfl | rfl | rfl | rfl | rfl | rfl | rfl | rfl | rfl | rfl | rfl | rfl <;> first | exact absurd rfl h17 | exact absurd rfl h18 | exact kl_ _ (by decide +kernel) k hk
  · have : (kindsB op).size = 0 := by rw [kindsB_none op hop]; rfl
    omega
section
variable {p q : Pg} {size size' : Int} {n : Int}
theorem fits_more {kind : Int} (hr : p.regs ≤ q.regs) (hw : p.words.length ≤ q.words.length) (h99 : kind ≠ 99) (h108 : kind ≠ 108) (h : fitsG p size kind n = true) : fitsG q size' kind n = true := by
  unfold fitsG at h ⊢
  by_cases h1 : kind = 110
  · rw [if_pos h1]
  rw [if_neg h1] at h ⊢
  by_cases h2 : kind = 114
  · simp only [h2, if_true, Bool.and_eq_true, decide_eq_true_eq] at h ⊢; omega
  by_cases h3 : kind = 119
  · simp only [h3, Int.reduceEq, if_true, if_false, Bool.and_eq_true, decide_eq_true_eq] at h ⊢; omega
  simp only [h2, h3, h99, h108, if_false, Bool.and_eq_true, decide_eq_true_eq] at h; omega
theorem OkIns.more {x : Ins} (hr : p.regs ≤ q.regs) (hw : p.words.length ≤ q.words.length) (h14 : x.op ≠ 14) (h15 : x.op ≠ 15) (h17 : x.op ≠ 17) (h18 : x.op ≠ 18) (h : OkIns p size x) : OkIns q size' x := by
  have key : ∀ k, okNumG p size x k = true → okNumG q size' x k = true := by
    intro k hk
    unfold okNumG at hk ⊢
    split
    · rename_i hh
      rw [dif_pos hh] at hk
      exact fits_more hr hw (kind_c h14 h15 k hh) (kind_l h17 h18 k hh) hk
    · rename_i hh
      rw [dif_neg hh] at hk; exact hk
  exact ⟨h.op, key 0 h.n0, key 1 h.n1, key 2 h.n2⟩
theorem fit_r_mk (h : 0 ≤ n ∧ n < p.regs) : fitsG p size 114 n = true := by
  unfold fitsG
  simp only [Int.reduceEq, if_false, if_true, Bool.and_eq_true, decide_eq_true_eq]
  exact h
theorem fit_n_mk : fitsG p size 110 n = true := by unfold fitsG; rw [if_pos rfl]
theorem ok_const {a v : Int} (ha : 0 ≤ a ∧ a < p.regs) : OkIns p size ⟨1, a, v, 0⟩ := by
  have k : kindsB (⟨1, a, v, 0⟩ : Ins).op = ⟨[114, 110].toArray⟩ := by show kindsB 1 = _; unfold kindsB; simp
  exact ⟨⟨show (1 : Int) ≤ 1 by decide, show (1 : Int) ≤ 18 by decide⟩, by rw [num0_iff k]; exact fit_r_mk ha, by rw [num1_iff k]; exact fit_n_mk, by rw [num_no (by rw [k]; decide)]; rfl⟩
end
/-! ### Ends -/
end Go.Proofs.Ytmgikmjmdppfmaa
end
section
namespace Go.Proofs.Ytmgikmjmdppfmaa
open Go.RowKit
set_option linter.unusedSimpArgs false
set_option linter.unusedVariables false

/-- Two states that are the same but for where threads stand, and for their registers. -/
structure RelQ (n : Nat) (R : Nat → Int → List Int → Int → List Int → Prop) (s s' : MSt) : Prop where
  words : s'.words = s.words
  owner : s'.owner = s.owner
  prints : s'.prints = s.prints
  wait : ∀ t, t < n → (nth s'.ths t).wait = (nth s.ths t).wait
  reg : ∀ t, t < n → R t (nth s.ths t).pc (nth s.ths t).regs (nth s'.ths t).pc (nth s'.ths t).regs
/-- A thread of both does the same. -/
structure BothQ (m : Int) (t : Nat) (c d : List Ins) (R : Int → List Int → Int → List Int → Prop) (x y : TS) : Prop where
  h : x.pc < c.length
  h' : y.pc < d.length
  hab : ∀ o n, ableL o n (nextIns d y.pc) = ableL o n (nextIns c x.pc)
  hf : (execT m t (nextIns d y.pc) { y with pc := y.pc + 1 }).fell = (execT m t (nextIns c x.pc) { x with pc := x.pc + 1 }).fell
  hw : (execT m t (nextIns d y.pc) { y with pc := y.pc + 1 }).words = (execT m t (nextIns c x.pc) { x with pc := x.pc + 1 }).words
  ho : (execT m t (nextIns d y.pc) { y with pc := y.pc + 1 }).owner = (execT m t (nextIns c x.pc) { x with pc := x.pc + 1 }).owner
  hp : (execT m t (nextIns d y.pc) { y with pc := y.pc + 1 }).prints = (execT m t (nextIns c x.pc) { x with pc := x.pc + 1 }).prints
  hwt : (execT m t (nextIns d y.pc) { y with pc := y.pc + 1 }).wait = (execT m t (nextIns c x.pc) { x with pc := x.pc + 1 }).wait
  hR : (execT m t (nextIns c x.pc) { x with pc := x.pc + 1 }).fell = false → R (execT m t (nextIns c x.pc) { x with pc := x.pc + 1 }).pc (execT m t (nextIns c x.pc) { x with pc := x.pc + 1 }).regs (execT m t (nextIns d y.pc) { y with pc := y.pc + 1 }).pc (execT m t (nextIns d y.pc) { y with pc := y.pc + 1 }).regs
/-- What a thread of both can do next. -/
inductive NextQ (m : Int) (t : Nat) (c d : List Ins) (R : Int → List Int → Int → List Int → Prop) (mu : Int → Nat) (x y : TS) : Prop
  | over (h : (c.length : Int) ≤ x.pc) (h' : (d.length : Int) ≤ y.pc)
  | alone (h : x.pc < c.length) (hab : ∀ o n, ableL o n (nextIns c x.pc) = true) (u : Int) (r : List Int) (he : execT m t (nextIns c x.pc) { x with pc := x.pc + 1 } = { x with pc := u, regs := r }) (hR : R u r y.pc y.regs) (hmu : mu u < mu x.pc)
  | both (h : BothQ m t c d R x y)
structure SimQ (p q : Pg) (m : Int) (R : Nat → Int → List Int → Int → List Int → Prop) (mu : Nat → Int → Nat) : Prop where
  okp : OkPg p
  okq : OkPg q
  len : q.code.length = p.code.length
  words : q.words = p.words
  locks : q.locks = p.locks
  first : ∀ t, t < p.code.length → R t 0 (List.replicate p.regs.toNat 0) 0 (List.replicate q.regs.toNat 0)
  next : ∀ t, t < p.code.length → ∀ x y : TS, y.words = x.words → y.owner = x.owner → y.prints = x.prints → y.wait = x.wait → x.fell = false → y.fell = false → R t x.pc x.regs y.pc y.regs → NextQ m t (nth p.code t) (nth q.code t) (R t) (mu t) x y
section
variable {p q : Pg} {m : Int} {R : Nat → Int → List Int → Int → List Int → Prop} {mu : Nat → Int → Nat} {s s' : MSt} {t : Nat}
theorem RelQ.put (h : RelQ p.code.length R s s') (hl : t < s.ths.length) (hl' : t < s'.ths.length) {x y : TS} (hw : y.words = x.words) (ho : y.owner = x.owner) (hp : y.prints = x.prints) (hwt : y.wait = x.wait) (hR : R t x.pc x.regs y.pc y.regs) : RelQ p.code.length R (s.putT t x) (s'.putT t y) := by
  refine ⟨hw, ho, hp, fun v hv => ?_, fun v hv => ?_⟩
  · rw [putT_th hl, putT_th hl']; split
    · exact hwt
    · exact h.wait v hv
  · rw [putT_th hl, putT_th hl']; split
    · rename_i e; subst e; exact hR
    · exact h.reg v hv
theorem RelQ.left (h : RelQ p.code.length R s s') (hl : t < s.ths.length) {u : Int} {r : List Int} (hR : R t u r (nth s'.ths t).pc (nth s'.ths t).regs) : RelQ p.code.length R (s.putT t { s.view t with pc := u, regs := r }) s' := by
  refine ⟨h.words, h.owner, h.prints, fun v hv => ?_, fun v hv => ?_⟩
  · rw [putT_th hl]; split
    · rename_i e; subst e; exact h.wait t hv
    · exact h.wait v hv
  · rw [putT_th hl]; split
    · rename_i e; subst e; exact hR
    · exact h.reg v hv
/-- What waits is done alike. -/
theorem RelQ.waits (H : SimQ p q m R mu) (hr : Reach p m s) (hr' : Reach q m s') (h : RelQ p.code.length R s s') (ht : t < p.code.length) {k : Nat} (hk : 0 < k) :
    mvOK m (nth q.code t) (s'.view t) k = mvOK m (nth p.code t) (s.view t) k ∧ (stepT p m s t k).fell = false ∧ (stepT q m s' t k).fell = false ∧ RelQ p.code.length R (s.putT t (stepT p m s t k)) (s'.putT t (stepT q m s' t k)) := by
  have hl := hr.len H.okp ht
  have hl' := hr'.len H.okq (t := t) (by rw [H.len]; exact ht)
  have hwt : (s'.view t).wait = (s.view t).wait := h.wait t ht
  have hw : (s'.view t).words = (s.view t).words := h.words
  have ho : (s'.view t).owner = (s.view t).owner := h.owner
  have e : ∀ (p : Pg) (s : MSt), stepT p m s t k = { (s.view t).done (nth (s.view t).wait (k - 1)) with wait := (s.view t).wait.eraseIdx (k - 1) } := fun p s => by
    unfold stepT doT; rw [if_pos hk]
  refine ⟨?_, by rw [e]; rfl, by rw [e]; rfl, ?_⟩
  · unfold mvOK
    rw [if_neg (by omega), if_neg (by omega), hwt]
  · rw [e p s, e q s']
    refine h.put hl hl' ?_ ?_ h.prints ?_ (h.reg t ht)
    · show (TS.done _ _).words = (TS.done _ _).words
      unfold TS.done
      rw [hwt]; simp only [hw]
    · show (TS.done _ _).owner = (TS.done _ _).owner
      unfold TS.done
      rw [hwt]; simp only [ho]
    · show List.eraseIdx _ _ = List.eraseIdx _ _
      rw [hwt]
theorem sq_able {m : Int} {c : List Ins} {x : TS} (h : x.pc < c.length) : mvOK m c x 0 = ableL x.owner x.wait.length (nextIns c x.pc) := by
  unfold mvOK ableV
  rw [if_pos rfl, decide_eq_true h]; rfl
theorem sq_over {m : Int} {c : List Ins} {x : TS} (h : (c.length : Int) ≤ x.pc) : mvOK m c x 0 = false := by
  unfold mvOK ableV
  rw [if_pos rfl, decide_eq_false (by omega)]; rfl
/-- Nothing is left that the first does alone. -/
def Synced (p q : Pg) (m : Int) (R : Nat → Int → List Int → Int → List Int → Prop) (s s' : MSt) (t : Nat) : Prop := (((nth p.code t).length : Int) ≤ (s.view t).pc ∧ ((nth q.code t).length : Int) ≤ (s'.view t).pc) ∨ BothQ m t (nth p.code t) (nth q.code t) (R t) (s.view t) (s'.view t)
theorem Synced.pc (h : Synced p q m R s s' t) : (s.view t).pc < ((nth p.code t).length : Int) ↔ (s'.view t).pc < ((nth q.code t).length : Int) := by
  rcases h with ⟨h1, h2⟩ | h
  · omega
  · exact ⟨fun _ => h.h', fun _ => h.h⟩
theorem Synced.able (hs : Synced p q m R s s' t) (h : RelQ p.code.length R s s') (ht : t < p.code.length) : mvOK m (nth q.code t) (s'.view t) 0 = mvOK m (nth p.code t) (s.view t) 0 := by
  rcases hs with ⟨h1, h2⟩ | hb
  · rw [sq_over h1, sq_over h2]
  · have e1 : (s'.view t).owner = (s.view t).owner := h.owner
    have e2 : (s'.view t).wait = (s.view t).wait := h.wait t ht
    rw [sq_able hb.h, sq_able hb.h', hb.hab, e1, e2]
end
end Go.Proofs.Ytmgikmjmdppfmaa
end
section
namespace Go.Proofs.Ytmgikmjmdppfmaa
open Go.RowKit
set_option linter.unusedSimpArgs false
set_option linter.unusedVariables false

/-- Where orders stand. -/
def plB (B : Nat → Ins → List Ins) (c : List Ins) (i : Nat) : Nat := placeL (becL B c) i
section
variable {B : Nat → Ins → List Ins} {c : List Ins} {i : Nat} {y : Ins}
theorem plB_0 : plB B c 0 = 0 := by simp [plB, placeL]
theorem plB_len : (movedL B c).length = plB B c c.length := moved_len B c
theorem plB_gone (h : i < c.length) (hg : B i (nth c i) = []) : plB B c (i + 1) = plB B c i := by
  unfold plB
  rw [place_succ _ _ h, hg]; rfl
theorem plB_kept (h : i < c.length) (hg : B i (nth c i) = [y]) : plB B c (i + 1) = plB B c i + 1 ∧ plB B c i < (movedL B c).length ∧ nth (movedL B c) (plB B c i) = fixMv (becL B c) c i y := by
  have h1 := place_succ B c h
  rw [hg] at h1
  have h2 := moved_at B c (i := i) (k := 0) h (by rw [hg]; simp)
  rw [hg] at h2
  exact ⟨h1, h2.2, h2.1⟩
theorem plB_le (h : i ≤ c.length) : plB B c i ≤ (movedL B c).length := by
  rw [plB_len]; exact place_mono B c h (Nat.le_refl _)
theorem plB_id (hB : ∀ i, (B i (nth c i)).length ≤ 1) : ∀ {i}, i ≤ c.length → plB B c i ≤ i
  | 0, _ => by rw [plB_0]; exact Nat.le_refl _
  | i + 1, h => by
    have h1 := plB_id hB (i := i) (by omega)
    have h2 := hB i
    unfold plB at h1 ⊢
    rw [place_succ _ _ (by omega)]
    omega
theorem fixW_no (h14 : y.op ≠ 14) (h15 : y.op ≠ 15) : fixMv (becL B c) c i y = y := by
  unfold fixMv; rw [if_neg (fun h => h14 h.1), if_neg (fun h => h15 h.1)]
theorem fixW_14 (h14 : y.op = 14) (h : (nth c i).op = 14 ∨ (nth c i).op = 15) : fixMv (becL B c) c i y = { y with a := plB B c y.a.toNat } := by
  unfold fixMv; rw [if_pos ⟨h14, h⟩]; rfl
theorem fixW_15 (h15 : y.op = 15) (h : (nth c i).op = 15) : fixMv (becL B c) c i y = { y with b := plB B c y.b.toNat } := by
  unfold fixMv; rw [if_neg (fun h => by omega), if_pos ⟨h15, h⟩]; rfl
/-- Each that is left stands where one stood. -/
theorem plB_from (hB : ∀ i, (B i (nth c i)).length ≤ 1) : ∀ n, n ≤ c.length → ∀ j, j < plB B c n → ∃ i y, i < n ∧ B i (nth c i) = [y] ∧ plB B c i = j
  | 0, _, j, hj => by rw [plB_0] at hj; omega
  | n + 1, hn, j, hj => by
    have h1 := place_succ B c (show n < c.length by omega)
    have h2 := hB n
    rcases Nat.lt_or_ge j (plB B c n) with h | h
    · obtain ⟨i, y, k1, k2, k3⟩ := plB_from hB n (by omega) j h
      exact ⟨i, y, by omega, k2, k3⟩
    · have h3 : plB B c (n + 1) = plB B c n + (B n (nth c n)).length := h1
      cases hb : B n (nth c n) with
      | nil => rw [hb] at h3; simp at h3; omega
      | cons y r =>
        rw [hb] at h2 h3
        have : r = [] := by simpa using h2
        subst this
        exact ⟨n, y, by omega, hb, by simp at h3; omega⟩
end
-- ---------------------------------------------------------------- one order, of two views that differ in registers
structure SameB (a b : TS) : Prop where
  w : b.words = a.words
  o : b.owner = a.owner
  p : b.prints = a.prints
  wt : b.wait = a.wait
  f : b.fell = a.fell
section
variable {x : Ins}
theorem rd_1W (h : x.op = 2 ∨ x.op = 9 ∨ x.op = 10) : rdG x = [x.b] := by unfold rdG; rw [if_pos h]
theorem rd_2W (h : (3 ≤ x.op ∧ x.op ≤ 7) ∨ x.op = 13) : rdG x = [x.b, x.c] := by unfold rdG; rw [if_neg (by omega), if_pos h]
theorem rd_4W (h : x.op = 15 ∨ x.op = 16) : rdG x = [x.a] := by unfold rdG; rw [if_neg (by omega), if_neg (by omega), if_neg (by omega), if_pos h]
theorem wr_aW (h : x.op ≤ 8 ∨ x.op = 10) : wrG x = x.a := by unfold wrG; rw [if_neg (by omega), if_pos h]
theorem wr_nW (h : x.op = 9 ∨ x.op = 11 ∨ x.op = 12 ∨ 14 ≤ x.op) : wrG x = -1 := by unfold wrG; rw [if_neg (by omega), if_neg (by omega)]
end
section
variable {m : Int} {n : Nat} {i : Ins} {a b : TS}
theorem SameB.put (h : SameB a b) (k k' v v' : Int) : SameB (a.put k v) (b.put k' v') := ⟨h.w, h.o, h.p, h.wt, h.f⟩
theorem SameB.falls (h : SameB a b) : SameB { a with fell := true } { b with fell := true } := ⟨h.w, h.o, h.p, h.wt, rfl⟩
theorem SameB.finds (h : SameB a b) (w : Int) : b.finds w = a.finds w := by unfold TS.finds; rw [h.w, h.wt]
theorem SameB.store (h : SameB a b) (w : Wt) : SameB (a.store m w) (b.store m w) := by
  unfold TS.store
  split
  · exact ⟨h.w, h.o, h.p, by show b.wait ++ _ = a.wait ++ _; rw [h.wt], h.f⟩
  · unfold TS.done
    exact ⟨by show (if _ then _ else _) = (if _ then _ else _); rw [h.w], by show (if _ then _ else _) = (if _ then _ else _); rw [h.o], h.p, h.wt, h.f⟩
end
/-- What is reckoned. -/
def valI (i : Ins) (r : List Int) : Int := if i.op = 1 then i.b else if i.op = 2 then nth r i.b.toNat else arV i.op (nth r i.b.toNat) (nth r i.c.toNat)
theorem okvP {p : Pg} (hok : OkPg p) {t : Nat} (ht : t < p.code.length) : OkV (nth p.code t) ((p.regs.toNat : Nat) : Int) := by
  intro i hi
  have h := okV_ins hok.regs.1 (hok.ins t i ht hi)
  have hr := hok.regs
  rw [Int.toNat_of_nonneg (by omega)]; exact h
theorem jmpP {p : Pg} (hok : OkPg p) {t : Nat} (ht : t < p.code.length) : JumpsOK (nth p.code t) := fun i hi => (hok.insR ht hi).2
end Go.Proofs.Ytmgikmjmdppfmaa
end
section
namespace Go.Proofs.Ytmgikmjmdppfmaa
open Go.RowKit
set_option linter.unusedSimpArgs false
set_option linter.unusedVariables false

/-- Where a thread of the fenced program stands (b, what waits), and where the plain one's does (a). -/
inductive StF (p : Pg) (t : Nat) (b : Int) (wt : List Wt) (a : Int) (regs : List Int) (W : Nat) (owner : List Int) : Prop
  | A (i : Nat) (ha : a = i) (hi : i ≤ (nth p.code t).length) (hb : b = (pF (nth p.code t) i : Int)) (hw : wt = [])
  | B (i : Nat) (ha : a = i) (hi : i < (nth p.code t).length) (hs : isSt (nth (nth p.code t) i).op) (hb : b = (pF (nth p.code t) i : Int) + 1) (hw : wt = [pend (nth (nth p.code t) i) regs]) (hp : pendOK t (nth (nth p.code t) i) regs W owner)
  | C (i : Nat) (ha : a = i + 1) (hi : i < (nth p.code t).length) (hs : isSt (nth (nth p.code t) i).op) (hb : b = (pF (nth p.code t) i : Int) + 1) (hw : wt = [])
structure RelF (p : Pg) (s' s : MSt) : Prop where
  words : s.words = s'.words
  owner : s.owner = s'.owner
  prints : s.prints = s'.prints
  regs : ∀ t, t < p.code.length → (nth s.ths t).regs = (nth s'.ths t).regs
  th : ∀ t, t < p.code.length → StF p t (nth s'.ths t).pc (nth s'.ths t).wait (nth s.ths t).pc (nth s.ths t).regs s.words.length s.owner
theorem pendOK.other {t : Nat} {i : Ins} {regs : List Int} {W W' : Nat} {owner owner' : List Int} (h : pendOK t i regs W owner) (hW : W' = W) (ho : ∀ a, nth owner a = (t : Int) → nth owner' a = t) : pendOK t i regs W' owner' := ⟨fun e => ho _ (h.1 e), by rw [hW]; exact h.2⟩
theorem StF.other {p : Pg} {t : Nat} {b : Int} {wt : List Wt} {a : Int} {regs : List Int} {W W' : Nat} {owner owner' : List Int} (h : StF p t b wt a regs W owner) (hW : W' = W) (ho : ∀ a, nth owner a = (t : Int) → nth owner' a = t) : StF p t b wt a regs W' owner' := by
  cases h with
  | A i ha hi hb hw => exact .A i ha hi hb hw
  | B i ha hi hs hb hw hp => exact .B i ha hi hs hb hw (hp.other hW ho)
  | C i ha hi hs hb hw => exact .C i ha hi hs hb hw
/-- Both go on in one thread. -/
theorem RelF.both {p : Pg} {s' s : MSt} (h : RelF p s' s) {t : Nat} (hl' : t < s'.ths.length) (hl : t < s.ths.length) {y' y : TS} (e1 : y.words = y'.words) (e2 : y.owner = y'.owner) (e3 : y.prints = y'.prints) (e4 : y.regs = y'.regs) (hW : y.words.length = s.words.length)
    (ho : ∀ a (u : Nat), u ≠ t → nth s.owner a = (u : Int) → nth y.owner a = u) (hst : StF p t y'.pc y'.wait y.pc y.regs y.words.length y.owner) : RelF p (s'.putT t y') (s.putT t y) := by
  refine ⟨e1, e2, e3, fun u hu => ?_, fun u hu => ?_⟩
  · rw [putT_th hl, putT_th hl']; split
    · exact e4
    · exact h.regs u hu
  · rw [putT_th hl, putT_th hl']
    by_cases e : t = u
    · subst e; rw [if_pos rfl, if_pos rfl]; exact hst
    · rw [if_neg e, if_neg e]
      exact (h.th u hu).other hW fun a ha => ho a u (fun h => e h.symm) ha
/-- The fenced one goes on alone. -/
theorem RelF.left {p : Pg} {s' s : MSt} (h : RelF p s' s) {t : Nat} (hl' : t < s'.ths.length) {y' : TS} (e1 : s.words = y'.words) (e2 : s.owner = y'.owner) (e3 : s.prints = y'.prints) (e4 : t < p.code.length → (nth s.ths t).regs = y'.regs) (hst : t < p.code.length → StF p t y'.pc y'.wait (nth s.ths t).pc (nth s.ths t).regs s.words.length s.owner) : RelF p (s'.putT t y') s := by
  refine ⟨e1, e2, e3, fun u hu => ?_, fun u hu => ?_⟩
  · rw [putT_th hl']; split
    · rename_i e; subst e; exact e4 hu
    · exact h.regs u hu
  · rw [putT_th hl']; split
    · rename_i e; subst e; exact hst hu
    · exact h.th u hu
section
variable {p : Pg}
end
end Go.Proofs.Ytmgikmjmdppfmaa
end
namespace Go.Proofs.Ytmgikmjmdppfmaa
open Go.RowKit
set_option linter.unusedSimpArgs false
set_option linter.unusedVariables false

section
variable {code : List Ins} {R : Nat}
theorem nxtE_sub {i : Nat} {e : List VV} {d : Nat} (h : d ∈ nxtE code i e) : ∃ y ∈ nextsL code i, y.toNat = d := by
  unfold nxtE at h
  unfold nextsL
  by_cases h15 : (nth code i).op = 15
  · rw [if_pos h15] at h
    rw [if_neg (by omega), if_pos h15]
    rcases List.mem_append.1 h with h | h
    · split at h
      · exact ⟨((i + 1 : Nat) : Int), by simp, by have := List.mem_singleton.1 h; omega⟩
      · cases h
    · split at h
      · exact ⟨(nth code i).b, by simp, (List.mem_singleton.1 h).symm⟩
      · cases h
  · rw [if_neg h15] at h
    obtain ⟨y, h1, h2⟩ := List.mem_map.1 h
    unfold nextsL at h1
    exact ⟨y, h1, h2⟩
theorem nxtE_le (hj : JumpsOK code) {i : Nat} (hi : i < code.length) {e : List VV} {d : Nat} (h : d ∈ nxtE code i e) : d ≤ code.length := by
  obtain ⟨y, h1, rfl⟩ := nxtE_sub h
  have := nextsV_ok hj hi h1
  omega
theorem leads_ex (hj : JumpsOK code) {t : Nat} (ht : t < code.length) {e : List VV} : ∀ (ds : List Nat) (A : AF) (wk dn : List Nat), (∀ d ∈ ds, d ∈ nxtE code t (endV code t e)) → MidI code R A wk t e dn →
    ∃ A' wk', MidI code R A' wk' t e (dn ++ ds) ∧ wk'.length + muA R A' (code.length + 1) ≤ wk.length + muA R A (code.length + 1)
  | [], A, wk, dn, _, h => ⟨A, wk, by rw [List.append_nil]; exact h, Nat.le_refl _⟩
  | d :: ds, A, wk, dn, hd, h => by
    have hd1 := hd d (by simp)
    have hdl := nxtE_le hj ht hd1
    obtain ⟨A', wk', h1, h2⟩ := leads_ex hj ht ds _ _ (dn ++ [d]) (fun x hx => hd x (by simp [hx])) (h.lead hd1 hdl)
    have h3 := lead_mu (wk := wk) h.low.ok (outE_ok (i := nth code t) h.oe) hdl
    exact ⟨A', wk', by rw [show dn ++ d :: ds = dn ++ [d] ++ ds by simp]; exact h1, Nat.le_trans h2 h3⟩
theorem work_ex (hj : JumpsOK code) : ∀ (n : Nat) (A : AF) (wk : List Nat), WkI code R A wk → wk.length + muA R A (code.length + 1) ≤ n → ∃ A, Least code R A
  | 0, A, wk, h, hn => by
    obtain rfl : wk = [] := List.length_eq_zero_iff.1 (by omega)
    exact ⟨A, h.least⟩
  | n + 1, A, wk, h, hn => by
    rcases List.eq_nil_or_concat wk with rfl | ⟨w, t, rfl⟩
    · exact ⟨A, h.least⟩
    · rw [List.concat_eq_append] at h hn
      rw [List.length_append] at hn
      rcases Nat.lt_or_ge t code.length with ht | ht
      · cases ha : A t with
        | none => exact absurd ha (h.wk t (by simp))
        | some e =>
          obtain ⟨A', wk', h1, h2⟩ := leads_ex hj ht (nxtE code t (endV code t e)) A w [] (fun _ h => h) (h.pop ht ha)
          exact work_ex hj n A' wk' (h1.fin fun d hd => by simpa using hd) (by simp at hn; omega)
      · exact work_ex hj n A w (h.popEnd ht) (by simp at hn; omega)
theorem leastA_is (hj : JumpsOK code) (R : Nat) : Least code R (leastA code R) := by
  obtain ⟨A, h⟩ := work_ex (R := R) hj _ _ _ WkI.start (Nat.le_refl _)
  rw [← leastA_eq h]; exact h
end
/-- What registers hold, as told. -/
def FitV (v : VV) (n : Int) : Prop := v.s = 2 ∨ (v.s = 1 ∧ n = v.n)
structure Fits (R : Nat) (e : List VV) (r : List Int) : Prop where
  el : e.length = R
  rl : r.length = R
  all : ∀ k, k < R → FitV (nth e k) (nth r k)
section
variable {R : Nat} {e e' : List VV} {r : List Int} {x : Ins} {v u : VV} {n : Int}
theorem FitV.up (h : FitV v n) (hl : leV v u) : FitV u n := by
  rcases hl with hl | rfl | hl
  · rcases h with h | h <;> omega
  · exact h
  · exact .inl hl
theorem Fits.up (h : Fits R e r) (hl : leL e e') (he : e'.length = R) : Fits R e' r := ⟨he, h.rl, fun k hk => (h.all k hk).up (hl k)⟩
theorem Fits.set (h : Fits R e r) (k : Nat) (hf : FitV v n) : Fits R (e.set k v) (r.set k n) := by
  refine ⟨by rw [List.length_set]; exact h.el, by rw [List.length_set]; exact h.rl, fun q hq => ?_⟩
  rw [nth_setE, nth_set0]
  have h1 := h.el
  have h2 := h.rl
  by_cases e9 : k = q
  · rw [if_pos ⟨e9, by omega⟩, if_pos ⟨e9, by omega⟩]; exact hf
  · rw [if_neg (fun h => e9 h.1), if_neg (fun h => e9 h.1)]; exact h.all q hq
theorem Fits.val (h : Fits R e r) (hop : 1 ≤ x.op ∧ x.op ≤ 7) (hb : 2 ≤ x.op → 0 ≤ x.b ∧ x.b < (R : Int)) (hc : 3 ≤ x.op → 0 ≤ x.c ∧ x.c < (R : Int)) : FitV (rkV x e) (valI x r) := by
  unfold rkV valI
  by_cases h1 : x.op = 1
  · rw [if_pos h1, if_pos h1]; exact .inr ⟨rfl, rfl⟩
  · rw [if_neg h1, if_neg h1]
    by_cases h2 : x.op = 2
    · rw [if_pos h2, if_pos h2]
      have := hb (by omega)
      exact h.all _ (by omega)
    · rw [if_neg h2, if_neg h2]
      have h3 : 3 ≤ x.op := by omega
      have f1 := h.all x.b.toNat (by have := hb (by omega); omega)
      have f2 := h.all x.c.toNat (by have := hc h3; omega)
      unfold rk2
      rw [if_neg (by rcases f1 with f1 | f1 <;> rcases f2 with f2 | f2 <;> omega)]
      split
      · exact .inl rfl
      · rename_i h9
        rcases f1 with f1 | ⟨_, f1⟩
        · exact absurd (.inl f1) h9
        · rcases f2 with f2 | ⟨_, f2⟩
          · exact absurd (.inr f2) h9
          · exact .inr ⟨rfl, by show arV _ _ _ = arV _ _ _; rw [f1, f2]⟩
end
-- ---------------------------------------------------------------- what an order becomes
section
variable {A : AF} {i : Nat} {x : Ins} {e : List VV}
theorem bcE (hA : A i = some e) : bcC A i x = if 2 ≤ x.op ∧ x.op ≤ 7 ∧ (rkV x e).s = 1 then [⟨1, x.a, (rkV x e).n, 0⟩] else if x.op = 15 ∧ (nth e x.a.toNat).s = 1 then (if (nth e x.a.toNat).n ≠ 0 then [] else [⟨14, x.b, 0, 0⟩]) else [x] := by
  unfold bcC; rw [hA]
theorem bcE_c (hA : A i = some e) (h : 2 ≤ x.op ∧ x.op ≤ 7 ∧ (rkV x e).s = 1) : bcC A i x = [⟨1, x.a, (rkV x e).n, 0⟩] := by rw [bcE hA, if_pos h]
theorem bcE_z (hA : A i = some e) (h : x.op = 15 ∧ (nth e x.a.toNat).s = 1) (hn : (nth e x.a.toNat).n ≠ 0) : bcC A i x = [] := by rw [bcE hA, if_neg (by omega), if_pos h, if_pos hn]
theorem bcE_j (hA : A i = some e) (h : x.op = 15 ∧ (nth e x.a.toNat).s = 1) (hn : (nth e x.a.toNat).n = 0) : bcC A i x = [⟨14, x.b, 0, 0⟩] := by rw [bcE hA, if_neg (by omega), if_pos h, if_neg (fun h9 => h9 hn)]
theorem bcE_s (hA : A i = some e) (h : ¬ (2 ≤ x.op ∧ x.op ≤ 7 ∧ (rkV x e).s = 1)) (h2 : ¬ (x.op = 15 ∧ (nth e x.a.toNat).s = 1)) : bcC A i x = [x] := by rw [bcE hA, if_neg h, if_neg h2]
end
theorem okv_b {c : List Ins} {R i : Nat} (hov : OkV c (R : Int)) (hi : i < c.length) (h : 2 ≤ (nth c i).op ∧ (nth c i).op ≤ 7) : 0 ≤ (nth c i).b ∧ (nth c i).b < (R : Int) := by
  refine (hov i hi).2.2.2 _ ?_
  rcases Int.lt_or_le 2 (nth c i).op with h9 | h9
  · rw [rd_2W (by omega)]; simp
  · rw [rd_1W (by omega)]; simp
theorem okv_c {c : List Ins} {R i : Nat} (hov : OkV c (R : Int)) (hi : i < c.length) (h : 3 ≤ (nth c i).op ∧ (nth c i).op ≤ 7) : 0 ≤ (nth c i).c ∧ (nth c i).c < (R : Int) := by
  refine (hov i hi).2.2.2 _ ?_
  rw [rd_2W (by omega)]; simp
section
variable {m : Int} {t : Nat} {c : List Ins} {R : Nat} {A : AF}
end
end Go.Proofs.Ytmgikmjmdppfmaa
