/-
  Loops in the place of locks: the linked program may be; what is told of the ends. In plain Lean.
-/
import Derived.Test.YtanhbpofhebbaaaK3
import Derived.Test.YtanhbpofhebbaaaX28
namespace Go.Proofs.Ytanhbpofhebbaaa
open Go.RowKit
set_option linter.unusedSimpArgs false
set_option linter.unusedVariables false

theorem kl_ (op : Int) (h : ∀ k : Fin (kindsB op).size, (((kindsB op)[k.1]'k.2).toNat : Int) ≠ 108) (k : Nat) (hk : k < (kindsB op).size) : (((kindsB op)[k]).toNat : Int) ≠ 108 := h ⟨k, hk⟩
theorem kind_l {op : Int} (h17 : op ≠ 17) (h18 : op ≠ 18) (k : Nat) (hk : k < (kindsB op).size) : (((kindsB op)[k]).toNat : Int) ≠ 108 := by
  by_cases hop : 1 ≤ op ∧ op ≤ 18
  · rcases cases18 op hop with rfl | rfl | rfl | rfl | rfl | rfl | rfl | rfl | rfl | rfl | rfl | rfl | rfl | rfl | rfl | rfl | rfl | rfl <;> first | exact absurd rfl h17 | exact absurd rfl h18 | exact kl_ _ (by decide +kernel) k hk
  · have : (kindsB op).size = 0 := by rw [kindsB_none op hop]; rfl
    omega
section
variable {p q : Pg} {size size' : Int} {n : Int}
theorem fits_more {kind : Int} (hr : p.regs ≤ q.regs) (hw : p.words.length ≤ q.words.length) (h99 : kind ≠ 99) (h108 : kind ≠ 108) (h : fitsG p size kind n = true) : fitsG q size' kind n = true := by
  unfold fitsG at h ⊢
  by_cases h1 : kind = 110
  · rw [if_pos h1]
  rw [if_neg h1] at h ⊢
  by_cases h2 : kind = 114
  · simp only [h2, if_true, Bool.and_eq_true, decide_eq_true_eq] at h ⊢; omega
  by_cases h3 : kind = 119
  · simp only [h3, Int.reduceEq, if_true, if_false, Bool.and_eq_true, decide_eq_true_eq] at h ⊢; omega
  simp only [h2, h3, h99, h108, if_false, Bool.and_eq_true, decide_eq_true_eq] at h; omega
theorem OkIns.more {x : Ins} (hr : p.regs ≤ q.regs) (hw : p.words.length ≤ q.words.length) (h14 : x.op ≠ 14) (h15 : x.op ≠ 15) (h17 : x.op ≠ 17) (h18 : x.op ≠ 18) (h : OkIns p size x) : OkIns q size' x := by
  have key : ∀ k, okNumG p size x k = true → okNumG q size' x k = true := by
    intro k hk
    unfold okNumG at hk ⊢
    split
    · rename_i hh
      rw [dif_pos hh] at hk
      exact fits_more hr hw (kind_c h14 h15 k hh) (kind_l h17 h18 k hh) hk
    · rename_i hh
      rw [dif_neg hh] at hk; exact hk
  exact ⟨h.op, key 0 h.n0, key 1 h.n1, key 2 h.n2⟩
theorem fit_r_mk (h : 0 ≤ n ∧ n < p.regs) : fitsG p size 114 n = true := by
  unfold fitsG
  simp only [Int.reduceEq, if_false, if_true, Bool.and_eq_true, decide_eq_true_eq]
  exact h
theorem fit_w_mk (h : 0 ≤ n ∧ n < p.words.length) : fitsG p size 119 n = true := by
  unfold fitsG
  simp only [Int.reduceEq, if_false, if_true, Bool.and_eq_true, decide_eq_true_eq]
  exact h
theorem fit_n_mk : fitsG p size 110 n = true := by unfold fitsG; rw [if_pos rfl]
theorem num2_iff {x : Ins} {a b c : UInt8} {r : List UInt8} (hk : kindsB x.op = ⟨(a :: b :: c :: r).toArray⟩) : okNumG p size x 2 = fitsG p size (c.toNat : Int) x.c := by
  unfold okNumG
  rw [hk, dif_pos (by simp [ByteArray.size])]; rfl
theorem ok_const {a v : Int} (ha : 0 ≤ a ∧ a < p.regs) : OkIns p size ⟨1, a, v, 0⟩ := by
  have k : kindsB (⟨1, a, v, 0⟩ : Ins).op = ⟨[114, 110].toArray⟩ := by show kindsB 1 = _; unfold kindsB; simp
  exact ⟨⟨show (1 : Int) ≤ 1 by decide, show (1 : Int) ≤ 18 by decide⟩, by rw [num0_iff k]; exact fit_r_mk ha, by rw [num1_iff k]; exact fit_n_mk, by rw [num_no (by rw [k]; decide)]; rfl⟩
theorem ok_cas {a b c : Int} (ha : 0 ≤ a ∧ a < p.words.length) (hb : 0 ≤ b ∧ b < p.regs) (hc : 0 ≤ c ∧ c < p.regs) : OkIns p size ⟨13, a, b, c⟩ := by
  have k : kindsB (⟨13, a, b, c⟩ : Ins).op = ⟨[119, 114, 114].toArray⟩ := by show kindsB 13 = _; unfold kindsB; simp
  exact ⟨⟨show (1 : Int) ≤ 13 by decide, show (13 : Int) ≤ 18 by decide⟩, by rw [num0_iff k]; exact fit_w_mk ha, by rw [num1_iff k]; exact fit_r_mk hb, by rw [num2_iff k]; exact fit_r_mk hc⟩
theorem ok_store {a b : Int} (ha : 0 ≤ a ∧ a < p.words.length) (hb : 0 ≤ b ∧ b < p.regs) : OkIns p size ⟨9, a, b, 0⟩ := by
  have k : kindsB (⟨9, a, b, 0⟩ : Ins).op = ⟨[119, 114].toArray⟩ := by show kindsB 9 = _; unfold kindsB; simp
  exact ⟨⟨show (1 : Int) ≤ 9 by decide, show (9 : Int) ≤ 18 by decide⟩, by rw [num0_iff k]; exact fit_w_mk ha, by rw [num1_iff k]; exact fit_r_mk hb, by rw [num_no (by rw [k]; decide)]; rfl⟩
theorem ok_zero {a b : Int} (ha : 0 ≤ a ∧ a < p.regs) (hs : 0 ≤ size ∧ size ≤ 100000) (hb : 0 ≤ b ∧ b ≤ size) : OkIns p size ⟨15, a, b, 0⟩ := by
  have k : kindsB (⟨15, a, b, 0⟩ : Ins).op = ⟨[114, 99].toArray⟩ := by show kindsB 15 = _; unfold kindsB; simp
  exact ⟨⟨show (1 : Int) ≤ 15 by decide, show (15 : Int) ≤ 18 by decide⟩, by rw [num0_iff k]; exact fit_r_mk ha, by rw [num1_iff k]; exact fit_c_mk hs hb, by rw [num_no (by rw [k]; decide)]; rfl⟩
end
theorem linkPg_ok {p : Pg} (h : OkPg p) (hR : p.regs ≤ 6) (hw : (p.words.length : Int) + p.locks ≤ 64) (hs : ∀ t, t < p.code.length → (linkL p.words.length (nth p.code t)).length ≤ 400) : OkPg (linkPg p) := by
  have hlk := h.locks
  have hrg := h.regs
  have hwl : (linkPg p).words.length = p.words.length + p.locks.toNat := by simp [linkPg]
  have hq8 : (linkPg p).regs = 8 := rfl
  refine ⟨by rw [linkPg_len]; exact h.code, by omega, ⟨show (0 : Int) ≤ 0 by decide, show (0 : Int) ≤ 4 by decide⟩, ⟨show (1 : Int) ≤ 8 by decide, show (8 : Int) ≤ 200 by decide⟩, fun t ht => ?_, fun t j ht hj => ?_⟩
  · rw [linkPg_len] at ht
    rw [linkPg_code ht]; exact hs t ht
  · rw [linkPg_len] at ht
    rw [linkPg_code ht] at hj ⊢
    have hsz := hs t ht
    obtain ⟨i, k, hi, hk, e⟩ := moved_from (linkR p.words.length) (nth p.code t) _ (Nat.le_refl _) j (by rw [pK_len] at hj; exact hj)
    have e' : j = pK p.words.length (nth p.code t) i + k := e
    have ho := h.ins t i ht hi
    have hI := h.insR ht hi
    by_cases e17 : (nth (nth p.code t) i).op = 17
    · obtain ⟨l0, l1, l2, l3, l4, l5⟩ := link_17 (nw := p.words.length) hi e17
      have hla := hI.1.o17 (.inl e17)
      rw [linkR_17 e17] at hk
      have hk4 : k < 4 := hk
      rw [e']
      rcases k with _ | _ | _ | _ | k
      · rw [Nat.add_zero, l0]; exact ok_const (by rw [hq8]; decide)
      · rw [l1]; exact ok_const (by rw [hq8]; decide)
      · rw [l2]; exact ok_cas (by rw [hwl]; omega) (by rw [hq8]; decide) (by rw [hq8]; decide)
      · rw [l3]; exact ok_zero (by rw [hq8]; decide) ⟨by omega, by omega⟩ ⟨by omega, by omega⟩
      · omega
    by_cases e18 : (nth (nth p.code t) i).op = 18
    · obtain ⟨l0, l1, l4, l5⟩ := link_18 (nw := p.words.length) hi e18
      have hla := hI.1.o17 (.inr e18)
      rw [linkR_18 e18] at hk
      have hk2 : k < 2 := hk
      rw [e']
      rcases k with _ | _ | k
      · rw [Nat.add_zero, l0]; exact ok_const (by rw [hq8]; decide)
      · rw [l1]; exact ok_store (by rw [hwl]; omega) (by rw [hq8]; decide)
      · omega
    rw [linkR_o e17 e18] at hk
    obtain rfl : k = 0 := by simpa using hk
    rw [e', Nat.add_zero]
    by_cases e14 : (nth (nth p.code t) i).op = 14
    · have ha := hI.2.1 e14
      rw [link_14 hi e14]
      exact OkIns.jump e14 ho ⟨by omega, by omega⟩ ⟨by omega, by have := pK_le (nw := p.words.length) (c := nth p.code t) (i := (nth (nth p.code t) i).a.toNat) (by omega); omega⟩
    by_cases e15 : (nth (nth p.code t) i).op = 15
    · have hb := hI.2.2 e15
      have ha := hI.1.o15 (.inl e15)
      have h0 := ho.n2
      rw [num_no (by rw [e15]; decide +kernel)] at h0
      have hc : (nth (nth p.code t) i).c = 0 := by simpa [Ins.num] using h0
      rw [link_15 hi e15, show ({ nth (nth p.code t) i with b := (pK p.words.length (nth p.code t) (nth (nth p.code t) i).b.toNat : Int) } : Ins) = ⟨15, (nth (nth p.code t) i).a, (pK p.words.length (nth p.code t) (nth (nth p.code t) i).b.toNat : Int), 0⟩ by rw [← e15, ← hc]]
      exact ok_zero (by rw [hq8]; omega) ⟨by omega, by omega⟩ ⟨by omega, by have := pK_le (nw := p.words.length) (c := nth p.code t) (i := (nth (nth p.code t) i).b.toNat) (by omega); omega⟩
    rw [link_other hi e14 e15 e17 e18]
    exact OkIns.more (by rw [hq8]; omega) (by rw [hwl]; omega) e14 e15 e17 e18 ho

/-! ### Ends -/
theorem outs_len {p : Pg} {m : Int} (hok : OkPg p) {w pr : List Int} (h : Outs p m ⟨0, w, pr⟩) : w.length = p.words.length := by
  cases h with
  | done hr _ => exact (hr.wf hok).words
theorem mem_cut {n : Nat} {l : List Outc} {o : Outc} : o ∈ cutL n l ↔ ∃ y ∈ l, y.st = 0 ∧ o = ⟨0, y.words.take n, y.prints⟩ := by
  unfold cutL cutO
  simp only [List.mem_map, List.mem_filter, decide_eq_true_eq]
  constructor
  · rintro ⟨y, ⟨h1, h2⟩, rfl⟩; exact ⟨y, h1, h2, rfl⟩
  · rintro ⟨y, h1, h2, rfl⟩; exact ⟨y, ⟨h1, h2⟩, rfl⟩
theorem spin_same {p : Pg} {m : Int} (hok : OkPg p) (hq : OkPg (linkPg p)) (hR : p.regs ≤ 6) (hm : m = 0 ∨ m = 1) (hnf : ∀ o, Outs p 1 o → o.st ≠ 1) {a b s : List Outc} (ha : Sorted_ a ∧ ∀ o, o ∈ a ↔ Outs p m o) (hb : ∀ o, o ∈ b ↔ Outs (linkPg p) m o)
    (hs : Sorted_ s ∧ ∀ o, o ∈ s ↔ o ∈ cutL p.words.length b) : cutL p.words.length a = s := by
  have hid : cutL p.words.length a = a.filter fun o => decide (o.st = 0) := by
    unfold cutL
    refine (List.map_congr_left fun o ho => ?_).trans (List.map_id _)
    obtain ⟨h1, h2⟩ := List.mem_filter.1 ho
    have h3 : o.st = 0 := of_decide_eq_true h2
    obtain ⟨st, w, pr⟩ := o
    simp only at h3; subst h3
    have h4 := outs_len hok ((ha.2 _).1 h1)
    show (⟨0, w.take p.words.length, pr⟩ : Outc) = ⟨0, w, pr⟩
    rw [← h4, List.take_length]
  refine sorted_ext (by rw [hid]; exact List.Pairwise.filter _ ha.1) hs.1 fun o => ?_
  rw [hs.2, mem_cut, mem_cut]
  constructor
  · rintro ⟨⟨st, w, pr⟩, h1, h2, rfl⟩
    simp only at h2; subst h2
    have h3 := (ha.2 _).1 h1
    obtain ⟨l, h4⟩ := link_to hok hq hR hm h3
    refine ⟨_, (hb _).2 h4, rfl, ?_⟩
    have h5 := outs_len hok h3
    simp only [Outc.mk.injEq, true_and, and_true]
    rw [← h5, List.take_length, List.take_left' rfl]
  · rintro ⟨⟨st, w, pr⟩, h1, h2, rfl⟩
    simp only at h2; subst h2
    have h3 := link_from hok hq hR hm (noFall hok hm hnf) ((hb _).1 h1)
    refine ⟨_, (ha.2 _).2 h3, rfl, ?_⟩
    simp only [Outc.mk.injEq, true_and, and_true]
    rw [List.take_take, Nat.min_self]
end Go.Proofs.Ytanhbpofhebbaaa
