/-
  Contracts of functions of this program and of the references, each walked once.
-/
import Derived.Test.YtanhbpofhebbaaaX11
namespace Go.Proofs.Ytanhbpofhebbaaa
open Go.RowKit
set_option linter.unusedSimpArgs false
set_option linter.unusedVariables false


inductive ReachI (code : List Ins) : Nat → Prop
  | zero : ReachI code 0
  | step (i : Nat) (y : Int) : ReachI code i → i < code.length → y ∈ nextsL code i → ReachI code y.toNat
def outB (x : Ins) (m : Bool) : Bool := if waitsB x.op = true then true else if x.op = 12 ∨ x.op = 13 ∨ x.op = 17 then false else m
inductive MayI (code : List Ins) : Nat → Prop
  | wait (i : Nat) (y : Int) : ReachI code i → i < code.length → outB (nth code i) false = true → y ∈ nextsL code i → MayI code y.toNat
  | pass (i : Nat) (y : Int) : ReachI code i → i < code.length → MayI code i → outB (nth code i) true = true → y ∈ nextsL code i → MayI code y.toNat
theorem outB_mono {x : Ins} {m : Bool} (h : outB x false = true) : outB x m = true := by
  unfold outB at h ⊢
  split
  · rfl
  · rename_i h1
    rw [if_neg h1] at h
    split at h <;> cases h
theorem outB_w {x : Ins} {m : Bool} (h : waitsB x.op = true) : true = outB x m := by unfold outB; rw [if_pos h]
theorem outB_e {x : Ins} {m : Bool} (h : waitsB x.op = false) (h2 : x.op = 12 ∨ x.op = 13 ∨ x.op = 17) : false = outB x m := by unfold outB; rw [if_neg (by rw [h]; decide), if_pos h2]
theorem outB_p {x : Ins} {m : Bool} (h : waitsB x.op = false) (h2 : ¬ (x.op = 12 ∨ x.op = 13 ∨ x.op = 17)) : m = outB x m := by unfold outB; rw [if_neg (by rw [h]; decide), if_neg h2]
theorem may_of {code : List Ins} {k : Nat} {m : Bool} {y : Int} (hr : ReachI code k) (hk : k < code.length) (hm : m = true → MayI code k) (ho : outB (nth code k) m = true) (hy : y ∈ nextsL code k) : MayI code y.toNat := by
  cases m with
  | false => exact .wait k y hr hk ho hy
  | true => exact .pass k y hr hk (hm rfl) ho hy
theorem nexts_ok {code : List Ins} (hj : JumpsOK code) {k : Nat} (hk : k < code.length) {y : Int} (hy : y ∈ nextsL code k) : 0 ≤ y ∧ y ≤ code.length := by
  have := hj k hk
  unfold nextsL at hy
  split at hy
  · rename_i h; obtain rfl : y = _ := by simpa using hy
    exact this.1 h
  · split at hy
    · rename_i h
      rcases (by simpa using hy : y = _ ∨ y = _) with rfl | rfl
      · omega
      · exact this.2 h
    · obtain rfl : y = _ := by simpa using hy
      omega
theorem nexts_len (code : List Ins) (k : Nat) : (nextsL code k).length ≤ 2 := by
  unfold nextsL
  split
  · simp
  · split <;> simp
def cntB (l : List Bool) : Nat := l.countP id
theorem cntB_le (l : List Bool) : cntB l ≤ l.length := List.countP_le_length
theorem cntB_set_f : ∀ {l : List Bool} {t : Nat}, t < l.length → nth l t = false → cntB (l.set t true) = cntB l + 1
  | [], t, h, _ => by simp at h
  | b :: l, 0, _, h => by
    have : b = false := h
    subst this
    simp [cntB]
  | b :: l, t + 1, h, hf => by
    have ih := cntB_set_f (l := l) (t := t) (by simpa using h) (by simpa [nth] using hf)
    simp only [cntB] at ih ⊢
    simp only [List.set_cons_succ, List.countP_cons, ih]
    omega
theorem set_sameB : ∀ {l : List Bool} {t : Nat}, nth l t = true → l.set t true = l
  | [], _, h => rfl
  | b :: l, 0, h => by
    have : b = true := h
    subst this
    rfl
  | b :: l, t + 1, h => by
    simp only [List.set_cons_succ]
    rw [set_sameB (l := l) (by simpa [nth] using h)]
theorem cntB_set_ge (l : List Bool) (t : Nat) : cntB l ≤ cntB (l.set t true) := by
  rcases Nat.lt_or_ge t l.length with h | h
  · rcases hb : nth l t with _ | _
    · rw [cntB_set_f h hb]; omega
    · rw [set_sameB hb]; omega
  · rw [List.set_eq_of_length_le h]; omega
theorem set_false : ∀ {l : List Bool} {t : Nat}, nth l t = false → l.set t false = l
  | [], _, h => rfl
  | b :: l, 0, h => by
    have : b = false := h
    subst this
    rfl
  | b :: l, t + 1, h => by
    simp only [List.set_cons_succ]
    rw [set_false (l := l) (by simpa [nth] using h)]
theorem growA {n : Nat} {s m : List Bool} {t : Nat} {b : Bool} (h : n ≤ cntB s + cntB m) (ht : t < s.length) (hf : nth s t = false) (hb : nth m t = true → b = true) : n < cntB (s.set t true) + cntB (m.set t b) := by
  rw [cntB_set_f ht hf]
  have : cntB m ≤ cntB (m.set t b) := by
    cases b with
    | true => exact cntB_set_ge m t
    | false =>
      rcases hm : nth m t with _ | _
      · rw [set_false hm]; omega
      · cases hb hm
  omega
theorem growC {n : Nat} {s m : List Bool} {t : Nat} {b : Bool} (h : n ≤ cntB s + cntB m) (ht : t < m.length) (hf : nth m t = false) (hb : b = true) : n < cntB (s.set t true) + cntB (m.set t b) := by
  subst hb
  rw [cntB_set_f ht hf]
  have := cntB_set_ge s t
  omega
structure DI (code : List Ins) (sn my : List Bool) : Prop where
  l1 : sn.length = code.length + 1
  l2 : my.length = code.length + 1
  z : nth sn 0 = true
  s1 : ∀ j, nth sn j = true → ReachI code j
  s2 : ∀ j, nth my j = true → MayI code j
theorem DI.setS {code : List Ins} {sn my : List Bool} (h : DI code sn my) {t : Nat} (ht : t ≤ code.length) (hr : ReachI code t) : DI code (sn.set t true) my := by
  refine ⟨by simpa using h.l1, h.l2, ?_, ?_, h.s2⟩
  · rw [nth_set]; split; rfl; exact h.z
  · intro j hj
    rw [nth_set] at hj
    split at hj
    · rename_i hh; obtain ⟨rfl, _⟩ := hh; exact hr
    · exact h.s1 j hj
theorem DI.setM {code : List Ins} {sn my : List Bool} (h : DI code sn my) {t : Nat} {b : Bool} (hr : b = true → MayI code t) : DI code sn (my.set t b) := by
  refine ⟨h.l1, by simpa using h.l2, h.z, h.s1, ?_⟩
  intro j hj
  rw [nth_set] at hj
  split at hj
  · rename_i hh; obtain ⟨rfl, _⟩ := hh; exact hr hj
  · exact h.s2 j hj
def ClD (code : List Ins) (sn my : List Bool) (i : Nat) : Prop := nth sn i = true → ∀ y ∈ nextsL code i, nth sn y.toNat = true ∧ (outB (nth code i) (nth my i) = true → nth my y.toNat = true)
theorem DI.fin {code : List Ins} {sn my : List Bool} (h : DI code sn my) (hc : ∀ i, i < code.length → ClD code sn my i) (j : Nat) : nth my j = true ↔ MayI code j := by
  have hr : ∀ j, ReachI code j → nth sn j = true := by
    intro j hj
    induction hj with
    | zero => exact h.z
    | step i y hi hl hy ih => exact (hc i hl ih y hy).1
  refine ⟨h.s2 j, fun hj => ?_⟩
  induction hj with
  | wait i y hi hl ho hy => exact (hc i hl (hr i hi) y hy).2 (outB_mono ho)
  | pass i y hi hl hm ho hy ih => exact (hc i hl (hr i hi) y hy).2 (by rw [ih]; exact ho)
theorem dq_close {code : List Ins} {sn my sn2 my2 sn3 my3 : List Bool} {ag2 ag3 ov : Bool} {k q : Nat} (hov : ov = outB (nth code k) (nth my2 k)) (h20 : ag2 = false → sn2 = sn ∧ my2 = my ∧ ∀ i, i < k → ClD code sn2 my2 i)
    (h30 : ag3 = false → ag2 = false ∧ sn3 = sn2 ∧ my3 = my2 ∧ ∀ p, p < q → nth sn3 (nth (nextsL code k) p).toNat = true ∧ (ov = true → nth my3 (nth (nextsL code k) p).toNat = true)) (hq : (nextsL code k).length ≤ q) :
    ag3 = false → sn3 = sn ∧ my3 = my ∧ ∀ i, i < k + 1 → ClD code sn3 my3 i := by
  intro h
  obtain ⟨e0, e1, e2, hp⟩ := h30 h
  obtain ⟨e3, e4, hc⟩ := h20 e0
  refine ⟨e1.trans e3, e2.trans e4, fun i hi => ?_⟩
  rcases Nat.lt_or_ge i k with h9 | h9
  · rw [e1, e2]; exact hc i h9
  · obtain rfl : i = k := by omega
    intro hs y hy
    obtain ⟨p, hp1, rfl⟩ := List.mem_iff_getElem.1 hy
    have := hp p (by omega)
    rw [show nth (nextsL code i) p = (nextsL code i)[p] from by simp [nth, hp1]] at this
    exact ⟨this.1, fun ho => this.2 (by rw [hov, ← e2]; exact ho)⟩
theorem dq_skip {code : List Ins} {sn my sn2 my2 : List Bool} {ag2 : Bool} {k : Nat} (h20 : ag2 = false → sn2 = sn ∧ my2 = my ∧ ∀ i, i < k → ClD code sn2 my2 i) (hs : nth sn2 k = false) :
    ag2 = false → sn2 = sn ∧ my2 = my ∧ ∀ i, i < k + 1 → ClD code sn2 my2 i := by
  intro h
  obtain ⟨e3, e4, hc⟩ := h20 h
  refine ⟨e3, e4, fun i hi => ?_⟩
  rcases Nat.lt_or_ge i k with h9 | h9
  · exact hc i h9
  · obtain rfl : i = k := by omega
    intro h2
    rw [hs] at h2
    cases h2
theorem dq_down {ag ag2 : Bool} {sn my sn2 my2 : List Bool} {n : Nat} {P : Prop} (h : ag = true) (l1 : sn2.length = n + 1) (l2 : my2.length = n + 1) (h20 : ag2 = false → sn2 = sn ∧ my2 = my ∧ P) (h21 : ag2 = true → cntB sn + cntB my < cntB sn2 + cntB my2) :
    (bif ag2 then 1 else 0) + 2 * (2 * (n + 1) - (cntB sn2 + cntB my2)) < (bif ag then 1 else 0) + 2 * (2 * (n + 1) - (cntB sn + cntB my)) := by
  subst h
  have c1 := cntB_le sn2
  have c2 := cntB_le my2
  cases ag2 with
  | false =>
    obtain ⟨e1, e2, _⟩ := h20 rfl
    subst e1; subst e2
    simp only [cond_true, cond_false]
    omega
  | true =>
    have := h21 rfl
    simp only [cond_true]
    omega
/-- One row alone, grown till nothing changes. -/
def ClG (A : List Bool → Nat → Prop) (code : List Ins) (l : List Bool) (i : Nat) : Prop := A l i → ∀ y ∈ nextsL code i, nth l y.toNat = true
theorem dq_le {sn my sn2 my2 sn3 my3 : List Bool} {ag2 ag3 : Bool} {P Q : Prop} (h20 : ag2 = false → sn2 = sn ∧ my2 = my ∧ P) (h30 : ag3 = false → ag2 = false ∧ sn3 = sn2 ∧ my3 = my2 ∧ Q) (h31 : ag3 = true → cntB sn + cntB my < cntB sn3 + cntB my3) : cntB sn + cntB my ≤ cntB sn3 + cntB my3 := by
  rcases Bool.eq_false_or_eq_true ag3 with h | h
  · have := h31 h; omega
  · obtain ⟨e0, e1, e2, _⟩ := h30 h
    obtain ⟨e3, e4, _⟩ := h20 e0
    rw [e1, e2, e3, e4]
    exact Nat.le_refl _
structure RI (code : List Ins) (rc : List Bool) : Prop where
  l1 : rc.length = code.length + 1
  z : nth rc 0 = true
  s1 : ∀ j, nth rc j = true → ReachI code j
theorem RI.set {code : List Ins} {rc : List Bool} (h : RI code rc) {t : Nat} (hr : ReachI code t) : RI code (rc.set t true) := by
  refine ⟨by simpa using h.l1, ?_, ?_⟩
  · rw [nth_set]; split; rfl; exact h.z
  · intro j hj
    rw [nth_set] at hj
    split at hj
    · rename_i hh; obtain ⟨rfl, _⟩ := hh; exact hr
    · exact h.s1 j hj
def rA (l : List Bool) (i : Nat) : Prop := nth l i = true
theorem RI.fin {code : List Ins} {rc : List Bool} (h : RI code rc) (hc : ∀ i, i < code.length → ClG rA code rc i) (j : Nat) : nth rc j = true ↔ ReachI code j := by
  refine ⟨h.s1 j, fun hj => ?_⟩
  induction hj with
  | zero => exact h.z
  | step i y hi hl hy ih => exact hc i hl ih y hy
structure YI (code : List Ins) (my : List Bool) : Prop where
  l1 : my.length = code.length + 1
  s1 : ∀ j, nth my j = true → MayI code j
theorem YI.set {code : List Ins} {my : List Bool} (h : YI code my) {t : Nat} (hr : MayI code t) : YI code (my.set t true) := by
  refine ⟨by simpa using h.l1, ?_⟩
  intro j hj
  rw [nth_set] at hj
  split at hj
  · rename_i hh; obtain ⟨rfl, _⟩ := hh; exact hr
  · exact h.s1 j hj
def yA (code : List Ins) (rc l : List Bool) (i : Nat) : Prop := nth rc i = true ∧ outB (nth code i) (nth l i) = true
theorem YI.fin {code : List Ins} {rc my : List Bool} (hr : ∀ j, nth rc j = true ↔ ReachI code j) (h : YI code my) (hc : ∀ i, i < code.length → ClG (yA code rc) code my i) (j : Nat) : nth my j = true ↔ MayI code j := by
  refine ⟨h.s1 j, fun hj => ?_⟩
  induction hj with
  | wait i y hi hl ho hy => exact hc i hl ⟨(hr i).2 hi, outB_mono ho⟩ y hy
  | pass i y hi hl hm ho hy ih => exact hc i hl ⟨(hr i).2 hi, by rw [ih]; exact ho⟩ y hy
theorem zeros_f (n j : Nat) : nth (List.replicate n false) j = false := by
  rcases Nat.lt_or_ge j n with h | h
  · exact nth_replicate _ _ _ h
  · simp [nth, List.getD, h]
theorem DI.start (code : List Ins) : DI code ((List.replicate (code.length + 1) false).set 0 true) (List.replicate (code.length + 1) false) := by
  refine ⟨by simp, by simp, ?_, ?_, ?_⟩
  · rw [nth_set, if_pos ⟨rfl, by simp⟩]
  · intro j hj
    rw [nth_set] at hj
    split at hj
    · rename_i hh; obtain ⟨rfl, _⟩ := hh; exact .zero
    · rw [zeros_f] at hj; cases hj
  · intro j hj; rw [zeros_f] at hj; cases hj
theorem RI.start (code : List Ins) : RI code ((List.replicate (code.length + 1) false).set 0 true) := ⟨(DI.start code).l1, (DI.start code).z, (DI.start code).s1⟩
theorem YI.start (code : List Ins) : YI code (List.replicate (code.length + 1) false) := ⟨(DI.start code).l2, (DI.start code).s2⟩

set_option maxRecDepth 100000 in
set_option maxHeartbeats 4000000 in
theorem dirty_c (x : Ls Ins) (W : World) (hx : x.At W) (hl : x.l.length ≤ 5000) (hj : JumpsOK x.l) :
    Rets Try.prog 76 [x.v] W (fun v w' => ∃ s : Ls Bool, v = s.v ∧ s.l.length = x.l.length + 1 ∧ (∀ j, nth s.l j = true ↔ MayI x.l j) ∧ Sh0 W w' [.own 4 s]) := by
 refine x_enter (N := 95) Try.func76 rfl Try.ntmps76 (Nat.le_of_ble_eq_true rfl) fun a1 hf1 => ?_
 have h1 : St 95 (fun _ => False) W a1 W [(0, x.v)] [.at_ x] := ⟨hf1.sub ⟨rfl, trivial⟩, Sh0.ext1 hx⟩
 clear hf1
 refine wp_seq_k fun K2 hK2 => wp_region_lit ?_
 refine wms 1 h1 rfl fun a3 h3 => ?_; clear h1
 refine wpList_nil (hK2 _ _ ?_)
 refine wp_seq_k fun K4 hK4 => wp_region_lit ?_
 refine wms 1 h3 rfl fun a5 h5 => ?_; clear h3
 have hl6 : x.l.length ≤ 140737488355328 := (h5.sh.at 0 rfl).len
 refine wv h5 (r_len (s := x) (n := x.l.length) sl_64 rfl rfl (fun w h => (h.at 0 rfl)) rfl) rfl rfl fun a7 h7 => ?_; clear h5
 refine wv h7 (r_addN (p := x.l.length) (q := 1) rfl rfl rfl (show x.l.length + 1 < 9223372036854775808 from (by omega))) rfl rfl fun a8 h8 => ?_; clear h7
 refine wl_ex (x_make (n := x.l.length + 1) (false : Bool) h8 sl_66 ti_4 rfl rfl rfl rfl rfl (show 1 * (x.l.length + 1) ≤ 140737488355328 ∧ x.l.length + 1 ≤ 140737488355328 from (by omega)) (fun w => Flat.inner _ _) (fun b => Flat.on _ _) rfl rfl) (wanted_none rfl _) ?_
 rintro a9 w9 ⟨v9, h9⟩; clear h8
 refine wms 1 h9 rfl fun a10 h10 => ?_; clear h9
 refine wpList_nil (hK4 _ _ ?_)
 refine wp_seq_k fun K11 hK11 => wp_region_lit ?_
 refine wms 1 h10 rfl fun a12 h12 => ?_; clear h10
 refine wv h12 (r_len (s := x) (n := x.l.length) sl_64 rfl rfl (fun w h => (h.at 1 rfl)) rfl) rfl rfl fun a13 h13 => ?_; clear h12
 refine wv h13 (r_addN (p := x.l.length) (q := 1) rfl rfl rfl (show x.l.length + 1 < 9223372036854775808 from (by omega))) rfl rfl fun a14 h14 => ?_; clear h13
 refine wl_ex (x_make (n := x.l.length + 1) (false : Bool) h14 sl_66 ti_4 rfl rfl rfl rfl rfl (show 1 * (x.l.length + 1) ≤ 140737488355328 ∧ x.l.length + 1 ≤ 140737488355328 from (by omega)) (fun w => Flat.inner _ _) (fun b => Flat.on _ _) rfl rfl) (wanted_none rfl _) ?_
 rintro a15 w15 ⟨v15, h15⟩; clear h14
 refine wms 1 h15 rfl fun a16 h16 => ?_; clear h15
 refine wpList_nil (hK11 _ _ ?_)
 refine wp_seq_k fun K17 hK17 => wp_region_lit ?_
 refine wms 1 h16 rfl fun a18 h18 => ?_; clear h16
 refine wv h18 (r_ixN (s := (⟨v15, List.replicate (x.l.length + 1) false⟩ : Ls Bool)) (q := 0) sl_66 ti_4 rfl rfl rfl (fun w h => (h.own 0 rfl)) (show 0 < (List.replicate (x.l.length + 1) false).length from (by first | omega | (simp only [List.length_append, List.length_cons, List.length_nil, List.length_set, List.length_replicate, List.length_map, List.length_range]; omega)))) rfl rfl fun a19 h19 => ?_; clear h18
 refine wl_ex (x_ste (r := 0) (i := 0) (j := 0) (x' := (true : Bool)) h19 ti_4 rfl rfl rfl rfl rfl (show 0 < (List.replicate (x.l.length + 1) false).length from (by first | omega | (simp only [List.length_append, List.length_cons, List.length_nil, List.length_set, List.length_replicate, List.length_map, List.length_range]; omega))) (Nat.le_of_ble_eq_true rfl) rfl rfl rfl (by intro q hq; obtain rfl : q = 0 := (by omega); rfl) (fun w h => Flat.inner _ _) (fun b hb => (Flat.on _ _ hb).elim)) (wanted_none rfl _) ?_
 rintro a20 w20 h20
 clear h19
 refine wpList_nil (hK17 _ _ ?_)
 refine wp_seq_k fun K21 hK21 => ?_
 refine wp_seq_k fun K22 hK22 => wp_region_lit ?_
 refine wms 1 h20 rfl fun a23 h23 => ?_; clear h20
 refine wpList_nil (hK22 _ _ ?_)
 refine wp_block ?_
 refine x_loop (fun m a w => ∃ (sn my : List Bool) (ag : Bool), (DI x.l sn my) ∧ (ag = false → ∀ i, i < x.l.length → ClD x.l sn my i) ∧ St 95 (fun _ => False) W a w [(0, x.v), (3, v9), (4, v15), (5, .bool ag)] [.own 4 (⟨v15, sn⟩ : Ls Bool), .own 4 (⟨v9, my⟩ : Ls Bool), .at_ x] ∧ m = (bif ag then 1 else 0) + 2 * (2 * (x.l.length + 1) - (cntB sn + cntB my))) ⟨_, (List.replicate (x.l.length + 1) false).set 0 true, List.replicate (x.l.length + 1) false, true, (DI.start x.l), (fun h => by cases h), h23.nrm ⟨rfl, rfl, rfl, rfl, trivial⟩ [0, 1, 2] (by decide) ⟨rfl, rfl, rfl, trivial⟩, rfl⟩ ?_
 clear h23
 rintro m24 a24 w24 ⟨sn, my, ag, hdi, hcl, h24, hm24⟩
 have hd1 := hdi.l1
 have hd2 := hdi.l2
 refine wp_seq_k fun K25 hK25 => ?_
 refine wp_seq_k fun K26 hK26 => wp_region_lit ?_
 refine wms 1 h24 rfl fun a27 h27 => ?_; clear h24
 refine wpList_nil (hK26 _ _ ?_)
 refine x_cond h27 rfl (fun hb28 => ?_) (fun hb28 => ?_)
 ·
  skip
  refine wp_skip ?_
  refine hK25 _ _ ?_
  refine wp_block ?_
  refine wp_seq_k fun K29 hK29 => wp_region_lit ?_
  refine wms 1 h27 rfl fun a30 h30 => ?_; clear h27
  refine wpList_nil (hK29 _ _ ?_)
  refine wp_seq_k fun K31 hK31 => wp_region_lit ?_
  refine wms 1 h30 rfl fun a32 h32 => ?_; clear h30
  refine wv h32 (r_len (s := x) (n := x.l.length) sl_64 rfl rfl (fun w h => (h.at 2 rfl)) rfl) rfl rfl fun a33 h33 => ?_; clear h32
  refine wms 1 h33 rfl fun a34 h34 => ?_; clear h33
  refine wpList_nil (hK31 _ _ ?_)
  refine wp_block ?_
  refine x_loop (fun m a w => ∃ (k : Nat) (sn2 my2 : List Bool) (ag2 : Bool), (k ≤ x.l.length) ∧ (DI x.l sn2 my2) ∧ (ag2 = false → sn2 = sn ∧ my2 = my ∧ ∀ i, i < k → ClD x.l sn2 my2 i) ∧ (ag2 = true → cntB sn + cntB my < cntB sn2 + cntB my2) ∧ St 95 (fun _ => False) W a w [(0, x.v), (3, v9), (4, v15), (5, .bool ag2), (22, x.v), (23, .int .i64 ((x.l.length : Nat) : Int)), (24, .int .i64 ((k : Nat) : Int))] [.own 4 (⟨v15, sn2⟩ : Ls Bool), .own 4 (⟨v9, my2⟩ : Ls Bool), .at_ x] ∧ m = x.l.length - k) ⟨_, 0, sn, my, false, (by omega), (hdi), (fun _ => ⟨rfl, rfl, fun i hi => absurd hi (by omega)⟩), (fun h => by cases h), h34.nrm ⟨rfl, rfl, rfl, rfl, rfl, rfl, rfl, trivial⟩ [0, 1, 2] (by decide) ⟨rfl, rfl, rfl, trivial⟩, rfl⟩ ?_
  clear h34
  rintro m35 a35 w35 ⟨k, sn2, my2, ag2, hk, hdi2, h20, h21, h35, hm35⟩
  have hd3 := hdi2.l1
  have hd4 := hdi2.l2
  refine wp_seq_k fun K36 hK36 => wp_region_lit ?_
  refine wv h35 (r_lssN (p := k) (q := x.l.length) rfl rfl rfl) rfl rfl fun a37 h37 => ?_; clear h35
  refine wpList_nil (hK36 _ _ ?_)
  refine wp_seq_k fun K38 hK38 => ?_
  refine x_cond h37 rfl (fun hb39 => ?_) (fun hb39 => ?_)
  ·
   have hp39 : k < x.l.length := of_decide_eq_true hb39
   refine wp_skip ?_
   refine hK38 _ _ ?_
   refine wp_seq_k fun K40 hK40 => ?_
   refine wp_block ?_
   refine wp_seq_k fun K41 hK41 => wp_region_lit ?_
   refine wms 1 h37 rfl fun a42 h42 => ?_; clear h37
   refine wv h42 (r_ixN (s := x) (q := k) sl_64 ti_73 rfl rfl rfl (fun w h => (h.at 2 rfl)) (show k < x.l.length from (by omega))) rfl rfl fun a43 h43 => ?_; clear h42
   refine wv h43 (r_ldew (s := x) (i := k) (vs := [.int .i64 ((nth x.l k).op), .int .i64 ((nth x.l k).a), .int .i64 ((nth x.l k).b), .int .i64 ((nth x.l k).c)]) ti_73 rfl rfl rfl (fun w h => (h.at 2 rfl)) (show k < x.l.length from (by omega)) (Nat.le_of_ble_eq_true rfl) rfl) rfl rfl fun a44 h44 => ?_; clear h43
   refine wl_ex (x_alloc h44 ti_73 rfl rfl rfl) (wanted_none rfl _) ?_
   rintro a45 w45 ⟨b45, h45⟩; clear h44
   refine wms 1 h45 rfl fun a46 h46 => ?_; clear h45
   refine wl_ex (x_stb (i := 0) (vs := [.int .i64 ((nth x.l k).op), .int .i64 ((nth x.l k).a), .int .i64 ((nth x.l k).b), .int .i64 ((nth x.l k).c)]) (cs' := [.int .i64 ((nth x.l k).op), .int .i64 ((nth x.l k).a), .int .i64 ((nth x.l k).b), .int .i64 ((nth x.l k).c)]) h46 ti_73 rfl rfl rfl rfl rfl rfl rfl (allOne_cons rfl (allOne_cons rfl (allOne_cons rfl (allOne_cons rfl allOne_nil)))) (Nat.le_of_ble_eq_true rfl) rfl) (wanted_none rfl _) ?_
   rintro a47 w47 h47
   clear h46
   refine wpList_nil (hK41 _ _ ?_)
   refine wp_seq_k fun K48 hK48 => ?_
   refine wp_seq_k fun K49 hK49 => wp_region_lit ?_
   refine wms 2 h47 rfl fun a50 h50 => ?_; clear h47
   have hl51 : sn2.length ≤ 140737488355328 := (h50.sh.own 1 rfl).len
   refine wv h50 (r_ixN (s := (⟨v15, sn2⟩ : Ls Bool)) (q := k) sl_66 ti_4 rfl rfl rfl (fun w h => (h.own 1 rfl)) (show k < sn2.length from (by omega))) rfl rfl fun a52 h52 => ?_; clear h50
   refine wv h52 (r_lde (s := (⟨v15, sn2⟩ : Ls Bool)) (i := k) (v := .bool (nth sn2 k)) ti_4 rfl rfl rfl (fun w h => (h.own 1 rfl)) (show k < sn2.length from (by omega)) (Nat.le_of_ble_eq_true rfl) rfl) rfl rfl fun a53 h53 => ?_; clear h52
   refine wv h53 (r_not rfl rfl) rfl rfl fun a54 h54 => ?_; clear h53
   refine wpList_nil (hK49 _ _ ?_)
   refine x_cond h54 rfl (fun hb55 => ?_) (fun hb55 => ?_)
   ·
    have hn55 : nth sn2 k = false := (Bool.not_eq_true' _).mp hb55
    refine wp_exit ?_
    refine hK40 _ _ ?_
    refine wp_region_lit ?_
    refine wv h54 (r_addN (p := k) (q := 1) rfl rfl rfl (show k + 1 < 9223372036854775808 from (by omega))) rfl rfl fun a56 h56 => ?_; clear h54
    refine wms 1 h56 rfl fun a57 h57 => ?_; clear h56
    refine wpList_nil ?_
    refine x_again ⟨_, ?_, k + 1, sn2, my2, ag2, ?_, ?_, ?_, ?_, h57.nrm ⟨rfl, rfl, rfl, rfl, rfl, rfl, rfl, trivial⟩ [1, 2, 3] (by decide) ⟨rfl, rfl, rfl, trivial⟩, rfl⟩
    · rw [hm35]; first | omega | (simp only [List.length_append, List.length_cons, List.length_nil, List.length_set, List.length_replicate, List.length_map, List.length_range]; omega)
    · omega
    · first | exact hdi3 | exact hdi2
    · first | exact dq_close hov h20 h30 (by omega) | exact dq_skip h20 (by assumption)
    · first | exact h31 | exact h21
   have hn55 : nth sn2 k = true := (Bool.not_eq_false' _).mp hb55
   refine wp_skip ?_
   refine hK48 _ _ ?_
   refine wp_seq_k fun K58 hK58 => wp_region_lit ?_
   refine wms 2 h54 rfl fun a59 h59 => ?_; clear h54
   have hl60 : my2.length ≤ 140737488355328 := (h59.sh.own 2 rfl).len
   refine wv h59 (r_ixN (s := (⟨v9, my2⟩ : Ls Bool)) (q := k) sl_66 ti_4 rfl rfl rfl (fun w h => (h.own 2 rfl)) (show k < my2.length from (by omega))) rfl rfl fun a61 h61 => ?_; clear h59
   refine wv h61 (r_lde (s := (⟨v9, my2⟩ : Ls Bool)) (i := k) (v := .bool (nth my2 k)) ti_4 rfl rfl rfl (fun w h => (h.own 2 rfl)) (show k < my2.length from (by omega)) (Nat.le_of_ble_eq_true rfl) rfl) rfl rfl fun a62 h62 => ?_; clear h61
   refine wms 1 h62 rfl fun a63 h63 => ?_; clear h62
   refine wpList_nil (hK58 _ _ ?_)
   refine wp_seq_k fun K64 hK64 => ?_
   refine wp_block ?_
   refine wp_seq_k fun K65 hK65 => wp_region_lit ?_
   refine wv h63 (r_fieldB (r := 0) fl_73_0 rfl rfl rfl) rfl rfl fun a66 h66 => ?_; clear h63
   refine wv h66 (r_ldb (i := 0) ti_3 rfl rfl rfl rfl) rfl rfl fun a67 h67 => ?_; clear h66
   refine wl_ex (x_call h67 bd_66 rfl rfl rfl rfl rfl (waits_c ((nth x.l k).op) _)) (wanted_none rfl _) ?_
   rintro a68 w68 ⟨_, ⟨rfl, hs68⟩, hf68⟩
   have h68 : St 95 (fun _ => False) W a68 w68 _ _ := ⟨hf68, h67.sh.call0 hs68⟩
   clear hf68 hs68
   clear h67
   refine wms 1 h68 rfl fun a69 h69 => ?_; clear h68
   refine wpList_nil (hK65 _ _ ?_)
   refine x_cond h69 rfl (fun hb70 => ?_) (fun hb70 => ?_)
   ·
    skip
    refine wp_region_lit ?_
    refine wms 1 h69 rfl fun a71 h71 => ?_; clear h69
    refine wpList_nil (hK64 _ _ ?_)
    refine wp_seq_k fun K72 hK72 => wp_region_lit ?_
    refine wms 2 h71 rfl fun a73 h73 => ?_; clear h71
    refine wl_ex (x_call h73 bd_81 rfl rfl rfl rfl rfl (nexts_c x k _ (h73.sh.at 3 rfl) (by omega) (by omega))) (wanted_none rfl _) ?_
    rintro a74 w74 ⟨_, ⟨s74, rfl, hs74⟩, hf74⟩
    have h74 := (⟨hf74, h73.sh.call hs74 (by intro A hA b hb; first | (simp at hA; done) | (simp at hA; subst hA; first | exact Flat.noRd hb | exact (hb : False).elim) | (simp at hA; rcases hA with rfl | rfl <;> first | exact Flat.noRd hb | exact (hb : False).elim))⟩ : St 95 (fun _ => False) W a74 w74 _ _)
    clear hf74 hs74
    clear h73
    have hl75 : (nextsL x.l k).length ≤ 140737488355328 := (h74.sh.own 0 rfl).len
    refine wv h74 (r_len (s := (⟨s74.v, nextsL x.l k⟩ : Ls Int)) (n := (nextsL x.l k).length) sl_24 rfl rfl (fun w h => (h.own 0 rfl)) rfl) rfl rfl fun a76 h76 => ?_; clear h74
    refine wms 1 h76 rfl fun a77 h77 => ?_; clear h76
    refine wpList_nil (hK72 _ _ ?_)
    refine wp_block ?_
    have hn2 := nexts_len x.l k
    refine x_loop (fun m a w => ∃ (q : Nat) (sn3 my3 : List Bool) (ag3 ov : Bool), (q ≤ (nextsL x.l k).length) ∧ (DI x.l sn3 my3) ∧ (ov = outB (nth x.l k) (nth my2 k)) ∧ (ag3 = false → ag2 = false ∧ sn3 = sn2 ∧ my3 = my2 ∧ ∀ p, p < q → nth sn3 (nth (nextsL x.l k) p).toNat = true ∧ (ov = true → nth my3 (nth (nextsL x.l k) p).toNat = true)) ∧ (ag3 = true → cntB sn + cntB my < cntB sn3 + cntB my3) ∧ St 95 (fun _ => False) W a w [(0, x.v), (3, v9), (4, v15), (5, .bool ag3), (8, .bool ov), (22, x.v), (23, .int .i64 ((x.l.length : Nat) : Int)), (24, .int .i64 ((k : Nat) : Int)), (58, s74.v), (59, .int .i64 (((nextsL x.l k).length : Nat) : Int)), (60, .int .i64 ((q : Nat) : Int))] [.own 3 (⟨s74.v, nextsL x.l k⟩ : Ls Int), .blk b45 73 [.int .i64 ((nth x.l k).op), .int .i64 ((nth x.l k).a), .int .i64 ((nth x.l k).b), .int .i64 ((nth x.l k).c)], .own 4 (⟨v15, sn3⟩ : Ls Bool), .own 4 (⟨v9, my3⟩ : Ls Bool), .at_ x] ∧ m = (nextsL x.l k).length - q) ⟨_, 0, sn2, my2, ag2, true, (by omega), (hdi2), (by first | exact outB_w (by assumption) | exact outB_e (by assumption) (by omega) | exact outB_p (by assumption) (by omega)), (fun h => ⟨h, rfl, rfl, fun p hp => absurd hp (by omega)⟩), (h21), h77.nrm ⟨rfl, rfl, rfl, rfl, rfl, rfl, rfl, rfl, rfl, rfl, rfl, trivial⟩ [0, 1, 2, 3, 4] (by decide) ⟨rfl, rfl, rfl, rfl, rfl, trivial⟩, rfl⟩ ?_
    clear h77
    rintro m78 a78 w78 ⟨q, sn3, my3, ag3, ov, hq, hdi3, hov, h30, h31, h78, hm78⟩
    have hd5 := hdi3.l1
    have hd6 := hdi3.l2
    have hle := dq_le h20 h30 h31
    refine wp_seq_k fun K79 hK79 => wp_region_lit ?_
    refine wv h78 (r_lssN (p := q) (q := (nextsL x.l k).length) rfl rfl rfl) rfl rfl fun a80 h80 => ?_; clear h78
    refine wpList_nil (hK79 _ _ ?_)
    refine wp_seq_k fun K81 hK81 => ?_
    refine x_cond h80 rfl (fun hb82 => ?_) (fun hb82 => ?_)
    ·
     have hp82 : q < (nextsL x.l k).length := of_decide_eq_true hb82
     refine wp_skip ?_
     refine hK81 _ _ ?_
     refine wp_seq_k fun K83 hK83 => ?_
     refine wp_block ?_
     refine wp_seq_k fun K84 hK84 => wp_region_lit ?_
     refine wv h80 (r_ixN (s := (⟨s74.v, nextsL x.l k⟩ : Ls Int)) (q := q) sl_24 ti_3 rfl rfl rfl (fun w h => (h.own 0 rfl)) (show q < (nextsL x.l k).length from (by omega))) rfl rfl fun a85 h85 => ?_; clear h80
     refine wv h85 (r_lde (s := (⟨s74.v, nextsL x.l k⟩ : Ls Int)) (i := q) (v := .int .i64 (nth (nextsL x.l k) q)) ti_3 rfl rfl rfl (fun w h => (h.own 0 rfl)) (show q < (nextsL x.l k).length from (by omega)) (Nat.le_of_ble_eq_true rfl) rfl) rfl rfl fun a86 h86 => ?_; clear h85
     refine wms 1 h86 rfl fun a87 h87 => ?_; clear h86
     refine wpList_nil (hK84 _ _ ?_)
     have hmm : nth (nextsL x.l k) q ∈ nextsL x.l k := nth_mem _ _ (by omega)
     have hnx := nexts_ok hj (by omega) hmm
     have hre := ReachI.step k _ (hdi2.s1 k (by assumption)) (by omega) hmm
     have hmay : ov = true → MayI x.l (nth (nextsL x.l k) q).toNat := fun h => may_of (hdi2.s1 k (by assumption)) (by omega) (hdi2.s2 k) (by rw [← hov]; exact h) hmm
     refine wp_seq_k fun K88 hK88 => wp_region_lit ?_
     refine wms 2 h87 rfl fun a89 h89 => ?_; clear h87
     have hl90 : sn3.length ≤ 140737488355328 := (h89.sh.own 2 rfl).len
     refine wv h89 (r_ixI (s := (⟨v15, sn3⟩ : Ls Bool)) (q := nth (nextsL x.l k) q) sl_66 ti_4 rfl rfl rfl (fun w h => (h.own 2 rfl)) (show 0 ≤ nth (nextsL x.l k) q ∧ nth (nextsL x.l k) q < sn3.length from (by omega))) rfl rfl fun a91 h91 => ?_; clear h89
     refine wv h91 (r_lde (s := (⟨v15, sn3⟩ : Ls Bool)) (i := (nth (nextsL x.l k) q).toNat) (v := .bool (nth sn3 ((nth (nextsL x.l k) q).toNat))) ti_4 rfl rfl rfl (fun w h => (h.own 2 rfl)) (show (nth (nextsL x.l k) q).toNat < sn3.length from (by omega)) (Nat.le_of_ble_eq_true rfl) rfl) rfl rfl fun a92 h92 => ?_; clear h91
     refine wv h92 (r_not rfl rfl) rfl rfl fun a93 h93 => ?_; clear h92
     refine wms 1 h93 rfl fun a94 h94 => ?_; clear h93
     rcases Bool.eq_false_or_eq_true (!(nth sn3 ((nth (nextsL x.l k) q).toNat))) with hb95 | hb95
     ·
      have hn95 : nth sn3 ((nth (nextsL x.l k) q).toNat) = false := (Bool.not_eq_true' _).mp hb95
      refine wl_skip h94 (wanted_no h94.fr rfl rfl rfl rfl hb95) rfl rfl fun a96 h96 => ?_; clear h94
      refine wl_skip h96 (wanted_no h96.fr rfl rfl rfl rfl hb95) rfl rfl fun a97 h97 => ?_; clear h96
      refine wl_skip h97 (wanted_no2 h97.fr rfl rfl rfl rfl) rfl rfl fun a98 h98 => ?_; clear h97
      refine wl_skip h98 (wanted_no2 h98.fr rfl rfl rfl rfl) rfl rfl fun a99 h99 => ?_; clear h98
      refine wl_skip h99 (wanted_no2 h99.fr rfl rfl rfl rfl) rfl rfl fun a100 h100 => ?_; clear h99
      refine wl_skip h100 (wanted_no2 h100.fr rfl rfl rfl rfl) rfl rfl fun a101 h101 => ?_; clear h100
      refine wl_skip h101 (wanted_no2 h101.fr rfl rfl rfl rfl) rfl rfl fun a102 h102 => ?_; clear h101
      refine wl_skip h102 (wanted_no h102.fr rfl rfl rfl rfl hb95) rfl rfl fun a103 h103 => ?_; clear h102
      refine wv h103 (r_pickT rfl rfl hb95 rfl) rfl rfl fun a104 h104 => ?_; clear h103
      refine wpList_nil (hK88 _ _ ?_)
      refine x_condT h104 rfl rfl ?_
      refine wp_seq_k fun K105 hK105 => wp_region_lit ?_
      refine wms 2 h104 rfl fun a106 h106 => ?_; clear h104
      refine wv h106 (r_ixI (s := (⟨v15, sn3⟩ : Ls Bool)) (q := nth (nextsL x.l k) q) sl_66 ti_4 rfl rfl rfl (fun w h => (h.own 2 rfl)) (show 0 ≤ nth (nextsL x.l k) q ∧ nth (nextsL x.l k) q < sn3.length from (by omega))) rfl rfl fun a107 h107 => ?_; clear h106
      refine wl_ex (x_ste (r := 2) (i := (nth (nextsL x.l k) q).toNat) (j := 0) (x' := (true : Bool)) h107 ti_4 rfl rfl rfl rfl rfl (show (nth (nextsL x.l k) q).toNat < sn3.length from (by omega)) (Nat.le_of_ble_eq_true rfl) rfl rfl rfl (by intro q hq; obtain rfl : q = 0 := (by omega); rfl) (fun w h => Flat.inner _ _) (fun b hb => (Flat.on _ _ hb).elim)) (wanted_none rfl _) ?_
      rintro a108 w108 h108
      clear h107
      refine wms 1 h108 rfl fun a109 h109 => ?_; clear h108
      refine wpList_nil (hK105 _ _ ?_)
      refine wp_region_lit ?_
      refine wms 4 h109 rfl fun a110 h110 => ?_; clear h109
      have hl111 : my3.length ≤ 140737488355328 := (h110.sh.own 3 rfl).len
      refine wv h110 (r_ixI (s := (⟨v9, my3⟩ : Ls Bool)) (q := nth (nextsL x.l k) q) sl_66 ti_4 rfl rfl rfl (fun w h => (h.own 3 rfl)) (show 0 ≤ nth (nextsL x.l k) q ∧ nth (nextsL x.l k) q < my3.length from (by omega))) rfl rfl fun a112 h112 => ?_; clear h110
      refine wv h112 (r_lde (s := (⟨v9, my3⟩ : Ls Bool)) (i := (nth (nextsL x.l k) q).toNat) (v := .bool (nth my3 ((nth (nextsL x.l k) q).toNat))) ti_4 rfl rfl rfl (fun w h => (h.own 3 rfl)) (show (nth (nextsL x.l k) q).toNat < my3.length from (by omega)) (Nat.le_of_ble_eq_true rfl) rfl) rfl rfl fun a113 h113 => ?_; clear h112
      refine wms 1 h113 rfl fun a114 h114 => ?_; clear h113
      rcases Bool.eq_false_or_eq_true (nth my3 ((nth (nextsL x.l k) q).toNat)) with hb115 | hb115
      ·
       skip
       refine wl_skip h114 (wanted_no h114.fr rfl rfl rfl rfl hb115) rfl rfl fun a116 h116 => ?_; clear h114
       refine wv h116 (r_pickT rfl rfl hb115 rfl) rfl rfl fun a117 h117 => ?_; clear h116
       refine wv h117 (r_ixI (s := (⟨v9, my3⟩ : Ls Bool)) (q := nth (nextsL x.l k) q) sl_66 ti_4 rfl rfl rfl (fun w h => (h.own 3 rfl)) (show 0 ≤ nth (nextsL x.l k) q ∧ nth (nextsL x.l k) q < my3.length from (by omega))) rfl rfl fun a118 h118 => ?_; clear h117
       refine wl_ex (x_ste (r := 3) (i := (nth (nextsL x.l k) q).toNat) (j := 0) (x' := (true : Bool)) h118 ti_4 rfl rfl rfl rfl rfl (show (nth (nextsL x.l k) q).toNat < my3.length from (by omega)) (Nat.le_of_ble_eq_true rfl) rfl rfl rfl (by intro q hq; obtain rfl : q = 0 := (by omega); rfl) (fun w h => Flat.inner _ _) (fun b hb => (Flat.on _ _ hb).elim)) (wanted_none rfl _) ?_
       rintro a119 w119 h119
       clear h118
       refine wpList_nil (hK83 _ _ ?_)
       have h120 : St 95 (fun _ => False) W a119 w119 [(0, x.v), (3, v9), (4, v15), (5, .bool true), (8, .bool ov), (22, x.v), (23, .int .i64 ((x.l.length : Nat) : Int)), (24, .int .i64 ((k : Nat) : Int)), (58, s74.v), (59, .int .i64 (((nextsL x.l k).length : Nat) : Int)), (60, .int .i64 ((q : Nat) : Int))] [.own 3 (⟨s74.v, nextsL x.l k⟩ : Ls Int), .blk b45 73 [.int .i64 ((nth x.l k).op), .int .i64 ((nth x.l k).a), .int .i64 ((nth x.l k).b), .int .i64 ((nth x.l k).c)], .own 4 (⟨v15, sn3.set ((nth (nextsL x.l k) q).toNat) true⟩ : Ls Bool), .own 4 (⟨v9, my3.set ((nth (nextsL x.l k) q).toNat) true⟩ : Ls Bool), .at_ x] := h119.nrm ⟨rfl, rfl, rfl, rfl, rfl, rfl, rfl, rfl, rfl, rfl, rfl, trivial⟩ [0, 1, 2, 3, 4] (by decide) ⟨rfl, rfl, rfl, rfl, rfl, trivial⟩
       clear h119
       refine wp_region_lit ?_
       refine wv h120 (r_addN (p := q) (q := 1) rfl rfl rfl (show q + 1 < 9223372036854775808 from (by omega))) rfl rfl fun a121 h121 => ?_; clear h120
       refine wms 1 h121 rfl fun a122 h122 => ?_; clear h121
       refine wpList_nil ?_
       refine x_again ⟨_, ?_, q + 1, sn3.set ((nth (nextsL x.l k) q).toNat) true, my3.set ((nth (nextsL x.l k) q).toNat) true, true, ov, ?_, ?_, ?_, ?_, ?_, h122.nrm ⟨rfl, rfl, rfl, rfl, rfl, rfl, rfl, rfl, rfl, rfl, rfl, trivial⟩ [0, 1, 2, 3, 4] (by decide) ⟨rfl, rfl, rfl, rfl, rfl, trivial⟩, rfl⟩
       · rw [hm78]; first | omega | (simp only [List.length_append, List.length_cons, List.length_nil, List.length_set, List.length_replicate, List.length_map, List.length_range]; omega)
       · omega
       · first | exact hdi3 | exact (hdi3.setS (by omega) hre).setM (fun h => by first | exact hmay h | exact hdi3.s2 _ (by assumption) | exact hmay (by assumption))
       · exact hov
       · first | (intro h; cases h; done) | (intro h; obtain ⟨e0, e1, e2, hp⟩ := h30 h; refine ⟨e0, e1, e2, fun p hp2 => ?_⟩; rcases Nat.lt_or_ge p q with h9 | h9; (exact hp p h9); obtain rfl : p = q := (by omega); exact ⟨by assumption, fun h => by first | assumption | (exfalso; have h8 := (by assumption : ov = false); rw [h8] at h; cases h)⟩)
       · first | exact h31 | (intro _; first | exact growA hle (by omega) (by assumption) (fun h => by first | rfl | exact absurd (h.symm.trans (show _ = false by assumption)) (by decide)) | exact growC hle (by omega) (by assumption) (by first | rfl | assumption))
      refine wl_val h114 (r_move rfl rfl) (wanted_yes h114.fr rfl rfl rfl rfl hb115) rfl rfl fun a123 h123 => ?_; clear h114
      refine wv h123 (r_pickF rfl rfl hb115 rfl) rfl rfl fun a124 h124 => ?_; clear h123
      refine wv h124 (r_ixI (s := (⟨v9, my3⟩ : Ls Bool)) (q := nth (nextsL x.l k) q) sl_66 ti_4 rfl rfl rfl (fun w h => (h.own 3 rfl)) (show 0 ≤ nth (nextsL x.l k) q ∧ nth (nextsL x.l k) q < my3.length from (by omega))) rfl rfl fun a125 h125 => ?_; clear h124
      refine wl_ex (x_ste (r := 3) (i := (nth (nextsL x.l k) q).toNat) (j := 0) (x' := (ov : Bool)) h125 ti_4 rfl rfl rfl rfl rfl (show (nth (nextsL x.l k) q).toNat < my3.length from (by omega)) (Nat.le_of_ble_eq_true rfl) rfl rfl rfl (by intro q hq; obtain rfl : q = 0 := (by omega); rfl) (fun w h => Flat.inner _ _) (fun b hb => (Flat.on _ _ hb).elim)) (wanted_none rfl _) ?_
      rintro a126 w126 h126
      clear h125
      refine wpList_nil (hK83 _ _ ?_)
      have h127 : St 95 (fun _ => False) W a126 w126 [(0, x.v), (3, v9), (4, v15), (5, .bool true), (8, .bool ov), (22, x.v), (23, .int .i64 ((x.l.length : Nat) : Int)), (24, .int .i64 ((k : Nat) : Int)), (58, s74.v), (59, .int .i64 (((nextsL x.l k).length : Nat) : Int)), (60, .int .i64 ((q : Nat) : Int))] [.own 3 (⟨s74.v, nextsL x.l k⟩ : Ls Int), .blk b45 73 [.int .i64 ((nth x.l k).op), .int .i64 ((nth x.l k).a), .int .i64 ((nth x.l k).b), .int .i64 ((nth x.l k).c)], .own 4 (⟨v15, sn3.set ((nth (nextsL x.l k) q).toNat) true⟩ : Ls Bool), .own 4 (⟨v9, my3.set ((nth (nextsL x.l k) q).toNat) ov⟩ : Ls Bool), .at_ x] := h126.nrm ⟨rfl, rfl, rfl, rfl, rfl, rfl, rfl, rfl, rfl, rfl, rfl, trivial⟩ [0, 1, 2, 3, 4] (by decide) ⟨rfl, rfl, rfl, rfl, rfl, trivial⟩
      clear h126
      refine wp_region_lit ?_
      refine wv h127 (r_addN (p := q) (q := 1) rfl rfl rfl (show q + 1 < 9223372036854775808 from (by omega))) rfl rfl fun a128 h128 => ?_; clear h127
      refine wms 1 h128 rfl fun a129 h129 => ?_; clear h128
      refine wpList_nil ?_
      refine x_again ⟨_, ?_, q + 1, sn3.set ((nth (nextsL x.l k) q).toNat) true, my3.set ((nth (nextsL x.l k) q).toNat) ov, true, ov, ?_, ?_, ?_, ?_, ?_, h129.nrm ⟨rfl, rfl, rfl, rfl, rfl, rfl, rfl, rfl, rfl, rfl, rfl, trivial⟩ [0, 1, 2, 3, 4] (by decide) ⟨rfl, rfl, rfl, rfl, rfl, trivial⟩, rfl⟩
      · rw [hm78]; first | omega | (simp only [List.length_append, List.length_cons, List.length_nil, List.length_set, List.length_replicate, List.length_map, List.length_range]; omega)
      · omega
      · first | exact hdi3 | exact (hdi3.setS (by omega) hre).setM (fun h => by first | exact hmay h | exact hdi3.s2 _ (by assumption) | exact hmay (by assumption))
      · exact hov
      · first | (intro h; cases h; done) | (intro h; obtain ⟨e0, e1, e2, hp⟩ := h30 h; refine ⟨e0, e1, e2, fun p hp2 => ?_⟩; rcases Nat.lt_or_ge p q with h9 | h9; (exact hp p h9); obtain rfl : p = q := (by omega); exact ⟨by assumption, fun h => by first | assumption | (exfalso; have h8 := (by assumption : ov = false); rw [h8] at h; cases h)⟩)
      · first | exact h31 | (intro _; first | exact growA hle (by omega) (by assumption) (fun h => by first | rfl | exact absurd (h.symm.trans (show _ = false by assumption)) (by decide)) | exact growC hle (by omega) (by assumption) (by first | rfl | assumption))
     have hn95 : nth sn3 ((nth (nextsL x.l k) q).toNat) = true := (Bool.not_eq_false' _).mp hb95
     refine wl_val h94 (r_move rfl rfl) (wanted_yes h94.fr rfl rfl rfl rfl hb95) rfl rfl fun a130 h130 => ?_; clear h94
     refine wl_val h130 (r_move rfl rfl) (wanted_yes h130.fr rfl rfl rfl rfl hb95) rfl rfl fun a131 h131 => ?_; clear h130
     rcases Bool.eq_false_or_eq_true ov with hb132 | hb132
     ·
      skip
      refine wl_val h131 (r_move rfl rfl) (wanted_yes h131.fr rfl rfl rfl rfl hb132) rfl rfl fun a133 h133 => ?_; clear h131
      refine wl_val h133 (r_move rfl rfl) (wanted_yes h133.fr rfl rfl rfl rfl hb132) rfl rfl fun a134 h134 => ?_; clear h133
      have hl135 : my3.length ≤ 140737488355328 := (h134.sh.own 3 rfl).len
      refine wl_val h134 (r_ixI (s := (⟨v9, my3⟩ : Ls Bool)) (q := nth (nextsL x.l k) q) sl_66 ti_4 rfl rfl rfl (fun w h => (h.own 3 rfl)) (show 0 ≤ nth (nextsL x.l k) q ∧ nth (nextsL x.l k) q < my3.length from (by omega))) (wanted_yes h134.fr rfl rfl rfl rfl hb132) rfl rfl fun a136 h136 => ?_; clear h134
      refine wl_val h136 (r_lde (s := (⟨v9, my3⟩ : Ls Bool)) (i := (nth (nextsL x.l k) q).toNat) (v := .bool (nth my3 ((nth (nextsL x.l k) q).toNat))) ti_4 rfl rfl rfl (fun w h => (h.own 3 rfl)) (show (nth (nextsL x.l k) q).toNat < my3.length from (by omega)) (Nat.le_of_ble_eq_true rfl) rfl) (wanted_yes h136.fr rfl rfl rfl rfl hb132) rfl rfl fun a137 h137 => ?_; clear h136
      refine wl_val h137 (r_not rfl rfl) (wanted_yes h137.fr rfl rfl rfl rfl hb132) rfl rfl fun a138 h138 => ?_; clear h137
      refine wl_val h138 (r_pickT rfl rfl hb132 rfl) (wanted_yes h138.fr rfl rfl rfl rfl hb95) rfl rfl fun a139 h139 => ?_; clear h138
      refine wv h139 (r_pickF rfl rfl hb95 rfl) rfl rfl fun a140 h140 => ?_; clear h139
      refine wpList_nil (hK88 _ _ ?_)
      refine x_cond h140 rfl (fun hb141 => ?_) (fun hb141 => ?_)
      ·
       have hn141 : nth my3 ((nth (nextsL x.l k) q).toNat) = false := (Bool.not_eq_true' _).mp hb141
       refine wp_seq_k fun K142 hK142 => wp_region_lit ?_
       refine wms 2 h140 rfl fun a143 h143 => ?_; clear h140
       refine wv h143 (r_ixI (s := (⟨v15, sn3⟩ : Ls Bool)) (q := nth (nextsL x.l k) q) sl_66 ti_4 rfl rfl rfl (fun w h => (h.own 2 rfl)) (show 0 ≤ nth (nextsL x.l k) q ∧ nth (nextsL x.l k) q < sn3.length from (by omega))) rfl rfl fun a144 h144 => ?_; clear h143
       refine wl_ex (x_ste (r := 2) (i := (nth (nextsL x.l k) q).toNat) (j := 0) (x' := (true : Bool)) h144 ti_4 rfl rfl rfl rfl rfl (show (nth (nextsL x.l k) q).toNat < sn3.length from (by omega)) (Nat.le_of_ble_eq_true rfl) rfl rfl rfl (by intro q hq; obtain rfl : q = 0 := (by omega); rfl) (fun w h => Flat.inner _ _) (fun b hb => (Flat.on _ _ hb).elim)) (wanted_none rfl _) ?_
       rintro a145 w145 h145
       clear h144
       refine wms 1 h145 rfl fun a146 h146 => ?_; clear h145
       refine wpList_nil (hK142 _ _ ?_)
       refine wp_region_lit ?_
       refine wms 4 h146 rfl fun a147 h147 => ?_; clear h146
       refine wv h147 (r_ixI (s := (⟨v9, my3⟩ : Ls Bool)) (q := nth (nextsL x.l k) q) sl_66 ti_4 rfl rfl rfl (fun w h => (h.own 3 rfl)) (show 0 ≤ nth (nextsL x.l k) q ∧ nth (nextsL x.l k) q < my3.length from (by omega))) rfl rfl fun a148 h148 => ?_; clear h147
       refine wv h148 (r_lde (s := (⟨v9, my3⟩ : Ls Bool)) (i := (nth (nextsL x.l k) q).toNat) (v := .bool (nth my3 ((nth (nextsL x.l k) q).toNat))) ti_4 rfl rfl rfl (fun w h => (h.own 3 rfl)) (show (nth (nextsL x.l k) q).toNat < my3.length from (by omega)) (Nat.le_of_ble_eq_true rfl) rfl) rfl rfl fun a149 h149 => ?_; clear h148
       refine wms 1 h149 rfl fun a150 h150 => ?_; clear h149
       refine wl_val h150 (r_move rfl rfl) (wanted_yes h150.fr rfl rfl rfl rfl hn141) rfl rfl fun a151 h151 => ?_; clear h150
       refine wv h151 (r_pickF rfl rfl hn141 rfl) rfl rfl fun a152 h152 => ?_; clear h151
       refine wv h152 (r_ixI (s := (⟨v9, my3⟩ : Ls Bool)) (q := nth (nextsL x.l k) q) sl_66 ti_4 rfl rfl rfl (fun w h => (h.own 3 rfl)) (show 0 ≤ nth (nextsL x.l k) q ∧ nth (nextsL x.l k) q < my3.length from (by omega))) rfl rfl fun a153 h153 => ?_; clear h152
       refine wl_ex (x_ste (r := 3) (i := (nth (nextsL x.l k) q).toNat) (j := 0) (x' := (ov : Bool)) h153 ti_4 rfl rfl rfl rfl rfl (show (nth (nextsL x.l k) q).toNat < my3.length from (by omega)) (Nat.le_of_ble_eq_true rfl) rfl rfl rfl (by intro q hq; obtain rfl : q = 0 := (by omega); rfl) (fun w h => Flat.inner _ _) (fun b hb => (Flat.on _ _ hb).elim)) (wanted_none rfl _) ?_
       rintro a154 w154 h154
       clear h153
       refine wpList_nil (hK83 _ _ ?_)
       have h155 : St 95 (fun _ => False) W a154 w154 [(0, x.v), (3, v9), (4, v15), (5, .bool true), (8, .bool ov), (22, x.v), (23, .int .i64 ((x.l.length : Nat) : Int)), (24, .int .i64 ((k : Nat) : Int)), (58, s74.v), (59, .int .i64 (((nextsL x.l k).length : Nat) : Int)), (60, .int .i64 ((q : Nat) : Int))] [.own 3 (⟨s74.v, nextsL x.l k⟩ : Ls Int), .blk b45 73 [.int .i64 ((nth x.l k).op), .int .i64 ((nth x.l k).a), .int .i64 ((nth x.l k).b), .int .i64 ((nth x.l k).c)], .own 4 (⟨v15, sn3.set ((nth (nextsL x.l k) q).toNat) true⟩ : Ls Bool), .own 4 (⟨v9, my3.set ((nth (nextsL x.l k) q).toNat) ov⟩ : Ls Bool), .at_ x] := h154.nrm ⟨rfl, rfl, rfl, rfl, rfl, rfl, rfl, rfl, rfl, rfl, rfl, trivial⟩ [0, 1, 2, 3, 4] (by decide) ⟨rfl, rfl, rfl, rfl, rfl, trivial⟩
       clear h154
       refine wp_region_lit ?_
       refine wv h155 (r_addN (p := q) (q := 1) rfl rfl rfl (show q + 1 < 9223372036854775808 from (by omega))) rfl rfl fun a156 h156 => ?_; clear h155
       refine wms 1 h156 rfl fun a157 h157 => ?_; clear h156
       refine wpList_nil ?_
       refine x_again ⟨_, ?_, q + 1, sn3.set ((nth (nextsL x.l k) q).toNat) true, my3.set ((nth (nextsL x.l k) q).toNat) ov, true, ov, ?_, ?_, ?_, ?_, ?_, h157.nrm ⟨rfl, rfl, rfl, rfl, rfl, rfl, rfl, rfl, rfl, rfl, rfl, trivial⟩ [0, 1, 2, 3, 4] (by decide) ⟨rfl, rfl, rfl, rfl, rfl, trivial⟩, rfl⟩
       · rw [hm78]; first | omega | (simp only [List.length_append, List.length_cons, List.length_nil, List.length_set, List.length_replicate, List.length_map, List.length_range]; omega)
       · omega
       · first | exact hdi3 | exact (hdi3.setS (by omega) hre).setM (fun h => by first | exact hmay h | exact hdi3.s2 _ (by assumption) | exact hmay (by assumption))
       · exact hov
       · first | (intro h; cases h; done) | (intro h; obtain ⟨e0, e1, e2, hp⟩ := h30 h; refine ⟨e0, e1, e2, fun p hp2 => ?_⟩; rcases Nat.lt_or_ge p q with h9 | h9; (exact hp p h9); obtain rfl : p = q := (by omega); exact ⟨by assumption, fun h => by first | assumption | (exfalso; have h8 := (by assumption : ov = false); rw [h8] at h; cases h)⟩)
       · first | exact h31 | (intro _; first | exact growA hle (by omega) (by assumption) (fun h => by first | rfl | exact absurd (h.symm.trans (show _ = false by assumption)) (by decide)) | exact growC hle (by omega) (by assumption) (by first | rfl | assumption))
      have hn141 : nth my3 ((nth (nextsL x.l k) q).toNat) = true := (Bool.not_eq_false' _).mp hb141
      refine wp_skip ?_
      refine hK83 _ _ ?_
      refine wp_region_lit ?_
      refine wv h140 (r_addN (p := q) (q := 1) rfl rfl rfl (show q + 1 < 9223372036854775808 from (by omega))) rfl rfl fun a158 h158 => ?_; clear h140
      refine wms 1 h158 rfl fun a159 h159 => ?_; clear h158
      refine wpList_nil ?_
      refine x_again ⟨_, ?_, q + 1, sn3, my3, ag3, ov, ?_, ?_, ?_, ?_, ?_, h159.nrm ⟨rfl, rfl, rfl, rfl, rfl, rfl, rfl, rfl, rfl, rfl, rfl, trivial⟩ [0, 1, 2, 3, 4] (by decide) ⟨rfl, rfl, rfl, rfl, rfl, trivial⟩, rfl⟩
      · rw [hm78]; first | omega | (simp only [List.length_append, List.length_cons, List.length_nil, List.length_set, List.length_replicate, List.length_map, List.length_range]; omega)
      · omega
      · first | exact hdi3 | exact (hdi3.setS (by omega) hre).setM (fun h => by first | exact hmay h | exact hdi3.s2 _ (by assumption) | exact hmay (by assumption))
      · exact hov
      · first | (intro h; cases h; done) | (intro h; obtain ⟨e0, e1, e2, hp⟩ := h30 h; refine ⟨e0, e1, e2, fun p hp2 => ?_⟩; rcases Nat.lt_or_ge p q with h9 | h9; (exact hp p h9); obtain rfl : p = q := (by omega); exact ⟨by assumption, fun h => by first | assumption | (exfalso; have h8 := (by assumption : ov = false); rw [h8] at h; cases h)⟩)
      · first | exact h31 | (intro _; first | exact growA hle (by omega) (by assumption) (fun h => by first | rfl | exact absurd (h.symm.trans (show _ = false by assumption)) (by decide)) | exact growC hle (by omega) (by assumption) (by first | rfl | assumption))
     refine wl_skip h131 (wanted_no h131.fr rfl rfl rfl rfl hb132) rfl rfl fun a160 h160 => ?_; clear h131
     refine wl_skip h160 (wanted_no h160.fr rfl rfl rfl rfl hb132) rfl rfl fun a161 h161 => ?_; clear h160
     refine wl_skip h161 (wanted_no h161.fr rfl rfl rfl rfl hb132) rfl rfl fun a162 h162 => ?_; clear h161
     refine wl_skip h162 (wanted_no h162.fr rfl rfl rfl rfl hb132) rfl rfl fun a163 h163 => ?_; clear h162
     refine wl_skip h163 (wanted_no h163.fr rfl rfl rfl rfl hb132) rfl rfl fun a164 h164 => ?_; clear h163
     refine wl_val h164 (r_pickF rfl rfl hb132 rfl) (wanted_yes h164.fr rfl rfl rfl rfl hb95) rfl rfl fun a165 h165 => ?_; clear h164
     refine wv h165 (r_pickF rfl rfl hb95 rfl) rfl rfl fun a166 h166 => ?_; clear h165
     refine wpList_nil (hK88 _ _ ?_)
     refine x_condF h166 rfl rfl ?_
     refine wp_skip ?_
     refine hK83 _ _ ?_
     refine wp_region_lit ?_
     refine wv h166 (r_addN (p := q) (q := 1) rfl rfl rfl (show q + 1 < 9223372036854775808 from (by omega))) rfl rfl fun a167 h167 => ?_; clear h166
     refine wms 1 h167 rfl fun a168 h168 => ?_; clear h167
     refine wpList_nil ?_
     refine x_again ⟨_, ?_, q + 1, sn3, my3, ag3, ov, ?_, ?_, ?_, ?_, ?_, h168.nrm ⟨rfl, rfl, rfl, rfl, rfl, rfl, rfl, rfl, rfl, rfl, rfl, trivial⟩ [0, 1, 2, 3, 4] (by decide) ⟨rfl, rfl, rfl, rfl, rfl, trivial⟩, rfl⟩
     · rw [hm78]; first | omega | (simp only [List.length_append, List.length_cons, List.length_nil, List.length_set, List.length_replicate, List.length_map, List.length_range]; omega)
     · omega
     · first | exact hdi3 | exact (hdi3.setS (by omega) hre).setM (fun h => by first | exact hmay h | exact hdi3.s2 _ (by assumption) | exact hmay (by assumption))
     · exact hov
     · first | (intro h; cases h; done) | (intro h; obtain ⟨e0, e1, e2, hp⟩ := h30 h; refine ⟨e0, e1, e2, fun p hp2 => ?_⟩; rcases Nat.lt_or_ge p q with h9 | h9; (exact hp p h9); obtain rfl : p = q := (by omega); exact ⟨by assumption, fun h => by first | assumption | (exfalso; have h8 := (by assumption : ov = false); rw [h8] at h; cases h)⟩)
     · first | exact h31 | (intro _; first | exact growA hle (by omega) (by assumption) (fun h => by first | rfl | exact absurd (h.symm.trans (show _ = false by assumption)) (by decide)) | exact growC hle (by omega) (by assumption) (by first | rfl | assumption))
    have hp82 : ¬ (q < (nextsL x.l k).length) := of_decide_eq_false hb82
    refine wp_exit ?_
    refine hK40 _ _ ?_
    refine wp_region_lit ?_
    refine wv h80 (r_addN (p := k) (q := 1) rfl rfl rfl (show k + 1 < 9223372036854775808 from (by omega))) rfl rfl fun a169 h169 => ?_; clear h80
    refine wms 1 h169 rfl fun a170 h170 => ?_; clear h169
    refine wpList_nil ?_
    refine x_again ⟨_, ?_, k + 1, sn3, my3, ag3, ?_, ?_, ?_, ?_, h170.nrm ⟨rfl, rfl, rfl, rfl, rfl, rfl, rfl, trivial⟩ [2, 3, 4] (by decide) ⟨rfl, rfl, rfl, trivial⟩, rfl⟩
    · rw [hm35]; first | omega | (simp only [List.length_append, List.length_cons, List.length_nil, List.length_set, List.length_replicate, List.length_map, List.length_range]; omega)
    · omega
    · first | exact hdi3 | exact hdi2
    · first | exact dq_close hov h20 h30 (by omega) | exact dq_skip h20 (by assumption)
    · first | exact h31 | exact h21
   refine wp_seq_k fun K171 hK171 => wp_region_lit ?_
   refine wv h69 (r_fieldB (r := 0) fl_73_0 rfl rfl rfl) rfl rfl fun a172 h172 => ?_; clear h69
   refine wv h172 (r_ldb (i := 0) ti_3 rfl rfl rfl rfl) rfl rfl fun a173 h173 => ?_; clear h172
   refine wv h173 (r_eqlI (p := (nth x.l k).op) (q := 12) rfl rfl rfl) rfl rfl fun a174 h174 => ?_; clear h173
   refine wms 1 h174 rfl fun a175 h175 => ?_; clear h174
   rcases Bool.eq_false_or_eq_true (decide ((nth x.l k).op = 12)) with hb176 | hb176
   ·
    have hp176 : (nth x.l k).op = 12 := of_decide_eq_true hb176
    refine wl_skip h175 (wanted_no h175.fr rfl rfl rfl rfl hb176) rfl rfl fun a177 h177 => ?_; clear h175
    refine wl_skip h177 (wanted_no h177.fr rfl rfl rfl rfl hb176) rfl rfl fun a178 h178 => ?_; clear h177
    refine wl_skip h178 (wanted_no h178.fr rfl rfl rfl rfl hb176) rfl rfl fun a179 h179 => ?_; clear h178
    refine wv h179 (r_pickT rfl rfl hb176 rfl) rfl rfl fun a180 h180 => ?_; clear h179
    refine wms 1 h180 rfl fun a181 h181 => ?_; clear h180
    refine wl_skip h181 (wanted_no h181.fr rfl rfl rfl rfl rfl) rfl rfl fun a182 h182 => ?_; clear h181
    refine wl_skip h182 (wanted_no h182.fr rfl rfl rfl rfl rfl) rfl rfl fun a183 h183 => ?_; clear h182
    refine wl_skip h183 (wanted_no h183.fr rfl rfl rfl rfl rfl) rfl rfl fun a184 h184 => ?_; clear h183
    refine wv h184 (r_pickT rfl rfl rfl rfl) rfl rfl fun a185 h185 => ?_; clear h184
    refine wms 1 h185 rfl fun a186 h186 => ?_; clear h185
    refine wpList_nil (hK171 _ _ ?_)
    have h187 : St 95 (fun _ => False) W a186 w68 [(0, x.v), (3, v9), (4, v15), (5, .bool ag2), (6, .int .i64 ((k : Nat) : Int)), (8, .bool (nth my2 k)), (22, x.v), (23, .int .i64 ((x.l.length : Nat) : Int)), (24, .int .i64 ((k : Nat) : Int)), (42, .bool true)] [.blk b45 73 [.int .i64 ((nth x.l k).op), .int .i64 ((nth x.l k).a), .int .i64 ((nth x.l k).b), .int .i64 ((nth x.l k).c)], .own 4 (⟨v15, sn2⟩ : Ls Bool), .own 4 (⟨v9, my2⟩ : Ls Bool), .at_ x] := h186.nrm ⟨rfl, rfl, rfl, rfl, rfl, rfl, rfl, rfl, rfl, rfl, trivial⟩ [0, 1, 2, 3] (by decide) ⟨rfl, rfl, rfl, rfl, trivial⟩
    clear h186
    refine x_condT h187 rfl rfl ?_
    refine wp_region_lit ?_
    refine wms 1 h187 rfl fun a188 h188 => ?_; clear h187
    refine wpList_nil (hK64 _ _ ?_)
    refine wp_seq_k fun K189 hK189 => wp_region_lit ?_
    refine wms 2 h188 rfl fun a190 h190 => ?_; clear h188
    refine wl_ex (x_call h190 bd_81 rfl rfl rfl rfl rfl (nexts_c x k _ (h190.sh.at 3 rfl) (by omega) (by omega))) (wanted_none rfl _) ?_
    rintro a191 w191 ⟨_, ⟨s191, rfl, hs191⟩, hf191⟩
    have h191 := (⟨hf191, h190.sh.call hs191 (by intro A hA b hb; first | (simp at hA; done) | (simp at hA; subst hA; first | exact Flat.noRd hb | exact (hb : False).elim) | (simp at hA; rcases hA with rfl | rfl <;> first | exact Flat.noRd hb | exact (hb : False).elim))⟩ : St 95 (fun _ => False) W a191 w191 _ _)
    clear hf191 hs191
    clear h190
    have hl192 : (nextsL x.l k).length ≤ 140737488355328 := (h191.sh.own 0 rfl).len
    refine wv h191 (r_len (s := (⟨s191.v, nextsL x.l k⟩ : Ls Int)) (n := (nextsL x.l k).length) sl_24 rfl rfl (fun w h => (h.own 0 rfl)) rfl) rfl rfl fun a193 h193 => ?_; clear h191
    refine wms 1 h193 rfl fun a194 h194 => ?_; clear h193
    refine wpList_nil (hK189 _ _ ?_)
    refine wp_block ?_
    have hn2 := nexts_len x.l k
    refine x_loop (fun m a w => ∃ (q : Nat) (sn3 my3 : List Bool) (ag3 ov : Bool), (q ≤ (nextsL x.l k).length) ∧ (DI x.l sn3 my3) ∧ (ov = outB (nth x.l k) (nth my2 k)) ∧ (ag3 = false → ag2 = false ∧ sn3 = sn2 ∧ my3 = my2 ∧ ∀ p, p < q → nth sn3 (nth (nextsL x.l k) p).toNat = true ∧ (ov = true → nth my3 (nth (nextsL x.l k) p).toNat = true)) ∧ (ag3 = true → cntB sn + cntB my < cntB sn3 + cntB my3) ∧ St 95 (fun _ => False) W a w [(0, x.v), (3, v9), (4, v15), (5, .bool ag3), (8, .bool ov), (22, x.v), (23, .int .i64 ((x.l.length : Nat) : Int)), (24, .int .i64 ((k : Nat) : Int)), (58, s191.v), (59, .int .i64 (((nextsL x.l k).length : Nat) : Int)), (60, .int .i64 ((q : Nat) : Int))] [.own 3 (⟨s191.v, nextsL x.l k⟩ : Ls Int), .blk b45 73 [.int .i64 ((nth x.l k).op), .int .i64 ((nth x.l k).a), .int .i64 ((nth x.l k).b), .int .i64 ((nth x.l k).c)], .own 4 (⟨v15, sn3⟩ : Ls Bool), .own 4 (⟨v9, my3⟩ : Ls Bool), .at_ x] ∧ m = (nextsL x.l k).length - q) ⟨_, 0, sn2, my2, ag2, false, (by omega), (hdi2), (by first | exact outB_w (by assumption) | exact outB_e (by assumption) (by omega) | exact outB_p (by assumption) (by omega)), (fun h => ⟨h, rfl, rfl, fun p hp => absurd hp (by omega)⟩), (h21), h194.nrm ⟨rfl, rfl, rfl, rfl, rfl, rfl, rfl, rfl, rfl, rfl, rfl, trivial⟩ [0, 1, 2, 3, 4] (by decide) ⟨rfl, rfl, rfl, rfl, rfl, trivial⟩, rfl⟩ ?_
    clear h194
    rintro m195 a195 w195 ⟨q, sn3, my3, ag3, ov, hq, hdi3, hov, h30, h31, h195, hm195⟩
    have hd5 := hdi3.l1
    have hd6 := hdi3.l2
    have hle := dq_le h20 h30 h31
    refine wp_seq_k fun K196 hK196 => wp_region_lit ?_
    refine wv h195 (r_lssN (p := q) (q := (nextsL x.l k).length) rfl rfl rfl) rfl rfl fun a197 h197 => ?_; clear h195
    refine wpList_nil (hK196 _ _ ?_)
    refine wp_seq_k fun K198 hK198 => ?_
    refine x_cond h197 rfl (fun hb199 => ?_) (fun hb199 => ?_)
    ·
     have hp199 : q < (nextsL x.l k).length := of_decide_eq_true hb199
     refine wp_skip ?_
     refine hK198 _ _ ?_
     refine wp_seq_k fun K200 hK200 => ?_
     refine wp_block ?_
     refine wp_seq_k fun K201 hK201 => wp_region_lit ?_
     refine wv h197 (r_ixN (s := (⟨s191.v, nextsL x.l k⟩ : Ls Int)) (q := q) sl_24 ti_3 rfl rfl rfl (fun w h => (h.own 0 rfl)) (show q < (nextsL x.l k).length from (by omega))) rfl rfl fun a202 h202 => ?_; clear h197
     refine wv h202 (r_lde (s := (⟨s191.v, nextsL x.l k⟩ : Ls Int)) (i := q) (v := .int .i64 (nth (nextsL x.l k) q)) ti_3 rfl rfl rfl (fun w h => (h.own 0 rfl)) (show q < (nextsL x.l k).length from (by omega)) (Nat.le_of_ble_eq_true rfl) rfl) rfl rfl fun a203 h203 => ?_; clear h202
     refine wms 1 h203 rfl fun a204 h204 => ?_; clear h203
     refine wpList_nil (hK201 _ _ ?_)
     have hmm : nth (nextsL x.l k) q ∈ nextsL x.l k := nth_mem _ _ (by omega)
     have hnx := nexts_ok hj (by omega) hmm
     have hre := ReachI.step k _ (hdi2.s1 k (by assumption)) (by omega) hmm
     have hmay : ov = true → MayI x.l (nth (nextsL x.l k) q).toNat := fun h => may_of (hdi2.s1 k (by assumption)) (by omega) (hdi2.s2 k) (by rw [← hov]; exact h) hmm
     refine wp_seq_k fun K205 hK205 => wp_region_lit ?_
     refine wms 2 h204 rfl fun a206 h206 => ?_; clear h204
     have hl207 : sn3.length ≤ 140737488355328 := (h206.sh.own 2 rfl).len
     refine wv h206 (r_ixI (s := (⟨v15, sn3⟩ : Ls Bool)) (q := nth (nextsL x.l k) q) sl_66 ti_4 rfl rfl rfl (fun w h => (h.own 2 rfl)) (show 0 ≤ nth (nextsL x.l k) q ∧ nth (nextsL x.l k) q < sn3.length from (by omega))) rfl rfl fun a208 h208 => ?_; clear h206
     refine wv h208 (r_lde (s := (⟨v15, sn3⟩ : Ls Bool)) (i := (nth (nextsL x.l k) q).toNat) (v := .bool (nth sn3 ((nth (nextsL x.l k) q).toNat))) ti_4 rfl rfl rfl (fun w h => (h.own 2 rfl)) (show (nth (nextsL x.l k) q).toNat < sn3.length from (by omega)) (Nat.le_of_ble_eq_true rfl) rfl) rfl rfl fun a209 h209 => ?_; clear h208
     refine wv h209 (r_not rfl rfl) rfl rfl fun a210 h210 => ?_; clear h209
     refine wms 1 h210 rfl fun a211 h211 => ?_; clear h210
     rcases Bool.eq_false_or_eq_true (!(nth sn3 ((nth (nextsL x.l k) q).toNat))) with hb212 | hb212
     ·
      have hn212 : nth sn3 ((nth (nextsL x.l k) q).toNat) = false := (Bool.not_eq_true' _).mp hb212
      refine wl_skip h211 (wanted_no h211.fr rfl rfl rfl rfl hb212) rfl rfl fun a213 h213 => ?_; clear h211
      refine wl_skip h213 (wanted_no h213.fr rfl rfl rfl rfl hb212) rfl rfl fun a214 h214 => ?_; clear h213
      refine wl_skip h214 (wanted_no2 h214.fr rfl rfl rfl rfl) rfl rfl fun a215 h215 => ?_; clear h214
      refine wl_skip h215 (wanted_no2 h215.fr rfl rfl rfl rfl) rfl rfl fun a216 h216 => ?_; clear h215
      refine wl_skip h216 (wanted_no2 h216.fr rfl rfl rfl rfl) rfl rfl fun a217 h217 => ?_; clear h216
      refine wl_skip h217 (wanted_no2 h217.fr rfl rfl rfl rfl) rfl rfl fun a218 h218 => ?_; clear h217
      refine wl_skip h218 (wanted_no2 h218.fr rfl rfl rfl rfl) rfl rfl fun a219 h219 => ?_; clear h218
      refine wl_skip h219 (wanted_no h219.fr rfl rfl rfl rfl hb212) rfl rfl fun a220 h220 => ?_; clear h219
      refine wv h220 (r_pickT rfl rfl hb212 rfl) rfl rfl fun a221 h221 => ?_; clear h220
      refine wpList_nil (hK205 _ _ ?_)
      refine x_condT h221 rfl rfl ?_
      refine wp_seq_k fun K222 hK222 => wp_region_lit ?_
      refine wms 2 h221 rfl fun a223 h223 => ?_; clear h221
      refine wv h223 (r_ixI (s := (⟨v15, sn3⟩ : Ls Bool)) (q := nth (nextsL x.l k) q) sl_66 ti_4 rfl rfl rfl (fun w h => (h.own 2 rfl)) (show 0 ≤ nth (nextsL x.l k) q ∧ nth (nextsL x.l k) q < sn3.length from (by omega))) rfl rfl fun a224 h224 => ?_; clear h223
      refine wl_ex (x_ste (r := 2) (i := (nth (nextsL x.l k) q).toNat) (j := 0) (x' := (true : Bool)) h224 ti_4 rfl rfl rfl rfl rfl (show (nth (nextsL x.l k) q).toNat < sn3.length from (by omega)) (Nat.le_of_ble_eq_true rfl) rfl rfl rfl (by intro q hq; obtain rfl : q = 0 := (by omega); rfl) (fun w h => Flat.inner _ _) (fun b hb => (Flat.on _ _ hb).elim)) (wanted_none rfl _) ?_
      rintro a225 w225 h225
      clear h224
      refine wms 1 h225 rfl fun a226 h226 => ?_; clear h225
      refine wpList_nil (hK222 _ _ ?_)
      refine wp_region_lit ?_
      refine wms 4 h226 rfl fun a227 h227 => ?_; clear h226
      have hl228 : my3.length ≤ 140737488355328 := (h227.sh.own 3 rfl).len
      refine wv h227 (r_ixI (s := (⟨v9, my3⟩ : Ls Bool)) (q := nth (nextsL x.l k) q) sl_66 ti_4 rfl rfl rfl (fun w h => (h.own 3 rfl)) (show 0 ≤ nth (nextsL x.l k) q ∧ nth (nextsL x.l k) q < my3.length from (by omega))) rfl rfl fun a229 h229 => ?_; clear h227
      refine wv h229 (r_lde (s := (⟨v9, my3⟩ : Ls Bool)) (i := (nth (nextsL x.l k) q).toNat) (v := .bool (nth my3 ((nth (nextsL x.l k) q).toNat))) ti_4 rfl rfl rfl (fun w h => (h.own 3 rfl)) (show (nth (nextsL x.l k) q).toNat < my3.length from (by omega)) (Nat.le_of_ble_eq_true rfl) rfl) rfl rfl fun a230 h230 => ?_; clear h229
      refine wms 1 h230 rfl fun a231 h231 => ?_; clear h230
      rcases Bool.eq_false_or_eq_true (nth my3 ((nth (nextsL x.l k) q).toNat)) with hb232 | hb232
      ·
       skip
       refine wl_skip h231 (wanted_no h231.fr rfl rfl rfl rfl hb232) rfl rfl fun a233 h233 => ?_; clear h231
       refine wv h233 (r_pickT rfl rfl hb232 rfl) rfl rfl fun a234 h234 => ?_; clear h233
       refine wv h234 (r_ixI (s := (⟨v9, my3⟩ : Ls Bool)) (q := nth (nextsL x.l k) q) sl_66 ti_4 rfl rfl rfl (fun w h => (h.own 3 rfl)) (show 0 ≤ nth (nextsL x.l k) q ∧ nth (nextsL x.l k) q < my3.length from (by omega))) rfl rfl fun a235 h235 => ?_; clear h234
       refine wl_ex (x_ste (r := 3) (i := (nth (nextsL x.l k) q).toNat) (j := 0) (x' := (true : Bool)) h235 ti_4 rfl rfl rfl rfl rfl (show (nth (nextsL x.l k) q).toNat < my3.length from (by omega)) (Nat.le_of_ble_eq_true rfl) rfl rfl rfl (by intro q hq; obtain rfl : q = 0 := (by omega); rfl) (fun w h => Flat.inner _ _) (fun b hb => (Flat.on _ _ hb).elim)) (wanted_none rfl _) ?_
       rintro a236 w236 h236
       clear h235
       refine wpList_nil (hK200 _ _ ?_)
       have h237 : St 95 (fun _ => False) W a236 w236 [(0, x.v), (3, v9), (4, v15), (5, .bool true), (8, .bool ov), (22, x.v), (23, .int .i64 ((x.l.length : Nat) : Int)), (24, .int .i64 ((k : Nat) : Int)), (58, s191.v), (59, .int .i64 (((nextsL x.l k).length : Nat) : Int)), (60, .int .i64 ((q : Nat) : Int))] [.own 3 (⟨s191.v, nextsL x.l k⟩ : Ls Int), .blk b45 73 [.int .i64 ((nth x.l k).op), .int .i64 ((nth x.l k).a), .int .i64 ((nth x.l k).b), .int .i64 ((nth x.l k).c)], .own 4 (⟨v15, sn3.set ((nth (nextsL x.l k) q).toNat) true⟩ : Ls Bool), .own 4 (⟨v9, my3.set ((nth (nextsL x.l k) q).toNat) true⟩ : Ls Bool), .at_ x] := h236.nrm ⟨rfl, rfl, rfl, rfl, rfl, rfl, rfl, rfl, rfl, rfl, rfl, trivial⟩ [0, 1, 2, 3, 4] (by decide) ⟨rfl, rfl, rfl, rfl, rfl, trivial⟩
       clear h236
       refine wp_region_lit ?_
       refine wv h237 (r_addN (p := q) (q := 1) rfl rfl rfl (show q + 1 < 9223372036854775808 from (by omega))) rfl rfl fun a238 h238 => ?_; clear h237
       refine wms 1 h238 rfl fun a239 h239 => ?_; clear h238
       refine wpList_nil ?_
       refine x_again ⟨_, ?_, q + 1, sn3.set ((nth (nextsL x.l k) q).toNat) true, my3.set ((nth (nextsL x.l k) q).toNat) true, true, ov, ?_, ?_, ?_, ?_, ?_, h239.nrm ⟨rfl, rfl, rfl, rfl, rfl, rfl, rfl, rfl, rfl, rfl, rfl, trivial⟩ [0, 1, 2, 3, 4] (by decide) ⟨rfl, rfl, rfl, rfl, rfl, trivial⟩, rfl⟩
       · rw [hm195]; first | omega | (simp only [List.length_append, List.length_cons, List.length_nil, List.length_set, List.length_replicate, List.length_map, List.length_range]; omega)
       · omega
       · first | exact hdi3 | exact (hdi3.setS (by omega) hre).setM (fun h => by first | exact hmay h | exact hdi3.s2 _ (by assumption) | exact hmay (by assumption))
       · exact hov
       · first | (intro h; cases h; done) | (intro h; obtain ⟨e0, e1, e2, hp⟩ := h30 h; refine ⟨e0, e1, e2, fun p hp2 => ?_⟩; rcases Nat.lt_or_ge p q with h9 | h9; (exact hp p h9); obtain rfl : p = q := (by omega); exact ⟨by assumption, fun h => by first | assumption | (exfalso; have h8 := (by assumption : ov = false); rw [h8] at h; cases h)⟩)
       · first | exact h31 | (intro _; first | exact growA hle (by omega) (by assumption) (fun h => by first | rfl | exact absurd (h.symm.trans (show _ = false by assumption)) (by decide)) | exact growC hle (by omega) (by assumption) (by first | rfl | assumption))
      refine wl_val h231 (r_move rfl rfl) (wanted_yes h231.fr rfl rfl rfl rfl hb232) rfl rfl fun a240 h240 => ?_; clear h231
      refine wv h240 (r_pickF rfl rfl hb232 rfl) rfl rfl fun a241 h241 => ?_; clear h240
      refine wv h241 (r_ixI (s := (⟨v9, my3⟩ : Ls Bool)) (q := nth (nextsL x.l k) q) sl_66 ti_4 rfl rfl rfl (fun w h => (h.own 3 rfl)) (show 0 ≤ nth (nextsL x.l k) q ∧ nth (nextsL x.l k) q < my3.length from (by omega))) rfl rfl fun a242 h242 => ?_; clear h241
      refine wl_ex (x_ste (r := 3) (i := (nth (nextsL x.l k) q).toNat) (j := 0) (x' := (ov : Bool)) h242 ti_4 rfl rfl rfl rfl rfl (show (nth (nextsL x.l k) q).toNat < my3.length from (by omega)) (Nat.le_of_ble_eq_true rfl) rfl rfl rfl (by intro q hq; obtain rfl : q = 0 := (by omega); rfl) (fun w h => Flat.inner _ _) (fun b hb => (Flat.on _ _ hb).elim)) (wanted_none rfl _) ?_
      rintro a243 w243 h243
      clear h242
      refine wpList_nil (hK200 _ _ ?_)
      have h244 : St 95 (fun _ => False) W a243 w243 [(0, x.v), (3, v9), (4, v15), (5, .bool true), (8, .bool ov), (22, x.v), (23, .int .i64 ((x.l.length : Nat) : Int)), (24, .int .i64 ((k : Nat) : Int)), (58, s191.v), (59, .int .i64 (((nextsL x.l k).length : Nat) : Int)), (60, .int .i64 ((q : Nat) : Int))] [.own 3 (⟨s191.v, nextsL x.l k⟩ : Ls Int), .blk b45 73 [.int .i64 ((nth x.l k).op), .int .i64 ((nth x.l k).a), .int .i64 ((nth x.l k).b), .int .i64 ((nth x.l k).c)], .own 4 (⟨v15, sn3.set ((nth (nextsL x.l k) q).toNat) true⟩ : Ls Bool), .own 4 (⟨v9, my3.set ((nth (nextsL x.l k) q).toNat) ov⟩ : Ls Bool), .at_ x] := h243.nrm ⟨rfl, rfl, rfl, rfl, rfl, rfl, rfl, rfl, rfl, rfl, rfl, trivial⟩ [0, 1, 2, 3, 4] (by decide) ⟨rfl, rfl, rfl, rfl, rfl, trivial⟩
      clear h243
      refine wp_region_lit ?_
      refine wv h244 (r_addN (p := q) (q := 1) rfl rfl rfl (show q + 1 < 9223372036854775808 from (by omega))) rfl rfl fun a245 h245 => ?_; clear h244
      refine wms 1 h245 rfl fun a246 h246 => ?_; clear h245
      refine wpList_nil ?_
      refine x_again ⟨_, ?_, q + 1, sn3.set ((nth (nextsL x.l k) q).toNat) true, my3.set ((nth (nextsL x.l k) q).toNat) ov, true, ov, ?_, ?_, ?_, ?_, ?_, h246.nrm ⟨rfl, rfl, rfl, rfl, rfl, rfl, rfl, rfl, rfl, rfl, rfl, trivial⟩ [0, 1, 2, 3, 4] (by decide) ⟨rfl, rfl, rfl, rfl, rfl, trivial⟩, rfl⟩
      · rw [hm195]; first | omega | (simp only [List.length_append, List.length_cons, List.length_nil, List.length_set, List.length_replicate, List.length_map, List.length_range]; omega)
      · omega
      · first | exact hdi3 | exact (hdi3.setS (by omega) hre).setM (fun h => by first | exact hmay h | exact hdi3.s2 _ (by assumption) | exact hmay (by assumption))
      · exact hov
      · first | (intro h; cases h; done) | (intro h; obtain ⟨e0, e1, e2, hp⟩ := h30 h; refine ⟨e0, e1, e2, fun p hp2 => ?_⟩; rcases Nat.lt_or_ge p q with h9 | h9; (exact hp p h9); obtain rfl : p = q := (by omega); exact ⟨by assumption, fun h => by first | assumption | (exfalso; have h8 := (by assumption : ov = false); rw [h8] at h; cases h)⟩)
      · first | exact h31 | (intro _; first | exact growA hle (by omega) (by assumption) (fun h => by first | rfl | exact absurd (h.symm.trans (show _ = false by assumption)) (by decide)) | exact growC hle (by omega) (by assumption) (by first | rfl | assumption))
     have hn212 : nth sn3 ((nth (nextsL x.l k) q).toNat) = true := (Bool.not_eq_false' _).mp hb212
     refine wl_val h211 (r_move rfl rfl) (wanted_yes h211.fr rfl rfl rfl rfl hb212) rfl rfl fun a247 h247 => ?_; clear h211
     refine wl_val h247 (r_move rfl rfl) (wanted_yes h247.fr rfl rfl rfl rfl hb212) rfl rfl fun a248 h248 => ?_; clear h247
     rcases Bool.eq_false_or_eq_true ov with hb249 | hb249
     ·
      skip
      refine wl_val h248 (r_move rfl rfl) (wanted_yes h248.fr rfl rfl rfl rfl hb249) rfl rfl fun a250 h250 => ?_; clear h248
      refine wl_val h250 (r_move rfl rfl) (wanted_yes h250.fr rfl rfl rfl rfl hb249) rfl rfl fun a251 h251 => ?_; clear h250
      have hl252 : my3.length ≤ 140737488355328 := (h251.sh.own 3 rfl).len
      refine wl_val h251 (r_ixI (s := (⟨v9, my3⟩ : Ls Bool)) (q := nth (nextsL x.l k) q) sl_66 ti_4 rfl rfl rfl (fun w h => (h.own 3 rfl)) (show 0 ≤ nth (nextsL x.l k) q ∧ nth (nextsL x.l k) q < my3.length from (by omega))) (wanted_yes h251.fr rfl rfl rfl rfl hb249) rfl rfl fun a253 h253 => ?_; clear h251
      refine wl_val h253 (r_lde (s := (⟨v9, my3⟩ : Ls Bool)) (i := (nth (nextsL x.l k) q).toNat) (v := .bool (nth my3 ((nth (nextsL x.l k) q).toNat))) ti_4 rfl rfl rfl (fun w h => (h.own 3 rfl)) (show (nth (nextsL x.l k) q).toNat < my3.length from (by omega)) (Nat.le_of_ble_eq_true rfl) rfl) (wanted_yes h253.fr rfl rfl rfl rfl hb249) rfl rfl fun a254 h254 => ?_; clear h253
      refine wl_val h254 (r_not rfl rfl) (wanted_yes h254.fr rfl rfl rfl rfl hb249) rfl rfl fun a255 h255 => ?_; clear h254
      refine wl_val h255 (r_pickT rfl rfl hb249 rfl) (wanted_yes h255.fr rfl rfl rfl rfl hb212) rfl rfl fun a256 h256 => ?_; clear h255
      refine wv h256 (r_pickF rfl rfl hb212 rfl) rfl rfl fun a257 h257 => ?_; clear h256
      refine wpList_nil (hK205 _ _ ?_)
      refine x_cond h257 rfl (fun hb258 => ?_) (fun hb258 => ?_)
      ·
       have hn258 : nth my3 ((nth (nextsL x.l k) q).toNat) = false := (Bool.not_eq_true' _).mp hb258
       refine wp_seq_k fun K259 hK259 => wp_region_lit ?_
       refine wms 2 h257 rfl fun a260 h260 => ?_; clear h257
       refine wv h260 (r_ixI (s := (⟨v15, sn3⟩ : Ls Bool)) (q := nth (nextsL x.l k) q) sl_66 ti_4 rfl rfl rfl (fun w h => (h.own 2 rfl)) (show 0 ≤ nth (nextsL x.l k) q ∧ nth (nextsL x.l k) q < sn3.length from (by omega))) rfl rfl fun a261 h261 => ?_; clear h260
       refine wl_ex (x_ste (r := 2) (i := (nth (nextsL x.l k) q).toNat) (j := 0) (x' := (true : Bool)) h261 ti_4 rfl rfl rfl rfl rfl (show (nth (nextsL x.l k) q).toNat < sn3.length from (by omega)) (Nat.le_of_ble_eq_true rfl) rfl rfl rfl (by intro q hq; obtain rfl : q = 0 := (by omega); rfl) (fun w h => Flat.inner _ _) (fun b hb => (Flat.on _ _ hb).elim)) (wanted_none rfl _) ?_
       rintro a262 w262 h262
       clear h261
       refine wms 1 h262 rfl fun a263 h263 => ?_; clear h262
       refine wpList_nil (hK259 _ _ ?_)
       refine wp_region_lit ?_
       refine wms 4 h263 rfl fun a264 h264 => ?_; clear h263
       refine wv h264 (r_ixI (s := (⟨v9, my3⟩ : Ls Bool)) (q := nth (nextsL x.l k) q) sl_66 ti_4 rfl rfl rfl (fun w h => (h.own 3 rfl)) (show 0 ≤ nth (nextsL x.l k) q ∧ nth (nextsL x.l k) q < my3.length from (by omega))) rfl rfl fun a265 h265 => ?_; clear h264
       refine wv h265 (r_lde (s := (⟨v9, my3⟩ : Ls Bool)) (i := (nth (nextsL x.l k) q).toNat) (v := .bool (nth my3 ((nth (nextsL x.l k) q).toNat))) ti_4 rfl rfl rfl (fun w h => (h.own 3 rfl)) (show (nth (nextsL x.l k) q).toNat < my3.length from (by omega)) (Nat.le_of_ble_eq_true rfl) rfl) rfl rfl fun a266 h266 => ?_; clear h265
       refine wms 1 h266 rfl fun a267 h267 => ?_; clear h266
       refine wl_val h267 (r_move rfl rfl) (wanted_yes h267.fr rfl rfl rfl rfl hn258) rfl rfl fun a268 h268 => ?_; clear h267
       refine wv h268 (r_pickF rfl rfl hn258 rfl) rfl rfl fun a269 h269 => ?_; clear h268
       refine wv h269 (r_ixI (s := (⟨v9, my3⟩ : Ls Bool)) (q := nth (nextsL x.l k) q) sl_66 ti_4 rfl rfl rfl (fun w h => (h.own 3 rfl)) (show 0 ≤ nth (nextsL x.l k) q ∧ nth (nextsL x.l k) q < my3.length from (by omega))) rfl rfl fun a270 h270 => ?_; clear h269
       refine wl_ex (x_ste (r := 3) (i := (nth (nextsL x.l k) q).toNat) (j := 0) (x' := (ov : Bool)) h270 ti_4 rfl rfl rfl rfl rfl (show (nth (nextsL x.l k) q).toNat < my3.length from (by omega)) (Nat.le_of_ble_eq_true rfl) rfl rfl rfl (by intro q hq; obtain rfl : q = 0 := (by omega); rfl) (fun w h => Flat.inner _ _) (fun b hb => (Flat.on _ _ hb).elim)) (wanted_none rfl _) ?_
       rintro a271 w271 h271
       clear h270
       refine wpList_nil (hK200 _ _ ?_)
       have h272 : St 95 (fun _ => False) W a271 w271 [(0, x.v), (3, v9), (4, v15), (5, .bool true), (8, .bool ov), (22, x.v), (23, .int .i64 ((x.l.length : Nat) : Int)), (24, .int .i64 ((k : Nat) : Int)), (58, s191.v), (59, .int .i64 (((nextsL x.l k).length : Nat) : Int)), (60, .int .i64 ((q : Nat) : Int))] [.own 3 (⟨s191.v, nextsL x.l k⟩ : Ls Int), .blk b45 73 [.int .i64 ((nth x.l k).op), .int .i64 ((nth x.l k).a), .int .i64 ((nth x.l k).b), .int .i64 ((nth x.l k).c)], .own 4 (⟨v15, sn3.set ((nth (nextsL x.l k) q).toNat) true⟩ : Ls Bool), .own 4 (⟨v9, my3.set ((nth (nextsL x.l k) q).toNat) ov⟩ : Ls Bool), .at_ x] := h271.nrm ⟨rfl, rfl, rfl, rfl, rfl, rfl, rfl, rfl, rfl, rfl, rfl, trivial⟩ [0, 1, 2, 3, 4] (by decide) ⟨rfl, rfl, rfl, rfl, rfl, trivial⟩
       clear h271
       refine wp_region_lit ?_
       refine wv h272 (r_addN (p := q) (q := 1) rfl rfl rfl (show q + 1 < 9223372036854775808 from (by omega))) rfl rfl fun a273 h273 => ?_; clear h272
       refine wms 1 h273 rfl fun a274 h274 => ?_; clear h273
       refine wpList_nil ?_
       refine x_again ⟨_, ?_, q + 1, sn3.set ((nth (nextsL x.l k) q).toNat) true, my3.set ((nth (nextsL x.l k) q).toNat) ov, true, ov, ?_, ?_, ?_, ?_, ?_, h274.nrm ⟨rfl, rfl, rfl, rfl, rfl, rfl, rfl, rfl, rfl, rfl, rfl, trivial⟩ [0, 1, 2, 3, 4] (by decide) ⟨rfl, rfl, rfl, rfl, rfl, trivial⟩, rfl⟩
       · rw [hm195]; first | omega | (simp only [List.length_append, List.length_cons, List.length_nil, List.length_set, List.length_replicate, List.length_map, List.length_range]; omega)
       · omega
       · first | exact hdi3 | exact (hdi3.setS (by omega) hre).setM (fun h => by first | exact hmay h | exact hdi3.s2 _ (by assumption) | exact hmay (by assumption))
       · exact hov
       · first | (intro h; cases h; done) | (intro h; obtain ⟨e0, e1, e2, hp⟩ := h30 h; refine ⟨e0, e1, e2, fun p hp2 => ?_⟩; rcases Nat.lt_or_ge p q with h9 | h9; (exact hp p h9); obtain rfl : p = q := (by omega); exact ⟨by assumption, fun h => by first | assumption | (exfalso; have h8 := (by assumption : ov = false); rw [h8] at h; cases h)⟩)
       · first | exact h31 | (intro _; first | exact growA hle (by omega) (by assumption) (fun h => by first | rfl | exact absurd (h.symm.trans (show _ = false by assumption)) (by decide)) | exact growC hle (by omega) (by assumption) (by first | rfl | assumption))
      have hn258 : nth my3 ((nth (nextsL x.l k) q).toNat) = true := (Bool.not_eq_false' _).mp hb258
      refine wp_skip ?_
      refine hK200 _ _ ?_
      refine wp_region_lit ?_
      refine wv h257 (r_addN (p := q) (q := 1) rfl rfl rfl (show q + 1 < 9223372036854775808 from (by omega))) rfl rfl fun a275 h275 => ?_; clear h257
      refine wms 1 h275 rfl fun a276 h276 => ?_; clear h275
      refine wpList_nil ?_
      refine x_again ⟨_, ?_, q + 1, sn3, my3, ag3, ov, ?_, ?_, ?_, ?_, ?_, h276.nrm ⟨rfl, rfl, rfl, rfl, rfl, rfl, rfl, rfl, rfl, rfl, rfl, trivial⟩ [0, 1, 2, 3, 4] (by decide) ⟨rfl, rfl, rfl, rfl, rfl, trivial⟩, rfl⟩
      · rw [hm195]; first | omega | (simp only [List.length_append, List.length_cons, List.length_nil, List.length_set, List.length_replicate, List.length_map, List.length_range]; omega)
      · omega
      · first | exact hdi3 | exact (hdi3.setS (by omega) hre).setM (fun h => by first | exact hmay h | exact hdi3.s2 _ (by assumption) | exact hmay (by assumption))
      · exact hov
      · first | (intro h; cases h; done) | (intro h; obtain ⟨e0, e1, e2, hp⟩ := h30 h; refine ⟨e0, e1, e2, fun p hp2 => ?_⟩; rcases Nat.lt_or_ge p q with h9 | h9; (exact hp p h9); obtain rfl : p = q := (by omega); exact ⟨by assumption, fun h => by first | assumption | (exfalso; have h8 := (by assumption : ov = false); rw [h8] at h; cases h)⟩)
      · first | exact h31 | (intro _; first | exact growA hle (by omega) (by assumption) (fun h => by first | rfl | exact absurd (h.symm.trans (show _ = false by assumption)) (by decide)) | exact growC hle (by omega) (by assumption) (by first | rfl | assumption))
     refine wl_skip h248 (wanted_no h248.fr rfl rfl rfl rfl hb249) rfl rfl fun a277 h277 => ?_; clear h248
     refine wl_skip h277 (wanted_no h277.fr rfl rfl rfl rfl hb249) rfl rfl fun a278 h278 => ?_; clear h277
     refine wl_skip h278 (wanted_no h278.fr rfl rfl rfl rfl hb249) rfl rfl fun a279 h279 => ?_; clear h278
     refine wl_skip h279 (wanted_no h279.fr rfl rfl rfl rfl hb249) rfl rfl fun a280 h280 => ?_; clear h279
     refine wl_skip h280 (wanted_no h280.fr rfl rfl rfl rfl hb249) rfl rfl fun a281 h281 => ?_; clear h280
     refine wl_val h281 (r_pickF rfl rfl hb249 rfl) (wanted_yes h281.fr rfl rfl rfl rfl hb212) rfl rfl fun a282 h282 => ?_; clear h281
     refine wv h282 (r_pickF rfl rfl hb212 rfl) rfl rfl fun a283 h283 => ?_; clear h282
     refine wpList_nil (hK205 _ _ ?_)
     refine x_condF h283 rfl rfl ?_
     refine wp_skip ?_
     refine hK200 _ _ ?_
     refine wp_region_lit ?_
     refine wv h283 (r_addN (p := q) (q := 1) rfl rfl rfl (show q + 1 < 9223372036854775808 from (by omega))) rfl rfl fun a284 h284 => ?_; clear h283
     refine wms 1 h284 rfl fun a285 h285 => ?_; clear h284
     refine wpList_nil ?_
     refine x_again ⟨_, ?_, q + 1, sn3, my3, ag3, ov, ?_, ?_, ?_, ?_, ?_, h285.nrm ⟨rfl, rfl, rfl, rfl, rfl, rfl, rfl, rfl, rfl, rfl, rfl, trivial⟩ [0, 1, 2, 3, 4] (by decide) ⟨rfl, rfl, rfl, rfl, rfl, trivial⟩, rfl⟩
     · rw [hm195]; first | omega | (simp only [List.length_append, List.length_cons, List.length_nil, List.length_set, List.length_replicate, List.length_map, List.length_range]; omega)
     · omega
     · first | exact hdi3 | exact (hdi3.setS (by omega) hre).setM (fun h => by first | exact hmay h | exact hdi3.s2 _ (by assumption) | exact hmay (by assumption))
     · exact hov
     · first | (intro h; cases h; done) | (intro h; obtain ⟨e0, e1, e2, hp⟩ := h30 h; refine ⟨e0, e1, e2, fun p hp2 => ?_⟩; rcases Nat.lt_or_ge p q with h9 | h9; (exact hp p h9); obtain rfl : p = q := (by omega); exact ⟨by assumption, fun h => by first | assumption | (exfalso; have h8 := (by assumption : ov = false); rw [h8] at h; cases h)⟩)
     · first | exact h31 | (intro _; first | exact growA hle (by omega) (by assumption) (fun h => by first | rfl | exact absurd (h.symm.trans (show _ = false by assumption)) (by decide)) | exact growC hle (by omega) (by assumption) (by first | rfl | assumption))
    have hp199 : ¬ (q < (nextsL x.l k).length) := of_decide_eq_false hb199
    refine wp_exit ?_
    refine hK40 _ _ ?_
    refine wp_region_lit ?_
    refine wv h197 (r_addN (p := k) (q := 1) rfl rfl rfl (show k + 1 < 9223372036854775808 from (by omega))) rfl rfl fun a286 h286 => ?_; clear h197
    refine wms 1 h286 rfl fun a287 h287 => ?_; clear h286
    refine wpList_nil ?_
    refine x_again ⟨_, ?_, k + 1, sn3, my3, ag3, ?_, ?_, ?_, ?_, h287.nrm ⟨rfl, rfl, rfl, rfl, rfl, rfl, rfl, trivial⟩ [2, 3, 4] (by decide) ⟨rfl, rfl, rfl, trivial⟩, rfl⟩
    · rw [hm35]; first | omega | (simp only [List.length_append, List.length_cons, List.length_nil, List.length_set, List.length_replicate, List.length_map, List.length_range]; omega)
    · omega
    · first | exact hdi3 | exact hdi2
    · first | exact dq_close hov h20 h30 (by omega) | exact dq_skip h20 (by assumption)
    · first | exact h31 | exact h21
   have hp176 : ¬ ((nth x.l k).op = 12) := of_decide_eq_false hb176
   refine wl_val h175 (r_fieldB (r := 0) fl_73_0 rfl rfl rfl) (wanted_yes h175.fr rfl rfl rfl rfl hb176) rfl rfl fun a288 h288 => ?_; clear h175
   refine wl_val h288 (r_ldb (i := 0) ti_3 rfl rfl rfl rfl) (wanted_yes h288.fr rfl rfl rfl rfl hb176) rfl rfl fun a289 h289 => ?_; clear h288
   refine wl_val h289 (r_eqlI (p := (nth x.l k).op) (q := 13) rfl rfl rfl) (wanted_yes h289.fr rfl rfl rfl rfl hb176) rfl rfl fun a290 h290 => ?_; clear h289
   refine wv h290 (r_pickF rfl rfl hb176 rfl) rfl rfl fun a291 h291 => ?_; clear h290
   refine wms 1 h291 rfl fun a292 h292 => ?_; clear h291
   rcases Bool.eq_false_or_eq_true (decide ((nth x.l k).op = 13)) with hb293 | hb293
   ·
    have hp293 : (nth x.l k).op = 13 := of_decide_eq_true hb293
    refine wl_skip h292 (wanted_no h292.fr rfl rfl rfl rfl hb293) rfl rfl fun a294 h294 => ?_; clear h292
    refine wl_skip h294 (wanted_no h294.fr rfl rfl rfl rfl hb293) rfl rfl fun a295 h295 => ?_; clear h294
    refine wl_skip h295 (wanted_no h295.fr rfl rfl rfl rfl hb293) rfl rfl fun a296 h296 => ?_; clear h295
    refine wv h296 (r_pickT rfl rfl hb293 rfl) rfl rfl fun a297 h297 => ?_; clear h296
    refine wms 1 h297 rfl fun a298 h298 => ?_; clear h297
    refine wpList_nil (hK171 _ _ ?_)
    have h299 : St 95 (fun _ => False) W a298 w68 [(0, x.v), (3, v9), (4, v15), (5, .bool ag2), (6, .int .i64 ((k : Nat) : Int)), (8, .bool (nth my2 k)), (22, x.v), (23, .int .i64 ((x.l.length : Nat) : Int)), (24, .int .i64 ((k : Nat) : Int)), (42, .bool true)] [.blk b45 73 [.int .i64 ((nth x.l k).op), .int .i64 ((nth x.l k).a), .int .i64 ((nth x.l k).b), .int .i64 ((nth x.l k).c)], .own 4 (⟨v15, sn2⟩ : Ls Bool), .own 4 (⟨v9, my2⟩ : Ls Bool), .at_ x] := h298.nrm ⟨rfl, rfl, rfl, rfl, rfl, rfl, rfl, rfl, rfl, rfl, trivial⟩ [0, 1, 2, 3] (by decide) ⟨rfl, rfl, rfl, rfl, trivial⟩
    clear h298
    refine x_condT h299 rfl rfl ?_
    refine wp_region_lit ?_
    refine wms 1 h299 rfl fun a300 h300 => ?_; clear h299
    refine wpList_nil (hK64 _ _ ?_)
    refine wp_seq_k fun K301 hK301 => wp_region_lit ?_
    refine wms 2 h300 rfl fun a302 h302 => ?_; clear h300
    refine wl_ex (x_call h302 bd_81 rfl rfl rfl rfl rfl (nexts_c x k _ (h302.sh.at 3 rfl) (by omega) (by omega))) (wanted_none rfl _) ?_
    rintro a303 w303 ⟨_, ⟨s303, rfl, hs303⟩, hf303⟩
    have h303 := (⟨hf303, h302.sh.call hs303 (by intro A hA b hb; first | (simp at hA; done) | (simp at hA; subst hA; first | exact Flat.noRd hb | exact (hb : False).elim) | (simp at hA; rcases hA with rfl | rfl <;> first | exact Flat.noRd hb | exact (hb : False).elim))⟩ : St 95 (fun _ => False) W a303 w303 _ _)
    clear hf303 hs303
    clear h302
    have hl304 : (nextsL x.l k).length ≤ 140737488355328 := (h303.sh.own 0 rfl).len
    refine wv h303 (r_len (s := (⟨s303.v, nextsL x.l k⟩ : Ls Int)) (n := (nextsL x.l k).length) sl_24 rfl rfl (fun w h => (h.own 0 rfl)) rfl) rfl rfl fun a305 h305 => ?_; clear h303
    refine wms 1 h305 rfl fun a306 h306 => ?_; clear h305
    refine wpList_nil (hK301 _ _ ?_)
    refine wp_block ?_
    have hn2 := nexts_len x.l k
    refine x_loop (fun m a w => ∃ (q : Nat) (sn3 my3 : List Bool) (ag3 ov : Bool), (q ≤ (nextsL x.l k).length) ∧ (DI x.l sn3 my3) ∧ (ov = outB (nth x.l k) (nth my2 k)) ∧ (ag3 = false → ag2 = false ∧ sn3 = sn2 ∧ my3 = my2 ∧ ∀ p, p < q → nth sn3 (nth (nextsL x.l k) p).toNat = true ∧ (ov = true → nth my3 (nth (nextsL x.l k) p).toNat = true)) ∧ (ag3 = true → cntB sn + cntB my < cntB sn3 + cntB my3) ∧ St 95 (fun _ => False) W a w [(0, x.v), (3, v9), (4, v15), (5, .bool ag3), (8, .bool ov), (22, x.v), (23, .int .i64 ((x.l.length : Nat) : Int)), (24, .int .i64 ((k : Nat) : Int)), (58, s303.v), (59, .int .i64 (((nextsL x.l k).length : Nat) : Int)), (60, .int .i64 ((q : Nat) : Int))] [.own 3 (⟨s303.v, nextsL x.l k⟩ : Ls Int), .blk b45 73 [.int .i64 ((nth x.l k).op), .int .i64 ((nth x.l k).a), .int .i64 ((nth x.l k).b), .int .i64 ((nth x.l k).c)], .own 4 (⟨v15, sn3⟩ : Ls Bool), .own 4 (⟨v9, my3⟩ : Ls Bool), .at_ x] ∧ m = (nextsL x.l k).length - q) ⟨_, 0, sn2, my2, ag2, false, (by omega), (hdi2), (by first | exact outB_w (by assumption) | exact outB_e (by assumption) (by omega) | exact outB_p (by assumption) (by omega)), (fun h => ⟨h, rfl, rfl, fun p hp => absurd hp (by omega)⟩), (h21), h306.nrm ⟨rfl, rfl, rfl, rfl, rfl, rfl, rfl, rfl, rfl, rfl, rfl, trivial⟩ [0, 1, 2, 3, 4] (by decide) ⟨rfl, rfl, rfl, rfl, rfl, trivial⟩, rfl⟩ ?_
    clear h306
    rintro m307 a307 w307 ⟨q, sn3, my3, ag3, ov, hq, hdi3, hov, h30, h31, h307, hm307⟩
    have hd5 := hdi3.l1
    have hd6 := hdi3.l2
    have hle := dq_le h20 h30 h31
    refine wp_seq_k fun K308 hK308 => wp_region_lit ?_
    refine wv h307 (r_lssN (p := q) (q := (nextsL x.l k).length) rfl rfl rfl) rfl rfl fun a309 h309 => ?_; clear h307
    refine wpList_nil (hK308 _ _ ?_)
    refine wp_seq_k fun K310 hK310 => ?_
    refine x_cond h309 rfl (fun hb311 => ?_) (fun hb311 => ?_)
    ·
     have hp311 : q < (nextsL x.l k).length := of_decide_eq_true hb311
     refine wp_skip ?_
     refine hK310 _ _ ?_
     refine wp_seq_k fun K312 hK312 => ?_
     refine wp_block ?_
     refine wp_seq_k fun K313 hK313 => wp_region_lit ?_
     refine wv h309 (r_ixN (s := (⟨s303.v, nextsL x.l k⟩ : Ls Int)) (q := q) sl_24 ti_3 rfl rfl rfl (fun w h => (h.own 0 rfl)) (show q < (nextsL x.l k).length from (by omega))) rfl rfl fun a314 h314 => ?_; clear h309
     refine wv h314 (r_lde (s := (⟨s303.v, nextsL x.l k⟩ : Ls Int)) (i := q) (v := .int .i64 (nth (nextsL x.l k) q)) ti_3 rfl rfl rfl (fun w h => (h.own 0 rfl)) (show q < (nextsL x.l k).length from (by omega)) (Nat.le_of_ble_eq_true rfl) rfl) rfl rfl fun a315 h315 => ?_; clear h314
     refine wms 1 h315 rfl fun a316 h316 => ?_; clear h315
     refine wpList_nil (hK313 _ _ ?_)
     have hmm : nth (nextsL x.l k) q ∈ nextsL x.l k := nth_mem _ _ (by omega)
     have hnx := nexts_ok hj (by omega) hmm
     have hre := ReachI.step k _ (hdi2.s1 k (by assumption)) (by omega) hmm
     have hmay : ov = true → MayI x.l (nth (nextsL x.l k) q).toNat := fun h => may_of (hdi2.s1 k (by assumption)) (by omega) (hdi2.s2 k) (by rw [← hov]; exact h) hmm
     refine wp_seq_k fun K317 hK317 => wp_region_lit ?_
     refine wms 2 h316 rfl fun a318 h318 => ?_; clear h316
     have hl319 : sn3.length ≤ 140737488355328 := (h318.sh.own 2 rfl).len
     refine wv h318 (r_ixI (s := (⟨v15, sn3⟩ : Ls Bool)) (q := nth (nextsL x.l k) q) sl_66 ti_4 rfl rfl rfl (fun w h => (h.own 2 rfl)) (show 0 ≤ nth (nextsL x.l k) q ∧ nth (nextsL x.l k) q < sn3.length from (by omega))) rfl rfl fun a320 h320 => ?_; clear h318
     refine wv h320 (r_lde (s := (⟨v15, sn3⟩ : Ls Bool)) (i := (nth (nextsL x.l k) q).toNat) (v := .bool (nth sn3 ((nth (nextsL x.l k) q).toNat))) ti_4 rfl rfl rfl (fun w h => (h.own 2 rfl)) (show (nth (nextsL x.l k) q).toNat < sn3.length from (by omega)) (Nat.le_of_ble_eq_true rfl) rfl) rfl rfl fun a321 h321 => ?_; clear h320
     refine wv h321 (r_not rfl rfl) rfl rfl fun a322 h322 => ?_; clear h321
     refine wms 1 h322 rfl fun a323 h323 => ?_; clear h322
     rcases Bool.eq_false_or_eq_true (!(nth sn3 ((nth (nextsL x.l k) q).toNat))) with hb324 | hb324
     ·
      have hn324 : nth sn3 ((nth (nextsL x.l k) q).toNat) = false := (Bool.not_eq_true' _).mp hb324
      refine wl_skip h323 (wanted_no h323.fr rfl rfl rfl rfl hb324) rfl rfl fun a325 h325 => ?_; clear h323
      refine wl_skip h325 (wanted_no h325.fr rfl rfl rfl rfl hb324) rfl rfl fun a326 h326 => ?_; clear h325
      refine wl_skip h326 (wanted_no2 h326.fr rfl rfl rfl rfl) rfl rfl fun a327 h327 => ?_; clear h326
      refine wl_skip h327 (wanted_no2 h327.fr rfl rfl rfl rfl) rfl rfl fun a328 h328 => ?_; clear h327
      refine wl_skip h328 (wanted_no2 h328.fr rfl rfl rfl rfl) rfl rfl fun a329 h329 => ?_; clear h328
      refine wl_skip h329 (wanted_no2 h329.fr rfl rfl rfl rfl) rfl rfl fun a330 h330 => ?_; clear h329
      refine wl_skip h330 (wanted_no2 h330.fr rfl rfl rfl rfl) rfl rfl fun a331 h331 => ?_; clear h330
      refine wl_skip h331 (wanted_no h331.fr rfl rfl rfl rfl hb324) rfl rfl fun a332 h332 => ?_; clear h331
      refine wv h332 (r_pickT rfl rfl hb324 rfl) rfl rfl fun a333 h333 => ?_; clear h332
      refine wpList_nil (hK317 _ _ ?_)
      refine x_condT h333 rfl rfl ?_
      refine wp_seq_k fun K334 hK334 => wp_region_lit ?_
      refine wms 2 h333 rfl fun a335 h335 => ?_; clear h333
      refine wv h335 (r_ixI (s := (⟨v15, sn3⟩ : Ls Bool)) (q := nth (nextsL x.l k) q) sl_66 ti_4 rfl rfl rfl (fun w h => (h.own 2 rfl)) (show 0 ≤ nth (nextsL x.l k) q ∧ nth (nextsL x.l k) q < sn3.length from (by omega))) rfl rfl fun a336 h336 => ?_; clear h335
      refine wl_ex (x_ste (r := 2) (i := (nth (nextsL x.l k) q).toNat) (j := 0) (x' := (true : Bool)) h336 ti_4 rfl rfl rfl rfl rfl (show (nth (nextsL x.l k) q).toNat < sn3.length from (by omega)) (Nat.le_of_ble_eq_true rfl) rfl rfl rfl (by intro q hq; obtain rfl : q = 0 := (by omega); rfl) (fun w h => Flat.inner _ _) (fun b hb => (Flat.on _ _ hb).elim)) (wanted_none rfl _) ?_
      rintro a337 w337 h337
      clear h336
      refine wms 1 h337 rfl fun a338 h338 => ?_; clear h337
      refine wpList_nil (hK334 _ _ ?_)
      refine wp_region_lit ?_
      refine wms 4 h338 rfl fun a339 h339 => ?_; clear h338
      have hl340 : my3.length ≤ 140737488355328 := (h339.sh.own 3 rfl).len
      refine wv h339 (r_ixI (s := (⟨v9, my3⟩ : Ls Bool)) (q := nth (nextsL x.l k) q) sl_66 ti_4 rfl rfl rfl (fun w h => (h.own 3 rfl)) (show 0 ≤ nth (nextsL x.l k) q ∧ nth (nextsL x.l k) q < my3.length from (by omega))) rfl rfl fun a341 h341 => ?_; clear h339
      refine wv h341 (r_lde (s := (⟨v9, my3⟩ : Ls Bool)) (i := (nth (nextsL x.l k) q).toNat) (v := .bool (nth my3 ((nth (nextsL x.l k) q).toNat))) ti_4 rfl rfl rfl (fun w h => (h.own 3 rfl)) (show (nth (nextsL x.l k) q).toNat < my3.length from (by omega)) (Nat.le_of_ble_eq_true rfl) rfl) rfl rfl fun a342 h342 => ?_; clear h341
      refine wms 1 h342 rfl fun a343 h343 => ?_; clear h342
      rcases Bool.eq_false_or_eq_true (nth my3 ((nth (nextsL x.l k) q).toNat)) with hb344 | hb344
      ·
       skip
       refine wl_skip h343 (wanted_no h343.fr rfl rfl rfl rfl hb344) rfl rfl fun a345 h345 => ?_; clear h343
       refine wv h345 (r_pickT rfl rfl hb344 rfl) rfl rfl fun a346 h346 => ?_; clear h345
       refine wv h346 (r_ixI (s := (⟨v9, my3⟩ : Ls Bool)) (q := nth (nextsL x.l k) q) sl_66 ti_4 rfl rfl rfl (fun w h => (h.own 3 rfl)) (show 0 ≤ nth (nextsL x.l k) q ∧ nth (nextsL x.l k) q < my3.length from (by omega))) rfl rfl fun a347 h347 => ?_; clear h346
       refine wl_ex (x_ste (r := 3) (i := (nth (nextsL x.l k) q).toNat) (j := 0) (x' := (true : Bool)) h347 ti_4 rfl rfl rfl rfl rfl (show (nth (nextsL x.l k) q).toNat < my3.length from (by omega)) (Nat.le_of_ble_eq_true rfl) rfl rfl rfl (by intro q hq; obtain rfl : q = 0 := (by omega); rfl) (fun w h => Flat.inner _ _) (fun b hb => (Flat.on _ _ hb).elim)) (wanted_none rfl _) ?_
       rintro a348 w348 h348
       clear h347
       refine wpList_nil (hK312 _ _ ?_)
       have h349 : St 95 (fun _ => False) W a348 w348 [(0, x.v), (3, v9), (4, v15), (5, .bool true), (8, .bool ov), (22, x.v), (23, .int .i64 ((x.l.length : Nat) : Int)), (24, .int .i64 ((k : Nat) : Int)), (58, s303.v), (59, .int .i64 (((nextsL x.l k).length : Nat) : Int)), (60, .int .i64 ((q : Nat) : Int))] [.own 3 (⟨s303.v, nextsL x.l k⟩ : Ls Int), .blk b45 73 [.int .i64 ((nth x.l k).op), .int .i64 ((nth x.l k).a), .int .i64 ((nth x.l k).b), .int .i64 ((nth x.l k).c)], .own 4 (⟨v15, sn3.set ((nth (nextsL x.l k) q).toNat) true⟩ : Ls Bool), .own 4 (⟨v9, my3.set ((nth (nextsL x.l k) q).toNat) true⟩ : Ls Bool), .at_ x] := h348.nrm ⟨rfl, rfl, rfl, rfl, rfl, rfl, rfl, rfl, rfl, rfl, rfl, trivial⟩ [0, 1, 2, 3, 4] (by decide) ⟨rfl, rfl, rfl, rfl, rfl, trivial⟩
       clear h348
       refine wp_region_lit ?_
       refine wv h349 (r_addN (p := q) (q := 1) rfl rfl rfl (show q + 1 < 9223372036854775808 from (by omega))) rfl rfl fun a350 h350 => ?_; clear h349
       refine wms 1 h350 rfl fun a351 h351 => ?_; clear h350
       refine wpList_nil ?_
       refine x_again ⟨_, ?_, q + 1, sn3.set ((nth (nextsL x.l k) q).toNat) true, my3.set ((nth (nextsL x.l k) q).toNat) true, true, ov, ?_, ?_, ?_, ?_, ?_, h351.nrm ⟨rfl, rfl, rfl, rfl, rfl, rfl, rfl, rfl, rfl, rfl, rfl, trivial⟩ [0, 1, 2, 3, 4] (by decide) ⟨rfl, rfl, rfl, rfl, rfl, trivial⟩, rfl⟩
       · rw [hm307]; first | omega | (simp only [List.length_append, List.length_cons, List.length_nil, List.length_set, List.length_replicate, List.length_map, List.length_range]; omega)
       · omega
       · first | exact hdi3 | exact (hdi3.setS (by omega) hre).setM (fun h => by first | exact hmay h | exact hdi3.s2 _ (by assumption) | exact hmay (by assumption))
       · exact hov
       · first | (intro h; cases h; done) | (intro h; obtain ⟨e0, e1, e2, hp⟩ := h30 h; refine ⟨e0, e1, e2, fun p hp2 => ?_⟩; rcases Nat.lt_or_ge p q with h9 | h9; (exact hp p h9); obtain rfl : p = q := (by omega); exact ⟨by assumption, fun h => by first | assumption | (exfalso; have h8 := (by assumption : ov = false); rw [h8] at h; cases h)⟩)
       · first | exact h31 | (intro _; first | exact growA hle (by omega) (by assumption) (fun h => by first | rfl | exact absurd (h.symm.trans (show _ = false by assumption)) (by decide)) | exact growC hle (by omega) (by assumption) (by first | rfl | assumption))
      refine wl_val h343 (r_move rfl rfl) (wanted_yes h343.fr rfl rfl rfl rfl hb344) rfl rfl fun a352 h352 => ?_; clear h343
      refine wv h352 (r_pickF rfl rfl hb344 rfl) rfl rfl fun a353 h353 => ?_; clear h352
      refine wv h353 (r_ixI (s := (⟨v9, my3⟩ : Ls Bool)) (q := nth (nextsL x.l k) q) sl_66 ti_4 rfl rfl rfl (fun w h => (h.own 3 rfl)) (show 0 ≤ nth (nextsL x.l k) q ∧ nth (nextsL x.l k) q < my3.length from (by omega))) rfl rfl fun a354 h354 => ?_; clear h353
      refine wl_ex (x_ste (r := 3) (i := (nth (nextsL x.l k) q).toNat) (j := 0) (x' := (ov : Bool)) h354 ti_4 rfl rfl rfl rfl rfl (show (nth (nextsL x.l k) q).toNat < my3.length from (by omega)) (Nat.le_of_ble_eq_true rfl) rfl rfl rfl (by intro q hq; obtain rfl : q = 0 := (by omega); rfl) (fun w h => Flat.inner _ _) (fun b hb => (Flat.on _ _ hb).elim)) (wanted_none rfl _) ?_
      rintro a355 w355 h355
      clear h354
      refine wpList_nil (hK312 _ _ ?_)
      have h356 : St 95 (fun _ => False) W a355 w355 [(0, x.v), (3, v9), (4, v15), (5, .bool true), (8, .bool ov), (22, x.v), (23, .int .i64 ((x.l.length : Nat) : Int)), (24, .int .i64 ((k : Nat) : Int)), (58, s303.v), (59, .int .i64 (((nextsL x.l k).length : Nat) : Int)), (60, .int .i64 ((q : Nat) : Int))] [.own 3 (⟨s303.v, nextsL x.l k⟩ : Ls Int), .blk b45 73 [.int .i64 ((nth x.l k).op), .int .i64 ((nth x.l k).a), .int .i64 ((nth x.l k).b), .int .i64 ((nth x.l k).c)], .own 4 (⟨v15, sn3.set ((nth (nextsL x.l k) q).toNat) true⟩ : Ls Bool), .own 4 (⟨v9, my3.set ((nth (nextsL x.l k) q).toNat) ov⟩ : Ls Bool), .at_ x] := h355.nrm ⟨rfl, rfl, rfl, rfl, rfl, rfl, rfl, rfl, rfl, rfl, rfl, trivial⟩ [0, 1, 2, 3, 4] (by decide) ⟨rfl, rfl, rfl, rfl, rfl, trivial⟩
      clear h355
      refine wp_region_lit ?_
      refine wv h356 (r_addN (p := q) (q := 1) rfl rfl rfl (show q + 1 < 9223372036854775808 from (by omega))) rfl rfl fun a357 h357 => ?_; clear h356
      refine wms 1 h357 rfl fun a358 h358 => ?_; clear h357
      refine wpList_nil ?_
      refine x_again ⟨_, ?_, q + 1, sn3.set ((nth (nextsL x.l k) q).toNat) true, my3.set ((nth (nextsL x.l k) q).toNat) ov, true, ov, ?_, ?_, ?_, ?_, ?_, h358.nrm ⟨rfl, rfl, rfl, rfl, rfl, rfl, rfl, rfl, rfl, rfl, rfl, trivial⟩ [0, 1, 2, 3, 4] (by decide) ⟨rfl, rfl, rfl, rfl, rfl, trivial⟩, rfl⟩
      · rw [hm307]; first | omega | (simp only [List.length_append, List.length_cons, List.length_nil, List.length_set, List.length_replicate, List.length_map, List.length_range]; omega)
      · omega
      · first | exact hdi3 | exact (hdi3.setS (by omega) hre).setM (fun h => by first | exact hmay h | exact hdi3.s2 _ (by assumption) | exact hmay (by assumption))
      · exact hov
      · first | (intro h; cases h; done) | (intro h; obtain ⟨e0, e1, e2, hp⟩ := h30 h; refine ⟨e0, e1, e2, fun p hp2 => ?_⟩; rcases Nat.lt_or_ge p q with h9 | h9; (exact hp p h9); obtain rfl : p = q := (by omega); exact ⟨by assumption, fun h => by first | assumption | (exfalso; have h8 := (by assumption : ov = false); rw [h8] at h; cases h)⟩)
      · first | exact h31 | (intro _; first | exact growA hle (by omega) (by assumption) (fun h => by first | rfl | exact absurd (h.symm.trans (show _ = false by assumption)) (by decide)) | exact growC hle (by omega) (by assumption) (by first | rfl | assumption))
     have hn324 : nth sn3 ((nth (nextsL x.l k) q).toNat) = true := (Bool.not_eq_false' _).mp hb324
     refine wl_val h323 (r_move rfl rfl) (wanted_yes h323.fr rfl rfl rfl rfl hb324) rfl rfl fun a359 h359 => ?_; clear h323
     refine wl_val h359 (r_move rfl rfl) (wanted_yes h359.fr rfl rfl rfl rfl hb324) rfl rfl fun a360 h360 => ?_; clear h359
     rcases Bool.eq_false_or_eq_true ov with hb361 | hb361
     ·
      skip
      refine wl_val h360 (r_move rfl rfl) (wanted_yes h360.fr rfl rfl rfl rfl hb361) rfl rfl fun a362 h362 => ?_; clear h360
      refine wl_val h362 (r_move rfl rfl) (wanted_yes h362.fr rfl rfl rfl rfl hb361) rfl rfl fun a363 h363 => ?_; clear h362
      have hl364 : my3.length ≤ 140737488355328 := (h363.sh.own 3 rfl).len
      refine wl_val h363 (r_ixI (s := (⟨v9, my3⟩ : Ls Bool)) (q := nth (nextsL x.l k) q) sl_66 ti_4 rfl rfl rfl (fun w h => (h.own 3 rfl)) (show 0 ≤ nth (nextsL x.l k) q ∧ nth (nextsL x.l k) q < my3.length from (by omega))) (wanted_yes h363.fr rfl rfl rfl rfl hb361) rfl rfl fun a365 h365 => ?_; clear h363
      refine wl_val h365 (r_lde (s := (⟨v9, my3⟩ : Ls Bool)) (i := (nth (nextsL x.l k) q).toNat) (v := .bool (nth my3 ((nth (nextsL x.l k) q).toNat))) ti_4 rfl rfl rfl (fun w h => (h.own 3 rfl)) (show (nth (nextsL x.l k) q).toNat < my3.length from (by omega)) (Nat.le_of_ble_eq_true rfl) rfl) (wanted_yes h365.fr rfl rfl rfl rfl hb361) rfl rfl fun a366 h366 => ?_; clear h365
      refine wl_val h366 (r_not rfl rfl) (wanted_yes h366.fr rfl rfl rfl rfl hb361) rfl rfl fun a367 h367 => ?_; clear h366
      refine wl_val h367 (r_pickT rfl rfl hb361 rfl) (wanted_yes h367.fr rfl rfl rfl rfl hb324) rfl rfl fun a368 h368 => ?_; clear h367
      refine wv h368 (r_pickF rfl rfl hb324 rfl) rfl rfl fun a369 h369 => ?_; clear h368
      refine wpList_nil (hK317 _ _ ?_)
      refine x_cond h369 rfl (fun hb370 => ?_) (fun hb370 => ?_)
      ·
       have hn370 : nth my3 ((nth (nextsL x.l k) q).toNat) = false := (Bool.not_eq_true' _).mp hb370
       refine wp_seq_k fun K371 hK371 => wp_region_lit ?_
       refine wms 2 h369 rfl fun a372 h372 => ?_; clear h369
       refine wv h372 (r_ixI (s := (⟨v15, sn3⟩ : Ls Bool)) (q := nth (nextsL x.l k) q) sl_66 ti_4 rfl rfl rfl (fun w h => (h.own 2 rfl)) (show 0 ≤ nth (nextsL x.l k) q ∧ nth (nextsL x.l k) q < sn3.length from (by omega))) rfl rfl fun a373 h373 => ?_; clear h372
       refine wl_ex (x_ste (r := 2) (i := (nth (nextsL x.l k) q).toNat) (j := 0) (x' := (true : Bool)) h373 ti_4 rfl rfl rfl rfl rfl (show (nth (nextsL x.l k) q).toNat < sn3.length from (by omega)) (Nat.le_of_ble_eq_true rfl) rfl rfl rfl (by intro q hq; obtain rfl : q = 0 := (by omega); rfl) (fun w h => Flat.inner _ _) (fun b hb => (Flat.on _ _ hb).elim)) (wanted_none rfl _) ?_
       rintro a374 w374 h374
       clear h373
       refine wms 1 h374 rfl fun a375 h375 => ?_; clear h374
       refine wpList_nil (hK371 _ _ ?_)
       refine wp_region_lit ?_
       refine wms 4 h375 rfl fun a376 h376 => ?_; clear h375
       refine wv h376 (r_ixI (s := (⟨v9, my3⟩ : Ls Bool)) (q := nth (nextsL x.l k) q) sl_66 ti_4 rfl rfl rfl (fun w h => (h.own 3 rfl)) (show 0 ≤ nth (nextsL x.l k) q ∧ nth (nextsL x.l k) q < my3.length from (by omega))) rfl rfl fun a377 h377 => ?_; clear h376
       refine wv h377 (r_lde (s := (⟨v9, my3⟩ : Ls Bool)) (i := (nth (nextsL x.l k) q).toNat) (v := .bool (nth my3 ((nth (nextsL x.l k) q).toNat))) ti_4 rfl rfl rfl (fun w h => (h.own 3 rfl)) (show (nth (nextsL x.l k) q).toNat < my3.length from (by omega)) (Nat.le_of_ble_eq_true rfl) rfl) rfl rfl fun a378 h378 => ?_; clear h377
       refine wms 1 h378 rfl fun a379 h379 => ?_; clear h378
       refine wl_val h379 (r_move rfl rfl) (wanted_yes h379.fr rfl rfl rfl rfl hn370) rfl rfl fun a380 h380 => ?_; clear h379
       refine wv h380 (r_pickF rfl rfl hn370 rfl) rfl rfl fun a381 h381 => ?_; clear h380
       refine wv h381 (r_ixI (s := (⟨v9, my3⟩ : Ls Bool)) (q := nth (nextsL x.l k) q) sl_66 ti_4 rfl rfl rfl (fun w h => (h.own 3 rfl)) (show 0 ≤ nth (nextsL x.l k) q ∧ nth (nextsL x.l k) q < my3.length from (by omega))) rfl rfl fun a382 h382 => ?_; clear h381
       refine wl_ex (x_ste (r := 3) (i := (nth (nextsL x.l k) q).toNat) (j := 0) (x' := (ov : Bool)) h382 ti_4 rfl rfl rfl rfl rfl (show (nth (nextsL x.l k) q).toNat < my3.length from (by omega)) (Nat.le_of_ble_eq_true rfl) rfl rfl rfl (by intro q hq; obtain rfl : q = 0 := (by omega); rfl) (fun w h => Flat.inner _ _) (fun b hb => (Flat.on _ _ hb).elim)) (wanted_none rfl _) ?_
       rintro a383 w383 h383
       clear h382
       refine wpList_nil (hK312 _ _ ?_)
       have h384 : St 95 (fun _ => False) W a383 w383 [(0, x.v), (3, v9), (4, v15), (5, .bool true), (8, .bool ov), (22, x.v), (23, .int .i64 ((x.l.length : Nat) : Int)), (24, .int .i64 ((k : Nat) : Int)), (58, s303.v), (59, .int .i64 (((nextsL x.l k).length : Nat) : Int)), (60, .int .i64 ((q : Nat) : Int))] [.own 3 (⟨s303.v, nextsL x.l k⟩ : Ls Int), .blk b45 73 [.int .i64 ((nth x.l k).op), .int .i64 ((nth x.l k).a), .int .i64 ((nth x.l k).b), .int .i64 ((nth x.l k).c)], .own 4 (⟨v15, sn3.set ((nth (nextsL x.l k) q).toNat) true⟩ : Ls Bool), .own 4 (⟨v9, my3.set ((nth (nextsL x.l k) q).toNat) ov⟩ : Ls Bool), .at_ x] := h383.nrm ⟨rfl, rfl, rfl, rfl, rfl, rfl, rfl, rfl, rfl, rfl, rfl, trivial⟩ [0, 1, 2, 3, 4] (by decide) ⟨rfl, rfl, rfl, rfl, rfl, trivial⟩
       clear h383
       refine wp_region_lit ?_
       refine wv h384 (r_addN (p := q) (q := 1) rfl rfl rfl (show q + 1 < 9223372036854775808 from (by omega))) rfl rfl fun a385 h385 => ?_; clear h384
       refine wms 1 h385 rfl fun a386 h386 => ?_; clear h385
       refine wpList_nil ?_
       refine x_again ⟨_, ?_, q + 1, sn3.set ((nth (nextsL x.l k) q).toNat) true, my3.set ((nth (nextsL x.l k) q).toNat) ov, true, ov, ?_, ?_, ?_, ?_, ?_, h386.nrm ⟨rfl, rfl, rfl, rfl, rfl, rfl, rfl, rfl, rfl, rfl, rfl, trivial⟩ [0, 1, 2, 3, 4] (by decide) ⟨rfl, rfl, rfl, rfl, rfl, trivial⟩, rfl⟩
       · rw [hm307]; first | omega | (simp only [List.length_append, List.length_cons, List.length_nil, List.length_set, List.length_replicate, List.length_map, List.length_range]; omega)
       · omega
       · first | exact hdi3 | exact (hdi3.setS (by omega) hre).setM (fun h => by first | exact hmay h | exact hdi3.s2 _ (by assumption) | exact hmay (by assumption))
       · exact hov
       · first | (intro h; cases h; done) | (intro h; obtain ⟨e0, e1, e2, hp⟩ := h30 h; refine ⟨e0, e1, e2, fun p hp2 => ?_⟩; rcases Nat.lt_or_ge p q with h9 | h9; (exact hp p h9); obtain rfl : p = q := (by omega); exact ⟨by assumption, fun h => by first | assumption | (exfalso; have h8 := (by assumption : ov = false); rw [h8] at h; cases h)⟩)
       · first | exact h31 | (intro _; first | exact growA hle (by omega) (by assumption) (fun h => by first | rfl | exact absurd (h.symm.trans (show _ = false by assumption)) (by decide)) | exact growC hle (by omega) (by assumption) (by first | rfl | assumption))
      have hn370 : nth my3 ((nth (nextsL x.l k) q).toNat) = true := (Bool.not_eq_false' _).mp hb370
      refine wp_skip ?_
      refine hK312 _ _ ?_
      refine wp_region_lit ?_
      refine wv h369 (r_addN (p := q) (q := 1) rfl rfl rfl (show q + 1 < 9223372036854775808 from (by omega))) rfl rfl fun a387 h387 => ?_; clear h369
      refine wms 1 h387 rfl fun a388 h388 => ?_; clear h387
      refine wpList_nil ?_
      refine x_again ⟨_, ?_, q + 1, sn3, my3, ag3, ov, ?_, ?_, ?_, ?_, ?_, h388.nrm ⟨rfl, rfl, rfl, rfl, rfl, rfl, rfl, rfl, rfl, rfl, rfl, trivial⟩ [0, 1, 2, 3, 4] (by decide) ⟨rfl, rfl, rfl, rfl, rfl, trivial⟩, rfl⟩
      · rw [hm307]; first | omega | (simp only [List.length_append, List.length_cons, List.length_nil, List.length_set, List.length_replicate, List.length_map, List.length_range]; omega)
      · omega
      · first | exact hdi3 | exact (hdi3.setS (by omega) hre).setM (fun h => by first | exact hmay h | exact hdi3.s2 _ (by assumption) | exact hmay (by assumption))
      · exact hov
      · first | (intro h; cases h; done) | (intro h; obtain ⟨e0, e1, e2, hp⟩ := h30 h; refine ⟨e0, e1, e2, fun p hp2 => ?_⟩; rcases Nat.lt_or_ge p q with h9 | h9; (exact hp p h9); obtain rfl : p = q := (by omega); exact ⟨by assumption, fun h => by first | assumption | (exfalso; have h8 := (by assumption : ov = false); rw [h8] at h; cases h)⟩)
      · first | exact h31 | (intro _; first | exact growA hle (by omega) (by assumption) (fun h => by first | rfl | exact absurd (h.symm.trans (show _ = false by assumption)) (by decide)) | exact growC hle (by omega) (by assumption) (by first | rfl | assumption))
     refine wl_skip h360 (wanted_no h360.fr rfl rfl rfl rfl hb361) rfl rfl fun a389 h389 => ?_; clear h360
     refine wl_skip h389 (wanted_no h389.fr rfl rfl rfl rfl hb361) rfl rfl fun a390 h390 => ?_; clear h389
     refine wl_skip h390 (wanted_no h390.fr rfl rfl rfl rfl hb361) rfl rfl fun a391 h391 => ?_; clear h390
     refine wl_skip h391 (wanted_no h391.fr rfl rfl rfl rfl hb361) rfl rfl fun a392 h392 => ?_; clear h391
     refine wl_skip h392 (wanted_no h392.fr rfl rfl rfl rfl hb361) rfl rfl fun a393 h393 => ?_; clear h392
     refine wl_val h393 (r_pickF rfl rfl hb361 rfl) (wanted_yes h393.fr rfl rfl rfl rfl hb324) rfl rfl fun a394 h394 => ?_; clear h393
     refine wv h394 (r_pickF rfl rfl hb324 rfl) rfl rfl fun a395 h395 => ?_; clear h394
     refine wpList_nil (hK317 _ _ ?_)
     refine x_condF h395 rfl rfl ?_
     refine wp_skip ?_
     refine hK312 _ _ ?_
     refine wp_region_lit ?_
     refine wv h395 (r_addN (p := q) (q := 1) rfl rfl rfl (show q + 1 < 9223372036854775808 from (by omega))) rfl rfl fun a396 h396 => ?_; clear h395
     refine wms 1 h396 rfl fun a397 h397 => ?_; clear h396
     refine wpList_nil ?_
     refine x_again ⟨_, ?_, q + 1, sn3, my3, ag3, ov, ?_, ?_, ?_, ?_, ?_, h397.nrm ⟨rfl, rfl, rfl, rfl, rfl, rfl, rfl, rfl, rfl, rfl, rfl, trivial⟩ [0, 1, 2, 3, 4] (by decide) ⟨rfl, rfl, rfl, rfl, rfl, trivial⟩, rfl⟩
     · rw [hm307]; first | omega | (simp only [List.length_append, List.length_cons, List.length_nil, List.length_set, List.length_replicate, List.length_map, List.length_range]; omega)
     · omega
     · first | exact hdi3 | exact (hdi3.setS (by omega) hre).setM (fun h => by first | exact hmay h | exact hdi3.s2 _ (by assumption) | exact hmay (by assumption))
     · exact hov
     · first | (intro h; cases h; done) | (intro h; obtain ⟨e0, e1, e2, hp⟩ := h30 h; refine ⟨e0, e1, e2, fun p hp2 => ?_⟩; rcases Nat.lt_or_ge p q with h9 | h9; (exact hp p h9); obtain rfl : p = q := (by omega); exact ⟨by assumption, fun h => by first | assumption | (exfalso; have h8 := (by assumption : ov = false); rw [h8] at h; cases h)⟩)
     · first | exact h31 | (intro _; first | exact growA hle (by omega) (by assumption) (fun h => by first | rfl | exact absurd (h.symm.trans (show _ = false by assumption)) (by decide)) | exact growC hle (by omega) (by assumption) (by first | rfl | assumption))
    have hp311 : ¬ (q < (nextsL x.l k).length) := of_decide_eq_false hb311
    refine wp_exit ?_
    refine hK40 _ _ ?_
    refine wp_region_lit ?_
    refine wv h309 (r_addN (p := k) (q := 1) rfl rfl rfl (show k + 1 < 9223372036854775808 from (by omega))) rfl rfl fun a398 h398 => ?_; clear h309
    refine wms 1 h398 rfl fun a399 h399 => ?_; clear h398
    refine wpList_nil ?_
    refine x_again ⟨_, ?_, k + 1, sn3, my3, ag3, ?_, ?_, ?_, ?_, h399.nrm ⟨rfl, rfl, rfl, rfl, rfl, rfl, rfl, trivial⟩ [2, 3, 4] (by decide) ⟨rfl, rfl, rfl, trivial⟩, rfl⟩
    · rw [hm35]; first | omega | (simp only [List.length_append, List.length_cons, List.length_nil, List.length_set, List.length_replicate, List.length_map, List.length_range]; omega)
    · omega
    · first | exact hdi3 | exact hdi2
    · first | exact dq_close hov h20 h30 (by omega) | exact dq_skip h20 (by assumption)
    · first | exact h31 | exact h21
   have hp293 : ¬ ((nth x.l k).op = 13) := of_decide_eq_false hb293
   refine wl_val h292 (r_fieldB (r := 0) fl_73_0 rfl rfl rfl) (wanted_yes h292.fr rfl rfl rfl rfl hb293) rfl rfl fun a400 h400 => ?_; clear h292
   refine wl_val h400 (r_ldb (i := 0) ti_3 rfl rfl rfl rfl) (wanted_yes h400.fr rfl rfl rfl rfl hb293) rfl rfl fun a401 h401 => ?_; clear h400
   refine wl_val h401 (r_eqlI (p := (nth x.l k).op) (q := 17) rfl rfl rfl) (wanted_yes h401.fr rfl rfl rfl rfl hb293) rfl rfl fun a402 h402 => ?_; clear h401
   refine wv h402 (r_pickF rfl rfl hb293 rfl) rfl rfl fun a403 h403 => ?_; clear h402
   refine wms 1 h403 rfl fun a404 h404 => ?_; clear h403
   refine wpList_nil (hK171 _ _ ?_)
   have h405 : St 95 (fun _ => False) W a404 w68 [(0, x.v), (3, v9), (4, v15), (5, .bool ag2), (6, .int .i64 ((k : Nat) : Int)), (8, .bool (nth my2 k)), (22, x.v), (23, .int .i64 ((x.l.length : Nat) : Int)), (24, .int .i64 ((k : Nat) : Int)), (42, .bool (decide ((nth x.l k).op = 17)))] [.blk b45 73 [.int .i64 ((nth x.l k).op), .int .i64 ((nth x.l k).a), .int .i64 ((nth x.l k).b), .int .i64 ((nth x.l k).c)], .own 4 (⟨v15, sn2⟩ : Ls Bool), .own 4 (⟨v9, my2⟩ : Ls Bool), .at_ x] := h404.nrm ⟨rfl, rfl, rfl, rfl, rfl, rfl, rfl, rfl, rfl, rfl, trivial⟩ [0, 1, 2, 3] (by decide) ⟨rfl, rfl, rfl, rfl, trivial⟩
   clear h404
   refine x_cond h405 rfl (fun hb406 => ?_) (fun hb406 => ?_)
   ·
    have hp406 : (nth x.l k).op = 17 := of_decide_eq_true hb406
    refine wp_region_lit ?_
    refine wms 1 h405 rfl fun a407 h407 => ?_; clear h405
    refine wpList_nil (hK64 _ _ ?_)
    refine wp_seq_k fun K408 hK408 => wp_region_lit ?_
    refine wms 2 h407 rfl fun a409 h409 => ?_; clear h407
    refine wl_ex (x_call h409 bd_81 rfl rfl rfl rfl rfl (nexts_c x k _ (h409.sh.at 3 rfl) (by omega) (by omega))) (wanted_none rfl _) ?_
    rintro a410 w410 ⟨_, ⟨s410, rfl, hs410⟩, hf410⟩
    have h410 := (⟨hf410, h409.sh.call hs410 (by intro A hA b hb; first | (simp at hA; done) | (simp at hA; subst hA; first | exact Flat.noRd hb | exact (hb : False).elim) | (simp at hA; rcases hA with rfl | rfl <;> first | exact Flat.noRd hb | exact (hb : False).elim))⟩ : St 95 (fun _ => False) W a410 w410 _ _)
    clear hf410 hs410
    clear h409
    have hl411 : (nextsL x.l k).length ≤ 140737488355328 := (h410.sh.own 0 rfl).len
    refine wv h410 (r_len (s := (⟨s410.v, nextsL x.l k⟩ : Ls Int)) (n := (nextsL x.l k).length) sl_24 rfl rfl (fun w h => (h.own 0 rfl)) rfl) rfl rfl fun a412 h412 => ?_; clear h410
    refine wms 1 h412 rfl fun a413 h413 => ?_; clear h412
    refine wpList_nil (hK408 _ _ ?_)
    refine wp_block ?_
    have hn2 := nexts_len x.l k
    refine x_loop (fun m a w => ∃ (q : Nat) (sn3 my3 : List Bool) (ag3 ov : Bool), (q ≤ (nextsL x.l k).length) ∧ (DI x.l sn3 my3) ∧ (ov = outB (nth x.l k) (nth my2 k)) ∧ (ag3 = false → ag2 = false ∧ sn3 = sn2 ∧ my3 = my2 ∧ ∀ p, p < q → nth sn3 (nth (nextsL x.l k) p).toNat = true ∧ (ov = true → nth my3 (nth (nextsL x.l k) p).toNat = true)) ∧ (ag3 = true → cntB sn + cntB my < cntB sn3 + cntB my3) ∧ St 95 (fun _ => False) W a w [(0, x.v), (3, v9), (4, v15), (5, .bool ag3), (8, .bool ov), (22, x.v), (23, .int .i64 ((x.l.length : Nat) : Int)), (24, .int .i64 ((k : Nat) : Int)), (58, s410.v), (59, .int .i64 (((nextsL x.l k).length : Nat) : Int)), (60, .int .i64 ((q : Nat) : Int))] [.own 3 (⟨s410.v, nextsL x.l k⟩ : Ls Int), .blk b45 73 [.int .i64 ((nth x.l k).op), .int .i64 ((nth x.l k).a), .int .i64 ((nth x.l k).b), .int .i64 ((nth x.l k).c)], .own 4 (⟨v15, sn3⟩ : Ls Bool), .own 4 (⟨v9, my3⟩ : Ls Bool), .at_ x] ∧ m = (nextsL x.l k).length - q) ⟨_, 0, sn2, my2, ag2, false, (by omega), (hdi2), (by first | exact outB_w (by assumption) | exact outB_e (by assumption) (by omega) | exact outB_p (by assumption) (by omega)), (fun h => ⟨h, rfl, rfl, fun p hp => absurd hp (by omega)⟩), (h21), h413.nrm ⟨rfl, rfl, rfl, rfl, rfl, rfl, rfl, rfl, rfl, rfl, rfl, trivial⟩ [0, 1, 2, 3, 4] (by decide) ⟨rfl, rfl, rfl, rfl, rfl, trivial⟩, rfl⟩ ?_
    clear h413
    rintro m414 a414 w414 ⟨q, sn3, my3, ag3, ov, hq, hdi3, hov, h30, h31, h414, hm414⟩
    have hd5 := hdi3.l1
    have hd6 := hdi3.l2
    have hle := dq_le h20 h30 h31
    refine wp_seq_k fun K415 hK415 => wp_region_lit ?_
    refine wv h414 (r_lssN (p := q) (q := (nextsL x.l k).length) rfl rfl rfl) rfl rfl fun a416 h416 => ?_; clear h414
    refine wpList_nil (hK415 _ _ ?_)
    refine wp_seq_k fun K417 hK417 => ?_
    refine x_cond h416 rfl (fun hb418 => ?_) (fun hb418 => ?_)
    ·
     have hp418 : q < (nextsL x.l k).length := of_decide_eq_true hb418
     refine wp_skip ?_
     refine hK417 _ _ ?_
     refine wp_seq_k fun K419 hK419 => ?_
     refine wp_block ?_
     refine wp_seq_k fun K420 hK420 => wp_region_lit ?_
     refine wv h416 (r_ixN (s := (⟨s410.v, nextsL x.l k⟩ : Ls Int)) (q := q) sl_24 ti_3 rfl rfl rfl (fun w h => (h.own 0 rfl)) (show q < (nextsL x.l k).length from (by omega))) rfl rfl fun a421 h421 => ?_; clear h416
     refine wv h421 (r_lde (s := (⟨s410.v, nextsL x.l k⟩ : Ls Int)) (i := q) (v := .int .i64 (nth (nextsL x.l k) q)) ti_3 rfl rfl rfl (fun w h => (h.own 0 rfl)) (show q < (nextsL x.l k).length from (by omega)) (Nat.le_of_ble_eq_true rfl) rfl) rfl rfl fun a422 h422 => ?_; clear h421
     refine wms 1 h422 rfl fun a423 h423 => ?_; clear h422
     refine wpList_nil (hK420 _ _ ?_)
     have hmm : nth (nextsL x.l k) q ∈ nextsL x.l k := nth_mem _ _ (by omega)
     have hnx := nexts_ok hj (by omega) hmm
     have hre := ReachI.step k _ (hdi2.s1 k (by assumption)) (by omega) hmm
     have hmay : ov = true → MayI x.l (nth (nextsL x.l k) q).toNat := fun h => may_of (hdi2.s1 k (by assumption)) (by omega) (hdi2.s2 k) (by rw [← hov]; exact h) hmm
     refine wp_seq_k fun K424 hK424 => wp_region_lit ?_
     refine wms 2 h423 rfl fun a425 h425 => ?_; clear h423
     have hl426 : sn3.length ≤ 140737488355328 := (h425.sh.own 2 rfl).len
     refine wv h425 (r_ixI (s := (⟨v15, sn3⟩ : Ls Bool)) (q := nth (nextsL x.l k) q) sl_66 ti_4 rfl rfl rfl (fun w h => (h.own 2 rfl)) (show 0 ≤ nth (nextsL x.l k) q ∧ nth (nextsL x.l k) q < sn3.length from (by omega))) rfl rfl fun a427 h427 => ?_; clear h425
     refine wv h427 (r_lde (s := (⟨v15, sn3⟩ : Ls Bool)) (i := (nth (nextsL x.l k) q).toNat) (v := .bool (nth sn3 ((nth (nextsL x.l k) q).toNat))) ti_4 rfl rfl rfl (fun w h => (h.own 2 rfl)) (show (nth (nextsL x.l k) q).toNat < sn3.length from (by omega)) (Nat.le_of_ble_eq_true rfl) rfl) rfl rfl fun a428 h428 => ?_; clear h427
     refine wv h428 (r_not rfl rfl) rfl rfl fun a429 h429 => ?_; clear h428
     refine wms 1 h429 rfl fun a430 h430 => ?_; clear h429
     rcases Bool.eq_false_or_eq_true (!(nth sn3 ((nth (nextsL x.l k) q).toNat))) with hb431 | hb431
     ·
      have hn431 : nth sn3 ((nth (nextsL x.l k) q).toNat) = false := (Bool.not_eq_true' _).mp hb431
      refine wl_skip h430 (wanted_no h430.fr rfl rfl rfl rfl hb431) rfl rfl fun a432 h432 => ?_; clear h430
      refine wl_skip h432 (wanted_no h432.fr rfl rfl rfl rfl hb431) rfl rfl fun a433 h433 => ?_; clear h432
      refine wl_skip h433 (wanted_no2 h433.fr rfl rfl rfl rfl) rfl rfl fun a434 h434 => ?_; clear h433
      refine wl_skip h434 (wanted_no2 h434.fr rfl rfl rfl rfl) rfl rfl fun a435 h435 => ?_; clear h434
      refine wl_skip h435 (wanted_no2 h435.fr rfl rfl rfl rfl) rfl rfl fun a436 h436 => ?_; clear h435
      refine wl_skip h436 (wanted_no2 h436.fr rfl rfl rfl rfl) rfl rfl fun a437 h437 => ?_; clear h436
      refine wl_skip h437 (wanted_no2 h437.fr rfl rfl rfl rfl) rfl rfl fun a438 h438 => ?_; clear h437
      refine wl_skip h438 (wanted_no h438.fr rfl rfl rfl rfl hb431) rfl rfl fun a439 h439 => ?_; clear h438
      refine wv h439 (r_pickT rfl rfl hb431 rfl) rfl rfl fun a440 h440 => ?_; clear h439
      refine wpList_nil (hK424 _ _ ?_)
      refine x_condT h440 rfl rfl ?_
      refine wp_seq_k fun K441 hK441 => wp_region_lit ?_
      refine wms 2 h440 rfl fun a442 h442 => ?_; clear h440
      refine wv h442 (r_ixI (s := (⟨v15, sn3⟩ : Ls Bool)) (q := nth (nextsL x.l k) q) sl_66 ti_4 rfl rfl rfl (fun w h => (h.own 2 rfl)) (show 0 ≤ nth (nextsL x.l k) q ∧ nth (nextsL x.l k) q < sn3.length from (by omega))) rfl rfl fun a443 h443 => ?_; clear h442
      refine wl_ex (x_ste (r := 2) (i := (nth (nextsL x.l k) q).toNat) (j := 0) (x' := (true : Bool)) h443 ti_4 rfl rfl rfl rfl rfl (show (nth (nextsL x.l k) q).toNat < sn3.length from (by omega)) (Nat.le_of_ble_eq_true rfl) rfl rfl rfl (by intro q hq; obtain rfl : q = 0 := (by omega); rfl) (fun w h => Flat.inner _ _) (fun b hb => (Flat.on _ _ hb).elim)) (wanted_none rfl _) ?_
      rintro a444 w444 h444
      clear h443
      refine wms 1 h444 rfl fun a445 h445 => ?_; clear h444
      refine wpList_nil (hK441 _ _ ?_)
      refine wp_region_lit ?_
      refine wms 4 h445 rfl fun a446 h446 => ?_; clear h445
      have hl447 : my3.length ≤ 140737488355328 := (h446.sh.own 3 rfl).len
      refine wv h446 (r_ixI (s := (⟨v9, my3⟩ : Ls Bool)) (q := nth (nextsL x.l k) q) sl_66 ti_4 rfl rfl rfl (fun w h => (h.own 3 rfl)) (show 0 ≤ nth (nextsL x.l k) q ∧ nth (nextsL x.l k) q < my3.length from (by omega))) rfl rfl fun a448 h448 => ?_; clear h446
      refine wv h448 (r_lde (s := (⟨v9, my3⟩ : Ls Bool)) (i := (nth (nextsL x.l k) q).toNat) (v := .bool (nth my3 ((nth (nextsL x.l k) q).toNat))) ti_4 rfl rfl rfl (fun w h => (h.own 3 rfl)) (show (nth (nextsL x.l k) q).toNat < my3.length from (by omega)) (Nat.le_of_ble_eq_true rfl) rfl) rfl rfl fun a449 h449 => ?_; clear h448
      refine wms 1 h449 rfl fun a450 h450 => ?_; clear h449
      rcases Bool.eq_false_or_eq_true (nth my3 ((nth (nextsL x.l k) q).toNat)) with hb451 | hb451
      ·
       skip
       refine wl_skip h450 (wanted_no h450.fr rfl rfl rfl rfl hb451) rfl rfl fun a452 h452 => ?_; clear h450
       refine wv h452 (r_pickT rfl rfl hb451 rfl) rfl rfl fun a453 h453 => ?_; clear h452
       refine wv h453 (r_ixI (s := (⟨v9, my3⟩ : Ls Bool)) (q := nth (nextsL x.l k) q) sl_66 ti_4 rfl rfl rfl (fun w h => (h.own 3 rfl)) (show 0 ≤ nth (nextsL x.l k) q ∧ nth (nextsL x.l k) q < my3.length from (by omega))) rfl rfl fun a454 h454 => ?_; clear h453
       refine wl_ex (x_ste (r := 3) (i := (nth (nextsL x.l k) q).toNat) (j := 0) (x' := (true : Bool)) h454 ti_4 rfl rfl rfl rfl rfl (show (nth (nextsL x.l k) q).toNat < my3.length from (by omega)) (Nat.le_of_ble_eq_true rfl) rfl rfl rfl (by intro q hq; obtain rfl : q = 0 := (by omega); rfl) (fun w h => Flat.inner _ _) (fun b hb => (Flat.on _ _ hb).elim)) (wanted_none rfl _) ?_
       rintro a455 w455 h455
       clear h454
       refine wpList_nil (hK419 _ _ ?_)
       have h456 : St 95 (fun _ => False) W a455 w455 [(0, x.v), (3, v9), (4, v15), (5, .bool true), (8, .bool ov), (22, x.v), (23, .int .i64 ((x.l.length : Nat) : Int)), (24, .int .i64 ((k : Nat) : Int)), (58, s410.v), (59, .int .i64 (((nextsL x.l k).length : Nat) : Int)), (60, .int .i64 ((q : Nat) : Int))] [.own 3 (⟨s410.v, nextsL x.l k⟩ : Ls Int), .blk b45 73 [.int .i64 ((nth x.l k).op), .int .i64 ((nth x.l k).a), .int .i64 ((nth x.l k).b), .int .i64 ((nth x.l k).c)], .own 4 (⟨v15, sn3.set ((nth (nextsL x.l k) q).toNat) true⟩ : Ls Bool), .own 4 (⟨v9, my3.set ((nth (nextsL x.l k) q).toNat) true⟩ : Ls Bool), .at_ x] := h455.nrm ⟨rfl, rfl, rfl, rfl, rfl, rfl, rfl, rfl, rfl, rfl, rfl, trivial⟩ [0, 1, 2, 3, 4] (by decide) ⟨rfl, rfl, rfl, rfl, rfl, trivial⟩
       clear h455
       refine wp_region_lit ?_
       refine wv h456 (r_addN (p := q) (q := 1) rfl rfl rfl (show q + 1 < 9223372036854775808 from (by omega))) rfl rfl fun a457 h457 => ?_; clear h456
       refine wms 1 h457 rfl fun a458 h458 => ?_; clear h457
       refine wpList_nil ?_
       refine x_again ⟨_, ?_, q + 1, sn3.set ((nth (nextsL x.l k) q).toNat) true, my3.set ((nth (nextsL x.l k) q).toNat) true, true, ov, ?_, ?_, ?_, ?_, ?_, h458.nrm ⟨rfl, rfl, rfl, rfl, rfl, rfl, rfl, rfl, rfl, rfl, rfl, trivial⟩ [0, 1, 2, 3, 4] (by decide) ⟨rfl, rfl, rfl, rfl, rfl, trivial⟩, rfl⟩
       · rw [hm414]; first | omega | (simp only [List.length_append, List.length_cons, List.length_nil, List.length_set, List.length_replicate, List.length_map, List.length_range]; omega)
       · omega
       · first | exact hdi3 | exact (hdi3.setS (by omega) hre).setM (fun h => by first | exact hmay h | exact hdi3.s2 _ (by assumption) | exact hmay (by assumption))
       · exact hov
       · first | (intro h; cases h; done) | (intro h; obtain ⟨e0, e1, e2, hp⟩ := h30 h; refine ⟨e0, e1, e2, fun p hp2 => ?_⟩; rcases Nat.lt_or_ge p q with h9 | h9; (exact hp p h9); obtain rfl : p = q := (by omega); exact ⟨by assumption, fun h => by first | assumption | (exfalso; have h8 := (by assumption : ov = false); rw [h8] at h; cases h)⟩)
       · first | exact h31 | (intro _; first | exact growA hle (by omega) (by assumption) (fun h => by first | rfl | exact absurd (h.symm.trans (show _ = false by assumption)) (by decide)) | exact growC hle (by omega) (by assumption) (by first | rfl | assumption))
      refine wl_val h450 (r_move rfl rfl) (wanted_yes h450.fr rfl rfl rfl rfl hb451) rfl rfl fun a459 h459 => ?_; clear h450
      refine wv h459 (r_pickF rfl rfl hb451 rfl) rfl rfl fun a460 h460 => ?_; clear h459
      refine wv h460 (r_ixI (s := (⟨v9, my3⟩ : Ls Bool)) (q := nth (nextsL x.l k) q) sl_66 ti_4 rfl rfl rfl (fun w h => (h.own 3 rfl)) (show 0 ≤ nth (nextsL x.l k) q ∧ nth (nextsL x.l k) q < my3.length from (by omega))) rfl rfl fun a461 h461 => ?_; clear h460
      refine wl_ex (x_ste (r := 3) (i := (nth (nextsL x.l k) q).toNat) (j := 0) (x' := (ov : Bool)) h461 ti_4 rfl rfl rfl rfl rfl (show (nth (nextsL x.l k) q).toNat < my3.length from (by omega)) (Nat.le_of_ble_eq_true rfl) rfl rfl rfl (by intro q hq; obtain rfl : q = 0 := (by omega); rfl) (fun w h => Flat.inner _ _) (fun b hb => (Flat.on _ _ hb).elim)) (wanted_none rfl _) ?_
      rintro a462 w462 h462
      clear h461
      refine wpList_nil (hK419 _ _ ?_)
      have h463 : St 95 (fun _ => False) W a462 w462 [(0, x.v), (3, v9), (4, v15), (5, .bool true), (8, .bool ov), (22, x.v), (23, .int .i64 ((x.l.length : Nat) : Int)), (24, .int .i64 ((k : Nat) : Int)), (58, s410.v), (59, .int .i64 (((nextsL x.l k).length : Nat) : Int)), (60, .int .i64 ((q : Nat) : Int))] [.own 3 (⟨s410.v, nextsL x.l k⟩ : Ls Int), .blk b45 73 [.int .i64 ((nth x.l k).op), .int .i64 ((nth x.l k).a), .int .i64 ((nth x.l k).b), .int .i64 ((nth x.l k).c)], .own 4 (⟨v15, sn3.set ((nth (nextsL x.l k) q).toNat) true⟩ : Ls Bool), .own 4 (⟨v9, my3.set ((nth (nextsL x.l k) q).toNat) ov⟩ : Ls Bool), .at_ x] := h462.nrm ⟨rfl, rfl, rfl, rfl, rfl, rfl, rfl, rfl, rfl, rfl, rfl, trivial⟩ [0, 1, 2, 3, 4] (by decide) ⟨rfl, rfl, rfl, rfl, rfl, trivial⟩
      clear h462
      refine wp_region_lit ?_
      refine wv h463 (r_addN (p := q) (q := 1) rfl rfl rfl (show q + 1 < 9223372036854775808 from (by omega))) rfl rfl fun a464 h464 => ?_; clear h463
      refine wms 1 h464 rfl fun a465 h465 => ?_; clear h464
      refine wpList_nil ?_
      refine x_again ⟨_, ?_, q + 1, sn3.set ((nth (nextsL x.l k) q).toNat) true, my3.set ((nth (nextsL x.l k) q).toNat) ov, true, ov, ?_, ?_, ?_, ?_, ?_, h465.nrm ⟨rfl, rfl, rfl, rfl, rfl, rfl, rfl, rfl, rfl, rfl, rfl, trivial⟩ [0, 1, 2, 3, 4] (by decide) ⟨rfl, rfl, rfl, rfl, rfl, trivial⟩, rfl⟩
      · rw [hm414]; first | omega | (simp only [List.length_append, List.length_cons, List.length_nil, List.length_set, List.length_replicate, List.length_map, List.length_range]; omega)
      · omega
      · first | exact hdi3 | exact (hdi3.setS (by omega) hre).setM (fun h => by first | exact hmay h | exact hdi3.s2 _ (by assumption) | exact hmay (by assumption))
      · exact hov
      · first | (intro h; cases h; done) | (intro h; obtain ⟨e0, e1, e2, hp⟩ := h30 h; refine ⟨e0, e1, e2, fun p hp2 => ?_⟩; rcases Nat.lt_or_ge p q with h9 | h9; (exact hp p h9); obtain rfl : p = q := (by omega); exact ⟨by assumption, fun h => by first | assumption | (exfalso; have h8 := (by assumption : ov = false); rw [h8] at h; cases h)⟩)
      · first | exact h31 | (intro _; first | exact growA hle (by omega) (by assumption) (fun h => by first | rfl | exact absurd (h.symm.trans (show _ = false by assumption)) (by decide)) | exact growC hle (by omega) (by assumption) (by first | rfl | assumption))
     have hn431 : nth sn3 ((nth (nextsL x.l k) q).toNat) = true := (Bool.not_eq_false' _).mp hb431
     refine wl_val h430 (r_move rfl rfl) (wanted_yes h430.fr rfl rfl rfl rfl hb431) rfl rfl fun a466 h466 => ?_; clear h430
     refine wl_val h466 (r_move rfl rfl) (wanted_yes h466.fr rfl rfl rfl rfl hb431) rfl rfl fun a467 h467 => ?_; clear h466
     rcases Bool.eq_false_or_eq_true ov with hb468 | hb468
     ·
      skip
      refine wl_val h467 (r_move rfl rfl) (wanted_yes h467.fr rfl rfl rfl rfl hb468) rfl rfl fun a469 h469 => ?_; clear h467
      refine wl_val h469 (r_move rfl rfl) (wanted_yes h469.fr rfl rfl rfl rfl hb468) rfl rfl fun a470 h470 => ?_; clear h469
      have hl471 : my3.length ≤ 140737488355328 := (h470.sh.own 3 rfl).len
      refine wl_val h470 (r_ixI (s := (⟨v9, my3⟩ : Ls Bool)) (q := nth (nextsL x.l k) q) sl_66 ti_4 rfl rfl rfl (fun w h => (h.own 3 rfl)) (show 0 ≤ nth (nextsL x.l k) q ∧ nth (nextsL x.l k) q < my3.length from (by omega))) (wanted_yes h470.fr rfl rfl rfl rfl hb468) rfl rfl fun a472 h472 => ?_; clear h470
      refine wl_val h472 (r_lde (s := (⟨v9, my3⟩ : Ls Bool)) (i := (nth (nextsL x.l k) q).toNat) (v := .bool (nth my3 ((nth (nextsL x.l k) q).toNat))) ti_4 rfl rfl rfl (fun w h => (h.own 3 rfl)) (show (nth (nextsL x.l k) q).toNat < my3.length from (by omega)) (Nat.le_of_ble_eq_true rfl) rfl) (wanted_yes h472.fr rfl rfl rfl rfl hb468) rfl rfl fun a473 h473 => ?_; clear h472
      refine wl_val h473 (r_not rfl rfl) (wanted_yes h473.fr rfl rfl rfl rfl hb468) rfl rfl fun a474 h474 => ?_; clear h473
      refine wl_val h474 (r_pickT rfl rfl hb468 rfl) (wanted_yes h474.fr rfl rfl rfl rfl hb431) rfl rfl fun a475 h475 => ?_; clear h474
      refine wv h475 (r_pickF rfl rfl hb431 rfl) rfl rfl fun a476 h476 => ?_; clear h475
      refine wpList_nil (hK424 _ _ ?_)
      refine x_cond h476 rfl (fun hb477 => ?_) (fun hb477 => ?_)
      ·
       have hn477 : nth my3 ((nth (nextsL x.l k) q).toNat) = false := (Bool.not_eq_true' _).mp hb477
       refine wp_seq_k fun K478 hK478 => wp_region_lit ?_
       refine wms 2 h476 rfl fun a479 h479 => ?_; clear h476
       refine wv h479 (r_ixI (s := (⟨v15, sn3⟩ : Ls Bool)) (q := nth (nextsL x.l k) q) sl_66 ti_4 rfl rfl rfl (fun w h => (h.own 2 rfl)) (show 0 ≤ nth (nextsL x.l k) q ∧ nth (nextsL x.l k) q < sn3.length from (by omega))) rfl rfl fun a480 h480 => ?_; clear h479
       refine wl_ex (x_ste (r := 2) (i := (nth (nextsL x.l k) q).toNat) (j := 0) (x' := (true : Bool)) h480 ti_4 rfl rfl rfl rfl rfl (show (nth (nextsL x.l k) q).toNat < sn3.length from (by omega)) (Nat.le_of_ble_eq_true rfl) rfl rfl rfl (by intro q hq; obtain rfl : q = 0 := (by omega); rfl) (fun w h => Flat.inner _ _) (fun b hb => (Flat.on _ _ hb).elim)) (wanted_none rfl _) ?_
       rintro a481 w481 h481
       clear h480
       refine wms 1 h481 rfl fun a482 h482 => ?_; clear h481
       refine wpList_nil (hK478 _ _ ?_)
       refine wp_region_lit ?_
       refine wms 4 h482 rfl fun a483 h483 => ?_; clear h482
       refine wv h483 (r_ixI (s := (⟨v9, my3⟩ : Ls Bool)) (q := nth (nextsL x.l k) q) sl_66 ti_4 rfl rfl rfl (fun w h => (h.own 3 rfl)) (show 0 ≤ nth (nextsL x.l k) q ∧ nth (nextsL x.l k) q < my3.length from (by omega))) rfl rfl fun a484 h484 => ?_; clear h483
       refine wv h484 (r_lde (s := (⟨v9, my3⟩ : Ls Bool)) (i := (nth (nextsL x.l k) q).toNat) (v := .bool (nth my3 ((nth (nextsL x.l k) q).toNat))) ti_4 rfl rfl rfl (fun w h => (h.own 3 rfl)) (show (nth (nextsL x.l k) q).toNat < my3.length from (by omega)) (Nat.le_of_ble_eq_true rfl) rfl) rfl rfl fun a485 h485 => ?_; clear h484
       refine wms 1 h485 rfl fun a486 h486 => ?_; clear h485
       refine wl_val h486 (r_move rfl rfl) (wanted_yes h486.fr rfl rfl rfl rfl hn477) rfl rfl fun a487 h487 => ?_; clear h486
       refine wv h487 (r_pickF rfl rfl hn477 rfl) rfl rfl fun a488 h488 => ?_; clear h487
       refine wv h488 (r_ixI (s := (⟨v9, my3⟩ : Ls Bool)) (q := nth (nextsL x.l k) q) sl_66 ti_4 rfl rfl rfl (fun w h => (h.own 3 rfl)) (show 0 ≤ nth (nextsL x.l k) q ∧ nth (nextsL x.l k) q < my3.length from (by omega))) rfl rfl fun a489 h489 => ?_; clear h488
       refine wl_ex (x_ste (r := 3) (i := (nth (nextsL x.l k) q).toNat) (j := 0) (x' := (ov : Bool)) h489 ti_4 rfl rfl rfl rfl rfl (show (nth (nextsL x.l k) q).toNat < my3.length from (by omega)) (Nat.le_of_ble_eq_true rfl) rfl rfl rfl (by intro q hq; obtain rfl : q = 0 := (by omega); rfl) (fun w h => Flat.inner _ _) (fun b hb => (Flat.on _ _ hb).elim)) (wanted_none rfl _) ?_
       rintro a490 w490 h490
       clear h489
       refine wpList_nil (hK419 _ _ ?_)
       have h491 : St 95 (fun _ => False) W a490 w490 [(0, x.v), (3, v9), (4, v15), (5, .bool true), (8, .bool ov), (22, x.v), (23, .int .i64 ((x.l.length : Nat) : Int)), (24, .int .i64 ((k : Nat) : Int)), (58, s410.v), (59, .int .i64 (((nextsL x.l k).length : Nat) : Int)), (60, .int .i64 ((q : Nat) : Int))] [.own 3 (⟨s410.v, nextsL x.l k⟩ : Ls Int), .blk b45 73 [.int .i64 ((nth x.l k).op), .int .i64 ((nth x.l k).a), .int .i64 ((nth x.l k).b), .int .i64 ((nth x.l k).c)], .own 4 (⟨v15, sn3.set ((nth (nextsL x.l k) q).toNat) true⟩ : Ls Bool), .own 4 (⟨v9, my3.set ((nth (nextsL x.l k) q).toNat) ov⟩ : Ls Bool), .at_ x] := h490.nrm ⟨rfl, rfl, rfl, rfl, rfl, rfl, rfl, rfl, rfl, rfl, rfl, trivial⟩ [0, 1, 2, 3, 4] (by decide) ⟨rfl, rfl, rfl, rfl, rfl, trivial⟩
       clear h490
       refine wp_region_lit ?_
       refine wv h491 (r_addN (p := q) (q := 1) rfl rfl rfl (show q + 1 < 9223372036854775808 from (by omega))) rfl rfl fun a492 h492 => ?_; clear h491
       refine wms 1 h492 rfl fun a493 h493 => ?_; clear h492
       refine wpList_nil ?_
       refine x_again ⟨_, ?_, q + 1, sn3.set ((nth (nextsL x.l k) q).toNat) true, my3.set ((nth (nextsL x.l k) q).toNat) ov, true, ov, ?_, ?_, ?_, ?_, ?_, h493.nrm ⟨rfl, rfl, rfl, rfl, rfl, rfl, rfl, rfl, rfl, rfl, rfl, trivial⟩ [0, 1, 2, 3, 4] (by decide) ⟨rfl, rfl, rfl, rfl, rfl, trivial⟩, rfl⟩
       · rw [hm414]; first | omega | (simp only [List.length_append, List.length_cons, List.length_nil, List.length_set, List.length_replicate, List.length_map, List.length_range]; omega)
       · omega
       · first | exact hdi3 | exact (hdi3.setS (by omega) hre).setM (fun h => by first | exact hmay h | exact hdi3.s2 _ (by assumption) | exact hmay (by assumption))
       · exact hov
       · first | (intro h; cases h; done) | (intro h; obtain ⟨e0, e1, e2, hp⟩ := h30 h; refine ⟨e0, e1, e2, fun p hp2 => ?_⟩; rcases Nat.lt_or_ge p q with h9 | h9; (exact hp p h9); obtain rfl : p = q := (by omega); exact ⟨by assumption, fun h => by first | assumption | (exfalso; have h8 := (by assumption : ov = false); rw [h8] at h; cases h)⟩)
       · first | exact h31 | (intro _; first | exact growA hle (by omega) (by assumption) (fun h => by first | rfl | exact absurd (h.symm.trans (show _ = false by assumption)) (by decide)) | exact growC hle (by omega) (by assumption) (by first | rfl | assumption))
      have hn477 : nth my3 ((nth (nextsL x.l k) q).toNat) = true := (Bool.not_eq_false' _).mp hb477
      refine wp_skip ?_
      refine hK419 _ _ ?_
      refine wp_region_lit ?_
      refine wv h476 (r_addN (p := q) (q := 1) rfl rfl rfl (show q + 1 < 9223372036854775808 from (by omega))) rfl rfl fun a494 h494 => ?_; clear h476
      refine wms 1 h494 rfl fun a495 h495 => ?_; clear h494
      refine wpList_nil ?_
      refine x_again ⟨_, ?_, q + 1, sn3, my3, ag3, ov, ?_, ?_, ?_, ?_, ?_, h495.nrm ⟨rfl, rfl, rfl, rfl, rfl, rfl, rfl, rfl, rfl, rfl, rfl, trivial⟩ [0, 1, 2, 3, 4] (by decide) ⟨rfl, rfl, rfl, rfl, rfl, trivial⟩, rfl⟩
      · rw [hm414]; first | omega | (simp only [List.length_append, List.length_cons, List.length_nil, List.length_set, List.length_replicate, List.length_map, List.length_range]; omega)
      · omega
      · first | exact hdi3 | exact (hdi3.setS (by omega) hre).setM (fun h => by first | exact hmay h | exact hdi3.s2 _ (by assumption) | exact hmay (by assumption))
      · exact hov
      · first | (intro h; cases h; done) | (intro h; obtain ⟨e0, e1, e2, hp⟩ := h30 h; refine ⟨e0, e1, e2, fun p hp2 => ?_⟩; rcases Nat.lt_or_ge p q with h9 | h9; (exact hp p h9); obtain rfl : p = q := (by omega); exact ⟨by assumption, fun h => by first | assumption | (exfalso; have h8 := (by assumption : ov = false); rw [h8] at h; cases h)⟩)
      · first | exact h31 | (intro _; first | exact growA hle (by omega) (by assumption) (fun h => by first | rfl | exact absurd (h.symm.trans (show _ = false by assumption)) (by decide)) | exact growC hle (by omega) (by assumption) (by first | rfl | assumption))
     refine wl_skip h467 (wanted_no h467.fr rfl rfl rfl rfl hb468) rfl rfl fun a496 h496 => ?_; clear h467
     refine wl_skip h496 (wanted_no h496.fr rfl rfl rfl rfl hb468) rfl rfl fun a497 h497 => ?_; clear h496
     refine wl_skip h497 (wanted_no h497.fr rfl rfl rfl rfl hb468) rfl rfl fun a498 h498 => ?_; clear h497
     refine wl_skip h498 (wanted_no h498.fr rfl rfl rfl rfl hb468) rfl rfl fun a499 h499 => ?_; clear h498
     refine wl_skip h499 (wanted_no h499.fr rfl rfl rfl rfl hb468) rfl rfl fun a500 h500 => ?_; clear h499
     refine wl_val h500 (r_pickF rfl rfl hb468 rfl) (wanted_yes h500.fr rfl rfl rfl rfl hb431) rfl rfl fun a501 h501 => ?_; clear h500
     refine wv h501 (r_pickF rfl rfl hb431 rfl) rfl rfl fun a502 h502 => ?_; clear h501
     refine wpList_nil (hK424 _ _ ?_)
     refine x_condF h502 rfl rfl ?_
     refine wp_skip ?_
     refine hK419 _ _ ?_
     refine wp_region_lit ?_
     refine wv h502 (r_addN (p := q) (q := 1) rfl rfl rfl (show q + 1 < 9223372036854775808 from (by omega))) rfl rfl fun a503 h503 => ?_; clear h502
     refine wms 1 h503 rfl fun a504 h504 => ?_; clear h503
     refine wpList_nil ?_
     refine x_again ⟨_, ?_, q + 1, sn3, my3, ag3, ov, ?_, ?_, ?_, ?_, ?_, h504.nrm ⟨rfl, rfl, rfl, rfl, rfl, rfl, rfl, rfl, rfl, rfl, rfl, trivial⟩ [0, 1, 2, 3, 4] (by decide) ⟨rfl, rfl, rfl, rfl, rfl, trivial⟩, rfl⟩
     · rw [hm414]; first | omega | (simp only [List.length_append, List.length_cons, List.length_nil, List.length_set, List.length_replicate, List.length_map, List.length_range]; omega)
     · omega
     · first | exact hdi3 | exact (hdi3.setS (by omega) hre).setM (fun h => by first | exact hmay h | exact hdi3.s2 _ (by assumption) | exact hmay (by assumption))
     · exact hov
     · first | (intro h; cases h; done) | (intro h; obtain ⟨e0, e1, e2, hp⟩ := h30 h; refine ⟨e0, e1, e2, fun p hp2 => ?_⟩; rcases Nat.lt_or_ge p q with h9 | h9; (exact hp p h9); obtain rfl : p = q := (by omega); exact ⟨by assumption, fun h => by first | assumption | (exfalso; have h8 := (by assumption : ov = false); rw [h8] at h; cases h)⟩)
     · first | exact h31 | (intro _; first | exact growA hle (by omega) (by assumption) (fun h => by first | rfl | exact absurd (h.symm.trans (show _ = false by assumption)) (by decide)) | exact growC hle (by omega) (by assumption) (by first | rfl | assumption))
    have hp418 : ¬ (q < (nextsL x.l k).length) := of_decide_eq_false hb418
    refine wp_exit ?_
    refine hK40 _ _ ?_
    refine wp_region_lit ?_
    refine wv h416 (r_addN (p := k) (q := 1) rfl rfl rfl (show k + 1 < 9223372036854775808 from (by omega))) rfl rfl fun a505 h505 => ?_; clear h416
    refine wms 1 h505 rfl fun a506 h506 => ?_; clear h505
    refine wpList_nil ?_
    refine x_again ⟨_, ?_, k + 1, sn3, my3, ag3, ?_, ?_, ?_, ?_, h506.nrm ⟨rfl, rfl, rfl, rfl, rfl, rfl, rfl, trivial⟩ [2, 3, 4] (by decide) ⟨rfl, rfl, rfl, trivial⟩, rfl⟩
    · rw [hm35]; first | omega | (simp only [List.length_append, List.length_cons, List.length_nil, List.length_set, List.length_replicate, List.length_map, List.length_range]; omega)
    · omega
    · first | exact hdi3 | exact hdi2
    · first | exact dq_close hov h20 h30 (by omega) | exact dq_skip h20 (by assumption)
    · first | exact h31 | exact h21
   have hp406 : ¬ ((nth x.l k).op = 17) := of_decide_eq_false hb406
   refine wp_skip ?_
   refine hK64 _ _ ?_
   refine wp_seq_k fun K507 hK507 => wp_region_lit ?_
   refine wms 2 h405 rfl fun a508 h508 => ?_; clear h405
   refine wl_ex (x_call h508 bd_81 rfl rfl rfl rfl rfl (nexts_c x k _ (h508.sh.at 3 rfl) (by omega) (by omega))) (wanted_none rfl _) ?_
   rintro a509 w509 ⟨_, ⟨s509, rfl, hs509⟩, hf509⟩
   have h509 := (⟨hf509, h508.sh.call hs509 (by intro A hA b hb; first | (simp at hA; done) | (simp at hA; subst hA; first | exact Flat.noRd hb | exact (hb : False).elim) | (simp at hA; rcases hA with rfl | rfl <;> first | exact Flat.noRd hb | exact (hb : False).elim))⟩ : St 95 (fun _ => False) W a509 w509 _ _)
   clear hf509 hs509
   clear h508
   have hl510 : (nextsL x.l k).length ≤ 140737488355328 := (h509.sh.own 0 rfl).len
   refine wv h509 (r_len (s := (⟨s509.v, nextsL x.l k⟩ : Ls Int)) (n := (nextsL x.l k).length) sl_24 rfl rfl (fun w h => (h.own 0 rfl)) rfl) rfl rfl fun a511 h511 => ?_; clear h509
   refine wms 1 h511 rfl fun a512 h512 => ?_; clear h511
   refine wpList_nil (hK507 _ _ ?_)
   refine wp_block ?_
   have hn2 := nexts_len x.l k
   refine x_loop (fun m a w => ∃ (q : Nat) (sn3 my3 : List Bool) (ag3 ov : Bool), (q ≤ (nextsL x.l k).length) ∧ (DI x.l sn3 my3) ∧ (ov = outB (nth x.l k) (nth my2 k)) ∧ (ag3 = false → ag2 = false ∧ sn3 = sn2 ∧ my3 = my2 ∧ ∀ p, p < q → nth sn3 (nth (nextsL x.l k) p).toNat = true ∧ (ov = true → nth my3 (nth (nextsL x.l k) p).toNat = true)) ∧ (ag3 = true → cntB sn + cntB my < cntB sn3 + cntB my3) ∧ St 95 (fun _ => False) W a w [(0, x.v), (3, v9), (4, v15), (5, .bool ag3), (8, .bool ov), (22, x.v), (23, .int .i64 ((x.l.length : Nat) : Int)), (24, .int .i64 ((k : Nat) : Int)), (58, s509.v), (59, .int .i64 (((nextsL x.l k).length : Nat) : Int)), (60, .int .i64 ((q : Nat) : Int))] [.own 3 (⟨s509.v, nextsL x.l k⟩ : Ls Int), .blk b45 73 [.int .i64 ((nth x.l k).op), .int .i64 ((nth x.l k).a), .int .i64 ((nth x.l k).b), .int .i64 ((nth x.l k).c)], .own 4 (⟨v15, sn3⟩ : Ls Bool), .own 4 (⟨v9, my3⟩ : Ls Bool), .at_ x] ∧ m = (nextsL x.l k).length - q) ⟨_, 0, sn2, my2, ag2, nth my2 k, (by omega), (hdi2), (by first | exact outB_w (by assumption) | exact outB_e (by assumption) (by omega) | exact outB_p (by assumption) (by omega)), (fun h => ⟨h, rfl, rfl, fun p hp => absurd hp (by omega)⟩), (h21), h512.nrm ⟨rfl, rfl, rfl, rfl, rfl, rfl, rfl, rfl, rfl, rfl, rfl, trivial⟩ [0, 1, 2, 3, 4] (by decide) ⟨rfl, rfl, rfl, rfl, rfl, trivial⟩, rfl⟩ ?_
   clear h512
   rintro m513 a513 w513 ⟨q, sn3, my3, ag3, ov, hq, hdi3, hov, h30, h31, h513, hm513⟩
   have hd5 := hdi3.l1
   have hd6 := hdi3.l2
   have hle := dq_le h20 h30 h31
   refine wp_seq_k fun K514 hK514 => wp_region_lit ?_
   refine wv h513 (r_lssN (p := q) (q := (nextsL x.l k).length) rfl rfl rfl) rfl rfl fun a515 h515 => ?_; clear h513
   refine wpList_nil (hK514 _ _ ?_)
   refine wp_seq_k fun K516 hK516 => ?_
   refine x_cond h515 rfl (fun hb517 => ?_) (fun hb517 => ?_)
   ·
    have hp517 : q < (nextsL x.l k).length := of_decide_eq_true hb517
    refine wp_skip ?_
    refine hK516 _ _ ?_
    refine wp_seq_k fun K518 hK518 => ?_
    refine wp_block ?_
    refine wp_seq_k fun K519 hK519 => wp_region_lit ?_
    refine wv h515 (r_ixN (s := (⟨s509.v, nextsL x.l k⟩ : Ls Int)) (q := q) sl_24 ti_3 rfl rfl rfl (fun w h => (h.own 0 rfl)) (show q < (nextsL x.l k).length from (by omega))) rfl rfl fun a520 h520 => ?_; clear h515
    refine wv h520 (r_lde (s := (⟨s509.v, nextsL x.l k⟩ : Ls Int)) (i := q) (v := .int .i64 (nth (nextsL x.l k) q)) ti_3 rfl rfl rfl (fun w h => (h.own 0 rfl)) (show q < (nextsL x.l k).length from (by omega)) (Nat.le_of_ble_eq_true rfl) rfl) rfl rfl fun a521 h521 => ?_; clear h520
    refine wms 1 h521 rfl fun a522 h522 => ?_; clear h521
    refine wpList_nil (hK519 _ _ ?_)
    have hmm : nth (nextsL x.l k) q ∈ nextsL x.l k := nth_mem _ _ (by omega)
    have hnx := nexts_ok hj (by omega) hmm
    have hre := ReachI.step k _ (hdi2.s1 k (by assumption)) (by omega) hmm
    have hmay : ov = true → MayI x.l (nth (nextsL x.l k) q).toNat := fun h => may_of (hdi2.s1 k (by assumption)) (by omega) (hdi2.s2 k) (by rw [← hov]; exact h) hmm
    refine wp_seq_k fun K523 hK523 => wp_region_lit ?_
    refine wms 2 h522 rfl fun a524 h524 => ?_; clear h522
    have hl525 : sn3.length ≤ 140737488355328 := (h524.sh.own 2 rfl).len
    refine wv h524 (r_ixI (s := (⟨v15, sn3⟩ : Ls Bool)) (q := nth (nextsL x.l k) q) sl_66 ti_4 rfl rfl rfl (fun w h => (h.own 2 rfl)) (show 0 ≤ nth (nextsL x.l k) q ∧ nth (nextsL x.l k) q < sn3.length from (by omega))) rfl rfl fun a526 h526 => ?_; clear h524
    refine wv h526 (r_lde (s := (⟨v15, sn3⟩ : Ls Bool)) (i := (nth (nextsL x.l k) q).toNat) (v := .bool (nth sn3 ((nth (nextsL x.l k) q).toNat))) ti_4 rfl rfl rfl (fun w h => (h.own 2 rfl)) (show (nth (nextsL x.l k) q).toNat < sn3.length from (by omega)) (Nat.le_of_ble_eq_true rfl) rfl) rfl rfl fun a527 h527 => ?_; clear h526
    refine wv h527 (r_not rfl rfl) rfl rfl fun a528 h528 => ?_; clear h527
    refine wms 1 h528 rfl fun a529 h529 => ?_; clear h528
    rcases Bool.eq_false_or_eq_true (!(nth sn3 ((nth (nextsL x.l k) q).toNat))) with hb530 | hb530
    ·
     have hn530 : nth sn3 ((nth (nextsL x.l k) q).toNat) = false := (Bool.not_eq_true' _).mp hb530
     refine wl_skip h529 (wanted_no h529.fr rfl rfl rfl rfl hb530) rfl rfl fun a531 h531 => ?_; clear h529
     refine wl_skip h531 (wanted_no h531.fr rfl rfl rfl rfl hb530) rfl rfl fun a532 h532 => ?_; clear h531
     refine wl_skip h532 (wanted_no2 h532.fr rfl rfl rfl rfl) rfl rfl fun a533 h533 => ?_; clear h532
     refine wl_skip h533 (wanted_no2 h533.fr rfl rfl rfl rfl) rfl rfl fun a534 h534 => ?_; clear h533
     refine wl_skip h534 (wanted_no2 h534.fr rfl rfl rfl rfl) rfl rfl fun a535 h535 => ?_; clear h534
     refine wl_skip h535 (wanted_no2 h535.fr rfl rfl rfl rfl) rfl rfl fun a536 h536 => ?_; clear h535
     refine wl_skip h536 (wanted_no2 h536.fr rfl rfl rfl rfl) rfl rfl fun a537 h537 => ?_; clear h536
     refine wl_skip h537 (wanted_no h537.fr rfl rfl rfl rfl hb530) rfl rfl fun a538 h538 => ?_; clear h537
     refine wv h538 (r_pickT rfl rfl hb530 rfl) rfl rfl fun a539 h539 => ?_; clear h538
     refine wpList_nil (hK523 _ _ ?_)
     refine x_condT h539 rfl rfl ?_
     refine wp_seq_k fun K540 hK540 => wp_region_lit ?_
     refine wms 2 h539 rfl fun a541 h541 => ?_; clear h539
     refine wv h541 (r_ixI (s := (⟨v15, sn3⟩ : Ls Bool)) (q := nth (nextsL x.l k) q) sl_66 ti_4 rfl rfl rfl (fun w h => (h.own 2 rfl)) (show 0 ≤ nth (nextsL x.l k) q ∧ nth (nextsL x.l k) q < sn3.length from (by omega))) rfl rfl fun a542 h542 => ?_; clear h541
     refine wl_ex (x_ste (r := 2) (i := (nth (nextsL x.l k) q).toNat) (j := 0) (x' := (true : Bool)) h542 ti_4 rfl rfl rfl rfl rfl (show (nth (nextsL x.l k) q).toNat < sn3.length from (by omega)) (Nat.le_of_ble_eq_true rfl) rfl rfl rfl (by intro q hq; obtain rfl : q = 0 := (by omega); rfl) (fun w h => Flat.inner _ _) (fun b hb => (Flat.on _ _ hb).elim)) (wanted_none rfl _) ?_
     rintro a543 w543 h543
     clear h542
     refine wms 1 h543 rfl fun a544 h544 => ?_; clear h543
     refine wpList_nil (hK540 _ _ ?_)
     refine wp_region_lit ?_
     refine wms 4 h544 rfl fun a545 h545 => ?_; clear h544
     have hl546 : my3.length ≤ 140737488355328 := (h545.sh.own 3 rfl).len
     refine wv h545 (r_ixI (s := (⟨v9, my3⟩ : Ls Bool)) (q := nth (nextsL x.l k) q) sl_66 ti_4 rfl rfl rfl (fun w h => (h.own 3 rfl)) (show 0 ≤ nth (nextsL x.l k) q ∧ nth (nextsL x.l k) q < my3.length from (by omega))) rfl rfl fun a547 h547 => ?_; clear h545
     refine wv h547 (r_lde (s := (⟨v9, my3⟩ : Ls Bool)) (i := (nth (nextsL x.l k) q).toNat) (v := .bool (nth my3 ((nth (nextsL x.l k) q).toNat))) ti_4 rfl rfl rfl (fun w h => (h.own 3 rfl)) (show (nth (nextsL x.l k) q).toNat < my3.length from (by omega)) (Nat.le_of_ble_eq_true rfl) rfl) rfl rfl fun a548 h548 => ?_; clear h547
     refine wms 1 h548 rfl fun a549 h549 => ?_; clear h548
     rcases Bool.eq_false_or_eq_true (nth my3 ((nth (nextsL x.l k) q).toNat)) with hb550 | hb550
     ·
      skip
      refine wl_skip h549 (wanted_no h549.fr rfl rfl rfl rfl hb550) rfl rfl fun a551 h551 => ?_; clear h549
      refine wv h551 (r_pickT rfl rfl hb550 rfl) rfl rfl fun a552 h552 => ?_; clear h551
      refine wv h552 (r_ixI (s := (⟨v9, my3⟩ : Ls Bool)) (q := nth (nextsL x.l k) q) sl_66 ti_4 rfl rfl rfl (fun w h => (h.own 3 rfl)) (show 0 ≤ nth (nextsL x.l k) q ∧ nth (nextsL x.l k) q < my3.length from (by omega))) rfl rfl fun a553 h553 => ?_; clear h552
      refine wl_ex (x_ste (r := 3) (i := (nth (nextsL x.l k) q).toNat) (j := 0) (x' := (true : Bool)) h553 ti_4 rfl rfl rfl rfl rfl (show (nth (nextsL x.l k) q).toNat < my3.length from (by omega)) (Nat.le_of_ble_eq_true rfl) rfl rfl rfl (by intro q hq; obtain rfl : q = 0 := (by omega); rfl) (fun w h => Flat.inner _ _) (fun b hb => (Flat.on _ _ hb).elim)) (wanted_none rfl _) ?_
      rintro a554 w554 h554
      clear h553
      refine wpList_nil (hK518 _ _ ?_)
      have h555 : St 95 (fun _ => False) W a554 w554 [(0, x.v), (3, v9), (4, v15), (5, .bool true), (8, .bool ov), (22, x.v), (23, .int .i64 ((x.l.length : Nat) : Int)), (24, .int .i64 ((k : Nat) : Int)), (58, s509.v), (59, .int .i64 (((nextsL x.l k).length : Nat) : Int)), (60, .int .i64 ((q : Nat) : Int))] [.own 3 (⟨s509.v, nextsL x.l k⟩ : Ls Int), .blk b45 73 [.int .i64 ((nth x.l k).op), .int .i64 ((nth x.l k).a), .int .i64 ((nth x.l k).b), .int .i64 ((nth x.l k).c)], .own 4 (⟨v15, sn3.set ((nth (nextsL x.l k) q).toNat) true⟩ : Ls Bool), .own 4 (⟨v9, my3.set ((nth (nextsL x.l k) q).toNat) true⟩ : Ls Bool), .at_ x] := h554.nrm ⟨rfl, rfl, rfl, rfl, rfl, rfl, rfl, rfl, rfl, rfl, rfl, trivial⟩ [0, 1, 2, 3, 4] (by decide) ⟨rfl, rfl, rfl, rfl, rfl, trivial⟩
      clear h554
      refine wp_region_lit ?_
      refine wv h555 (r_addN (p := q) (q := 1) rfl rfl rfl (show q + 1 < 9223372036854775808 from (by omega))) rfl rfl fun a556 h556 => ?_; clear h555
      refine wms 1 h556 rfl fun a557 h557 => ?_; clear h556
      refine wpList_nil ?_
      refine x_again ⟨_, ?_, q + 1, sn3.set ((nth (nextsL x.l k) q).toNat) true, my3.set ((nth (nextsL x.l k) q).toNat) true, true, ov, ?_, ?_, ?_, ?_, ?_, h557.nrm ⟨rfl, rfl, rfl, rfl, rfl, rfl, rfl, rfl, rfl, rfl, rfl, trivial⟩ [0, 1, 2, 3, 4] (by decide) ⟨rfl, rfl, rfl, rfl, rfl, trivial⟩, rfl⟩
      · rw [hm513]; first | omega | (simp only [List.length_append, List.length_cons, List.length_nil, List.length_set, List.length_replicate, List.length_map, List.length_range]; omega)
      · omega
      · first | exact hdi3 | exact (hdi3.setS (by omega) hre).setM (fun h => by first | exact hmay h | exact hdi3.s2 _ (by assumption) | exact hmay (by assumption))
      · exact hov
      · first | (intro h; cases h; done) | (intro h; obtain ⟨e0, e1, e2, hp⟩ := h30 h; refine ⟨e0, e1, e2, fun p hp2 => ?_⟩; rcases Nat.lt_or_ge p q with h9 | h9; (exact hp p h9); obtain rfl : p = q := (by omega); exact ⟨by assumption, fun h => by first | assumption | (exfalso; have h8 := (by assumption : ov = false); rw [h8] at h; cases h)⟩)
      · first | exact h31 | (intro _; first | exact growA hle (by omega) (by assumption) (fun h => by first | rfl | exact absurd (h.symm.trans (show _ = false by assumption)) (by decide)) | exact growC hle (by omega) (by assumption) (by first | rfl | assumption))
     refine wl_val h549 (r_move rfl rfl) (wanted_yes h549.fr rfl rfl rfl rfl hb550) rfl rfl fun a558 h558 => ?_; clear h549
     refine wv h558 (r_pickF rfl rfl hb550 rfl) rfl rfl fun a559 h559 => ?_; clear h558
     refine wv h559 (r_ixI (s := (⟨v9, my3⟩ : Ls Bool)) (q := nth (nextsL x.l k) q) sl_66 ti_4 rfl rfl rfl (fun w h => (h.own 3 rfl)) (show 0 ≤ nth (nextsL x.l k) q ∧ nth (nextsL x.l k) q < my3.length from (by omega))) rfl rfl fun a560 h560 => ?_; clear h559
     refine wl_ex (x_ste (r := 3) (i := (nth (nextsL x.l k) q).toNat) (j := 0) (x' := (ov : Bool)) h560 ti_4 rfl rfl rfl rfl rfl (show (nth (nextsL x.l k) q).toNat < my3.length from (by omega)) (Nat.le_of_ble_eq_true rfl) rfl rfl rfl (by intro q hq; obtain rfl : q = 0 := (by omega); rfl) (fun w h => Flat.inner _ _) (fun b hb => (Flat.on _ _ hb).elim)) (wanted_none rfl _) ?_
     rintro a561 w561 h561
     clear h560
     refine wpList_nil (hK518 _ _ ?_)
     have h562 : St 95 (fun _ => False) W a561 w561 [(0, x.v), (3, v9), (4, v15), (5, .bool true), (8, .bool ov), (22, x.v), (23, .int .i64 ((x.l.length : Nat) : Int)), (24, .int .i64 ((k : Nat) : Int)), (58, s509.v), (59, .int .i64 (((nextsL x.l k).length : Nat) : Int)), (60, .int .i64 ((q : Nat) : Int))] [.own 3 (⟨s509.v, nextsL x.l k⟩ : Ls Int), .blk b45 73 [.int .i64 ((nth x.l k).op), .int .i64 ((nth x.l k).a), .int .i64 ((nth x.l k).b), .int .i64 ((nth x.l k).c)], .own 4 (⟨v15, sn3.set ((nth (nextsL x.l k) q).toNat) true⟩ : Ls Bool), .own 4 (⟨v9, my3.set ((nth (nextsL x.l k) q).toNat) ov⟩ : Ls Bool), .at_ x] := h561.nrm ⟨rfl, rfl, rfl, rfl, rfl, rfl, rfl, rfl, rfl, rfl, rfl, trivial⟩ [0, 1, 2, 3, 4] (by decide) ⟨rfl, rfl, rfl, rfl, rfl, trivial⟩
     clear h561
     refine wp_region_lit ?_
     refine wv h562 (r_addN (p := q) (q := 1) rfl rfl rfl (show q + 1 < 9223372036854775808 from (by omega))) rfl rfl fun a563 h563 => ?_; clear h562
     refine wms 1 h563 rfl fun a564 h564 => ?_; clear h563
     refine wpList_nil ?_
     refine x_again ⟨_, ?_, q + 1, sn3.set ((nth (nextsL x.l k) q).toNat) true, my3.set ((nth (nextsL x.l k) q).toNat) ov, true, ov, ?_, ?_, ?_, ?_, ?_, h564.nrm ⟨rfl, rfl, rfl, rfl, rfl, rfl, rfl, rfl, rfl, rfl, rfl, trivial⟩ [0, 1, 2, 3, 4] (by decide) ⟨rfl, rfl, rfl, rfl, rfl, trivial⟩, rfl⟩
     · rw [hm513]; first | omega | (simp only [List.length_append, List.length_cons, List.length_nil, List.length_set, List.length_replicate, List.length_map, List.length_range]; omega)
     · omega
     · first | exact hdi3 | exact (hdi3.setS (by omega) hre).setM (fun h => by first | exact hmay h | exact hdi3.s2 _ (by assumption) | exact hmay (by assumption))
     · exact hov
     · first | (intro h; cases h; done) | (intro h; obtain ⟨e0, e1, e2, hp⟩ := h30 h; refine ⟨e0, e1, e2, fun p hp2 => ?_⟩; rcases Nat.lt_or_ge p q with h9 | h9; (exact hp p h9); obtain rfl : p = q := (by omega); exact ⟨by assumption, fun h => by first | assumption | (exfalso; have h8 := (by assumption : ov = false); rw [h8] at h; cases h)⟩)
     · first | exact h31 | (intro _; first | exact growA hle (by omega) (by assumption) (fun h => by first | rfl | exact absurd (h.symm.trans (show _ = false by assumption)) (by decide)) | exact growC hle (by omega) (by assumption) (by first | rfl | assumption))
    have hn530 : nth sn3 ((nth (nextsL x.l k) q).toNat) = true := (Bool.not_eq_false' _).mp hb530
    refine wl_val h529 (r_move rfl rfl) (wanted_yes h529.fr rfl rfl rfl rfl hb530) rfl rfl fun a565 h565 => ?_; clear h529
    refine wl_val h565 (r_move rfl rfl) (wanted_yes h565.fr rfl rfl rfl rfl hb530) rfl rfl fun a566 h566 => ?_; clear h565
    rcases Bool.eq_false_or_eq_true ov with hb567 | hb567
    ·
     skip
     refine wl_val h566 (r_move rfl rfl) (wanted_yes h566.fr rfl rfl rfl rfl hb567) rfl rfl fun a568 h568 => ?_; clear h566
     refine wl_val h568 (r_move rfl rfl) (wanted_yes h568.fr rfl rfl rfl rfl hb567) rfl rfl fun a569 h569 => ?_; clear h568
     have hl570 : my3.length ≤ 140737488355328 := (h569.sh.own 3 rfl).len
     refine wl_val h569 (r_ixI (s := (⟨v9, my3⟩ : Ls Bool)) (q := nth (nextsL x.l k) q) sl_66 ti_4 rfl rfl rfl (fun w h => (h.own 3 rfl)) (show 0 ≤ nth (nextsL x.l k) q ∧ nth (nextsL x.l k) q < my3.length from (by omega))) (wanted_yes h569.fr rfl rfl rfl rfl hb567) rfl rfl fun a571 h571 => ?_; clear h569
     refine wl_val h571 (r_lde (s := (⟨v9, my3⟩ : Ls Bool)) (i := (nth (nextsL x.l k) q).toNat) (v := .bool (nth my3 ((nth (nextsL x.l k) q).toNat))) ti_4 rfl rfl rfl (fun w h => (h.own 3 rfl)) (show (nth (nextsL x.l k) q).toNat < my3.length from (by omega)) (Nat.le_of_ble_eq_true rfl) rfl) (wanted_yes h571.fr rfl rfl rfl rfl hb567) rfl rfl fun a572 h572 => ?_; clear h571
     refine wl_val h572 (r_not rfl rfl) (wanted_yes h572.fr rfl rfl rfl rfl hb567) rfl rfl fun a573 h573 => ?_; clear h572
     refine wl_val h573 (r_pickT rfl rfl hb567 rfl) (wanted_yes h573.fr rfl rfl rfl rfl hb530) rfl rfl fun a574 h574 => ?_; clear h573
     refine wv h574 (r_pickF rfl rfl hb530 rfl) rfl rfl fun a575 h575 => ?_; clear h574
     refine wpList_nil (hK523 _ _ ?_)
     refine x_cond h575 rfl (fun hb576 => ?_) (fun hb576 => ?_)
     ·
      have hn576 : nth my3 ((nth (nextsL x.l k) q).toNat) = false := (Bool.not_eq_true' _).mp hb576
      refine wp_seq_k fun K577 hK577 => wp_region_lit ?_
      refine wms 2 h575 rfl fun a578 h578 => ?_; clear h575
      refine wv h578 (r_ixI (s := (⟨v15, sn3⟩ : Ls Bool)) (q := nth (nextsL x.l k) q) sl_66 ti_4 rfl rfl rfl (fun w h => (h.own 2 rfl)) (show 0 ≤ nth (nextsL x.l k) q ∧ nth (nextsL x.l k) q < sn3.length from (by omega))) rfl rfl fun a579 h579 => ?_; clear h578
      refine wl_ex (x_ste (r := 2) (i := (nth (nextsL x.l k) q).toNat) (j := 0) (x' := (true : Bool)) h579 ti_4 rfl rfl rfl rfl rfl (show (nth (nextsL x.l k) q).toNat < sn3.length from (by omega)) (Nat.le_of_ble_eq_true rfl) rfl rfl rfl (by intro q hq; obtain rfl : q = 0 := (by omega); rfl) (fun w h => Flat.inner _ _) (fun b hb => (Flat.on _ _ hb).elim)) (wanted_none rfl _) ?_
      rintro a580 w580 h580
      clear h579
      refine wms 1 h580 rfl fun a581 h581 => ?_; clear h580
      refine wpList_nil (hK577 _ _ ?_)
      refine wp_region_lit ?_
      refine wms 4 h581 rfl fun a582 h582 => ?_; clear h581
      refine wv h582 (r_ixI (s := (⟨v9, my3⟩ : Ls Bool)) (q := nth (nextsL x.l k) q) sl_66 ti_4 rfl rfl rfl (fun w h => (h.own 3 rfl)) (show 0 ≤ nth (nextsL x.l k) q ∧ nth (nextsL x.l k) q < my3.length from (by omega))) rfl rfl fun a583 h583 => ?_; clear h582
      refine wv h583 (r_lde (s := (⟨v9, my3⟩ : Ls Bool)) (i := (nth (nextsL x.l k) q).toNat) (v := .bool (nth my3 ((nth (nextsL x.l k) q).toNat))) ti_4 rfl rfl rfl (fun w h => (h.own 3 rfl)) (show (nth (nextsL x.l k) q).toNat < my3.length from (by omega)) (Nat.le_of_ble_eq_true rfl) rfl) rfl rfl fun a584 h584 => ?_; clear h583
      refine wms 1 h584 rfl fun a585 h585 => ?_; clear h584
      refine wl_val h585 (r_move rfl rfl) (wanted_yes h585.fr rfl rfl rfl rfl hn576) rfl rfl fun a586 h586 => ?_; clear h585
      refine wv h586 (r_pickF rfl rfl hn576 rfl) rfl rfl fun a587 h587 => ?_; clear h586
      refine wv h587 (r_ixI (s := (⟨v9, my3⟩ : Ls Bool)) (q := nth (nextsL x.l k) q) sl_66 ti_4 rfl rfl rfl (fun w h => (h.own 3 rfl)) (show 0 ≤ nth (nextsL x.l k) q ∧ nth (nextsL x.l k) q < my3.length from (by omega))) rfl rfl fun a588 h588 => ?_; clear h587
      refine wl_ex (x_ste (r := 3) (i := (nth (nextsL x.l k) q).toNat) (j := 0) (x' := (ov : Bool)) h588 ti_4 rfl rfl rfl rfl rfl (show (nth (nextsL x.l k) q).toNat < my3.length from (by omega)) (Nat.le_of_ble_eq_true rfl) rfl rfl rfl (by intro q hq; obtain rfl : q = 0 := (by omega); rfl) (fun w h => Flat.inner _ _) (fun b hb => (Flat.on _ _ hb).elim)) (wanted_none rfl _) ?_
      rintro a589 w589 h589
      clear h588
      refine wpList_nil (hK518 _ _ ?_)
      have h590 : St 95 (fun _ => False) W a589 w589 [(0, x.v), (3, v9), (4, v15), (5, .bool true), (8, .bool ov), (22, x.v), (23, .int .i64 ((x.l.length : Nat) : Int)), (24, .int .i64 ((k : Nat) : Int)), (58, s509.v), (59, .int .i64 (((nextsL x.l k).length : Nat) : Int)), (60, .int .i64 ((q : Nat) : Int))] [.own 3 (⟨s509.v, nextsL x.l k⟩ : Ls Int), .blk b45 73 [.int .i64 ((nth x.l k).op), .int .i64 ((nth x.l k).a), .int .i64 ((nth x.l k).b), .int .i64 ((nth x.l k).c)], .own 4 (⟨v15, sn3.set ((nth (nextsL x.l k) q).toNat) true⟩ : Ls Bool), .own 4 (⟨v9, my3.set ((nth (nextsL x.l k) q).toNat) ov⟩ : Ls Bool), .at_ x] := h589.nrm ⟨rfl, rfl, rfl, rfl, rfl, rfl, rfl, rfl, rfl, rfl, rfl, trivial⟩ [0, 1, 2, 3, 4] (by decide) ⟨rfl, rfl, rfl, rfl, rfl, trivial⟩
      clear h589
      refine wp_region_lit ?_
      refine wv h590 (r_addN (p := q) (q := 1) rfl rfl rfl (show q + 1 < 9223372036854775808 from (by omega))) rfl rfl fun a591 h591 => ?_; clear h590
      refine wms 1 h591 rfl fun a592 h592 => ?_; clear h591
      refine wpList_nil ?_
      refine x_again ⟨_, ?_, q + 1, sn3.set ((nth (nextsL x.l k) q).toNat) true, my3.set ((nth (nextsL x.l k) q).toNat) ov, true, ov, ?_, ?_, ?_, ?_, ?_, h592.nrm ⟨rfl, rfl, rfl, rfl, rfl, rfl, rfl, rfl, rfl, rfl, rfl, trivial⟩ [0, 1, 2, 3, 4] (by decide) ⟨rfl, rfl, rfl, rfl, rfl, trivial⟩, rfl⟩
      · rw [hm513]; first | omega | (simp only [List.length_append, List.length_cons, List.length_nil, List.length_set, List.length_replicate, List.length_map, List.length_range]; omega)
      · omega
      · first | exact hdi3 | exact (hdi3.setS (by omega) hre).setM (fun h => by first | exact hmay h | exact hdi3.s2 _ (by assumption) | exact hmay (by assumption))
      · exact hov
      · first | (intro h; cases h; done) | (intro h; obtain ⟨e0, e1, e2, hp⟩ := h30 h; refine ⟨e0, e1, e2, fun p hp2 => ?_⟩; rcases Nat.lt_or_ge p q with h9 | h9; (exact hp p h9); obtain rfl : p = q := (by omega); exact ⟨by assumption, fun h => by first | assumption | (exfalso; have h8 := (by assumption : ov = false); rw [h8] at h; cases h)⟩)
      · first | exact h31 | (intro _; first | exact growA hle (by omega) (by assumption) (fun h => by first | rfl | exact absurd (h.symm.trans (show _ = false by assumption)) (by decide)) | exact growC hle (by omega) (by assumption) (by first | rfl | assumption))
     have hn576 : nth my3 ((nth (nextsL x.l k) q).toNat) = true := (Bool.not_eq_false' _).mp hb576
     refine wp_skip ?_
     refine hK518 _ _ ?_
     refine wp_region_lit ?_
     refine wv h575 (r_addN (p := q) (q := 1) rfl rfl rfl (show q + 1 < 9223372036854775808 from (by omega))) rfl rfl fun a593 h593 => ?_; clear h575
     refine wms 1 h593 rfl fun a594 h594 => ?_; clear h593
     refine wpList_nil ?_
     refine x_again ⟨_, ?_, q + 1, sn3, my3, ag3, ov, ?_, ?_, ?_, ?_, ?_, h594.nrm ⟨rfl, rfl, rfl, rfl, rfl, rfl, rfl, rfl, rfl, rfl, rfl, trivial⟩ [0, 1, 2, 3, 4] (by decide) ⟨rfl, rfl, rfl, rfl, rfl, trivial⟩, rfl⟩
     · rw [hm513]; first | omega | (simp only [List.length_append, List.length_cons, List.length_nil, List.length_set, List.length_replicate, List.length_map, List.length_range]; omega)
     · omega
     · first | exact hdi3 | exact (hdi3.setS (by omega) hre).setM (fun h => by first | exact hmay h | exact hdi3.s2 _ (by assumption) | exact hmay (by assumption))
     · exact hov
     · first | (intro h; cases h; done) | (intro h; obtain ⟨e0, e1, e2, hp⟩ := h30 h; refine ⟨e0, e1, e2, fun p hp2 => ?_⟩; rcases Nat.lt_or_ge p q with h9 | h9; (exact hp p h9); obtain rfl : p = q := (by omega); exact ⟨by assumption, fun h => by first | assumption | (exfalso; have h8 := (by assumption : ov = false); rw [h8] at h; cases h)⟩)
     · first | exact h31 | (intro _; first | exact growA hle (by omega) (by assumption) (fun h => by first | rfl | exact absurd (h.symm.trans (show _ = false by assumption)) (by decide)) | exact growC hle (by omega) (by assumption) (by first | rfl | assumption))
    refine wl_skip h566 (wanted_no h566.fr rfl rfl rfl rfl hb567) rfl rfl fun a595 h595 => ?_; clear h566
    refine wl_skip h595 (wanted_no h595.fr rfl rfl rfl rfl hb567) rfl rfl fun a596 h596 => ?_; clear h595
    refine wl_skip h596 (wanted_no h596.fr rfl rfl rfl rfl hb567) rfl rfl fun a597 h597 => ?_; clear h596
    refine wl_skip h597 (wanted_no h597.fr rfl rfl rfl rfl hb567) rfl rfl fun a598 h598 => ?_; clear h597
    refine wl_skip h598 (wanted_no h598.fr rfl rfl rfl rfl hb567) rfl rfl fun a599 h599 => ?_; clear h598
    refine wl_val h599 (r_pickF rfl rfl hb567 rfl) (wanted_yes h599.fr rfl rfl rfl rfl hb530) rfl rfl fun a600 h600 => ?_; clear h599
    refine wv h600 (r_pickF rfl rfl hb530 rfl) rfl rfl fun a601 h601 => ?_; clear h600
    refine wpList_nil (hK523 _ _ ?_)
    refine x_condF h601 rfl rfl ?_
    refine wp_skip ?_
    refine hK518 _ _ ?_
    refine wp_region_lit ?_
    refine wv h601 (r_addN (p := q) (q := 1) rfl rfl rfl (show q + 1 < 9223372036854775808 from (by omega))) rfl rfl fun a602 h602 => ?_; clear h601
    refine wms 1 h602 rfl fun a603 h603 => ?_; clear h602
    refine wpList_nil ?_
    refine x_again ⟨_, ?_, q + 1, sn3, my3, ag3, ov, ?_, ?_, ?_, ?_, ?_, h603.nrm ⟨rfl, rfl, rfl, rfl, rfl, rfl, rfl, rfl, rfl, rfl, rfl, trivial⟩ [0, 1, 2, 3, 4] (by decide) ⟨rfl, rfl, rfl, rfl, rfl, trivial⟩, rfl⟩
    · rw [hm513]; first | omega | (simp only [List.length_append, List.length_cons, List.length_nil, List.length_set, List.length_replicate, List.length_map, List.length_range]; omega)
    · omega
    · first | exact hdi3 | exact (hdi3.setS (by omega) hre).setM (fun h => by first | exact hmay h | exact hdi3.s2 _ (by assumption) | exact hmay (by assumption))
    · exact hov
    · first | (intro h; cases h; done) | (intro h; obtain ⟨e0, e1, e2, hp⟩ := h30 h; refine ⟨e0, e1, e2, fun p hp2 => ?_⟩; rcases Nat.lt_or_ge p q with h9 | h9; (exact hp p h9); obtain rfl : p = q := (by omega); exact ⟨by assumption, fun h => by first | assumption | (exfalso; have h8 := (by assumption : ov = false); rw [h8] at h; cases h)⟩)
    · first | exact h31 | (intro _; first | exact growA hle (by omega) (by assumption) (fun h => by first | rfl | exact absurd (h.symm.trans (show _ = false by assumption)) (by decide)) | exact growC hle (by omega) (by assumption) (by first | rfl | assumption))
   have hp517 : ¬ (q < (nextsL x.l k).length) := of_decide_eq_false hb517
   refine wp_exit ?_
   refine hK40 _ _ ?_
   refine wp_region_lit ?_
   refine wv h515 (r_addN (p := k) (q := 1) rfl rfl rfl (show k + 1 < 9223372036854775808 from (by omega))) rfl rfl fun a604 h604 => ?_; clear h515
   refine wms 1 h604 rfl fun a605 h605 => ?_; clear h604
   refine wpList_nil ?_
   refine x_again ⟨_, ?_, k + 1, sn3, my3, ag3, ?_, ?_, ?_, ?_, h605.nrm ⟨rfl, rfl, rfl, rfl, rfl, rfl, rfl, trivial⟩ [2, 3, 4] (by decide) ⟨rfl, rfl, rfl, trivial⟩, rfl⟩
   · rw [hm35]; first | omega | (simp only [List.length_append, List.length_cons, List.length_nil, List.length_set, List.length_replicate, List.length_map, List.length_range]; omega)
   · omega
   · first | exact hdi3 | exact hdi2
   · first | exact dq_close hov h20 h30 (by omega) | exact dq_skip h20 (by assumption)
   · first | exact h31 | exact h21
  have hp39 : ¬ (k < x.l.length) := of_decide_eq_false hb39
  refine wp_exit ?_
  change ∃ _m, _m < _ ∧ _
  refine ⟨_, ?_, sn2, my2, ag2, ?_, ?_, h37.nrm ⟨rfl, rfl, rfl, rfl, trivial⟩ [0, 1, 2] (by decide) ⟨rfl, rfl, rfl, trivial⟩, rfl⟩
  · rw [hm24]; exact dq_down (by assumption) hdi2.l1 hdi2.l2 h20 h21
  · exact hdi2
  · exact fun h i hi => (h20 h).2.2 i (by omega)
 refine wp_exit ?_
 refine hK21 _ _ ?_
 refine wp_seq_k fun K606 hK606 => wp_region_lit ?_
 refine wms 2 h27 rfl fun a607 h607 => ?_; clear h27
 refine wpList_nil (hK606 _ _ ?_)
 refine wp_ret ?_
 try simp only [Exit.then, Exit.inBlock]
 refine x_ret1 (fn := Try.f76) (t := 2) rfl h607 rfl ?_
 refine ⟨⟨v9, my⟩, rfl, hdi.l2, fun j => DI.fin hdi (hcl (by assumption)) j, (h607.sh.sel (L' := [.own 4 (⟨v9, my⟩ : Ls Bool)]) [1] (by decide) ⟨rfl, trivial⟩)⟩

end Go.Proofs.Ytanhbpofhebbaaa
