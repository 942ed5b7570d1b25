/-
  Contracts of functions of this program and of the references, each walked once.
-/
import Derived.Test.YtanhbpofhebbaaaX40
namespace Go.Proofs.Ytanhbpofhebbaaa
open Go.RowKit
set_option linter.unusedSimpArgs false
set_option linter.unusedVariables false


/-- The threads' events, as data. -/
def thr (T : Ls (Ls Ins)) : List (List Ins) := T.l.map (·.l)
structure HOk (T : Ls (Ls Ins)) (n : Nat) : Prop where
  four : T.l.length = 4
  ev : ∀ t, t < 4 → ∀ i, i < (nth T.l t).l.length → (0 ≤ (nth (nth T.l t).l i).a ∧ (nth (nth T.l t).l i).a < n) ∧ ((nth (nth T.l t).l i).b = 1 ∨ (nth (nth T.l t).l i).b = 2)
  few : ∀ t, t < 4 → (nth T.l t).l.length ≤ 100
  words : n ≤ 100
structure POk (T : Ls (Ls Ins)) (p : List Nat) : Prop where
  len : p.length = 4
  le : ∀ t, t < 4 → nth p t ≤ (nth T.l t).l.length
theorem thr_len {T : Ls (Ls Ins)} {n : Nat} (h : HOk T n) : (thr T).length = 4 := by unfold thr; rw [List.length_map]; exact h.four
theorem thr_nth {T : Ls (Ls Ins)} {n : Nat} (h : HOk T n) {t : Nat} (ht : t < 4) : nth (thr T) t = (nth T.l t).l := nth_map' _ _ _ (by rw [h.four]; exact ht)
/-- The blocks of what was seen. -/
def rdS (M : List (List Nat × Ls (Ls Int))) (c : Nat) : Prop := ∃ x ∈ M, ∃ s ∈ x.2.l, s.on c
theorem rd_iff {E : TypeId} {g : Nat} {M : List (List Nat × Ls (Ls Int))} {c : Nat} (h : (Asn.big (seenX E g M)).rd c) : rdS M c := by
  obtain ⟨A, hA, hc⟩ := h
  rcases List.mem_cons.1 hA with rfl | hA
  · exact hc.elim
  · obtain ⟨x, hx, rfl⟩ := List.mem_map.1 hA
    obtain ⟨i, hi, hc⟩ := hc
    exact ⟨x, hx, nth x.2.l i, nth_mem _ _ hi, hc⟩
theorem rd_fi {E : TypeId} {g : Nat} {M : List (List Nat × Ls (Ls Int))} {c : Nat} (h : rdS M c) : (Asn.big (seenX E g M)).rd c := by
  obtain ⟨x, hx, s, hs, hc⟩ := h
  obtain ⟨i, hi, rfl⟩ := List.mem_iff_getElem.1 hs
  exact ⟨.own E x.2, List.mem_cons_of_mem _ (List.mem_map.2 ⟨x, hx, rfl⟩), i, hi, by rw [nth_lt _ _ hi]; exact hc⟩
theorem rd_ins {k : List Nat} {ws : Ls Int} {M : List (List Nat × Ls (Ls Int))} {u : Value} {c : Nat} (h : rdS (insK k ws M u) c) : rdS M c ∨ ws.on c := by
  have ens : ∀ {c}, rdS (ensK k M) c → rdS M c := by
    rintro c ⟨x, hx, s, hs, hc⟩
    unfold ensK at hx
    split at hx
    · rcases List.mem_append.1 hx with hx | hx
      · exact ⟨x, hx, s, hs, hc⟩
      · obtain rfl : x = _ := by simpa using hx
        cases hs
    · exact ⟨x, hx, s, hs, hc⟩
  obtain ⟨x, hx, s, hs, hc⟩ := h
  rcases List.mem_or_eq_of_mem_set hx with hx | rfl
  · exact .inl (ens ⟨x, hx, s, hs, hc⟩)
  · rcases List.mem_append.1 hs with hs | hs
    · exact .inl (ens ⟨_, nth_mem _ _ (idxK_lt k M), s, hs, hc⟩)
    · obtain rfl : s = ws := by simpa using hs
      exact .inr hc
theorem rd_comp {K : Nat → Prop} {W w : World} {Lp Lr : List Asn} {RM RN RN' on on2 : Nat → Prop} (h : Sh K W w (Lp ++ Lr)) (h1 : ∀ c, RN c → RM c ∨ on c ∨ K c ∨ W.heap.size ≤ c) (h2 : ∀ c, RN' c → RN c ∨ on2 c ∨ (∃ A ∈ Lp, A.fp c) ∨ w.heap.size ≤ c) (h3 : ∀ c, on2 c → on c ∨ K c ∨ W.heap.size ≤ c) (c : Nat) (hc : RN' c) : RM c ∨ on c ∨ K c ∨ W.heap.size ≤ c := by
  rcases h2 c hc with h9 | h9 | ⟨A, hA, h9⟩ | h9
  · exact h1 c h9
  · exact .inr (h3 c h9)
  · exact .inr (.inr (h.mine A (List.mem_append.2 (.inl hA)) c h9))
  · exact .inr (.inr (.inr (Nat.le_trans h.chg.size h9)))
theorem seen_back {A0 A1 A3 : Asn} {ws : Ls Int} {Lr : List Asn} {w : World} {c : Nat} {M M' : List (List Nat × Ls (Ls Int))} {E : TypeId} {g : Nat} (hb : (Asn.big (seenX E g M')).rd c) (e : A0 = .big (seenX E g M)) (h : ∀ c, rdS M' c → rdS M c ∨ ws.on c ∨ (∃ A ∈ [A0, A1, .at_ ws, A3], A.fp c) ∨ w.heap.size ≤ c) : (∃ B ∈ [A0, A1, .at_ ws, A3], B.fp c ∨ B.rd c) ∨ (∃ B ∈ Lr, B.rd c) ∨ w.heap.size ≤ c := by
  rcases h c (rd_iff hb) with h | h | ⟨A, hA, h⟩ | h
  · exact .inl ⟨A0, by simp, .inr (by rw [e]; exact rd_fi h)⟩
  · exact .inl ⟨.at_ ws, by simp, .inr h⟩
  · exact .inl ⟨A, hA, .inl h⟩
  · exact .inr (.inr h)
def FromPost (T : Ls (Ls Ins)) (b g : Nat) (p : List Nat) (ws : Ls Int) (M : List (List Nat × Ls (Ls Int))) (K : Nat → Prop) (W : World) (v : Value) (w' : World) : Prop :=
  ∃ M', v = .bool (can (thr T) p ws.l) ∧ KeysOK M' ∧ cntM M' ≤ cntM M + bnd (restN (thr T) p) ∧ (∀ k l, inS M' k l → inS M k l ∨ p.sum ≤ k.sum) ∧ (can (thr T) p ws.l = false → SeenOK (thr T) M' p.sum) ∧
    (∀ c, rdS M' c → rdS M c ∨ ws.on c ∨ K c ∨ W.heap.size ≤ c) ∧ Sh K W w' [.big (seenX 24 g M'), .blk b 90 [T.v, .map (some g)], .at_ ws, .at_ T]
def FromIs (T : Ls (Ls Ins)) (b g n : Nat) (p : List Nat) (ws : Ls Int) : Prop :=
  ∀ (K : Nat → Prop) (M : List (List Nat × Ls (Ls Int))) (W : World), POk T p → ws.l.length = n → KeysOK M → cntM M + bnd (restN (thr T) p) ≤ 1099511627776 → SeenOK (thr T) M p.sum →
    Sh K W W [.big (seenX 24 g M), .blk b 90 [T.v, .map (some g)], .at_ ws, .at_ T] →
    Rets Try.prog 57 [.pointer (some ⟨b, 0, none⟩), .agg (p.map nv).toArray, ws.v] W (FromPost T b g p ws M K W)

theorem step_no {T : List (List Ins)} {p : List Nat} {ws : List Int} {t : Nat} (h : nth p t = (nth T t).length) : stepB T p ws t = false := by
  unfold stepB
  rw [decide_eq_false (by omega), Bool.false_and]
theorem step_st {T : List (List Ins)} {p : List Nat} {ws : List Int} {t : Nat} {c : Bool} (h : nth p t < (nth T t).length) (h2 : (nth (nth T t) (nth p t)).b = 2) (hc : can T (p.set t (nth p t + 1)) (ws.set (nth (nth T t) (nth p t)).a.toNat (nth (nth T t) (nth p t)).c) = c) : stepB T p ws t = c := by
  unfold stepB
  rw [decide_eq_true h, Bool.true_and, if_pos h2, hc]
theorem step_ld {T : List (List Ins)} {p : List Nat} {ws : List Int} {t : Nat} {c : Bool} (h : nth p t < (nth T t).length) (h2 : (nth (nth T t) (nth p t)).b ≠ 2) (h3 : nth ws (nth (nth T t) (nth p t)).a.toNat = (nth (nth T t) (nth p t)).c) (hc : can T (p.set t (nth p t + 1)) ws = c) : stepB T p ws t = c := by
  unfold stepB
  rw [decide_eq_true h, Bool.true_and, if_neg h2, decide_eq_true h3, Bool.true_and, hc]
theorem step_lo {T : List (List Ins)} {p : List Nat} {ws : List Int} {t : Nat} (h2 : (nth (nth T t) (nth p t)).b ≠ 2) (h3 : nth ws (nth (nth T t) (nth p t)).a.toNat ≠ (nth (nth T t) (nth p t)).c) : stepB T p ws t = false := by
  unfold stepB
  rw [if_neg h2, decide_eq_false h3, Bool.false_and, Bool.and_false]
theorem can_yes {T : List (List Ins)} {p : List Nat} {ws : List Int} {t : Nat} (hp : p.length = T.length) (ht : t < T.length) (h : stepB T p ws t = true) : can T p ws = true := by
  rw [can_eq hp, List.any_eq_true.2 ⟨t, List.mem_range.2 ht, h⟩, Bool.or_true]
theorem can_end {T : List (List Ins)} {p : List Nat} {ws : List Int} {lf : Bool} (hp : p.length = T.length) (hlf : lf = (List.range T.length).any fun q => decide (nth p q ≠ (nth T q).length)) (hno : ∀ q, q < T.length → stepB T p ws q = false) : can T p ws = !lf := by
  have : (List.range T.length).any (stepB T p ws) = false := by
    rw [List.any_eq_false]
    intro q hq
    rw [hno q (List.mem_range.1 hq)]; decide
  rw [can_eq hp, this, Bool.or_false, hlf]
  unfold endB
  rw [List.not_any_eq_all_not]
  congr 1
  funext q
  simp
theorem any_rs {n : Nat} {f : Nat → Bool} : (List.range (n + 1)).any f = ((List.range n).any f || f n) := by rw [List.range_succ, List.any_append]; simp
theorem POk.step {T : Ls (Ls Ins)} {p : List Nat} {t : Nat} (h : POk T p) (ht : t < 4) (hlt : nth p t < (nth T.l t).l.length) : POk T (p.set t (nth p t + 1)) := by
  refine ⟨by rw [List.length_set]; exact h.len, fun q hq => ?_⟩
  rw [nth_setN]
  split
  · rename_i e; obtain ⟨rfl, _⟩ := e; omega
  · exact h.le q hq
theorem seen_up {T : List (List Ins)} {M : List (List Nat × Ls (Ls Int))} {p : List Nat} {ws : Ls Int} {u : Value} (h : SeenOK T M p.sum) : SeenOK T (insK p ws M u) (p.sum + 1) := by
  intro k l hi hd
  rcases ins_in hi with hi | ⟨rfl, _⟩
  · exact h k l hi (by omega)
  · omega
/-- What the loop keeps of what was seen. -/
structure LI (T : List (List Ins)) (M M2 : List (List Nat × Ls (Ls Int))) (p : List Nat) (ws : List Int) (t : Nat) : Prop where
  keys : KeysOK M2
  cnt : cntM M2 ≤ cntM M + 1 + t * bq (restN T p)
  seen : SeenOK T M2 (p.sum + 1)
  from_ : ∀ k l, inS M2 k l → inS M k l ∨ (k = p ∧ l = ws) ∨ p.sum + 1 ≤ k.sum
theorem LI.start {T : List (List Ins)} {M : List (List Nat × Ls (Ls Int))} {p : List Nat} {ws : Ls Int} {u : Value} (hp : p.length = 4) (hk : KeysOK M) (hs : SeenOK T M p.sum) : LI T M (insK p ws M u) p ws.l 0 :=
  ⟨keys_ins hp hk, by rw [cnt_ins]; omega, seen_up hs, fun k l h => (ins_in h).imp id .inl⟩
theorem LI.next {T : List (List Ins)} {M M2 : List (List Nat × Ls (Ls Int))} {p : List Nat} {ws : List Int} {t : Nat} (h : LI T M M2 p ws t) : LI T M M2 p ws (t + 1) :=
  ⟨h.keys, by have := h.cnt; rw [Nat.succ_mul]; omega, h.seen, h.from_⟩
theorem LI.call {T : List (List Ins)} {M M2 M3 : List (List Nat × Ls (Ls Int))} {p p2 : List Nat} {ws : List Int} {t : Nat} (h : LI T M M2 p ws t) (hr : restN T p = restN T p2 + 1) (hs : p2.sum = p.sum + 1) (hk : KeysOK M3) (hc : cntM M3 ≤ cntM M2 + bnd (restN T p2)) (hi : ∀ k l, inS M3 k l → inS M2 k l ∨ p2.sum ≤ k.sum) (ho : SeenOK T M3 p2.sum) : LI T M M3 p ws (t + 1) := by
  refine ⟨hk, ?_, by rw [← hs]; exact ho, fun k l hkl => ?_⟩
  · have := h.cnt
    rw [Nat.succ_mul]
    rw [hr] at this ⊢
    have e : bq (restN T p2 + 1) = bnd (restN T p2) := rfl
    omega
  · rcases hi k l hkl with h9 | h9
    · exact h.from_ k l h9
    · exact .inr (.inr (by omega))
theorem LI.room {T : List (List Ins)} {M M2 : List (List Nat × Ls (Ls Int))} {p p2 : List Nat} {ws : List Int} {t : Nat} (h : LI T M M2 p ws t) (ht : t < 4) (hr : restN T p = restN T p2 + 1) (hb : cntM M + bnd (restN T p) ≤ 1099511627776) : cntM M2 + bnd (restN T p2) ≤ 1099511627776 := by
  have h1 := h.cnt
  have h2 := bnd_bq (restN T p)
  rw [hr] at h1 h2 hb
  have e : bq (restN T p2 + 1) = bnd (restN T p2) := rfl
  rw [e] at h1 h2
  have h3 := Nat.mul_le_mul_right (bnd (restN T p2)) (show t + 1 ≤ 4 by omega)
  rw [Nat.succ_mul] at h3
  omega
theorem LI.bound {T : List (List Ins)} {M M2 : List (List Nat × Ls (Ls Int))} {p : List Nat} {ws : List Int} {t : Nat} (h : LI T M M2 p ws t) (ht : t ≤ 4) : cntM M2 ≤ cntM M + bnd (restN T p) := by
  have h1 := h.cnt
  have h3 := Nat.mul_le_mul_right (bq (restN T p)) ht
  rw [bnd_bq]
  omega
theorem LI.low {T : List (List Ins)} {M M2 : List (List Nat × Ls (Ls Int))} {p : List Nat} {ws : List Int} {t : Nat} (h : LI T M M2 p ws t) (k : List Nat) (l : List Int) (hi : inS M2 k l) : inS M k l ∨ p.sum ≤ k.sum := by
  rcases h.from_ k l hi with h9 | ⟨rfl, _⟩ | h9
  · exact .inl h9
  · exact .inr (Nat.le_refl _)
  · exact .inr (by omega)
theorem LI.end_ {T : List (List Ins)} {M M2 : List (List Nat × Ls (Ls Int))} {p : List Nat} {ws : List Int} {t : Nat} (h : LI T M M2 p ws t) (hs : SeenOK T M p.sum) (hc : can T p ws = false) : SeenOK T M2 p.sum := by
  intro k l hi hd
  rcases h.from_ k l hi with h9 | ⟨rfl, rfl⟩ | h9
  · exact hs k l h9 hd
  · exact hc
  · exact h.seen k l hi h9
/-- What a return of 'true' within the loop says. -/
theorem LI.yes {T : List (List Ins)} {M M2 M3 : List (List Nat × Ls (Ls Int))} {p p2 : List Nat} {ws : List Int} {t : Nat} (h : LI T M M2 p ws t) (ht : t < 4) (hr : restN T p = restN T p2 + 1) (hs : p2.sum = p.sum + 1) (hc : cntM M3 ≤ cntM M2 + bnd (restN T p2)) (hi : ∀ k l, inS M3 k l → inS M2 k l ∨ p2.sum ≤ k.sum) :
    cntM M3 ≤ cntM M + bnd (restN T p) ∧ ∀ k l, inS M3 k l → inS M k l ∨ p.sum ≤ k.sum := by
  refine ⟨?_, fun k l hkl => ?_⟩
  · have h1 := h.cnt
    have h2 := bnd_bq (restN T p)
    rw [hr] at h1 h2 ⊢
    have e : bq (restN T p2 + 1) = bnd (restN T p2) := rfl
    rw [e] at h1 h2
    have h3 := Nat.mul_le_mul_right (bnd (restN T p2)) (show t + 1 ≤ 4 by omega)
    rw [Nat.succ_mul] at h3
    omega
  · rcases hi k l hkl with h9 | h9
    · exact h.low k l h9
    · exact .inr (by omega)
theorem row_room {p : List Nat} {M : List (List Nat × Ls (Ls Int))} (h : cntM M ≤ 1099511627776) : (nth (ensK p M) (idxK p M)).2.l.length ≤ 1099511627776 := by
  have := cnt_ge (idxK_lt p M)
  rw [cnt_ens] at this
  omega

set_option maxRecDepth 100000 in
set_option maxHeartbeats 8000000 in
theorem from_step (T : Ls (Ls Ins)) (b g n : Nat) (p : List Nat) (ws : Ls Int) (K : Nat → Prop) (M : List (List Nat × Ls (Ls Int))) (W : World) (hT : HOk T n) (ih : ∀ (p2 : List Nat) (ws2 : Ls Int), restN (thr T) p2 < restN (thr T) p → FromIs T b g n p2 ws2) (hpo : POk T p) (hwn : ws.l.length = n) (hkM : KeysOK M) (hcn : cntM M + bnd (restN (thr T) p) ≤ 1099511627776) (hse : SeenOK (thr T) M p.sum) (hS : Sh K W W [.big (seenX 24 g M), .blk b 90 [T.v, .map (some g)], .at_ ws, .at_ T]) :
    Rets Try.prog 57 [.pointer (some ⟨b, 0, none⟩), .agg (p.map nv).toArray, ws.v] W (fun v w' => FromPost T b g p ws M K W v w') := by
 have hpl := hpo.len
 have hrow := row_room (p := p) (M := M) (by omega)
 have hww := hT.words
 refine x_enter (N := 92) Try.func57 rfl Try.ntmps57 (Nat.le_of_ble_eq_true rfl) fun a1 hf1 => ?_
 have h1 : St 92 K W a1 W [(0, .pointer (some ⟨b, 0, none⟩)), (1, .agg (p.map nv).toArray), (2, ws.v)] [.big (seenX 24 g M), .blk b 90 [T.v, .map (some g)], .at_ ws, .at_ T] := ⟨hf1.sub ⟨rfl, rfl, rfl, trivial⟩, hS⟩
 clear hf1
 refine wp_seq_k fun K2 hK2 => wp_region_lit ?_
 refine wl_ex (x_boxAn (l := p) h1 rfl rfl rfl rfl) (wanted_none rfl _) ?_
 rintro a3 w3 ⟨b3, h3⟩; clear h1
 refine wl_ex (x_box (cs := [ws.v]) h3 rfl rfl (cells_one ((h3.sh.at 3 rfl)).one) rfl rfl) (wanted_none rfl _) ?_
 rintro a4 w4 ⟨b4, h4⟩; clear h3
 refine wms 1 h4 rfl fun a5 h5 => ?_; clear h4
 refine wpList_nil (hK2 _ _ ?_)
 refine wp_seq_k fun K6 hK6 => ?_
 refine wp_seq_k fun K7 hK7 => ?_
 refine x_quiet (by kernel_rfl) (by kernel_rfl) h5 fun Z8 hZ8 => ?_
 have hq8 := h5.fr
 refine wq_val hq8 (r_move rfl rfl) (wanted_none rfl _) rfl rfl fun a9 hq9 => ?_; clear hq8
 refine wq_val hq9 (r_nil rfl rfl) (wanted_none rfl _) rfl rfl fun a10 hq10 => ?_; clear hq9
 refine wq_val hq10 (r_fieldB (r := 1) fl_90_1 rfl rfl rfl) (wanted_none rfl _) rfl rfl fun a11 hq11 => ?_; clear hq10
 refine wq_val hq11 (r_ldb (i := 3) ti_88 rfl rfl rfl rfl) (wanted_none rfl _) rfl rfl fun a12 hq12 => ?_; clear hq11
 refine wq_val hq12 (r_ldwAn (i := 1) (l := p) ti_92 rfl rfl rfl (by first | assumption | (simp only [lens9]; done) | (simp only [lens9]; first | assumption | omega) | rfl)) (wanted_none rfl _) rfl rfl fun a13 hq13 => ?_; clear hq12
 refine wq_val hq13 (r_lookSeen (i := 2) mp_88 rfl rfl rfl rfl (by first | assumption | (simp only [lens9]; done) | (simp only [lens9]; first | assumption | omega) | rfl) hkM) (wanted_none rfl _) rfl rfl fun a14 hq14 => ?_; clear hq13
 refine wq_val hq14 (r_makeFunc rfl rfl rfl) (wanted_none rfl _) rfl rfl fun a15 hq15 => ?_; clear hq14
 refine wq_call hq15 bd_92 rfl rfl rfl (wanted_none rfl _) rfl rfl (fun w h => (contains_c (rowK p M) b4 ws _ (h.rowKAt 2 rfl p) (h.ok _ (List.mem_of_getElem? (i := 0) rfl)) (h.at 4 rfl))) fun a16 hq16 => ?_; clear hq15
 refine wpQuiet_nil (hZ8 _ fun w17 hw17 => ?_)
 have h17 : St 92 K W a16 w17 _ _ := ⟨hq16, hw17⟩
 clear hq16 hw17 h5
 refine hK7 _ _ ?_
 refine x_cond h17 rfl (fun hb18 => ?_) (fun hb18 => ?_)
 ·
  skip
  refine wp_seq_k fun K19 hK19 => wp_region_lit ?_
  refine wms 1 h17 rfl fun a20 h20 => ?_; clear h17
  refine wpList_nil (hK19 _ _ ?_)
  refine wp_ret ?_
  try simp only [Exit.then, Exit.inBlock]
  refine x_ret1 (fn := Try.f57) (t := 6) rfl h20 rfl ?_
  have hcf := seen_hit hse (by assumption)
  refine ⟨M, by rw [hcf], hkM, by omega, fun k l h9 => .inl h9, fun _ => hse, fun c hc => .inl hc, (h20.sh.sel (L' := [.big (seenX 24 g M), .blk b 90 [T.v, .map (some g)], .at_ ws, .at_ T]) [2, 3, 4, 5] (by decide) ⟨rfl, rfl, rfl, rfl, trivial⟩)⟩
 refine wp_skip ?_
 refine hK6 _ _ ?_
 refine wp_seq_k fun K21 hK21 => ?_
 have h22 : St 92 K W a16 w17 [(0, .pointer (some ⟨b, 0, none⟩)), (1, .agg (p.map nv).toArray), (2, ws.v), (4, .pointer (some ⟨b3, 0, none⟩)), (5, .pointer (some ⟨b4, 0, none⟩)), (6, .bool false), (13, .pointer (some ⟨b, 0, none⟩)), (14, .pointer (some ⟨b, 0, none⟩)), (15, .pointer (some ⟨b, 1, none⟩)), (16, .map (some g)), (17, .agg (p.map nv).toArray), (18, (rowK p M).v), (19, .func (.func 93) #[] #[.pointer (some ⟨b4, 0, none⟩)]), (20, .bool (((rowK p M).l).any fun s => decide (s.l = ws.l)))] [.blk b4 24 [ws.v], .blk b3 92 (p.map nv), .big (seenX 24 g M), .blk b 90 [T.v, .map (some g)], .at_ ws, .at_ T] := h17.nrm ⟨rfl, rfl, rfl, rfl, rfl, rfl, rfl, rfl, rfl, rfl, rfl, rfl, rfl, rfl, trivial⟩ [0, 1, 2, 3, 4, 5] (by decide) ⟨rfl, rfl, rfl, rfl, rfl, rfl, trivial⟩
 clear h17
 refine x_any (fun S a w => (S 6 = false ∧ S 7 = false ∧ S 9 = false ∧ S 11 = false ∧ FrI 92 S [(0, .pointer (some ⟨b, 0, none⟩)), (1, .agg (p.map nv).toArray), (2, ws.v), (4, .pointer (some ⟨b3, 0, none⟩)), (5, .pointer (some ⟨b4, 0, none⟩)), (6, .bool false), (13, .pointer (some ⟨b, 0, none⟩)), (14, .pointer (some ⟨b, 0, none⟩)), (15, .pointer (some ⟨b, 1, none⟩)), (16, .map (some g)), (17, .agg (p.map nv).toArray), (18, (rowK p M).v), (19, .func (.func 93) #[] #[.pointer (some ⟨b4, 0, none⟩)]), (20, .bool (((rowK p M).l).any fun s => decide (s.l = ws.l)))] [(0, 21, .pointer (some ⟨b, 0, none⟩)), (1, 22, .pointer (some ⟨b, 0, none⟩)), (2, 23, .pointer (some ⟨b, 1, none⟩)), (3, 24, .map (some g)), (4, 25, .agg (p.map nv).toArray), (5, 27, ws.v)] a ∧ Sh K W w [.blk b4 24 [ws.v], .blk b3 92 (p.map nv), .big (seenX 24 g M), .blk b 90 [T.v, .map (some g)], .at_ ws, .at_ T]) ∨ (S 6 = true ∧ S 7 = false ∧ S 9 = false ∧ S 11 = false ∧ ∃ (v7006 : Value), FrI 92 S [(0, .pointer (some ⟨b, 0, none⟩)), (1, .agg (p.map nv).toArray), (2, ws.v), (4, .pointer (some ⟨b3, 0, none⟩)), (5, .pointer (some ⟨b4, 0, none⟩)), (6, .bool false), (13, .pointer (some ⟨b, 0, none⟩)), (14, .pointer (some ⟨b, 0, none⟩)), (15, .pointer (some ⟨b, 1, none⟩)), (16, .map (some g)), (17, .agg (p.map nv).toArray), (18, (rowK p M).v), (19, .func (.func 93) #[] #[.pointer (some ⟨b4, 0, none⟩)]), (20, .bool (((rowK p M).l).any fun s => decide (s.l = ws.l)))] [(0, 21, .pointer (some ⟨b, 0, none⟩)), (1, 22, .pointer (some ⟨b, 0, none⟩)), (2, 23, .pointer (some ⟨b, 1, none⟩)), (3, 24, .map (some g)), (4, 25, .agg (p.map nv).toArray), (5, 27, ws.v), (6, 28, v7006)] a ∧ Sh K W w [.own 24 (⟨v7006, [ws]⟩ : Ls (Ls Int)), .blk b4 24 [ws.v], .blk b3 92 (p.map nv), .big (seenX 24 g M), .blk b 90 [T.v, .map (some g)], .at_ ws, .at_ T]) ∨ (S 6 = true ∧ S 7 = true ∧ S 9 = false ∧ S 11 = false ∧ ∃ (v7006 : Value), FrI 92 S [(0, .pointer (some ⟨b, 0, none⟩)), (1, .agg (p.map nv).toArray), (2, ws.v), (4, .pointer (some ⟨b3, 0, none⟩)), (5, .pointer (some ⟨b4, 0, none⟩)), (6, .bool false), (13, .pointer (some ⟨b, 0, none⟩)), (14, .pointer (some ⟨b, 0, none⟩)), (15, .pointer (some ⟨b, 1, none⟩)), (16, .map (some g)), (17, .agg (p.map nv).toArray), (18, (rowK p M).v), (19, .func (.func 93) #[] #[.pointer (some ⟨b4, 0, none⟩)]), (20, .bool (((rowK p M).l).any fun s => decide (s.l = ws.l)))] [(0, 21, .pointer (some ⟨b, 0, none⟩)), (1, 22, .pointer (some ⟨b, 0, none⟩)), (2, 23, .pointer (some ⟨b, 1, none⟩)), (3, 24, .map (some g)), (4, 25, .agg (p.map nv).toArray), (5, 27, ws.v), (6, 28, v7006), (7, 29, .tuple #[(nth (ensK p M) (idxK p M)).2.v, .int .i64 ((idxK p M : Nat) : Int)]), (8, 26, (nth (ensK p M) (idxK p M)).2.v), (10, 31, .int .i64 ((idxK p M : Nat) : Int))] a ∧ Sh K W w [.own 24 (⟨v7006, [ws]⟩ : Ls (Ls Int)), .blk b4 24 [ws.v], .blk b3 92 (p.map nv), .big (seenX 24 g (ensK p M)), .blk b 90 [T.v, .map (some g)], .at_ ws, .at_ T]) ∨ (S 6 = true ∧ S 7 = true ∧ S 9 = true ∧ S 11 = false ∧ ∃ (v7006 : Value) (v7009 : Value), FrI 92 S [(0, .pointer (some ⟨b, 0, none⟩)), (1, .agg (p.map nv).toArray), (2, ws.v), (4, .pointer (some ⟨b3, 0, none⟩)), (5, .pointer (some ⟨b4, 0, none⟩)), (6, .bool false), (13, .pointer (some ⟨b, 0, none⟩)), (14, .pointer (some ⟨b, 0, none⟩)), (15, .pointer (some ⟨b, 1, none⟩)), (16, .map (some g)), (17, .agg (p.map nv).toArray), (18, (rowK p M).v), (19, .func (.func 93) #[] #[.pointer (some ⟨b4, 0, none⟩)]), (20, .bool (((rowK p M).l).any fun s => decide (s.l = ws.l)))] [(0, 21, .pointer (some ⟨b, 0, none⟩)), (1, 22, .pointer (some ⟨b, 0, none⟩)), (2, 23, .pointer (some ⟨b, 1, none⟩)), (3, 24, .map (some g)), (4, 25, .agg (p.map nv).toArray), (5, 27, ws.v), (6, 28, v7006), (7, 29, .tuple #[(nth (ensK p M) (idxK p M)).2.v, .int .i64 ((idxK p M : Nat) : Int)]), (8, 26, (nth (ensK p M) (idxK p M)).2.v), (9, 30, v7009), (10, 31, .int .i64 ((idxK p M : Nat) : Int))] a ∧ Sh K W w [.own 24 (⟨v7009, (nth (ensK p M) (idxK p M)).2.l ++ ([ws])⟩ : Ls (Ls Int)), .own 24 (⟨v7006, [ws]⟩ : Ls (Ls Int)), .blk b4 24 [ws.v], .blk b3 92 (p.map nv), .big (seenH 24 g (ensK p M) (idxK p M)), .blk b 90 [T.v, .map (some g)], .at_ ws, .at_ T]) ∨ (S 6 = true ∧ S 7 = true ∧ S 9 = true ∧ S 11 = true ∧ ∃ (v7006 : Value) (v7009 : Value), FrI 92 S [(0, .pointer (some ⟨b, 0, none⟩)), (1, .agg (p.map nv).toArray), (2, ws.v), (4, .pointer (some ⟨b3, 0, none⟩)), (5, .pointer (some ⟨b4, 0, none⟩)), (6, .bool false), (13, .pointer (some ⟨b, 0, none⟩)), (14, .pointer (some ⟨b, 0, none⟩)), (15, .pointer (some ⟨b, 1, none⟩)), (16, .map (some g)), (17, .agg (p.map nv).toArray), (18, (rowK p M).v), (19, .func (.func 93) #[] #[.pointer (some ⟨b4, 0, none⟩)]), (20, .bool (((rowK p M).l).any fun s => decide (s.l = ws.l)))] [(0, 21, .pointer (some ⟨b, 0, none⟩)), (1, 22, .pointer (some ⟨b, 0, none⟩)), (2, 23, .pointer (some ⟨b, 1, none⟩)), (3, 24, .map (some g)), (4, 25, .agg (p.map nv).toArray), (5, 27, ws.v), (6, 28, v7006), (7, 29, .tuple #[(nth (ensK p M) (idxK p M)).2.v, .int .i64 ((idxK p M : Nat) : Int)]), (8, 26, (nth (ensK p M) (idxK p M)).2.v), (9, 30, v7009), (10, 31, .int .i64 ((idxK p M : Nat) : Int))] a ∧ Sh K W w [.own 24 (⟨v7006, [ws]⟩ : Ls (Ls Int)), .blk b4 24 [ws.v], .blk b3 92 (p.map nv), .big (seenX 24 g (insK p ws M v7009)), .blk b 90 [T.v, .map (some g)], .at_ ws, .at_ T])) (by kernel_rfl) (by kernel_rfl) (Or.inl (⟨rfl, rfl, rfl, rfl, FrI.start h22.fr, h22.sh.drew⟩)) ?_ ?_
 ·intro S i o ho hSi hcl hdep a w hI
  clear h22
  rcases i with _ | _ | _ | _ | _ | _ | _ | _ | _ | _ | _ | _ | i
  ·
   obtain rfl : _ = o := Option.some.inj ho
   rcases hI with ⟨hw6, hw7, hw9, hw11, hfr, hsh⟩ | ⟨hw6, hw7, hw9, hw11, v7006, hfr, hsh⟩ | ⟨hw6, hw7, hw9, hw11, v7006, hfr, hsh⟩ | ⟨hw6, hw7, hw9, hw11, v7006, v7009, hfr, hsh⟩ | ⟨hw6, hw7, hw9, hw11, v7006, v7009, hfr, hsh⟩
   ·
    exact sq hfr hfr.fr0 hsh (r_move rfl rfl) 0 rfl rfl rfl rfl rfl rfl fun a hg => Or.inl (⟨un rfl hw6, un rfl hw7, un rfl hw9, un rfl hw11, hg, hsh⟩)
   ·
    exact sq hfr hfr.fr0 hsh (r_move rfl rfl) 0 rfl rfl rfl rfl rfl rfl fun a hg => Or.inr (Or.inl (⟨un rfl hw6, un rfl hw7, un rfl hw9, un rfl hw11, v7006, hg, hsh⟩))
   ·
    exact no_way (cA hcl 7 0 rfl hw7) hSi
   ·
    exact no_way (cA hcl 7 0 rfl hw7) hSi
   ·
    exact no_way (cA hcl 7 0 rfl hw7) hSi
  ·
   obtain rfl : _ = o := Option.some.inj ho
   have hd0 : S 0 = true := depAt hdep 0 rfl rfl
   rcases hI with ⟨hw6, hw7, hw9, hw11, hfr, hsh⟩ | ⟨hw6, hw7, hw9, hw11, v7006, hfr, hsh⟩ | ⟨hw6, hw7, hw9, hw11, v7006, hfr, hsh⟩ | ⟨hw6, hw7, hw9, hw11, v7006, v7009, hfr, hsh⟩ | ⟨hw6, hw7, hw9, hw11, v7006, v7009, hfr, hsh⟩
   ·
    exact sq hfr (Fr.cons hfr.fr0 (hfr.at_ 0 0 21 _ rfl hd0)) hsh (r_nil rfl rfl) 1 rfl rfl rfl rfl rfl rfl fun a hg => Or.inl (⟨un rfl hw6, un rfl hw7, un rfl hw9, un rfl hw11, hg, hsh⟩)
   ·
    exact sq hfr (Fr.cons hfr.fr0 (hfr.at_ 0 0 21 _ rfl hd0)) hsh (r_nil rfl rfl) 1 rfl rfl rfl rfl rfl rfl fun a hg => Or.inr (Or.inl (⟨un rfl hw6, un rfl hw7, un rfl hw9, un rfl hw11, v7006, hg, hsh⟩))
   ·
    exact no_way (cA hcl 7 1 rfl hw7) hSi
   ·
    exact no_way (cA hcl 7 1 rfl hw7) hSi
   ·
    exact no_way (cA hcl 7 1 rfl hw7) hSi
  ·
   obtain rfl : _ = o := Option.some.inj ho
   have hd1 : S 1 = true := depAt hdep 0 rfl rfl
   rcases hI with ⟨hw6, hw7, hw9, hw11, hfr, hsh⟩ | ⟨hw6, hw7, hw9, hw11, v7006, hfr, hsh⟩ | ⟨hw6, hw7, hw9, hw11, v7006, hfr, hsh⟩ | ⟨hw6, hw7, hw9, hw11, v7006, v7009, hfr, hsh⟩ | ⟨hw6, hw7, hw9, hw11, v7006, v7009, hfr, hsh⟩
   ·
    exact sq hfr (Fr.cons hfr.fr0 (hfr.at_ 1 1 22 _ rfl hd1)) hsh (r_fieldB (r := 1) fl_90_1 rfl rfl rfl) 2 rfl rfl rfl rfl rfl rfl fun a hg => Or.inl (⟨un rfl hw6, un rfl hw7, un rfl hw9, un rfl hw11, hg, hsh⟩)
   ·
    exact sq hfr (Fr.cons hfr.fr0 (hfr.at_ 1 1 22 _ rfl hd1)) hsh (r_fieldB (r := 1) fl_90_1 rfl rfl rfl) 2 rfl rfl rfl rfl rfl rfl fun a hg => Or.inr (Or.inl (⟨un rfl hw6, un rfl hw7, un rfl hw9, un rfl hw11, v7006, hg, hsh⟩))
   ·
    exact no_way (cA hcl 7 2 rfl hw7) hSi
   ·
    exact no_way (cA hcl 7 2 rfl hw7) hSi
   ·
    exact no_way (cA hcl 7 2 rfl hw7) hSi
  ·
   obtain rfl : _ = o := Option.some.inj ho
   have hd2 : S 2 = true := depAt hdep 0 rfl rfl
   rcases hI with ⟨hw6, hw7, hw9, hw11, hfr, hsh⟩ | ⟨hw6, hw7, hw9, hw11, v7006, hfr, hsh⟩ | ⟨hw6, hw7, hw9, hw11, v7006, hfr, hsh⟩ | ⟨hw6, hw7, hw9, hw11, v7006, v7009, hfr, hsh⟩ | ⟨hw6, hw7, hw9, hw11, v7006, v7009, hfr, hsh⟩
   ·
    exact sq hfr (Fr.cons hfr.fr0 (hfr.at_ 2 2 23 _ rfl hd2)) hsh (r_ldb (i := 3) ti_88 rfl rfl rfl rfl) 3 rfl rfl rfl rfl rfl rfl fun a hg => Or.inl (⟨un rfl hw6, un rfl hw7, un rfl hw9, un rfl hw11, hg, hsh⟩)
   ·
    exact sq hfr (Fr.cons hfr.fr0 (hfr.at_ 2 2 23 _ rfl hd2)) hsh (r_ldb (i := 4) ti_88 rfl rfl rfl rfl) 3 rfl rfl rfl rfl rfl rfl fun a hg => Or.inr (Or.inl (⟨un rfl hw6, un rfl hw7, un rfl hw9, un rfl hw11, v7006, hg, hsh⟩))
   ·
    exact no_way (cA hcl 7 3 rfl hw7) hSi
   ·
    exact no_way (cA hcl 7 3 rfl hw7) hSi
   ·
    exact no_way (cA hcl 7 3 rfl hw7) hSi
  ·
   obtain rfl : _ = o := Option.some.inj ho
   rcases hI with ⟨hw6, hw7, hw9, hw11, hfr, hsh⟩ | ⟨hw6, hw7, hw9, hw11, v7006, hfr, hsh⟩ | ⟨hw6, hw7, hw9, hw11, v7006, hfr, hsh⟩ | ⟨hw6, hw7, hw9, hw11, v7006, v7009, hfr, hsh⟩ | ⟨hw6, hw7, hw9, hw11, v7006, v7009, hfr, hsh⟩
   ·
    exact sq hfr hfr.fr0 hsh (r_ldwAn (i := 1) (l := p) ti_92 rfl rfl rfl (by first | assumption | (simp only [lens9]; done) | (simp only [lens9]; first | assumption | omega) | rfl)) 4 rfl rfl rfl rfl rfl rfl fun a hg => Or.inl (⟨un rfl hw6, un rfl hw7, un rfl hw9, un rfl hw11, hg, hsh⟩)
   ·
    exact sq hfr hfr.fr0 hsh (r_ldwAn (i := 2) (l := p) ti_92 rfl rfl rfl (by first | assumption | (simp only [lens9]; done) | (simp only [lens9]; first | assumption | omega) | rfl)) 4 rfl rfl rfl rfl rfl rfl fun a hg => Or.inr (Or.inl (⟨un rfl hw6, un rfl hw7, un rfl hw9, un rfl hw11, v7006, hg, hsh⟩))
   ·
    exact no_way (cA hcl 7 4 rfl hw7) hSi
   ·
    exact no_way (cA hcl 7 4 rfl hw7) hSi
   ·
    exact no_way (cA hcl 7 4 rfl hw7) hSi
  ·
   obtain rfl : _ = o := Option.some.inj ho
   rcases hI with ⟨hw6, hw7, hw9, hw11, hfr, hsh⟩ | ⟨hw6, hw7, hw9, hw11, v7006, hfr, hsh⟩ | ⟨hw6, hw7, hw9, hw11, v7006, hfr, hsh⟩ | ⟨hw6, hw7, hw9, hw11, v7006, v7009, hfr, hsh⟩ | ⟨hw6, hw7, hw9, hw11, v7006, v7009, hfr, hsh⟩
   ·
    exact sq hfr hfr.fr0 hsh (r_ldb (i := 0) ti_24 rfl rfl rfl rfl) 5 rfl rfl rfl rfl rfl rfl fun a hg => Or.inl (⟨un rfl hw6, un rfl hw7, un rfl hw9, un rfl hw11, hg, hsh⟩)
   ·
    exact no_way (cA hcl 6 5 rfl hw6) hSi
   ·
    exact no_way (cA hcl 6 5 rfl hw6) hSi
   ·
    exact no_way (cA hcl 6 5 rfl hw6) hSi
   ·
    exact no_way (cA hcl 6 5 rfl hw6) hSi
  ·
   obtain rfl : _ = o := Option.some.inj ho
   have hd5 : S 5 = true := depAt hdep 0 rfl rfl
   rcases hI with ⟨hw6, hw7, hw9, hw11, hfr, hsh⟩ | ⟨hw6, hw7, hw9, hw11, v7006, hfr, hsh⟩ | ⟨hw6, hw7, hw9, hw11, v7006, hfr, hsh⟩ | ⟨hw6, hw7, hw9, hw11, v7006, v7009, hfr, hsh⟩ | ⟨hw6, hw7, hw9, hw11, v7006, v7009, hfr, hsh⟩
   ·
    have hs := St.mk (Fr.cons hfr.fr0 (hfr.at_ 5 5 27 _ rfl hd5)) hsh
    refine step_ex (x_lit (n := 1) (cs := [ws.v]) ([ws] : List (Ls Int)) hs sl_46 ti_24 rfl rfl rfl (by decide) rfl (by obtain ⟨A39, n39, c39, (e39 : ws.v = _)⟩ := ((hs.sh.at 4 rfl)).form; rw [e39]; kernel_rfl) rfl (fun q hq w h => by obtain rfl : q = 0 := (by simpa using hq); exact (h.at 4 rfl)) (fun q hq b hb => by obtain rfl : q = 0 := (by simpa using hq); exact ⟨_, List.mem_of_getElem? (i := 4) rfl, hb⟩) rfl rfl) (wanted_none rfl _) ?_
    rintro a40 w40 ⟨v40, h40⟩ ⟨v0, ht40⟩
    have hm40 : FrI 92 S [(0, .pointer (some ⟨b, 0, none⟩)), (1, .agg (p.map nv).toArray), (2, ws.v), (4, .pointer (some ⟨b3, 0, none⟩)), (5, .pointer (some ⟨b4, 0, none⟩)), (6, .bool false), (13, .pointer (some ⟨b, 0, none⟩)), (14, .pointer (some ⟨b, 0, none⟩)), (15, .pointer (some ⟨b, 1, none⟩)), (16, .map (some g)), (17, .agg (p.map nv).toArray), (18, (rowK p M).v), (19, .func (.func 93) #[] #[.pointer (some ⟨b4, 0, none⟩)]), (20, .bool (((rowK p M).l).any fun s => decide (s.l = ws.l)))] [(0, 21, .pointer (some ⟨b, 0, none⟩)), (1, 22, .pointer (some ⟨b, 0, none⟩)), (2, 23, .pointer (some ⟨b, 1, none⟩)), (3, 24, .map (some g)), (4, 25, .agg (p.map nv).toArray), (5, 27, ws.v), (6, 28, v40)] a := hfr.more (by
     intro k j d v hk hS
     rcases k with _ | _ | _ | _ | _ | _ | _ | k
     ·obtain ⟨rfl, rfl, rfl⟩ : _ = j ∧ _ = d ∧ _ = v := by simpa using hk
      exact hfr.at_ 0 _ _ _ rfl hS
     ·obtain ⟨rfl, rfl, rfl⟩ : _ = j ∧ _ = d ∧ _ = v := by simpa using hk
      exact hfr.at_ 1 _ _ _ rfl hS
     ·obtain ⟨rfl, rfl, rfl⟩ : _ = j ∧ _ = d ∧ _ = v := by simpa using hk
      exact hfr.at_ 2 _ _ _ rfl hS
     ·obtain ⟨rfl, rfl, rfl⟩ : _ = j ∧ _ = d ∧ _ = v := by simpa using hk
      exact hfr.at_ 3 _ _ _ rfl hS
     ·obtain ⟨rfl, rfl, rfl⟩ : _ = j ∧ _ = d ∧ _ = v := by simpa using hk
      exact hfr.at_ 4 _ _ _ rfl hS
     ·obtain ⟨rfl, rfl, rfl⟩ : _ = j ∧ _ = d ∧ _ = v := by simpa using hk
      exact hfr.at_ 5 _ _ _ rfl hS
     ·obtain ⟨rfl, rfl, rfl⟩ : _ = j ∧ _ = d ∧ _ = v := by simpa using hk
      exact no_way hS hSi
     · simp at hk)
    exact Or.inr (Or.inl (⟨upd_self _ _, un rfl hw7, un rfl hw9, un rfl hw11, v40, hm40.step ht40 h40.fr.defers (h40.fr.at_ 28 _ rfl) 6 rfl rfl rfl rfl, (h40.sh.sel (L' := [.own 24 (⟨v40, [ws]⟩ : Ls (Ls Int)), .blk b4 24 [ws.v], .blk b3 92 (p.map nv), .big (seenX 24 g M), .blk b 90 [T.v, .map (some g)], .at_ ws, .at_ T]) [0, 1, 2, 3, 4, 5, 6] (by decide) ⟨rfl, rfl, rfl, rfl, rfl, rfl, rfl, trivial⟩)⟩))
   ·
    exact no_way hw6 hSi
   ·
    exact no_way hw6 hSi
   ·
    exact no_way hw6 hSi
   ·
    exact no_way hw6 hSi
  ·
   obtain rfl : _ = o := Option.some.inj ho
   have hd3 : S 3 = true := depAt hdep 0 rfl rfl
   have hd4 : S 4 = true := depAt hdep 1 rfl rfl
   have hd6 : S 6 = true := depAt hdep 8 rfl rfl
   rcases hI with ⟨hw6, hw7, hw9, hw11, hfr, hsh⟩ | ⟨hw6, hw7, hw9, hw11, v7006, hfr, hsh⟩ | ⟨hw6, hw7, hw9, hw11, v7006, hfr, hsh⟩ | ⟨hw6, hw7, hw9, hw11, v7006, v7009, hfr, hsh⟩ | ⟨hw6, hw7, hw9, hw11, v7006, v7009, hfr, hsh⟩
   ·
    exact no_way hd6 hw6
   ·
    have hs := St.mk (Fr.cons (Fr.cons hfr.fr0 (hfr.at_ 3 3 24 _ rfl hd3)) (hfr.at_ 4 4 25 _ rfl hd4)) hsh
    refine step_ex (x_mapEntry (i := 3) hs mp_88 rfl rfl rfl rfl (by first | assumption | (simp only [lens9]; done) | (simp only [lens9]; first | assumption | omega) | rfl) hkM rfl rfl) (wanted_none rfl _) ?_
    rintro a41 w41 h41 ⟨v0, ht41⟩
    have hm41 : FrI 92 S [(0, .pointer (some ⟨b, 0, none⟩)), (1, .agg (p.map nv).toArray), (2, ws.v), (4, .pointer (some ⟨b3, 0, none⟩)), (5, .pointer (some ⟨b4, 0, none⟩)), (6, .bool false), (13, .pointer (some ⟨b, 0, none⟩)), (14, .pointer (some ⟨b, 0, none⟩)), (15, .pointer (some ⟨b, 1, none⟩)), (16, .map (some g)), (17, .agg (p.map nv).toArray), (18, (rowK p M).v), (19, .func (.func 93) #[] #[.pointer (some ⟨b4, 0, none⟩)]), (20, .bool (((rowK p M).l).any fun s => decide (s.l = ws.l)))] [(0, 21, .pointer (some ⟨b, 0, none⟩)), (1, 22, .pointer (some ⟨b, 0, none⟩)), (2, 23, .pointer (some ⟨b, 1, none⟩)), (3, 24, .map (some g)), (4, 25, .agg (p.map nv).toArray), (5, 27, ws.v), (6, 28, v7006), (7, 29, .tuple #[(nth (ensK p M) (idxK p M)).2.v, .int .i64 ((idxK p M : Nat) : Int)]), (8, 26, (nth (ensK p M) (idxK p M)).2.v), (10, 31, .int .i64 ((idxK p M : Nat) : Int))] a := hfr.more (by
     intro k j d v hk hS
     rcases k with _ | _ | _ | _ | _ | _ | _ | _ | _ | _ | k
     ·obtain ⟨rfl, rfl, rfl⟩ : _ = j ∧ _ = d ∧ _ = v := by simpa using hk
      exact hfr.at_ 0 _ _ _ rfl hS
     ·obtain ⟨rfl, rfl, rfl⟩ : _ = j ∧ _ = d ∧ _ = v := by simpa using hk
      exact hfr.at_ 1 _ _ _ rfl hS
     ·obtain ⟨rfl, rfl, rfl⟩ : _ = j ∧ _ = d ∧ _ = v := by simpa using hk
      exact hfr.at_ 2 _ _ _ rfl hS
     ·obtain ⟨rfl, rfl, rfl⟩ : _ = j ∧ _ = d ∧ _ = v := by simpa using hk
      exact hfr.at_ 3 _ _ _ rfl hS
     ·obtain ⟨rfl, rfl, rfl⟩ : _ = j ∧ _ = d ∧ _ = v := by simpa using hk
      exact hfr.at_ 4 _ _ _ rfl hS
     ·obtain ⟨rfl, rfl, rfl⟩ : _ = j ∧ _ = d ∧ _ = v := by simpa using hk
      exact hfr.at_ 5 _ _ _ rfl hS
     ·obtain ⟨rfl, rfl, rfl⟩ : _ = j ∧ _ = d ∧ _ = v := by simpa using hk
      exact hfr.at_ 6 _ _ _ rfl hS
     ·obtain ⟨rfl, rfl, rfl⟩ : _ = j ∧ _ = d ∧ _ = v := by simpa using hk
      exact no_way hS hSi
     ·obtain ⟨rfl, rfl, rfl⟩ : _ = j ∧ _ = d ∧ _ = v := by simpa using hk
      exact no_way (cA hcl 8 7 rfl hS) hSi
     ·obtain ⟨rfl, rfl, rfl⟩ : _ = j ∧ _ = d ∧ _ = v := by simpa using hk
      exact no_way (cA hcl 10 7 rfl hS) hSi
     · simp at hk)
    exact Or.inr (Or.inr (Or.inl (⟨un rfl hw6, upd_self _ _, un rfl hw9, un rfl hw11, v7006, hm41.step ht41 h41.fr.defers (h41.fr.at_ 29 _ rfl) 7 rfl rfl rfl rfl, (h41.sh.sel (L' := [.own 24 (⟨v7006, [ws]⟩ : Ls (Ls Int)), .blk b4 24 [ws.v], .blk b3 92 (p.map nv), .big (seenX 24 g (ensK p M)), .blk b 90 [T.v, .map (some g)], .at_ ws, .at_ T]) [0, 1, 2, 3, 4, 5, 6] (by decide) ⟨rfl, rfl, rfl, rfl, rfl, rfl, rfl, trivial⟩)⟩)))
   ·
    exact no_way hw7 hSi
   ·
    exact no_way hw7 hSi
   ·
    exact no_way hw7 hSi
  ·
   obtain rfl : _ = o := Option.some.inj ho
   have hd7 : S 7 = true := depAt hdep 0 rfl rfl
   rcases hI with ⟨hw6, hw7, hw9, hw11, hfr, hsh⟩ | ⟨hw6, hw7, hw9, hw11, v7006, hfr, hsh⟩ | ⟨hw6, hw7, hw9, hw11, v7006, hfr, hsh⟩ | ⟨hw6, hw7, hw9, hw11, v7006, v7009, hfr, hsh⟩ | ⟨hw6, hw7, hw9, hw11, v7006, v7009, hfr, hsh⟩
   ·
    exact no_way (cA hcl 7 6 rfl hd7) hw6
   ·
    exact no_way hd7 hw7
   ·
    exact sq hfr (Fr.cons hfr.fr0 (hfr.at_ 7 7 29 _ rfl hd7)) hsh (r_extract rfl rfl rfl) 8 rfl rfl rfl rfl rfl rfl fun a hg => Or.inr (Or.inr (Or.inl (⟨un rfl hw6, un rfl hw7, un rfl hw9, un rfl hw11, v7006, hg, hsh⟩)))
   ·
    exact no_way (cA hcl 9 8 rfl hw9) hSi
   ·
    exact no_way (cA hcl 9 8 rfl hw9) hSi
  ·
   obtain rfl : _ = o := Option.some.inj ho
   have hd8 : S 8 = true := depAt hdep 0 rfl rfl
   have hd6 : S 6 = true := depAt hdep 1 rfl rfl
   have hd7 : S 7 = true := depAt hdep 2 rfl rfl
   rcases hI with ⟨hw6, hw7, hw9, hw11, hfr, hsh⟩ | ⟨hw6, hw7, hw9, hw11, v7006, hfr, hsh⟩ | ⟨hw6, hw7, hw9, hw11, v7006, hfr, hsh⟩ | ⟨hw6, hw7, hw9, hw11, v7006, v7009, hfr, hsh⟩ | ⟨hw6, hw7, hw9, hw11, v7006, v7009, hfr, hsh⟩
   ·
    exact no_way hd6 hw6
   ·
    exact no_way hd7 hw7
   ·
    have hs := St.mk (Fr.cons (Fr.cons hfr.fr0 (hfr.at_ 6 6 28 _ rfl hd6)) (hfr.at_ 8 8 26 _ rfl hd8)) hsh
    refine step_ex (x_appSeen (i := (idxK p M)) (r := 3) (rm := 0) (m := (⟨v7006, [ws]⟩ : Ls (Ls Int))) hs sl_46 ti_24 rfl rfl rfl rfl (idxK_lt _ _) rfl rfl rfl (fun w h => (h.own 0 rfl)) (fun b hb => own_on (hs.sh.ok _ (List.mem_of_getElem? (i := 0) rfl)) hb) (fun q hq b hb => ⟨q, hq, hb⟩) rfl rfl rfl inferInstance (show (((nth (ensK p M) (idxK p M)).2.l).length + ([ws]).length) * 24 ≤ 140737488355328 ∧ ((nth (ensK p M) (idxK p M)).2.l).length + ([ws]).length ≤ 140737488355328 from (by first | omega | (simp only [lens9]; omega))) rfl rfl) (wanted_none rfl _) ?_
    rintro a43 w43 ⟨v43, h43⟩ ⟨v0, ht43⟩
    have hm43 : FrI 92 S [(0, .pointer (some ⟨b, 0, none⟩)), (1, .agg (p.map nv).toArray), (2, ws.v), (4, .pointer (some ⟨b3, 0, none⟩)), (5, .pointer (some ⟨b4, 0, none⟩)), (6, .bool false), (13, .pointer (some ⟨b, 0, none⟩)), (14, .pointer (some ⟨b, 0, none⟩)), (15, .pointer (some ⟨b, 1, none⟩)), (16, .map (some g)), (17, .agg (p.map nv).toArray), (18, (rowK p M).v), (19, .func (.func 93) #[] #[.pointer (some ⟨b4, 0, none⟩)]), (20, .bool (((rowK p M).l).any fun s => decide (s.l = ws.l)))] [(0, 21, .pointer (some ⟨b, 0, none⟩)), (1, 22, .pointer (some ⟨b, 0, none⟩)), (2, 23, .pointer (some ⟨b, 1, none⟩)), (3, 24, .map (some g)), (4, 25, .agg (p.map nv).toArray), (5, 27, ws.v), (6, 28, v7006), (7, 29, .tuple #[(nth (ensK p M) (idxK p M)).2.v, .int .i64 ((idxK p M : Nat) : Int)]), (8, 26, (nth (ensK p M) (idxK p M)).2.v), (9, 30, v43), (10, 31, .int .i64 ((idxK p M : Nat) : Int))] a := hfr.more (by
     intro k j d v hk hS
     rcases k with _ | _ | _ | _ | _ | _ | _ | _ | _ | _ | _ | k
     ·obtain ⟨rfl, rfl, rfl⟩ : _ = j ∧ _ = d ∧ _ = v := by simpa using hk
      exact hfr.at_ 0 _ _ _ rfl hS
     ·obtain ⟨rfl, rfl, rfl⟩ : _ = j ∧ _ = d ∧ _ = v := by simpa using hk
      exact hfr.at_ 1 _ _ _ rfl hS
     ·obtain ⟨rfl, rfl, rfl⟩ : _ = j ∧ _ = d ∧ _ = v := by simpa using hk
      exact hfr.at_ 2 _ _ _ rfl hS
     ·obtain ⟨rfl, rfl, rfl⟩ : _ = j ∧ _ = d ∧ _ = v := by simpa using hk
      exact hfr.at_ 3 _ _ _ rfl hS
     ·obtain ⟨rfl, rfl, rfl⟩ : _ = j ∧ _ = d ∧ _ = v := by simpa using hk
      exact hfr.at_ 4 _ _ _ rfl hS
     ·obtain ⟨rfl, rfl, rfl⟩ : _ = j ∧ _ = d ∧ _ = v := by simpa using hk
      exact hfr.at_ 5 _ _ _ rfl hS
     ·obtain ⟨rfl, rfl, rfl⟩ : _ = j ∧ _ = d ∧ _ = v := by simpa using hk
      exact hfr.at_ 6 _ _ _ rfl hS
     ·obtain ⟨rfl, rfl, rfl⟩ : _ = j ∧ _ = d ∧ _ = v := by simpa using hk
      exact hfr.at_ 7 _ _ _ rfl hS
     ·obtain ⟨rfl, rfl, rfl⟩ : _ = j ∧ _ = d ∧ _ = v := by simpa using hk
      exact hfr.at_ 8 _ _ _ rfl hS
     ·obtain ⟨rfl, rfl, rfl⟩ : _ = j ∧ _ = d ∧ _ = v := by simpa using hk
      exact no_way hS hSi
     ·obtain ⟨rfl, rfl, rfl⟩ : _ = j ∧ _ = d ∧ _ = v := by simpa using hk
      exact hfr.at_ 9 _ _ _ rfl hS
     · simp at hk)
    exact Or.inr (Or.inr (Or.inr (Or.inl (⟨un rfl hw6, un rfl hw7, upd_self _ _, un rfl hw11, v7006, v43, hm43.step ht43 h43.fr.defers (h43.fr.at_ 30 _ rfl) 9 rfl rfl rfl rfl, (h43.sh.sel (L' := [.own 24 (⟨v43, (nth (ensK p M) (idxK p M)).2.l ++ ([ws])⟩ : Ls (Ls Int)), .own 24 (⟨v7006, [ws]⟩ : Ls (Ls Int)), .blk b4 24 [ws.v], .blk b3 92 (p.map nv), .big (seenH 24 g (ensK p M) (idxK p M)), .blk b 90 [T.v, .map (some g)], .at_ ws, .at_ T]) [0, 1, 2, 3, 4, 5, 6, 7] (by decide) ⟨rfl, rfl, rfl, rfl, rfl, rfl, rfl, rfl, trivial⟩)⟩))))
   ·
    exact no_way hw9 hSi
   ·
    exact no_way hw9 hSi
  ·
   obtain rfl : _ = o := Option.some.inj ho
   have hd7 : S 7 = true := depAt hdep 0 rfl rfl
   rcases hI with ⟨hw6, hw7, hw9, hw11, hfr, hsh⟩ | ⟨hw6, hw7, hw9, hw11, v7006, hfr, hsh⟩ | ⟨hw6, hw7, hw9, hw11, v7006, hfr, hsh⟩ | ⟨hw6, hw7, hw9, hw11, v7006, v7009, hfr, hsh⟩ | ⟨hw6, hw7, hw9, hw11, v7006, v7009, hfr, hsh⟩
   ·
    exact no_way (cA hcl 7 6 rfl hd7) hw6
   ·
    exact no_way hd7 hw7
   ·
    exact sq hfr (Fr.cons hfr.fr0 (hfr.at_ 7 7 29 _ rfl hd7)) hsh (r_extract rfl rfl rfl) 9 rfl rfl rfl rfl rfl rfl fun a hg => Or.inr (Or.inr (Or.inl (⟨un rfl hw6, un rfl hw7, un rfl hw9, un rfl hw11, v7006, hg, hsh⟩)))
   ·
    exact sq hfr (Fr.cons hfr.fr0 (hfr.at_ 7 7 29 _ rfl hd7)) hsh (r_extract rfl rfl rfl) 10 rfl rfl rfl rfl rfl rfl fun a hg => Or.inr (Or.inr (Or.inr (Or.inl (⟨un rfl hw6, un rfl hw7, un rfl hw9, un rfl hw11, v7006, v7009, hg, hsh⟩))))
   ·
    exact no_way (cA hcl 11 10 rfl hw11) hSi
  ·
   obtain rfl : _ = o := Option.some.inj ho
   have hd3 : S 3 = true := depAt hdep 0 rfl rfl
   have hd10 : S 10 = true := depAt hdep 1 rfl rfl
   have hd9 : S 9 = true := depAt hdep 2 rfl rfl
   have hd6 : S 6 = true := depAt hdep 10 rfl rfl
   have hd7 : S 7 = true := depAt hdep 11 rfl rfl
   rcases hI with ⟨hw6, hw7, hw9, hw11, hfr, hsh⟩ | ⟨hw6, hw7, hw9, hw11, v7006, hfr, hsh⟩ | ⟨hw6, hw7, hw9, hw11, v7006, hfr, hsh⟩ | ⟨hw6, hw7, hw9, hw11, v7006, v7009, hfr, hsh⟩ | ⟨hw6, hw7, hw9, hw11, v7006, v7009, hfr, hsh⟩
   ·
    exact no_way hd6 hw6
   ·
    exact no_way hd7 hw7
   ·
    exact no_way hd9 hw9
   ·
    have hs := St.mk (Fr.cons (Fr.cons (Fr.cons hfr.fr0 (hfr.at_ 3 3 24 _ rfl hd3)) (hfr.at_ 9 9 30 _ rfl hd9)) (hfr.at_ 10 10 31 _ rfl hd10)) hsh
    refine step_ex (x_entryStore (i := 3) (q := idxK p M) (s := (⟨v7009, (nth (ensK p M) (idxK p M)).2.l ++ ([ws])⟩ : Ls (Ls Int))) hs rfl rfl rfl rfl rfl rfl (idxK_lt _ _)) (wanted_none rfl _) ?_
    rintro a46 w46 h46 ⟨v0, ht46⟩
    have hm46 : FrI 92 S [(0, .pointer (some ⟨b, 0, none⟩)), (1, .agg (p.map nv).toArray), (2, ws.v), (4, .pointer (some ⟨b3, 0, none⟩)), (5, .pointer (some ⟨b4, 0, none⟩)), (6, .bool false), (13, .pointer (some ⟨b, 0, none⟩)), (14, .pointer (some ⟨b, 0, none⟩)), (15, .pointer (some ⟨b, 1, none⟩)), (16, .map (some g)), (17, .agg (p.map nv).toArray), (18, (rowK p M).v), (19, .func (.func 93) #[] #[.pointer (some ⟨b4, 0, none⟩)]), (20, .bool (((rowK p M).l).any fun s => decide (s.l = ws.l)))] [(0, 21, .pointer (some ⟨b, 0, none⟩)), (1, 22, .pointer (some ⟨b, 0, none⟩)), (2, 23, .pointer (some ⟨b, 1, none⟩)), (3, 24, .map (some g)), (4, 25, .agg (p.map nv).toArray), (5, 27, ws.v), (6, 28, v7006), (7, 29, .tuple #[(nth (ensK p M) (idxK p M)).2.v, .int .i64 ((idxK p M : Nat) : Int)]), (8, 26, (nth (ensK p M) (idxK p M)).2.v), (9, 30, v7009), (10, 31, .int .i64 ((idxK p M : Nat) : Int))] a := hfr.more (by
     intro k j d v hk hS
     rcases k with _ | _ | _ | _ | _ | _ | _ | _ | _ | _ | _ | k
     ·obtain ⟨rfl, rfl, rfl⟩ : _ = j ∧ _ = d ∧ _ = v := by simpa using hk
      exact hfr.at_ 0 _ _ _ rfl hS
     ·obtain ⟨rfl, rfl, rfl⟩ : _ = j ∧ _ = d ∧ _ = v := by simpa using hk
      exact hfr.at_ 1 _ _ _ rfl hS
     ·obtain ⟨rfl, rfl, rfl⟩ : _ = j ∧ _ = d ∧ _ = v := by simpa using hk
      exact hfr.at_ 2 _ _ _ rfl hS
     ·obtain ⟨rfl, rfl, rfl⟩ : _ = j ∧ _ = d ∧ _ = v := by simpa using hk
      exact hfr.at_ 3 _ _ _ rfl hS
     ·obtain ⟨rfl, rfl, rfl⟩ : _ = j ∧ _ = d ∧ _ = v := by simpa using hk
      exact hfr.at_ 4 _ _ _ rfl hS
     ·obtain ⟨rfl, rfl, rfl⟩ : _ = j ∧ _ = d ∧ _ = v := by simpa using hk
      exact hfr.at_ 5 _ _ _ rfl hS
     ·obtain ⟨rfl, rfl, rfl⟩ : _ = j ∧ _ = d ∧ _ = v := by simpa using hk
      exact hfr.at_ 6 _ _ _ rfl hS
     ·obtain ⟨rfl, rfl, rfl⟩ : _ = j ∧ _ = d ∧ _ = v := by simpa using hk
      exact hfr.at_ 7 _ _ _ rfl hS
     ·obtain ⟨rfl, rfl, rfl⟩ : _ = j ∧ _ = d ∧ _ = v := by simpa using hk
      exact hfr.at_ 8 _ _ _ rfl hS
     ·obtain ⟨rfl, rfl, rfl⟩ : _ = j ∧ _ = d ∧ _ = v := by simpa using hk
      exact hfr.at_ 9 _ _ _ rfl hS
     ·obtain ⟨rfl, rfl, rfl⟩ : _ = j ∧ _ = d ∧ _ = v := by simpa using hk
      exact hfr.at_ 10 _ _ _ rfl hS
     · simp at hk)
    exact Or.inr (Or.inr (Or.inr (Or.inr (⟨un rfl hw6, un rfl hw7, un rfl hw9, upd_self _ _, v7006, v7009, hm46.none ht46 h46.fr.defers rfl, (h46.sh.sel (L' := [.own 24 (⟨v7006, [ws]⟩ : Ls (Ls Int)), .blk b4 24 [ws.v], .blk b3 92 (p.map nv), .big (seenX 24 g (insK p ws M v7009)), .blk b 90 [T.v, .map (some g)], .at_ ws, .at_ T]) [0, 1, 2, 3, 4, 5, 6] (by decide) ⟨rfl, rfl, rfl, rfl, rfl, rfl, rfl, trivial⟩)⟩))))
   ·
    exact no_way hw11 hSi
  · simp at ho
 intro S hall a w hI
 clear h22
 rcases hI with ⟨hw6, hw7, hw9, hw11, hfr, hsh⟩ | ⟨hw6, hw7, hw9, hw11, v7006, hfr, hsh⟩ | ⟨hw6, hw7, hw9, hw11, v7006, hfr, hsh⟩ | ⟨hw6, hw7, hw9, hw11, v7006, v7009, hfr, hsh⟩ | ⟨hw6, hw7, hw9, hw11, v7006, v7009, hfr, hsh⟩
 · exact no_way (hall 6 (by decide)) hw6
 · exact no_way (hall 7 (by decide)) hw7
 · exact no_way (hall 9 (by decide)) hw9
 · exact no_way (hall 11 (by decide)) hw11
 have h47 : St 92 K W a w _ [.own 24 (⟨v7006, [ws]⟩ : Ls (Ls Int)), .blk b4 24 [ws.v], .blk b3 92 (p.map nv), .big (seenX 24 g (insK p ws M v7009)), .blk b 90 [T.v, .map (some g)], .at_ ws, .at_ T] := ⟨hfr.fr0, hsh⟩
 clear hall hfr hsh hw6 hw7 hw9 hw11
 refine hK21 _ _ ?_
 refine wp_seq_k fun K48 hK48 => wp_region_lit ?_
 refine wms 1 h47 rfl fun a49 h49 => ?_; clear h47
 refine wpList_nil (hK48 _ _ ?_)
 refine wp_seq_k fun K50 hK50 => ?_
 refine wp_seq_k fun K51 hK51 => wp_region_lit ?_
 refine wms 1 h49 rfl fun a52 h52 => ?_; clear h49
 refine wv h52 (r_nil rfl rfl) rfl rfl fun a53 h53 => ?_; clear h52
 refine wv h53 (r_fieldB (r := 0) fl_90_0 rfl rfl rfl) rfl rfl fun a54 h54 => ?_; clear h53
 refine wv h54 (r_ldb (i := 4) ti_87 rfl rfl rfl rfl) rfl rfl fun a55 h55 => ?_; clear h54
 have hl56 : T.l.length ≤ 140737488355328 := (h55.sh.at 6 rfl).len
 refine wv h55 (r_len (s := T) (n := T.l.length) sl_87 rfl rfl (fun w h => (h.at 6 rfl)) rfl) rfl rfl fun a57 h57 => ?_; clear h55
 refine wms 1 h57 rfl fun a58 h58 => ?_; clear h57
 refine wpList_nil (hK51 _ _ ?_)
 refine wp_block ?_
 have h4 := hT.four
 refine x_loop (fun m a w => ∃ (t : Nat) (lf : Bool) (N : List (List Nat × Ls (Ls Int))), (t ≤ 4) ∧ (lf = (List.range t).any fun q => decide (nth p q ≠ (nth T.l q).l.length)) ∧ (∀ q, q < t → stepB (thr T) p ws.l q = false) ∧ (∀ c, rdS N c → rdS M c ∨ ws.on c ∨ K c ∨ W.heap.size ≤ c) ∧ (LI (thr T) M N p ws.l t) ∧ St 92 K W a w [(0, .pointer (some ⟨b, 0, none⟩)), (4, .pointer (some ⟨b3, 0, none⟩)), (5, .pointer (some ⟨b4, 0, none⟩)), (7, .bool lf), (35, T.v), (36, .int .i64 ((T.l.length : Nat) : Int)), (37, .int .i64 ((t : Nat) : Int))] [.own 24 (⟨v7006, [ws]⟩ : Ls (Ls Int)), .blk b4 24 [ws.v], .blk b3 92 (p.map nv), .big (seenX 24 g N), .blk b 90 [T.v, .map (some g)], .at_ ws, .at_ T] ∧ m = 4 - t) ⟨_, 0, false, insK p ws M v7009, (by omega), (rfl), (fun q hq => absurd hq (by omega)), (fun c hc => (rd_ins hc).imp id .inl), (LI.start hpo.len hkM hse), h58.nrm ⟨rfl, rfl, rfl, rfl, rfl, rfl, rfl, trivial⟩ [0, 1, 2, 3, 4, 5, 6] (by decide) ⟨rfl, rfl, rfl, rfl, rfl, rfl, rfl, trivial⟩, rfl⟩ ?_
 clear h58
 rintro m59 a59 w59 ⟨t, lf, N, ht, hlf, hno, hrd, hli, h59, hm59⟩
 refine wp_seq_k fun K60 hK60 => wp_region_lit ?_
 refine wv h59 (r_lssN (p := t) (q := T.l.length) rfl rfl rfl) rfl rfl fun a61 h61 => ?_; clear h59
 refine wpList_nil (hK60 _ _ ?_)
 refine wp_seq_k fun K62 hK62 => ?_
 refine x_cond h61 rfl (fun hb63 => ?_) (fun hb63 => ?_)
 ·
  have hp63 : t < T.l.length := of_decide_eq_true hb63
  refine wp_skip ?_
  refine hK62 _ _ ?_
  refine wp_seq_k fun K64 hK64 => ?_
  refine wp_block ?_
  refine wp_seq_k fun K65 hK65 => wp_region_lit ?_
  refine wms 1 h61 rfl fun a66 h66 => ?_; clear h61
  refine wv h66 (r_ixN (s := T) (q := t) sl_87 ti_37 rfl rfl rfl (fun w h => (h.at 6 rfl)) (show t < T.l.length from (by omega))) rfl rfl fun a67 h67 => ?_; clear h66
  refine wv h67 (r_lde (s := T) (i := t) (v := (nth T.l t).v) ti_37 rfl rfl rfl (fun w h => (h.at 6 rfl)) (show t < T.l.length from (by omega)) (Nat.le_of_ble_eq_true rfl) rfl) rfl rfl fun a68 h68 => ?_; clear h67
  refine wms 2 h68 rfl fun a69 h69 => ?_; clear h68
  refine wpList_nil (hK65 _ _ ?_)
  have hle := hpo.le t (by omega)
  have hfew := hT.few t (by omega)
  refine wp_seq_k fun K70 hK70 => ?_
  refine wp_seq_k fun K71 hK71 => wp_region_lit ?_
  refine wms 1 h69 rfl fun a72 h72 => ?_; clear h69
  refine wv h72 (r_ixAr (q := t) ar_92 ti_3 rfl rfl rfl rfl (show t < 4 from (by omega))) rfl rfl fun a73 h73 => ?_; clear h72
  refine wv h73 (r_ldAn (i := 2) (l := p) ti_3 rfl rfl rfl (show t < p.length from (by omega))) rfl rfl fun a74 h74 => ?_; clear h73
  refine wms 1 h74 rfl fun a75 h75 => ?_; clear h74
  have hl76 : ((nth T.l t).l).length ≤ 140737488355328 := ((h75.sh.at 6 rfl).nth t (show t < T.l.length from (by omega))).len
  refine wv h75 (r_len (s := nth T.l t) (n := ((nth T.l t).l).length) sl_37 rfl rfl (fun w h => ((h.at 6 rfl).nth t (show t < T.l.length from (by omega)))) rfl) rfl rfl fun a77 h77 => ?_; clear h75
  refine wv h77 (r_eqlN (p := nth p t) (q := ((nth T.l t).l).length) rfl rfl rfl) rfl rfl fun a78 h78 => ?_; clear h77
  refine wpList_nil (hK71 _ _ ?_)
  refine x_cond h78 rfl (fun hb79 => ?_) (fun hb79 => ?_)
  ·
   have hp79 : nth p t = ((nth T.l t).l).length := of_decide_eq_true hb79
   refine wp_exit ?_
   refine hK64 _ _ ?_
   refine wp_region_lit ?_
   refine wv h78 (r_addN (p := t) (q := 1) rfl rfl rfl (show t + 1 < 9223372036854775808 from (by omega))) rfl rfl fun a80 h80 => ?_; clear h78
   refine wms 1 h80 rfl fun a81 h81 => ?_; clear h80
   refine wpList_nil ?_
   refine x_again ⟨_, ?_, t + 1, lf, N, ?_, ?_, ?_, ?_, ?_, h81.nrm ⟨rfl, rfl, rfl, rfl, rfl, rfl, rfl, trivial⟩ [0, 1, 2, 3, 4, 5, 6] (by decide) ⟨rfl, rfl, rfl, rfl, rfl, rfl, rfl, trivial⟩, rfl⟩
   · rw [hm59]; first | omega | (simp only [lens9]; omega)
   · omega
   · rw [any_rs, ← hlf]; first | (rw [decide_eq_false (by omega), Bool.or_false]; done) | (rw [decide_eq_true (by omega), Bool.or_true])
   · intro q hq; rcases Nat.lt_or_ge q t with h9 | h9; exact hno q h9; obtain rfl : q = t := (by omega); first | exact step_no (by rw [thr_nth hT (by omega)]; omega) | exact step_st (by rw [thr_nth hT (by omega)]; omega) (by rw [thr_nth hT (by omega)]; assumption) (by rw [thr_nth hT (by omega)]; assumption) | exact step_ld (by rw [thr_nth hT (by omega)]; omega) (by rw [thr_nth hT (by omega)]; assumption) (by rw [thr_nth hT (by omega)]; assumption) (by assumption) | exact step_lo (by rw [thr_nth hT (by omega)]; assumption) (by rw [thr_nth hT (by omega)]; assumption)
   · first | exact hqq | exact hrd
   · first | exact hli.next | exact LI.call hli hrs hsum (by assumption) (by assumption) (by assumption) ((by assumption : _ = false → SeenOK _ _ _) (by assumption))
  have hp79 : ¬ (nth p t = ((nth T.l t).l).length) := of_decide_eq_false hb79
  refine wp_skip ?_
  refine hK70 _ _ ?_
  refine wp_seq_k fun K82 hK82 => wp_region_lit ?_
  refine wms 1 h78 rfl fun a83 h83 => ?_; clear h78
  refine wpList_nil (hK82 _ _ ?_)
  have hev := hT.ev t (by omega) (nth p t) (by omega)
  have hrs := rest_step (T := thr T) (p := p) (t := t) (by rw [thr_len hT]; exact hpl) (by rw [thr_len hT]; omega) (by rw [thr_nth hT (by omega)]; omega)
  have hsum := sum_set_one (p := p) (t := t) (by omega)
  refine wp_seq_k fun K84 hK84 => ?_
  have h85 : St 92 K W a83 w59 [(0, .pointer (some ⟨b, 0, none⟩)), (4, .pointer (some ⟨b3, 0, none⟩)), (5, .pointer (some ⟨b4, 0, none⟩)), (7, .bool true), (8, .int .i64 ((t : Nat) : Int)), (9, (nth T.l t).v), (35, T.v), (36, .int .i64 ((T.l.length : Nat) : Int)), (37, .int .i64 ((t : Nat) : Int)), (38, .bool (decide (t < T.l.length))), (39, .int .i64 ((t : Nat) : Int)), (40, .pointer (some (padr T.v 1 t 0))), (41, (nth T.l t).v), (42, .int .i64 ((t : Nat) : Int)), (43, .pointer (some ⟨b3, t, none⟩)), (44, .int .i64 ((nth p t : Nat) : Int)), (45, (nth T.l t).v), (46, .int .i64 ((((nth T.l t).l).length : Nat) : Int)), (47, .bool (decide (nth p t = ((nth T.l t).l).length)))] [.own 24 (⟨v7006, [ws]⟩ : Ls (Ls Int)), .blk b4 24 [ws.v], .blk b3 92 (p.map nv), .big (seenX 24 g N), .blk b 90 [T.v, .map (some g)], .at_ ws, .at_ T] := h83.nrm ⟨rfl, rfl, rfl, rfl, rfl, rfl, rfl, rfl, rfl, rfl, rfl, rfl, rfl, rfl, rfl, rfl, rfl, rfl, rfl, trivial⟩ [0, 1, 2, 3, 4, 5, 6] (by decide) ⟨rfl, rfl, rfl, rfl, rfl, rfl, rfl, trivial⟩
  clear h83
  refine x_any (fun S a w => (S 7 = false ∧ S 8 = false ∧ S 9 = false ∧ S 10 = false ∧ FrI 92 S [(0, .pointer (some ⟨b, 0, none⟩)), (4, .pointer (some ⟨b3, 0, none⟩)), (5, .pointer (some ⟨b4, 0, none⟩)), (7, .bool true), (8, .int .i64 ((t : Nat) : Int)), (9, (nth T.l t).v), (35, T.v), (36, .int .i64 ((T.l.length : Nat) : Int)), (37, .int .i64 ((t : Nat) : Int)), (38, .bool (decide (t < T.l.length))), (39, .int .i64 ((t : Nat) : Int)), (40, .pointer (some (padr T.v 1 t 0))), (41, (nth T.l t).v), (42, .int .i64 ((t : Nat) : Int)), (43, .pointer (some ⟨b3, t, none⟩)), (44, .int .i64 ((nth p t : Nat) : Int)), (45, (nth T.l t).v), (46, .int .i64 ((((nth T.l t).l).length : Nat) : Int)), (47, .bool (decide (nth p t = ((nth T.l t).l).length)))] [(0, 48, (nth T.l t).v), (1, 49, .int .i64 ((t : Nat) : Int)), (2, 50, .pointer (some ⟨b3, t, none⟩)), (3, 51, .int .i64 ((nth p t : Nat) : Int)), (4, 52, .pointer (some (padr ((nth T.l t).v) 4 (nth p t) 0))), (5, 53, .agg #[.int .i64 ((nth ((nth T.l t).l) (nth p t)).op), .int .i64 ((nth ((nth T.l t).l) (nth p t)).a), .int .i64 ((nth ((nth T.l t).l) (nth p t)).b), .int .i64 ((nth ((nth T.l t).l) (nth p t)).c)]), (6, 54, .agg (p.map nv).toArray)] a ∧ Sh K W w [.own 24 (⟨v7006, [ws]⟩ : Ls (Ls Int)), .blk b4 24 [ws.v], .blk b3 92 (p.map nv), .big (seenX 24 g N), .blk b 90 [T.v, .map (some g)], .at_ ws, .at_ T]) ∨ (S 7 = true ∧ S 8 = false ∧ S 9 = false ∧ S 10 = false ∧ ∃ (b7007 : Nat), FrI 92 S [(0, .pointer (some ⟨b, 0, none⟩)), (4, .pointer (some ⟨b3, 0, none⟩)), (5, .pointer (some ⟨b4, 0, none⟩)), (7, .bool true), (8, .int .i64 ((t : Nat) : Int)), (9, (nth T.l t).v), (35, T.v), (36, .int .i64 ((T.l.length : Nat) : Int)), (37, .int .i64 ((t : Nat) : Int)), (38, .bool (decide (t < T.l.length))), (39, .int .i64 ((t : Nat) : Int)), (40, .pointer (some (padr T.v 1 t 0))), (41, (nth T.l t).v), (42, .int .i64 ((t : Nat) : Int)), (43, .pointer (some ⟨b3, t, none⟩)), (44, .int .i64 ((nth p t : Nat) : Int)), (45, (nth T.l t).v), (46, .int .i64 ((((nth T.l t).l).length : Nat) : Int)), (47, .bool (decide (nth p t = ((nth T.l t).l).length)))] [(0, 48, (nth T.l t).v), (1, 49, .int .i64 ((t : Nat) : Int)), (2, 50, .pointer (some ⟨b3, t, none⟩)), (3, 51, .int .i64 ((nth p t : Nat) : Int)), (4, 52, .pointer (some (padr ((nth T.l t).v) 4 (nth p t) 0))), (5, 53, .agg #[.int .i64 ((nth ((nth T.l t).l) (nth p t)).op), .int .i64 ((nth ((nth T.l t).l) (nth p t)).a), .int .i64 ((nth ((nth T.l t).l) (nth p t)).b), .int .i64 ((nth ((nth T.l t).l) (nth p t)).c)]), (6, 54, .agg (p.map nv).toArray), (7, 10, .pointer (some ⟨b7007, 0, none⟩))] a ∧ Sh K W w [.blk b7007 36 [.int .i64 0, .int .i64 0, .int .i64 0, .int .i64 0], .own 24 (⟨v7006, [ws]⟩ : Ls (Ls Int)), .blk b4 24 [ws.v], .blk b3 92 (p.map nv), .big (seenX 24 g N), .blk b 90 [T.v, .map (some g)], .at_ ws, .at_ T]) ∨ (S 7 = false ∧ S 8 = true ∧ S 9 = false ∧ S 10 = false ∧ ∃ (b7008 : Nat), FrI 92 S [(0, .pointer (some ⟨b, 0, none⟩)), (4, .pointer (some ⟨b3, 0, none⟩)), (5, .pointer (some ⟨b4, 0, none⟩)), (7, .bool true), (8, .int .i64 ((t : Nat) : Int)), (9, (nth T.l t).v), (35, T.v), (36, .int .i64 ((T.l.length : Nat) : Int)), (37, .int .i64 ((t : Nat) : Int)), (38, .bool (decide (t < T.l.length))), (39, .int .i64 ((t : Nat) : Int)), (40, .pointer (some (padr T.v 1 t 0))), (41, (nth T.l t).v), (42, .int .i64 ((t : Nat) : Int)), (43, .pointer (some ⟨b3, t, none⟩)), (44, .int .i64 ((nth p t : Nat) : Int)), (45, (nth T.l t).v), (46, .int .i64 ((((nth T.l t).l).length : Nat) : Int)), (47, .bool (decide (nth p t = ((nth T.l t).l).length)))] [(0, 48, (nth T.l t).v), (1, 49, .int .i64 ((t : Nat) : Int)), (2, 50, .pointer (some ⟨b3, t, none⟩)), (3, 51, .int .i64 ((nth p t : Nat) : Int)), (4, 52, .pointer (some (padr ((nth T.l t).v) 4 (nth p t) 0))), (5, 53, .agg #[.int .i64 ((nth ((nth T.l t).l) (nth p t)).op), .int .i64 ((nth ((nth T.l t).l) (nth p t)).a), .int .i64 ((nth ((nth T.l t).l) (nth p t)).b), .int .i64 ((nth ((nth T.l t).l) (nth p t)).c)]), (6, 54, .agg (p.map nv).toArray), (8, 11, .pointer (some ⟨b7008, 0, none⟩))] a ∧ Sh K W w [.blk b7008 92 ((List.replicate 4 0).map nv), .own 24 (⟨v7006, [ws]⟩ : Ls (Ls Int)), .blk b4 24 [ws.v], .blk b3 92 (p.map nv), .big (seenX 24 g N), .blk b 90 [T.v, .map (some g)], .at_ ws, .at_ T]) ∨ (S 7 = true ∧ S 8 = true ∧ S 9 = false ∧ S 10 = false ∧ ∃ (b7007 : Nat) (b7008 : Nat), FrI 92 S [(0, .pointer (some ⟨b, 0, none⟩)), (4, .pointer (some ⟨b3, 0, none⟩)), (5, .pointer (some ⟨b4, 0, none⟩)), (7, .bool true), (8, .int .i64 ((t : Nat) : Int)), (9, (nth T.l t).v), (35, T.v), (36, .int .i64 ((T.l.length : Nat) : Int)), (37, .int .i64 ((t : Nat) : Int)), (38, .bool (decide (t < T.l.length))), (39, .int .i64 ((t : Nat) : Int)), (40, .pointer (some (padr T.v 1 t 0))), (41, (nth T.l t).v), (42, .int .i64 ((t : Nat) : Int)), (43, .pointer (some ⟨b3, t, none⟩)), (44, .int .i64 ((nth p t : Nat) : Int)), (45, (nth T.l t).v), (46, .int .i64 ((((nth T.l t).l).length : Nat) : Int)), (47, .bool (decide (nth p t = ((nth T.l t).l).length)))] [(0, 48, (nth T.l t).v), (1, 49, .int .i64 ((t : Nat) : Int)), (2, 50, .pointer (some ⟨b3, t, none⟩)), (3, 51, .int .i64 ((nth p t : Nat) : Int)), (4, 52, .pointer (some (padr ((nth T.l t).v) 4 (nth p t) 0))), (5, 53, .agg #[.int .i64 ((nth ((nth T.l t).l) (nth p t)).op), .int .i64 ((nth ((nth T.l t).l) (nth p t)).a), .int .i64 ((nth ((nth T.l t).l) (nth p t)).b), .int .i64 ((nth ((nth T.l t).l) (nth p t)).c)]), (6, 54, .agg (p.map nv).toArray), (7, 10, .pointer (some ⟨b7007, 0, none⟩)), (8, 11, .pointer (some ⟨b7008, 0, none⟩))] a ∧ Sh K W w [.blk b7008 92 ((List.replicate 4 0).map nv), .blk b7007 36 [.int .i64 0, .int .i64 0, .int .i64 0, .int .i64 0], .own 24 (⟨v7006, [ws]⟩ : Ls (Ls Int)), .blk b4 24 [ws.v], .blk b3 92 (p.map nv), .big (seenX 24 g N), .blk b 90 [T.v, .map (some g)], .at_ ws, .at_ T]) ∨ (S 7 = true ∧ S 8 = true ∧ S 9 = true ∧ S 10 = false ∧ ∃ (b7007 : Nat) (b7008 : Nat), FrI 92 S [(0, .pointer (some ⟨b, 0, none⟩)), (4, .pointer (some ⟨b3, 0, none⟩)), (5, .pointer (some ⟨b4, 0, none⟩)), (7, .bool true), (8, .int .i64 ((t : Nat) : Int)), (9, (nth T.l t).v), (35, T.v), (36, .int .i64 ((T.l.length : Nat) : Int)), (37, .int .i64 ((t : Nat) : Int)), (38, .bool (decide (t < T.l.length))), (39, .int .i64 ((t : Nat) : Int)), (40, .pointer (some (padr T.v 1 t 0))), (41, (nth T.l t).v), (42, .int .i64 ((t : Nat) : Int)), (43, .pointer (some ⟨b3, t, none⟩)), (44, .int .i64 ((nth p t : Nat) : Int)), (45, (nth T.l t).v), (46, .int .i64 ((((nth T.l t).l).length : Nat) : Int)), (47, .bool (decide (nth p t = ((nth T.l t).l).length)))] [(0, 48, (nth T.l t).v), (1, 49, .int .i64 ((t : Nat) : Int)), (2, 50, .pointer (some ⟨b3, t, none⟩)), (3, 51, .int .i64 ((nth p t : Nat) : Int)), (4, 52, .pointer (some (padr ((nth T.l t).v) 4 (nth p t) 0))), (5, 53, .agg #[.int .i64 ((nth ((nth T.l t).l) (nth p t)).op), .int .i64 ((nth ((nth T.l t).l) (nth p t)).a), .int .i64 ((nth ((nth T.l t).l) (nth p t)).b), .int .i64 ((nth ((nth T.l t).l) (nth p t)).c)]), (6, 54, .agg (p.map nv).toArray), (7, 10, .pointer (some ⟨b7007, 0, none⟩)), (8, 11, .pointer (some ⟨b7008, 0, none⟩))] a ∧ Sh K W w [.blk b7008 92 ((List.replicate 4 0).map nv), .blk b7007 36 [.int .i64 ((nth ((nth T.l t).l) (nth p t)).op), .int .i64 ((nth ((nth T.l t).l) (nth p t)).a), .int .i64 ((nth ((nth T.l t).l) (nth p t)).b), .int .i64 ((nth ((nth T.l t).l) (nth p t)).c)], .own 24 (⟨v7006, [ws]⟩ : Ls (Ls Int)), .blk b4 24 [ws.v], .blk b3 92 (p.map nv), .big (seenX 24 g N), .blk b 90 [T.v, .map (some g)], .at_ ws, .at_ T]) ∨ (S 7 = true ∧ S 8 = true ∧ S 9 = true ∧ S 10 = true ∧ ∃ (b7007 : Nat) (b7008 : Nat), FrI 92 S [(0, .pointer (some ⟨b, 0, none⟩)), (4, .pointer (some ⟨b3, 0, none⟩)), (5, .pointer (some ⟨b4, 0, none⟩)), (7, .bool true), (8, .int .i64 ((t : Nat) : Int)), (9, (nth T.l t).v), (35, T.v), (36, .int .i64 ((T.l.length : Nat) : Int)), (37, .int .i64 ((t : Nat) : Int)), (38, .bool (decide (t < T.l.length))), (39, .int .i64 ((t : Nat) : Int)), (40, .pointer (some (padr T.v 1 t 0))), (41, (nth T.l t).v), (42, .int .i64 ((t : Nat) : Int)), (43, .pointer (some ⟨b3, t, none⟩)), (44, .int .i64 ((nth p t : Nat) : Int)), (45, (nth T.l t).v), (46, .int .i64 ((((nth T.l t).l).length : Nat) : Int)), (47, .bool (decide (nth p t = ((nth T.l t).l).length)))] [(0, 48, (nth T.l t).v), (1, 49, .int .i64 ((t : Nat) : Int)), (2, 50, .pointer (some ⟨b3, t, none⟩)), (3, 51, .int .i64 ((nth p t : Nat) : Int)), (4, 52, .pointer (some (padr ((nth T.l t).v) 4 (nth p t) 0))), (5, 53, .agg #[.int .i64 ((nth ((nth T.l t).l) (nth p t)).op), .int .i64 ((nth ((nth T.l t).l) (nth p t)).a), .int .i64 ((nth ((nth T.l t).l) (nth p t)).b), .int .i64 ((nth ((nth T.l t).l) (nth p t)).c)]), (6, 54, .agg (p.map nv).toArray), (7, 10, .pointer (some ⟨b7007, 0, none⟩)), (8, 11, .pointer (some ⟨b7008, 0, none⟩))] a ∧ Sh K W w [.blk b7008 92 (p.map nv), .blk b7007 36 [.int .i64 ((nth ((nth T.l t).l) (nth p t)).op), .int .i64 ((nth ((nth T.l t).l) (nth p t)).a), .int .i64 ((nth ((nth T.l t).l) (nth p t)).b), .int .i64 ((nth ((nth T.l t).l) (nth p t)).c)], .own 24 (⟨v7006, [ws]⟩ : Ls (Ls Int)), .blk b4 24 [ws.v], .blk b3 92 (p.map nv), .big (seenX 24 g N), .blk b 90 [T.v, .map (some g)], .at_ ws, .at_ T])) (by kernel_rfl) (by kernel_rfl) (Or.inl (⟨rfl, rfl, rfl, rfl, FrI.start h85.fr, h85.sh.drew⟩)) ?_ ?_
  ·intro S i o ho hSi hcl hdep a w hI
   clear h85
   rcases i with _ | _ | _ | _ | _ | _ | _ | _ | _ | _ | _ | i
   ·
    obtain rfl : _ = o := Option.some.inj ho
    rcases hI with ⟨hw7, hw8, hw9, hw10, hfr, hsh⟩ | ⟨hw7, hw8, hw9, hw10, b7007, hfr, hsh⟩ | ⟨hw7, hw8, hw9, hw10, b7008, hfr, hsh⟩ | ⟨hw7, hw8, hw9, hw10, b7007, b7008, hfr, hsh⟩ | ⟨hw7, hw8, hw9, hw10, b7007, b7008, hfr, hsh⟩ | ⟨hw7, hw8, hw9, hw10, b7007, b7008, hfr, hsh⟩
    ·
     exact sq hfr hfr.fr0 hsh (r_move rfl rfl) 0 rfl rfl rfl rfl rfl rfl fun a hg => Or.inl (⟨un rfl hw7, un rfl hw8, un rfl hw9, un rfl hw10, hg, hsh⟩)
    ·
     exact sq hfr hfr.fr0 hsh (r_move rfl rfl) 0 rfl rfl rfl rfl rfl rfl fun a hg => Or.inr (Or.inl (⟨un rfl hw7, un rfl hw8, un rfl hw9, un rfl hw10, b7007, hg, hsh⟩))
    ·
     exact sq hfr hfr.fr0 hsh (r_move rfl rfl) 0 rfl rfl rfl rfl rfl rfl fun a hg => Or.inr (Or.inr (Or.inl (⟨un rfl hw7, un rfl hw8, un rfl hw9, un rfl hw10, b7008, hg, hsh⟩)))
    ·
     exact sq hfr hfr.fr0 hsh (r_move rfl rfl) 0 rfl rfl rfl rfl rfl rfl fun a hg => Or.inr (Or.inr (Or.inr (Or.inl (⟨un rfl hw7, un rfl hw8, un rfl hw9, un rfl hw10, b7007, b7008, hg, hsh⟩))))
    ·
     exact no_way (cA hcl 9 0 rfl hw9) hSi
    ·
     exact no_way (cA hcl 9 0 rfl hw9) hSi
   ·
    obtain rfl : _ = o := Option.some.inj ho
    rcases hI with ⟨hw7, hw8, hw9, hw10, hfr, hsh⟩ | ⟨hw7, hw8, hw9, hw10, b7007, hfr, hsh⟩ | ⟨hw7, hw8, hw9, hw10, b7008, hfr, hsh⟩ | ⟨hw7, hw8, hw9, hw10, b7007, b7008, hfr, hsh⟩ | ⟨hw7, hw8, hw9, hw10, b7007, b7008, hfr, hsh⟩ | ⟨hw7, hw8, hw9, hw10, b7007, b7008, hfr, hsh⟩
    ·
     exact sq hfr hfr.fr0 hsh (r_move rfl rfl) 1 rfl rfl rfl rfl rfl rfl fun a hg => Or.inl (⟨un rfl hw7, un rfl hw8, un rfl hw9, un rfl hw10, hg, hsh⟩)
    ·
     exact sq hfr hfr.fr0 hsh (r_move rfl rfl) 1 rfl rfl rfl rfl rfl rfl fun a hg => Or.inr (Or.inl (⟨un rfl hw7, un rfl hw8, un rfl hw9, un rfl hw10, b7007, hg, hsh⟩))
    ·
     exact sq hfr hfr.fr0 hsh (r_move rfl rfl) 1 rfl rfl rfl rfl rfl rfl fun a hg => Or.inr (Or.inr (Or.inl (⟨un rfl hw7, un rfl hw8, un rfl hw9, un rfl hw10, b7008, hg, hsh⟩)))
    ·
     exact sq hfr hfr.fr0 hsh (r_move rfl rfl) 1 rfl rfl rfl rfl rfl rfl fun a hg => Or.inr (Or.inr (Or.inr (Or.inl (⟨un rfl hw7, un rfl hw8, un rfl hw9, un rfl hw10, b7007, b7008, hg, hsh⟩))))
    ·
     exact no_way (cA hcl 9 1 rfl hw9) hSi
    ·
     exact no_way (cA hcl 9 1 rfl hw9) hSi
   ·
    obtain rfl : _ = o := Option.some.inj ho
    have hd1 : S 1 = true := depAt hdep 0 rfl rfl
    rcases hI with ⟨hw7, hw8, hw9, hw10, hfr, hsh⟩ | ⟨hw7, hw8, hw9, hw10, b7007, hfr, hsh⟩ | ⟨hw7, hw8, hw9, hw10, b7008, hfr, hsh⟩ | ⟨hw7, hw8, hw9, hw10, b7007, b7008, hfr, hsh⟩ | ⟨hw7, hw8, hw9, hw10, b7007, b7008, hfr, hsh⟩ | ⟨hw7, hw8, hw9, hw10, b7007, b7008, hfr, hsh⟩
    ·
     exact sq hfr (Fr.cons hfr.fr0 (hfr.at_ 1 1 49 _ rfl hd1)) hsh (r_ixAr (q := t) ar_92 ti_3 rfl rfl rfl rfl (show t < 4 from (by omega))) 2 rfl rfl rfl rfl rfl rfl fun a hg => Or.inl (⟨un rfl hw7, un rfl hw8, un rfl hw9, un rfl hw10, hg, hsh⟩)
    ·
     exact sq hfr (Fr.cons hfr.fr0 (hfr.at_ 1 1 49 _ rfl hd1)) hsh (r_ixAr (q := t) ar_92 ti_3 rfl rfl rfl rfl (show t < 4 from (by omega))) 2 rfl rfl rfl rfl rfl rfl fun a hg => Or.inr (Or.inl (⟨un rfl hw7, un rfl hw8, un rfl hw9, un rfl hw10, b7007, hg, hsh⟩))
    ·
     exact sq hfr (Fr.cons hfr.fr0 (hfr.at_ 1 1 49 _ rfl hd1)) hsh (r_ixAr (q := t) ar_92 ti_3 rfl rfl rfl rfl (show t < 4 from (by omega))) 2 rfl rfl rfl rfl rfl rfl fun a hg => Or.inr (Or.inr (Or.inl (⟨un rfl hw7, un rfl hw8, un rfl hw9, un rfl hw10, b7008, hg, hsh⟩)))
    ·
     exact sq hfr (Fr.cons hfr.fr0 (hfr.at_ 1 1 49 _ rfl hd1)) hsh (r_ixAr (q := t) ar_92 ti_3 rfl rfl rfl rfl (show t < 4 from (by omega))) 2 rfl rfl rfl rfl rfl rfl fun a hg => Or.inr (Or.inr (Or.inr (Or.inl (⟨un rfl hw7, un rfl hw8, un rfl hw9, un rfl hw10, b7007, b7008, hg, hsh⟩))))
    ·
     exact no_way (cA hcl 9 2 rfl hw9) hSi
    ·
     exact no_way (cA hcl 9 2 rfl hw9) hSi
   ·
    obtain rfl : _ = o := Option.some.inj ho
    have hd2 : S 2 = true := depAt hdep 0 rfl rfl
    rcases hI with ⟨hw7, hw8, hw9, hw10, hfr, hsh⟩ | ⟨hw7, hw8, hw9, hw10, b7007, hfr, hsh⟩ | ⟨hw7, hw8, hw9, hw10, b7008, hfr, hsh⟩ | ⟨hw7, hw8, hw9, hw10, b7007, b7008, hfr, hsh⟩ | ⟨hw7, hw8, hw9, hw10, b7007, b7008, hfr, hsh⟩ | ⟨hw7, hw8, hw9, hw10, b7007, b7008, hfr, hsh⟩
    ·
     exact sq hfr (Fr.cons hfr.fr0 (hfr.at_ 2 2 50 _ rfl hd2)) hsh (r_ldAn (i := 2) (l := p) ti_3 rfl rfl rfl (show t < p.length from (by omega))) 3 rfl rfl rfl rfl rfl rfl fun a hg => Or.inl (⟨un rfl hw7, un rfl hw8, un rfl hw9, un rfl hw10, hg, hsh⟩)
    ·
     exact sq hfr (Fr.cons hfr.fr0 (hfr.at_ 2 2 50 _ rfl hd2)) hsh (r_ldAn (i := 3) (l := p) ti_3 rfl rfl rfl (show t < p.length from (by omega))) 3 rfl rfl rfl rfl rfl rfl fun a hg => Or.inr (Or.inl (⟨un rfl hw7, un rfl hw8, un rfl hw9, un rfl hw10, b7007, hg, hsh⟩))
    ·
     exact sq hfr (Fr.cons hfr.fr0 (hfr.at_ 2 2 50 _ rfl hd2)) hsh (r_ldAn (i := 3) (l := p) ti_3 rfl rfl rfl (show t < p.length from (by omega))) 3 rfl rfl rfl rfl rfl rfl fun a hg => Or.inr (Or.inr (Or.inl (⟨un rfl hw7, un rfl hw8, un rfl hw9, un rfl hw10, b7008, hg, hsh⟩)))
    ·
     exact sq hfr (Fr.cons hfr.fr0 (hfr.at_ 2 2 50 _ rfl hd2)) hsh (r_ldAn (i := 4) (l := p) ti_3 rfl rfl rfl (show t < p.length from (by omega))) 3 rfl rfl rfl rfl rfl rfl fun a hg => Or.inr (Or.inr (Or.inr (Or.inl (⟨un rfl hw7, un rfl hw8, un rfl hw9, un rfl hw10, b7007, b7008, hg, hsh⟩))))
    ·
     exact no_way (cA hcl 9 3 rfl hw9) hSi
    ·
     exact no_way (cA hcl 9 3 rfl hw9) hSi
   ·
    obtain rfl : _ = o := Option.some.inj ho
    have hd0 : S 0 = true := depAt hdep 0 rfl rfl
    have hd3 : S 3 = true := depAt hdep 1 rfl rfl
    rcases hI with ⟨hw7, hw8, hw9, hw10, hfr, hsh⟩ | ⟨hw7, hw8, hw9, hw10, b7007, hfr, hsh⟩ | ⟨hw7, hw8, hw9, hw10, b7008, hfr, hsh⟩ | ⟨hw7, hw8, hw9, hw10, b7007, b7008, hfr, hsh⟩ | ⟨hw7, hw8, hw9, hw10, b7007, b7008, hfr, hsh⟩ | ⟨hw7, hw8, hw9, hw10, b7007, b7008, hfr, hsh⟩
    ·
     exact sq hfr (Fr.cons (Fr.cons hfr.fr0 (hfr.at_ 0 0 48 _ rfl hd0)) (hfr.at_ 3 3 51 _ rfl hd3)) hsh (r_ixN (s := nth T.l t) (q := nth p t) sl_37 ti_36 rfl rfl rfl (fun w h => ((h.at 6 rfl).nth t (show t < T.l.length from (by omega)))) (show nth p t < ((nth T.l t).l).length from (by omega))) 4 rfl rfl rfl rfl rfl rfl fun a hg => Or.inl (⟨un rfl hw7, un rfl hw8, un rfl hw9, un rfl hw10, hg, hsh⟩)
    ·
     exact sq hfr (Fr.cons (Fr.cons hfr.fr0 (hfr.at_ 0 0 48 _ rfl hd0)) (hfr.at_ 3 3 51 _ rfl hd3)) hsh (r_ixN (s := nth T.l t) (q := nth p t) sl_37 ti_36 rfl rfl rfl (fun w h => ((h.at 7 rfl).nth t (show t < T.l.length from (by omega)))) (show nth p t < ((nth T.l t).l).length from (by omega))) 4 rfl rfl rfl rfl rfl rfl fun a hg => Or.inr (Or.inl (⟨un rfl hw7, un rfl hw8, un rfl hw9, un rfl hw10, b7007, hg, hsh⟩))
    ·
     exact sq hfr (Fr.cons (Fr.cons hfr.fr0 (hfr.at_ 0 0 48 _ rfl hd0)) (hfr.at_ 3 3 51 _ rfl hd3)) hsh (r_ixN (s := nth T.l t) (q := nth p t) sl_37 ti_36 rfl rfl rfl (fun w h => ((h.at 7 rfl).nth t (show t < T.l.length from (by omega)))) (show nth p t < ((nth T.l t).l).length from (by omega))) 4 rfl rfl rfl rfl rfl rfl fun a hg => Or.inr (Or.inr (Or.inl (⟨un rfl hw7, un rfl hw8, un rfl hw9, un rfl hw10, b7008, hg, hsh⟩)))
    ·
     exact sq hfr (Fr.cons (Fr.cons hfr.fr0 (hfr.at_ 0 0 48 _ rfl hd0)) (hfr.at_ 3 3 51 _ rfl hd3)) hsh (r_ixN (s := nth T.l t) (q := nth p t) sl_37 ti_36 rfl rfl rfl (fun w h => ((h.at 8 rfl).nth t (show t < T.l.length from (by omega)))) (show nth p t < ((nth T.l t).l).length from (by omega))) 4 rfl rfl rfl rfl rfl rfl fun a hg => Or.inr (Or.inr (Or.inr (Or.inl (⟨un rfl hw7, un rfl hw8, un rfl hw9, un rfl hw10, b7007, b7008, hg, hsh⟩))))
    ·
     exact no_way (cA hcl 9 4 rfl hw9) hSi
    ·
     exact no_way (cA hcl 9 4 rfl hw9) hSi
   ·
    obtain rfl : _ = o := Option.some.inj ho
    have hd4 : S 4 = true := depAt hdep 0 rfl rfl
    rcases hI with ⟨hw7, hw8, hw9, hw10, hfr, hsh⟩ | ⟨hw7, hw8, hw9, hw10, b7007, hfr, hsh⟩ | ⟨hw7, hw8, hw9, hw10, b7008, hfr, hsh⟩ | ⟨hw7, hw8, hw9, hw10, b7007, b7008, hfr, hsh⟩ | ⟨hw7, hw8, hw9, hw10, b7007, b7008, hfr, hsh⟩ | ⟨hw7, hw8, hw9, hw10, b7007, b7008, hfr, hsh⟩
    ·
     exact sq hfr (Fr.cons hfr.fr0 (hfr.at_ 4 4 52 _ rfl hd4)) hsh (r_ldew (s := nth T.l t) (i := nth p t) (vs := [.int .i64 ((nth ((nth T.l t).l) (nth p t)).op), .int .i64 ((nth ((nth T.l t).l) (nth p t)).a), .int .i64 ((nth ((nth T.l t).l) (nth p t)).b), .int .i64 ((nth ((nth T.l t).l) (nth p t)).c)]) ti_36 rfl rfl rfl (fun w h => ((h.at 6 rfl).nth t (show t < T.l.length from (by omega)))) (show nth p t < ((nth T.l t).l).length from (by omega)) (Nat.le_of_ble_eq_true rfl) rfl) 5 rfl rfl rfl rfl rfl rfl fun a hg => Or.inl (⟨un rfl hw7, un rfl hw8, un rfl hw9, un rfl hw10, hg, hsh⟩)
    ·
     exact sq hfr (Fr.cons hfr.fr0 (hfr.at_ 4 4 52 _ rfl hd4)) hsh (r_ldew (s := nth T.l t) (i := nth p t) (vs := [.int .i64 ((nth ((nth T.l t).l) (nth p t)).op), .int .i64 ((nth ((nth T.l t).l) (nth p t)).a), .int .i64 ((nth ((nth T.l t).l) (nth p t)).b), .int .i64 ((nth ((nth T.l t).l) (nth p t)).c)]) ti_36 rfl rfl rfl (fun w h => ((h.at 7 rfl).nth t (show t < T.l.length from (by omega)))) (show nth p t < ((nth T.l t).l).length from (by omega)) (Nat.le_of_ble_eq_true rfl) rfl) 5 rfl rfl rfl rfl rfl rfl fun a hg => Or.inr (Or.inl (⟨un rfl hw7, un rfl hw8, un rfl hw9, un rfl hw10, b7007, hg, hsh⟩))
    ·
     exact sq hfr (Fr.cons hfr.fr0 (hfr.at_ 4 4 52 _ rfl hd4)) hsh (r_ldew (s := nth T.l t) (i := nth p t) (vs := [.int .i64 ((nth ((nth T.l t).l) (nth p t)).op), .int .i64 ((nth ((nth T.l t).l) (nth p t)).a), .int .i64 ((nth ((nth T.l t).l) (nth p t)).b), .int .i64 ((nth ((nth T.l t).l) (nth p t)).c)]) ti_36 rfl rfl rfl (fun w h => ((h.at 7 rfl).nth t (show t < T.l.length from (by omega)))) (show nth p t < ((nth T.l t).l).length from (by omega)) (Nat.le_of_ble_eq_true rfl) rfl) 5 rfl rfl rfl rfl rfl rfl fun a hg => Or.inr (Or.inr (Or.inl (⟨un rfl hw7, un rfl hw8, un rfl hw9, un rfl hw10, b7008, hg, hsh⟩)))
    ·
     exact sq hfr (Fr.cons hfr.fr0 (hfr.at_ 4 4 52 _ rfl hd4)) hsh (r_ldew (s := nth T.l t) (i := nth p t) (vs := [.int .i64 ((nth ((nth T.l t).l) (nth p t)).op), .int .i64 ((nth ((nth T.l t).l) (nth p t)).a), .int .i64 ((nth ((nth T.l t).l) (nth p t)).b), .int .i64 ((nth ((nth T.l t).l) (nth p t)).c)]) ti_36 rfl rfl rfl (fun w h => ((h.at 8 rfl).nth t (show t < T.l.length from (by omega)))) (show nth p t < ((nth T.l t).l).length from (by omega)) (Nat.le_of_ble_eq_true rfl) rfl) 5 rfl rfl rfl rfl rfl rfl fun a hg => Or.inr (Or.inr (Or.inr (Or.inl (⟨un rfl hw7, un rfl hw8, un rfl hw9, un rfl hw10, b7007, b7008, hg, hsh⟩))))
    ·
     exact no_way (cA hcl 9 5 rfl hw9) hSi
    ·
     exact no_way (cA hcl 9 5 rfl hw9) hSi
   ·
    obtain rfl : _ = o := Option.some.inj ho
    rcases hI with ⟨hw7, hw8, hw9, hw10, hfr, hsh⟩ | ⟨hw7, hw8, hw9, hw10, b7007, hfr, hsh⟩ | ⟨hw7, hw8, hw9, hw10, b7008, hfr, hsh⟩ | ⟨hw7, hw8, hw9, hw10, b7007, b7008, hfr, hsh⟩ | ⟨hw7, hw8, hw9, hw10, b7007, b7008, hfr, hsh⟩ | ⟨hw7, hw8, hw9, hw10, b7007, b7008, hfr, hsh⟩
    ·
     exact sq hfr hfr.fr0 hsh (r_ldwAn (i := 2) (l := p) ti_92 rfl rfl rfl (by first | assumption | (simp only [lens9]; done) | (simp only [lens9]; first | assumption | omega) | rfl)) 6 rfl rfl rfl rfl rfl rfl fun a hg => Or.inl (⟨un rfl hw7, un rfl hw8, un rfl hw9, un rfl hw10, hg, hsh⟩)
    ·
     exact sq hfr hfr.fr0 hsh (r_ldwAn (i := 3) (l := p) ti_92 rfl rfl rfl (by first | assumption | (simp only [lens9]; done) | (simp only [lens9]; first | assumption | omega) | rfl)) 6 rfl rfl rfl rfl rfl rfl fun a hg => Or.inr (Or.inl (⟨un rfl hw7, un rfl hw8, un rfl hw9, un rfl hw10, b7007, hg, hsh⟩))
    ·
     exact sq hfr hfr.fr0 hsh (r_ldwAn (i := 3) (l := p) ti_92 rfl rfl rfl (by first | assumption | (simp only [lens9]; done) | (simp only [lens9]; first | assumption | omega) | rfl)) 6 rfl rfl rfl rfl rfl rfl fun a hg => Or.inr (Or.inr (Or.inl (⟨un rfl hw7, un rfl hw8, un rfl hw9, un rfl hw10, b7008, hg, hsh⟩)))
    ·
     exact sq hfr hfr.fr0 hsh (r_ldwAn (i := 4) (l := p) ti_92 rfl rfl rfl (by first | assumption | (simp only [lens9]; done) | (simp only [lens9]; first | assumption | omega) | rfl)) 6 rfl rfl rfl rfl rfl rfl fun a hg => Or.inr (Or.inr (Or.inr (Or.inl (⟨un rfl hw7, un rfl hw8, un rfl hw9, un rfl hw10, b7007, b7008, hg, hsh⟩))))
    ·
     exact sq hfr hfr.fr0 hsh (r_ldwAn (i := 4) (l := p) ti_92 rfl rfl rfl (by first | assumption | (simp only [lens9]; done) | (simp only [lens9]; first | assumption | omega) | rfl)) 6 rfl rfl rfl rfl rfl rfl fun a hg => Or.inr (Or.inr (Or.inr (Or.inr (Or.inl (⟨un rfl hw7, un rfl hw8, un rfl hw9, un rfl hw10, b7007, b7008, hg, hsh⟩)))))
    ·
     exact no_way (cA hcl 10 6 rfl hw10) hSi
   ·
    obtain rfl : _ = o := Option.some.inj ho
    rcases hI with ⟨hw7, hw8, hw9, hw10, hfr, hsh⟩ | ⟨hw7, hw8, hw9, hw10, b7007, hfr, hsh⟩ | ⟨hw7, hw8, hw9, hw10, b7008, hfr, hsh⟩ | ⟨hw7, hw8, hw9, hw10, b7007, b7008, hfr, hsh⟩ | ⟨hw7, hw8, hw9, hw10, b7007, b7008, hfr, hsh⟩ | ⟨hw7, hw8, hw9, hw10, b7007, b7008, hfr, hsh⟩
    ·
     have hs := St.mk hfr.fr0 hsh
     refine step_ex (x_alloc hs ti_36 rfl rfl rfl) (wanted_none rfl _) ?_
     rintro a116 w116 ⟨b116, h116⟩ ⟨v0, ht116⟩
     have hm116 : FrI 92 S [(0, .pointer (some ⟨b, 0, none⟩)), (4, .pointer (some ⟨b3, 0, none⟩)), (5, .pointer (some ⟨b4, 0, none⟩)), (7, .bool true), (8, .int .i64 ((t : Nat) : Int)), (9, (nth T.l t).v), (35, T.v), (36, .int .i64 ((T.l.length : Nat) : Int)), (37, .int .i64 ((t : Nat) : Int)), (38, .bool (decide (t < T.l.length))), (39, .int .i64 ((t : Nat) : Int)), (40, .pointer (some (padr T.v 1 t 0))), (41, (nth T.l t).v), (42, .int .i64 ((t : Nat) : Int)), (43, .pointer (some ⟨b3, t, none⟩)), (44, .int .i64 ((nth p t : Nat) : Int)), (45, (nth T.l t).v), (46, .int .i64 ((((nth T.l t).l).length : Nat) : Int)), (47, .bool (decide (nth p t = ((nth T.l t).l).length)))] [(0, 48, (nth T.l t).v), (1, 49, .int .i64 ((t : Nat) : Int)), (2, 50, .pointer (some ⟨b3, t, none⟩)), (3, 51, .int .i64 ((nth p t : Nat) : Int)), (4, 52, .pointer (some (padr ((nth T.l t).v) 4 (nth p t) 0))), (5, 53, .agg #[.int .i64 ((nth ((nth T.l t).l) (nth p t)).op), .int .i64 ((nth ((nth T.l t).l) (nth p t)).a), .int .i64 ((nth ((nth T.l t).l) (nth p t)).b), .int .i64 ((nth ((nth T.l t).l) (nth p t)).c)]), (6, 54, .agg (p.map nv).toArray), (7, 10, .pointer (some ⟨b116, 0, none⟩))] a := hfr.more (by
      intro k j d v hk hS
      rcases k with _ | _ | _ | _ | _ | _ | _ | _ | k
      ·obtain ⟨rfl, rfl, rfl⟩ : _ = j ∧ _ = d ∧ _ = v := by simpa using hk
       exact hfr.at_ 0 _ _ _ rfl hS
      ·obtain ⟨rfl, rfl, rfl⟩ : _ = j ∧ _ = d ∧ _ = v := by simpa using hk
       exact hfr.at_ 1 _ _ _ rfl hS
      ·obtain ⟨rfl, rfl, rfl⟩ : _ = j ∧ _ = d ∧ _ = v := by simpa using hk
       exact hfr.at_ 2 _ _ _ rfl hS
      ·obtain ⟨rfl, rfl, rfl⟩ : _ = j ∧ _ = d ∧ _ = v := by simpa using hk
       exact hfr.at_ 3 _ _ _ rfl hS
      ·obtain ⟨rfl, rfl, rfl⟩ : _ = j ∧ _ = d ∧ _ = v := by simpa using hk
       exact hfr.at_ 4 _ _ _ rfl hS
      ·obtain ⟨rfl, rfl, rfl⟩ : _ = j ∧ _ = d ∧ _ = v := by simpa using hk
       exact hfr.at_ 5 _ _ _ rfl hS
      ·obtain ⟨rfl, rfl, rfl⟩ : _ = j ∧ _ = d ∧ _ = v := by simpa using hk
       exact hfr.at_ 6 _ _ _ rfl hS
      ·obtain ⟨rfl, rfl, rfl⟩ : _ = j ∧ _ = d ∧ _ = v := by simpa using hk
       exact no_way hS hSi
      · simp at hk)
     exact Or.inr (Or.inl (⟨upd_self _ _, un rfl hw8, un rfl hw9, un rfl hw10, b116, hm116.step ht116 h116.fr.defers (h116.fr.at_ 10 _ rfl) 7 rfl rfl rfl rfl, (h116.sh.sel (L' := [.blk b116 36 [.int .i64 0, .int .i64 0, .int .i64 0, .int .i64 0], .own 24 (⟨v7006, [ws]⟩ : Ls (Ls Int)), .blk b4 24 [ws.v], .blk b3 92 (p.map nv), .big (seenX 24 g N), .blk b 90 [T.v, .map (some g)], .at_ ws, .at_ T]) [0, 1, 2, 3, 4, 5, 6, 7] (by decide) ⟨rfl, rfl, rfl, rfl, rfl, rfl, rfl, rfl, trivial⟩)⟩))
    ·
     exact no_way hw7 hSi
    ·
     have hs := St.mk hfr.fr0 hsh
     refine step_ex (x_alloc hs ti_36 rfl rfl rfl) (wanted_none rfl _) ?_
     rintro a117 w117 ⟨b117, h117⟩ ⟨v0, ht117⟩
     have hm117 : FrI 92 S [(0, .pointer (some ⟨b, 0, none⟩)), (4, .pointer (some ⟨b3, 0, none⟩)), (5, .pointer (some ⟨b4, 0, none⟩)), (7, .bool true), (8, .int .i64 ((t : Nat) : Int)), (9, (nth T.l t).v), (35, T.v), (36, .int .i64 ((T.l.length : Nat) : Int)), (37, .int .i64 ((t : Nat) : Int)), (38, .bool (decide (t < T.l.length))), (39, .int .i64 ((t : Nat) : Int)), (40, .pointer (some (padr T.v 1 t 0))), (41, (nth T.l t).v), (42, .int .i64 ((t : Nat) : Int)), (43, .pointer (some ⟨b3, t, none⟩)), (44, .int .i64 ((nth p t : Nat) : Int)), (45, (nth T.l t).v), (46, .int .i64 ((((nth T.l t).l).length : Nat) : Int)), (47, .bool (decide (nth p t = ((nth T.l t).l).length)))] [(0, 48, (nth T.l t).v), (1, 49, .int .i64 ((t : Nat) : Int)), (2, 50, .pointer (some ⟨b3, t, none⟩)), (3, 51, .int .i64 ((nth p t : Nat) : Int)), (4, 52, .pointer (some (padr ((nth T.l t).v) 4 (nth p t) 0))), (5, 53, .agg #[.int .i64 ((nth ((nth T.l t).l) (nth p t)).op), .int .i64 ((nth ((nth T.l t).l) (nth p t)).a), .int .i64 ((nth ((nth T.l t).l) (nth p t)).b), .int .i64 ((nth ((nth T.l t).l) (nth p t)).c)]), (6, 54, .agg (p.map nv).toArray), (7, 10, .pointer (some ⟨b117, 0, none⟩)), (8, 11, .pointer (some ⟨b7008, 0, none⟩))] a := hfr.more (by
      intro k j d v hk hS
      rcases k with _ | _ | _ | _ | _ | _ | _ | _ | _ | k
      ·obtain ⟨rfl, rfl, rfl⟩ : _ = j ∧ _ = d ∧ _ = v := by simpa using hk
       exact hfr.at_ 0 _ _ _ rfl hS
      ·obtain ⟨rfl, rfl, rfl⟩ : _ = j ∧ _ = d ∧ _ = v := by simpa using hk
       exact hfr.at_ 1 _ _ _ rfl hS
      ·obtain ⟨rfl, rfl, rfl⟩ : _ = j ∧ _ = d ∧ _ = v := by simpa using hk
       exact hfr.at_ 2 _ _ _ rfl hS
      ·obtain ⟨rfl, rfl, rfl⟩ : _ = j ∧ _ = d ∧ _ = v := by simpa using hk
       exact hfr.at_ 3 _ _ _ rfl hS
      ·obtain ⟨rfl, rfl, rfl⟩ : _ = j ∧ _ = d ∧ _ = v := by simpa using hk
       exact hfr.at_ 4 _ _ _ rfl hS
      ·obtain ⟨rfl, rfl, rfl⟩ : _ = j ∧ _ = d ∧ _ = v := by simpa using hk
       exact hfr.at_ 5 _ _ _ rfl hS
      ·obtain ⟨rfl, rfl, rfl⟩ : _ = j ∧ _ = d ∧ _ = v := by simpa using hk
       exact hfr.at_ 6 _ _ _ rfl hS
      ·obtain ⟨rfl, rfl, rfl⟩ : _ = j ∧ _ = d ∧ _ = v := by simpa using hk
       exact no_way hS hSi
      ·obtain ⟨rfl, rfl, rfl⟩ : _ = j ∧ _ = d ∧ _ = v := by simpa using hk
       exact hfr.at_ 7 _ _ _ rfl hS
      · simp at hk)
     exact Or.inr (Or.inr (Or.inr (Or.inl (⟨upd_self _ _, un rfl hw8, un rfl hw9, un rfl hw10, b117, b7008, hm117.step ht117 h117.fr.defers (h117.fr.at_ 10 _ rfl) 7 rfl rfl rfl rfl, (h117.sh.sel (L' := [.blk b7008 92 ((List.replicate 4 0).map nv), .blk b117 36 [.int .i64 0, .int .i64 0, .int .i64 0, .int .i64 0], .own 24 (⟨v7006, [ws]⟩ : Ls (Ls Int)), .blk b4 24 [ws.v], .blk b3 92 (p.map nv), .big (seenX 24 g N), .blk b 90 [T.v, .map (some g)], .at_ ws, .at_ T]) [1, 0, 2, 3, 4, 5, 6, 7, 8] (by decide) ⟨rfl, rfl, rfl, rfl, rfl, rfl, rfl, rfl, rfl, trivial⟩)⟩))))
    ·
     exact no_way hw7 hSi
    ·
     exact no_way hw7 hSi
    ·
     exact no_way hw7 hSi
   ·
    obtain rfl : _ = o := Option.some.inj ho
    rcases hI with ⟨hw7, hw8, hw9, hw10, hfr, hsh⟩ | ⟨hw7, hw8, hw9, hw10, b7007, hfr, hsh⟩ | ⟨hw7, hw8, hw9, hw10, b7008, hfr, hsh⟩ | ⟨hw7, hw8, hw9, hw10, b7007, b7008, hfr, hsh⟩ | ⟨hw7, hw8, hw9, hw10, b7007, b7008, hfr, hsh⟩ | ⟨hw7, hw8, hw9, hw10, b7007, b7008, hfr, hsh⟩
    ·
     have hs := St.mk hfr.fr0 hsh
     refine step_ex (x_allocAn (k := 4) hs ti_92 (by kernel_rfl) rfl rfl rfl) (wanted_none rfl _) ?_
     rintro a118 w118 ⟨b118, h118⟩ ⟨v0, ht118⟩
     have hm118 : FrI 92 S [(0, .pointer (some ⟨b, 0, none⟩)), (4, .pointer (some ⟨b3, 0, none⟩)), (5, .pointer (some ⟨b4, 0, none⟩)), (7, .bool true), (8, .int .i64 ((t : Nat) : Int)), (9, (nth T.l t).v), (35, T.v), (36, .int .i64 ((T.l.length : Nat) : Int)), (37, .int .i64 ((t : Nat) : Int)), (38, .bool (decide (t < T.l.length))), (39, .int .i64 ((t : Nat) : Int)), (40, .pointer (some (padr T.v 1 t 0))), (41, (nth T.l t).v), (42, .int .i64 ((t : Nat) : Int)), (43, .pointer (some ⟨b3, t, none⟩)), (44, .int .i64 ((nth p t : Nat) : Int)), (45, (nth T.l t).v), (46, .int .i64 ((((nth T.l t).l).length : Nat) : Int)), (47, .bool (decide (nth p t = ((nth T.l t).l).length)))] [(0, 48, (nth T.l t).v), (1, 49, .int .i64 ((t : Nat) : Int)), (2, 50, .pointer (some ⟨b3, t, none⟩)), (3, 51, .int .i64 ((nth p t : Nat) : Int)), (4, 52, .pointer (some (padr ((nth T.l t).v) 4 (nth p t) 0))), (5, 53, .agg #[.int .i64 ((nth ((nth T.l t).l) (nth p t)).op), .int .i64 ((nth ((nth T.l t).l) (nth p t)).a), .int .i64 ((nth ((nth T.l t).l) (nth p t)).b), .int .i64 ((nth ((nth T.l t).l) (nth p t)).c)]), (6, 54, .agg (p.map nv).toArray), (8, 11, .pointer (some ⟨b118, 0, none⟩))] a := hfr.more (by
      intro k j d v hk hS
      rcases k with _ | _ | _ | _ | _ | _ | _ | _ | k
      ·obtain ⟨rfl, rfl, rfl⟩ : _ = j ∧ _ = d ∧ _ = v := by simpa using hk
       exact hfr.at_ 0 _ _ _ rfl hS
      ·obtain ⟨rfl, rfl, rfl⟩ : _ = j ∧ _ = d ∧ _ = v := by simpa using hk
       exact hfr.at_ 1 _ _ _ rfl hS
      ·obtain ⟨rfl, rfl, rfl⟩ : _ = j ∧ _ = d ∧ _ = v := by simpa using hk
       exact hfr.at_ 2 _ _ _ rfl hS
      ·obtain ⟨rfl, rfl, rfl⟩ : _ = j ∧ _ = d ∧ _ = v := by simpa using hk
       exact hfr.at_ 3 _ _ _ rfl hS
      ·obtain ⟨rfl, rfl, rfl⟩ : _ = j ∧ _ = d ∧ _ = v := by simpa using hk
       exact hfr.at_ 4 _ _ _ rfl hS
      ·obtain ⟨rfl, rfl, rfl⟩ : _ = j ∧ _ = d ∧ _ = v := by simpa using hk
       exact hfr.at_ 5 _ _ _ rfl hS
      ·obtain ⟨rfl, rfl, rfl⟩ : _ = j ∧ _ = d ∧ _ = v := by simpa using hk
       exact hfr.at_ 6 _ _ _ rfl hS
      ·obtain ⟨rfl, rfl, rfl⟩ : _ = j ∧ _ = d ∧ _ = v := by simpa using hk
       exact no_way hS hSi
      · simp at hk)
     exact Or.inr (Or.inr (Or.inl (⟨un rfl hw7, upd_self _ _, un rfl hw9, un rfl hw10, b118, hm118.step ht118 h118.fr.defers (h118.fr.at_ 11 _ rfl) 7 rfl rfl rfl rfl, (h118.sh.sel (L' := [.blk b118 92 ((List.replicate 4 0).map nv), .own 24 (⟨v7006, [ws]⟩ : Ls (Ls Int)), .blk b4 24 [ws.v], .blk b3 92 (p.map nv), .big (seenX 24 g N), .blk b 90 [T.v, .map (some g)], .at_ ws, .at_ T]) [0, 1, 2, 3, 4, 5, 6, 7] (by decide) ⟨rfl, rfl, rfl, rfl, rfl, rfl, rfl, rfl, trivial⟩)⟩)))
    ·
     have hs := St.mk hfr.fr0 hsh
     refine step_ex (x_allocAn (k := 4) hs ti_92 (by kernel_rfl) rfl rfl rfl) (wanted_none rfl _) ?_
     rintro a119 w119 ⟨b119, h119⟩ ⟨v0, ht119⟩
     have hm119 : FrI 92 S [(0, .pointer (some ⟨b, 0, none⟩)), (4, .pointer (some ⟨b3, 0, none⟩)), (5, .pointer (some ⟨b4, 0, none⟩)), (7, .bool true), (8, .int .i64 ((t : Nat) : Int)), (9, (nth T.l t).v), (35, T.v), (36, .int .i64 ((T.l.length : Nat) : Int)), (37, .int .i64 ((t : Nat) : Int)), (38, .bool (decide (t < T.l.length))), (39, .int .i64 ((t : Nat) : Int)), (40, .pointer (some (padr T.v 1 t 0))), (41, (nth T.l t).v), (42, .int .i64 ((t : Nat) : Int)), (43, .pointer (some ⟨b3, t, none⟩)), (44, .int .i64 ((nth p t : Nat) : Int)), (45, (nth T.l t).v), (46, .int .i64 ((((nth T.l t).l).length : Nat) : Int)), (47, .bool (decide (nth p t = ((nth T.l t).l).length)))] [(0, 48, (nth T.l t).v), (1, 49, .int .i64 ((t : Nat) : Int)), (2, 50, .pointer (some ⟨b3, t, none⟩)), (3, 51, .int .i64 ((nth p t : Nat) : Int)), (4, 52, .pointer (some (padr ((nth T.l t).v) 4 (nth p t) 0))), (5, 53, .agg #[.int .i64 ((nth ((nth T.l t).l) (nth p t)).op), .int .i64 ((nth ((nth T.l t).l) (nth p t)).a), .int .i64 ((nth ((nth T.l t).l) (nth p t)).b), .int .i64 ((nth ((nth T.l t).l) (nth p t)).c)]), (6, 54, .agg (p.map nv).toArray), (7, 10, .pointer (some ⟨b7007, 0, none⟩)), (8, 11, .pointer (some ⟨b119, 0, none⟩))] a := hfr.more (by
      intro k j d v hk hS
      rcases k with _ | _ | _ | _ | _ | _ | _ | _ | _ | k
      ·obtain ⟨rfl, rfl, rfl⟩ : _ = j ∧ _ = d ∧ _ = v := by simpa using hk
       exact hfr.at_ 0 _ _ _ rfl hS
      ·obtain ⟨rfl, rfl, rfl⟩ : _ = j ∧ _ = d ∧ _ = v := by simpa using hk
       exact hfr.at_ 1 _ _ _ rfl hS
      ·obtain ⟨rfl, rfl, rfl⟩ : _ = j ∧ _ = d ∧ _ = v := by simpa using hk
       exact hfr.at_ 2 _ _ _ rfl hS
      ·obtain ⟨rfl, rfl, rfl⟩ : _ = j ∧ _ = d ∧ _ = v := by simpa using hk
       exact hfr.at_ 3 _ _ _ rfl hS
      ·obtain ⟨rfl, rfl, rfl⟩ : _ = j ∧ _ = d ∧ _ = v := by simpa using hk
       exact hfr.at_ 4 _ _ _ rfl hS
      ·obtain ⟨rfl, rfl, rfl⟩ : _ = j ∧ _ = d ∧ _ = v := by simpa using hk
       exact hfr.at_ 5 _ _ _ rfl hS
      ·obtain ⟨rfl, rfl, rfl⟩ : _ = j ∧ _ = d ∧ _ = v := by simpa using hk
       exact hfr.at_ 6 _ _ _ rfl hS
      ·obtain ⟨rfl, rfl, rfl⟩ : _ = j ∧ _ = d ∧ _ = v := by simpa using hk
       exact hfr.at_ 7 _ _ _ rfl hS
      ·obtain ⟨rfl, rfl, rfl⟩ : _ = j ∧ _ = d ∧ _ = v := by simpa using hk
       exact no_way hS hSi
      · simp at hk)
     exact Or.inr (Or.inr (Or.inr (Or.inl (⟨un rfl hw7, upd_self _ _, un rfl hw9, un rfl hw10, b7007, b119, hm119.step ht119 h119.fr.defers (h119.fr.at_ 11 _ rfl) 8 rfl rfl rfl rfl, (h119.sh.sel (L' := [.blk b119 92 ((List.replicate 4 0).map nv), .blk b7007 36 [.int .i64 0, .int .i64 0, .int .i64 0, .int .i64 0], .own 24 (⟨v7006, [ws]⟩ : Ls (Ls Int)), .blk b4 24 [ws.v], .blk b3 92 (p.map nv), .big (seenX 24 g N), .blk b 90 [T.v, .map (some g)], .at_ ws, .at_ T]) [0, 1, 2, 3, 4, 5, 6, 7, 8] (by decide) ⟨rfl, rfl, rfl, rfl, rfl, rfl, rfl, rfl, rfl, trivial⟩)⟩))))
    ·
     exact no_way hw8 hSi
    ·
     exact no_way hw8 hSi
    ·
     exact no_way hw8 hSi
    ·
     exact no_way hw8 hSi
   ·
    obtain rfl : _ = o := Option.some.inj ho
    have hd7 : S 7 = true := depAt hdep 0 rfl rfl
    have hd5 : S 5 = true := depAt hdep 1 rfl rfl
    have hd8 : S 8 = true := depAt hdep 10 rfl rfl
    rcases hI with ⟨hw7, hw8, hw9, hw10, hfr, hsh⟩ | ⟨hw7, hw8, hw9, hw10, b7007, hfr, hsh⟩ | ⟨hw7, hw8, hw9, hw10, b7008, hfr, hsh⟩ | ⟨hw7, hw8, hw9, hw10, b7007, b7008, hfr, hsh⟩ | ⟨hw7, hw8, hw9, hw10, b7007, b7008, hfr, hsh⟩ | ⟨hw7, hw8, hw9, hw10, b7007, b7008, hfr, hsh⟩
    ·
     exact no_way hd7 hw7
    ·
     exact no_way hd8 hw8
    ·
     exact no_way hd7 hw7
    ·
     have hs := St.mk (Fr.cons (Fr.cons hfr.fr0 (hfr.at_ 5 5 53 _ rfl hd5)) (hfr.at_ 7 7 10 _ rfl hd7)) hsh
     refine step_ex (x_stb (i := 1) (vs := [.int .i64 ((nth ((nth T.l t).l) (nth p t)).op), .int .i64 ((nth ((nth T.l t).l) (nth p t)).a), .int .i64 ((nth ((nth T.l t).l) (nth p t)).b), .int .i64 ((nth ((nth T.l t).l) (nth p t)).c)]) (cs' := [.int .i64 ((nth ((nth T.l t).l) (nth p t)).op), .int .i64 ((nth ((nth T.l t).l) (nth p t)).a), .int .i64 ((nth ((nth T.l t).l) (nth p t)).b), .int .i64 ((nth ((nth T.l t).l) (nth p t)).c)]) hs ti_36 rfl rfl rfl rfl rfl rfl rfl (allOne_cons rfl (allOne_cons rfl (allOne_cons rfl (allOne_cons rfl allOne_nil)))) (Nat.le_of_ble_eq_true rfl) rfl) (wanted_none rfl _) ?_
     rintro a120 w120 h120 ⟨v0, ht120⟩
     have hm120 : FrI 92 S [(0, .pointer (some ⟨b, 0, none⟩)), (4, .pointer (some ⟨b3, 0, none⟩)), (5, .pointer (some ⟨b4, 0, none⟩)), (7, .bool true), (8, .int .i64 ((t : Nat) : Int)), (9, (nth T.l t).v), (35, T.v), (36, .int .i64 ((T.l.length : Nat) : Int)), (37, .int .i64 ((t : Nat) : Int)), (38, .bool (decide (t < T.l.length))), (39, .int .i64 ((t : Nat) : Int)), (40, .pointer (some (padr T.v 1 t 0))), (41, (nth T.l t).v), (42, .int .i64 ((t : Nat) : Int)), (43, .pointer (some ⟨b3, t, none⟩)), (44, .int .i64 ((nth p t : Nat) : Int)), (45, (nth T.l t).v), (46, .int .i64 ((((nth T.l t).l).length : Nat) : Int)), (47, .bool (decide (nth p t = ((nth T.l t).l).length)))] [(0, 48, (nth T.l t).v), (1, 49, .int .i64 ((t : Nat) : Int)), (2, 50, .pointer (some ⟨b3, t, none⟩)), (3, 51, .int .i64 ((nth p t : Nat) : Int)), (4, 52, .pointer (some (padr ((nth T.l t).v) 4 (nth p t) 0))), (5, 53, .agg #[.int .i64 ((nth ((nth T.l t).l) (nth p t)).op), .int .i64 ((nth ((nth T.l t).l) (nth p t)).a), .int .i64 ((nth ((nth T.l t).l) (nth p t)).b), .int .i64 ((nth ((nth T.l t).l) (nth p t)).c)]), (6, 54, .agg (p.map nv).toArray), (7, 10, .pointer (some ⟨b7007, 0, none⟩)), (8, 11, .pointer (some ⟨b7008, 0, none⟩))] a := hfr.more (by
      intro k j d v hk hS
      rcases k with _ | _ | _ | _ | _ | _ | _ | _ | _ | k
      ·obtain ⟨rfl, rfl, rfl⟩ : _ = j ∧ _ = d ∧ _ = v := by simpa using hk
       exact hfr.at_ 0 _ _ _ rfl hS
      ·obtain ⟨rfl, rfl, rfl⟩ : _ = j ∧ _ = d ∧ _ = v := by simpa using hk
       exact hfr.at_ 1 _ _ _ rfl hS
      ·obtain ⟨rfl, rfl, rfl⟩ : _ = j ∧ _ = d ∧ _ = v := by simpa using hk
       exact hfr.at_ 2 _ _ _ rfl hS
      ·obtain ⟨rfl, rfl, rfl⟩ : _ = j ∧ _ = d ∧ _ = v := by simpa using hk
       exact hfr.at_ 3 _ _ _ rfl hS
      ·obtain ⟨rfl, rfl, rfl⟩ : _ = j ∧ _ = d ∧ _ = v := by simpa using hk
       exact hfr.at_ 4 _ _ _ rfl hS
      ·obtain ⟨rfl, rfl, rfl⟩ : _ = j ∧ _ = d ∧ _ = v := by simpa using hk
       exact hfr.at_ 5 _ _ _ rfl hS
      ·obtain ⟨rfl, rfl, rfl⟩ : _ = j ∧ _ = d ∧ _ = v := by simpa using hk
       exact hfr.at_ 6 _ _ _ rfl hS
      ·obtain ⟨rfl, rfl, rfl⟩ : _ = j ∧ _ = d ∧ _ = v := by simpa using hk
       exact hfr.at_ 7 _ _ _ rfl hS
      ·obtain ⟨rfl, rfl, rfl⟩ : _ = j ∧ _ = d ∧ _ = v := by simpa using hk
       exact hfr.at_ 8 _ _ _ rfl hS
      · simp at hk)
     exact Or.inr (Or.inr (Or.inr (Or.inr (Or.inl (⟨un rfl hw7, un rfl hw8, upd_self _ _, un rfl hw10, b7007, b7008, hm120.none ht120 h120.fr.defers rfl, (h120.sh.sel (L' := [.blk b7008 92 ((List.replicate 4 0).map nv), .blk b7007 36 [.int .i64 ((nth ((nth T.l t).l) (nth p t)).op), .int .i64 ((nth ((nth T.l t).l) (nth p t)).a), .int .i64 ((nth ((nth T.l t).l) (nth p t)).b), .int .i64 ((nth ((nth T.l t).l) (nth p t)).c)], .own 24 (⟨v7006, [ws]⟩ : Ls (Ls Int)), .blk b4 24 [ws.v], .blk b3 92 (p.map nv), .big (seenX 24 g N), .blk b 90 [T.v, .map (some g)], .at_ ws, .at_ T]) [0, 1, 2, 3, 4, 5, 6, 7, 8] (by decide) ⟨rfl, rfl, rfl, rfl, rfl, rfl, rfl, rfl, rfl, trivial⟩)⟩)))))
    ·
     exact no_way hw9 hSi
    ·
     exact no_way hw9 hSi
   ·
    obtain rfl : _ = o := Option.some.inj ho
    have hd8 : S 8 = true := depAt hdep 0 rfl rfl
    have hd6 : S 6 = true := depAt hdep 1 rfl rfl
    have hd9 : S 9 = true := depAt hdep 2 rfl rfl
    have hd7 : S 7 = true := depAt hdep 10 rfl rfl
    rcases hI with ⟨hw7, hw8, hw9, hw10, hfr, hsh⟩ | ⟨hw7, hw8, hw9, hw10, b7007, hfr, hsh⟩ | ⟨hw7, hw8, hw9, hw10, b7008, hfr, hsh⟩ | ⟨hw7, hw8, hw9, hw10, b7007, b7008, hfr, hsh⟩ | ⟨hw7, hw8, hw9, hw10, b7007, b7008, hfr, hsh⟩ | ⟨hw7, hw8, hw9, hw10, b7007, b7008, hfr, hsh⟩
    ·
     exact no_way hd7 hw7
    ·
     exact no_way hd8 hw8
    ·
     exact no_way hd7 hw7
    ·
     exact no_way hd9 hw9
    ·
     have hs := St.mk (Fr.cons (Fr.cons hfr.fr0 (hfr.at_ 6 6 54 _ rfl hd6)) (hfr.at_ 8 8 11 _ rfl hd8)) hsh
     refine step_ex (x_stwAn (i := 0) (l := (List.replicate 4 0)) (m := p) hs ti_92 rfl rfl rfl rfl (by first | assumption | (simp only [lens9]; done) | (simp only [lens9]; first | assumption | omega) | rfl) (by first | assumption | (simp only [lens9]; done) | (simp only [lens9]; first | assumption | omega) | rfl) rfl) (wanted_none rfl _) ?_
     rintro a121 w121 h121 ⟨v0, ht121⟩
     have hm121 : FrI 92 S [(0, .pointer (some ⟨b, 0, none⟩)), (4, .pointer (some ⟨b3, 0, none⟩)), (5, .pointer (some ⟨b4, 0, none⟩)), (7, .bool true), (8, .int .i64 ((t : Nat) : Int)), (9, (nth T.l t).v), (35, T.v), (36, .int .i64 ((T.l.length : Nat) : Int)), (37, .int .i64 ((t : Nat) : Int)), (38, .bool (decide (t < T.l.length))), (39, .int .i64 ((t : Nat) : Int)), (40, .pointer (some (padr T.v 1 t 0))), (41, (nth T.l t).v), (42, .int .i64 ((t : Nat) : Int)), (43, .pointer (some ⟨b3, t, none⟩)), (44, .int .i64 ((nth p t : Nat) : Int)), (45, (nth T.l t).v), (46, .int .i64 ((((nth T.l t).l).length : Nat) : Int)), (47, .bool (decide (nth p t = ((nth T.l t).l).length)))] [(0, 48, (nth T.l t).v), (1, 49, .int .i64 ((t : Nat) : Int)), (2, 50, .pointer (some ⟨b3, t, none⟩)), (3, 51, .int .i64 ((nth p t : Nat) : Int)), (4, 52, .pointer (some (padr ((nth T.l t).v) 4 (nth p t) 0))), (5, 53, .agg #[.int .i64 ((nth ((nth T.l t).l) (nth p t)).op), .int .i64 ((nth ((nth T.l t).l) (nth p t)).a), .int .i64 ((nth ((nth T.l t).l) (nth p t)).b), .int .i64 ((nth ((nth T.l t).l) (nth p t)).c)]), (6, 54, .agg (p.map nv).toArray), (7, 10, .pointer (some ⟨b7007, 0, none⟩)), (8, 11, .pointer (some ⟨b7008, 0, none⟩))] a := hfr.more (by
      intro k j d v hk hS
      rcases k with _ | _ | _ | _ | _ | _ | _ | _ | _ | k
      ·obtain ⟨rfl, rfl, rfl⟩ : _ = j ∧ _ = d ∧ _ = v := by simpa using hk
       exact hfr.at_ 0 _ _ _ rfl hS
      ·obtain ⟨rfl, rfl, rfl⟩ : _ = j ∧ _ = d ∧ _ = v := by simpa using hk
       exact hfr.at_ 1 _ _ _ rfl hS
      ·obtain ⟨rfl, rfl, rfl⟩ : _ = j ∧ _ = d ∧ _ = v := by simpa using hk
       exact hfr.at_ 2 _ _ _ rfl hS
      ·obtain ⟨rfl, rfl, rfl⟩ : _ = j ∧ _ = d ∧ _ = v := by simpa using hk
       exact hfr.at_ 3 _ _ _ rfl hS
      ·obtain ⟨rfl, rfl, rfl⟩ : _ = j ∧ _ = d ∧ _ = v := by simpa using hk
       exact hfr.at_ 4 _ _ _ rfl hS
      ·obtain ⟨rfl, rfl, rfl⟩ : _ = j ∧ _ = d ∧ _ = v := by simpa using hk
       exact hfr.at_ 5 _ _ _ rfl hS
      ·obtain ⟨rfl, rfl, rfl⟩ : _ = j ∧ _ = d ∧ _ = v := by simpa using hk
       exact hfr.at_ 6 _ _ _ rfl hS
      ·obtain ⟨rfl, rfl, rfl⟩ : _ = j ∧ _ = d ∧ _ = v := by simpa using hk
       exact hfr.at_ 7 _ _ _ rfl hS
      ·obtain ⟨rfl, rfl, rfl⟩ : _ = j ∧ _ = d ∧ _ = v := by simpa using hk
       exact hfr.at_ 8 _ _ _ rfl hS
      · simp at hk)
     exact Or.inr (Or.inr (Or.inr (Or.inr (Or.inr (⟨un rfl hw7, un rfl hw8, un rfl hw9, upd_self _ _, b7007, b7008, hm121.none ht121 h121.fr.defers rfl, (h121.sh.sel (L' := [.blk b7008 92 (p.map nv), .blk b7007 36 [.int .i64 ((nth ((nth T.l t).l) (nth p t)).op), .int .i64 ((nth ((nth T.l t).l) (nth p t)).a), .int .i64 ((nth ((nth T.l t).l) (nth p t)).b), .int .i64 ((nth ((nth T.l t).l) (nth p t)).c)], .own 24 (⟨v7006, [ws]⟩ : Ls (Ls Int)), .blk b4 24 [ws.v], .blk b3 92 (p.map nv), .big (seenX 24 g N), .blk b 90 [T.v, .map (some g)], .at_ ws, .at_ T]) [0, 1, 2, 3, 4, 5, 6, 7, 8] (by decide) ⟨rfl, rfl, rfl, rfl, rfl, rfl, rfl, rfl, rfl, trivial⟩)⟩)))))
    ·
     exact no_way hw10 hSi
   · simp at ho
  intro S hall a w hI
  clear h85
  rcases hI with ⟨hw7, hw8, hw9, hw10, hfr, hsh⟩ | ⟨hw7, hw8, hw9, hw10, b7007, hfr, hsh⟩ | ⟨hw7, hw8, hw9, hw10, b7008, hfr, hsh⟩ | ⟨hw7, hw8, hw9, hw10, b7007, b7008, hfr, hsh⟩ | ⟨hw7, hw8, hw9, hw10, b7007, b7008, hfr, hsh⟩ | ⟨hw7, hw8, hw9, hw10, b7007, b7008, hfr, hsh⟩
  · exact no_way (hall 7 (by decide)) hw7
  · exact no_way (hall 8 (by decide)) hw8
  · exact no_way (hall 7 (by decide)) hw7
  · exact no_way (hall 9 (by decide)) hw9
  · exact no_way (hall 10 (by decide)) hw10
  have h122 : St 92 K W a w _ [.blk b7008 92 (p.map nv), .blk b7007 36 [.int .i64 ((nth ((nth T.l t).l) (nth p t)).op), .int .i64 ((nth ((nth T.l t).l) (nth p t)).a), .int .i64 ((nth ((nth T.l t).l) (nth p t)).b), .int .i64 ((nth ((nth T.l t).l) (nth p t)).c)], .own 24 (⟨v7006, [ws]⟩ : Ls (Ls Int)), .blk b4 24 [ws.v], .blk b3 92 (p.map nv), .big (seenX 24 g N), .blk b 90 [T.v, .map (some g)], .at_ ws, .at_ T] := ⟨(Fr.cons (Fr.cons hfr.fr0 (hfr.at_ 7 7 10 _ rfl (hall 7 (by decide)))) (hfr.at_ 8 8 11 _ rfl (hall 8 (by decide)))), hsh⟩
  clear hall hfr hsh hw7 hw8 hw9 hw10
  refine hK84 _ _ ?_
  refine wp_seq_k fun K123 hK123 => wp_region_lit ?_
  refine wms 1 h122 rfl fun a124 h124 => ?_; clear h122
  refine wv h124 (r_ixAr (q := t) ar_92 ti_3 rfl rfl rfl rfl (show t < 4 from (by omega))) rfl rfl fun a125 h125 => ?_; clear h124
  refine wv h125 (r_ldAn (i := 0) (l := p) ti_3 rfl rfl rfl (show t < p.length from (by omega))) rfl rfl fun a126 h126 => ?_; clear h125
  refine wv h126 (r_addN (p := nth p t) (q := 1) rfl rfl rfl (show (nth p t) + 1 < 9223372036854775808 from (by omega))) rfl rfl fun a127 h127 => ?_; clear h126
  refine wv h127 (r_ixAr (q := t) ar_92 ti_3 rfl rfl rfl rfl (show t < 4 from (by omega))) rfl rfl fun a128 h128 => ?_; clear h127
  refine wl_ex (x_stAn (i := 0) (l := p) (n := ((nth p t) + 1)) h128 ti_3 rfl rfl rfl rfl rfl (show t < p.length from (by omega))) (wanted_none rfl _) ?_
  rintro a129 w129 h129
  clear h128
  refine wpList_nil (hK123 _ _ ?_)
  refine wp_block ?_
  refine wp_seq_k fun K130 hK130 => wp_region_lit ?_
  refine wv h129 (r_fieldB (r := 2) fl_36_2 rfl rfl rfl) rfl rfl fun a131 h131 => ?_; clear h129
  refine wv h131 (r_ldb (i := 1) ti_3 rfl rfl rfl rfl) rfl rfl fun a132 h132 => ?_; clear h131
  refine wv h132 (r_eqlI (p := (nth ((nth T.l t).l) (nth p t)).b) (q := 2) rfl rfl rfl) rfl rfl fun a133 h133 => ?_; clear h132
  refine wms 1 h133 rfl fun a134 h134 => ?_; clear h133
  refine wpList_nil (hK130 _ _ ?_)
  refine x_cond h134 rfl (fun hb135 => ?_) (fun hb135 => ?_)
  ·
   have hp135 : (nth ((nth T.l t).l) (nth p t)).b = 2 := of_decide_eq_true hb135
   refine wp_seq_k fun K136 hK136 => wp_region_lit ?_
   refine wv h134 (r_ldb (i := 3) ti_24 rfl rfl rfl rfl) rfl rfl fun a137 h137 => ?_; clear h134
   refine wl_ex (x_call h137 bd_58 rfl rfl rfl rfl rfl (cloneI_c ws _ (h137.sh.at 7 rfl) (by first | omega | (simp only [lens9]; omega)))) (wanted_none rfl _) ?_
   rintro a138 w138 ⟨_, ⟨s138, rfl, hs138⟩, hf138⟩
   have h138 := (⟨hf138, h137.sh.call hs138 (by intro A hA b hb; first | (simp at hA; done) | (simp at hA; subst hA; first | exact Flat.noRd hb | exact (hb : False).elim) | (simp at hA; rcases hA with rfl | rfl <;> first | exact Flat.noRd hb | exact (hb : False).elim))⟩ : St 92 K W a138 w138 _ _)
   clear hf138 hs138
   clear h137
   refine wms 1 h138 rfl fun a139 h139 => ?_; clear h138
   refine wpList_nil (hK136 _ _ ?_)
   have h140 : St 92 K W a139 w138 [(0, .pointer (some ⟨b, 0, none⟩)), (4, .pointer (some ⟨b3, 0, none⟩)), (5, .pointer (some ⟨b4, 0, none⟩)), (7, .bool true), (10, .pointer (some ⟨b7007, 0, none⟩)), (11, .pointer (some ⟨b7008, 0, none⟩)), (12, s138.v), (35, T.v), (36, .int .i64 ((T.l.length : Nat) : Int)), (37, .int .i64 ((t : Nat) : Int))] [.own 3 (⟨s138.v, ws.l⟩ : Ls Int), .blk b7008 92 ((p.set t ((nth p t) + 1)).map nv), .blk b7007 36 [.int .i64 ((nth ((nth T.l t).l) (nth p t)).op), .int .i64 ((nth ((nth T.l t).l) (nth p t)).a), .int .i64 ((nth ((nth T.l t).l) (nth p t)).b), .int .i64 ((nth ((nth T.l t).l) (nth p t)).c)], .own 24 (⟨v7006, [ws]⟩ : Ls (Ls Int)), .blk b4 24 [ws.v], .blk b3 92 (p.map nv), .big (seenX 24 g N), .blk b 90 [T.v, .map (some g)], .at_ ws, .at_ T] := h139.nrm ⟨rfl, rfl, rfl, rfl, rfl, rfl, rfl, rfl, rfl, rfl, trivial⟩ [0, 1, 2, 3, 4, 5, 6, 7, 8, 9] (by decide) ⟨rfl, rfl, rfl, rfl, rfl, rfl, rfl, rfl, rfl, rfl, trivial⟩
   clear h139
   refine wp_seq_k fun K141 hK141 => wp_region_lit ?_
   refine wms 1 h140 rfl fun a142 h142 => ?_; clear h140
   refine wv h142 (r_fieldB (r := 1) fl_36_1 rfl rfl rfl) rfl rfl fun a143 h143 => ?_; clear h142
   refine wv h143 (r_ldb (i := 2) ti_3 rfl rfl rfl rfl) rfl rfl fun a144 h144 => ?_; clear h143
   refine wv h144 (r_fieldB (r := 3) fl_36_3 rfl rfl rfl) rfl rfl fun a145 h145 => ?_; clear h144
   refine wv h145 (r_ldb (i := 2) ti_3 rfl rfl rfl rfl) rfl rfl fun a146 h146 => ?_; clear h145
   have hl147 : ws.l.length ≤ 140737488355328 := (h146.sh.own 0 rfl).len
   refine wv h146 (r_ixI (s := (⟨s138.v, ws.l⟩ : Ls Int)) (q := (nth ((nth T.l t).l) (nth p t)).a) sl_24 ti_3 rfl rfl rfl (fun w h => (h.own 0 rfl)) (show 0 ≤ (nth ((nth T.l t).l) (nth p t)).a ∧ (nth ((nth T.l t).l) (nth p t)).a < ws.l.length from (by omega))) rfl rfl fun a148 h148 => ?_; clear h146
   refine wl_ex (x_ste (s := (⟨s138.v, ws.l⟩ : Ls Int)) (r := 0) (i := ((nth ((nth T.l t).l) (nth p t)).a).toNat) (j := 0) (x' := ((nth ((nth T.l t).l) (nth p t)).c : Int)) h148 ti_3 rfl rfl rfl rfl rfl (show ((nth ((nth T.l t).l) (nth p t)).a).toNat < ws.l.length from (by omega)) (Nat.le_of_ble_eq_true rfl) rfl rfl rfl (by intro q hq; obtain rfl : q = 0 := (by omega); rfl) (fun w h => Flat.inner _ _) (fun b hb => (Flat.on _ _ hb).elim)) (wanted_none rfl _) ?_
   rintro a149 w149 h149
   clear h148
   refine wpList_nil (hK141 _ _ ?_)
   refine wp_seq_k fun K150 hK150 => wp_region_lit ?_
   refine wms 1 h149 rfl fun a151 h151 => ?_; clear h149
   refine wv h151 (r_ldwAn (i := 1) (l := (p.set t ((nth p t) + 1))) ti_92 rfl rfl rfl (by first | assumption | (simp only [lens9]; done) | (simp only [lens9]; first | assumption | omega) | rfl)) rfl rfl fun a152 h152 => ?_; clear h151
   refine wms 1 h152 rfl fun a153 h153 => ?_; clear h152
   have hmo : ∀ c, (⟨s138.v, ws.l.set (((nth ((nth T.l t).l) (nth p t)).a).toNat) ((nth ((nth T.l t).l) (nth p t)).c)⟩ : Ls Int).on c → ws.on c ∨ K c ∨ W.heap.size ≤ c := fun c hc => .inr ((own_on (h153.sh.ok _ (List.mem_of_getElem? (i := 0) rfl)) hc).elim (fun h9 => h153.sh.mine _ (List.mem_of_getElem? (i := 0) rfl) c h9) (fun h9 => Flat.noRd h9))
   have h154 : St 92 K W a153 w149 _ _ := ⟨h153.fr, h153.sh.share 0 rfl⟩
   clear h153
   have h155 := h154.sel (L' := [.big (seenX 24 g N), .blk b 90 [T.v, .map (some g)], .at_ (⟨s138.v, ws.l.set (((nth ((nth T.l t).l) (nth p t)).a).toNat) ((nth ((nth T.l t).l) (nth p t)).c)⟩ : Ls Int), .at_ T, .blk b7008 92 ((p.set t ((nth p t) + 1)).map nv), .blk b7007 36 [.int .i64 ((nth ((nth T.l t).l) (nth p t)).op), .int .i64 ((nth ((nth T.l t).l) (nth p t)).a), .int .i64 ((nth ((nth T.l t).l) (nth p t)).b), .int .i64 ((nth ((nth T.l t).l) (nth p t)).c)], .own 24 (⟨v7006, [ws]⟩ : Ls (Ls Int)), .blk b4 24 [ws.v], .blk b3 92 (p.map nv), .at_ ws]) [6, 7, 0, 9, 1, 2, 3, 4, 5, 8] (by decide) ⟨rfl, rfl, rfl, rfl, rfl, rfl, rfl, rfl, rfl, rfl, trivial⟩
   have hp156 := h155.sh.passL (Lp := [.big (seenX 24 g N), .blk b 90 [T.v, .map (some g)], .at_ (⟨s138.v, ws.l.set (((nth ((nth T.l t).l) (nth p t)).a).toNat) ((nth ((nth T.l t).l) (nth p t)).c)⟩ : Ls Int), .at_ T])
   refine wl_ex (x_call h155 bd_57 rfl rfl rfl rfl rfl (ih (p.set t ((nth p t) + 1)) (⟨s138.v, ws.l.set (((nth ((nth T.l t).l) (nth p t)).a).toNat) ((nth ((nth T.l t).l) (nth p t)).c)⟩ : Ls Int) (by omega) _ _ _ (hpo.step (by omega) (by omega)) (by first | exact hwn | (simp only [List.length_set]; exact hwn)) hli.keys (hli.room (by omega) hrs hcn) (hsum ▸ hli.seen) hp156)) (wanted_none rfl _) ?_
   rintro a157 w157 ⟨_, ⟨N157, rfl, hk157, hc157, hi157, ho157, hr157, hs157⟩, hf157⟩
   have hqq := rd_comp (Lp := [.big (seenX 24 g N), .blk b 90 [T.v, .map (some g)], .at_ (⟨s138.v, ws.l.set (((nth ((nth T.l t).l) (nth p t)).a).toNat) ((nth ((nth T.l t).l) (nth p t)).c)⟩ : Ls Int), .at_ T]) (on := ws.on) h155.sh hrd hr157 hmo
   have h157 : St 92 K W a157 w157 _ [.big (seenX 24 g N157), .blk b 90 [T.v, .map (some g)], .at_ (⟨s138.v, ws.l.set (((nth ((nth T.l t).l) (nth p t)).a).toNat) ((nth ((nth T.l t).l) (nth p t)).c)⟩ : Ls Int), .at_ T, .blk b7008 92 ((p.set t ((nth p t) + 1)).map nv), .blk b7007 36 [.int .i64 ((nth ((nth T.l t).l) (nth p t)).op), .int .i64 ((nth ((nth T.l t).l) (nth p t)).a), .int .i64 ((nth ((nth T.l t).l) (nth p t)).b), .int .i64 ((nth ((nth T.l t).l) (nth p t)).c)], .own 24 (⟨v7006, [ws]⟩ : Ls (Ls Int)), .blk b4 24 [ws.v], .blk b3 92 (p.map nv), .at_ ws] := ⟨hf157, h155.sh.backL (Lp := [.big (seenX 24 g N), .blk b 90 [T.v, .map (some g)], .at_ (⟨s138.v, ws.l.set (((nth ((nth T.l t).l) (nth p t)).a).toNat) ((nth ((nth T.l t).l) (nth p t)).c)⟩ : Ls Int), .at_ T]) hs157 (by intro A hA b hb; simp only [List.mem_cons, List.not_mem_nil, or_false] at hA; rcases hA with rfl | rfl | rfl | rfl <;> first | exact (hb : False).elim | exact Flat.noRd hb | exact .inl ⟨_, List.mem_cons_self .., .inr hb⟩ | exact seen_back hb rfl hr157 | exact .inl ⟨_, by simp, .inr hb⟩)⟩
   clear hf157 hs157
   clear h155
   refine wpList_nil (hK150 _ _ ?_)
   refine x_cond h157 rfl (fun hb158 => ?_) (fun hb158 => ?_)
   ·
    skip
    refine wp_seq_k fun K159 hK159 => wp_region_lit ?_
    refine wms 1 h157 rfl fun a160 h160 => ?_; clear h157
    refine wpList_nil (hK159 _ _ ?_)
    refine wp_ret ?_
    try simp only [Exit.then, Exit.inBlock]
    refine x_ret1 (fn := Try.f57) (t := 6) rfl h160 rfl ?_
    have hct : can (thr T) p ws.l = true := can_yes (by rw [thr_len hT]; exact hpo.len) (by rw [thr_len hT]; omega) (t := t) (by first | exact step_st (by rw [thr_nth hT (by omega)]; omega) (by rw [thr_nth hT (by omega)]; assumption) (by rw [thr_nth hT (by omega)]; assumption) | exact step_ld (by rw [thr_nth hT (by omega)]; omega) (by rw [thr_nth hT (by omega)]; assumption) (by rw [thr_nth hT (by omega)]; assumption) (by assumption))
    obtain ⟨hy1, hy2⟩ := hli.yes (by omega) hrs hsum hc157 hi157
    exact ⟨_, by rw [hct], hk157, hy1, hy2, fun h9 => (by rw [hct] at h9; cases h9), hqq, (h160.sh.sel (L' := [.big (seenX 24 g N157), .blk b 90 [T.v, .map (some g)], .at_ ws, .at_ T]) [0, 1, 9, 3] (by decide) ⟨rfl, rfl, rfl, rfl, trivial⟩)⟩
   refine wp_skip ?_
   refine hK64 _ _ ?_
   refine wp_region_lit ?_
   refine wv h157 (r_addN (p := t) (q := 1) rfl rfl rfl (show t + 1 < 9223372036854775808 from (by omega))) rfl rfl fun a161 h161 => ?_; clear h157
   refine wms 1 h161 rfl fun a162 h162 => ?_; clear h161
   refine wpList_nil ?_
   refine x_again ⟨_, ?_, t + 1, true, N157, ?_, ?_, ?_, ?_, ?_, h162.nrm ⟨rfl, rfl, rfl, rfl, rfl, rfl, rfl, trivial⟩ [6, 7, 8, 0, 1, 9, 3] (by decide) ⟨rfl, rfl, rfl, rfl, rfl, rfl, rfl, trivial⟩, rfl⟩
   · rw [hm59]; first | omega | (simp only [lens9]; omega)
   · omega
   · rw [any_rs, ← hlf]; first | (rw [decide_eq_false (by omega), Bool.or_false]; done) | (rw [decide_eq_true (by omega), Bool.or_true])
   · intro q hq; rcases Nat.lt_or_ge q t with h9 | h9; exact hno q h9; obtain rfl : q = t := (by omega); first | exact step_no (by rw [thr_nth hT (by omega)]; omega) | exact step_st (by rw [thr_nth hT (by omega)]; omega) (by rw [thr_nth hT (by omega)]; assumption) (by rw [thr_nth hT (by omega)]; assumption) | exact step_ld (by rw [thr_nth hT (by omega)]; omega) (by rw [thr_nth hT (by omega)]; assumption) (by rw [thr_nth hT (by omega)]; assumption) (by assumption) | exact step_lo (by rw [thr_nth hT (by omega)]; assumption) (by rw [thr_nth hT (by omega)]; assumption)
   · first | exact hqq | exact hrd
   · first | exact hli.next | exact LI.call hli hrs hsum (by assumption) (by assumption) (by assumption) ((by assumption : _ = false → SeenOK _ _ _) (by assumption))
  have hp135 : ¬ ((nth ((nth T.l t).l) (nth p t)).b = 2) := of_decide_eq_false hb135
  refine wp_seq_k fun K163 hK163 => ?_
  refine x_quiet (by kernel_rfl) (by kernel_rfl) h134 fun Z164 hZ164 => ?_
  have hq164 := h134.fr
  refine wq_val hq164 (r_ldb (i := 3) ti_24 rfl rfl rfl rfl) (wanted_none rfl _) rfl rfl fun a165 hq165 => ?_; clear hq164
  refine wq_val hq165 (r_fieldB (r := 1) fl_36_1 rfl rfl rfl) (wanted_none rfl _) rfl rfl fun a166 hq166 => ?_; clear hq165
  refine wq_val hq166 (r_ldb (i := 1) ti_3 rfl rfl rfl rfl) (wanted_none rfl _) rfl rfl fun a167 hq167 => ?_; clear hq166
  have hl168 : ws.l.length ≤ 140737488355328 := (h134.sh.at 7 rfl).len
  refine wq_val hq167 (r_ixI (s := ws) (q := (nth ((nth T.l t).l) (nth p t)).a) sl_24 ti_3 rfl rfl rfl (fun w h => (h.at 7 rfl)) (show 0 ≤ (nth ((nth T.l t).l) (nth p t)).a ∧ (nth ((nth T.l t).l) (nth p t)).a < ws.l.length from (by omega))) (wanted_none rfl _) rfl rfl fun a169 hq169 => ?_; clear hq167
  refine wq_val hq169 (r_lde (s := ws) (i := ((nth ((nth T.l t).l) (nth p t)).a).toNat) (v := .int .i64 (nth ws.l (((nth ((nth T.l t).l) (nth p t)).a).toNat))) ti_3 rfl rfl rfl (fun w h => (h.at 7 rfl)) (show ((nth ((nth T.l t).l) (nth p t)).a).toNat < ws.l.length from (by omega)) (Nat.le_of_ble_eq_true rfl) rfl) (wanted_none rfl _) rfl rfl fun a170 hq170 => ?_; clear hq169
  refine wq_val hq170 (r_fieldB (r := 3) fl_36_3 rfl rfl rfl) (wanted_none rfl _) rfl rfl fun a171 hq171 => ?_; clear hq170
  refine wq_val hq171 (r_ldb (i := 1) ti_3 rfl rfl rfl rfl) (wanted_none rfl _) rfl rfl fun a172 hq172 => ?_; clear hq171
  refine wq_val hq172 (r_eqlI (p := nth ws.l (((nth ((nth T.l t).l) (nth p t)).a).toNat)) (q := (nth ((nth T.l t).l) (nth p t)).c) rfl rfl rfl) (wanted_none rfl _) rfl rfl fun a173 hq173 => ?_; clear hq172
  refine wq_val hq173 (r_assign rfl rfl) (wanted_none rfl _) rfl rfl fun a174 hq174 => ?_; clear hq173
  refine wpQuiet_nil (hZ164 _ fun w175 hw175 => ?_)
  have h175 : St 92 K W a174 w175 _ _ := ⟨hq174, hw175⟩
  clear hq174 hw175 h134
  refine hK163 _ _ ?_
  have h176 : St 92 K W a174 w175 [(0, .pointer (some ⟨b, 0, none⟩)), (4, .pointer (some ⟨b3, 0, none⟩)), (5, .pointer (some ⟨b4, 0, none⟩)), (7, .bool true), (11, .pointer (some ⟨b7008, 0, none⟩)), (35, T.v), (36, .int .i64 ((T.l.length : Nat) : Int)), (37, .int .i64 ((t : Nat) : Int)), (76, .bool (decide (nth ws.l (((nth ((nth T.l t).l) (nth p t)).a).toNat) = (nth ((nth T.l t).l) (nth p t)).c)))] [.blk b7008 92 ((p.set t ((nth p t) + 1)).map nv), .blk b7007 36 [.int .i64 ((nth ((nth T.l t).l) (nth p t)).op), .int .i64 ((nth ((nth T.l t).l) (nth p t)).a), .int .i64 ((nth ((nth T.l t).l) (nth p t)).b), .int .i64 ((nth ((nth T.l t).l) (nth p t)).c)], .own 24 (⟨v7006, [ws]⟩ : Ls (Ls Int)), .blk b4 24 [ws.v], .blk b3 92 (p.map nv), .big (seenX 24 g N), .blk b 90 [T.v, .map (some g)], .at_ ws, .at_ T] := h175.nrm ⟨rfl, rfl, rfl, rfl, rfl, rfl, rfl, rfl, rfl, trivial⟩ [0, 1, 2, 3, 4, 5, 6, 7, 8] (by decide) ⟨rfl, rfl, rfl, rfl, rfl, rfl, rfl, rfl, rfl, trivial⟩
  clear h175
  refine x_cond h176 rfl (fun hb177 => ?_) (fun hb177 => ?_)
  ·
   have hp177 : nth ws.l (((nth ((nth T.l t).l) (nth p t)).a).toNat) = (nth ((nth T.l t).l) (nth p t)).c := of_decide_eq_true hb177
   refine wp_seq_k fun K178 hK178 => wp_region_lit ?_
   refine wms 1 h176 rfl fun a179 h179 => ?_; clear h176
   refine wv h179 (r_ldwAn (i := 0) (l := (p.set t ((nth p t) + 1))) ti_92 rfl rfl rfl (by first | assumption | (simp only [lens9]; done) | (simp only [lens9]; first | assumption | omega) | rfl)) rfl rfl fun a180 h180 => ?_; clear h179
   refine wv h180 (r_ldb (i := 3) ti_24 rfl rfl rfl rfl) rfl rfl fun a181 h181 => ?_; clear h180
   have h182 := h181.sel (L' := [.big (seenX 24 g N), .blk b 90 [T.v, .map (some g)], .at_ ws, .at_ T, .blk b7008 92 ((p.set t ((nth p t) + 1)).map nv), .blk b7007 36 [.int .i64 ((nth ((nth T.l t).l) (nth p t)).op), .int .i64 ((nth ((nth T.l t).l) (nth p t)).a), .int .i64 ((nth ((nth T.l t).l) (nth p t)).b), .int .i64 ((nth ((nth T.l t).l) (nth p t)).c)], .own 24 (⟨v7006, [ws]⟩ : Ls (Ls Int)), .blk b4 24 [ws.v], .blk b3 92 (p.map nv)]) [5, 6, 7, 8, 0, 1, 2, 3, 4] (by decide) ⟨rfl, rfl, rfl, rfl, rfl, rfl, rfl, rfl, rfl, trivial⟩
   have hp183 := h182.sh.passL (Lp := [.big (seenX 24 g N), .blk b 90 [T.v, .map (some g)], .at_ ws, .at_ T])
   refine wl_ex (x_call h182 bd_57 rfl rfl rfl rfl rfl (ih (p.set t ((nth p t) + 1)) ws (by omega) _ _ _ (hpo.step (by omega) (by omega)) (by first | exact hwn | (simp only [List.length_set]; exact hwn)) hli.keys (hli.room (by omega) hrs hcn) (hsum ▸ hli.seen) hp183)) (wanted_none rfl _) ?_
   rintro a184 w184 ⟨_, ⟨N184, rfl, hk184, hc184, hi184, ho184, hr184, hs184⟩, hf184⟩
   have hqq := rd_comp (Lp := [.big (seenX 24 g N), .blk b 90 [T.v, .map (some g)], .at_ ws, .at_ T]) (on := ws.on) h182.sh hrd hr184 (fun c h9 => .inl h9)
   have h184 : St 92 K W a184 w184 _ [.big (seenX 24 g N184), .blk b 90 [T.v, .map (some g)], .at_ ws, .at_ T, .blk b7008 92 ((p.set t ((nth p t) + 1)).map nv), .blk b7007 36 [.int .i64 ((nth ((nth T.l t).l) (nth p t)).op), .int .i64 ((nth ((nth T.l t).l) (nth p t)).a), .int .i64 ((nth ((nth T.l t).l) (nth p t)).b), .int .i64 ((nth ((nth T.l t).l) (nth p t)).c)], .own 24 (⟨v7006, [ws]⟩ : Ls (Ls Int)), .blk b4 24 [ws.v], .blk b3 92 (p.map nv)] := ⟨hf184, h182.sh.backL (Lp := [.big (seenX 24 g N), .blk b 90 [T.v, .map (some g)], .at_ ws, .at_ T]) hs184 (by intro A hA b hb; simp only [List.mem_cons, List.not_mem_nil, or_false] at hA; rcases hA with rfl | rfl | rfl | rfl <;> first | exact (hb : False).elim | exact Flat.noRd hb | exact .inl ⟨_, List.mem_cons_self .., .inr hb⟩ | exact seen_back hb rfl hr184 | exact .inl ⟨_, by simp, .inr hb⟩)⟩
   clear hf184 hs184
   clear h182
   refine wpList_nil (hK178 _ _ ?_)
   refine x_cond h184 rfl (fun hb185 => ?_) (fun hb185 => ?_)
   ·
    skip
    refine wp_seq_k fun K186 hK186 => wp_region_lit ?_
    refine wms 1 h184 rfl fun a187 h187 => ?_; clear h184
    refine wpList_nil (hK186 _ _ ?_)
    refine wp_ret ?_
    try simp only [Exit.then, Exit.inBlock]
    refine x_ret1 (fn := Try.f57) (t := 6) rfl h187 rfl ?_
    have hct : can (thr T) p ws.l = true := can_yes (by rw [thr_len hT]; exact hpo.len) (by rw [thr_len hT]; omega) (t := t) (by first | exact step_st (by rw [thr_nth hT (by omega)]; omega) (by rw [thr_nth hT (by omega)]; assumption) (by rw [thr_nth hT (by omega)]; assumption) | exact step_ld (by rw [thr_nth hT (by omega)]; omega) (by rw [thr_nth hT (by omega)]; assumption) (by rw [thr_nth hT (by omega)]; assumption) (by assumption))
    obtain ⟨hy1, hy2⟩ := hli.yes (by omega) hrs hsum hc184 hi184
    exact ⟨_, by rw [hct], hk184, hy1, hy2, fun h9 => (by rw [hct] at h9; cases h9), hqq, (h187.sh.sel (L' := [.big (seenX 24 g N184), .blk b 90 [T.v, .map (some g)], .at_ ws, .at_ T]) [0, 1, 2, 3] (by decide) ⟨rfl, rfl, rfl, rfl, trivial⟩)⟩
   refine wp_skip ?_
   refine hK64 _ _ ?_
   refine wp_region_lit ?_
   refine wv h184 (r_addN (p := t) (q := 1) rfl rfl rfl (show t + 1 < 9223372036854775808 from (by omega))) rfl rfl fun a188 h188 => ?_; clear h184
   refine wms 1 h188 rfl fun a189 h189 => ?_; clear h188
   refine wpList_nil ?_
   refine x_again ⟨_, ?_, t + 1, true, N184, ?_, ?_, ?_, ?_, ?_, h189.nrm ⟨rfl, rfl, rfl, rfl, rfl, rfl, rfl, trivial⟩ [6, 7, 8, 0, 1, 2, 3] (by decide) ⟨rfl, rfl, rfl, rfl, rfl, rfl, rfl, trivial⟩, rfl⟩
   · rw [hm59]; first | omega | (simp only [lens9]; omega)
   · omega
   · rw [any_rs, ← hlf]; first | (rw [decide_eq_false (by omega), Bool.or_false]; done) | (rw [decide_eq_true (by omega), Bool.or_true])
   · intro q hq; rcases Nat.lt_or_ge q t with h9 | h9; exact hno q h9; obtain rfl : q = t := (by omega); first | exact step_no (by rw [thr_nth hT (by omega)]; omega) | exact step_st (by rw [thr_nth hT (by omega)]; omega) (by rw [thr_nth hT (by omega)]; assumption) (by rw [thr_nth hT (by omega)]; assumption) | exact step_ld (by rw [thr_nth hT (by omega)]; omega) (by rw [thr_nth hT (by omega)]; assumption) (by rw [thr_nth hT (by omega)]; assumption) (by assumption) | exact step_lo (by rw [thr_nth hT (by omega)]; assumption) (by rw [thr_nth hT (by omega)]; assumption)
   · first | exact hqq | exact hrd
   · first | exact hli.next | exact LI.call hli hrs hsum (by assumption) (by assumption) (by assumption) ((by assumption : _ = false → SeenOK _ _ _) (by assumption))
  have hp177 : ¬ (nth ws.l (((nth ((nth T.l t).l) (nth p t)).a).toNat) = (nth ((nth T.l t).l) (nth p t)).c) := of_decide_eq_false hb177
  refine wp_skip ?_
  refine hK64 _ _ ?_
  refine wp_region_lit ?_
  refine wv h176 (r_addN (p := t) (q := 1) rfl rfl rfl (show t + 1 < 9223372036854775808 from (by omega))) rfl rfl fun a190 h190 => ?_; clear h176
  refine wms 1 h190 rfl fun a191 h191 => ?_; clear h190
  refine wpList_nil ?_
  refine x_again ⟨_, ?_, t + 1, true, N, ?_, ?_, ?_, ?_, ?_, h191.nrm ⟨rfl, rfl, rfl, rfl, rfl, rfl, rfl, trivial⟩ [2, 3, 4, 5, 6, 7, 8] (by decide) ⟨rfl, rfl, rfl, rfl, rfl, rfl, rfl, trivial⟩, rfl⟩
  · rw [hm59]; first | omega | (simp only [lens9]; omega)
  · omega
  · rw [any_rs, ← hlf]; first | (rw [decide_eq_false (by omega), Bool.or_false]; done) | (rw [decide_eq_true (by omega), Bool.or_true])
  · intro q hq; rcases Nat.lt_or_ge q t with h9 | h9; exact hno q h9; obtain rfl : q = t := (by omega); first | exact step_no (by rw [thr_nth hT (by omega)]; omega) | exact step_st (by rw [thr_nth hT (by omega)]; omega) (by rw [thr_nth hT (by omega)]; assumption) (by rw [thr_nth hT (by omega)]; assumption) | exact step_ld (by rw [thr_nth hT (by omega)]; omega) (by rw [thr_nth hT (by omega)]; assumption) (by rw [thr_nth hT (by omega)]; assumption) (by assumption) | exact step_lo (by rw [thr_nth hT (by omega)]; assumption) (by rw [thr_nth hT (by omega)]; assumption)
  · first | exact hqq | exact hrd
  · first | exact hli.next | exact LI.call hli hrs hsum (by assumption) (by assumption) (by assumption) ((by assumption : _ = false → SeenOK _ _ _) (by assumption))
 have hp63 : ¬ (t < T.l.length) := of_decide_eq_false hb63
 refine wp_exit ?_
 refine hK50 _ _ ?_
 refine wp_seq_k fun K192 hK192 => wp_region_lit ?_
 refine wms 1 h61 rfl fun a193 h193 => ?_; clear h61
 refine wv h193 (r_not rfl rfl) rfl rfl fun a194 h194 => ?_; clear h193
 refine wms 1 h194 rfl fun a195 h195 => ?_; clear h194
 refine wpList_nil (hK192 _ _ ?_)
 refine wp_ret ?_
 try simp only [Exit.then, Exit.inBlock]
 refine x_ret1 (fn := Try.f57) (t := 6) rfl h195 rfl ?_
 have hce : can (thr T) p ws.l = !lf := can_end (by rw [thr_len hT]; exact hpo.len) (by rw [hlf, thr_len hT, show t = 4 by omega]; exact any_congr' fun q hq => by rw [thr_nth hT (List.mem_range.1 hq)]) (fun q hq => hno q (by rw [thr_len hT] at hq; omega))
 exact ⟨N, by rw [hce], hli.keys, hli.bound (by omega), hli.low, fun h9 => hli.end_ hse h9, hrd, (h195.sh.sel (L' := [.big (seenX 24 g N), .blk b 90 [T.v, .map (some g)], .at_ ws, .at_ T]) [3, 4, 5, 6] (by decide) ⟨rfl, rfl, rfl, rfl, trivial⟩)⟩

theorem from_c (T : Ls (Ls Ins)) (b g n : Nat) (hT : HOk T n) : ∀ (m : Nat) (p : List Nat) (ws : Ls Int), restN (thr T) p ≤ m → FromIs T b g n p ws := by
  intro m
  induction m with
  | zero => exact fun p ws hm K M W hpo hwn hkM hcn hse hS => from_step T b g n p ws K M W hT (fun p2 ws2 h => by omega) hpo hwn hkM hcn hse hS
  | succ m ih => exact fun p ws hm K M W hpo hwn hkM hcn hse hS => from_step T b g n p ws K M W hT (fun p2 ws2 h => ih p2 ws2 (by omega)) hpo hwn hkM hcn hse hS
end Go.Proofs.Ytanhbpofhebbaaa
