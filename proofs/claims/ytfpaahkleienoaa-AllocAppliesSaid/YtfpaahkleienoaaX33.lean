/-
  Contracts of functions of this program and of the references, each walked once.
-/
import Derived.Test.YtfpaahkleienoaaC3
import Derived.Test.YtfpaahkleienoaaV1
namespace Go.Proofs.Ytfpaahkleienoaa
open Go.RowKit
set_option linter.unusedSimpArgs false
set_option linter.unusedVariables false


def kAt (s : ByteArray) (k : Nat) : Int := if h : k < s.size then ((s[k]'h).toNat : Int) else 0
theorem kAt_at {s : ByteArray} {k : Nat} (h : k < s.size) : kAt s k = ((s[k]'h).toNat : Int) := dif_pos h
theorem kinds_small (op : Int) : (kindsB op).size ≤ 3 ∧ ∀ k (h : k < (kindsB op).size), ((kindsB op)[k]'h).toNat < 128 := by
  by_cases h : 1 ≤ op ∧ op ≤ 18
  · rcases cases18 op h with h | h | h | h | h | h | h | h | h | h | h | h | h | h | h | h | h | h <;> subst h <;> decide +kernel
  · rw [kindsB_none op h]
    exact ⟨by decide +kernel, fun k hk => absurd hk (Nat.not_lt_zero k)⟩
/-- What is read of an order's first numbers. -/
def rdK (x : Ins) (k : Nat) : Bool := decide (kAt (kindsB x.op) k = 114) && !(decide (k = 0) && decide (x.op ≠ 13) && decide (0 ≤ wrG x))
def rdTo (x : Ins) (n : Nat) : List Int := (List.range n).flatMap fun k => if rdK x k = true then [nth [x.a, x.b, x.c] k] else []
theorem rdTo_succ (x : Ins) (n : Nat) : rdTo x (n + 1) = rdTo x n ++ if rdK x n = true then [nth [x.a, x.b, x.c] n] else [] := by
  unfold rdTo
  rw [List.range_succ, List.flatMap_append]
  simp
theorem rdTo_yes {x : Ins} {n : Nat} {ol : List Int} (h : ol = rdTo x n) (hk : rdK x n = true) : ol ++ [nth [x.a, x.b, x.c] n] = rdTo x (n + 1) := by rw [rdTo_succ, h, if_pos hk]
theorem rdTo_no {x : Ins} {n : Nat} {ol : List Int} (h : ol = rdTo x n) (hk : rdK x n = false) : ol = rdTo x (n + 1) := by rw [rdTo_succ, h, if_neg (by rw [hk]; decide), List.append_nil]
theorem rdK_no {x : Ins} {n : Nat} (h : ¬ kAt (kindsB x.op) n = 114) : rdK x n = false := by unfold rdK; rw [decide_eq_false h, Bool.false_and]
theorem rdK_off {x : Ins} {n : Nat} (h1 : n = 0) (h2 : x.op ≠ 13) (h3 : 0 ≤ wrG x) : rdK x n = false := by unfold rdK; rw [decide_eq_true h1, decide_eq_true h2, decide_eq_true h3]; simp
theorem rdK_on {x : Ins} {n : Nat} (h : kAt (kindsB x.op) n = 114) (h2 : n ≠ 0 ∨ x.op = 13 ∨ ¬ 0 ≤ wrG x) : rdK x n = true := by
  unfold rdK
  rw [decide_eq_true h, Bool.true_and]
  rcases h2 with h2 | h2 | h2
  · rw [decide_eq_false h2]; rfl
  · rw [decide_eq_false (show ¬ x.op ≠ 13 from fun e => e h2)]; simp
  · rw [decide_eq_false h2]; simp
theorem rdTo_all (x : Ins) (hop : 1 ≤ x.op ∧ x.op ≤ 18) (hw : x.op ≤ 8 ∨ x.op = 10 → 0 ≤ x.a) : rdTo x (kindsB x.op).size = rdG x := by
  obtain ⟨op, a, b, c⟩ := x
  simp only at hop hw
  have key : ∀ (l : List UInt8), kindsB op = ⟨l.toArray⟩ → ∀ k, kAt (kindsB op) k = ((l[k]?).map fun b => (b.toNat : Int)).getD 0 := by
    intro l hl k
    rw [hl]
    unfold kAt
    by_cases h : k < l.length
    · rw [dif_pos (by simpa [ByteArray.size] using h), List.getElem?_eq_getElem h]; rfl
    · rw [dif_neg (by simpa [ByteArray.size] using h), List.getElem?_eq_none (by omega)]; rfl
  rcases cases18 op hop with h | h | h | h | h | h | h | h | h | h | h | h | h | h | h | h | h | h <;> subst h
  · have e : kindsB 1 = ⟨[114, 110].toArray⟩ := by unfold kindsB; simp
    have hk := key _ e
    have e0 := hk 0
    have e1 := hk 1
    have e2 := hk 2
    simp at e0 e1 e2
    have ez : (kindsB 1).size = 2 := by rw [e]; rfl
    have h0 : 0 ≤ a := hw (by decide)
    simp [rdTo, rdK, ez, e0, e1, e2, wrG, rdG, nth, List.range_succ, h0]
  · have e : kindsB 2 = ⟨[114, 114].toArray⟩ := by unfold kindsB; simp
    have hk := key _ e
    have e0 := hk 0
    have e1 := hk 1
    have e2 := hk 2
    simp at e0 e1 e2
    have ez : (kindsB 2).size = 2 := by rw [e]; rfl
    have h0 : 0 ≤ a := hw (by decide)
    simp [rdTo, rdK, ez, e0, e1, e2, wrG, rdG, nth, List.range_succ, h0]
  · have e : kindsB 3 = ⟨[114, 114, 114].toArray⟩ := by unfold kindsB; simp
    have hk := key _ e
    have e0 := hk 0
    have e1 := hk 1
    have e2 := hk 2
    simp at e0 e1 e2
    have ez : (kindsB 3).size = 3 := by rw [e]; rfl
    have h0 : 0 ≤ a := hw (by decide)
    simp [rdTo, rdK, ez, e0, e1, e2, wrG, rdG, nth, List.range_succ, h0]
  · have e : kindsB 4 = ⟨[114, 114, 114].toArray⟩ := by unfold kindsB; simp
    have hk := key _ e
    have e0 := hk 0
    have e1 := hk 1
    have e2 := hk 2
    simp at e0 e1 e2
    have ez : (kindsB 4).size = 3 := by rw [e]; rfl
    have h0 : 0 ≤ a := hw (by decide)
    simp [rdTo, rdK, ez, e0, e1, e2, wrG, rdG, nth, List.range_succ, h0]
  · have e : kindsB 5 = ⟨[114, 114, 114].toArray⟩ := by unfold kindsB; simp
    have hk := key _ e
    have e0 := hk 0
    have e1 := hk 1
    have e2 := hk 2
    simp at e0 e1 e2
    have ez : (kindsB 5).size = 3 := by rw [e]; rfl
    have h0 : 0 ≤ a := hw (by decide)
    simp [rdTo, rdK, ez, e0, e1, e2, wrG, rdG, nth, List.range_succ, h0]
  · have e : kindsB 6 = ⟨[114, 114, 114].toArray⟩ := by unfold kindsB; simp
    have hk := key _ e
    have e0 := hk 0
    have e1 := hk 1
    have e2 := hk 2
    simp at e0 e1 e2
    have ez : (kindsB 6).size = 3 := by rw [e]; rfl
    have h0 : 0 ≤ a := hw (by decide)
    simp [rdTo, rdK, ez, e0, e1, e2, wrG, rdG, nth, List.range_succ, h0]
  · have e : kindsB 7 = ⟨[114, 114, 114].toArray⟩ := by unfold kindsB; simp
    have hk := key _ e
    have e0 := hk 0
    have e1 := hk 1
    have e2 := hk 2
    simp at e0 e1 e2
    have ez : (kindsB 7).size = 3 := by rw [e]; rfl
    have h0 : 0 ≤ a := hw (by decide)
    simp [rdTo, rdK, ez, e0, e1, e2, wrG, rdG, nth, List.range_succ, h0]
  · have e : kindsB 8 = ⟨[114, 119].toArray⟩ := by unfold kindsB; simp
    have hk := key _ e
    have e0 := hk 0
    have e1 := hk 1
    have e2 := hk 2
    simp at e0 e1 e2
    have ez : (kindsB 8).size = 2 := by rw [e]; rfl
    have h0 : 0 ≤ a := hw (by decide)
    simp [rdTo, rdK, ez, e0, e1, e2, wrG, rdG, nth, List.range_succ, h0]
  · have e : kindsB 9 = ⟨[119, 114].toArray⟩ := by unfold kindsB; simp
    have hk := key _ e
    have e0 := hk 0
    have e1 := hk 1
    have e2 := hk 2
    simp at e0 e1 e2
    have ez : (kindsB 9).size = 2 := by rw [e]; rfl
    simp [rdTo, rdK, ez, e0, e1, e2, wrG, rdG, nth, List.range_succ]
  · have e : kindsB 10 = ⟨[114, 114].toArray⟩ := by unfold kindsB; simp
    have hk := key _ e
    have e0 := hk 0
    have e1 := hk 1
    have e2 := hk 2
    simp at e0 e1 e2
    have ez : (kindsB 10).size = 2 := by rw [e]; rfl
    have h0 : 0 ≤ a := hw (by decide)
    simp [rdTo, rdK, ez, e0, e1, e2, wrG, rdG, nth, List.range_succ, h0]
  · have e : kindsB 11 = ⟨[114, 114].toArray⟩ := by unfold kindsB; simp
    have hk := key _ e
    have e0 := hk 0
    have e1 := hk 1
    have e2 := hk 2
    simp at e0 e1 e2
    have ez : (kindsB 11).size = 2 := by rw [e]; rfl
    simp [rdTo, rdK, ez, e0, e1, e2, wrG, rdG, nth, List.range_succ]
  · have e : kindsB 12 = ⟨[].toArray⟩ := by unfold kindsB; simp
    have hk := key _ e
    have e0 := hk 0
    have e1 := hk 1
    have e2 := hk 2
    simp at e0 e1 e2
    have ez : (kindsB 12).size = 0 := by rw [e]; rfl
    simp [rdTo, rdK, ez, e0, e1, e2, wrG, rdG, nth, List.range_succ]
  · have e : kindsB 13 = ⟨[119, 114, 114].toArray⟩ := by unfold kindsB; simp
    have hk := key _ e
    have e0 := hk 0
    have e1 := hk 1
    have e2 := hk 2
    simp at e0 e1 e2
    have ez : (kindsB 13).size = 3 := by rw [e]; rfl
    simp [rdTo, rdK, ez, e0, e1, e2, wrG, rdG, nth, List.range_succ]
  · have e : kindsB 14 = ⟨[99].toArray⟩ := by unfold kindsB; simp
    have hk := key _ e
    have e0 := hk 0
    have e1 := hk 1
    have e2 := hk 2
    simp at e0 e1 e2
    have ez : (kindsB 14).size = 1 := by rw [e]; rfl
    simp [rdTo, rdK, ez, e0, e1, e2, wrG, rdG, nth, List.range_succ]
  · have e : kindsB 15 = ⟨[114, 99].toArray⟩ := by unfold kindsB; simp
    have hk := key _ e
    have e0 := hk 0
    have e1 := hk 1
    have e2 := hk 2
    simp at e0 e1 e2
    have ez : (kindsB 15).size = 2 := by rw [e]; rfl
    simp [rdTo, rdK, ez, e0, e1, e2, wrG, rdG, nth, List.range_succ]
  · have e : kindsB 16 = ⟨[114].toArray⟩ := by unfold kindsB; simp
    have hk := key _ e
    have e0 := hk 0
    have e1 := hk 1
    have e2 := hk 2
    simp at e0 e1 e2
    have ez : (kindsB 16).size = 1 := by rw [e]; rfl
    simp [rdTo, rdK, ez, e0, e1, e2, wrG, rdG, nth, List.range_succ]
  · have e : kindsB 17 = ⟨[108].toArray⟩ := by unfold kindsB; simp
    have hk := key _ e
    have e0 := hk 0
    have e1 := hk 1
    have e2 := hk 2
    simp at e0 e1 e2
    have ez : (kindsB 17).size = 1 := by rw [e]; rfl
    simp [rdTo, rdK, ez, e0, e1, e2, wrG, rdG, nth, List.range_succ]
  · have e : kindsB 18 = ⟨[108].toArray⟩ := by unfold kindsB; simp
    have hk := key _ e
    have e0 := hk 0
    have e1 := hk 1
    have e2 := hk 2
    simp at e0 e1 e2
    have ez : (kindsB 18).size = 1 := by rw [e]; rfl
    simp [rdTo, rdK, ez, e0, e1, e2, wrG, rdG, nth, List.range_succ]

set_option maxRecDepth 100000 in
set_option maxHeartbeats 1000000 in
theorem kinds_c (op : Int) (W : World) :
    Rets Try.prog 101 [.int .i64 op] W (fun v w' => v = .string (kindsB op) ∧ Sh0 W w' []) := by
 refine x_enter (N := 7) Try.func101 rfl Try.ntmps101 (Nat.le_of_ble_eq_true rfl) fun a1 hf1 => ?_
 have h1 : St 7 (fun _ => False) W a1 W [(0, .int .i64 op)] [] := ⟨hf1.sub ⟨rfl, trivial⟩, Sh0.start W⟩
 clear hf1
 refine wp_seq_k fun K2 hK2 => wp_region_lit <| wms 1 h1 rfl fun a3 h3 => wpList_nil <| hK2 _ _ <| wp_seq_k fun K4 hK4 => wp_region_lit <| wl_ex (x_call h3 bd_92 rfl rfl rfl rfl rfl (shapes_c _)) (wanted_none rfl _) ?_; clear h1
 rintro a5 w5 ⟨_, ⟨g5, rfl, hs5⟩, hf5⟩
 have h5 := (⟨hf5, h3.sh.call hs5 (by intro A hA b hb; first | (simp at hA; done) | (simp at hA; subst hA; first | exact Flat.noRd hb | exact (hb : False).elim) | (simp at hA; rcases hA with rfl | rfl <;> first | exact Flat.noRd hb | exact (hb : False).elim))⟩ : St 7 (fun _ => False) W a5 w5 _ _)
 clear hf5 hs5
 clear h3
 refine wms 1 h5 rfl fun a6 h6 => wv h6 (r_lookShp (i := 0) rfl rfl rfl rfl) rfl rfl fun a7 h7 => wv h7 (r_fieldK rfl rfl) rfl rfl fun a8 h8 => wms 1 h8 rfl fun a9 h9 => wpList_nil <| hK4 _ _ <| wp_ret ?_; clear h5 h6 h7 h8
 try simp only [Exit.then, Exit.inBlock]
 refine x_ret1 (fn := Try.f101) (t := 2) rfl h9 rfl ?_
 exact ⟨rfl, (h9.sh.sel [] (by decide) trivial)⟩

set_option maxRecDepth 100000 in
set_option maxHeartbeats 1000000 in
theorem reads_c (x : Ins) (W : World) (hop : 1 ≤ x.op ∧ x.op ≤ 18) (hw : x.op ≤ 8 ∨ x.op = 10 → 0 ≤ x.a) :
    Rets Try.prog 105 [.agg #[.int .i64 x.op, .int .i64 x.a, .int .i64 x.b, .int .i64 x.c]] W (fun v w' => ∃ s : Ls Int, v = s.v ∧ s.l = rdG x ∧ Sh0 W w' [.own 3 s]) := by
 refine x_enter (N := 47) Try.func105 rfl Try.ntmps105 (Nat.le_of_ble_eq_true rfl) fun a1 hf1 => ?_
 have h1 : St 47 (fun _ => False) W a1 W [(0, .agg #[.int .i64 x.op, .int .i64 x.a, .int .i64 x.b, .int .i64 x.c])] [] := ⟨hf1.sub ⟨rfl, trivial⟩, Sh0.start W⟩
 clear hf1
 refine wp_seq_k fun K2 hK2 => wp_region_lit <| wl_ex (x_box (cs := [.int .i64 x.op, .int .i64 x.a, .int .i64 x.b, .int .i64 x.c]) h1 rfl rfl rfl rfl rfl) (wanted_none rfl _) ?_
 rintro a3 w3 ⟨b3, h3⟩; clear h1
 refine wms 1 h3 rfl fun a4 h4 => wpList_nil <| hK2 _ _ <| wp_seq_k fun K5 hK5 => wp_region_lit <| wms 1 h4 rfl fun a6 h6 => wpList_nil <| hK5 _ _ <| wp_seq_k fun K7 hK7 => wp_seq_k fun K8 hK8 => wp_region_lit <| wv h6 (r_fieldB (r := 0) fl_32_0 rfl rfl rfl) rfl rfl fun a9 h9 => wv h9 (r_ldb (i := 0) ti_3 rfl rfl rfl rfl) rfl rfl fun a10 h10 => wl_ex (x_call h10 bd_101 rfl rfl rfl rfl rfl (kinds_c x.op _)) (wanted_none rfl _) ?_; clear h3 h4 h6 h9
 rintro a11 w11 ⟨_, ⟨rfl, hs11⟩, hf11⟩
 have h11 : St 47 (fun _ => False) W a11 w11 _ _ := ⟨hf11, h10.sh.call0 hs11⟩
 clear hf11 hs11
 clear h10
 refine wl_ex (x_range (s := kindsB x.op) h11 Try.underlying9 rfl rfl rfl rfl) (wanted_none rfl _) ?_
 rintro a12 w12 ⟨b12, h12⟩; clear h11
 refine wpList_nil <| hK8 _ _ <| wp_block ?_
 have h14 := h12.nil (α := Int) 3
 clear h12
 refine x_loop (fun m a w => ∃ (i : Nat) (ol : List Int) (vo : Value), (i ≤ (kindsB x.op).size) ∧ (ol = rdTo x i) ∧ (ol.length ≤ i) ∧ St 47 (fun _ => False) W a w [(1, .pointer (some ⟨b3, 0, none⟩)), (3, vo), (10, .pointer (some ⟨b12, 0, none⟩))] [.iter b12 (kindsB x.op) i, .blk b3 32 [.int .i64 x.op, .int .i64 x.a, .int .i64 x.b, .int .i64 x.c], .own 3 (⟨vo, ol⟩ : Ls Int)] ∧ m = (kindsB x.op).size - i) ⟨_, 0, [], (.slice none 0 0), (Nat.zero_le _), (rfl), (Nat.le_refl _), h14.nrm ⟨rfl, rfl, rfl, trivial⟩ [1, 2, 0] (by decide) ⟨rfl, rfl, rfl, trivial⟩, rfl⟩ ?_
 clear h14
 rintro m13 a13 w13 ⟨i, ol, vo, hi, hol, hoi, h13, hm13⟩
 have h3 := (kinds_small x.op).1
 refine wp_seq_k fun K15 hK15 => wp_region_lit ?_
 by_cases hn16 : i < (kindsB x.op).size
 ·refine wl_ex (x_next (i := 0) (s := (kindsB x.op)) (pos := i) h13 rfl rfl rfl hn16 ((kinds_small x.op).2 _ hn16) rfl rfl) (wanted_none rfl _) ?_
  rintro a17 w17 h17
  clear h13
  refine wv h17 (r_extract rfl rfl rfl) rfl rfl fun a18 h18 => wpList_nil <| hK15 _ _ <| wp_seq_k fun K19 hK19 => x_condT h18 rfl rfl <| wp_skip <| hK19 _ _ <| wp_block <| wp_seq_k fun K20 hK20 => wp_region_lit <| wv h18 (r_extract rfl rfl rfl) rfl rfl fun a21 h21 => wv h21 (r_extract rfl rfl rfl) rfl rfl fun a22 h22 => wms 2 h22 rfl fun a23 h23 => wpList_nil ?_; clear h17 h18 h21 h22
  refine hK20 _ _ <| wp_seq_k fun K24 hK24 => wp_region_lit <| wv h23 (r_fieldB (r := 1) fl_32_1 rfl rfl rfl) rfl rfl fun a25 h25 => wv h25 (r_ldb (i := 1) ti_3 rfl rfl rfl rfl) rfl rfl fun a26 h26 => wv h26 (r_fieldB (r := 2) fl_32_2 rfl rfl rfl) rfl rfl fun a27 h27 => wv h27 (r_ldb (i := 1) ti_3 rfl rfl rfl rfl) rfl rfl fun a28 h28 => wv h28 (r_fieldB (r := 3) fl_32_3 rfl rfl rfl) rfl rfl fun a29 h29 => wv h29 (r_ldb (i := 1) ti_3 rfl rfl rfl rfl) rfl rfl fun a30 h30 => wl_ex (x_lit (n := 3) (cs := [.int .i64 x.a, .int .i64 x.b, .int .i64 x.c]) ([x.a, x.b, x.c] : List Int) h30 sl_23 ti_3 rfl rfl rfl (by decide) rfl (by kernel_rfl) rfl (fun q hq w h => Flat.inner _ _) (fun q hq b hb => (Flat.on _ _ hb).elim) rfl rfl) (wanted_none rfl _) ?_; clear h23 h25 h26 h27 h28 h29
  rintro a31 w31 ⟨v31, h31⟩; clear h30
  refine wms 1 h31 rfl fun a32 h32 => ?_; clear h31
  have hl33 : ([x.a, x.b, x.c]).length ≤ 140737488355328 := (h32.sh.own 0 rfl).len
  refine wv h32 (r_ixN (s := (⟨v31, [x.a, x.b, x.c]⟩ : Ls Int)) (q := i) sl_23 ti_3 rfl rfl rfl (fun w h => (h.own 0 rfl)) (show i < ([x.a, x.b, x.c]).length from (by first | omega | (simp only [lens9]; omega)))) rfl rfl fun a34 h34 => wv h34 (r_lde (s := (⟨v31, [x.a, x.b, x.c]⟩ : Ls Int)) (i := i) (v := .int .i64 (nth ([x.a, x.b, x.c]) i)) ti_3 rfl rfl rfl (fun w h => (h.own 0 rfl)) (show i < ([x.a, x.b, x.c]).length from (by first | omega | (simp only [lens9]; omega))) (Nat.le_of_ble_eq_true rfl) rfl) rfl rfl fun a35 h35 => wms 1 h35 rfl fun a36 h36 => wpList_nil <| hK24 _ _ <| wp_seq_k fun K37 hK37 => wp_region_lit <| wms 1 h36 rfl fun a38 h38 => wv h38 (r_eqlI (p := (((kindsB x.op)[i]'hn16).toNat : Int)) (q := 114) rfl rfl rfl) rfl rfl fun a39 h39 => wms 1 h39 rfl fun a40 h40 => ?_; clear h32 h34 h35 h36 h38 h39
  rcases Bool.eq_false_or_eq_true (decide ((((kindsB x.op)[i]'hn16).toNat : Int) = 114)) with hb41 | hb41
  ·have hp41 : (((kindsB x.op)[i]'hn16).toNat : Int) = 114 := of_decide_eq_true hb41
   refine wl_val h40 (r_move rfl rfl) (wanted_yes h40.fr rfl rfl rfl rfl hb41) rfl rfl fun a42 h42 => wl_val h42 (r_eqlN (p := i) (q := 0) rfl rfl rfl) (wanted_yes h42.fr rfl rfl rfl rfl hb41) rfl rfl fun a43 h43 => wl_val h43 (r_move rfl rfl) (wanted_yes h43.fr rfl rfl rfl rfl hb41) rfl rfl fun a44 h44 => ?_; clear h40 h42 h43
   rcases Bool.eq_false_or_eq_true (decide (i = 0)) with hb45 | hb45
   ·have hp45 : i = 0 := of_decide_eq_true hb45
    refine wl_val h44 (r_fieldB (r := 0) fl_32_0 rfl rfl rfl) (wanted_yes h44.fr rfl rfl rfl rfl hb45) rfl rfl fun a46 h46 => wl_val h46 (r_ldb (i := 2) ti_3 rfl rfl rfl rfl) (wanted_yes h46.fr rfl rfl rfl rfl hb45) rfl rfl fun a47 h47 => wl_val h47 (r_neqI (p := x.op) (q := 13) rfl rfl rfl) (wanted_yes h47.fr rfl rfl rfl rfl hb45) rfl rfl fun a48 h48 => wl_val h48 (r_pickT rfl rfl hb45 rfl) (wanted_yes h48.fr rfl rfl rfl rfl hb41) rfl rfl fun a49 h49 => wl_val h49 (r_move rfl rfl) (wanted_yes h49.fr rfl rfl rfl rfl hb41) rfl rfl fun a50 h50 => ?_; clear h44 h46 h47 h48 h49
    rcases Bool.eq_false_or_eq_true (decide (x.op ≠ 13)) with hb51 | hb51
    ·have hp51 : x.op ≠ 13 := of_decide_eq_true hb51
     refine wl_val h50 (r_ldbw (i := 2) (vs := [.int .i64 x.op, .int .i64 x.a, .int .i64 x.b, .int .i64 x.c]) ti_32 rfl rfl rfl rfl rfl) (wanted_yes h50.fr rfl rfl rfl rfl hb51) rfl rfl fun a52 h52 => wl_ex (x_call h52 bd_100 rfl rfl rfl rfl rfl (writes_c x _ (by omega))) (wanted_yes h52.fr rfl rfl rfl rfl hb51) ?_; clear h50
     rintro a53 w53 ⟨_, ⟨rfl, hs53⟩, hf53⟩
     have h53 : St 47 (fun _ => False) W a53 w53 _ _ := ⟨hf53, h52.sh.call0 hs53⟩
     clear hf53 hs53
     clear h52
     refine wl_val h53 (r_geqI (p := wrG x) (q := 0) rfl rfl rfl) (wanted_yes h53.fr rfl rfl rfl rfl hb51) rfl rfl fun a54 h54 => wl_val h54 (r_pickT rfl rfl hb51 rfl) (wanted_yes h54.fr rfl rfl rfl rfl hb41) rfl rfl fun a55 h55 => wl_val h55 (r_not rfl rfl) (wanted_yes h55.fr rfl rfl rfl rfl hb41) rfl rfl fun a56 h56 => wv h56 (r_pickT rfl rfl hb41 rfl) rfl rfl fun a57 h57 => wpList_nil <| hK37 _ _ ?_; clear h53 h54 h55 h56
     have h58 : St 47 (fun _ => False) W a57 w53 [(1, .pointer (some ⟨b3, 0, none⟩)), (3, vo), (6, .int .i64 (nth ([x.a, x.b, x.c]) i)), (10, .pointer (some ⟨b12, 0, none⟩)), (41, .bool (!(decide (0 ≤ wrG x))))] [.own 3 (⟨v31, [x.a, x.b, x.c]⟩ : Ls Int), .iter b12 (kindsB x.op) (i + 1), .blk b3 32 [.int .i64 x.op, .int .i64 x.a, .int .i64 x.b, .int .i64 x.c], .own 3 (⟨vo, ol⟩ : Ls Int)] := h57.nrm ⟨rfl, rfl, rfl, rfl, rfl, trivial⟩ [0, 1, 2, 3] (by decide) ⟨rfl, rfl, rfl, rfl, trivial⟩
     clear h57
     refine x_cond h58 rfl (fun hb59 => ?_) (fun hb59 => ?_)
     ·have hp59 : ¬ (0 ≤ wrG x) := by simpa using hb59
      refine wp_region_lit <| wms 2 h58 rfl fun a60 h60 => wl_ex (x_lit (n := 1) (cs := [.int .i64 (nth ([x.a, x.b, x.c]) i)]) ([nth ([x.a, x.b, x.c]) i] : List Int) h60 sl_23 ti_3 rfl rfl rfl (by decide) rfl (by kernel_rfl) rfl (fun q hq w h => Flat.inner _ _) (fun q hq b hb => (Flat.on _ _ hb).elim) rfl rfl) (wanted_none rfl _) ?_; clear h58
      rintro a61 w61 ⟨v61, h61⟩; clear h60
      refine wl_ex (x_app (r := 4) (rm := 0) (s := (⟨vo, ol⟩ : Ls Int)) (m := (⟨v61, [nth ([x.a, x.b, x.c]) i]⟩ : Ls Int)) h61 sl_23 ti_3 rfl rfl rfl rfl rfl rfl rfl (fun w h => (h.own 0 rfl)) (fun b hb => own_on (h61.sh.ok _ (List.mem_of_getElem? (i := 0) rfl)) hb) (fun q hq b hb => ⟨q, hq, hb⟩) rfl rfl rfl inferInstance (show (ol.length + ([nth ([x.a, x.b, x.c]) i]).length) * 8 ≤ 140737488355328 ∧ ol.length + ([nth ([x.a, x.b, x.c]) i]).length ≤ 140737488355328 from (by first | omega | (simp only [lens9]; omega))) rfl rfl) (wanted_none rfl _) ?_
      rintro a62 w62 ⟨v62, h62⟩; clear h61
      refine wms 1 h62 rfl fun a63 h63 => wpList_nil ?_; clear h62
      change ∃ _m, _m < _ ∧ _
      refine ⟨_, ?_, i + 1, ol ++ ([nth ([x.a, x.b, x.c]) i]), v62, ?_, ?_, ?_, h63.nrm ⟨rfl, rfl, rfl, trivial⟩ [2, 3, 4] (by decide) ⟨rfl, rfl, rfl, trivial⟩, rfl⟩
      · rw [hm13]; first | omega | (simp only [lens9]; omega)
      · omega
      · first | exact rdTo_yes hol (rdK_on (by rw [kAt_at (by assumption)]; assumption) (by first | (left; assumption) | (right; left; omega) | (right; right; assumption))) | exact rdTo_no hol (rdK_no (by rw [kAt_at (by assumption)]; assumption)) | exact rdTo_no hol (rdK_off (by assumption) (by assumption) (by assumption))
      · first | omega | (simp; omega)
     have hp59 : 0 ≤ wrG x := by simpa using hb59
     refine wp_skip ?_
     change ∃ _m, _m < _ ∧ _
     refine ⟨_, ?_, i + 1, ol, vo, ?_, ?_, ?_, h58.nrm ⟨rfl, rfl, rfl, trivial⟩ [1, 2, 3] (by decide) ⟨rfl, rfl, rfl, trivial⟩, rfl⟩
     · rw [hm13]; first | omega | (simp only [lens9]; omega)
     · omega
     · first | exact rdTo_yes hol (rdK_on (by rw [kAt_at (by assumption)]; assumption) (by first | (left; assumption) | (right; left; omega) | (right; right; assumption))) | exact rdTo_no hol (rdK_no (by rw [kAt_at (by assumption)]; assumption)) | exact rdTo_no hol (rdK_off (by assumption) (by assumption) (by assumption))
     · first | omega | (simp; omega)
    have hp51 : ¬ (x.op ≠ 13) := of_decide_eq_false hb51
    refine wl_skip h50 (wanted_no h50.fr rfl rfl rfl rfl hb51) rfl rfl fun a64 h64 => wl_skip h64 (wanted_no h64.fr rfl rfl rfl rfl hb51) rfl rfl fun a65 h65 => wl_skip h65 (wanted_no h65.fr rfl rfl rfl rfl hb51) rfl rfl fun a66 h66 => wl_val h66 (r_pickF rfl rfl hb51 rfl) (wanted_yes h66.fr rfl rfl rfl rfl hb41) rfl rfl fun a67 h67 => wl_val h67 (r_not rfl rfl) (wanted_yes h67.fr rfl rfl rfl rfl hb41) rfl rfl fun a68 h68 => wv h68 (r_pickT rfl rfl hb41 rfl) rfl rfl fun a69 h69 => wpList_nil <| hK37 _ _ ?_; clear h50 h64 h65 h66 h67 h68
    have h70 : St 47 (fun _ => False) W a69 w31 [(1, .pointer (some ⟨b3, 0, none⟩)), (3, vo), (6, .int .i64 (nth ([x.a, x.b, x.c]) i)), (10, .pointer (some ⟨b12, 0, none⟩)), (41, .bool true)] [.own 3 (⟨v31, [x.a, x.b, x.c]⟩ : Ls Int), .iter b12 (kindsB x.op) (i + 1), .blk b3 32 [.int .i64 x.op, .int .i64 x.a, .int .i64 x.b, .int .i64 x.c], .own 3 (⟨vo, ol⟩ : Ls Int)] := h69.nrm ⟨rfl, rfl, rfl, rfl, rfl, trivial⟩ [0, 1, 2, 3] (by decide) ⟨rfl, rfl, rfl, rfl, trivial⟩
    clear h69
    refine x_condT h70 rfl rfl <| wp_region_lit <| wms 2 h70 rfl fun a71 h71 => wl_ex (x_lit (n := 1) (cs := [.int .i64 (nth ([x.a, x.b, x.c]) i)]) ([nth ([x.a, x.b, x.c]) i] : List Int) h71 sl_23 ti_3 rfl rfl rfl (by decide) rfl (by kernel_rfl) rfl (fun q hq w h => Flat.inner _ _) (fun q hq b hb => (Flat.on _ _ hb).elim) rfl rfl) (wanted_none rfl _) ?_; clear h70
    rintro a72 w72 ⟨v72, h72⟩; clear h71
    refine wl_ex (x_app (r := 4) (rm := 0) (s := (⟨vo, ol⟩ : Ls Int)) (m := (⟨v72, [nth ([x.a, x.b, x.c]) i]⟩ : Ls Int)) h72 sl_23 ti_3 rfl rfl rfl rfl rfl rfl rfl (fun w h => (h.own 0 rfl)) (fun b hb => own_on (h72.sh.ok _ (List.mem_of_getElem? (i := 0) rfl)) hb) (fun q hq b hb => ⟨q, hq, hb⟩) rfl rfl rfl inferInstance (show (ol.length + ([nth ([x.a, x.b, x.c]) i]).length) * 8 ≤ 140737488355328 ∧ ol.length + ([nth ([x.a, x.b, x.c]) i]).length ≤ 140737488355328 from (by first | omega | (simp only [lens9]; omega))) rfl rfl) (wanted_none rfl _) ?_
    rintro a73 w73 ⟨v73, h73⟩; clear h72
    refine wms 1 h73 rfl fun a74 h74 => wpList_nil ?_; clear h73
    change ∃ _m, _m < _ ∧ _
    refine ⟨_, ?_, i + 1, ol ++ ([nth ([x.a, x.b, x.c]) i]), v73, ?_, ?_, ?_, h74.nrm ⟨rfl, rfl, rfl, trivial⟩ [2, 3, 4] (by decide) ⟨rfl, rfl, rfl, trivial⟩, rfl⟩
    · rw [hm13]; first | omega | (simp only [lens9]; omega)
    · omega
    · first | exact rdTo_yes hol (rdK_on (by rw [kAt_at (by assumption)]; assumption) (by first | (left; assumption) | (right; left; omega) | (right; right; assumption))) | exact rdTo_no hol (rdK_no (by rw [kAt_at (by assumption)]; assumption)) | exact rdTo_no hol (rdK_off (by assumption) (by assumption) (by assumption))
    · first | omega | (simp; omega)
   have hp45 : ¬ (i = 0) := of_decide_eq_false hb45
   refine wl_skip h44 (wanted_no h44.fr rfl rfl rfl rfl hb45) rfl rfl fun a75 h75 => wl_skip h75 (wanted_no h75.fr rfl rfl rfl rfl hb45) rfl rfl fun a76 h76 => wl_skip h76 (wanted_no h76.fr rfl rfl rfl rfl hb45) rfl rfl fun a77 h77 => wl_val h77 (r_pickF rfl rfl hb45 rfl) (wanted_yes h77.fr rfl rfl rfl rfl hb41) rfl rfl fun a78 h78 => wl_val h78 (r_move rfl rfl) (wanted_yes h78.fr rfl rfl rfl rfl hb41) rfl rfl fun a79 h79 => wl_skip h79 (wanted_no h79.fr rfl rfl rfl rfl rfl) rfl rfl fun a80 h80 => wl_skip h80 (wanted_no h80.fr rfl rfl rfl rfl rfl) rfl rfl fun a81 h81 => wl_skip h81 (wanted_no h81.fr rfl rfl rfl rfl rfl) rfl rfl fun a82 h82 => wl_val h82 (r_pickF rfl rfl rfl rfl) (wanted_yes h82.fr rfl rfl rfl rfl hb41) rfl rfl fun a83 h83 => wl_val h83 (r_not rfl rfl) (wanted_yes h83.fr rfl rfl rfl rfl hb41) rfl rfl fun a84 h84 => wv h84 (r_pickT rfl rfl hb41 rfl) rfl rfl fun a85 h85 => wpList_nil <| hK37 _ _ ?_; clear h44 h75 h76 h77 h78 h79 h80 h81 h82 h83 h84
   have h86 : St 47 (fun _ => False) W a85 w31 [(1, .pointer (some ⟨b3, 0, none⟩)), (3, vo), (6, .int .i64 (nth ([x.a, x.b, x.c]) i)), (10, .pointer (some ⟨b12, 0, none⟩)), (41, .bool true)] [.own 3 (⟨v31, [x.a, x.b, x.c]⟩ : Ls Int), .iter b12 (kindsB x.op) (i + 1), .blk b3 32 [.int .i64 x.op, .int .i64 x.a, .int .i64 x.b, .int .i64 x.c], .own 3 (⟨vo, ol⟩ : Ls Int)] := h85.nrm ⟨rfl, rfl, rfl, rfl, rfl, trivial⟩ [0, 1, 2, 3] (by decide) ⟨rfl, rfl, rfl, rfl, trivial⟩
   clear h85
   refine x_condT h86 rfl rfl <| wp_region_lit <| wms 2 h86 rfl fun a87 h87 => wl_ex (x_lit (n := 1) (cs := [.int .i64 (nth ([x.a, x.b, x.c]) i)]) ([nth ([x.a, x.b, x.c]) i] : List Int) h87 sl_23 ti_3 rfl rfl rfl (by decide) rfl (by kernel_rfl) rfl (fun q hq w h => Flat.inner _ _) (fun q hq b hb => (Flat.on _ _ hb).elim) rfl rfl) (wanted_none rfl _) ?_; clear h86
   rintro a88 w88 ⟨v88, h88⟩; clear h87
   refine wl_ex (x_app (r := 4) (rm := 0) (s := (⟨vo, ol⟩ : Ls Int)) (m := (⟨v88, [nth ([x.a, x.b, x.c]) i]⟩ : Ls Int)) h88 sl_23 ti_3 rfl rfl rfl rfl rfl rfl rfl (fun w h => (h.own 0 rfl)) (fun b hb => own_on (h88.sh.ok _ (List.mem_of_getElem? (i := 0) rfl)) hb) (fun q hq b hb => ⟨q, hq, hb⟩) rfl rfl rfl inferInstance (show (ol.length + ([nth ([x.a, x.b, x.c]) i]).length) * 8 ≤ 140737488355328 ∧ ol.length + ([nth ([x.a, x.b, x.c]) i]).length ≤ 140737488355328 from (by first | omega | (simp only [lens9]; omega))) rfl rfl) (wanted_none rfl _) ?_
   rintro a89 w89 ⟨v89, h89⟩; clear h88
   refine wms 1 h89 rfl fun a90 h90 => wpList_nil ?_; clear h89
   change ∃ _m, _m < _ ∧ _
   refine ⟨_, ?_, i + 1, ol ++ ([nth ([x.a, x.b, x.c]) i]), v89, ?_, ?_, ?_, h90.nrm ⟨rfl, rfl, rfl, trivial⟩ [2, 3, 4] (by decide) ⟨rfl, rfl, rfl, trivial⟩, rfl⟩
   · rw [hm13]; first | omega | (simp only [lens9]; omega)
   · omega
   · first | exact rdTo_yes hol (rdK_on (by rw [kAt_at (by assumption)]; assumption) (by first | (left; assumption) | (right; left; omega) | (right; right; assumption))) | exact rdTo_no hol (rdK_no (by rw [kAt_at (by assumption)]; assumption)) | exact rdTo_no hol (rdK_off (by assumption) (by assumption) (by assumption))
   · first | omega | (simp; omega)
  have hp41 : ¬ ((((kindsB x.op)[i]'hn16).toNat : Int) = 114) := of_decide_eq_false hb41
  refine wl_skip h40 (wanted_no h40.fr rfl rfl rfl rfl hb41) rfl rfl fun a91 h91 => wl_skip h91 (wanted_no h91.fr rfl rfl rfl rfl hb41) rfl rfl fun a92 h92 => wl_skip h92 (wanted_no h92.fr rfl rfl rfl rfl hb41) rfl rfl fun a93 h93 => wl_skip h93 (wanted_no2 h93.fr rfl rfl rfl rfl) rfl rfl fun a94 h94 => wl_skip h94 (wanted_no2 h94.fr rfl rfl rfl rfl) rfl rfl fun a95 h95 => wl_skip h95 (wanted_no2 h95.fr rfl rfl rfl rfl) rfl rfl fun a96 h96 => wl_skip h96 (wanted_no h96.fr rfl rfl rfl rfl hb41) rfl rfl fun a97 h97 => wl_skip h97 (wanted_no h97.fr rfl rfl rfl rfl hb41) rfl rfl fun a98 h98 => wl_skip h98 (wanted_no2 h98.fr rfl rfl rfl rfl) rfl rfl fun a99 h99 => wl_skip h99 (wanted_no2 h99.fr rfl rfl rfl rfl) rfl rfl fun a100 h100 => wl_skip h100 (wanted_no2 h100.fr rfl rfl rfl rfl) rfl rfl fun a101 h101 => wl_skip h101 (wanted_no h101.fr rfl rfl rfl rfl hb41) rfl rfl fun a102 h102 => wl_skip h102 (wanted_no h102.fr rfl rfl rfl rfl hb41) rfl rfl fun a103 h103 => wv h103 (r_pickF rfl rfl hb41 rfl) rfl rfl fun a104 h104 => ?_; clear h40 h91 h92 h93 h94 h95 h96 h97 h98 h99 h100 h101 h102 h103
  refine wpList_nil <| hK37 _ _ ?_
  have h105 : St 47 (fun _ => False) W a104 w31 [(1, .pointer (some ⟨b3, 0, none⟩)), (3, vo), (6, .int .i64 (nth ([x.a, x.b, x.c]) i)), (10, .pointer (some ⟨b12, 0, none⟩)), (41, .bool false)] [.own 3 (⟨v31, [x.a, x.b, x.c]⟩ : Ls Int), .iter b12 (kindsB x.op) (i + 1), .blk b3 32 [.int .i64 x.op, .int .i64 x.a, .int .i64 x.b, .int .i64 x.c], .own 3 (⟨vo, ol⟩ : Ls Int)] := h104.nrm ⟨rfl, rfl, rfl, rfl, rfl, trivial⟩ [0, 1, 2, 3] (by decide) ⟨rfl, rfl, rfl, rfl, trivial⟩
  clear h104
  refine x_condF h105 rfl rfl <| wp_skip ?_
  change ∃ _m, _m < _ ∧ _
  refine ⟨_, ?_, i + 1, ol, vo, ?_, ?_, ?_, h105.nrm ⟨rfl, rfl, rfl, trivial⟩ [1, 2, 3] (by decide) ⟨rfl, rfl, rfl, trivial⟩, rfl⟩
  · rw [hm13]; first | omega | (simp only [lens9]; omega)
  · omega
  · first | exact rdTo_yes hol (rdK_on (by rw [kAt_at (by assumption)]; assumption) (by first | (left; assumption) | (right; left; omega) | (right; right; assumption))) | exact rdTo_no hol (rdK_no (by rw [kAt_at (by assumption)]; assumption)) | exact rdTo_no hol (rdK_off (by assumption) (by assumption) (by assumption))
  · first | omega | (simp; omega)
 refine wv h13 (r_nextEnd (i := 0) (s := (kindsB x.op)) (pos := i) rfl rfl rfl hn16) rfl rfl fun a106 h106 => wv h106 (r_extract rfl rfl rfl) rfl rfl fun a107 h107 => wpList_nil <| hK15 _ _ <| wp_seq_k fun K108 hK108 => x_condF h107 rfl rfl <| wp_exit <| hK7 _ _ <| wp_seq_k fun K109 hK109 => wp_region_lit <| wms 2 h107 rfl fun a110 h110 => wpList_nil <| hK109 _ _ <| wp_ret ?_; clear h13 h106 h107
 try simp only [Exit.then, Exit.inBlock]
 refine x_ret1 (fn := Try.f105) (t := 2) rfl h110 rfl <| ⟨⟨vo, ol⟩, rfl, ?_, (h110.sh.sel (L' := [.own 3 (⟨vo, ol⟩ : Ls Int)]) [2] (by decide) ⟨rfl, trivial⟩)⟩
 show ol = _
 rw [hol, show i = (kindsB x.op).size by omega]
 exact rdTo_all x hop hw

set_option maxRecDepth 100000 in
set_option maxHeartbeats 1000000 in
theorem rReads_c (x : Ins) (W : World) (hop : 1 ≤ x.op ∧ x.op ≤ 18) (hw : x.op ≤ 8 ∨ x.op = 10 → 0 ≤ x.a) :
    Rets Try.prog 109 [.agg #[.int .i64 x.op, .int .i64 x.a, .int .i64 x.b, .int .i64 x.c]] W (fun v w' => ∃ s : Ls Int, v = s.v ∧ s.l = rdG x ∧ Sh0 W w' [.own 3 s]) := by
 refine x_enter (N := 41) Try.func109 rfl Try.ntmps109 (Nat.le_of_ble_eq_true rfl) fun a1 hf1 => ?_
 have h1 : St 41 (fun _ => False) W a1 W [(0, .agg #[.int .i64 x.op, .int .i64 x.a, .int .i64 x.b, .int .i64 x.c])] [] := ⟨hf1.sub ⟨rfl, trivial⟩, Sh0.start W⟩
 clear hf1
 refine wp_seq_k fun K2 hK2 => wp_region_lit <| wl_ex (x_box (cs := [.int .i64 x.op, .int .i64 x.a, .int .i64 x.b, .int .i64 x.c]) h1 rfl rfl rfl rfl rfl) (wanted_none rfl _) ?_
 rintro a3 w3 ⟨b3, h3⟩; clear h1
 refine wms 1 h3 rfl fun a4 h4 => wpList_nil <| hK2 _ _ <| wp_seq_k fun K5 hK5 => wp_seq_k fun K6 hK6 => wp_region_lit <| wv h4 (r_fieldB (r := 0) fl_32_0 rfl rfl rfl) rfl rfl fun a7 h7 => wv h7 (r_ldb (i := 0) ti_3 rfl rfl rfl rfl) rfl rfl fun a8 h8 => wpList_nil <| hK6 _ _ <| wp_block <| wp_seq_k fun K9 hK9 => wp_seq_k fun K10 hK10 => wp_region_lit ?_; clear h3 h4 h7
 refine wv h8 (r_eqlI (p := x.op) (q := 2) rfl rfl rfl) rfl rfl fun a11 h11 => wms 1 h11 rfl fun a12 h12 => wpList_nil <| hK10 _ _ <| x_cond h12 rfl (fun hb13 => ?_) (fun hb13 => ?_); clear h8 h11
 ·have hp13 : x.op = 2 := of_decide_eq_true hb13
  refine wp_skip <| hK9 _ _ <| x_condT h12 rfl hb13 <| wp_seq_k fun K14 hK14 => wp_region_lit <| wv h12 (r_fieldB (r := 2) fl_32_2 rfl rfl rfl) rfl rfl fun a15 h15 => wv h15 (r_ldb (i := 0) ti_3 rfl rfl rfl rfl) rfl rfl fun a16 h16 => wl_ex (x_lit (n := 1) (cs := [.int .i64 x.b]) ([x.b] : List Int) h16 sl_23 ti_3 rfl rfl rfl (by decide) rfl (by kernel_rfl) rfl (fun q hq w h => Flat.inner _ _) (fun q hq b hb => (Flat.on _ _ hb).elim) rfl rfl) (wanted_none rfl _) ?_; clear h12 h15
  rintro a17 w17 ⟨v17, h17⟩; clear h16
  refine wms 1 h17 rfl fun a18 h18 => wpList_nil <| hK14 _ _ <| wp_ret ?_; clear h17
  try simp only [Exit.then, Exit.inBlock]
  refine x_ret1 (fn := Try.f109) (t := 2) rfl h18 rfl <| ⟨⟨v17, [x.b]⟩, rfl, ?_, (h18.sh.sel (L' := [.own 3 (⟨v17, [x.b]⟩ : Ls Int)]) [0] (by decide) ⟨rfl, trivial⟩)⟩
  show [x.b] = _
  unfold rdG
  (repeat' split) <;> first | rfl | (exfalso; omega)
 have hp13 : ¬ (x.op = 2) := of_decide_eq_false hb13
 refine wp_region_lit <| wv h12 (r_eqlI (p := x.op) (q := 10) rfl rfl rfl) rfl rfl fun a19 h19 => wms 1 h19 rfl fun a20 h20 => wpList_nil <| hK9 _ _ <| x_cond h20 rfl (fun hb21 => ?_) (fun hb21 => ?_); clear h12 h19
 ·have hp21 : x.op = 10 := of_decide_eq_true hb21
  refine wp_seq_k fun K22 hK22 => wp_region_lit <| wv h20 (r_fieldB (r := 2) fl_32_2 rfl rfl rfl) rfl rfl fun a23 h23 => wv h23 (r_ldb (i := 0) ti_3 rfl rfl rfl rfl) rfl rfl fun a24 h24 => wl_ex (x_lit (n := 1) (cs := [.int .i64 x.b]) ([x.b] : List Int) h24 sl_23 ti_3 rfl rfl rfl (by decide) rfl (by kernel_rfl) rfl (fun q hq w h => Flat.inner _ _) (fun q hq b hb => (Flat.on _ _ hb).elim) rfl rfl) (wanted_none rfl _) ?_; clear h20 h23
  rintro a25 w25 ⟨v25, h25⟩; clear h24
  refine wms 1 h25 rfl fun a26 h26 => wpList_nil <| hK22 _ _ <| wp_ret ?_; clear h25
  try simp only [Exit.then, Exit.inBlock]
  refine x_ret1 (fn := Try.f109) (t := 2) rfl h26 rfl <| ⟨⟨v25, [x.b]⟩, rfl, ?_, (h26.sh.sel (L' := [.own 3 (⟨v25, [x.b]⟩ : Ls Int)]) [0] (by decide) ⟨rfl, trivial⟩)⟩
  show [x.b] = _
  unfold rdG
  (repeat' split) <;> first | rfl | (exfalso; omega)
 have hp21 : ¬ (x.op = 10) := of_decide_eq_false hb21
 refine wp_seq_k fun K27 hK27 => wp_seq_k fun K28 hK28 => wp_region_lit <| wv h20 (r_eqlI (p := x.op) (q := 3) rfl rfl rfl) rfl rfl fun a29 h29 => wms 1 h29 rfl fun a30 h30 => wpList_nil <| hK28 _ _ <| x_cond h30 rfl (fun hb31 => ?_) (fun hb31 => ?_); clear h20 h29
 ·have hp31 : x.op = 3 := of_decide_eq_true hb31
  refine wp_skip <| hK27 _ _ <| x_condT h30 rfl hb31 <| wp_seq_k fun K32 hK32 => wp_region_lit <| wv h30 (r_fieldB (r := 2) fl_32_2 rfl rfl rfl) rfl rfl fun a33 h33 => wv h33 (r_ldb (i := 0) ti_3 rfl rfl rfl rfl) rfl rfl fun a34 h34 => wv h34 (r_fieldB (r := 3) fl_32_3 rfl rfl rfl) rfl rfl fun a35 h35 => wv h35 (r_ldb (i := 0) ti_3 rfl rfl rfl rfl) rfl rfl fun a36 h36 => wl_ex (x_lit (n := 2) (cs := [.int .i64 x.b, .int .i64 x.c]) ([x.b, x.c] : List Int) h36 sl_23 ti_3 rfl rfl rfl (by decide) rfl (by kernel_rfl) rfl (fun q hq w h => Flat.inner _ _) (fun q hq b hb => (Flat.on _ _ hb).elim) rfl rfl) (wanted_none rfl _) ?_; clear h30 h33 h34 h35
  rintro a37 w37 ⟨v37, h37⟩; clear h36
  refine wms 1 h37 rfl fun a38 h38 => wpList_nil <| hK32 _ _ <| wp_ret ?_; clear h37
  try simp only [Exit.then, Exit.inBlock]
  refine x_ret1 (fn := Try.f109) (t := 2) rfl h38 rfl <| ⟨⟨v37, [x.b, x.c]⟩, rfl, ?_, (h38.sh.sel (L' := [.own 3 (⟨v37, [x.b, x.c]⟩ : Ls Int)]) [0] (by decide) ⟨rfl, trivial⟩)⟩
  show [x.b, x.c] = _
  unfold rdG
  (repeat' split) <;> first | rfl | (exfalso; omega)
 have hp31 : ¬ (x.op = 3) := of_decide_eq_false hb31
 refine wp_seq_k fun K39 hK39 => wp_region_lit <| wv h30 (r_eqlI (p := x.op) (q := 4) rfl rfl rfl) rfl rfl fun a40 h40 => wms 1 h40 rfl fun a41 h41 => wpList_nil <| hK39 _ _ <| x_cond h41 rfl (fun hb42 => ?_) (fun hb42 => ?_); clear h30 h40
 ·have hp42 : x.op = 4 := of_decide_eq_true hb42
  refine wp_skip <| hK27 _ _ <| x_condT h41 rfl hb42 <| wp_seq_k fun K43 hK43 => wp_region_lit <| wv h41 (r_fieldB (r := 2) fl_32_2 rfl rfl rfl) rfl rfl fun a44 h44 => wv h44 (r_ldb (i := 0) ti_3 rfl rfl rfl rfl) rfl rfl fun a45 h45 => wv h45 (r_fieldB (r := 3) fl_32_3 rfl rfl rfl) rfl rfl fun a46 h46 => wv h46 (r_ldb (i := 0) ti_3 rfl rfl rfl rfl) rfl rfl fun a47 h47 => wl_ex (x_lit (n := 2) (cs := [.int .i64 x.b, .int .i64 x.c]) ([x.b, x.c] : List Int) h47 sl_23 ti_3 rfl rfl rfl (by decide) rfl (by kernel_rfl) rfl (fun q hq w h => Flat.inner _ _) (fun q hq b hb => (Flat.on _ _ hb).elim) rfl rfl) (wanted_none rfl _) ?_; clear h41 h44 h45 h46
  rintro a48 w48 ⟨v48, h48⟩; clear h47
  refine wms 1 h48 rfl fun a49 h49 => wpList_nil <| hK43 _ _ <| wp_ret ?_; clear h48
  try simp only [Exit.then, Exit.inBlock]
  refine x_ret1 (fn := Try.f109) (t := 2) rfl h49 rfl <| ⟨⟨v48, [x.b, x.c]⟩, rfl, ?_, (h49.sh.sel (L' := [.own 3 (⟨v48, [x.b, x.c]⟩ : Ls Int)]) [0] (by decide) ⟨rfl, trivial⟩)⟩
  show [x.b, x.c] = _
  unfold rdG
  (repeat' split) <;> first | rfl | (exfalso; omega)
 have hp42 : ¬ (x.op = 4) := of_decide_eq_false hb42
 refine wp_seq_k fun K50 hK50 => wp_region_lit <| wv h41 (r_eqlI (p := x.op) (q := 5) rfl rfl rfl) rfl rfl fun a51 h51 => wms 1 h51 rfl fun a52 h52 => wpList_nil <| hK50 _ _ <| x_cond h52 rfl (fun hb53 => ?_) (fun hb53 => ?_); clear h41 h51
 ·have hp53 : x.op = 5 := of_decide_eq_true hb53
  refine wp_skip <| hK27 _ _ <| x_condT h52 rfl hb53 <| wp_seq_k fun K54 hK54 => wp_region_lit <| wv h52 (r_fieldB (r := 2) fl_32_2 rfl rfl rfl) rfl rfl fun a55 h55 => wv h55 (r_ldb (i := 0) ti_3 rfl rfl rfl rfl) rfl rfl fun a56 h56 => wv h56 (r_fieldB (r := 3) fl_32_3 rfl rfl rfl) rfl rfl fun a57 h57 => wv h57 (r_ldb (i := 0) ti_3 rfl rfl rfl rfl) rfl rfl fun a58 h58 => wl_ex (x_lit (n := 2) (cs := [.int .i64 x.b, .int .i64 x.c]) ([x.b, x.c] : List Int) h58 sl_23 ti_3 rfl rfl rfl (by decide) rfl (by kernel_rfl) rfl (fun q hq w h => Flat.inner _ _) (fun q hq b hb => (Flat.on _ _ hb).elim) rfl rfl) (wanted_none rfl _) ?_; clear h52 h55 h56 h57
  rintro a59 w59 ⟨v59, h59⟩; clear h58
  refine wms 1 h59 rfl fun a60 h60 => wpList_nil <| hK54 _ _ <| wp_ret ?_; clear h59
  try simp only [Exit.then, Exit.inBlock]
  refine x_ret1 (fn := Try.f109) (t := 2) rfl h60 rfl <| ⟨⟨v59, [x.b, x.c]⟩, rfl, ?_, (h60.sh.sel (L' := [.own 3 (⟨v59, [x.b, x.c]⟩ : Ls Int)]) [0] (by decide) ⟨rfl, trivial⟩)⟩
  show [x.b, x.c] = _
  unfold rdG
  (repeat' split) <;> first | rfl | (exfalso; omega)
 have hp53 : ¬ (x.op = 5) := of_decide_eq_false hb53
 refine wp_seq_k fun K61 hK61 => wp_region_lit <| wv h52 (r_eqlI (p := x.op) (q := 6) rfl rfl rfl) rfl rfl fun a62 h62 => wms 1 h62 rfl fun a63 h63 => wpList_nil <| hK61 _ _ <| x_cond h63 rfl (fun hb64 => ?_) (fun hb64 => ?_); clear h52 h62
 ·have hp64 : x.op = 6 := of_decide_eq_true hb64
  refine wp_skip <| hK27 _ _ <| x_condT h63 rfl hb64 <| wp_seq_k fun K65 hK65 => wp_region_lit <| wv h63 (r_fieldB (r := 2) fl_32_2 rfl rfl rfl) rfl rfl fun a66 h66 => wv h66 (r_ldb (i := 0) ti_3 rfl rfl rfl rfl) rfl rfl fun a67 h67 => wv h67 (r_fieldB (r := 3) fl_32_3 rfl rfl rfl) rfl rfl fun a68 h68 => wv h68 (r_ldb (i := 0) ti_3 rfl rfl rfl rfl) rfl rfl fun a69 h69 => wl_ex (x_lit (n := 2) (cs := [.int .i64 x.b, .int .i64 x.c]) ([x.b, x.c] : List Int) h69 sl_23 ti_3 rfl rfl rfl (by decide) rfl (by kernel_rfl) rfl (fun q hq w h => Flat.inner _ _) (fun q hq b hb => (Flat.on _ _ hb).elim) rfl rfl) (wanted_none rfl _) ?_; clear h63 h66 h67 h68
  rintro a70 w70 ⟨v70, h70⟩; clear h69
  refine wms 1 h70 rfl fun a71 h71 => wpList_nil <| hK65 _ _ <| wp_ret ?_; clear h70
  try simp only [Exit.then, Exit.inBlock]
  refine x_ret1 (fn := Try.f109) (t := 2) rfl h71 rfl <| ⟨⟨v70, [x.b, x.c]⟩, rfl, ?_, (h71.sh.sel (L' := [.own 3 (⟨v70, [x.b, x.c]⟩ : Ls Int)]) [0] (by decide) ⟨rfl, trivial⟩)⟩
  show [x.b, x.c] = _
  unfold rdG
  (repeat' split) <;> first | rfl | (exfalso; omega)
 have hp64 : ¬ (x.op = 6) := of_decide_eq_false hb64
 refine wp_seq_k fun K72 hK72 => wp_region_lit <| wv h63 (r_eqlI (p := x.op) (q := 7) rfl rfl rfl) rfl rfl fun a73 h73 => wms 1 h73 rfl fun a74 h74 => wpList_nil <| hK72 _ _ <| x_cond h74 rfl (fun hb75 => ?_) (fun hb75 => ?_); clear h63 h73
 ·have hp75 : x.op = 7 := of_decide_eq_true hb75
  refine wp_skip <| hK27 _ _ <| x_condT h74 rfl hb75 <| wp_seq_k fun K76 hK76 => wp_region_lit <| wv h74 (r_fieldB (r := 2) fl_32_2 rfl rfl rfl) rfl rfl fun a77 h77 => wv h77 (r_ldb (i := 0) ti_3 rfl rfl rfl rfl) rfl rfl fun a78 h78 => wv h78 (r_fieldB (r := 3) fl_32_3 rfl rfl rfl) rfl rfl fun a79 h79 => wv h79 (r_ldb (i := 0) ti_3 rfl rfl rfl rfl) rfl rfl fun a80 h80 => wl_ex (x_lit (n := 2) (cs := [.int .i64 x.b, .int .i64 x.c]) ([x.b, x.c] : List Int) h80 sl_23 ti_3 rfl rfl rfl (by decide) rfl (by kernel_rfl) rfl (fun q hq w h => Flat.inner _ _) (fun q hq b hb => (Flat.on _ _ hb).elim) rfl rfl) (wanted_none rfl _) ?_; clear h74 h77 h78 h79
  rintro a81 w81 ⟨v81, h81⟩; clear h80
  refine wms 1 h81 rfl fun a82 h82 => wpList_nil <| hK76 _ _ <| wp_ret ?_; clear h81
  try simp only [Exit.then, Exit.inBlock]
  refine x_ret1 (fn := Try.f109) (t := 2) rfl h82 rfl <| ⟨⟨v81, [x.b, x.c]⟩, rfl, ?_, (h82.sh.sel (L' := [.own 3 (⟨v81, [x.b, x.c]⟩ : Ls Int)]) [0] (by decide) ⟨rfl, trivial⟩)⟩
  show [x.b, x.c] = _
  unfold rdG
  (repeat' split) <;> first | rfl | (exfalso; omega)
 have hp75 : ¬ (x.op = 7) := of_decide_eq_false hb75
 refine wp_region_lit <| wv h74 (r_eqlI (p := x.op) (q := 13) rfl rfl rfl) rfl rfl fun a83 h83 => wms 1 h83 rfl fun a84 h84 => wpList_nil <| hK27 _ _ <| x_cond h84 rfl (fun hb85 => ?_) (fun hb85 => ?_); clear h74 h83
 ·have hp85 : x.op = 13 := of_decide_eq_true hb85
  refine wp_seq_k fun K86 hK86 => wp_region_lit <| wv h84 (r_fieldB (r := 2) fl_32_2 rfl rfl rfl) rfl rfl fun a87 h87 => wv h87 (r_ldb (i := 0) ti_3 rfl rfl rfl rfl) rfl rfl fun a88 h88 => wv h88 (r_fieldB (r := 3) fl_32_3 rfl rfl rfl) rfl rfl fun a89 h89 => wv h89 (r_ldb (i := 0) ti_3 rfl rfl rfl rfl) rfl rfl fun a90 h90 => wl_ex (x_lit (n := 2) (cs := [.int .i64 x.b, .int .i64 x.c]) ([x.b, x.c] : List Int) h90 sl_23 ti_3 rfl rfl rfl (by decide) rfl (by kernel_rfl) rfl (fun q hq w h => Flat.inner _ _) (fun q hq b hb => (Flat.on _ _ hb).elim) rfl rfl) (wanted_none rfl _) ?_; clear h84 h87 h88 h89
  rintro a91 w91 ⟨v91, h91⟩; clear h90
  refine wms 1 h91 rfl fun a92 h92 => wpList_nil <| hK86 _ _ <| wp_ret ?_; clear h91
  try simp only [Exit.then, Exit.inBlock]
  refine x_ret1 (fn := Try.f109) (t := 2) rfl h92 rfl <| ⟨⟨v91, [x.b, x.c]⟩, rfl, ?_, (h92.sh.sel (L' := [.own 3 (⟨v91, [x.b, x.c]⟩ : Ls Int)]) [0] (by decide) ⟨rfl, trivial⟩)⟩
  show [x.b, x.c] = _
  unfold rdG
  (repeat' split) <;> first | rfl | (exfalso; omega)
 have hp85 : ¬ (x.op = 13) := of_decide_eq_false hb85
 refine wp_seq_k fun K93 hK93 => wp_region_lit <| wv h84 (r_eqlI (p := x.op) (q := 9) rfl rfl rfl) rfl rfl fun a94 h94 => wms 1 h94 rfl fun a95 h95 => wpList_nil <| hK93 _ _ <| x_cond h95 rfl (fun hb96 => ?_) (fun hb96 => ?_); clear h84 h94
 ·have hp96 : x.op = 9 := of_decide_eq_true hb96
  refine wp_seq_k fun K97 hK97 => wp_region_lit <| wv h95 (r_fieldB (r := 2) fl_32_2 rfl rfl rfl) rfl rfl fun a98 h98 => wv h98 (r_ldb (i := 0) ti_3 rfl rfl rfl rfl) rfl rfl fun a99 h99 => wl_ex (x_lit (n := 1) (cs := [.int .i64 x.b]) ([x.b] : List Int) h99 sl_23 ti_3 rfl rfl rfl (by decide) rfl (by kernel_rfl) rfl (fun q hq w h => Flat.inner _ _) (fun q hq b hb => (Flat.on _ _ hb).elim) rfl rfl) (wanted_none rfl _) ?_; clear h95 h98
  rintro a100 w100 ⟨v100, h100⟩; clear h99
  refine wms 1 h100 rfl fun a101 h101 => wpList_nil <| hK97 _ _ <| wp_ret ?_; clear h100
  try simp only [Exit.then, Exit.inBlock]
  refine x_ret1 (fn := Try.f109) (t := 2) rfl h101 rfl <| ⟨⟨v100, [x.b]⟩, rfl, ?_, (h101.sh.sel (L' := [.own 3 (⟨v100, [x.b]⟩ : Ls Int)]) [0] (by decide) ⟨rfl, trivial⟩)⟩
  show [x.b] = _
  unfold rdG
  (repeat' split) <;> first | rfl | (exfalso; omega)
 have hp96 : ¬ (x.op = 9) := of_decide_eq_false hb96
 refine wp_seq_k fun K102 hK102 => wp_region_lit <| wv h95 (r_eqlI (p := x.op) (q := 11) rfl rfl rfl) rfl rfl fun a103 h103 => wms 1 h103 rfl fun a104 h104 => wpList_nil <| hK102 _ _ <| x_cond h104 rfl (fun hb105 => ?_) (fun hb105 => ?_); clear h95 h103
 ·have hp105 : x.op = 11 := of_decide_eq_true hb105
  refine wp_seq_k fun K106 hK106 => wp_region_lit <| wv h104 (r_fieldB (r := 1) fl_32_1 rfl rfl rfl) rfl rfl fun a107 h107 => wv h107 (r_ldb (i := 0) ti_3 rfl rfl rfl rfl) rfl rfl fun a108 h108 => wv h108 (r_fieldB (r := 2) fl_32_2 rfl rfl rfl) rfl rfl fun a109 h109 => wv h109 (r_ldb (i := 0) ti_3 rfl rfl rfl rfl) rfl rfl fun a110 h110 => wl_ex (x_lit (n := 2) (cs := [.int .i64 x.a, .int .i64 x.b]) ([x.a, x.b] : List Int) h110 sl_23 ti_3 rfl rfl rfl (by decide) rfl (by kernel_rfl) rfl (fun q hq w h => Flat.inner _ _) (fun q hq b hb => (Flat.on _ _ hb).elim) rfl rfl) (wanted_none rfl _) ?_; clear h104 h107 h108 h109
  rintro a111 w111 ⟨v111, h111⟩; clear h110
  refine wms 1 h111 rfl fun a112 h112 => wpList_nil <| hK106 _ _ ?_; clear h111
  have h113 : St 41 (fun _ => False) W a112 w111 [(2, v111)] [.own 3 (⟨v111, [x.a, x.b]⟩ : Ls Int), .blk b3 32 [.int .i64 x.op, .int .i64 x.a, .int .i64 x.b, .int .i64 x.c]] := h112.nrm ⟨rfl, trivial⟩ [0, 1] (by decide) ⟨rfl, rfl, trivial⟩
  clear h112
  refine wp_ret ?_
  try simp only [Exit.then, Exit.inBlock]
  refine x_ret1 (fn := Try.f109) (t := 2) rfl h113 rfl <| ⟨⟨v111, [x.a, x.b]⟩, rfl, ?_, (h113.sh.sel (L' := [.own 3 (⟨v111, [x.a, x.b]⟩ : Ls Int)]) [0] (by decide) ⟨rfl, trivial⟩)⟩
  show [x.a, x.b] = _
  unfold rdG
  (repeat' split) <;> first | rfl | (exfalso; omega)
 have hp105 : ¬ (x.op = 11) := of_decide_eq_false hb105
 refine wp_seq_k fun K114 hK114 => wp_seq_k fun K115 hK115 => wp_region_lit <| wv h104 (r_eqlI (p := x.op) (q := 16) rfl rfl rfl) rfl rfl fun a116 h116 => wms 1 h116 rfl fun a117 h117 => wpList_nil <| hK115 _ _ <| x_cond h117 rfl (fun hb118 => ?_) (fun hb118 => ?_); clear h104 h116
 ·have hp118 : x.op = 16 := of_decide_eq_true hb118
  refine wp_skip <| hK114 _ _ <| x_condT h117 rfl hb118 <| wp_seq_k fun K119 hK119 => wp_region_lit <| wv h117 (r_fieldB (r := 1) fl_32_1 rfl rfl rfl) rfl rfl fun a120 h120 => wv h120 (r_ldb (i := 0) ti_3 rfl rfl rfl rfl) rfl rfl fun a121 h121 => wl_ex (x_lit (n := 1) (cs := [.int .i64 x.a]) ([x.a] : List Int) h121 sl_23 ti_3 rfl rfl rfl (by decide) rfl (by kernel_rfl) rfl (fun q hq w h => Flat.inner _ _) (fun q hq b hb => (Flat.on _ _ hb).elim) rfl rfl) (wanted_none rfl _) ?_; clear h117 h120
  rintro a122 w122 ⟨v122, h122⟩; clear h121
  refine wms 1 h122 rfl fun a123 h123 => wpList_nil <| hK119 _ _ ?_; clear h122
  have h124 : St 41 (fun _ => False) W a123 w122 [(2, v122)] [.own 3 (⟨v122, [x.a]⟩ : Ls Int), .blk b3 32 [.int .i64 x.op, .int .i64 x.a, .int .i64 x.b, .int .i64 x.c]] := h123.nrm ⟨rfl, trivial⟩ [0, 1] (by decide) ⟨rfl, rfl, trivial⟩
  clear h123
  refine wp_ret ?_
  try simp only [Exit.then, Exit.inBlock]
  refine x_ret1 (fn := Try.f109) (t := 2) rfl h124 rfl <| ⟨⟨v122, [x.a]⟩, rfl, ?_, (h124.sh.sel (L' := [.own 3 (⟨v122, [x.a]⟩ : Ls Int)]) [0] (by decide) ⟨rfl, trivial⟩)⟩
  show [x.a] = _
  unfold rdG
  (repeat' split) <;> first | rfl | (exfalso; omega)
 have hp118 : ¬ (x.op = 16) := of_decide_eq_false hb118
 refine wp_region_lit <| wv h117 (r_eqlI (p := x.op) (q := 15) rfl rfl rfl) rfl rfl fun a125 h125 => wms 1 h125 rfl fun a126 h126 => wpList_nil <| hK114 _ _ <| x_cond h126 rfl (fun hb127 => ?_) (fun hb127 => ?_); clear h117 h125
 ·have hp127 : x.op = 15 := of_decide_eq_true hb127
  refine wp_seq_k fun K128 hK128 => wp_region_lit <| wv h126 (r_fieldB (r := 1) fl_32_1 rfl rfl rfl) rfl rfl fun a129 h129 => wv h129 (r_ldb (i := 0) ti_3 rfl rfl rfl rfl) rfl rfl fun a130 h130 => wl_ex (x_lit (n := 1) (cs := [.int .i64 x.a]) ([x.a] : List Int) h130 sl_23 ti_3 rfl rfl rfl (by decide) rfl (by kernel_rfl) rfl (fun q hq w h => Flat.inner _ _) (fun q hq b hb => (Flat.on _ _ hb).elim) rfl rfl) (wanted_none rfl _) ?_; clear h126 h129
  rintro a131 w131 ⟨v131, h131⟩; clear h130
  refine wms 1 h131 rfl fun a132 h132 => wpList_nil <| hK128 _ _ ?_; clear h131
  have h133 : St 41 (fun _ => False) W a132 w131 [(2, v131)] [.own 3 (⟨v131, [x.a]⟩ : Ls Int), .blk b3 32 [.int .i64 x.op, .int .i64 x.a, .int .i64 x.b, .int .i64 x.c]] := h132.nrm ⟨rfl, trivial⟩ [0, 1] (by decide) ⟨rfl, rfl, trivial⟩
  clear h132
  refine wp_ret ?_
  try simp only [Exit.then, Exit.inBlock]
  refine x_ret1 (fn := Try.f109) (t := 2) rfl h133 rfl <| ⟨⟨v131, [x.a]⟩, rfl, ?_, (h133.sh.sel (L' := [.own 3 (⟨v131, [x.a]⟩ : Ls Int)]) [0] (by decide) ⟨rfl, trivial⟩)⟩
  show [x.a] = _
  unfold rdG
  (repeat' split) <;> first | rfl | (exfalso; omega)
 have hp127 : ¬ (x.op = 15) := of_decide_eq_false hb127
 refine wp_skip <| hK5 _ _ <| wp_seq_k fun K134 hK134 => wp_region_lit <| wms 1 h126 rfl fun a135 h135 => wpList_nil <| hK134 _ _ <| wp_ret ?_; clear h126
 try simp only [Exit.then, Exit.inBlock]
 refine x_ret1 (fn := Try.f109) (t := 2) rfl h135 rfl ?_
 have h136 := h135.nil (α := Int) 3
 clear h135
 refine ⟨⟨(.slice none 0 0), []⟩, rfl, ?_, (h136.sh.sel (L' := [.own 3 (⟨.slice none 0 0, []⟩ : Ls Int)]) [0] (by decide) ⟨rfl, trivial⟩)⟩
 show [] = _
 unfold rdG
 (repeat' split) <;> first | rfl | (exfalso; omega)

theorem reads_ls {f : FuncId} {vs : List Value} {W : World} {l : List Int} (h : Rets Try.prog f vs W (fun v w' => ∃ s : Ls Int, v = s.v ∧ s.l = l ∧ Sh0 W w' [.own 3 s])) : Rets Try.prog f vs W (fun v w' => ∃ s : Ls Int, v = s.v ∧ Sh0 W w' [.own 3 (⟨s.v, l⟩ : Ls Int)]) :=
  h.mono fun v w' ⟨s, h1, h2, h3⟩ => ⟨s, h1, by subst h2; exact h3⟩
end Go.Proofs.Ytfpaahkleienoaa
