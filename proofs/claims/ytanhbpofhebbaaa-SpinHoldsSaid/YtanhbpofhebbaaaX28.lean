/-
  Contracts of functions of this program and of the references, each walked once.
-/
import Derived.Test.YtanhbpofhebbaaaX21
import Derived.Test.YtanhbpofhebbaaaS11
import Derived.Test.YtanhbpofhebbaaaL1
namespace Go.Proofs.Ytanhbpofhebbaaa
open Go.RowKit
set_option linter.unusedSimpArgs false
set_option linter.unusedVariables false


/-- Outcomes at the end, of the first n words. -/
def cutO (n : Nat) (o : Outc) : Outc := ⟨0, o.words.take n, o.prints⟩
def cutL (n : Nat) (l : List Outc) : List Outc := (l.filter fun o => decide (o.st = 0)).map (cutO n)
theorem cutL_step {l : List OutL} {n i : Nat} (h : i < l.length) : cutL n ((l.take (i + 1)).map OutL.out) = cutL n ((l.take i).map OutL.out) ++ if (nth l i).st = 0 then [cutO n (nth l i).out] else [] := by
  rw [take_succ_nth _ _ h, List.map_append]
  unfold cutL
  rw [List.filter_append, List.map_append]
  congr 1
  simp only [List.map_cons, List.map_nil, List.filter_cons, List.filter_nil, OutL.out]
  split <;> simp_all
theorem aheadB_asym {a b : Outc} (h : aheadB a b = true) : aheadB b a = false := by
  cases e : aheadB b a with
  | false => rfl
  | true => exact absurd (aheadB_trans h e) (by rw [aheadB_irr]; decide)
/-- One more, in its place. -/
theorem once_in {o : OutL} {l : List OutL} {k : Nat} (hk : k ≤ l.length) (h1 : ∀ j, j < k → aheadB (nth l j).out o.out = true) (h2 : k < l.length → aheadB o.out (nth l k).out = true) : PutRel o l (l.take k ++ [o] ++ l.drop k) :=
  .inr ⟨k, hk, fun j hj => ⟨aheadB_asym (h1 j hj), h1 j hj⟩, h2, by simp⟩
theorem once_mem {o : OutL} {l m : List OutL} (h : PutRel o l m) : ∀ y ∈ m, y ∈ l ∨ y = o := by
  rcases h with ⟨_, rfl⟩ | ⟨k, _, _, _, rfl⟩
  · exact fun y hy => .inl hy
  · intro y hy
    rcases List.mem_append.1 hy with hy | hy
    · exact .inl (List.mem_of_mem_take hy)
    · rcases List.mem_cons.1 hy with rfl | hy
      · exact .inr rfl
      · exact .inl (List.mem_of_mem_drop hy)
theorem once_len {o : OutL} {l m : List OutL} (h : PutRel o l m) : m.length ≤ l.length + 1 := by
  rcases h with ⟨_, rfl⟩ | ⟨k, _, _, _, rfl⟩
  · omega
  · simp; omega
theorem once_set {x : Ls OutL} {l m : List OutL} {i : Nat} (hi : i < x.l.length) (h : PutRel (nth x.l i) l m) (hs : Sorted_ (l.map OutL.out)) (hm : ∀ o, o ∈ l.map OutL.out ↔ o ∈ (x.l.take i).map OutL.out) : Sorted_ (m.map OutL.out) ∧ ∀ o, o ∈ m.map OutL.out ↔ o ∈ (x.l.take (i + 1)).map OutL.out := by
  obtain ⟨h1, h2⟩ := h.sorted hs
  refine ⟨h1, fun o => ?_⟩
  rw [h2, hm, take_succ_nth _ _ hi, List.map_append, List.mem_append]
  simp

set_option maxRecDepth 100000 in
set_option maxHeartbeats 1000000 in
theorem cut_c (x : Ls OutL) (n : Nat) (W : World) (hx : x.At W) (hn : ∀ i, i < x.l.length → (nth x.l i).st = 0 → n ≤ (nth x.l i).words.l.length) (hxl : x.l.length ≤ 100000000) :
    Rets Try.prog 33 [x.v, .int .i64 ((n : Nat) : Int)] W (fun v w' => ∃ s : Ls OutL, v = s.v ∧ s.l.map OutL.out = cutL n (x.l.map OutL.out) ∧ (∀ o ∈ s.l, ∀ b, Enc.on o b → ∃ i, i < x.l.length ∧ Enc.on (nth x.l i) b) ∧ Sh0 W w' [.own 56 s]) := by
 refine x_enter (N := 36) Try.func33 rfl Try.ntmps33 (Nat.le_of_ble_eq_true rfl) fun a1 hf1 => ?_
 have h1 : St 36 (fun _ => False) W a1 W [(0, x.v), (1, .int .i64 ((n : Nat) : Int))] [.at_ x] := ⟨hf1.sub ⟨rfl, rfl, trivial⟩, Sh0.ext1 hx⟩
 clear hf1
 refine wp_seq_k fun K2 hK2 => wp_region_lit <| wms 1 h1 rfl fun a3 h3 => wpList_nil <| hK2 _ _ <| wp_seq_k fun K4 hK4 => wp_region_lit <| wms 1 h3 rfl fun a5 h5 => wpList_nil <| hK4 _ _ <| wp_seq_k fun K6 hK6 => wp_seq_k fun K7 hK7 => wp_region_lit <| wms 1 h5 rfl fun a8 h8 => ?_; clear h1 h3 h5
 refine wpList_nil <| hK7 _ _ <| wp_block ?_
 have h10 := h8.nil (α := OutL) 56
 clear h8
 refine x_loop (fun m a w => ∃ (i : Nat) (ol : List OutL) (vo : Value), (i ≤ x.l.length) ∧ (ol.map OutL.out = cutL n ((x.l.take i).map OutL.out)) ∧ (ol.length ≤ i) ∧ (∀ o ∈ ol, ∀ b, Enc.on o b → ∃ i, i < x.l.length ∧ Enc.on (nth x.l i) b) ∧ St 36 (fun _ => False) W a w [(0, x.v), (1, .int .i64 ((n : Nat) : Int)), (5, vo), (6, .int .i64 ((i : Nat) : Int))] [.at_ x, .own 56 (⟨vo, ol⟩ : Ls OutL)] ∧ m = x.l.length - i) ⟨_, 0, [], (.slice none 0 0), (by omega), (rfl), (Nat.le_refl _), (fun o ho => by cases ho), h10.nrm ⟨rfl, rfl, rfl, rfl, trivial⟩ [1, 0] (by decide) ⟨rfl, rfl, trivial⟩, rfl⟩ ?_
 clear h10
 rintro m9 a9 w9 ⟨i, ol, vo, hi, hol, hoi, hob, h9, hm9⟩
 refine wp_seq_k fun K11 hK11 => wp_seq_k fun K12 hK12 => wp_region_lit <| wms 2 h9 rfl fun a13 h13 => ?_; clear h9
 have hl14 : x.l.length ≤ 140737488355328 := (h13.sh.at 0 rfl).len
 refine wv h13 (r_len (s := x) (n := x.l.length) sl_47 rfl rfl (fun w h => (h.at 0 rfl)) rfl) rfl rfl fun a15 h15 => wv h15 (r_lssN (p := i) (q := x.l.length) rfl rfl rfl) rfl rfl fun a16 h16 => wpList_nil <| hK12 _ _ <| x_cond h16 rfl (fun hb17 => ?_) (fun hb17 => ?_); clear h13 h15
 ·
  have hp17 : i < x.l.length := of_decide_eq_true hb17
  refine wp_skip <| hK11 _ _ <| wp_seq_k fun K18 hK18 => wp_block <| wp_seq_k fun K19 hK19 => wp_region_lit <| wms 2 h16 rfl fun a20 h20 => wv h20 (r_ixN (s := x) (q := i) sl_47 ti_56 rfl rfl rfl (fun w h => (h.at 0 rfl)) (show i < x.l.length from (by omega))) rfl rfl fun a21 h21 => wv h21 (r_fieldE (r := 0) fl_56_0 rfl rfl rfl) rfl rfl fun a22 h22 => wv h22 (r_lde (s := x) (i := i) (v := .int .i64 ((nth x.l i).st)) ti_3 rfl rfl rfl (fun w h => (h.at 0 rfl)) (show i < x.l.length from (by omega)) (Nat.le_of_ble_eq_true rfl) rfl) rfl rfl fun a23 h23 => wv h23 (r_eqlI (p := (nth x.l i).st) (q := 0) rfl rfl rfl) rfl rfl fun a24 h24 => wpList_nil <| hK19 _ _ <| x_cond h24 rfl (fun hb25 => ?_) (fun hb25 => ?_); clear h16 h20 h21 h22 h23
  ·
   have hp25 : (nth x.l i).st = 0 := of_decide_eq_true hb25
   have hn9 := hn i (by omega) (by omega)
   refine x_tail 14 [0] (by kernel_rfl) (by kernel_rfl) h24 fun Z26 hZ26 => ?_
   have hq26 := h24.fr
   refine wq_val hq26 (r_move rfl rfl) (wanted_none rfl _) rfl rfl fun a27 hq27 => wq_val hq27 (r_move rfl rfl) (wanted_none rfl _) rfl rfl fun a28 hq28 => wq_val hq28 (r_move rfl rfl) (wanted_none rfl _) rfl rfl fun a29 hq29 => wq_val hq29 (r_ixN (s := x) (q := i) sl_47 ti_56 rfl rfl rfl (fun w h => (h.at 0 rfl)) (show i < x.l.length from (by omega))) (wanted_none rfl _) rfl rfl fun a30 hq30 => wq_val hq30 (r_fieldE (r := 1) fl_56_1 rfl rfl rfl) (wanted_none rfl _) rfl rfl fun a31 hq31 => wq_val hq31 (r_lde (s := x) (i := i) (v := ((nth x.l i).words).v) ti_24 rfl rfl rfl (fun w h => (h.at 0 rfl)) (show i < x.l.length from (by omega)) (Nat.le_of_ble_eq_true rfl) rfl) (wanted_none rfl _) rfl rfl fun a32 hq32 => wq_val hq32 (r_move rfl rfl) (wanted_none rfl _) rfl rfl fun a33 hq33 => ?_; clear hq26 hq27 hq28 hq29 hq30 hq31 hq32
   have hl34 : (((nth x.l i).words).l).length ≤ 140737488355328 := ((h24.sh.at 0 rfl).inner i (show i < x.l.length from (by omega))).1.len
   refine wq_val hq33 (r_slH0 (s := (nth x.l i).words) (j := n) sl_24 ti_3 rfl rfl rfl (fun w h => ((h.at 0 rfl).inner i (show i < x.l.length from (by omega))).1) (show n ≤ (((nth x.l i).words).l).length from (by omega))) (wanted_none rfl _) rfl rfl fun a35 hq35 => wq_val hq35 (r_move rfl rfl) (wanted_none rfl _) rfl rfl fun a36 hq36 => wq_val hq36 (r_move rfl rfl) (wanted_none rfl _) rfl rfl fun a37 hq37 => wq_val hq37 (r_ixN (s := x) (q := i) sl_47 ti_56 rfl rfl rfl (fun w h => (h.at 0 rfl)) (show i < x.l.length from (by omega))) (wanted_none rfl _) rfl rfl fun a38 hq38 => wq_val hq38 (r_fieldE (r := 2) fl_56_2 rfl rfl rfl) (wanted_none rfl _) rfl rfl fun a39 hq39 => wq_val hq39 (r_lde (s := x) (i := i) (v := ((nth x.l i).prints).v) ti_24 rfl rfl rfl (fun w h => (h.at 0 rfl)) (show i < x.l.length from (by omega)) (Nat.le_of_ble_eq_true rfl) rfl) (wanted_none rfl _) rfl rfl fun a40 hq40 => wq_val hq40 (r_build (cs := [.int .i64 0, (vtake (((nth x.l i).words).v) n), ((nth x.l i).prints).v]) rfl rfl (by obtain ⟨A42, n42, c42, (e42 : ((nth x.l i).prints).v = _)⟩ := (((h24.sh.at 0 rfl).inner i (show i < x.l.length from (by omega))).2).form; rw [e42]; obtain ⟨A41, n41, c41, (e41 : (vtake (((nth x.l i).words).v) n) = _)⟩ := ((take_at ((h24.sh.at 0 rfl).inner i (show i < x.l.length from (by omega))).1 (show n ≤ (((nth x.l i).words).l).length from (by omega)))).form; rw [e41]; kernel_rfl)) (wanted_none rfl _) rfl rfl fun a43 hq43 => wpQuiet_nil (hZ26 _ fun w44 hw44 => ?_); clear hq33 hq35 hq36 hq37 hq38 hq39 hq40
   have h44 : St 36 (fun _ => False) W a43 w44 _ _ := ⟨hq43, hw44⟩
   clear hq43 hw44 h24
   refine wl_ex (x_lit (n := 1) (cs := [.int .i64 0, (vtake (((nth x.l i).words).v) n), ((nth x.l i).prints).v]) ([(⟨0, (⟨(vtake (((nth x.l i).words).v) n), ((((nth x.l i).words).l).take n)⟩ : Ls Int), (nth x.l i).prints⟩ : OutL)] : List OutL) h44 sl_47 ti_56 rfl rfl rfl (by decide) rfl (by kernel_rfl) rfl (fun q hq w h => by obtain rfl : q = 0 := (by simpa using hq); exact ⟨(take_at ((h.at 0 rfl).inner i (show i < x.l.length from (by omega))).1 (show n ≤ (((nth x.l i).words).l).length from (by omega))), ((h.at 0 rfl).inner i (show i < x.l.length from (by omega))).2⟩) (fun q hq b hb => by obtain rfl : q = 0 := (by simpa using hq); rcases hb with hb | hb; exact ⟨_, List.mem_of_getElem? (i := 0) rfl, .inr ⟨i, (show i < x.l.length from (by omega)), .inl (take_on ((h44.sh.at 0 rfl).inner i (show i < x.l.length from (by omega))).1 hb)⟩⟩; exact ⟨_, List.mem_of_getElem? (i := 0) rfl, .inr ⟨i, (show i < x.l.length from (by omega)), .inr hb⟩⟩) rfl rfl) (wanted_none rfl _) ?_
   rintro a45 w45 ⟨v45, h45⟩; clear h44
   refine wl_ex (x_app (r := 2) (rm := 0) (s := (⟨vo, ol⟩ : Ls OutL)) (m := (⟨v45, [(⟨0, (⟨(vtake (((nth x.l i).words).v) n), ((((nth x.l i).words).l).take n)⟩ : Ls Int), (nth x.l i).prints⟩ : OutL)]⟩ : Ls OutL)) h45 sl_47 ti_56 rfl rfl rfl rfl rfl rfl rfl (fun w h => (h.own 0 rfl)) (fun b hb => own_on (h45.sh.ok _ (List.mem_of_getElem? (i := 0) rfl)) hb) (fun q hq b hb => ⟨q, hq, hb⟩) rfl rfl rfl inferInstance (show (ol.length + ([(⟨0, (⟨(vtake (((nth x.l i).words).v) n), ((((nth x.l i).words).l).take n)⟩ : Ls Int), (nth x.l i).prints⟩ : OutL)]).length) * 56 ≤ 140737488355328 ∧ ol.length + ([(⟨0, (⟨(vtake (((nth x.l i).words).v) n), ((((nth x.l i).words).l).take n)⟩ : Ls Int), (nth x.l i).prints⟩ : OutL)]).length ≤ 140737488355328 from (by first | omega | (simp only [lens9]; omega))) rfl rfl) (wanted_none rfl _) ?_
   rintro a46 w46 ⟨v46, h46⟩; clear h45
   refine wms 1 h46 rfl fun a47 h47 => wpList_nil <| hK18 _ _ ?_; clear h46
   have h48 : St 36 (fun _ => False) W a47 w46 [(0, x.v), (1, .int .i64 ((n : Nat) : Int)), (5, v46), (6, .int .i64 ((i : Nat) : Int))] [.own 56 (⟨v45, [(⟨0, (⟨(vtake (((nth x.l i).words).v) n), ((((nth x.l i).words).l).take n)⟩ : Ls Int), (nth x.l i).prints⟩ : OutL)]⟩ : Ls OutL), .at_ x, .own 56 (⟨v46, ol ++ ([(⟨0, (⟨(vtake (((nth x.l i).words).v) n), ((((nth x.l i).words).l).take n)⟩ : Ls Int), (nth x.l i).prints⟩ : OutL)])⟩ : Ls OutL)] := h47.nrm ⟨rfl, rfl, rfl, rfl, trivial⟩ [0, 1, 2] (by decide) ⟨rfl, rfl, rfl, trivial⟩
   clear h47
   refine wp_region_lit <| wms 1 h48 rfl fun a49 h49 => wv h49 (r_addN (p := i) (q := 1) rfl rfl rfl (show i + 1 < 9223372036854775808 from (by omega))) rfl rfl fun a50 h50 => wms 1 h50 rfl fun a51 h51 => wpList_nil <| x_again ⟨_, ?_, i + 1, ol ++ ([(⟨0, (⟨(vtake (((nth x.l i).words).v) n), ((((nth x.l i).words).l).take n)⟩ : Ls Int), (nth x.l i).prints⟩ : OutL)]), v46, ?_, ?_, ?_, ?_, h51.nrm ⟨rfl, rfl, rfl, rfl, trivial⟩ [1, 2] (by decide) ⟨rfl, rfl, trivial⟩, rfl⟩; clear h48 h49 h50
   · rw [hm9]; first | omega | (simp only [lens9]; omega)
   · omega
   · rw [cutL_step (by omega)]; first | (rw [if_pos (by omega), List.map_append, hol]; rfl) | (rw [if_neg (by omega), List.append_nil]; exact hol)
   · first | omega | (simp; omega)
   · first | exact hob | (intro o ho b hb; rcases List.mem_append.1 ho with ho | ho; exact hob o ho b hb; obtain rfl := List.mem_singleton.1 ho; rcases hb with hb | hb; exact ⟨i, by omega, .inl (take_on (hx.inner i (by omega)).1 hb)⟩; exact ⟨i, by omega, .inr hb⟩)
  have hp25 : ¬ ((nth x.l i).st = 0) := of_decide_eq_false hb25
  refine wp_skip <| hK18 _ _ <| wp_region_lit <| wms 1 h24 rfl fun a52 h52 => wv h52 (r_addN (p := i) (q := 1) rfl rfl rfl (show i + 1 < 9223372036854775808 from (by omega))) rfl rfl fun a53 h53 => wms 1 h53 rfl fun a54 h54 => wpList_nil <| x_again ⟨_, ?_, i + 1, ol, vo, ?_, ?_, ?_, ?_, h54.nrm ⟨rfl, rfl, rfl, rfl, trivial⟩ [0, 1] (by decide) ⟨rfl, rfl, trivial⟩, rfl⟩; clear h24 h52 h53
  · rw [hm9]; first | omega | (simp only [lens9]; omega)
  · omega
  · rw [cutL_step (by omega)]; first | (rw [if_pos (by omega), List.map_append, hol]; rfl) | (rw [if_neg (by omega), List.append_nil]; exact hol)
  · first | omega | (simp; omega)
  · first | exact hob | (intro o ho b hb; rcases List.mem_append.1 ho with ho | ho; exact hob o ho b hb; obtain rfl := List.mem_singleton.1 ho; rcases hb with hb | hb; exact ⟨i, by omega, .inl (take_on (hx.inner i (by omega)).1 hb)⟩; exact ⟨i, by omega, .inr hb⟩)
 have hp17 : ¬ (i < x.l.length) := of_decide_eq_false hb17
 refine wp_exit <| hK6 _ _ <| wp_seq_k fun K55 hK55 => wp_region_lit <| wms 2 h16 rfl fun a56 h56 => wpList_nil <| hK55 _ _ <| wp_ret ?_; clear h16
 try simp only [Exit.then, Exit.inBlock]
 refine x_ret1 (fn := Try.f33) (t := 4) rfl h56 rfl <| ⟨⟨vo, ol⟩, rfl, by rw [hol, List.take_of_length_le (by omega)], hob, (h56.sh.sel (L' := [.own 56 (⟨vo, ol⟩ : Ls OutL)]) [1] (by decide) ⟨rfl, trivial⟩)⟩

set_option maxRecDepth 100000 in
set_option maxHeartbeats 1000000 in
theorem once_c (x : Ls OutL) (W : World) (hx : x.At W) (hxl : x.l.length ≤ 100000000) :
    Rets Try.prog 34 [x.v] W (fun v w' => ∃ s : Ls OutL, v = s.v ∧ (Sorted_ (s.l.map OutL.out) ∧ ∀ o, o ∈ s.l.map OutL.out ↔ o ∈ x.l.map OutL.out) ∧ (∀ o ∈ s.l, ∀ b, Enc.on o b → ∃ i, i < x.l.length ∧ Enc.on (nth x.l i) b) ∧ Sh0 W w' [.own 56 s]) := by
 refine x_enter (N := 65) Try.func34 rfl Try.ntmps34 (Nat.le_of_ble_eq_true rfl) fun a1 hf1 => ?_
 have h1 : St 65 (fun _ => False) W a1 W [(0, x.v)] [.at_ x] := ⟨hf1.sub ⟨rfl, trivial⟩, Sh0.ext1 hx⟩
 clear hf1
 refine wp_seq_k fun K2 hK2 => wp_region_lit <| wms 1 h1 rfl fun a3 h3 => wpList_nil <| hK2 _ _ <| wp_seq_k fun K4 hK4 => wp_region_lit <| wms 1 h3 rfl fun a5 h5 => wpList_nil <| hK4 _ _ <| wp_seq_k fun K6 hK6 => wp_seq_k fun K7 hK7 => wp_region_lit <| wms 1 h5 rfl fun a8 h8 => ?_; clear h1 h3 h5
 refine wpList_nil <| hK7 _ _ <| wp_block ?_
 have h10 := h8.nil (α := OutL) 56
 clear h8
 refine x_loop (fun m a w => ∃ (i : Nat) (ol : List OutL) (vo : Value), (i ≤ x.l.length) ∧ (Sorted_ (ol.map OutL.out)) ∧ (∀ o, o ∈ ol.map OutL.out ↔ o ∈ (x.l.take i).map OutL.out) ∧ (ol.length ≤ i) ∧ (∀ o ∈ ol, ∀ b, Enc.on o b → ∃ i, i < x.l.length ∧ Enc.on (nth x.l i) b) ∧ St 65 (fun _ => False) W a w [(0, x.v), (3, vo), (4, .int .i64 ((i : Nat) : Int))] [.at_ x, .own 56 (⟨vo, ol⟩ : Ls OutL)] ∧ m = x.l.length - i) ⟨_, 0, [], (.slice none 0 0), (by omega), (List.Pairwise.nil), (fun o => Iff.rfl), (Nat.le_refl _), (fun o ho => by cases ho), h10.nrm ⟨rfl, rfl, rfl, trivial⟩ [1, 0] (by decide) ⟨rfl, rfl, trivial⟩, rfl⟩ ?_
 clear h10
 rintro m9 a9 w9 ⟨i, ol, vo, hi, hso, hme, hoi, hob, h9, hm9⟩
 refine wp_seq_k fun K11 hK11 => wp_seq_k fun K12 hK12 => wp_region_lit <| wms 2 h9 rfl fun a13 h13 => ?_; clear h9
 have hl14 : x.l.length ≤ 140737488355328 := (h13.sh.at 0 rfl).len
 refine wv h13 (r_len (s := x) (n := x.l.length) sl_47 rfl rfl (fun w h => (h.at 0 rfl)) rfl) rfl rfl fun a15 h15 => wv h15 (r_lssN (p := i) (q := x.l.length) rfl rfl rfl) rfl rfl fun a16 h16 => wpList_nil <| hK12 _ _ <| x_cond h16 rfl (fun hb17 => ?_) (fun hb17 => ?_); clear h13 h15
 ·
  have hp17 : i < x.l.length := of_decide_eq_true hb17
  refine wp_skip <| hK11 _ _ <| wp_seq_k fun K18 hK18 => wp_block <| wp_seq_k fun K19 hK19 => wp_region_lit <| wms 1 h16 rfl fun a20 h20 => wpList_nil <| hK19 _ _ <| wp_seq_k fun K21 hK21 => wp_block <| x_loop (fun m a w => ∃ (d : Nat), (d ≤ ol.length) ∧ (∀ j, j < d → aheadB (nth ol j).out (nth x.l i).out = true) ∧ St 65 (fun _ => False) W a w [(0, x.v), (3, vo), (4, .int .i64 ((i : Nat) : Int)), (5, .int .i64 ((d : Nat) : Int))] [.at_ x, .own 56 (⟨vo, ol⟩ : Ls OutL)] ∧ m = ol.length - d) ⟨_, 0, (by omega), (fun j hj => absurd hj (by omega)), h20.nrm ⟨rfl, rfl, rfl, rfl, trivial⟩ [0, 1] (by decide) ⟨rfl, rfl, trivial⟩, rfl⟩ ?_; clear h16
  clear h20
  rintro m22 a22 w22 ⟨d, hd, hah, h22, hm22⟩
  refine wp_seq_k fun K23 hK23 => wp_seq_k fun K24 hK24 => x_quiet (by kernel_rfl) (by kernel_rfl) h22 fun Z25 hZ25 => ?_
  have hq25 := h22.fr
  refine wq_val hq25 (r_move rfl rfl) (wanted_none rfl _) rfl rfl fun a26 hq26 => wq_val hq26 (r_move rfl rfl) (wanted_none rfl _) rfl rfl fun a27 hq27 => ?_; clear hq25 hq26
  have hl28 : ol.length ≤ 140737488355328 := (h22.sh.own 1 rfl).len
  refine wq_val hq27 (r_len (s := (⟨vo, ol⟩ : Ls OutL)) (n := ol.length) sl_47 rfl rfl (fun w h => (h.own 1 rfl)) rfl) (wanted_none rfl _) rfl rfl fun a29 hq29 => wq_val hq29 (r_lssN (p := d) (q := ol.length) rfl rfl rfl) (wanted_none rfl _) rfl rfl fun a30 hq30 => wq_val hq30 (r_move rfl rfl) (wanted_none rfl _) rfl rfl fun a31 hq31 => ?_; clear hq27 hq29 hq30
  rcases Bool.eq_false_or_eq_true (decide (d < ol.length)) with hb32 | hb32
  ·
   have hp32 : d < ol.length := of_decide_eq_true hb32
   refine wq_val hq31 (r_move rfl rfl) (wanted_yes hq31 rfl rfl rfl rfl hb32) rfl rfl fun a34 hq34 => wq_val hq34 (r_move rfl rfl) (wanted_yes hq34 rfl rfl rfl rfl hb32) rfl rfl fun a36 hq36 => wq_val hq36 (r_ixN (s := (⟨vo, ol⟩ : Ls OutL)) (q := d) sl_47 ti_56 rfl rfl rfl (fun w h => (h.own 1 rfl)) (show d < ol.length from (by omega))) (wanted_yes hq36 rfl rfl rfl rfl hb32) rfl rfl fun a38 hq38 => wq_val hq38 (r_ldew (s := (⟨vo, ol⟩ : Ls OutL)) (i := d) (vs := [.int .i64 ((nth ol d).st), ((nth ol d).words).v, ((nth ol d).prints).v]) ti_56 rfl rfl rfl (fun w h => (h.own 1 rfl)) (show d < ol.length from (by omega)) (Nat.le_of_ble_eq_true rfl) rfl) (wanted_yes hq38 rfl rfl rfl rfl hb32) rfl rfl fun a40 hq40 => wq_val hq40 (r_move rfl rfl) (wanted_yes hq40 rfl rfl rfl rfl hb32) rfl rfl fun a42 hq42 => wq_val hq42 (r_move rfl rfl) (wanted_yes hq42 rfl rfl rfl rfl hb32) rfl rfl fun a44 hq44 => wq_val hq44 (r_ixN (s := x) (q := i) sl_47 ti_56 rfl rfl rfl (fun w h => (h.at 0 rfl)) (show i < x.l.length from (by omega))) (wanted_yes hq44 rfl rfl rfl rfl hb32) rfl rfl fun a46 hq46 => wq_val hq46 (r_ldew (s := x) (i := i) (vs := [.int .i64 ((nth x.l i).st), ((nth x.l i).words).v, ((nth x.l i).prints).v]) ti_56 rfl rfl rfl (fun w h => (h.at 0 rfl)) (show i < x.l.length from (by omega)) (Nat.le_of_ble_eq_true rfl) rfl) (wanted_yes hq46 rfl rfl rfl rfl hb32) rfl rfl fun a48 hq48 => wq_call hq48 bd_75 rfl rfl rfl (wanted_yes hq48 rfl rfl rfl rfl hb32) rfl rfl (fun w h => (ahead_c (nth ol d) (nth x.l i) _ ((h.own 1 rfl).inner d (show d < ol.length from (by omega))).1 ((h.own 1 rfl).inner d (show d < ol.length from (by omega))).2 ((h.at 0 rfl).inner i (show i < x.l.length from (by omega))).1 ((h.at 0 rfl).inner i (show i < x.l.length from (by omega))).2)) fun a50 hq50 => wq_val hq50 (r_pickT rfl rfl hb32 rfl) (wanted_none rfl _) rfl rfl fun a51 hq51 => wpQuiet_nil (hZ25 _ fun w52 hw52 => ?_); clear hq31 hq34 hq36 hq38 hq40 hq42 hq44 hq46 hq48 hq50
   have h52 : St 65 (fun _ => False) W a51 w52 _ _ := ⟨hq51, hw52⟩
   clear hq51 hw52 h22
   refine hK24 _ _ <| x_cond h52 rfl (fun hb53 => ?_) (fun hb53 => ?_)
   ·
    skip
    refine wp_skip <| hK23 _ _ <| wp_block <| wp_region_lit <| wms 1 h52 rfl fun a54 h54 => wv h54 (r_addN (p := d) (q := 1) rfl rfl rfl (show d + 1 < 9223372036854775808 from (by omega))) rfl rfl fun a55 h55 => wms 1 h55 rfl fun a56 h56 => wpList_nil ?_; clear h52 h54 h55
    change ∃ _m, _m < _ ∧ _
    refine ⟨_, ?_, d + 1, ?_, ?_, h56.nrm ⟨rfl, rfl, rfl, rfl, trivial⟩ [0, 1] (by decide) ⟨rfl, rfl, trivial⟩, rfl⟩
    · rw [hm22]; first | omega | (simp only [lens9]; omega)
    · omega
    · intro j hj; rcases Nat.lt_or_ge j d with h9 | h9; exact hah j h9; obtain rfl : j = d := (by omega); assumption
   refine wp_exit <| hK21 _ _ <| wp_seq_k fun K57 hK57 => wp_seq_k fun K58 hK58 => wp_region_lit <| wms 2 h52 rfl fun a59 h59 => wv h59 (r_len (s := (⟨vo, ol⟩ : Ls OutL)) (n := ol.length) sl_47 rfl rfl (fun w h => (h.own 1 rfl)) rfl) rfl rfl fun a60 h60 => wv h60 (r_lssN (p := d) (q := ol.length) rfl rfl rfl) rfl rfl fun a61 h61 => wpList_nil <| hK58 _ _ <| x_condT h61 rfl hb32 <| wp_seq_k fun K62 hK62 => x_quiet (by kernel_rfl) (by kernel_rfl) h61 fun Z63 hZ63 => ?_; clear h52 h59 h60
   have hq63 := h61.fr
   refine wq_val hq63 (r_move rfl rfl) (wanted_none rfl _) rfl rfl fun a64 hq64 => wq_val hq64 (r_move rfl rfl) (wanted_none rfl _) rfl rfl fun a65 hq65 => wq_val hq65 (r_ixN (s := x) (q := i) sl_47 ti_56 rfl rfl rfl (fun w h => (h.at 0 rfl)) (show i < x.l.length from (by omega))) (wanted_none rfl _) rfl rfl fun a66 hq66 => wq_val hq66 (r_ldew (s := x) (i := i) (vs := [.int .i64 ((nth x.l i).st), ((nth x.l i).words).v, ((nth x.l i).prints).v]) ti_56 rfl rfl rfl (fun w h => (h.at 0 rfl)) (show i < x.l.length from (by omega)) (Nat.le_of_ble_eq_true rfl) rfl) (wanted_none rfl _) rfl rfl fun a67 hq67 => wq_val hq67 (r_move rfl rfl) (wanted_none rfl _) rfl rfl fun a68 hq68 => wq_val hq68 (r_move rfl rfl) (wanted_none rfl _) rfl rfl fun a69 hq69 => wq_val hq69 (r_ixN (s := (⟨vo, ol⟩ : Ls OutL)) (q := d) sl_47 ti_56 rfl rfl rfl (fun w h => (h.own 1 rfl)) (show d < ol.length from (by omega))) (wanted_none rfl _) rfl rfl fun a70 hq70 => wq_val hq70 (r_ldew (s := (⟨vo, ol⟩ : Ls OutL)) (i := d) (vs := [.int .i64 ((nth ol d).st), ((nth ol d).words).v, ((nth ol d).prints).v]) ti_56 rfl rfl rfl (fun w h => (h.own 1 rfl)) (show d < ol.length from (by omega)) (Nat.le_of_ble_eq_true rfl) rfl) (wanted_none rfl _) rfl rfl fun a71 hq71 => wq_call hq71 bd_75 rfl rfl rfl (wanted_none rfl _) rfl rfl (fun w h => (ahead_c (nth x.l i) (nth ol d) _ ((h.at 0 rfl).inner i (show i < x.l.length from (by omega))).1 ((h.at 0 rfl).inner i (show i < x.l.length from (by omega))).2 ((h.own 1 rfl).inner d (show d < ol.length from (by omega))).1 ((h.own 1 rfl).inner d (show d < ol.length from (by omega))).2)) fun a72 hq72 => wq_val hq72 (r_assign rfl rfl) (wanted_none rfl _) rfl rfl fun a73 hq73 => wpQuiet_nil (hZ63 _ fun w74 hw74 => ?_); clear hq63 hq64 hq65 hq66 hq67 hq68 hq69 hq70 hq71 hq72
   have h74 : St 65 (fun _ => False) W a73 w74 _ _ := ⟨hq73, hw74⟩
   clear hq73 hw74 h61
   refine hK62 _ _ ?_
   have h75 : St 65 (fun _ => False) W a73 w74 [(0, x.v), (3, vo), (4, .int .i64 ((i : Nat) : Int)), (5, .int .i64 ((d : Nat) : Int)), (6, .bool (aheadB (OutL.out (nth x.l i)) (OutL.out (nth ol d))))] [.at_ x, .own 56 (⟨vo, ol⟩ : Ls OutL)] := h74.nrm ⟨rfl, rfl, rfl, rfl, rfl, trivial⟩ [0, 1] (by decide) ⟨rfl, rfl, trivial⟩
   clear h74
   refine wp_seq_k fun K76 hK76 => wp_region_lit <| wms 1 h75 rfl fun a77 h77 => wv h77 (r_not rfl rfl) rfl rfl fun a78 h78 => wpList_nil <| hK76 _ _ <| x_cond h78 rfl (fun hb79 => ?_) (fun hb79 => ?_); clear h75 h77
   ·
    have hn79 : aheadB (OutL.out (nth x.l i)) (OutL.out (nth ol d)) = false := (Bool.not_eq_true' _).mp hb79
    refine wp_exit <| hK18 _ _ <| wp_region_lit <| wms 1 h78 rfl fun a80 h80 => wv h80 (r_addN (p := i) (q := 1) rfl rfl rfl (show i + 1 < 9223372036854775808 from (by omega))) rfl rfl fun a81 h81 => wms 1 h81 rfl fun a82 h82 => wpList_nil ?_; clear h78 h80 h81
    have hput : PutRel (nth x.l i) ol ol := .inl ⟨⟨d, by omega, by assumption, by assumption⟩, rfl⟩
    have hset := once_set (by omega) hput hso hme
    refine x_again ⟨_, ?_, i + 1, ol, vo, ?_, ?_, ?_, ?_, ?_, h82.nrm ⟨rfl, rfl, rfl, trivial⟩ [0, 1] (by decide) ⟨rfl, rfl, trivial⟩, rfl⟩
    · rw [hm9]; first | omega | (simp only [lens9]; omega)
    · omega
    · exact hset.1
    · exact hset.2
    · have h9 := once_len hput; omega
    · intro o ho b hb; rcases once_mem hput o ho with ho | rfl; exact hob o ho b hb; exact ⟨i, by omega, hb⟩
   have hn79 : aheadB (OutL.out (nth x.l i)) (OutL.out (nth ol d)) = true := (Bool.not_eq_false' _).mp hb79
   refine wp_skip <| hK57 _ _ <| wp_seq_k fun K83 hK83 => wp_region_lit <| wms 1 h78 rfl fun a84 h84 => wpList_nil <| hK83 _ _ ?_; clear h78
   have ht9 : (ol.take d).length = d := by rw [List.length_take]; omega
   have hd9 : (ol.drop d).length = ol.length - d := List.length_drop
   have h85 := h84.nil (α := OutL) 56
   clear h84
   refine wp_seq_k fun K86 hK86 => wp_region_lit <| wms 3 h85 rfl fun a87 h87 => wv h87 (r_slH0 (s := (⟨vo, ol⟩ : Ls OutL)) (j := d) sl_47 ti_56 rfl rfl rfl (fun w h => (h.own 2 rfl)) (show d ≤ ol.length from (by omega))) rfl rfl fun a88 h88 => wl_ex (x_app (r := 0) (rm := 2) (s := (⟨.slice none 0 0, []⟩ : Ls OutL)) (m := (⟨(vtake vo d), (ol.take d)⟩ : Ls OutL)) h88 sl_47 ti_56 rfl rfl rfl rfl rfl rfl rfl (fun w h => (take_at (h.own 2 rfl) (show d ≤ ol.length from (by omega)))) (fun b hb => own_on (h88.sh.ok _ (List.mem_of_getElem? (i := 2) rfl)) (take_on (h88.sh.own 2 rfl) hb)) (fun q hq b hb => take_in hq hb) rfl rfl rfl inferInstance (show (([]).length + (ol.take d).length) * 56 ≤ 140737488355328 ∧ ([]).length + (ol.take d).length ≤ 140737488355328 from (by first | omega | (simp only [lens9]; omega))) rfl rfl) (wanted_none rfl _) ?_; clear h85 h87
   rintro a89 w89 ⟨v89, h89⟩; clear h88
   refine wms 1 h89 rfl fun a90 h90 => wpList_nil <| hK86 _ _ <| wp_seq_k fun K91 hK91 => wp_region_lit <| wms 3 h90 rfl fun a92 h92 => wv h92 (r_ixN (s := x) (q := i) sl_47 ti_56 rfl rfl rfl (fun w h => (h.at 1 rfl)) (show i < x.l.length from (by omega))) rfl rfl fun a93 h93 => wv h93 (r_ldew (s := x) (i := i) (vs := [.int .i64 ((nth x.l i).st), ((nth x.l i).words).v, ((nth x.l i).prints).v]) ti_56 rfl rfl rfl (fun w h => (h.at 1 rfl)) (show i < x.l.length from (by omega)) (Nat.le_of_ble_eq_true rfl) rfl) rfl rfl fun a94 h94 => wl_ex (x_lit (n := 1) (cs := [.int .i64 ((nth x.l i).st), ((nth x.l i).words).v, ((nth x.l i).prints).v]) ([nth x.l i] : List OutL) h94 sl_47 ti_56 rfl rfl rfl (by decide) rfl (by kernel_rfl) rfl (fun q hq w h => by obtain rfl : q = 0 := (by simpa using hq); exact ⟨((h.at 1 rfl).inner i (show i < x.l.length from (by omega))).1, ((h.at 1 rfl).inner i (show i < x.l.length from (by omega))).2⟩) (fun q hq b hb => by obtain rfl : q = 0 := (by simpa using hq); rcases hb with hb | hb; exact ⟨_, List.mem_of_getElem? (i := 1) rfl, .inr ⟨i, (show i < x.l.length from (by omega)), .inl hb⟩⟩; exact ⟨_, List.mem_of_getElem? (i := 1) rfl, .inr ⟨i, (show i < x.l.length from (by omega)), .inr hb⟩⟩) rfl rfl) (wanted_none rfl _) ?_; clear h89 h90 h92 h93
   rintro a95 w95 ⟨v95, h95⟩; clear h94
   refine wl_ex (x_app (r := 1) (rm := 0) (s := (⟨v89, (ol.take d)⟩ : Ls OutL)) (m := (⟨v95, [nth x.l i]⟩ : Ls OutL)) h95 sl_47 ti_56 rfl rfl rfl rfl rfl rfl rfl (fun w h => (h.own 0 rfl)) (fun b hb => own_on (h95.sh.ok _ (List.mem_of_getElem? (i := 0) rfl)) hb) (fun q hq b hb => ⟨q, hq, hb⟩) rfl rfl rfl inferInstance (show ((ol.take d).length + ([nth x.l i]).length) * 56 ≤ 140737488355328 ∧ (ol.take d).length + ([nth x.l i]).length ≤ 140737488355328 from (by first | omega | (simp only [lens9]; omega))) rfl rfl) (wanted_none rfl _) ?_
   rintro a96 w96 ⟨v96, h96⟩; clear h95
   refine wms 1 h96 rfl fun a97 h97 => wpList_nil <| hK91 _ _ <| wp_seq_k fun K98 hK98 => wp_region_lit <| wms 3 h97 rfl fun a99 h99 => wv h99 (r_slL (s := (⟨vo, ol⟩ : Ls OutL)) (k := d) sl_47 ti_56 rfl rfl rfl (fun w h => (h.own 3 rfl)) (show d ≤ ol.length from (by omega))) rfl rfl fun a100 h100 => wl_ex (x_app (r := 1) (rm := 3) (s := (⟨v96, (ol.take d) ++ ([nth x.l i])⟩ : Ls OutL)) (m := (⟨(vdrop vo 3 d), (ol.drop d)⟩ : Ls OutL)) h100 sl_47 ti_56 rfl rfl rfl rfl rfl rfl rfl (fun w h => (drop_at (h.own 3 rfl) (show d ≤ ol.length from (by omega)))) (fun b hb => own_on (h100.sh.ok _ (List.mem_of_getElem? (i := 3) rfl)) (drop_on (h100.sh.own 3 rfl) hb)) (fun q hq b hb => drop_in hq hb) rfl rfl rfl inferInstance (show (((ol.take d) ++ ([nth x.l i])).length + (ol.drop d).length) * 56 ≤ 140737488355328 ∧ ((ol.take d) ++ ([nth x.l i])).length + (ol.drop d).length ≤ 140737488355328 from (by first | omega | (simp only [lens9]; omega))) rfl rfl) (wanted_none rfl _) ?_; clear h96 h97 h99
   rintro a101 w101 ⟨v101, h101⟩; clear h100
   refine wms 1 h101 rfl fun a102 h102 => wpList_nil <| hK98 _ _ <| wp_region_lit <| wms 2 h102 rfl fun a103 h103 => wpList_nil <| hK18 _ _ ?_; clear h101 h102
   have h104 : St 65 (fun _ => False) W a103 w101 [(0, x.v), (3, v101), (4, .int .i64 ((i : Nat) : Int))] [.own 56 (⟨v95, [nth x.l i]⟩ : Ls OutL), .own 56 (⟨v101, ((ol.take d) ++ ([nth x.l i])) ++ (ol.drop d)⟩ : Ls OutL), .at_ x, .own 56 (⟨vo, ol⟩ : Ls OutL)] := h103.nrm ⟨rfl, rfl, rfl, trivial⟩ [0, 1, 2, 3] (by decide) ⟨rfl, rfl, rfl, rfl, trivial⟩
   clear h103
   refine wp_region_lit <| wms 1 h104 rfl fun a105 h105 => wv h105 (r_addN (p := i) (q := 1) rfl rfl rfl (show i + 1 < 9223372036854775808 from (by omega))) rfl rfl fun a106 h106 => wms 1 h106 rfl fun a107 h107 => wpList_nil ?_; clear h104 h105 h106
   have hput : PutRel (nth x.l i) ol (((ol.take d) ++ ([nth x.l i])) ++ (ol.drop d)) := once_in (by omega) hah (fun h9 => by first | assumption | omega)
   have hset := once_set (by omega) hput hso hme
   refine x_again ⟨_, ?_, i + 1, ((ol.take d) ++ ([nth x.l i])) ++ (ol.drop d), v101, ?_, ?_, ?_, ?_, ?_, h107.nrm ⟨rfl, rfl, rfl, trivial⟩ [2, 1] (by decide) ⟨rfl, rfl, trivial⟩, rfl⟩
   · rw [hm9]; first | omega | (simp only [lens9]; omega)
   · omega
   · exact hset.1
   · exact hset.2
   · have h9 := once_len hput; omega
   · intro o ho b hb; rcases once_mem hput o ho with ho | rfl; exact hob o ho b hb; exact ⟨i, by omega, hb⟩
  have hp32 : ¬ (d < ol.length) := of_decide_eq_false hb32
  refine wq_skip hq31 (wanted_no hq31 rfl rfl rfl rfl hb32) rfl rfl fun a108 hq108 => wq_skip hq108 (wanted_no hq108 rfl rfl rfl rfl hb32) rfl rfl fun a109 hq109 => wq_skip hq109 (wanted_no hq109 rfl rfl rfl rfl hb32) rfl rfl fun a110 hq110 => wq_skip hq110 (wanted_no hq110 rfl rfl rfl rfl hb32) rfl rfl fun a111 hq111 => wq_skip hq111 (wanted_no hq111 rfl rfl rfl rfl hb32) rfl rfl fun a112 hq112 => wq_skip hq112 (wanted_no hq112 rfl rfl rfl rfl hb32) rfl rfl fun a113 hq113 => wq_skip hq113 (wanted_no hq113 rfl rfl rfl rfl hb32) rfl rfl fun a114 hq114 => wq_skip hq114 (wanted_no hq114 rfl rfl rfl rfl hb32) rfl rfl fun a115 hq115 => wq_skip hq115 (wanted_no hq115 rfl rfl rfl rfl hb32) rfl rfl fun a116 hq116 => wq_val hq116 (r_pickF rfl rfl hb32 rfl) (wanted_none rfl _) rfl rfl fun a117 hq117 => wpQuiet_nil (hZ25 _ fun w118 hw118 => ?_); clear hq31 hq108 hq109 hq110 hq111 hq112 hq113 hq114 hq115 hq116
  have h118 : St 65 (fun _ => False) W a117 w118 _ _ := ⟨hq117, hw118⟩
  clear hq117 hw118 h22
  refine hK24 _ _ <| x_condF h118 rfl rfl <| wp_exit <| hK21 _ _ <| wp_seq_k fun K119 hK119 => wp_seq_k fun K120 hK120 => wp_region_lit <| wms 2 h118 rfl fun a121 h121 => wv h121 (r_len (s := (⟨vo, ol⟩ : Ls OutL)) (n := ol.length) sl_47 rfl rfl (fun w h => (h.own 1 rfl)) rfl) rfl rfl fun a122 h122 => wv h122 (r_lssN (p := d) (q := ol.length) rfl rfl rfl) rfl rfl fun a123 h123 => wpList_nil <| hK120 _ _ <| x_condF h123 rfl hb32 <| wp_skip ?_; clear h118 h121 h122
  refine hK119 _ _ <| wp_seq_k fun K124 hK124 => wp_region_lit <| wms 1 h123 rfl fun a125 h125 => wpList_nil <| hK124 _ _ ?_; clear h123
  have ht9 : (ol.take d).length = d := by rw [List.length_take]; omega
  have hd9 : (ol.drop d).length = ol.length - d := List.length_drop
  have h126 := h125.nil (α := OutL) 56
  clear h125
  refine wp_seq_k fun K127 hK127 => wp_region_lit <| wms 3 h126 rfl fun a128 h128 => wv h128 (r_slH0 (s := (⟨vo, ol⟩ : Ls OutL)) (j := d) sl_47 ti_56 rfl rfl rfl (fun w h => (h.own 2 rfl)) (show d ≤ ol.length from (by omega))) rfl rfl fun a129 h129 => wl_ex (x_app (r := 0) (rm := 2) (s := (⟨.slice none 0 0, []⟩ : Ls OutL)) (m := (⟨(vtake vo d), (ol.take d)⟩ : Ls OutL)) h129 sl_47 ti_56 rfl rfl rfl rfl rfl rfl rfl (fun w h => (take_at (h.own 2 rfl) (show d ≤ ol.length from (by omega)))) (fun b hb => own_on (h129.sh.ok _ (List.mem_of_getElem? (i := 2) rfl)) (take_on (h129.sh.own 2 rfl) hb)) (fun q hq b hb => take_in hq hb) rfl rfl rfl inferInstance (show (([]).length + (ol.take d).length) * 56 ≤ 140737488355328 ∧ ([]).length + (ol.take d).length ≤ 140737488355328 from (by first | omega | (simp only [lens9]; omega))) rfl rfl) (wanted_none rfl _) ?_; clear h126 h128
  rintro a130 w130 ⟨v130, h130⟩; clear h129
  refine wms 1 h130 rfl fun a131 h131 => wpList_nil <| hK127 _ _ ?_; clear h130
  have h132 : St 65 (fun _ => False) W a131 w130 [(0, x.v), (3, vo), (4, .int .i64 ((i : Nat) : Int)), (5, .int .i64 ((d : Nat) : Int)), (7, v130)] [.own 56 (⟨v130, (ol.take d)⟩ : Ls OutL), .at_ x, .own 56 (⟨vo, ol⟩ : Ls OutL)] := h131.nrm ⟨rfl, rfl, rfl, rfl, rfl, trivial⟩ [0, 1, 2] (by decide) ⟨rfl, rfl, rfl, trivial⟩
  clear h131
  refine wp_seq_k fun K133 hK133 => wp_region_lit <| wms 3 h132 rfl fun a134 h134 => wv h134 (r_ixN (s := x) (q := i) sl_47 ti_56 rfl rfl rfl (fun w h => (h.at 1 rfl)) (show i < x.l.length from (by omega))) rfl rfl fun a135 h135 => wv h135 (r_ldew (s := x) (i := i) (vs := [.int .i64 ((nth x.l i).st), ((nth x.l i).words).v, ((nth x.l i).prints).v]) ti_56 rfl rfl rfl (fun w h => (h.at 1 rfl)) (show i < x.l.length from (by omega)) (Nat.le_of_ble_eq_true rfl) rfl) rfl rfl fun a136 h136 => wl_ex (x_lit (n := 1) (cs := [.int .i64 ((nth x.l i).st), ((nth x.l i).words).v, ((nth x.l i).prints).v]) ([nth x.l i] : List OutL) h136 sl_47 ti_56 rfl rfl rfl (by decide) rfl (by kernel_rfl) rfl (fun q hq w h => by obtain rfl : q = 0 := (by simpa using hq); exact ⟨((h.at 1 rfl).inner i (show i < x.l.length from (by omega))).1, ((h.at 1 rfl).inner i (show i < x.l.length from (by omega))).2⟩) (fun q hq b hb => by obtain rfl : q = 0 := (by simpa using hq); rcases hb with hb | hb; exact ⟨_, List.mem_of_getElem? (i := 1) rfl, .inr ⟨i, (show i < x.l.length from (by omega)), .inl hb⟩⟩; exact ⟨_, List.mem_of_getElem? (i := 1) rfl, .inr ⟨i, (show i < x.l.length from (by omega)), .inr hb⟩⟩) rfl rfl) (wanted_none rfl _) ?_; clear h132 h134 h135
  rintro a137 w137 ⟨v137, h137⟩; clear h136
  refine wl_ex (x_app (r := 1) (rm := 0) (s := (⟨v130, (ol.take d)⟩ : Ls OutL)) (m := (⟨v137, [nth x.l i]⟩ : Ls OutL)) h137 sl_47 ti_56 rfl rfl rfl rfl rfl rfl rfl (fun w h => (h.own 0 rfl)) (fun b hb => own_on (h137.sh.ok _ (List.mem_of_getElem? (i := 0) rfl)) hb) (fun q hq b hb => ⟨q, hq, hb⟩) rfl rfl rfl inferInstance (show ((ol.take d).length + ([nth x.l i]).length) * 56 ≤ 140737488355328 ∧ (ol.take d).length + ([nth x.l i]).length ≤ 140737488355328 from (by first | omega | (simp only [lens9]; omega))) rfl rfl) (wanted_none rfl _) ?_
  rintro a138 w138 ⟨v138, h138⟩; clear h137
  refine wms 1 h138 rfl fun a139 h139 => wpList_nil <| hK133 _ _ <| wp_seq_k fun K140 hK140 => wp_region_lit <| wms 3 h139 rfl fun a141 h141 => wv h141 (r_slL (s := (⟨vo, ol⟩ : Ls OutL)) (k := d) sl_47 ti_56 rfl rfl rfl (fun w h => (h.own 3 rfl)) (show d ≤ ol.length from (by omega))) rfl rfl fun a142 h142 => wl_ex (x_app (r := 1) (rm := 3) (s := (⟨v138, (ol.take d) ++ ([nth x.l i])⟩ : Ls OutL)) (m := (⟨(vdrop vo 3 d), (ol.drop d)⟩ : Ls OutL)) h142 sl_47 ti_56 rfl rfl rfl rfl rfl rfl rfl (fun w h => (drop_at (h.own 3 rfl) (show d ≤ ol.length from (by omega)))) (fun b hb => own_on (h142.sh.ok _ (List.mem_of_getElem? (i := 3) rfl)) (drop_on (h142.sh.own 3 rfl) hb)) (fun q hq b hb => drop_in hq hb) rfl rfl rfl inferInstance (show (((ol.take d) ++ ([nth x.l i])).length + (ol.drop d).length) * 56 ≤ 140737488355328 ∧ ((ol.take d) ++ ([nth x.l i])).length + (ol.drop d).length ≤ 140737488355328 from (by first | omega | (simp only [lens9]; omega))) rfl rfl) (wanted_none rfl _) ?_; clear h138 h139 h141
  rintro a143 w143 ⟨v143, h143⟩; clear h142
  refine wms 1 h143 rfl fun a144 h144 => wpList_nil <| hK140 _ _ <| wp_region_lit <| wms 2 h144 rfl fun a145 h145 => wpList_nil <| hK18 _ _ <| wp_region_lit <| wms 1 h145 rfl fun a146 h146 => wv h146 (r_addN (p := i) (q := 1) rfl rfl rfl (show i + 1 < 9223372036854775808 from (by omega))) rfl rfl fun a147 h147 => wms 1 h147 rfl fun a148 h148 => wpList_nil ?_; clear h143 h144 h145 h146 h147
  have hput : PutRel (nth x.l i) ol (((ol.take d) ++ ([nth x.l i])) ++ (ol.drop d)) := once_in (by omega) hah (fun h9 => by first | assumption | omega)
  have hset := once_set (by omega) hput hso hme
  refine x_again ⟨_, ?_, i + 1, ((ol.take d) ++ ([nth x.l i])) ++ (ol.drop d), v143, ?_, ?_, ?_, ?_, ?_, h148.nrm ⟨rfl, rfl, rfl, trivial⟩ [2, 1] (by decide) ⟨rfl, rfl, trivial⟩, rfl⟩
  · rw [hm9]; first | omega | (simp only [lens9]; omega)
  · omega
  · exact hset.1
  · exact hset.2
  · have h9 := once_len hput; omega
  · intro o ho b hb; rcases once_mem hput o ho with ho | rfl; exact hob o ho b hb; exact ⟨i, by omega, hb⟩
 have hp17 : ¬ (i < x.l.length) := of_decide_eq_false hb17
 refine wp_exit <| hK6 _ _ <| wp_seq_k fun K149 hK149 => wp_region_lit <| wms 2 h16 rfl fun a150 h150 => wpList_nil <| hK149 _ _ <| wp_ret ?_; clear h16
 try simp only [Exit.then, Exit.inBlock]
 refine x_ret1 (fn := Try.f34) (t := 2) rfl h150 rfl <| ⟨⟨vo, ol⟩, rfl, ⟨hso, by rw [List.take_of_length_le (by omega)] at hme; exact hme⟩, hob, (h150.sh.sel (L' := [.own 56 (⟨vo, ol⟩ : Ls OutL)]) [1] (by decide) ⟨rfl, trivial⟩)⟩

end Go.Proofs.Ytanhbpofhebbaaa
