/-
  Are these colours of a program? The program.
-/
import Derived.Test.YtfpaahkleienoaaX37
import Derived.Test.YtfpaahkleienoaaX75
section
namespace Go.Proofs.Ytfpaahkleienoaa
open Go.RowKit
set_option linter.unusedSimpArgs false
set_option linter.unusedVariables false


theorem listB_mem {f : Nat → Bool} {m : Nat} {v : Int} : v ∈ listB ((List.range m).map f) ↔ ∃ b : Nat, v = (b : Int) ∧ b < m ∧ f b = true := by
  rw [listB_range, List.mem_map]
  constructor
  · rintro ⟨b, hb, rfl⟩
    obtain ⟨h1, h2⟩ := List.mem_filter.1 hb
    exact ⟨b, rfl, List.mem_range.1 h1, h2⟩
  · rintro ⟨b, rfl, h1, h2⟩
    exact ⟨b, List.mem_filter.2 ⟨List.mem_range.2 h1, h2⟩, rfl⟩

end Go.Proofs.Ytfpaahkleienoaa
end
namespace Go.Proofs.Ytfpaahkleienoaa
open Go.RowKit
set_option linter.unusedSimpArgs false
set_option linter.unusedVariables false


theorem any_listB {g : Nat → Bool} {R : Nat} {pd : Int → Bool} : (listB ((List.range R).map g)).any pd = (List.range R).any fun s => g s && pd (s : Int) := by
  rw [listB_range, List.any_map, List.any_filter]
  rfl
theorem roE {A B C : Asn} {w : World} (h : (Asn.ro [A, B, C]).ok w) : A.ok w ∧ B.ok w ∧ C.ok w := ⟨h _ (by simp), h _ (by simp), h _ (by simp)⟩
theorem roI {A B C : Asn} {w : World} (h1 : A.ok w) (h2 : B.ok w) (h3 : C.ok w) : (Asn.ro [A, B, C]).ok w := by
  intro D hD
  simp only [List.mem_cons, List.not_mem_nil, or_false] at hD
  rcases hD with rfl | rfl | rfl
  · exact h1
  · exact h2
  · exact h3
/-- No colour of a register that clashes. -/
theorem cells_no {c : List Ins} {cl row : List Int} {f : Nat → Nat → Bool} {R r : Nat} (hrow : row = listB ((List.range R).map fun b => clTo c f c.length r b)) (h : ¬ 0 ≤ nth cl r ∨ (row.any fun q => decide (nth cl q.toNat = nth cl r)) = false) : ∀ s, s < R → cellB c cl f r s = false := by
  intro s hs
  rcases h with h | h
  · exact cellB_f (.inl h)
  · rw [hrow, any_listB, List.any_eq_false] at h
    have h2 := h s (List.mem_range.2 hs)
    cases hc : clTo c f c.length r s
    · exact cellB_f (.inr (.inl hc))
    · rw [hc, Bool.true_and] at h2
      exact cellB_f (.inr (.inr (by simpa using h2)))
theorem cells_yes {c : List Ins} {cl row : List Int} {f : Nat → Nat → Bool} {R r : Nat} (hrow : row = listB ((List.range R).map fun b => clTo c f c.length r b)) (h0 : 0 ≤ nth cl r) (h : (row.any fun q => decide (nth cl q.toNat = nth cl r)) = true) : rowB c cl f R r = false := by
  rw [hrow, any_listB, List.any_eq_true] at h
  obtain ⟨s, hs, h⟩ := h
  simp only [Bool.and_eq_true, decide_eq_true_eq] at h
  exact rowB_f2 (List.mem_range.1 hs) (cellB_t h0 h.1 (by simpa using h.2))
theorem range_no {cl : List Int} {R : Nat} (hl : cl.length = R) (h : (cl.any fun x => decide (x < -1) || decide (6 ≤ x)) = false) : ∀ r, r < R → -1 ≤ nth cl r ∧ nth cl r < 6 := by
  intro r hr
  rw [List.any_eq_false] at h
  have := h (nth cl r) (nth_mem _ _ (by omega))
  simp at this
  omega
theorem range_yes {c : List Ins} {cl : List Int} {f : Nat → Nat → Bool} {R : Nat} (h : (cl.any fun x => decide (x < -1) || decide (6 ≤ x)) = true) : thB c cl f R = false := by
  by_cases hl : cl.length = R
  · obtain ⟨x, hx, h⟩ := List.any_eq_true.1 h
    obtain ⟨i, hi, rfl⟩ := List.mem_iff_getElem.1 hx
    simp only [Bool.or_eq_true, decide_eq_true_eq] at h
    refine thB_f2 (r := i) (by omega) (rowB_f1 ?_)
    rw [nth_lt _ _ hi]
    omega
  · exact thB_f1 hl
theorem listB_in {f : Nat → Bool} {m i : Nat} (hi : i < (listB ((List.range m).map f)).length) : 0 ≤ nth (listB ((List.range m).map f)) i ∧ nth (listB ((List.range m).map f)) i < (m : Int) := by
  obtain ⟨b, e, hb, _⟩ := listB_mem.1 (nth_mem _ _ hi)
  rw [e]; omega

set_option maxRecDepth 10000 in
set_option maxHeartbeats 1000000 in
theorem indexP_c (x : Ls Int) (bf : FuncId) (us ws : List Value) (Env : Asn) (pd : Int → Bool) (W : World) (hx : x.At W) (hbd : bodyI Try.prog bf = true) (hEf : ∀ b, ¬ Env.fp b) (hEo : Env.ok W) (hpd : ∀ (w : World) (i : Nat), Env.ok w → i < x.l.length → Rets Try.prog bf (us ++ [.int .i64 (nth x.l i)] ++ ws) w (fun v w' => v = .bool (pd (nth x.l i)) ∧ Sh0 w w' [])) :
    Rets Try.prog 141 [x.v, .func (.func bf) us.toArray ws.toArray] W (fun v w' => ∃ r : Int, v = .int .i64 r ∧ (0 ≤ r ↔ (x.l.any pd) = true) ∧ Sh0 W w' []) := by
 refine x_enter (N := 19) Try.func141 rfl Try.ntmps141 (Nat.le_of_ble_eq_true rfl) fun a1 hf1 => ?_
 have h1 : St 19 (fun _ => False) W a1 W [(0, x.v), (1, .func (.func bf) us.toArray ws.toArray)] [.at_ x, Env] := ⟨hf1.sub ⟨rfl, rfl, trivial⟩, Sh0.ext (by intro A hA; simp only [List.mem_cons, List.not_mem_nil, or_false] at hA; rcases hA with rfl | rfl; exact hx; exact hEo) (by intro A hA b hb; simp only [List.mem_cons, List.not_mem_nil, or_false] at hA; rcases hA with rfl | rfl; exact hb; exact hEf b hb)⟩
 clear hf1
 refine wp_seq_k fun K2 hK2 => wp_region_lit <| wms 1 h1 rfl fun a3 h3 => wpList_nil <| hK2 _ _ <| wp_seq_k fun K4 hK4 => wp_seq_k fun K5 hK5 => wp_region_lit <| wms 1 h3 rfl fun a6 h6 => ?_; clear h1 h3
 have hl7 : x.l.length ≤ 140737488355328 := (h6.sh.at 0 rfl).len
 refine wv h6 (r_len (s := x) (n := x.l.length) sl_23 rfl rfl (fun w h => (h.at 0 rfl)) rfl) rfl rfl fun a8 h8 => wms 1 h8 rfl fun a9 h9 => wpList_nil <| hK5 _ _ <| wp_block <| x_loop (fun m a w => ∃ (k : Nat), (k ≤ x.l.length) ∧ (((x.l.take k).any pd) = false) ∧ St 19 (fun _ => False) W a w [(0, x.v), (1, .func (.func bf) us.toArray ws.toArray), (7, .int .i64 ((x.l.length : Nat) : Int)), (8, .int .i64 ((k : Nat) : Int))] [.at_ x, Env] ∧ m = x.l.length - k) ⟨_, 0, (by omega), (by simp), h9.nrm ⟨rfl, rfl, rfl, rfl, trivial⟩ [0, 1] (by decide) ⟨rfl, rfl, trivial⟩, rfl⟩ ?_; clear h6 h8
 clear h9
 rintro m10 a10 w10 ⟨k, hk, hno, h10, hm10⟩
 refine wp_seq_k fun K11 hK11 => wp_region_lit <| wv h10 (r_lssN (p := k) (q := x.l.length) rfl rfl rfl) rfl rfl fun a12 h12 => wpList_nil <| hK11 _ _ <| wp_seq_k fun K13 hK13 => x_cond h12 rfl (fun hb14 => ?_) (fun hb14 => ?_); clear h10
 ·have hp14 : k < x.l.length := of_decide_eq_true hb14
  refine wp_skip <| hK13 _ _ <| wp_seq_k fun K15 hK15 => wp_block <| wp_seq_k fun K16 hK16 => wp_region_lit <| wms 2 h12 rfl fun a17 h17 => wpList_nil <| hK16 _ _ <| wp_seq_k fun K18 hK18 => wp_region_lit <| wms 3 h17 rfl fun a19 h19 => wv h19 (r_ixN (s := x) (q := k) sl_23 ti_3 rfl rfl rfl (fun w h => (h.at 0 rfl)) (show k < x.l.length from (by omega))) rfl rfl fun a20 h20 => wv h20 (r_lde (s := x) (i := k) (v := .int .i64 (nth x.l k)) ti_3 rfl rfl rfl (fun w h => (h.at 0 rfl)) (show k < x.l.length from (by omega)) (Nat.le_of_ble_eq_true rfl) rfl) rfl rfl fun a21 h21 => ?_; clear h12 h17 h19 h20
  refine wl_ex (x_call h21 hbd rfl rfl rfl rfl rfl (hpd _ k (h21.sh.ok Env (List.mem_of_getElem? (i := 1) rfl)) (by omega))) (wanted_none rfl _) ?_
  rintro a22 w22 ⟨_, ⟨rfl, hs22⟩, hf22⟩
  have h22 : St 19 (fun _ => False) W a22 w22 _ _ := ⟨hf22, h21.sh.call0 hs22⟩
  clear hf22 hs22
  clear h21
  refine wpList_nil <| hK18 _ _ <| x_cond h22 rfl (fun hb23 => ?_) (fun hb23 => ?_)
  ·skip
   refine wp_seq_k fun K24 hK24 => wp_region_lit <| wms 2 h22 rfl fun a25 h25 => wpList_nil <| hK24 _ _ <| wp_ret ?_; clear h22
   try simp only [Exit.then, Exit.inBlock]
   refine x_ret1 (fn := Try.f141) (t := 4) rfl h25 rfl <| ⟨_, rfl, ?_, (h25.sh.sel [] (by decide) trivial)⟩
   first | (refine ⟨fun _ => List.any_eq_true.2 ⟨_, nth_mem x.l k (by omega), by assumption⟩, fun _ => by omega⟩) | (rw [List.take_of_length_le (by omega)] at hno; rw [hno]; constructor <;> intro h9 <;> first | omega | cases h9)
  refine wp_skip <| hK15 _ _ <| wp_region_lit <| wv h22 (r_addN (p := k) (q := 1) rfl rfl rfl (show k + 1 < 9223372036854775808 from (by omega))) rfl rfl fun a26 h26 => wms 1 h26 rfl fun a27 h27 => wpList_nil <| x_again ⟨_, ?_, k + 1, ?_, ?_, h27.nrm ⟨rfl, rfl, rfl, rfl, trivial⟩ [0, 1] (by decide) ⟨rfl, rfl, trivial⟩, rfl⟩; clear h22 h26
  · rw [hm10]; first | omega | (simp only [lens9]; omega)
  · omega
  · rw [List.take_add_one, List.any_append, hno, List.getElem?_eq_getElem (by omega)]; have h9 := (by assumption : pd (nth x.l k) = false); rw [nth_lt _ _ (by omega)] at h9; simp [h9]
 have hp14 : ¬ (k < x.l.length) := of_decide_eq_false hb14
 refine wp_exit <| hK4 _ _ <| wp_seq_k fun K28 hK28 => wp_region_lit <| wms 1 h12 rfl fun a29 h29 => wpList_nil <| hK28 _ _ <| wp_ret ?_; clear h12
 try simp only [Exit.then, Exit.inBlock]
 refine x_ret1 (fn := Try.f141) (t := 4) rfl h29 rfl <| ⟨_, rfl, ?_, (h29.sh.sel [] (by decide) trivial)⟩
 first | (refine ⟨fun _ => List.any_eq_true.2 ⟨_, nth_mem x.l k (by omega), by assumption⟩, fun _ => by omega⟩) | (rw [List.take_of_length_le (by omega)] at hno; rw [hno]; constructor <;> intro h9 <;> first | omega | cases h9)

set_option maxRecDepth 10000 in
set_option maxHeartbeats 1000000 in
theorem containsP_c (x : Ls Int) (bf : FuncId) (us ws : List Value) (Env : Asn) (pd : Int → Bool) (W : World) (hx : x.At W) (hbd : bodyI Try.prog bf = true) (hEf : ∀ b, ¬ Env.fp b) (hEo : Env.ok W) (hpd : ∀ (w : World) (i : Nat), Env.ok w → i < x.l.length → Rets Try.prog bf (us ++ [.int .i64 (nth x.l i)] ++ ws) w (fun v w' => v = .bool (pd (nth x.l i)) ∧ Sh0 w w' [])) :
    Rets Try.prog 102 [x.v, .func (.func bf) us.toArray ws.toArray] W (fun v w' => v = .bool (x.l.any pd) ∧ Sh0 W w' []) := by
 refine x_enter (N := 9) Try.func102 rfl Try.ntmps102 (Nat.le_of_ble_eq_true rfl) fun a1 hf1 => ?_
 have h1 : St 9 (fun _ => False) W a1 W [(0, x.v), (1, .func (.func bf) us.toArray ws.toArray)] [.at_ x, Env] := ⟨hf1.sub ⟨rfl, rfl, trivial⟩, Sh0.ext (by intro A hA; simp only [List.mem_cons, List.not_mem_nil, or_false] at hA; rcases hA with rfl | rfl; exact hx; exact hEo) (by intro A hA b hb; simp only [List.mem_cons, List.not_mem_nil, or_false] at hA; rcases hA with rfl | rfl; exact hb; exact hEf b hb)⟩
 clear hf1
 refine wp_seq_k fun K2 hK2 => wp_region_lit <| wms 1 h1 rfl fun a3 h3 => wpList_nil <| hK2 _ _ <| wp_seq_k fun K4 hK4 => wp_region_lit <| wms 2 h3 rfl fun a5 h5 => wl_ex (x_call h5 bd_141 rfl rfl rfl rfl rfl (indexP_c x bf us ws Env pd _ (h5.sh.at 0 rfl) hbd hEf (h5.sh.ok Env (List.mem_of_getElem? (i := 1) rfl)) hpd)) (wanted_none rfl _) ?_; clear h1 h3
 rintro a6 w6 ⟨_, ⟨r6, rfl, hr6, hs6⟩, hf6⟩
 have h6 : St 9 (fun _ => False) W a6 w6 _ _ := ⟨hf6, h5.sh.call0 hs6⟩
 clear hf6 hs6
 clear h5
 refine wv h6 (r_geqI (p := r6) (q := 0) rfl rfl rfl) rfl rfl fun a7 h7 => wms 1 h7 rfl fun a8 h8 => wpList_nil <| hK4 _ _ <| wp_ret ?_; clear h6 h7
 try simp only [Exit.then, Exit.inBlock]
 refine x_ret1 (fn := Try.f102) (t := 4) rfl h8 rfl <| ⟨?_, (h8.sh.sel [] (by decide) trivial)⟩
 congr 1
 rw [Bool.eq_iff_iff, decide_eq_true_eq]
 exact hr6

set_option maxRecDepth 100000 in
set_option maxHeartbeats 1000000 in
theorem is1_c (x : Int) (W : World) :
    Rets Try.prog 103 [.int .i64 x] W (fun v w' => v = .bool (decide (x < -1) || decide (6 ≤ x)) ∧ Sh0 W w' []) := by
 refine x_enter (N := 9) Try.func103 rfl Try.ntmps103 (Nat.le_of_ble_eq_true rfl) fun a1 hf1 => ?_
 have h1 : St 9 (fun _ => False) W a1 W [(0, .int .i64 x)] [] := ⟨hf1.sub ⟨rfl, trivial⟩, Sh0.start _⟩
 clear hf1
 refine wp_seq_k fun K2 hK2 => wp_region_lit <| wms 1 h1 rfl fun a3 h3 => wpList_nil <| hK2 _ _ <| wp_seq_k fun K4 hK4 => wp_region_lit <| wms 1 h3 rfl fun a5 h5 => wv h5 (r_lssI (p := x) (q := (-1)) rfl rfl rfl) rfl rfl fun a6 h6 => wms 1 h6 rfl fun a7 h7 => ?_; clear h1 h3 h5 h6
 rcases Bool.eq_false_or_eq_true (decide (x < (-1))) with hb8 | hb8
 ·have hp8 : x < (-1) := of_decide_eq_true hb8
  refine wl_skip h7 (wanted_no h7.fr rfl rfl rfl rfl hb8) rfl rfl fun a9 h9 => wl_skip h9 (wanted_no h9.fr rfl rfl rfl rfl hb8) rfl rfl fun a10 h10 => wv h10 (r_pickT rfl rfl hb8 rfl) rfl rfl fun a11 h11 => wms 1 h11 rfl fun a12 h12 => wpList_nil <| hK4 _ _ <| wp_ret ?_; clear h7 h9 h10 h11
  try simp only [Exit.then, Exit.inBlock]
  refine x_ret1 (fn := Try.f103) (t := 2) rfl h12 rfl <| ⟨?_, (h12.sh.sel [] (by decide) trivial)⟩
  congr 1
  first | (rw [decide_eq_true (by assumption : x < -1)]; rfl) | (rw [decide_eq_false (by omega : ¬ x < -1)]; rfl)
 have hp8 : ¬ (x < (-1)) := of_decide_eq_false hb8
 refine wl_val h7 (r_move rfl rfl) (wanted_yes h7.fr rfl rfl rfl rfl hb8) rfl rfl fun a13 h13 => wl_val h13 (r_geqI (p := x) (q := 6) rfl rfl rfl) (wanted_yes h13.fr rfl rfl rfl rfl hb8) rfl rfl fun a14 h14 => wv h14 (r_pickF rfl rfl hb8 rfl) rfl rfl fun a15 h15 => wms 1 h15 rfl fun a16 h16 => wpList_nil <| hK4 _ _ <| wp_ret ?_; clear h7 h13 h14 h15
 try simp only [Exit.then, Exit.inBlock]
 refine x_ret1 (fn := Try.f103) (t := 2) rfl h16 rfl <| ⟨?_, (h16.sh.sel [] (by decide) trivial)⟩
 congr 1
 first | (rw [decide_eq_true (by assumption : x < -1)]; rfl) | (rw [decide_eq_false (by omega : ¬ x < -1)]; rfl)

set_option maxRecDepth 100000 in
set_option maxHeartbeats 1000000 in
theorem is2_c (x : Int) (b1 b2 : Nat) (cl : Ls Int) (c : Int) (W : World) (h1 : Blk W b1 23 #[cl.v]) (h2 : Blk W b2 3 #[.int .i64 c]) (h3 : cl.At W) (hx : 0 ≤ x ∧ x < (cl.l.length : Int)) :
    Rets Try.prog 104 [.int .i64 x, .pointer (some ⟨b1, 0, none⟩), .pointer (some ⟨b2, 0, none⟩)] W (fun v w' => v = .bool (decide (nth cl.l x.toNat = c)) ∧ Sh0 W w' []) := by
 refine x_enter (N := 11) Try.func104 rfl Try.ntmps104 (Nat.le_of_ble_eq_true rfl) fun a1 hf1 => ?_
 have h1 : St 11 (fun _ => False) W a1 W [(0, .int .i64 x), (1, .pointer (some ⟨b1, 0, none⟩)), (2, .pointer (some ⟨b2, 0, none⟩))] [.rblk b1 23 [cl.v], .rblk b2 3 [.int .i64 c], .at_ cl] := ⟨hf1.sub ⟨rfl, rfl, rfl, trivial⟩, Sh0.ext (by intro A hA; simp only [List.mem_cons, List.not_mem_nil, or_false] at hA; rcases hA with rfl | rfl | rfl; exact h1; exact h2; exact h3) (by intro A hA b hb; simp only [List.mem_cons, List.not_mem_nil, or_false] at hA; rcases hA with rfl | rfl | rfl <;> exact hb)⟩
 clear hf1
 refine wp_seq_k fun K2 hK2 => wp_region_lit <| wms 1 h1 rfl fun a3 h3 => wpList_nil <| hK2 _ _ <| wp_seq_k fun K4 hK4 => x_quiet (by kernel_rfl) (by kernel_rfl) h3 fun Z5 hZ5 => ?_; clear h1
 have hq5 := h3.fr
 refine wq_val hq5 (r_ldbR ti_23 rfl rfl (fun w h => h.rblk 0 rfl) rfl) (wanted_none rfl _) rfl rfl fun a6 hq6 => wq_val hq6 (r_move rfl rfl) (wanted_none rfl _) rfl rfl fun a7 hq7 => ?_; clear hq5 hq6
 have hl8 : cl.l.length ≤ 140737488355328 := (h3.sh.at 2 rfl).len
 refine wq_val hq7 (r_ixI (s := cl) (q := x) sl_23 ti_3 rfl rfl rfl (fun w h => (h.at 2 rfl)) (show 0 ≤ x ∧ x < cl.l.length from (by omega))) (wanted_none rfl _) rfl rfl fun a9 hq9 => wq_val hq9 (r_lde (s := cl) (i := x.toNat) (v := .int .i64 (nth cl.l x.toNat)) ti_3 rfl rfl rfl (fun w h => (h.at 2 rfl)) (show x.toNat < cl.l.length from (by omega)) (Nat.le_of_ble_eq_true rfl) rfl) (wanted_none rfl _) rfl rfl fun a10 hq10 => wq_val hq10 (r_ldbR ti_3 rfl rfl (fun w h => h.rblk 1 rfl) rfl) (wanted_none rfl _) rfl rfl fun a11 hq11 => wq_val hq11 (r_eqlI (p := nth cl.l x.toNat) (q := c) rfl rfl rfl) (wanted_none rfl _) rfl rfl fun a12 hq12 => wq_val hq12 (r_assign rfl rfl) (wanted_none rfl _) rfl rfl fun a13 hq13 => wpQuiet_nil (hZ5 _ fun w14 hw14 => ?_); clear hq7 hq9 hq10 hq11 hq12
 have h14 : St 11 (fun _ => False) W a13 w14 _ _ := ⟨hq13, hw14⟩
 clear hq13 hw14 h3
 refine hK4 _ _ <| wp_ret ?_
 try simp only [Exit.then, Exit.inBlock]
 refine x_ret1 (fn := Try.f104) (t := 4) rfl h14 rfl ?_
 exact ⟨rfl, (h14.sh.sel [] (by decide) trivial)⟩

set_option maxRecDepth 100000 in
set_option maxHeartbeats 8000000 in
theorem is_c (code : Ls (Ls Ins)) (words : Ls Int) (locks regs : Int) (cols : Ls (Ls Int)) (f : Nat → Nat → Nat → Bool) (W : World) (hcode : code.At W) (hwords : words.At W) (hcols : cols.At W) (hok : OkPg (pgOf code words locks regs)) (hF : ∀ t, t < code.l.length → ∀ r j, (f t r j = true ↔ LiveI (nth code.l t).l r j)) :
    Rets Try.prog 54 [.agg #[code.v, words.v, .int .i64 locks, .int .i64 regs], cols.v] W (fun v w' => v = .bool (colsB code.l cols.l f regs.toNat) ∧ Sh0 W w' []) := by
 have hz := checkG_ok hok
 obtain ⟨hl1, hl2, hl3, hl4', hl5, hl6, hl7⟩ := ok_len hok
 have hrg := hok.regs
 have hrg1 : (pgOf code words locks regs).regs = regs := rfl
 rw [hrg1] at hrg
 refine x_enter (N := 60) Try.func54 rfl Try.ntmps54 (Nat.le_of_ble_eq_true rfl) fun a1 hf1 => ?_
 have h1 : St 60 (fun _ => False) W a1 W [(0, .agg #[code.v, words.v, .int .i64 locks, .int .i64 regs]), (1, cols.v)] [.at_ code, .at_ words, .at_ cols] := ⟨hf1.sub ⟨rfl, rfl, trivial⟩, Sh0.ext3 hcode hwords hcols⟩
 clear hf1
 refine wp_seq_k fun K2 hK2 => wp_region_lit <| wl_ex (x_box (cs := [code.v, words.v, .int .i64 locks, .int .i64 regs]) h1 rfl rfl rfl rfl rfl) (wanted_none rfl _) ?_
 rintro a3 w3 ⟨b3, h3⟩; clear h1
 refine wms 1 h3 rfl fun a4 h4 => wpList_nil <| hK2 _ _ <| wp_seq_k fun K5 hK5 => wp_region_lit <| wv h4 (r_ldbw (i := 0) (vs := [code.v, words.v, .int .i64 locks, .int .i64 regs]) ti_25 rfl rfl rfl rfl rfl) rfl rfl fun a6 h6 => wl_ex (x_call h6 bd_83 rfl rfl rfl rfl rfl (clash_k code words locks regs f _ (h6.sh.at 1 rfl) (h6.sh.at 2 rfl) hok hF)) (wanted_none rfl _) ?_; clear h3 h4
 rintro a7 w7 ⟨_, ⟨s7, rfl, hcl, hs7⟩, hf7⟩
 have h7 := (⟨hf7, h6.sh.call hs7 (by intro A hA b hb; first | (simp at hA; done) | (simp at hA; subst hA; first | exact Flat.noRd hb | exact (hb : False).elim) | (simp at hA; rcases hA with rfl | rfl <;> first | exact Flat.noRd hb | exact (hb : False).elim))⟩ : St 60 (fun _ => False) W a7 w7 _ _)
 clear hf7 hs7
 clear h6
 refine wms 1 h7 rfl fun a8 h8 => wv h8 (r_extract rfl rfl rfl) rfl rfl fun a9 h9 => wv h9 (r_extract rfl rfl rfl) rfl rfl fun a10 h10 => wl_ex (x_alloc h10 ti_28 rfl rfl rfl) (wanted_none rfl _) ?_; clear h7 h8 h9
 rintro a11 w11 ⟨b11, h11⟩; clear h10
 refine wms 1 h11 rfl fun a12 h12 => wl_ex (x_stb (i := 0) (vs := [.int .i64 0, .int .i64 0, .int .i64 0]) (cs' := [.int .i64 0, .int .i64 0, .int .i64 0]) h12 ti_28 rfl rfl rfl rfl rfl rfl rfl (allOne_cons rfl (allOne_cons rfl (allOne_cons rfl allOne_nil))) (Nat.le_of_ble_eq_true rfl) rfl) (wanted_none rfl _) ?_; clear h11
 rintro a13 w13 h13
 clear h12
 refine wpList_nil <| hK5 _ _ ?_
 obtain ⟨hcl1, hcv⟩ := rowsV hcl
 refine wp_seq_k fun K14 hK14 => wp_seq_k fun K15 hK15 => wp_region_lit <| wms 1 h13 rfl fun a16 h16 => ?_; clear h13
 have hl17 : cols.l.length ≤ 140737488355328 := (h16.sh.at 5 rfl).len
 refine wv h16 (r_len (s := cols) (n := cols.l.length) sl_35 rfl rfl (fun w h => (h.at 5 rfl)) rfl) rfl rfl fun a18 h18 => wv h18 (r_fieldB (r := 0) fl_25_0 rfl rfl rfl) rfl rfl fun a19 h19 => wv h19 (r_ldb (i := 2) ti_22 rfl rfl rfl rfl) rfl rfl fun a20 h20 => ?_; clear h16 h18 h19
 have hl21 : code.l.length ≤ 140737488355328 := (h20.sh.at 3 rfl).len
 refine wv h20 (r_len (s := code) (n := code.l.length) sl_22 rfl rfl (fun w h => (h.at 3 rfl)) rfl) rfl rfl fun a22 h22 => wv h22 (r_neqN (p := cols.l.length) (q := code.l.length) rfl rfl rfl) rfl rfl fun a23 h23 => wpList_nil <| hK15 _ _ <| x_cond h23 rfl (fun hb24 => ?_) (fun hb24 => ?_); clear h20 h22
 ·have hp24 : cols.l.length ≠ code.l.length := of_decide_eq_true hb24
  refine wp_seq_k fun K25 hK25 => wp_region_lit <| wms 1 h23 rfl fun a26 h26 => wpList_nil <| hK25 _ _ <| wp_ret ?_; clear h23
  try simp only [Exit.then, Exit.inBlock]
  refine x_ret1 (fn := Try.f54) (t := 4) rfl h26 rfl <| ⟨?_, (h26.sh.sel [] (by decide) trivial)⟩
  congr 1
  first | exact (colsB_t (by omega) fun j hj => hall j (by omega)).symm | exact (colsB_f1 (by omega)).symm | exact (colsB_f2 (t := t) (by omega) (thB_f1 (by omega))).symm | exact (colsB_f2 (t := t) (by omega) (range_yes (by assumption))).symm | exact (colsB_f2 (t := t) (by omega) (thB_f2 (r := r) (by omega) (cells_yes heq (by assumption) (by assumption)))).symm
 have hp24 : ¬ (cols.l.length ≠ code.l.length) := of_decide_eq_false hb24
 refine wp_skip <| hK14 _ _ <| wp_seq_k fun K27 hK27 => wp_seq_k fun K28 hK28 => wp_region_lit <| wms 1 h23 rfl fun a29 h29 => wv h29 (r_len (s := cols) (n := cols.l.length) sl_35 rfl rfl (fun w h => (h.at 5 rfl)) rfl) rfl rfl fun a30 h30 => wms 1 h30 rfl fun a31 h31 => wpList_nil <| hK28 _ _ <| wp_block <| x_loop (fun m a w => ∃ (t : Nat), (t ≤ cols.l.length) ∧ (∀ j, j < t → thB (nth code.l j).l (nth cols.l j).l (f j) regs.toNat = true) ∧ St 60 (fun _ => False) W a w [(2, .pointer (some ⟨b3, 0, none⟩)), (5, s7.v), (22, cols.v), (23, .int .i64 ((cols.l.length : Nat) : Int)), (24, .int .i64 ((t : Nat) : Int))] [.blk b11 28 [.int .i64 0, .int .i64 0, .int .i64 0], .deep 35 s7, .blk b3 25 [code.v, words.v, .int .i64 locks, .int .i64 regs], .at_ code, .at_ words, .at_ cols] ∧ m = cols.l.length - t) ⟨_, 0, (by omega), (fun j hj => absurd hj (by omega)), h31.nrm ⟨rfl, rfl, rfl, rfl, rfl, trivial⟩ [0, 1, 2, 3, 4, 5] (by decide) ⟨rfl, rfl, rfl, rfl, rfl, rfl, trivial⟩, rfl⟩ ?_; clear h23 h29 h30
 clear h31
 rintro m32 a32 w32 ⟨t, ht, hall, h32, hm32⟩
 refine wp_seq_k fun K33 hK33 => wp_region_lit <| wv h32 (r_lssN (p := t) (q := cols.l.length) rfl rfl rfl) rfl rfl fun a34 h34 => wpList_nil <| hK33 _ _ <| wp_seq_k fun K35 hK35 => x_cond h34 rfl (fun hb36 => ?_) (fun hb36 => ?_); clear h32
 ·have hp36 : t < cols.l.length := of_decide_eq_true hb36
  refine wp_skip <| hK35 _ _ <| wp_seq_k fun K37 hK37 => wp_block <| wp_seq_k fun K38 hK38 => wp_region_lit <| wms 1 h34 rfl fun a39 h39 => wv h39 (r_ixN (s := cols) (q := t) sl_35 ti_23 rfl rfl rfl (fun w h => (h.at 5 rfl)) (show t < cols.l.length from (by omega))) rfl rfl fun a40 h40 => wv h40 (r_lde (s := cols) (i := t) (v := (nth cols.l t).v) ti_23 rfl rfl rfl (fun w h => (h.at 5 rfl)) (show t < cols.l.length from (by omega)) (Nat.le_of_ble_eq_true rfl) rfl) rfl rfl fun a41 h41 => wl_ex (x_alloc h41 ti_23 rfl rfl rfl) (wanted_none rfl _) ?_; clear h34 h39 h40
  rintro a42 w42 ⟨b42, h42⟩; clear h41
  refine wms 1 h42 rfl fun a43 h43 => wl_ex (x_stb (i := 0) (vs := [(nth cols.l t).v]) (cs' := [(nth cols.l t).v]) h43 ti_23 rfl rfl rfl rfl rfl (cells_oneL (((h43.sh.at 6 rfl).nth t (show t < cols.l.length from (by omega)))).one) rfl (allOne_cons (((h43.sh.at 6 rfl).nth t (show t < cols.l.length from (by omega)))).one allOne_nil) (Nat.le_of_ble_eq_true rfl) rfl) (wanted_none rfl _) ?_; clear h42
  rintro a44 w44 h44
  clear h43
  refine wpList_nil <| hK38 _ _ ?_
  obtain ⟨hl4, hjt⟩ := ok_thread hok t (by omega)
  refine wp_seq_k fun K45 hK45 => wp_seq_k fun K46 hK46 => wp_region_lit <| wv h44 (r_ldb (i := 0) ti_23 rfl rfl rfl rfl) rfl rfl fun a47 h47 => ?_; clear h44
  have hl48 : ((nth cols.l t).l).length ≤ 140737488355328 := ((h47.sh.at 6 rfl).nth t (show t < cols.l.length from (by omega))).len
  refine wv h47 (r_len (s := nth cols.l t) (n := ((nth cols.l t).l).length) sl_23 rfl rfl (fun w h => ((h.at 6 rfl).nth t (show t < cols.l.length from (by omega)))) rfl) rfl rfl fun a49 h49 => wv h49 (r_fieldB (r := 3) fl_25_3 rfl rfl rfl) rfl rfl fun a50 h50 => wv h50 (r_ldb (i := 3) ti_3 rfl rfl rfl rfl) rfl rfl fun a51 h51 => wv h51 (r_neqI (p := ((((nth cols.l t).l).length : Nat) : Int)) (q := regs) rfl rfl rfl) rfl rfl fun a52 h52 => wms 1 h52 rfl fun a53 h53 => ?_; clear h47 h49 h50 h51 h52
  rcases Bool.eq_false_or_eq_true (decide (((((nth cols.l t).l).length : Nat) : Int) ≠ regs)) with hb54 | hb54
  ·have hp54 : ((((nth cols.l t).l).length : Nat) : Int) ≠ regs := of_decide_eq_true hb54
   refine wl_skip h53 (wanted_no h53.fr rfl rfl rfl rfl hb54) rfl rfl fun a55 h55 => wl_skip h55 (wanted_no h55.fr rfl rfl rfl rfl hb54) rfl rfl fun a56 h56 => wv h56 (r_pickT rfl rfl hb54 rfl) rfl rfl fun a57 h57 => wpList_nil <| hK46 _ _ <| x_condT h57 rfl rfl <| wp_seq_k fun K58 hK58 => wp_region_lit <| wms 1 h57 rfl fun a59 h59 => wpList_nil <| hK58 _ _ <| wp_ret ?_; clear h53 h55 h56 h57
   try simp only [Exit.then, Exit.inBlock]
   refine x_ret1 (fn := Try.f54) (t := 4) rfl h59 rfl <| ⟨?_, (h59.sh.sel [] (by decide) trivial)⟩
   congr 1
   first | exact (colsB_t (by omega) fun j hj => hall j (by omega)).symm | exact (colsB_f1 (by omega)).symm | exact (colsB_f2 (t := t) (by omega) (thB_f1 (by omega))).symm | exact (colsB_f2 (t := t) (by omega) (range_yes (by assumption))).symm | exact (colsB_f2 (t := t) (by omega) (thB_f2 (r := r) (by omega) (cells_yes heq (by assumption) (by assumption)))).symm
  have hp54 : ¬ (((((nth cols.l t).l).length : Nat) : Int) ≠ regs) := of_decide_eq_false hb54
  refine wl_val h53 (r_ldb (i := 0) ti_23 rfl rfl rfl rfl) (wanted_yes h53.fr rfl rfl rfl rfl hb54) rfl rfl fun a60 h60 => wl_ex (x_call h60 bd_102 rfl rfl rfl rfl rfl (containsP_c (nth cols.l t) 103 [] [] (Asn.ro []) (fun x => decide (x < -1) || decide (6 ≤ x)) _ ((h60.sh.at 6 rfl).nth t (show t < cols.l.length from (by omega))) bd_103 (fun _ h => h) (fun _ h => by cases h) (fun w i _ _ => is1_c _ w))) (wanted_yes h60.fr rfl rfl rfl rfl hb54) ?_; clear h53
  rintro a61 w61 ⟨_, ⟨rfl, hs61⟩, hf61⟩
  have h61 : St 60 (fun _ => False) W a61 w61 _ _ := ⟨hf61, h60.sh.call0 hs61⟩
  clear hf61 hs61
  clear h60
  refine wv h61 (r_pickF rfl rfl hb54 rfl) rfl rfl fun a62 h62 => wpList_nil <| hK46 _ _ <| x_cond h62 rfl (fun hb63 => ?_) (fun hb63 => ?_); clear h61
  ·skip
   refine wp_seq_k fun K64 hK64 => wp_region_lit <| wms 1 h62 rfl fun a65 h65 => wpList_nil <| hK64 _ _ <| wp_ret ?_; clear h62
   try simp only [Exit.then, Exit.inBlock]
   refine x_ret1 (fn := Try.f54) (t := 4) rfl h65 rfl <| ⟨?_, (h65.sh.sel [] (by decide) trivial)⟩
   congr 1
   first | exact (colsB_t (by omega) fun j hj => hall j (by omega)).symm | exact (colsB_f1 (by omega)).symm | exact (colsB_f2 (t := t) (by omega) (thB_f1 (by omega))).symm | exact (colsB_f2 (t := t) (by omega) (range_yes (by assumption))).symm | exact (colsB_f2 (t := t) (by omega) (thB_f2 (r := r) (by omega) (cells_yes heq (by assumption) (by assumption)))).symm
  refine wp_skip <| hK45 _ _ <| wp_seq_k fun K66 hK66 => wp_region_lit <| wv h62 (r_ldb (i := 0) ti_23 rfl rfl rfl rfl) rfl rfl fun a67 h67 => wv h67 (r_len (s := nth cols.l t) (n := ((nth cols.l t).l).length) sl_23 rfl rfl (fun w h => ((h.at 6 rfl).nth t (show t < cols.l.length from (by omega)))) rfl) rfl rfl fun a68 h68 => wms 1 h68 rfl fun a69 h69 => wpList_nil <| hK66 _ _ <| wp_block ?_; clear h62 h67 h68
  have hrn := range_no (R := regs.toNat) (show (nth cols.l t).l.length = regs.toNat by omega) (by assumption)
  obtain ⟨hc1, hc2⟩ := rowsV (hcv t (by omega))
  have hov := okV_of hok t (by omega)
  refine x_loop (fun m a w => ∃ (r : Nat), (r ≤ regs.toNat) ∧ (∀ j, j < r → rowB (nth code.l t).l (nth cols.l t).l (f t) regs.toNat j = true) ∧ St 60 (fun _ => False) W a w [(2, .pointer (some ⟨b3, 0, none⟩)), (5, s7.v), (7, .int .i64 ((t : Nat) : Int)), (8, .pointer (some ⟨b42, 0, none⟩)), (22, cols.v), (23, .int .i64 ((cols.l.length : Nat) : Int)), (24, .int .i64 ((t : Nat) : Int)), (38, (nth cols.l t).v), (39, .int .i64 ((((nth cols.l t).l).length : Nat) : Int)), (40, .int .i64 ((r : Nat) : Int))] [.blk b42 23 [(nth cols.l t).v], .blk b11 28 [.int .i64 0, .int .i64 0, .int .i64 0], .deep 35 s7, .blk b3 25 [code.v, words.v, .int .i64 locks, .int .i64 regs], .at_ code, .at_ words, .at_ cols] ∧ m = regs.toNat - r) ⟨_, 0, (by omega), (fun j hj => absurd hj (by omega)), h69.nrm ⟨rfl, rfl, rfl, rfl, rfl, rfl, rfl, rfl, rfl, rfl, trivial⟩ [0, 1, 2, 3, 4, 5, 6] (by decide) ⟨rfl, rfl, rfl, rfl, rfl, rfl, rfl, trivial⟩, rfl⟩ ?_
  clear h69
  rintro m70 a70 w70 ⟨r, hr, hrow, h70, hm70⟩
  refine wp_seq_k fun K71 hK71 => wp_region_lit <| wv h70 (r_lssN (p := r) (q := ((nth cols.l t).l).length) rfl rfl rfl) rfl rfl fun a72 h72 => wpList_nil <| hK71 _ _ <| wp_seq_k fun K73 hK73 => x_cond h72 rfl (fun hb74 => ?_) (fun hb74 => ?_); clear h70
  ·have hp74 : r < ((nth cols.l t).l).length := of_decide_eq_true hb74
   refine wp_skip <| hK73 _ _ <| wp_seq_k fun K75 hK75 => wp_block <| wp_seq_k fun K76 hK76 => wp_region_lit <| wms 1 h72 rfl fun a77 h77 => wv h77 (r_ixN (s := nth cols.l t) (q := r) sl_23 ti_3 rfl rfl rfl (fun w h => ((h.at 6 rfl).nth t (show t < cols.l.length from (by omega)))) (show r < ((nth cols.l t).l).length from (by omega))) rfl rfl fun a78 h78 => wv h78 (r_lde (s := nth cols.l t) (i := r) (v := .int .i64 (nth ((nth cols.l t).l) r)) ti_3 rfl rfl rfl (fun w h => ((h.at 6 rfl).nth t (show t < cols.l.length from (by omega)))) (show r < ((nth cols.l t).l).length from (by omega)) (Nat.le_of_ble_eq_true rfl) rfl) rfl rfl fun a79 h79 => wl_ex (x_alloc h79 ti_3 rfl rfl rfl) (wanted_none rfl _) ?_; clear h72 h77 h78
   rintro a80 w80 ⟨b80, h80⟩; clear h79
   refine wms 1 h80 rfl fun a81 h81 => wl_ex (x_stb (i := 0) (vs := [.int .i64 (nth ((nth cols.l t).l) r)]) (cs' := [.int .i64 (nth ((nth cols.l t).l) r)]) h81 ti_3 rfl rfl rfl rfl rfl rfl rfl (allOne_cons rfl allOne_nil) (Nat.le_of_ble_eq_true rfl) rfl) (wanted_none rfl _) ?_; clear h80
   rintro a82 w82 h82
   clear h81
   refine wpList_nil <| hK76 _ _ ?_
   have heq : (nth (nth s7.l t).l r).l = listB ((List.range regs.toNat).map fun b => clTo (nth code.l t).l (f t) (nth code.l t).l.length r b) := by rw [hc2 r (by omega)]; exact row_clash hov (by omega) (hF t (by omega)) r
   have hin : ∀ i, i < (nth (nth s7.l t).l r).l.length → 0 ≤ nth (nth (nth s7.l t).l r).l i ∧ nth (nth (nth s7.l t).l r).l i < ((nth cols.l t).l.length : Int) := by rw [heq]; intro i hi; have h9 := listB_in hi; omega
   refine wp_seq_k fun K83 hK83 => wp_region_lit <| wv h82 (r_ldb (i := 0) ti_3 rfl rfl rfl rfl) rfl rfl fun a84 h84 => wv h84 (r_geqI (p := nth ((nth cols.l t).l) r) (q := 0) rfl rfl rfl) rfl rfl fun a85 h85 => wms 1 h85 rfl fun a86 h86 => ?_; clear h82 h84 h85
   rcases Bool.eq_false_or_eq_true (decide (0 ≤ nth ((nth cols.l t).l) r)) with hb87 | hb87
   ·have hp87 : 0 ≤ nth ((nth cols.l t).l) r := of_decide_eq_true hb87
    refine wl_val h86 (r_move rfl rfl) (wanted_yes h86.fr rfl rfl rfl rfl hb87) rfl rfl fun a88 h88 => wl_val h88 (r_move rfl rfl) (wanted_yes h88.fr rfl rfl rfl rfl hb87) rfl rfl fun a89 h89 => ?_; clear h86 h88
    have hl90 : s7.l.length ≤ 140737488355328 := (h89.sh.deep 3 rfl).len
    refine wl_val h89 (r_ixN (s := s7) (q := t) sl_131 ti_35 rfl rfl rfl (fun w h => (h.deep 3 rfl)) (show t < s7.l.length from (by omega))) (wanted_yes h89.fr rfl rfl rfl rfl hb87) rfl rfl fun a91 h91 => wl_val h91 (r_lde (s := s7) (i := t) (v := (nth s7.l t).v) ti_35 rfl rfl rfl (fun w h => (h.deep 3 rfl)) (show t < s7.l.length from (by omega)) (Nat.le_of_ble_eq_true rfl) rfl) (wanted_yes h91.fr rfl rfl rfl rfl hb87) rfl rfl fun a92 h92 => wl_val h92 (r_move rfl rfl) (wanted_yes h92.fr rfl rfl rfl rfl hb87) rfl rfl fun a93 h93 => ?_; clear h89 h91 h92
    have hl94 : ((nth s7.l t).l).length ≤ 140737488355328 := ((h93.sh.deep 3 rfl).nth t (show t < s7.l.length from (by omega))).len
    refine wl_val h93 (r_ixN (s := nth s7.l t) (q := r) sl_35 ti_23 rfl rfl rfl (fun w h => ((h.deep 3 rfl).nth t (show t < s7.l.length from (by omega)))) (show r < ((nth s7.l t).l).length from (by omega))) (wanted_yes h93.fr rfl rfl rfl rfl hb87) rfl rfl fun a95 h95 => wl_val h95 (r_lde (s := nth s7.l t) (i := r) (v := (nth ((nth s7.l t).l) r).v) ti_23 rfl rfl rfl (fun w h => ((h.deep 3 rfl).nth t (show t < s7.l.length from (by omega)))) (show r < ((nth s7.l t).l).length from (by omega)) (Nat.le_of_ble_eq_true rfl) rfl) (wanted_yes h95.fr rfl rfl rfl rfl hb87) rfl rfl fun a96 h96 => wl_val h96 (r_makeFunc rfl rfl rfl) (wanted_yes h96.fr rfl rfl rfl rfl hb87) rfl rfl fun a97 h97 => wl_ex (x_call h97 bd_102 rfl rfl rfl rfl rfl (containsP_c (nth ((nth s7.l t).l) r) 104 [] [.pointer (some ⟨b42, 0, none⟩), .pointer (some ⟨b80, 0, none⟩)] (Asn.ro [.blk b42 23 [(nth cols.l t).v], .blk b80 3 [.int .i64 (nth ((nth cols.l t).l) r)], .at_ (nth cols.l t)]) (fun q => decide (nth ((nth cols.l t).l) q.toNat = nth ((nth cols.l t).l) r)) _ (((h97.sh.deep 3 rfl).nth t (show t < s7.l.length from (by omega))).nth r (show r < ((nth s7.l t).l).length from (by omega))) bd_104 (fun _ h => h) (roI (h97.sh.ok _ (List.mem_of_getElem? (i := 1) rfl)) (h97.sh.ok _ (List.mem_of_getElem? (i := 0) rfl)) ((h97.sh.at 7 rfl).nth t (show t < cols.l.length from (by omega)))) (fun w i hw hi => is2_c _ b42 b80 (nth cols.l t) (nth ((nth cols.l t).l) r) w (roE hw).1 (roE hw).2.1 (roE hw).2.2 (hin i hi)))) (wanted_yes h97.fr rfl rfl rfl rfl hb87) ?_; clear h93 h95 h96
    rintro a98 w98 ⟨_, ⟨rfl, hs98⟩, hf98⟩
    have h98 : St 60 (fun _ => False) W a98 w98 _ _ := ⟨hf98, h97.sh.call0 hs98⟩
    clear hf98 hs98
    clear h97
    refine wv h98 (r_pickT rfl rfl hb87 rfl) rfl rfl fun a99 h99 => wpList_nil <| hK83 _ _ <| x_cond h99 rfl (fun hb100 => ?_) (fun hb100 => ?_); clear h98
    ·skip
     refine wp_seq_k fun K101 hK101 => wp_region_lit <| wms 1 h99 rfl fun a102 h102 => wpList_nil <| hK101 _ _ ?_; clear h99
     have h103 : St 60 (fun _ => False) W a102 w98 [(4, .bool false)] [.blk b80 3 [.int .i64 (nth ((nth cols.l t).l) r)], .blk b42 23 [(nth cols.l t).v], .blk b11 28 [.int .i64 0, .int .i64 0, .int .i64 0], .deep 35 s7, .blk b3 25 [code.v, words.v, .int .i64 locks, .int .i64 regs], .at_ code, .at_ words, .at_ cols] := h102.nrm ⟨rfl, trivial⟩ [0, 1, 2, 3, 4, 5, 6, 7] (by decide) ⟨rfl, rfl, rfl, rfl, rfl, rfl, rfl, rfl, trivial⟩
     clear h102
     refine wp_ret ?_
     try simp only [Exit.then, Exit.inBlock]
     refine x_ret1 (fn := Try.f54) (t := 4) rfl h103 rfl <| ⟨?_, (h103.sh.sel [] (by decide) trivial)⟩
     congr 1
     first | exact (colsB_t (by omega) fun j hj => hall j (by omega)).symm | exact (colsB_f1 (by omega)).symm | exact (colsB_f2 (t := t) (by omega) (thB_f1 (by omega))).symm | exact (colsB_f2 (t := t) (by omega) (range_yes (by assumption))).symm | exact (colsB_f2 (t := t) (by omega) (thB_f2 (r := r) (by omega) (cells_yes heq (by assumption) (by assumption)))).symm
    refine wp_skip <| hK75 _ _ <| wp_region_lit <| wv h99 (r_addN (p := r) (q := 1) rfl rfl rfl (show r + 1 < 9223372036854775808 from (by omega))) rfl rfl fun a104 h104 => wms 1 h104 rfl fun a105 h105 => wpList_nil <| x_again ⟨_, ?_, r + 1, ?_, ?_, h105.nrm ⟨rfl, rfl, rfl, rfl, rfl, rfl, rfl, rfl, rfl, rfl, trivial⟩ [1, 2, 3, 4, 5, 6, 7] (by decide) ⟨rfl, rfl, rfl, rfl, rfl, rfl, rfl, trivial⟩, rfl⟩; clear h99 h104
    · rw [hm70]; first | omega | (simp only [lens9]; omega)
    · omega
    · exact all_step hrow (rowB_t (hrn r (by omega)) (cells_no heq (by first | exact .inl (by assumption) | exact .inr (by assumption))))
   have hp87 : ¬ (0 ≤ nth ((nth cols.l t).l) r) := of_decide_eq_false hb87
   refine wl_skip h86 (wanted_no h86.fr rfl rfl rfl rfl hb87) rfl rfl fun a106 h106 => wl_skip h106 (wanted_no h106.fr rfl rfl rfl rfl hb87) rfl rfl fun a107 h107 => wl_skip h107 (wanted_no h107.fr rfl rfl rfl rfl hb87) rfl rfl fun a108 h108 => wl_skip h108 (wanted_no h108.fr rfl rfl rfl rfl hb87) rfl rfl fun a109 h109 => wl_skip h109 (wanted_no h109.fr rfl rfl rfl rfl hb87) rfl rfl fun a110 h110 => wl_skip h110 (wanted_no h110.fr rfl rfl rfl rfl hb87) rfl rfl fun a111 h111 => wl_skip h111 (wanted_no h111.fr rfl rfl rfl rfl hb87) rfl rfl fun a112 h112 => wl_skip h112 (wanted_no h112.fr rfl rfl rfl rfl hb87) rfl rfl fun a113 h113 => wl_skip h113 (wanted_no h113.fr rfl rfl rfl rfl hb87) rfl rfl fun a114 h114 => wv h114 (r_pickF rfl rfl hb87 rfl) rfl rfl fun a115 h115 => wpList_nil <| hK83 _ _ <| x_condF h115 rfl rfl <| wp_skip ?_; clear h86 h106 h107 h108 h109 h110 h111 h112 h113 h114
   refine hK75 _ _ <| wp_region_lit <| wv h115 (r_addN (p := r) (q := 1) rfl rfl rfl (show r + 1 < 9223372036854775808 from (by omega))) rfl rfl fun a116 h116 => wms 1 h116 rfl fun a117 h117 => wpList_nil <| x_again ⟨_, ?_, r + 1, ?_, ?_, h117.nrm ⟨rfl, rfl, rfl, rfl, rfl, rfl, rfl, rfl, rfl, rfl, trivial⟩ [1, 2, 3, 4, 5, 6, 7] (by decide) ⟨rfl, rfl, rfl, rfl, rfl, rfl, rfl, trivial⟩, rfl⟩; clear h115 h116
   · rw [hm70]; first | omega | (simp only [lens9]; omega)
   · omega
   · exact all_step hrow (rowB_t (hrn r (by omega)) (cells_no heq (by first | exact .inl (by assumption) | exact .inr (by assumption))))
  have hp74 : ¬ (r < ((nth cols.l t).l).length) := of_decide_eq_false hb74
  refine wp_exit <| hK37 _ _ <| wp_region_lit <| wv h72 (r_addN (p := t) (q := 1) rfl rfl rfl (show t + 1 < 9223372036854775808 from (by omega))) rfl rfl fun a118 h118 => wms 1 h118 rfl fun a119 h119 => wpList_nil <| x_again ⟨_, ?_, t + 1, ?_, ?_, h119.nrm ⟨rfl, rfl, rfl, rfl, rfl, trivial⟩ [1, 2, 3, 4, 5, 6] (by decide) ⟨rfl, rfl, rfl, rfl, rfl, rfl, trivial⟩, rfl⟩; clear h72 h118
  · rw [hm32]; first | omega | (simp only [lens9]; omega)
  · omega
  · exact all_step hall (thB_t (by omega) fun q hq => hrow q (by omega))
 have hp36 : ¬ (t < cols.l.length) := of_decide_eq_false hb36
 refine wp_exit <| hK27 _ _ <| wp_seq_k fun K120 hK120 => wp_region_lit <| wms 1 h34 rfl fun a121 h121 => wpList_nil <| hK120 _ _ <| wp_ret ?_; clear h34
 try simp only [Exit.then, Exit.inBlock]
 refine x_ret1 (fn := Try.f54) (t := 4) rfl h121 rfl <| ⟨?_, (h121.sh.sel [] (by decide) trivial)⟩
 congr 1
 first | exact (colsB_t (by omega) fun j hj => hall j (by omega)).symm | exact (colsB_f1 (by omega)).symm | exact (colsB_f2 (t := t) (by omega) (thB_f1 (by omega))).symm | exact (colsB_f2 (t := t) (by omega) (range_yes (by assumption))).symm | exact (colsB_f2 (t := t) (by omega) (thB_f2 (r := r) (by omega) (cells_yes heq (by assumption) (by assumption)))).symm

end Go.Proofs.Ytfpaahkleienoaa
