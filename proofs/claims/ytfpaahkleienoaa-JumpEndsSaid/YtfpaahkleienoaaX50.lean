/-
  Contracts of functions of this program and of the references, each walked once.
-/
import Derived.Test.YtfpaahkleienoaaS23
import Derived.Test.YtfpaahkleienoaaX32
namespace Go.Proofs.Ytfpaahkleienoaa
open Go.RowKit
set_option linter.unusedSimpArgs false
set_option linter.unusedVariables false

theorem mz_81 : MapTZ Try.prog 81 3 3 := ⟨by kernel_rfl, by kernel_rfl, fun w => by kernel_rfl⟩
/-- A register is another one from now on. -/
def wrP (r a b : Int) : Bool := decide (a = r) || decide (b = r)
def wrZ (r : Int) (l : List (Int × Int)) : List (Int × Int) := l.filter fun z => !wrP r z.1 z.2
/-- What is not the same there. -/
def inP (lo : List (Int × Int)) (a b : Int) : Bool := !(getZ a lo).isSome || decide (b ≠ (getZ a lo).getD 0)
def inZ (lo l : List (Int × Int)) : List (Int × Int) := l.filter fun z => !inP lo z.1 z.2
/-- What is the same behind an order. -/
def wrI (x : Ins) (l : List (Int × Int)) : List (Int × Int) := if 0 ≤ wrG x then wrZ (wrG x) l else l
def behZ (x : Ins) (l : List (Int × Int)) : List (Int × Int) := if x.op = 2 ∧ x.a ≠ x.b then wrI x l ++ [(x.a, x.b)] else wrI x l
theorem getZ_wr {x : Ins} {l : List (Int × Int)} (h2 : x.op = 2) (ha : 0 ≤ x.a) : getZ x.a (wrI x l) = none := by
  have hw : wrG x = x.a := by unfold wrG; rw [if_neg (by omega), if_pos (by omega)]
  unfold wrI
  rw [hw, if_pos ha, getZ_none]
  intro hm
  obtain ⟨z, hz, e⟩ := List.mem_map.1 hm
  unfold wrZ at hz
  have := (List.mem_filter.1 hz).2
  simp [wrP, e] at this

set_option maxRecDepth 100000 in
set_option maxHeartbeats 1000000 in
theorem cloneZ_c (K : Nat → Prop) (g : Nat) (l : List (Int × Int)) (W : World) (hS : Sh K W W [.mapO (some g) l]) :
    Rets Try.prog 97 [.map (some g)] W (fun v w' => ∃ g' : Nat, v = .map (some g') ∧ Sh K W w' [.mapO (some g') l, .mapO (some g) l]) := by
 refine x_enter (N := 9) Try.func97 rfl Try.ntmps97 (Nat.le_of_ble_eq_true rfl) fun a1 hf1 => ?_
 have h1 : St 9 K W a1 W [(0, .map (some g))] [.mapO (some g) l] := ⟨hf1.sub ⟨rfl, trivial⟩, hS⟩
 clear hf1
 refine wp_seq_k fun K2 hK2 => wp_region_lit ?_
 refine wms 1 h1 rfl fun a3 h3 => ?_; clear h1
 refine wpList_nil (hK2 _ _ ?_)
 refine wp_seq_k fun K4 hK4 => ?_
 refine wp_seq_k fun K5 hK5 => wp_region_lit ?_
 refine wms 1 h3 rfl fun a6 h6 => ?_; clear h3
 refine wv h6 (r_nilZ mz_81 rfl rfl rfl) rfl rfl fun a7 h7 => ?_; clear h6
 refine wpList_nil (hK5 _ _ ?_)
 refine x_condF h7 rfl rfl ?_
 refine wp_skip ?_
 refine hK4 _ _ ?_
 refine wp_seq_k fun K8 hK8 => wp_region_lit ?_
 refine wms 1 h7 rfl fun a9 h9 => ?_; clear h7
 refine wv h9 (r_mkIf mz_81 rfl rfl) rfl rfl fun a10 h10 => ?_; clear h9
 refine wl_ex (x_cloneX (i := 0) h10 Try.func140 (by kernel_rfl) (by kernel_rfl) (by kernel_rfl) (by kernel_rfl) rfl rfl rfl rfl rfl rfl) (wanted_none rfl _) ?_
 rintro a11 w11 ⟨g11, h11⟩; clear h10
 refine wv h11 (r_asrt mz_81 rfl rfl) rfl rfl fun a12 h12 => ?_; clear h11
 refine wms 1 h12 rfl fun a13 h13 => ?_; clear h12
 refine wpList_nil (hK8 _ _ ?_)
 refine wp_ret ?_
 try simp only [Exit.then, Exit.inBlock]
 refine x_ret1 (fn := Try.f97) (t := 2) rfl h13 rfl ?_
 exact ⟨_, rfl, (h13.sh.sel (L' := [.mapO (some g11) l, .mapO (some g) l]) [0, 1] (by decide) ⟨rfl, rfl, trivial⟩)⟩

set_option maxRecDepth 100000 in
set_option maxHeartbeats 1000000 in
theorem wr1_c (K : Nat → Prop) (b : Nat) (r x y : Int) (W : World) (hS : Sh K W W [.blk b 3 [.int .i64 r]]) :
    Rets Try.prog 159 [.int .i64 x, .int .i64 y, .pointer (some ⟨b, 0, none⟩)] W (fun v w' => v = .bool (wrP r x y) ∧ Sh K W w' [.blk b 3 [.int .i64 r]]) := by
 refine x_enter (N := 14) Try.func159 rfl Try.ntmps159 (Nat.le_of_ble_eq_true rfl) fun a1 hf1 => ?_
 have h1 : St 14 K W a1 W [(0, .int .i64 x), (1, .int .i64 y), (2, .pointer (some ⟨b, 0, none⟩))] [.blk b 3 [.int .i64 r]] := ⟨hf1.sub ⟨rfl, rfl, rfl, trivial⟩, hS⟩
 clear hf1
 refine wp_seq_k fun K2 hK2 => wp_region_lit ?_
 refine wms 1 h1 rfl fun a3 h3 => ?_; clear h1
 refine wpList_nil (hK2 _ _ ?_)
 refine wp_seq_k fun K4 hK4 => wp_region_lit ?_
 refine wms 1 h3 rfl fun a5 h5 => ?_; clear h3
 refine wv h5 (r_ldb (i := 0) ti_3 rfl rfl rfl rfl) rfl rfl fun a6 h6 => ?_; clear h5
 refine wv h6 (r_eqlI (p := x) (q := r) rfl rfl rfl) rfl rfl fun a7 h7 => ?_; clear h6
 refine wms 1 h7 rfl fun a8 h8 => ?_; clear h7
 rcases Bool.eq_false_or_eq_true (decide (x = r)) with hb9 | hb9
 ·
  have hp9 : x = r := of_decide_eq_true hb9
  refine wl_skip h8 (wanted_no h8.fr rfl rfl rfl rfl hb9) rfl rfl fun a10 h10 => ?_; clear h8
  refine wl_skip h10 (wanted_no h10.fr rfl rfl rfl rfl hb9) rfl rfl fun a11 h11 => ?_; clear h10
  refine wl_skip h11 (wanted_no h11.fr rfl rfl rfl rfl hb9) rfl rfl fun a12 h12 => ?_; clear h11
  refine wv h12 (r_pickT rfl rfl hb9 rfl) rfl rfl fun a13 h13 => ?_; clear h12
  refine wms 1 h13 rfl fun a14 h14 => ?_; clear h13
  refine wpList_nil (hK4 _ _ ?_)
  refine wp_ret ?_
  try simp only [Exit.then, Exit.inBlock]
  refine x_ret1 (fn := Try.f159) (t := 5) rfl h14 rfl ?_
  refine ⟨?_, (h14.sh.sel (L' := [.blk b 3 [.int .i64 r]]) [0] (by decide) ⟨rfl, trivial⟩)⟩
  congr 1
  unfold wrP
  simp_all
 have hp9 : ¬ (x = r) := of_decide_eq_false hb9
 refine wl_val h8 (r_move rfl rfl) (wanted_yes h8.fr rfl rfl rfl rfl hb9) rfl rfl fun a15 h15 => ?_; clear h8
 refine wl_val h15 (r_ldb (i := 0) ti_3 rfl rfl rfl rfl) (wanted_yes h15.fr rfl rfl rfl rfl hb9) rfl rfl fun a16 h16 => ?_; clear h15
 refine wl_val h16 (r_eqlI (p := y) (q := r) rfl rfl rfl) (wanted_yes h16.fr rfl rfl rfl rfl hb9) rfl rfl fun a17 h17 => ?_; clear h16
 refine wv h17 (r_pickF rfl rfl hb9 rfl) rfl rfl fun a18 h18 => ?_; clear h17
 refine wms 1 h18 rfl fun a19 h19 => ?_; clear h18
 refine wpList_nil (hK4 _ _ ?_)
 refine wp_ret ?_
 try simp only [Exit.then, Exit.inBlock]
 refine x_ret1 (fn := Try.f159) (t := 5) rfl h19 rfl ?_
 refine ⟨?_, (h19.sh.sel (L' := [.blk b 3 [.int .i64 r]]) [0] (by decide) ⟨rfl, trivial⟩)⟩
 congr 1
 unfold wrP
 simp_all

set_option maxRecDepth 100000 in
set_option maxHeartbeats 4000000 in
theorem delW_c (K : Nat → Prop) (g : Nat) (l : List (Int × Int)) (b : Nat) (r : Int) (W : World) (hS : Sh K W W [.mapO (some g) l, .blk b 3 [.int .i64 r]]) :
    Rets Try.prog 98 [.map (some g), .func (.func 159) #[] #[.pointer (some ⟨b, 0, none⟩)]] W (fun v w' => v = .tuple #[] ∧ Sh K W w' [.mapO (some g) (wrZ r l), .blk b 3 [.int .i64 r]]) := by
 refine x_enter (N := 19) Try.func98 rfl Try.ntmps98 (Nat.le_of_ble_eq_true rfl) fun a1 hf1 => ?_
 have h1 : St 19 K W a1 W [(0, .map (some g)), (1, .func (.func 159) #[] #[.pointer (some ⟨b, 0, none⟩)])] [.mapO (some g) l, .blk b 3 [.int .i64 r]] := ⟨hf1.sub ⟨rfl, rfl, trivial⟩, hS⟩
 clear hf1
 refine wp_seq_k fun K2 hK2 => wp_region_lit ?_
 refine wms 1 h1 rfl fun a3 h3 => ?_; clear h1
 refine wl_ex (x_rangeZ (i := 0) h3 mz_81 rfl rfl rfl rfl rfl) (wanted_none rfl _) ?_
 rintro a4 w4 ⟨r4, t4, c4, hcl4, hcb4, hck4, h4⟩; clear h3
 refine wpList_nil (hK2 _ _ ?_)
 refine wp_block ?_
 have h6 := h4.reZ (i := 0) rfl (keepZ_nil (pd := (wrP r)) (c := c4)).symm
 clear h4
 refine x_loop (fun m a w => ∃ (s : List Nat), St 19 K W a w [(0, .map (some g)), (1, .func (.func 159) #[] #[.pointer (some ⟨b, 0, none⟩)]), (7, .pointer (some ⟨r4, 0, none⟩))] [.itZ g r4 t4 (keepZ (wrP r) c4 s) s, .blk b 3 [.int .i64 r]] ∧ m = leftZ c4 s) ⟨_, [], h6.nrm ⟨rfl, rfl, rfl, trivial⟩ [0, 1] (by decide) ⟨rfl, rfl, trivial⟩, rfl⟩ ?_
 clear h6
 rintro m5 a5 w5 ⟨s, h5, hm5⟩
 refine wp_seq_k fun K7 hK7 => wp_region_lit ?_
 refine wl_ex (x_nextZ (i := 0) h5 rfl rfl rfl rfl rfl) (wanted_none rfl _) ?_
 rintro a8 w8 (⟨h8, hend8⟩ | ⟨x8, hxc8, hxs8, h8⟩)
 ·
  clear h5
  refine wv h8 (r_extract rfl rfl rfl) rfl rfl fun a9 h9 => ?_; clear h8
  refine wpList_nil (hK7 _ _ ?_)
  refine wp_seq_k fun K10 hK10 => ?_
  refine x_condF h9 rfl rfl ?_
  refine wp_exit ?_
  try simp only [Exit.then, Exit.inBlock, if_true]
  refine x_end0 (fn := Try.f98) rfl h9 ?_
  have h11 := h9.endZ (i := 0) rfl (keepZ_end hend8)
  rw [hcl4] at h11
  exact ⟨rfl, h11.sh.sel (L' := [.mapO (some g) _, .blk b 3 [.int .i64 r]]) [0, 1] (by decide) ⟨rfl, rfl, trivial⟩⟩
 clear h5
 refine wv h8 (r_extract rfl rfl rfl) rfl rfl fun a12 h12 => ?_; clear h8
 refine wpList_nil (hK7 _ _ ?_)
 refine wp_seq_k fun K13 hK13 => ?_
 refine x_condT h12 rfl rfl ?_
 refine wp_skip ?_
 refine hK13 _ _ ?_
 refine wp_block ?_
 refine wp_seq_k fun K14 hK14 => wp_region_lit ?_
 refine wv h12 (r_entryZ (i := 0) (y := x8) rfl rfl rfl (by assumption)) rfl rfl fun a15 h15 => ?_; clear h12
 refine wv h15 (r_extract rfl rfl rfl) rfl rfl fun a16 h16 => ?_; clear h15
 refine wv h16 (r_extract rfl rfl rfl) rfl rfl fun a17 h17 => ?_; clear h16
 refine wms 2 h17 rfl fun a18 h18 => ?_; clear h17
 refine wpList_nil (hK14 _ _ ?_)
 refine wp_seq_k fun K19 hK19 => wp_region_lit ?_
 refine wms 3 h18 rfl fun a20 h20 => ?_; clear h18
 have h21 := h20.sel (L' := [.blk b 3 [.int .i64 r], .itZ g r4 t4 (keepZ (wrP r) c4 s) (s ++ [x8.b])]) [1, 0] (by decide) ⟨rfl, rfl, trivial⟩
 have hp22 := h21.sh.passL (Lp := [.blk b 3 [.int .i64 r]])
 refine wl_ex (x_call h21 bd_159 rfl rfl rfl rfl rfl (wr1_c _ b r x8.k x8.v _ hp22)) (wanted_none rfl _) ?_
 rintro a23 w23 ⟨_, ⟨rfl, hs23⟩, hf23⟩
 have h23 : St 19 K W a23 w23 _ [.blk b 3 [.int .i64 r], .itZ g r4 t4 (keepZ (wrP r) c4 s) (s ++ [x8.b])] := ⟨hf23, h21.sh.backL (Lp := [.blk b 3 [.int .i64 r]]) hs23 (by intro A hA b hb; simp only [List.mem_cons, List.not_mem_nil, or_false] at hA; rcases hA with rfl <;> first | exact (hb : False).elim | exact Flat.noRd hb | exact .inl ⟨_, List.mem_cons_self .., .inr hb⟩ | exact .inl ⟨_, by simp, .inr hb⟩)⟩
 clear hf23 hs23
 clear h21
 refine wpList_nil (hK19 _ _ ?_)
 refine x_cond h23 rfl (fun hb24 => ?_) (fun hb24 => ?_)
 ·
  skip
  refine wp_region_lit ?_
  refine wms 2 h23 rfl fun a25 h25 => ?_; clear h23
  refine wl_ex (x_delZ (i := 1) (k := x8.k) h25 mz_81 rfl rfl rfl rfl rfl rfl) (wanted_none rfl _) ?_
  rintro a26 w26 h26
  clear h25
  refine wpList_nil ?_
  change ∃ _m, _m < _ ∧ _
  have h27 := h26.reZ (i := 1) rfl (keepZ_yes (s := s) hcb4 hck4 (keepZ_mem (by assumption)) (by assumption))
  clear h26
  refine ⟨_, ?_, s ++ [x8.b], h27.nrm ⟨rfl, rfl, rfl, trivial⟩ [1, 0] (by decide) ⟨rfl, rfl, trivial⟩, rfl⟩
  · rw [hm5]; exact leftZ_lt (keepZ_mem (by assumption)) (by assumption)
 refine wp_skip ?_
 change ∃ _m, _m < _ ∧ _
 have h28 := h23.reZ (i := 1) rfl (keepZ_no (s := s) hcb4 (keepZ_mem (by assumption)) (by assumption))
 clear h23
 refine ⟨_, ?_, s ++ [x8.b], h28.nrm ⟨rfl, rfl, rfl, trivial⟩ [1, 0] (by decide) ⟨rfl, rfl, trivial⟩, rfl⟩
 · rw [hm5]; exact leftZ_lt (keepZ_mem (by assumption)) (by assumption)

set_option maxRecDepth 100000 in
set_option maxHeartbeats 1000000 in
theorem write_c (K : Nat → Prop) (g : Nat) (l : List (Int × Int)) (r : Int) (W : World) (hS : Sh K W W [.mapO (some g) l]) :
    Rets Try.prog 139 [.map (some g), .int .i64 r] W (fun v w' => v = .tuple #[] ∧ Sh K W w' [.mapO (some g) (wrZ r l)]) := by
 refine x_enter (N := 7) Try.func139 rfl Try.ntmps139 (Nat.le_of_ble_eq_true rfl) fun a1 hf1 => ?_
 have h1 : St 7 K W a1 W [(0, .map (some g)), (1, .int .i64 r)] [.mapO (some g) l] := ⟨hf1.sub ⟨rfl, rfl, trivial⟩, hS⟩
 clear hf1
 refine wp_seq_k fun K2 hK2 => wp_region_lit ?_
 refine wl_ex (x_box (cs := [.int .i64 r]) h1 rfl rfl rfl rfl rfl) (wanted_none rfl _) ?_
 rintro a3 w3 ⟨b3, h3⟩; clear h1
 refine wpList_nil (hK2 _ _ ?_)
 refine wp_region_lit ?_
 refine wms 1 h3 rfl fun a4 h4 => ?_; clear h3
 refine wv h4 (r_makeFunc rfl rfl rfl) rfl rfl fun a5 h5 => ?_; clear h4
 have h6 := h5.sel (L' := [.mapO (some g) l, .blk b3 3 [.int .i64 r]]) [1, 0] (by decide) ⟨rfl, rfl, trivial⟩
 have hp7 := h6.sh.passL (Lp := [.mapO (some g) l, .blk b3 3 [.int .i64 r]])
 refine wl_ex (x_call h6 bd_98 rfl rfl rfl rfl rfl (delW_c _ g l b3 r _ hp7)) (wanted_none rfl _) ?_
 rintro a8 w8 ⟨_, ⟨rfl, hs8⟩, hf8⟩
 have h8 : St 7 K W a8 w8 _ [.mapO (some g) (wrZ r l), .blk b3 3 [.int .i64 r]] := ⟨hf8, h6.sh.backL (Lp := [.mapO (some g) l, .blk b3 3 [.int .i64 r]]) hs8 (by intro A hA b hb; simp only [List.mem_cons, List.not_mem_nil, or_false] at hA; rcases hA with rfl | rfl <;> first | exact (hb : False).elim | exact Flat.noRd hb | exact .inl ⟨_, List.mem_cons_self .., .inr hb⟩ | exact .inl ⟨_, by simp, .inr hb⟩)⟩
 clear hf8 hs8
 clear h6
 refine wpList_nil ?_
 try simp only [Exit.then, Exit.inBlock, if_true]
 refine x_end0 (fn := Try.f139) rfl h8 ?_
 exact ⟨rfl, (h8.sh.sel (L' := [.mapO (some g) (wrZ r l)]) [0] (by decide) ⟨rfl, trivial⟩)⟩

set_option maxRecDepth 100000 in
set_option maxHeartbeats 1000000 in
theorem look1_c (K : Nat → Prop) (b go : Nat) (lo : List (Int × Int)) (x y : Int) (W : World) (hS : Sh K W W [.blk b 81 [.map (some go)], .mapO (some go) lo]) :
    Rets Try.prog 99 [.int .i64 x, .int .i64 y, .pointer (some ⟨b, 0, none⟩)] W (fun v w' => v = .bool (inP lo x y) ∧ Sh K W w' [.blk b 81 [.map (some go)], .mapO (some go) lo]) := by
 refine x_enter (N := 21) Try.func99 rfl Try.ntmps99 (Nat.le_of_ble_eq_true rfl) fun a1 hf1 => ?_
 have h1 : St 21 K W a1 W [(0, .int .i64 x), (1, .int .i64 y), (2, .pointer (some ⟨b, 0, none⟩))] [.blk b 81 [.map (some go)], .mapO (some go) lo] := ⟨hf1.sub ⟨rfl, rfl, rfl, trivial⟩, hS⟩
 clear hf1
 refine wp_seq_k fun K2 hK2 => wp_region_lit ?_
 refine wms 1 h1 rfl fun a3 h3 => ?_; clear h1
 refine wpList_nil (hK2 _ _ ?_)
 refine wp_seq_k fun K4 hK4 => wp_region_lit ?_
 refine wv h3 (r_ldb (i := 0) ti_81 rfl rfl rfl rfl) rfl rfl fun a5 h5 => ?_; clear h3
 refine wms 1 h5 rfl fun a6 h6 => ?_; clear h5
 refine wv h6 (r_lookZ (i := 1) (k := x) (l := lo) mz_81 rfl rfl rfl rfl) rfl rfl fun a7 h7 => ?_; clear h6
 refine wms 1 h7 rfl fun a8 h8 => ?_; clear h7
 refine wv h8 (r_extract rfl rfl rfl) rfl rfl fun a9 h9 => ?_; clear h8
 refine wv h9 (r_extract rfl rfl rfl) rfl rfl fun a10 h10 => ?_; clear h9
 refine wms 2 h10 rfl fun a11 h11 => ?_; clear h10
 refine wpList_nil (hK4 _ _ ?_)
 refine wp_seq_k fun K12 hK12 => wp_region_lit ?_
 refine wms 1 h11 rfl fun a13 h13 => ?_; clear h11
 refine wv h13 (r_not rfl rfl) rfl rfl fun a14 h14 => ?_; clear h13
 refine wms 1 h14 rfl fun a15 h15 => ?_; clear h14
 rcases Bool.eq_false_or_eq_true (!((getZ x lo).isSome)) with hb16 | hb16
 ·
  have hn16 : (getZ x lo).isSome = false := (Bool.not_eq_true' _).mp hb16
  refine wl_skip h15 (wanted_no h15.fr rfl rfl rfl rfl hb16) rfl rfl fun a17 h17 => ?_; clear h15
  refine wl_skip h17 (wanted_no h17.fr rfl rfl rfl rfl hb16) rfl rfl fun a18 h18 => ?_; clear h17
  refine wl_skip h18 (wanted_no h18.fr rfl rfl rfl rfl hb16) rfl rfl fun a19 h19 => ?_; clear h18
  refine wv h19 (r_pickT rfl rfl hb16 rfl) rfl rfl fun a20 h20 => ?_; clear h19
  refine wms 1 h20 rfl fun a21 h21 => ?_; clear h20
  refine wpList_nil (hK12 _ _ ?_)
  refine wp_ret ?_
  try simp only [Exit.then, Exit.inBlock]
  refine x_ret1 (fn := Try.f99) (t := 5) rfl h21 rfl ?_
  refine ⟨?_, (h21.sh.sel (L' := [.blk b 81 [.map (some go)], .mapO (some go) lo]) [0, 1] (by decide) ⟨rfl, rfl, trivial⟩)⟩
  congr 1
  unfold inP
  simp_all
 have hn16 : (getZ x lo).isSome = true := (Bool.not_eq_false' _).mp hb16
 refine wl_val h15 (r_move rfl rfl) (wanted_yes h15.fr rfl rfl rfl rfl hb16) rfl rfl fun a22 h22 => ?_; clear h15
 refine wl_val h22 (r_move rfl rfl) (wanted_yes h22.fr rfl rfl rfl rfl hb16) rfl rfl fun a23 h23 => ?_; clear h22
 refine wl_val h23 (r_neqI (p := y) (q := (getZ x lo).getD 0) rfl rfl rfl) (wanted_yes h23.fr rfl rfl rfl rfl hb16) rfl rfl fun a24 h24 => ?_; clear h23
 refine wv h24 (r_pickF rfl rfl hb16 rfl) rfl rfl fun a25 h25 => ?_; clear h24
 refine wms 1 h25 rfl fun a26 h26 => ?_; clear h25
 refine wpList_nil (hK12 _ _ ?_)
 refine wp_ret ?_
 try simp only [Exit.then, Exit.inBlock]
 refine x_ret1 (fn := Try.f99) (t := 5) rfl h26 rfl ?_
 refine ⟨?_, (h26.sh.sel (L' := [.blk b 81 [.map (some go)], .mapO (some go) lo]) [0, 1] (by decide) ⟨rfl, rfl, trivial⟩)⟩
 congr 1
 unfold inP
 simp_all

set_option maxRecDepth 100000 in
set_option maxHeartbeats 4000000 in
theorem delL_c (K : Nat → Prop) (g : Nat) (l : List (Int × Int)) (b go : Nat) (lo : List (Int × Int)) (W : World) (hS : Sh K W W [.mapO (some g) l, .blk b 81 [.map (some go)], .mapO (some go) lo]) :
    Rets Try.prog 98 [.map (some g), .func (.func 99) #[] #[.pointer (some ⟨b, 0, none⟩)]] W (fun v w' => v = .tuple #[] ∧ Sh K W w' [.mapO (some g) (inZ lo l), .blk b 81 [.map (some go)], .mapO (some go) lo]) := by
 refine x_enter (N := 19) Try.func98 rfl Try.ntmps98 (Nat.le_of_ble_eq_true rfl) fun a1 hf1 => ?_
 have h1 : St 19 K W a1 W [(0, .map (some g)), (1, .func (.func 99) #[] #[.pointer (some ⟨b, 0, none⟩)])] [.mapO (some g) l, .blk b 81 [.map (some go)], .mapO (some go) lo] := ⟨hf1.sub ⟨rfl, rfl, trivial⟩, hS⟩
 clear hf1
 refine wp_seq_k fun K2 hK2 => wp_region_lit ?_
 refine wms 1 h1 rfl fun a3 h3 => ?_; clear h1
 refine wl_ex (x_rangeZ (i := 0) h3 mz_81 rfl rfl rfl rfl rfl) (wanted_none rfl _) ?_
 rintro a4 w4 ⟨r4, t4, c4, hcl4, hcb4, hck4, h4⟩; clear h3
 refine wpList_nil (hK2 _ _ ?_)
 refine wp_block ?_
 have h6 := h4.reZ (i := 0) rfl (keepZ_nil (pd := (inP lo)) (c := c4)).symm
 clear h4
 refine x_loop (fun m a w => ∃ (s : List Nat), St 19 K W a w [(0, .map (some g)), (1, .func (.func 99) #[] #[.pointer (some ⟨b, 0, none⟩)]), (7, .pointer (some ⟨r4, 0, none⟩))] [.itZ g r4 t4 (keepZ (inP lo) c4 s) s, .blk b 81 [.map (some go)], .mapO (some go) lo] ∧ m = leftZ c4 s) ⟨_, [], h6.nrm ⟨rfl, rfl, rfl, trivial⟩ [0, 1, 2] (by decide) ⟨rfl, rfl, rfl, trivial⟩, rfl⟩ ?_
 clear h6
 rintro m5 a5 w5 ⟨s, h5, hm5⟩
 refine wp_seq_k fun K7 hK7 => wp_region_lit ?_
 refine wl_ex (x_nextZ (i := 0) h5 rfl rfl rfl rfl rfl) (wanted_none rfl _) ?_
 rintro a8 w8 (⟨h8, hend8⟩ | ⟨x8, hxc8, hxs8, h8⟩)
 ·
  clear h5
  refine wv h8 (r_extract rfl rfl rfl) rfl rfl fun a9 h9 => ?_; clear h8
  refine wpList_nil (hK7 _ _ ?_)
  refine wp_seq_k fun K10 hK10 => ?_
  refine x_condF h9 rfl rfl ?_
  refine wp_exit ?_
  try simp only [Exit.then, Exit.inBlock, if_true]
  refine x_end0 (fn := Try.f98) rfl h9 ?_
  have h11 := h9.endZ (i := 0) rfl (keepZ_end hend8)
  rw [hcl4] at h11
  exact ⟨rfl, h11.sh.sel (L' := [.mapO (some g) _, .blk b 81 [.map (some go)], .mapO (some go) lo]) [0, 1, 2] (by decide) ⟨rfl, rfl, rfl, trivial⟩⟩
 clear h5
 refine wv h8 (r_extract rfl rfl rfl) rfl rfl fun a12 h12 => ?_; clear h8
 refine wpList_nil (hK7 _ _ ?_)
 refine wp_seq_k fun K13 hK13 => ?_
 refine x_condT h12 rfl rfl ?_
 refine wp_skip ?_
 refine hK13 _ _ ?_
 refine wp_block ?_
 refine wp_seq_k fun K14 hK14 => wp_region_lit ?_
 refine wv h12 (r_entryZ (i := 0) (y := x8) rfl rfl rfl (by assumption)) rfl rfl fun a15 h15 => ?_; clear h12
 refine wv h15 (r_extract rfl rfl rfl) rfl rfl fun a16 h16 => ?_; clear h15
 refine wv h16 (r_extract rfl rfl rfl) rfl rfl fun a17 h17 => ?_; clear h16
 refine wms 2 h17 rfl fun a18 h18 => ?_; clear h17
 refine wpList_nil (hK14 _ _ ?_)
 refine wp_seq_k fun K19 hK19 => wp_region_lit ?_
 refine wms 3 h18 rfl fun a20 h20 => ?_; clear h18
 have h21 := h20.sel (L' := [.blk b 81 [.map (some go)], .mapO (some go) lo, .itZ g r4 t4 (keepZ (inP lo) c4 s) (s ++ [x8.b])]) [1, 2, 0] (by decide) ⟨rfl, rfl, rfl, trivial⟩
 have hp22 := h21.sh.passL (Lp := [.blk b 81 [.map (some go)], .mapO (some go) lo])
 refine wl_ex (x_call h21 bd_99 rfl rfl rfl rfl rfl (look1_c _ b go lo x8.k x8.v _ hp22)) (wanted_none rfl _) ?_
 rintro a23 w23 ⟨_, ⟨rfl, hs23⟩, hf23⟩
 have h23 : St 19 K W a23 w23 _ [.blk b 81 [.map (some go)], .mapO (some go) lo, .itZ g r4 t4 (keepZ (inP lo) c4 s) (s ++ [x8.b])] := ⟨hf23, h21.sh.backL (Lp := [.blk b 81 [.map (some go)], .mapO (some go) lo]) hs23 (by intro A hA b hb; simp only [List.mem_cons, List.not_mem_nil, or_false] at hA; rcases hA with rfl | rfl <;> first | exact (hb : False).elim | exact Flat.noRd hb | exact .inl ⟨_, List.mem_cons_self .., .inr hb⟩ | exact .inl ⟨_, by simp, .inr hb⟩)⟩
 clear hf23 hs23
 clear h21
 refine wpList_nil (hK19 _ _ ?_)
 refine x_cond h23 rfl (fun hb24 => ?_) (fun hb24 => ?_)
 ·
  skip
  refine wp_region_lit ?_
  refine wms 2 h23 rfl fun a25 h25 => ?_; clear h23
  refine wl_ex (x_delZ (i := 2) (k := x8.k) h25 mz_81 rfl rfl rfl rfl rfl rfl) (wanted_none rfl _) ?_
  rintro a26 w26 h26
  clear h25
  refine wpList_nil ?_
  change ∃ _m, _m < _ ∧ _
  have h27 := h26.reZ (i := 2) rfl (keepZ_yes (s := s) hcb4 hck4 (keepZ_mem (by assumption)) (by assumption))
  clear h26
  refine ⟨_, ?_, s ++ [x8.b], h27.nrm ⟨rfl, rfl, rfl, trivial⟩ [2, 0, 1] (by decide) ⟨rfl, rfl, rfl, trivial⟩, rfl⟩
  · rw [hm5]; exact leftZ_lt (keepZ_mem (by assumption)) (by assumption)
 refine wp_skip ?_
 change ∃ _m, _m < _ ∧ _
 have h28 := h23.reZ (i := 2) rfl (keepZ_no (s := s) hcb4 (keepZ_mem (by assumption)) (by assumption))
 clear h23
 refine ⟨_, ?_, s ++ [x8.b], h28.nrm ⟨rfl, rfl, rfl, trivial⟩ [2, 0, 1] (by decide) ⟨rfl, rfl, rfl, trivial⟩, rfl⟩
 · rw [hm5]; exact leftZ_lt (keepZ_mem (by assumption)) (by assumption)

set_option maxRecDepth 100000 in
set_option maxHeartbeats 1000000 in
theorem behind_c (K : Nat → Prop) (x : Ins) (g : Nat) (l : List (Int × Int)) (W : World) (hS : Sh K W W [.mapO (some g) l]) (hop : 1 ≤ x.op) (hxa : x.op = 2 → 0 ≤ x.a) :
    Rets Try.prog 95 [.agg #[.int .i64 x.op, .int .i64 x.a, .int .i64 x.b, .int .i64 x.c], .map (some g)] W (fun v w' => ∃ g' : Nat, v = .map (some g') ∧ Sh K W w' [.mapO (some g') (behZ x l), .mapO (some g) l]) := by
 refine x_enter (N := 32) Try.func95 rfl Try.ntmps95 (Nat.le_of_ble_eq_true rfl) fun a1 hf1 => ?_
 have h1 : St 32 K W a1 W [(0, .agg #[.int .i64 x.op, .int .i64 x.a, .int .i64 x.b, .int .i64 x.c]), (1, .map (some g))] [.mapO (some g) l] := ⟨hf1.sub ⟨rfl, rfl, trivial⟩, hS⟩
 clear hf1
 refine wp_seq_k fun K2 hK2 => wp_region_lit ?_
 refine wl_ex (x_box (cs := [.int .i64 x.op, .int .i64 x.a, .int .i64 x.b, .int .i64 x.c]) h1 rfl rfl rfl rfl rfl) (wanted_none rfl _) ?_
 rintro a3 w3 ⟨b3, h3⟩; clear h1
 refine wms 1 h3 rfl fun a4 h4 => ?_; clear h3
 refine wpList_nil (hK2 _ _ ?_)
 refine wp_seq_k fun K5 hK5 => wp_region_lit ?_
 refine wms 1 h4 rfl fun a6 h6 => ?_; clear h4
 have h7 := h6.sel (L' := [.mapO (some g) l, .blk b3 32 [.int .i64 x.op, .int .i64 x.a, .int .i64 x.b, .int .i64 x.c]]) [1, 0] (by decide) ⟨rfl, rfl, trivial⟩
 have hp8 := h7.sh.passL (Lp := [.mapO (some g) l])
 refine wl_ex (x_call h7 bd_97 rfl rfl rfl rfl rfl (cloneZ_c _ g l _ hp8)) (wanted_none rfl _) ?_
 rintro a9 w9 ⟨_, ⟨g9, rfl, hs9⟩, hf9⟩
 have h9 : St 32 K W a9 w9 _ [.mapO (some g9) l, .mapO (some g) l, .blk b3 32 [.int .i64 x.op, .int .i64 x.a, .int .i64 x.b, .int .i64 x.c]] := ⟨hf9, h7.sh.backL (Lp := [.mapO (some g) l]) hs9 (by intro A hA b hb; simp only [List.mem_cons, List.not_mem_nil, or_false] at hA; rcases hA with rfl | rfl <;> first | exact (hb : False).elim | exact Flat.noRd hb | exact .inl ⟨_, List.mem_cons_self .., .inr hb⟩ | exact .inl ⟨_, by simp, .inr hb⟩)⟩
 clear hf9 hs9
 clear h7
 refine wms 1 h9 rfl fun a10 h10 => ?_; clear h9
 refine wpList_nil (hK5 _ _ ?_)
 refine wp_seq_k fun K11 hK11 => ?_
 refine wp_seq_k fun K12 hK12 => wp_region_lit ?_
 refine wv h10 (r_ldbw (i := 2) (vs := [.int .i64 x.op, .int .i64 x.a, .int .i64 x.b, .int .i64 x.c]) ti_32 rfl rfl rfl rfl rfl) rfl rfl fun a13 h13 => ?_; clear h10
 refine wl_ex (x_call h13 bd_100 rfl rfl rfl rfl rfl (writes_c x _ hop)) (wanted_none rfl _) ?_
 rintro a14 w14 ⟨_, ⟨rfl, hs14⟩, hf14⟩
 have h14 : St 32 K W a14 w14 _ _ := ⟨hf14, h13.sh.call0 hs14⟩
 clear hf14 hs14
 clear h13
 refine wms 1 h14 rfl fun a15 h15 => ?_; clear h14
 refine wpList_nil (hK12 _ _ ?_)
 refine wp_seq_k fun K16 hK16 => wp_region_lit ?_
 refine wms 1 h15 rfl fun a17 h17 => ?_; clear h15
 refine wv h17 (r_geqI (p := wrG x) (q := 0) rfl rfl rfl) rfl rfl fun a18 h18 => ?_; clear h17
 refine wpList_nil (hK16 _ _ ?_)
 refine x_cond h18 rfl (fun hb19 => ?_) (fun hb19 => ?_)
 ·
  have hp19 : 0 ≤ wrG x := of_decide_eq_true hb19
  refine wp_region_lit ?_
  refine wms 2 h18 rfl fun a20 h20 => ?_; clear h18
  have hp21 := h20.sh.passL (Lp := [.mapO (some g9) l])
  refine wl_ex (x_call h20 bd_139 rfl rfl rfl rfl rfl (write_c _ g9 l (wrG x) _ hp21)) (wanted_none rfl _) ?_
  rintro a22 w22 ⟨_, ⟨rfl, hs22⟩, hf22⟩
  have h22 : St 32 K W a22 w22 _ [.mapO (some g9) (wrZ (wrG x) l), .mapO (some g) l, .blk b3 32 [.int .i64 x.op, .int .i64 x.a, .int .i64 x.b, .int .i64 x.c]] := ⟨hf22, h20.sh.backL (Lp := [.mapO (some g9) l]) hs22 (by intro A hA b hb; simp only [List.mem_cons, List.not_mem_nil, or_false] at hA; rcases hA with rfl <;> first | exact (hb : False).elim | exact Flat.noRd hb | exact .inl ⟨_, List.mem_cons_self .., .inr hb⟩ | exact .inl ⟨_, by simp, .inr hb⟩)⟩
  clear hf22 hs22
  clear h20
  refine wpList_nil (hK11 _ _ ?_)
  refine wp_seq_k fun K23 hK23 => ?_
  refine wp_seq_k fun K24 hK24 => wp_region_lit ?_
  refine wv h22 (r_fieldB (r := 0) fl_32_0 rfl rfl rfl) rfl rfl fun a25 h25 => ?_; clear h22
  refine wv h25 (r_ldb (i := 2) ti_3 rfl rfl rfl rfl) rfl rfl fun a26 h26 => ?_; clear h25
  refine wv h26 (r_eqlI (p := x.op) (q := 2) rfl rfl rfl) rfl rfl fun a27 h27 => ?_; clear h26
  refine wms 1 h27 rfl fun a28 h28 => ?_; clear h27
  rcases Bool.eq_false_or_eq_true (decide (x.op = 2)) with hb29 | hb29
  ·
   have hp29 : x.op = 2 := of_decide_eq_true hb29
   refine wl_val h28 (r_fieldB (r := 1) fl_32_1 rfl rfl rfl) (wanted_yes h28.fr rfl rfl rfl rfl hb29) rfl rfl fun a30 h30 => ?_; clear h28
   refine wl_val h30 (r_ldb (i := 2) ti_3 rfl rfl rfl rfl) (wanted_yes h30.fr rfl rfl rfl rfl hb29) rfl rfl fun a31 h31 => ?_; clear h30
   refine wl_val h31 (r_fieldB (r := 2) fl_32_2 rfl rfl rfl) (wanted_yes h31.fr rfl rfl rfl rfl hb29) rfl rfl fun a32 h32 => ?_; clear h31
   refine wl_val h32 (r_ldb (i := 2) ti_3 rfl rfl rfl rfl) (wanted_yes h32.fr rfl rfl rfl rfl hb29) rfl rfl fun a33 h33 => ?_; clear h32
   refine wl_val h33 (r_neqI (p := x.a) (q := x.b) rfl rfl rfl) (wanted_yes h33.fr rfl rfl rfl rfl hb29) rfl rfl fun a34 h34 => ?_; clear h33
   refine wv h34 (r_pickT rfl rfl hb29 rfl) rfl rfl fun a35 h35 => ?_; clear h34
   refine wpList_nil (hK24 _ _ ?_)
   refine x_cond h35 rfl (fun hb36 => ?_) (fun hb36 => ?_)
   ·
    have hp36 : x.a ≠ x.b := of_decide_eq_true hb36
    refine wp_region_lit ?_
    refine wms 1 h35 rfl fun a37 h37 => ?_; clear h35
    refine wv h37 (r_fieldB (r := 1) fl_32_1 rfl rfl rfl) rfl rfl fun a38 h38 => ?_; clear h37
    refine wv h38 (r_ldb (i := 2) ti_3 rfl rfl rfl rfl) rfl rfl fun a39 h39 => ?_; clear h38
    refine wv h39 (r_fieldB (r := 2) fl_32_2 rfl rfl rfl) rfl rfl fun a40 h40 => ?_; clear h39
    refine wv h40 (r_ldb (i := 2) ti_3 rfl rfl rfl rfl) rfl rfl fun a41 h41 => ?_; clear h40
    refine wl_ex (x_updZ (i := 0) (k := x.a) (v := x.b) h41 mz_81 rfl rfl rfl rfl rfl rfl (by first | (have e9 := getZ_wr (x := x) (l := l) (by assumption) (hxa (by assumption)); unfold wrI at e9; first | (rw [if_pos (by assumption)] at e9; exact e9) | (rw [if_neg (by assumption)] at e9; exact e9)))) (wanted_none rfl _) ?_
    rintro a42 w42 h42
    clear h41
    refine wpList_nil (hK23 _ _ ?_)
    have h43 : St 32 K W a42 w42 [(5, .map (some g9))] [.mapO (some g9) ((wrZ (wrG x) l) ++ [(x.a, x.b)]), .mapO (some g) l, .blk b3 32 [.int .i64 x.op, .int .i64 x.a, .int .i64 x.b, .int .i64 x.c]] := h42.nrm ⟨rfl, trivial⟩ [0, 1, 2] (by decide) ⟨rfl, rfl, rfl, trivial⟩
    clear h42
    refine wp_seq_k fun K44 hK44 => wp_region_lit ?_
    refine wms 2 h43 rfl fun a45 h45 => ?_; clear h43
    refine wpList_nil (hK44 _ _ ?_)
    refine wp_ret ?_
    try simp only [Exit.then, Exit.inBlock]
    refine x_ret1 (fn := Try.f95) (t := 4) rfl h45 rfl ?_
    refine ⟨_, rfl, ?_⟩
    have e9 : behZ x l = (wrZ (wrG x) l) ++ [(x.a, x.b)] := by
     unfold behZ
     rw [if_pos ⟨by omega, by omega⟩]
     unfold wrI
     rw [if_pos (by omega)]
    rw [e9]
    exact (h45.sh.sel (L' := [.mapO (some g9) ((wrZ (wrG x) l) ++ [(x.a, x.b)]), .mapO (some g) l]) [0, 1] (by decide) ⟨rfl, rfl, trivial⟩)
   have hp36 : ¬ (x.a ≠ x.b) := of_decide_eq_false hb36
   refine wp_skip ?_
   refine hK23 _ _ ?_
   have h46 : St 32 K W a35 w22 [(5, .map (some g9))] [.mapO (some g9) (wrZ (wrG x) l), .mapO (some g) l, .blk b3 32 [.int .i64 x.op, .int .i64 x.a, .int .i64 x.b, .int .i64 x.c]] := h35.nrm ⟨rfl, trivial⟩ [0, 1, 2] (by decide) ⟨rfl, rfl, rfl, trivial⟩
   clear h35
   refine wp_seq_k fun K47 hK47 => wp_region_lit ?_
   refine wms 2 h46 rfl fun a48 h48 => ?_; clear h46
   refine wpList_nil (hK47 _ _ ?_)
   refine wp_ret ?_
   try simp only [Exit.then, Exit.inBlock]
   refine x_ret1 (fn := Try.f95) (t := 4) rfl h48 rfl ?_
   refine ⟨_, rfl, ?_⟩
   have e9 : behZ x l = wrZ (wrG x) l := by
    unfold behZ
    rw [if_neg (fun h9 => by obtain ⟨h8, h9⟩ := h9; omega)]
    unfold wrI
    rw [if_pos (by omega)]
   rw [e9]
   exact (h48.sh.sel (L' := [.mapO (some g9) (wrZ (wrG x) l), .mapO (some g) l]) [0, 1] (by decide) ⟨rfl, rfl, trivial⟩)
  have hp29 : ¬ (x.op = 2) := of_decide_eq_false hb29
  refine wl_skip h28 (wanted_no h28.fr rfl rfl rfl rfl hb29) rfl rfl fun a49 h49 => ?_; clear h28
  refine wl_skip h49 (wanted_no h49.fr rfl rfl rfl rfl hb29) rfl rfl fun a50 h50 => ?_; clear h49
  refine wl_skip h50 (wanted_no h50.fr rfl rfl rfl rfl hb29) rfl rfl fun a51 h51 => ?_; clear h50
  refine wl_skip h51 (wanted_no h51.fr rfl rfl rfl rfl hb29) rfl rfl fun a52 h52 => ?_; clear h51
  refine wl_skip h52 (wanted_no h52.fr rfl rfl rfl rfl hb29) rfl rfl fun a53 h53 => ?_; clear h52
  refine wv h53 (r_pickF rfl rfl hb29 rfl) rfl rfl fun a54 h54 => ?_; clear h53
  refine wpList_nil (hK24 _ _ ?_)
  refine x_condF h54 rfl rfl ?_
  refine wp_skip ?_
  refine hK23 _ _ ?_
  have h55 : St 32 K W a54 w22 [(5, .map (some g9))] [.mapO (some g9) (wrZ (wrG x) l), .mapO (some g) l, .blk b3 32 [.int .i64 x.op, .int .i64 x.a, .int .i64 x.b, .int .i64 x.c]] := h54.nrm ⟨rfl, trivial⟩ [0, 1, 2] (by decide) ⟨rfl, rfl, rfl, trivial⟩
  clear h54
  refine wp_seq_k fun K56 hK56 => wp_region_lit ?_
  refine wms 2 h55 rfl fun a57 h57 => ?_; clear h55
  refine wpList_nil (hK56 _ _ ?_)
  refine wp_ret ?_
  try simp only [Exit.then, Exit.inBlock]
  refine x_ret1 (fn := Try.f95) (t := 4) rfl h57 rfl ?_
  refine ⟨_, rfl, ?_⟩
  have e9 : behZ x l = wrZ (wrG x) l := by
   unfold behZ
   rw [if_neg (fun h9 => by obtain ⟨h8, h9⟩ := h9; omega)]
   unfold wrI
   rw [if_pos (by omega)]
  rw [e9]
  exact (h57.sh.sel (L' := [.mapO (some g9) (wrZ (wrG x) l), .mapO (some g) l]) [0, 1] (by decide) ⟨rfl, rfl, trivial⟩)
 have hp19 : ¬ (0 ≤ wrG x) := of_decide_eq_false hb19
 refine wp_skip ?_
 refine hK11 _ _ ?_
 refine wp_seq_k fun K58 hK58 => ?_
 refine wp_seq_k fun K59 hK59 => wp_region_lit ?_
 refine wv h18 (r_fieldB (r := 0) fl_32_0 rfl rfl rfl) rfl rfl fun a60 h60 => ?_; clear h18
 refine wv h60 (r_ldb (i := 2) ti_3 rfl rfl rfl rfl) rfl rfl fun a61 h61 => ?_; clear h60
 refine wv h61 (r_eqlI (p := x.op) (q := 2) rfl rfl rfl) rfl rfl fun a62 h62 => ?_; clear h61
 refine wms 1 h62 rfl fun a63 h63 => ?_; clear h62
 rcases Bool.eq_false_or_eq_true (decide (x.op = 2)) with hb64 | hb64
 ·
  have hp64 : x.op = 2 := of_decide_eq_true hb64
  refine wl_val h63 (r_fieldB (r := 1) fl_32_1 rfl rfl rfl) (wanted_yes h63.fr rfl rfl rfl rfl hb64) rfl rfl fun a65 h65 => ?_; clear h63
  refine wl_val h65 (r_ldb (i := 2) ti_3 rfl rfl rfl rfl) (wanted_yes h65.fr rfl rfl rfl rfl hb64) rfl rfl fun a66 h66 => ?_; clear h65
  refine wl_val h66 (r_fieldB (r := 2) fl_32_2 rfl rfl rfl) (wanted_yes h66.fr rfl rfl rfl rfl hb64) rfl rfl fun a67 h67 => ?_; clear h66
  refine wl_val h67 (r_ldb (i := 2) ti_3 rfl rfl rfl rfl) (wanted_yes h67.fr rfl rfl rfl rfl hb64) rfl rfl fun a68 h68 => ?_; clear h67
  refine wl_val h68 (r_neqI (p := x.a) (q := x.b) rfl rfl rfl) (wanted_yes h68.fr rfl rfl rfl rfl hb64) rfl rfl fun a69 h69 => ?_; clear h68
  refine wv h69 (r_pickT rfl rfl hb64 rfl) rfl rfl fun a70 h70 => ?_; clear h69
  refine wpList_nil (hK59 _ _ ?_)
  refine x_cond h70 rfl (fun hb71 => ?_) (fun hb71 => ?_)
  ·
   have hp71 : x.a ≠ x.b := of_decide_eq_true hb71
   refine wp_region_lit ?_
   refine wms 1 h70 rfl fun a72 h72 => ?_; clear h70
   refine wv h72 (r_fieldB (r := 1) fl_32_1 rfl rfl rfl) rfl rfl fun a73 h73 => ?_; clear h72
   refine wv h73 (r_ldb (i := 2) ti_3 rfl rfl rfl rfl) rfl rfl fun a74 h74 => ?_; clear h73
   refine wv h74 (r_fieldB (r := 2) fl_32_2 rfl rfl rfl) rfl rfl fun a75 h75 => ?_; clear h74
   refine wv h75 (r_ldb (i := 2) ti_3 rfl rfl rfl rfl) rfl rfl fun a76 h76 => ?_; clear h75
   refine wl_ex (x_updZ (i := 0) (k := x.a) (v := x.b) h76 mz_81 rfl rfl rfl rfl rfl rfl (by first | (have e9 := getZ_wr (x := x) (l := l) (by assumption) (hxa (by assumption)); unfold wrI at e9; first | (rw [if_pos (by assumption)] at e9; exact e9) | (rw [if_neg (by assumption)] at e9; exact e9)))) (wanted_none rfl _) ?_
   rintro a77 w77 h77
   clear h76
   refine wpList_nil (hK58 _ _ ?_)
   have h78 : St 32 K W a77 w77 [(5, .map (some g9))] [.mapO (some g9) (l ++ [(x.a, x.b)]), .mapO (some g) l, .blk b3 32 [.int .i64 x.op, .int .i64 x.a, .int .i64 x.b, .int .i64 x.c]] := h77.nrm ⟨rfl, trivial⟩ [0, 1, 2] (by decide) ⟨rfl, rfl, rfl, trivial⟩
   clear h77
   refine wp_seq_k fun K79 hK79 => wp_region_lit ?_
   refine wms 2 h78 rfl fun a80 h80 => ?_; clear h78
   refine wpList_nil (hK79 _ _ ?_)
   refine wp_ret ?_
   try simp only [Exit.then, Exit.inBlock]
   refine x_ret1 (fn := Try.f95) (t := 4) rfl h80 rfl ?_
   refine ⟨_, rfl, ?_⟩
   have e9 : behZ x l = l ++ [(x.a, x.b)] := by
    unfold behZ
    rw [if_pos ⟨by omega, by omega⟩]
    unfold wrI
    rw [if_neg (by omega)]
   rw [e9]
   exact (h80.sh.sel (L' := [.mapO (some g9) (l ++ [(x.a, x.b)]), .mapO (some g) l]) [0, 1] (by decide) ⟨rfl, rfl, trivial⟩)
  have hp71 : ¬ (x.a ≠ x.b) := of_decide_eq_false hb71
  refine wp_skip ?_
  refine hK58 _ _ ?_
  refine wp_seq_k fun K81 hK81 => wp_region_lit ?_
  refine wms 2 h70 rfl fun a82 h82 => ?_; clear h70
  refine wpList_nil (hK81 _ _ ?_)
  refine wp_ret ?_
  try simp only [Exit.then, Exit.inBlock]
  refine x_ret1 (fn := Try.f95) (t := 4) rfl h82 rfl ?_
  refine ⟨_, rfl, ?_⟩
  have e9 : behZ x l = l := by
   unfold behZ
   rw [if_neg (fun h9 => by obtain ⟨h8, h9⟩ := h9; omega)]
   unfold wrI
   rw [if_neg (by omega)]
  rw [e9]
  exact (h82.sh.sel (L' := [.mapO (some g9) l, .mapO (some g) l]) [0, 1] (by decide) ⟨rfl, rfl, trivial⟩)
 have hp64 : ¬ (x.op = 2) := of_decide_eq_false hb64
 refine wl_skip h63 (wanted_no h63.fr rfl rfl rfl rfl hb64) rfl rfl fun a83 h83 => ?_; clear h63
 refine wl_skip h83 (wanted_no h83.fr rfl rfl rfl rfl hb64) rfl rfl fun a84 h84 => ?_; clear h83
 refine wl_skip h84 (wanted_no h84.fr rfl rfl rfl rfl hb64) rfl rfl fun a85 h85 => ?_; clear h84
 refine wl_skip h85 (wanted_no h85.fr rfl rfl rfl rfl hb64) rfl rfl fun a86 h86 => ?_; clear h85
 refine wl_skip h86 (wanted_no h86.fr rfl rfl rfl rfl hb64) rfl rfl fun a87 h87 => ?_; clear h86
 refine wv h87 (r_pickF rfl rfl hb64 rfl) rfl rfl fun a88 h88 => ?_; clear h87
 refine wpList_nil (hK59 _ _ ?_)
 refine x_condF h88 rfl rfl ?_
 refine wp_skip ?_
 refine hK58 _ _ ?_
 refine wp_seq_k fun K89 hK89 => wp_region_lit ?_
 refine wms 2 h88 rfl fun a90 h90 => ?_; clear h88
 refine wpList_nil (hK89 _ _ ?_)
 refine wp_ret ?_
 try simp only [Exit.then, Exit.inBlock]
 refine x_ret1 (fn := Try.f95) (t := 4) rfl h90 rfl ?_
 refine ⟨_, rfl, ?_⟩
 have e9 : behZ x l = l := by
  unfold behZ
  rw [if_neg (fun h9 => by obtain ⟨h8, h9⟩ := h9; omega)]
  unfold wrI
  rw [if_neg (by omega)]
 rw [e9]
 exact (h90.sh.sel (L' := [.mapO (some g9) l, .mapO (some g) l]) [0, 1] (by decide) ⟨rfl, rfl, trivial⟩)

end Go.Proofs.Ytfpaahkleienoaa
