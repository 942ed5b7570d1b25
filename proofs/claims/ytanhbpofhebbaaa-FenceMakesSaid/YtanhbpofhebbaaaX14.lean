/-
  Contracts of functions of this program and of the references, each walked once.
-/
import Derived.Test.YtanhbpofhebbaaaX13
namespace Go.Proofs.Ytanhbpofhebbaaa
open Go.RowKit
set_option linter.unusedSimpArgs false
set_option linter.unusedVariables false


theorem long_k {C : List (List Ins)} {f : Nat → List Ins} {n : Int} {N : Nat} (hC : C = (List.range N).map f) (h : LongIs C n) (hs : ∀ j, j < N → (f j).length ≤ 400) : n = -1 := by
  rcases h with ⟨k, _, h1, h2, _⟩ | ⟨h, _⟩
  · have hk : k < N := by rw [hC] at h1; simpa using h1
    have := hs k hk
    rw [hC, nth_map' _ _ _ (by simpa using hk)] at h2
    simp [nth, hk] at h2
    omega
  · exact h
theorem long_l {C : List (List Ins)} {f : Nat → List Ins} {n : Int} {N k : Nat} (hC : C = (List.range N).map f) (h : LongIs C n) (hk : k < N) (h4 : 400 < (f k).length) (hb : ∀ j, j < k → (f j).length ≤ 400) : n = k := by
  have hn : ∀ j, j < N → nth C j = f j := fun j hj => by rw [hC, nth_map' _ _ _ (by simpa using hj)]; simp [nth, hj]
  have hl : C.length = N := by rw [hC]; simp
  rcases h with ⟨q, rfl, h1, h2, h3⟩ | ⟨_, h⟩
  · rcases Nat.lt_trichotomy q k with hq | rfl | hq
    · have := hb q hq; rw [hn q (by omega)] at h2; omega
    · rfl
    · have := h3 k hq; rw [hn k hk] at this; omega
  · have := h k (by omega); rw [hn k hk] at this; omega
theorem ful_eq {code : Ls (Ls Ins)} {o : Ls (Ls Bool)} (ho : o.l.map (·.l) = (List.range code.l.length).map (fun t => (nth code.l t).l.map (fun x => waitsB x.op))) :
    (List.range code.l.length).map (fun t => withL (nth (nth o.l t).l) (nth code.l t).l) = (List.range code.l.length).map (fun t => withL (fulW code t) (nth code.l t).l) := by
  apply List.map_congr_left
  intro t ht
  refine withL_congr fun i hi => ?_
  rw [cm_nthB ho t (by simpa using ht), nth_map' _ _ _ hi]
  rfl
theorem st_len {code : Ls (Ls Ins)} {o : Ls (Ls Bool)} (ho : o.l.map (·.l) = (List.range code.l.length).map (fun t => (nth code.l t).l.map (fun x => waitsB x.op))) : o.l.length = code.l.length ∧ ∀ t, t < code.l.length → (nth o.l t).l.length = (nth code.l t).l.length :=
  ⟨cm_len ho, fun t ht => by rw [cm_nthB ho t ht]; simp⟩

set_option maxRecDepth 100000 in
set_option maxHeartbeats 4000000 in
theorem fenceMakes_v (code : Ls (Ls Ins)) (words : Ls Int) (locks regs : Int) (W : World) (hcode : code.At W) (hwords : words.At W) (hv : vastG (code.l.map (·.l)) words.l = true) :
    Rets Try.prog 17 [.agg #[code.v, words.v, .int .i64 locks, .int .i64 regs]] W (fun v w' => v = .bool true ∧ Sh0 W w' []) := by
 refine x_enter (N := 89) Try.func17 rfl Try.ntmps17 (Nat.le_of_ble_eq_true rfl) fun a1 hf1 => ?_
 have h1 : St 89 (fun _ => False) W a1 W [(0, .agg #[code.v, words.v, .int .i64 locks, .int .i64 regs])] [.at_ code, .at_ words] := ⟨hf1.sub ⟨rfl, trivial⟩, Sh0.ext2 hcode hwords⟩
 clear hf1
 refine wp_seq_k fun K2 hK2 => ?_
 refine wp_region_lit ?_
 refine wl_ex (x_box (cs := [code.v, words.v, .int .i64 locks, .int .i64 regs]) h1 rfl rfl rfl rfl rfl) (wanted_none rfl _) ?_
 rintro a3 w3 ⟨b3, h3⟩; clear h1
 refine wms 1 h3 rfl fun a4 h4 => ?_; clear h3
 refine wpList_nil ?_
 refine hK2 _ _ ?_
 refine wp_seq_k fun K5 hK5 => ?_
 refine wp_seq_k fun K6 hK6 => ?_
 refine wp_region_lit ?_
 refine wv h4 (r_ldbw (i := 0) (vs := [code.v, words.v, .int .i64 locks, .int .i64 regs]) ti_28 rfl rfl rfl rfl rfl) rfl rfl fun a7 h7 => ?_; clear h4
 refine wl_ex (x_call h7 bd_18 rfl rfl rfl rfl rfl (vast_c (code := code) (words := words) (locks := locks) (regs := regs) (h7.sh.at 1 rfl) (h7.sh.at 2 rfl))) (wanted_none rfl _) ?_
 rintro a8 w8 ⟨_, ⟨rfl, hs8⟩, hf8⟩
 have h8 : St 89 (fun _ => False) W a8 w8 _ _ := ⟨hf8, h7.sh.call0 hs8⟩
 clear hf8 hs8
 clear h7
 refine wpList_nil ?_
 refine hK6 _ _ ?_
 refine x_condT h8 rfl hv ?_
 refine wp_seq_k fun K9 hK9 => ?_
 refine wp_region_lit ?_
 refine wms 1 h8 rfl fun a10 h10 => ?_; clear h8
 refine wpList_nil ?_
 refine hK9 _ _ ?_
 refine wp_ret ?_
 try simp only [Exit.then, Exit.inBlock]
 refine x_ret1 (fn := Try.f17) (t := 2) rfl h10 rfl ?_
 exact ⟨rfl, (h10.sh.sel [] (by decide) trivial)⟩

set_option maxRecDepth 100000 in
set_option maxHeartbeats 4000000 in
theorem fenceMakes_b (code : Ls (Ls Ins)) (words : Ls Int) (locks regs : Int) (W : World) (hcode : code.At W) (hwords : words.At W) (hv : vastG (code.l.map (·.l)) words.l = false) (hz : (checkG (pgOf code words locks regs)).code ≠ 0) :
    Rets Try.prog 17 [.agg #[code.v, words.v, .int .i64 locks, .int .i64 regs]] W (fun v w' => v = .bool true ∧ Sh0 W w' []) := by
 refine x_enter (N := 89) Try.func17 rfl Try.ntmps17 (Nat.le_of_ble_eq_true rfl) fun a1 hf1 => ?_
 have h1 : St 89 (fun _ => False) W a1 W [(0, .agg #[code.v, words.v, .int .i64 locks, .int .i64 regs])] [.at_ code, .at_ words] := ⟨hf1.sub ⟨rfl, trivial⟩, Sh0.ext2 hcode hwords⟩
 clear hf1
 refine wp_seq_k fun K2 hK2 => ?_
 refine wp_region_lit ?_
 refine wl_ex (x_box (cs := [code.v, words.v, .int .i64 locks, .int .i64 regs]) h1 rfl rfl rfl rfl rfl) (wanted_none rfl _) ?_
 rintro a3 w3 ⟨b3, h3⟩; clear h1
 refine wms 1 h3 rfl fun a4 h4 => ?_; clear h3
 refine wpList_nil ?_
 refine hK2 _ _ ?_
 refine wp_seq_k fun K5 hK5 => ?_
 refine wp_seq_k fun K6 hK6 => ?_
 refine wp_region_lit ?_
 refine wv h4 (r_ldbw (i := 0) (vs := [code.v, words.v, .int .i64 locks, .int .i64 regs]) ti_28 rfl rfl rfl rfl rfl) rfl rfl fun a7 h7 => ?_; clear h4
 refine wl_ex (x_call h7 bd_18 rfl rfl rfl rfl rfl (vast_c (code := code) (words := words) (locks := locks) (regs := regs) (h7.sh.at 1 rfl) (h7.sh.at 2 rfl))) (wanted_none rfl _) ?_
 rintro a8 w8 ⟨_, ⟨rfl, hs8⟩, hf8⟩
 have h8 : St 89 (fun _ => False) W a8 w8 _ _ := ⟨hf8, h7.sh.call0 hs8⟩
 clear hf8 hs8
 clear h7
 refine wpList_nil ?_
 refine hK6 _ _ ?_
 refine x_condF h8 rfl hv ?_
 refine wp_skip ?_
 refine hK5 _ _ ?_
 refine wp_seq_k fun K9 hK9 => ?_
 refine wp_region_lit ?_
 refine wv h8 (r_ldbw (i := 0) (vs := [code.v, words.v, .int .i64 locks, .int .i64 regs]) ti_28 rfl rfl rfl rfl rfl) rfl rfl fun a10 h10 => ?_; clear h8
 refine wl_ex (x_call h10 bd_23 rfl rfl rfl rfl rfl (full_b code words locks regs _ (h10.sh.at 1 rfl) (h10.sh.at 2 rfl) hz)) (wanted_none rfl _) ?_
 rintro a11 w11 ⟨_, ⟨rfl, hs11⟩, hf11⟩
 have h11 : St 89 (fun _ => False) W a11 w11 _ _ := ⟨hf11, h10.sh.call0 hs11⟩
 clear hf11 hs11
 clear h10
 refine wms 1 h11 rfl fun a12 h12 => ?_; clear h11
 refine wv h12 (r_extract rfl rfl rfl) rfl rfl fun a13 h13 => ?_; clear h12
 refine wv h13 (r_extract rfl rfl rfl) rfl rfl fun a14 h14 => ?_; clear h13
 refine wl_ex (x_alloc h14 ti_28 rfl rfl rfl) (wanted_none rfl _) ?_
 rintro a15 w15 ⟨b15, h15⟩; clear h14
 refine wl_ex (x_alloc h15 ti_31 rfl rfl rfl) (wanted_none rfl _) ?_
 rintro a16 w16 ⟨b16, h16⟩; clear h15
 refine wl_ex (x_stb (i := 1) (vs := [(.slice none 0 0), (.slice none 0 0), .int .i64 0, .int .i64 0]) (cs' := [(.slice none 0 0), (.slice none 0 0), .int .i64 0, .int .i64 0]) h16 ti_28 rfl rfl rfl rfl rfl rfl rfl (allOne_cons ((Sh.nilAt (α := Ls Ins) h16.sh)).one (allOne_cons ((Sh.nilAt (α := Int) h16.sh)).one (allOne_cons rfl (allOne_cons rfl allOne_nil)))) (Nat.le_of_ble_eq_true rfl) rfl) (wanted_none rfl _) ?_
 rintro a17 w17 h17
 clear h16
 refine wl_ex (x_stb (i := 0) (vs := [.int .i64 ((checkG (pgOf code words locks regs)).code), .int .i64 ((checkG (pgOf code words locks regs)).thread), .int .i64 ((checkG (pgOf code words locks regs)).at_)]) (cs' := [.int .i64 ((checkG (pgOf code words locks regs)).code), .int .i64 ((checkG (pgOf code words locks regs)).thread), .int .i64 ((checkG (pgOf code words locks regs)).at_)]) h17 ti_31 rfl rfl rfl rfl rfl rfl rfl (allOne_cons rfl (allOne_cons rfl (allOne_cons rfl allOne_nil))) (Nat.le_of_ble_eq_true rfl) rfl) (wanted_none rfl _) ?_
 rintro a18 w18 h18
 clear h17
 refine wpList_nil ?_
 refine hK9 _ _ ?_
 refine wp_seq_k fun K19 hK19 => ?_
 refine wp_region_lit ?_
 refine wv h18 (r_ldbw (i := 2) (vs := [code.v, words.v, .int .i64 locks, .int .i64 regs]) ti_28 rfl rfl rfl rfl rfl) rfl rfl fun a20 h20 => ?_; clear h18
 refine wl_ex (x_call h20 bd_35 rfl rfl rfl rfl rfl (drop_b code words locks regs _ (h20.sh.at 3 rfl) (h20.sh.at 4 rfl) hz)) (wanted_none rfl _) ?_
 rintro a21 w21 ⟨_, ⟨rfl, hs21⟩, hf21⟩
 have h21 : St 89 (fun _ => False) W a21 w21 _ _ := ⟨hf21, h20.sh.call0 hs21⟩
 clear hf21 hs21
 clear h20
 refine wms 1 h21 rfl fun a22 h22 => ?_; clear h21
 refine wv h22 (r_extract rfl rfl rfl) rfl rfl fun a23 h23 => ?_; clear h22
 refine wv h23 (r_extract rfl rfl rfl) rfl rfl fun a24 h24 => ?_; clear h23
 refine wl_ex (x_alloc h24 ti_28 rfl rfl rfl) (wanted_none rfl _) ?_
 rintro a25 w25 ⟨b25, h25⟩; clear h24
 refine wl_ex (x_alloc h25 ti_31 rfl rfl rfl) (wanted_none rfl _) ?_
 rintro a26 w26 ⟨b26, h26⟩; clear h25
 refine wl_ex (x_stb (i := 1) (vs := [(.slice none 0 0), (.slice none 0 0), .int .i64 0, .int .i64 0]) (cs' := [(.slice none 0 0), (.slice none 0 0), .int .i64 0, .int .i64 0]) h26 ti_28 rfl rfl rfl rfl rfl rfl rfl (allOne_cons ((Sh.nilAt (α := Ls Ins) h26.sh)).one (allOne_cons ((Sh.nilAt (α := Int) h26.sh)).one (allOne_cons rfl (allOne_cons rfl allOne_nil)))) (Nat.le_of_ble_eq_true rfl) rfl) (wanted_none rfl _) ?_
 rintro a27 w27 h27
 clear h26
 refine wl_ex (x_stb (i := 0) (vs := [.int .i64 ((checkG (pgOf code words locks regs)).code), .int .i64 ((checkG (pgOf code words locks regs)).thread), .int .i64 ((checkG (pgOf code words locks regs)).at_)]) (cs' := [.int .i64 ((checkG (pgOf code words locks regs)).code), .int .i64 ((checkG (pgOf code words locks regs)).thread), .int .i64 ((checkG (pgOf code words locks regs)).at_)]) h27 ti_31 rfl rfl rfl rfl rfl rfl rfl (allOne_cons rfl (allOne_cons rfl (allOne_cons rfl allOne_nil))) (Nat.le_of_ble_eq_true rfl) rfl) (wanted_none rfl _) ?_
 rintro a28 w28 h28
 clear h27
 refine wpList_nil ?_
 refine hK19 _ _ ?_
 refine wp_seq_k fun K29 hK29 => ?_
 refine wp_region_lit ?_
 refine wv h28 (r_ldbw (i := 4) (vs := [code.v, words.v, .int .i64 locks, .int .i64 regs]) ti_28 rfl rfl rfl rfl rfl) rfl rfl fun a30 h30 => ?_; clear h28
 refine wl_ex (x_call h30 bd_20 rfl rfl rfl rfl rfl (refCheck_c (code := code) (words := words) (locks := locks) (regs := regs) (h30.sh.at 5 rfl) (h30.sh.at 6 rfl))) (wanted_none rfl _) ?_
 rintro a31 w31 ⟨_, ⟨rfl, hs31⟩, hf31⟩
 have h31 : St 89 (fun _ => False) W a31 w31 _ _ := ⟨hf31, h30.sh.call0 hs31⟩
 clear hf31 hs31
 clear h30
 refine wl_ex (x_alloc h31 ti_31 rfl rfl rfl) (wanted_none rfl _) ?_
 rintro a32 w32 ⟨b32, h32⟩; clear h31
 refine wl_ex (x_stb (i := 0) (vs := [.int .i64 ((checkG (pgOf code words locks regs)).code), .int .i64 ((checkG (pgOf code words locks regs)).thread), .int .i64 ((checkG (pgOf code words locks regs)).at_)]) (cs' := [.int .i64 ((checkG (pgOf code words locks regs)).code), .int .i64 ((checkG (pgOf code words locks regs)).thread), .int .i64 ((checkG (pgOf code words locks regs)).at_)]) h32 ti_31 rfl rfl rfl rfl rfl rfl rfl (allOne_cons rfl (allOne_cons rfl (allOne_cons rfl allOne_nil))) (Nat.le_of_ble_eq_true rfl) rfl) (wanted_none rfl _) ?_
 rintro a33 w33 h33
 clear h32
 refine wpList_nil ?_
 refine hK29 _ _ ?_
 refine wp_seq_k fun K34 hK34 => ?_
 refine wp_region_lit ?_
 refine wv h33 (r_ldbw (i := 2) (vs := [(.slice none 0 0), (.slice none 0 0), .int .i64 0, .int .i64 0]) ti_28 rfl rfl rfl rfl rfl) rfl rfl fun a35 h35 => ?_; clear h33
 refine wl_ex (x_call h35 bd_27 rfl rfl rfl rfl rfl (none_c (⟨.slice none 0 0, []⟩ : Ls (Ls Ins)) (⟨.slice none 0 0, []⟩ : Ls Int) 0 0 _ (Sh.nilAt (α := Ls Ins) h35.sh) (Sh.nilAt (α := Int) h35.sh))) (wanted_none rfl _) ?_
 rintro a36 w36 ⟨_, ⟨rfl, hs36⟩, hf36⟩
 have h36 : St 89 (fun _ => False) W a36 w36 _ _ := ⟨hf36, h35.sh.call0 hs36⟩
 clear hf36 hs36
 clear h35
 refine wms 1 h36 rfl fun a37 h37 => ?_; clear h36
 refine wpList_nil ?_
 refine hK34 _ _ ?_
 refine wp_seq_k fun K38 hK38 => ?_
 refine wp_seq_k fun K39 hK39 => ?_
 refine wp_region_lit ?_
 refine wv h37 (r_fieldB (r := 0) fl_31_0 rfl rfl rfl) rfl rfl fun a40 h40 => ?_; clear h37
 refine wv h40 (r_ldb (i := 0) ti_22 rfl rfl rfl rfl) rfl rfl fun a41 h41 => ?_; clear h40
 refine wv h41 (r_neqI (p := (checkG (pgOf code words locks regs)).code) (q := 0) rfl rfl rfl) rfl rfl fun a42 h42 => ?_; clear h41
 refine wpList_nil ?_
 refine hK39 _ _ ?_
 refine x_condT h42 rfl (decide_eq_true hz) ?_
 refine wp_seq_k fun K43 hK43 => ?_
 refine wp_region_lit ?_
 refine wv h42 (r_ldbw (i := 4) (vs := [(.slice none 0 0), (.slice none 0 0), .int .i64 0, .int .i64 0]) ti_28 rfl rfl rfl rfl rfl) rfl rfl fun a44 h44 => ?_; clear h42
 refine wl_ex (x_call h44 bd_27 rfl rfl rfl rfl rfl (none_c (⟨.slice none 0 0, []⟩ : Ls (Ls Ins)) (⟨.slice none 0 0, []⟩ : Ls Int) 0 0 _ (Sh.nilAt (α := Ls Ins) h44.sh) (Sh.nilAt (α := Int) h44.sh))) (wanted_none rfl _) ?_
 rintro a45 w45 ⟨_, ⟨rfl, hs45⟩, hf45⟩
 have h45 : St 89 (fun _ => False) W a45 w45 _ _ := ⟨hf45, h44.sh.call0 hs45⟩
 clear hf45 hs45
 clear h44
 refine wms 1 h45 rfl fun a46 h46 => ?_; clear h45
 refine wpList_nil ?_
 refine hK43 _ _ ?_
 have h47 : St 89 (fun _ => False) W a46 w45 [(4, .pointer (some ⟨b16, 0, none⟩)), (6, .pointer (some ⟨b26, 0, none⟩)), (7, .pointer (some ⟨b32, 0, none⟩)), (8, .bool (noneP (pgOf (⟨.slice none 0 0, []⟩ : Ls (Ls Ins)) (⟨.slice none 0 0, []⟩ : Ls Int) 0 0))), (9, .bool (noneP (pgOf (⟨.slice none 0 0, []⟩ : Ls (Ls Ins)) (⟨.slice none 0 0, []⟩ : Ls Int) 0 0)))] [.blk b32 31 [.int .i64 ((checkG (pgOf code words locks regs)).code), .int .i64 ((checkG (pgOf code words locks regs)).thread), .int .i64 ((checkG (pgOf code words locks regs)).at_)], .blk b26 31 [.int .i64 ((checkG (pgOf code words locks regs)).code), .int .i64 ((checkG (pgOf code words locks regs)).thread), .int .i64 ((checkG (pgOf code words locks regs)).at_)], .blk b25 28 [(.slice none 0 0), (.slice none 0 0), .int .i64 0, .int .i64 0], .blk b16 31 [.int .i64 ((checkG (pgOf code words locks regs)).code), .int .i64 ((checkG (pgOf code words locks regs)).thread), .int .i64 ((checkG (pgOf code words locks regs)).at_)], .blk b15 28 [(.slice none 0 0), (.slice none 0 0), .int .i64 0, .int .i64 0], .blk b3 28 [code.v, words.v, .int .i64 locks, .int .i64 regs], .at_ code, .at_ words] := h46.nrm ⟨rfl, rfl, rfl, rfl, rfl, trivial⟩ [0, 1, 2, 3, 4, 5, 6, 7] (by decide) ⟨rfl, rfl, rfl, rfl, rfl, rfl, rfl, rfl, trivial⟩
 clear h46
 refine wp_seq_k fun K48 hK48 => ?_
 refine wp_region_lit ?_
 refine wv h47 (r_ldbw (i := 3) (vs := [.int .i64 ((checkG (pgOf code words locks regs)).code), .int .i64 ((checkG (pgOf code words locks regs)).thread), .int .i64 ((checkG (pgOf code words locks regs)).at_)]) ti_31 rfl rfl rfl rfl rfl) rfl rfl fun a49 h49 => ?_; clear h47
 refine wv h49 (r_ldbw (i := 0) (vs := [.int .i64 ((checkG (pgOf code words locks regs)).code), .int .i64 ((checkG (pgOf code words locks regs)).thread), .int .i64 ((checkG (pgOf code words locks regs)).at_)]) ti_31 rfl rfl rfl rfl rfl) rfl rfl fun a50 h50 => ?_; clear h49
 refine wv h50 (r_eqS rfl rfl rfl (fun w => eq_fltG _ _ ⟨(checkG (pgOf code words locks regs)).code, (checkG (pgOf code words locks regs)).thread, (checkG (pgOf code words locks regs)).at_⟩ ⟨(checkG (pgOf code words locks regs)).code, (checkG (pgOf code words locks regs)).thread, (checkG (pgOf code words locks regs)).at_⟩ w) (fun w => eq_flt ⟨(checkG (pgOf code words locks regs)).code, (checkG (pgOf code words locks regs)).thread, (checkG (pgOf code words locks regs)).at_⟩ ⟨(checkG (pgOf code words locks regs)).code, (checkG (pgOf code words locks regs)).thread, (checkG (pgOf code words locks regs)).at_⟩ w)) rfl rfl fun a51 h51 => ?_; clear h50
 refine wms 1 h51 rfl fun a52 h52 => ?_; clear h51
 refine wl_val h52 (r_ldbw (i := 1) (vs := [.int .i64 ((checkG (pgOf code words locks regs)).code), .int .i64 ((checkG (pgOf code words locks regs)).thread), .int .i64 ((checkG (pgOf code words locks regs)).at_)]) ti_31 rfl rfl rfl rfl rfl) (wanted_yes h52.fr rfl rfl rfl rfl (decide_eq_true rfl)) rfl rfl fun a53 h53 => ?_; clear h52
 refine wl_val h53 (r_ldbw (i := 0) (vs := [.int .i64 ((checkG (pgOf code words locks regs)).code), .int .i64 ((checkG (pgOf code words locks regs)).thread), .int .i64 ((checkG (pgOf code words locks regs)).at_)]) ti_31 rfl rfl rfl rfl rfl) (wanted_yes h53.fr rfl rfl rfl rfl (decide_eq_true rfl)) rfl rfl fun a54 h54 => ?_; clear h53
 refine wl_val h54 (r_eqS rfl rfl rfl (fun w => eq_fltG _ _ ⟨(checkG (pgOf code words locks regs)).code, (checkG (pgOf code words locks regs)).thread, (checkG (pgOf code words locks regs)).at_⟩ ⟨(checkG (pgOf code words locks regs)).code, (checkG (pgOf code words locks regs)).thread, (checkG (pgOf code words locks regs)).at_⟩ w) (fun w => eq_flt ⟨(checkG (pgOf code words locks regs)).code, (checkG (pgOf code words locks regs)).thread, (checkG (pgOf code words locks regs)).at_⟩ ⟨(checkG (pgOf code words locks regs)).code, (checkG (pgOf code words locks regs)).thread, (checkG (pgOf code words locks regs)).at_⟩ w)) (wanted_yes h54.fr rfl rfl rfl rfl (decide_eq_true rfl)) rfl rfl fun a55 h55 => ?_; clear h54
 refine wv h55 (r_pickT rfl rfl (decide_eq_true rfl) rfl) rfl rfl fun a56 h56 => ?_; clear h55
 refine wms 1 h56 rfl fun a57 h57 => ?_; clear h56
 refine wl_val h57 (r_move rfl rfl) (wanted_yes h57.fr rfl rfl rfl rfl (decide_eq_true rfl)) rfl rfl fun a58 h58 => ?_; clear h57
 refine wv h58 (r_pickT rfl rfl (decide_eq_true rfl) rfl) rfl rfl fun a59 h59 => ?_; clear h58
 refine wms 1 h59 rfl fun a60 h60 => ?_; clear h59
 refine wl_val h60 (r_move rfl rfl) (wanted_yes h60.fr rfl rfl rfl rfl rfl) rfl rfl fun a61 h61 => ?_; clear h60
 refine wv h61 (r_pickT rfl rfl rfl rfl) rfl rfl fun a62 h62 => ?_; clear h61
 refine wms 1 h62 rfl fun a63 h63 => ?_; clear h62
 refine wpList_nil ?_
 refine hK48 _ _ ?_
 refine wp_ret ?_
 try simp only [Exit.then, Exit.inBlock]
 refine x_ret1 (fn := Try.f17) (t := 2) rfl h63 rfl ?_
 exact ⟨rfl, (h63.sh.sel [] (by decide) trivial)⟩

set_option maxRecDepth 100000 in
set_option maxHeartbeats 4000000 in
theorem fenceMakes_k (code : Ls (Ls Ins)) (words : Ls Int) (locks regs : Int) (W : World) (hcode : code.At W) (hwords : words.At W) (hv : vastG (code.l.map (·.l)) words.l = false) (hok : OkPg (pgOf code words locks regs)) (hshort : ∀ j, j < code.l.length → (withL (fulW code j) (nth code.l j).l).length ≤ 400) :
    Rets Try.prog 17 [.agg #[code.v, words.v, .int .i64 locks, .int .i64 regs]] W (fun v w' => v = .bool true ∧ Sh0 W w' []) := by
 have hz := checkG_ok hok
 obtain ⟨hl1, hl2, hl3, hl4', hl5, hl6, hl7⟩ := ok_len hok
 refine x_enter (N := 89) Try.func17 rfl Try.ntmps17 (Nat.le_of_ble_eq_true rfl) fun a1 hf1 => ?_
 have h1 : St 89 (fun _ => False) W a1 W [(0, .agg #[code.v, words.v, .int .i64 locks, .int .i64 regs])] [.at_ code, .at_ words] := ⟨hf1.sub ⟨rfl, trivial⟩, Sh0.ext2 hcode hwords⟩
 clear hf1
 refine wp_seq_k fun K2 hK2 => ?_
 refine wp_region_lit ?_
 refine wl_ex (x_box (cs := [code.v, words.v, .int .i64 locks, .int .i64 regs]) h1 rfl rfl rfl rfl rfl) (wanted_none rfl _) ?_
 rintro a3 w3 ⟨b3, h3⟩; clear h1
 refine wms 1 h3 rfl fun a4 h4 => ?_; clear h3
 refine wpList_nil ?_
 refine hK2 _ _ ?_
 refine wp_seq_k fun K5 hK5 => ?_
 refine wp_seq_k fun K6 hK6 => ?_
 refine wp_region_lit ?_
 refine wv h4 (r_ldbw (i := 0) (vs := [code.v, words.v, .int .i64 locks, .int .i64 regs]) ti_28 rfl rfl rfl rfl rfl) rfl rfl fun a7 h7 => ?_; clear h4
 refine wl_ex (x_call h7 bd_18 rfl rfl rfl rfl rfl (vast_c (code := code) (words := words) (locks := locks) (regs := regs) (h7.sh.at 1 rfl) (h7.sh.at 2 rfl))) (wanted_none rfl _) ?_
 rintro a8 w8 ⟨_, ⟨rfl, hs8⟩, hf8⟩
 have h8 : St 89 (fun _ => False) W a8 w8 _ _ := ⟨hf8, h7.sh.call0 hs8⟩
 clear hf8 hs8
 clear h7
 refine wpList_nil ?_
 refine hK6 _ _ ?_
 refine x_condF h8 rfl hv ?_
 refine wp_skip ?_
 refine hK5 _ _ ?_
 refine wp_seq_k fun K9 hK9 => ?_
 refine wp_region_lit ?_
 refine wv h8 (r_ldbw (i := 0) (vs := [code.v, words.v, .int .i64 locks, .int .i64 regs]) ti_28 rfl rfl rfl rfl rfl) rfl rfl fun a10 h10 => ?_; clear h8
 refine wl_ex (x_call h10 bd_23 rfl rfl rfl rfl rfl (full_k code words locks regs _ (h10.sh.at 1 rfl) (h10.sh.at 2 rfl) hok hshort)) (wanted_none rfl _) ?_
 rintro a11 w11 ⟨_, ⟨c11, u11, rfl, hq11, hu11, hs11⟩, hf11⟩
 have h11 := (⟨hf11, h10.sh.call hs11 (by intro A hA b hb; first | (simp at hA; done) | (simp at hA; subst hA; first | exact Flat.noRd hb | exact (hb : False).elim) | (simp at hA; rcases hA with rfl | rfl <;> first | exact Flat.noRd hb | exact (hb : False).elim))⟩ : St 89 (fun _ => False) W a11 w11 _ _)
 clear hf11 hs11
 clear h10
 refine wms 1 h11 rfl fun a12 h12 => ?_; clear h11
 refine wv h12 (r_extract rfl rfl rfl) rfl rfl fun a13 h13 => ?_; clear h12
 refine wv h13 (r_extract rfl rfl rfl) rfl rfl fun a14 h14 => ?_; clear h13
 refine wl_ex (x_alloc h14 ti_28 rfl rfl rfl) (wanted_none rfl _) ?_
 rintro a15 w15 ⟨b15, h15⟩; clear h14
 refine wl_ex (x_alloc h15 ti_31 rfl rfl rfl) (wanted_none rfl _) ?_
 rintro a16 w16 ⟨b16, h16⟩; clear h15
 refine wl_ex (x_stb (i := 1) (vs := [c11.v, u11.v, .int .i64 locks, .int .i64 regs]) (cs' := [c11.v, u11.v, .int .i64 locks, .int .i64 regs]) h16 ti_28 rfl rfl rfl rfl rfl rfl rfl (allOne_cons ((h16.sh.deep 2 rfl)).one (allOne_cons ((h16.sh.own 3 rfl)).one (allOne_cons rfl (allOne_cons rfl allOne_nil)))) (Nat.le_of_ble_eq_true rfl) rfl) (wanted_none rfl _) ?_
 rintro a17 w17 h17
 clear h16
 refine wl_ex (x_stb (i := 0) (vs := [.int .i64 0, .int .i64 0, .int .i64 0]) (cs' := [.int .i64 0, .int .i64 0, .int .i64 0]) h17 ti_31 rfl rfl rfl rfl rfl rfl rfl (allOne_cons rfl (allOne_cons rfl (allOne_cons rfl allOne_nil))) (Nat.le_of_ble_eq_true rfl) rfl) (wanted_none rfl _) ?_
 rintro a18 w18 h18
 clear h17
 refine wpList_nil ?_
 refine hK9 _ _ ?_
 refine wp_seq_k fun K19 hK19 => ?_
 refine wp_region_lit ?_
 refine wv h18 (r_ldbw (i := 4) (vs := [code.v, words.v, .int .i64 locks, .int .i64 regs]) ti_28 rfl rfl rfl rfl rfl) rfl rfl fun a20 h20 => ?_; clear h18
 refine wl_ex (x_call h20 bd_35 rfl rfl rfl rfl rfl (drop_k code words locks regs _ (h20.sh.at 5 rfl) (h20.sh.at 6 rfl) hok)) (wanted_none rfl _) ?_
 rintro a21 w21 ⟨_, ⟨c21, u21, rfl, hq21, hu21, hs21⟩, hf21⟩
 have h21 := (⟨hf21, h20.sh.call hs21 (by intro A hA b hb; first | (simp at hA; done) | (simp at hA; subst hA; first | exact Flat.noRd hb | exact (hb : False).elim) | (simp at hA; rcases hA with rfl | rfl <;> first | exact Flat.noRd hb | exact (hb : False).elim))⟩ : St 89 (fun _ => False) W a21 w21 _ _)
 clear hf21 hs21
 clear h20
 refine wms 1 h21 rfl fun a22 h22 => ?_; clear h21
 refine wv h22 (r_extract rfl rfl rfl) rfl rfl fun a23 h23 => ?_; clear h22
 refine wv h23 (r_extract rfl rfl rfl) rfl rfl fun a24 h24 => ?_; clear h23
 refine wl_ex (x_alloc h24 ti_28 rfl rfl rfl) (wanted_none rfl _) ?_
 rintro a25 w25 ⟨b25, h25⟩; clear h24
 refine wl_ex (x_alloc h25 ti_31 rfl rfl rfl) (wanted_none rfl _) ?_
 rintro a26 w26 ⟨b26, h26⟩; clear h25
 refine wl_ex (x_stb (i := 1) (vs := [c21.v, u21.v, .int .i64 locks, .int .i64 regs]) (cs' := [c21.v, u21.v, .int .i64 locks, .int .i64 regs]) h26 ti_28 rfl rfl rfl rfl rfl rfl rfl (allOne_cons ((h26.sh.deep 2 rfl)).one (allOne_cons ((h26.sh.own 3 rfl)).one (allOne_cons rfl (allOne_cons rfl allOne_nil)))) (Nat.le_of_ble_eq_true rfl) rfl) (wanted_none rfl _) ?_
 rintro a27 w27 h27
 clear h26
 refine wl_ex (x_stb (i := 0) (vs := [.int .i64 0, .int .i64 0, .int .i64 0]) (cs' := [.int .i64 0, .int .i64 0, .int .i64 0]) h27 ti_31 rfl rfl rfl rfl rfl rfl rfl (allOne_cons rfl (allOne_cons rfl (allOne_cons rfl allOne_nil))) (Nat.le_of_ble_eq_true rfl) rfl) (wanted_none rfl _) ?_
 rintro a28 w28 h28
 clear h27
 refine wpList_nil ?_
 refine hK19 _ _ ?_
 refine wp_seq_k fun K29 hK29 => ?_
 refine wp_region_lit ?_
 refine wv h28 (r_ldbw (i := 8) (vs := [code.v, words.v, .int .i64 locks, .int .i64 regs]) ti_28 rfl rfl rfl rfl rfl) rfl rfl fun a30 h30 => ?_; clear h28
 refine wl_ex (x_call h30 bd_20 rfl rfl rfl rfl rfl (refCheck_c (code := code) (words := words) (locks := locks) (regs := regs) (h30.sh.at 9 rfl) (h30.sh.at 10 rfl))) (wanted_none rfl _) ?_
 rintro a31 w31 ⟨_, ⟨rfl, hs31⟩, hf31⟩
 have h31 : St 89 (fun _ => False) W a31 w31 _ _ := ⟨hf31, h30.sh.call0 hs31⟩
 clear hf31 hs31
 clear h30
 refine wl_ex (x_alloc h31 ti_31 rfl rfl rfl) (wanted_none rfl _) ?_
 rintro a32 w32 ⟨b32, h32⟩; clear h31
 refine wl_ex (x_stb (i := 0) (vs := [.int .i64 ((checkG (pgOf code words locks regs)).code), .int .i64 ((checkG (pgOf code words locks regs)).thread), .int .i64 ((checkG (pgOf code words locks regs)).at_)]) (cs' := [.int .i64 ((checkG (pgOf code words locks regs)).code), .int .i64 ((checkG (pgOf code words locks regs)).thread), .int .i64 ((checkG (pgOf code words locks regs)).at_)]) h32 ti_31 rfl rfl rfl rfl rfl rfl rfl (allOne_cons rfl (allOne_cons rfl (allOne_cons rfl allOne_nil))) (Nat.le_of_ble_eq_true rfl) rfl) (wanted_none rfl _) ?_
 rintro a33 w33 h33
 clear h32
 refine wpList_nil ?_
 refine hK29 _ _ ?_
 refine wp_seq_k fun K34 hK34 => ?_
 refine wp_region_lit ?_
 refine wv h33 (r_ldbw (i := 2) (vs := [c21.v, u21.v, .int .i64 locks, .int .i64 regs]) ti_28 rfl rfl rfl rfl rfl) rfl rfl fun a35 h35 => ?_; clear h33
 refine wl_ex (x_call h35 bd_27 rfl rfl rfl rfl rfl (none_c c21 u21 locks regs _ (h35.sh.deep 3 rfl) (h35.sh.own 4 rfl))) (wanted_none rfl _) ?_
 rintro a36 w36 ⟨_, ⟨rfl, hs36⟩, hf36⟩
 have h36 : St 89 (fun _ => False) W a36 w36 _ _ := ⟨hf36, h35.sh.call0 hs36⟩
 clear hf36 hs36
 clear h35
 refine wms 1 h36 rfl fun a37 h37 => ?_; clear h36
 refine wpList_nil ?_
 refine hK34 _ _ ?_
 refine wp_seq_k fun K38 hK38 => ?_
 refine wp_seq_k fun K39 hK39 => ?_
 refine wp_region_lit ?_
 refine wv h37 (r_fieldB (r := 0) fl_31_0 rfl rfl rfl) rfl rfl fun a40 h40 => ?_; clear h37
 refine wv h40 (r_ldb (i := 0) ti_22 rfl rfl rfl rfl) rfl rfl fun a41 h41 => ?_; clear h40
 refine wv h41 (r_neqI (p := (checkG (pgOf code words locks regs)).code) (q := 0) rfl rfl rfl) rfl rfl fun a42 h42 => ?_; clear h41
 refine wpList_nil ?_
 refine hK39 _ _ ?_
 refine x_condF h42 rfl (by rw [hz]; rfl) ?_
 refine wp_skip ?_
 refine hK38 _ _ ?_
 have h43 : St 89 (fun _ => False) W a42 w36 [(1, .pointer (some ⟨b3, 0, none⟩)), (3, .pointer (some ⟨b15, 0, none⟩)), (4, .pointer (some ⟨b16, 0, none⟩)), (5, .pointer (some ⟨b25, 0, none⟩)), (6, .pointer (some ⟨b26, 0, none⟩))] [.blk b32 31 [.int .i64 ((checkG (pgOf code words locks regs)).code), .int .i64 ((checkG (pgOf code words locks regs)).thread), .int .i64 ((checkG (pgOf code words locks regs)).at_)], .blk b26 31 [.int .i64 0, .int .i64 0, .int .i64 0], .blk b25 28 [c21.v, u21.v, .int .i64 locks, .int .i64 regs], .deep 64 c21, .own 3 u21, .blk b16 31 [.int .i64 0, .int .i64 0, .int .i64 0], .blk b15 28 [c11.v, u11.v, .int .i64 locks, .int .i64 regs], .deep 64 c11, .own 3 u11, .blk b3 28 [code.v, words.v, .int .i64 locks, .int .i64 regs], .at_ code, .at_ words] := h42.nrm ⟨rfl, rfl, rfl, rfl, rfl, trivial⟩ [0, 1, 2, 3, 4, 5, 6, 7, 8, 9, 10, 11] (by decide) ⟨rfl, rfl, rfl, rfl, rfl, rfl, rfl, rfl, rfl, rfl, rfl, rfl, trivial⟩
 clear h42
 refine wp_seq_k fun K44 hK44 => ?_
 refine wp_region_lit ?_
 refine wv h43 (r_ldbw (i := 9) (vs := [code.v, words.v, .int .i64 locks, .int .i64 regs]) ti_28 rfl rfl rfl rfl rfl) rfl rfl fun a45 h45 => ?_; clear h43
 refine wl_ex (x_call h45 bd_47 rfl rfl rfl rfl rfl (rDrop_c code words locks regs _ (h45.sh.at 10 rfl) (h45.sh.at 11 rfl) hok)) (wanted_none rfl _) ?_
 rintro a46 w46 ⟨_, ⟨c46, u46, rfl, hq46, hu46, hs46⟩, hf46⟩
 have h46 := (⟨hf46, h45.sh.call hs46 (by intro A hA b hb; first | (simp at hA; done) | (simp at hA; subst hA; first | exact Flat.noRd hb | exact (hb : False).elim) | (simp at hA; rcases hA with rfl | rfl <;> first | exact Flat.noRd hb | exact (hb : False).elim))⟩ : St 89 (fun _ => False) W a46 w46 _ _)
 clear hf46 hs46
 clear h45
 refine wl_ex (x_alloc h46 ti_28 rfl rfl rfl) (wanted_none rfl _) ?_
 rintro a47 w47 ⟨b47, h47⟩; clear h46
 refine wl_ex (x_stb (i := 0) (vs := [c46.v, u46.v, .int .i64 locks, .int .i64 regs]) (cs' := [c46.v, u46.v, .int .i64 locks, .int .i64 regs]) h47 ti_28 rfl rfl rfl rfl rfl rfl rfl (allOne_cons ((h47.sh.deep 1 rfl)).one (allOne_cons ((h47.sh.own 2 rfl)).one (allOne_cons rfl (allOne_cons rfl allOne_nil)))) (Nat.le_of_ble_eq_true rfl) rfl) (wanted_none rfl _) ?_
 rintro a48 w48 h48
 clear h47
 refine wpList_nil ?_
 refine hK44 _ _ ?_
 refine wp_seq_k fun K49 hK49 => ?_
 refine wp_region_lit ?_
 refine wv h48 (r_ldbw (i := 5) (vs := [c21.v, u21.v, .int .i64 locks, .int .i64 regs]) ti_28 rfl rfl rfl rfl rfl) rfl rfl fun a50 h50 => ?_; clear h48
 refine wv h50 (r_ldbw (i := 0) (vs := [c46.v, u46.v, .int .i64 locks, .int .i64 regs]) ti_28 rfl rfl rfl rfl rfl) rfl rfl fun a51 h51 => ?_; clear h50
 refine wl_ex (x_call h51 bd_29 rfl rfl rfl rfl rfl (same_c c21 u21 locks regs c46 u46 locks regs _ (h51.sh.deep 6 rfl) (h51.sh.own 7 rfl) (h51.sh.deep 1 rfl) (h51.sh.own 2 rfl))) (wanted_none rfl _) ?_
 rintro a52 w52 ⟨_, ⟨rfl, hs52⟩, hf52⟩
 have h52 : St 89 (fun _ => False) W a52 w52 _ _ := ⟨hf52, h51.sh.call0 hs52⟩
 clear hf52 hs52
 clear h51
 refine wms 1 h52 rfl fun a53 h53 => ?_; clear h52
 refine wpList_nil ?_
 refine hK49 _ _ ?_
 refine wp_seq_k fun K54 hK54 => ?_
 refine wp_seq_k fun K55 hK55 => ?_
 refine wp_region_lit ?_
 refine wv h53 (r_fieldB (r := 0) fl_31_0 rfl rfl rfl) rfl rfl fun a56 h56 => ?_; clear h53
 refine wv h56 (r_ldb (i := 4) ti_22 rfl rfl rfl rfl) rfl rfl fun a57 h57 => ?_; clear h56
 refine wv h57 (r_neqN (p := 0) (q := 0) rfl rfl rfl) rfl rfl fun a58 h58 => ?_; clear h57
 refine wms 1 h58 rfl fun a59 h59 => ?_; clear h58
 refine wl_val h59 (r_move rfl rfl) (wanted_yes h59.fr rfl rfl rfl rfl (by decide)) rfl rfl fun a60 h60 => ?_; clear h59
 refine wl_val h60 (r_not rfl rfl) (wanted_yes h60.fr rfl rfl rfl rfl (by decide)) rfl rfl fun a61 h61 => ?_; clear h60
 refine wv h61 (r_pickF rfl rfl (by decide) rfl) rfl rfl fun a62 h62 => ?_; clear h61
 refine wpList_nil ?_
 refine hK55 _ _ ?_
 refine x_condF h62 rfl (by rw [(decide_eq_true (pg_eq2 (by simp only [*]) (by simp only [*])))]; rfl) ?_
 refine wp_skip ?_
 refine hK54 _ _ ?_
 refine wp_seq_k fun K63 hK63 => ?_
 refine wp_region_lit ?_
 refine wv h62 (r_ldbw (i := 12) (vs := [code.v, words.v, .int .i64 locks, .int .i64 regs]) ti_28 rfl rfl rfl rfl rfl) rfl rfl fun a64 h64 => ?_; clear h62
 refine wl_ex (x_call h64 bd_48 rfl rfl rfl rfl rfl (rStores_c code words locks regs _ (h64.sh.at 13 rfl) (h64.sh.at 14 rfl) hok)) (wanted_none rfl _) ?_
 rintro a65 w65 ⟨_, ⟨o65, rfl, ho65, hs65⟩, hf65⟩
 have h65 := (⟨hf65, h64.sh.call hs65 (by intro A hA b hb; first | (simp at hA; done) | (simp at hA; subst hA; first | exact Flat.noRd hb | exact (hb : False).elim) | (simp at hA; rcases hA with rfl | rfl <;> first | exact Flat.noRd hb | exact (hb : False).elim))⟩ : St 89 (fun _ => False) W a65 w65 _ _)
 clear hf65 hs65
 clear h64
 refine wms 1 h65 rfl fun a66 h66 => ?_; clear h65
 refine wpList_nil ?_
 refine hK63 _ _ ?_
 refine wp_seq_k fun K67 hK67 => ?_
 refine wp_region_lit ?_
 refine wv h66 (r_ldbw (i := 13) (vs := [code.v, words.v, .int .i64 locks, .int .i64 regs]) ti_28 rfl rfl rfl rfl rfl) rfl rfl fun a68 h68 => ?_; clear h66
 refine wms 1 h68 rfl fun a69 h69 => ?_; clear h68
 refine wl_ex (x_call h69 bd_49 rfl rfl rfl rfl rfl (rWith_c code words locks regs o65 _ (h69.sh.at 14 rfl) (h69.sh.at 15 rfl) hok (h69.sh.deep 0 rfl) (st_len ho65).1 (st_len ho65).2)) (wanted_none rfl _) ?_
 rintro a70 w70 ⟨_, ⟨c70, u70, rfl, hq70, hu70, hs70⟩, hf70⟩
 rw [ful_eq ho65] at hq70
 have h70 := (⟨hf70, h69.sh.call hs70 (by intro A hA b hb; first | (simp at hA; done) | (simp at hA; subst hA; first | exact Flat.noRd hb | exact (hb : False).elim) | (simp at hA; rcases hA with rfl | rfl <;> first | exact Flat.noRd hb | exact (hb : False).elim))⟩ : St 89 (fun _ => False) W a70 w70 _ _)
 clear hf70 hs70
 clear h69
 refine wl_ex (x_stb (i := 3) (vs := [c70.v, u70.v, .int .i64 locks, .int .i64 regs]) (cs' := [c70.v, u70.v, .int .i64 locks, .int .i64 regs]) h70 ti_28 rfl rfl rfl rfl rfl rfl rfl (allOne_cons ((h70.sh.deep 0 rfl)).one (allOne_cons ((h70.sh.own 1 rfl)).one (allOne_cons rfl (allOne_cons rfl allOne_nil)))) (Nat.le_of_ble_eq_true rfl) rfl) (wanted_none rfl _) ?_
 rintro a71 w71 h71
 clear h70
 refine wpList_nil ?_
 refine hK67 _ _ ?_
 refine wp_seq_k fun K72 hK72 => ?_
 refine wp_region_lit ?_
 refine wv h71 (r_ldbw (i := 3) (vs := [c70.v, u70.v, .int .i64 locks, .int .i64 regs]) ti_28 rfl rfl rfl rfl rfl) rfl rfl fun a73 h73 => ?_; clear h71
 refine wl_ex (x_call h73 bd_50 rfl rfl rfl rfl rfl (rLong_c c70 u70 locks regs _ (h73.sh.deep 0 rfl) (h73.sh.own 1 rfl))) (wanted_none rfl _) ?_
 rintro a74 w74 ⟨_, ⟨n74, rfl, hlong, hs74⟩, hf74⟩
 have h74 : St 89 (fun _ => False) W a74 w74 _ _ := ⟨hf74, h73.sh.call0 hs74⟩
 clear hf74 hs74
 clear h73
 refine wms 1 h74 rfl fun a75 h75 => ?_; clear h74
 refine wpList_nil ?_
 refine hK72 _ _ ?_
 have h76 : St 89 (fun _ => False) W a75 w74 [(3, .pointer (some ⟨b15, 0, none⟩)), (4, .pointer (some ⟨b16, 0, none⟩)), (10, .pointer (some ⟨b47, 0, none⟩)), (13, .int .i64 n74)] [.deep 64 c70, .own 3 u70, .deep 66 o65, .blk b47 28 [c70.v, u70.v, .int .i64 locks, .int .i64 regs], .deep 64 c46, .own 3 u46, .blk b32 31 [.int .i64 ((checkG (pgOf code words locks regs)).code), .int .i64 ((checkG (pgOf code words locks regs)).thread), .int .i64 ((checkG (pgOf code words locks regs)).at_)], .blk b26 31 [.int .i64 0, .int .i64 0, .int .i64 0], .blk b25 28 [c21.v, u21.v, .int .i64 locks, .int .i64 regs], .deep 64 c21, .own 3 u21, .blk b16 31 [.int .i64 0, .int .i64 0, .int .i64 0], .blk b15 28 [c11.v, u11.v, .int .i64 locks, .int .i64 regs], .deep 64 c11, .own 3 u11, .blk b3 28 [code.v, words.v, .int .i64 locks, .int .i64 regs], .at_ code, .at_ words] := h75.nrm ⟨rfl, rfl, rfl, rfl, trivial⟩ [0, 1, 2, 3, 4, 5, 6, 7, 8, 9, 10, 11, 12, 13, 14, 15, 16, 17] (by decide) ⟨rfl, rfl, rfl, rfl, rfl, rfl, rfl, rfl, rfl, rfl, rfl, rfl, rfl, rfl, rfl, rfl, rfl, rfl, trivial⟩
 clear h75
 refine wp_seq_k fun K77 hK77 => ?_
 refine wp_seq_k fun K78 hK78 => ?_
 refine wp_region_lit ?_
 refine wms 1 h76 rfl fun a79 h79 => ?_; clear h76
 refine wv h79 (r_geqI (p := n74) (q := 0) rfl rfl rfl) rfl rfl fun a80 h80 => ?_; clear h79
 refine wpList_nil ?_
 refine hK78 _ _ ?_
 refine x_cond h80 rfl (fun hb81 => ?_) (fun hb81 => ?_)
 ·
  have hp81 : 0 ≤ n74 := of_decide_eq_true hb81
  exfalso
  have h9 := long_k (by assumption) hlong hshort; omega
 ·
  have hp81 : ¬ (0 ≤ n74) := of_decide_eq_false hb81
  refine wp_skip ?_
  refine hK77 _ _ ?_
  refine wp_seq_k fun K82 hK82 => ?_
  refine wp_region_lit ?_
  refine wv h80 (r_ldbw (i := 12) (vs := [c11.v, u11.v, .int .i64 locks, .int .i64 regs]) ti_28 rfl rfl rfl rfl rfl) rfl rfl fun a83 h83 => ?_; clear h80
  refine wv h83 (r_ldbw (i := 3) (vs := [c70.v, u70.v, .int .i64 locks, .int .i64 regs]) ti_28 rfl rfl rfl rfl rfl) rfl rfl fun a84 h84 => ?_; clear h83
  refine wl_ex (x_call h84 bd_29 rfl rfl rfl rfl rfl (same_c c11 u11 locks regs c70 u70 locks regs _ (h84.sh.deep 13 rfl) (h84.sh.own 14 rfl) (h84.sh.deep 0 rfl) (h84.sh.own 1 rfl))) (wanted_none rfl _) ?_
  rintro a85 w85 ⟨_, ⟨rfl, hs85⟩, hf85⟩
  have h85 : St 89 (fun _ => False) W a85 w85 _ _ := ⟨hf85, h84.sh.call0 hs85⟩
  clear hf85 hs85
  clear h84
  refine wms 1 h85 rfl fun a86 h86 => ?_; clear h85
  refine wpList_nil ?_
  refine hK82 _ _ ?_
  refine wp_seq_k fun K87 hK87 => ?_
  refine wp_region_lit ?_
  refine wv h86 (r_fieldB (r := 0) fl_31_0 rfl rfl rfl) rfl rfl fun a88 h88 => ?_; clear h86
  refine wv h88 (r_ldb (i := 11) ti_22 rfl rfl rfl rfl) rfl rfl fun a89 h89 => ?_; clear h88
  refine wv h89 (r_eqlN (p := 0) (q := 0) rfl rfl rfl) rfl rfl fun a90 h90 => ?_; clear h89
  refine wms 1 h90 rfl fun a91 h91 => ?_; clear h90
  refine wl_val h91 (r_move rfl rfl) (wanted_yes h91.fr rfl rfl rfl rfl (by decide)) rfl rfl fun a92 h92 => ?_; clear h91
  refine wv h92 (r_pickT rfl rfl (by decide) rfl) rfl rfl fun a93 h93 => ?_; clear h92
  refine wms 1 h93 rfl fun a94 h94 => ?_; clear h93
  refine wpList_nil ?_
  refine hK87 _ _ ?_
  refine wp_ret ?_
  try simp only [Exit.then, Exit.inBlock]
  refine x_ret1 (fn := Try.f17) (t := 2) rfl h94 rfl ?_
  refine ⟨?_, (h94.sh.sel [] (by decide) trivial)⟩
  first | rfl | (congr 1; refine decide_eq_true (pg_eq2 ?_ ?_) <;> simp only [*])

set_option maxRecDepth 100000 in
set_option maxHeartbeats 4000000 in
theorem fenceMakes_l (code : Ls (Ls Ins)) (words : Ls Int) (locks regs : Int) (k : Nat) (W : World) (hcode : code.At W) (hwords : words.At W) (hv : vastG (code.l.map (·.l)) words.l = false) (hok : OkPg (pgOf code words locks regs)) (hk : k < code.l.length) (h400 : 400 < (withL (fulW code k) (nth code.l k).l).length) (hbef : ∀ j, j < k → (withL (fulW code j) (nth code.l j).l).length ≤ 400) :
    Rets Try.prog 17 [.agg #[code.v, words.v, .int .i64 locks, .int .i64 regs]] W (fun v w' => v = .bool true ∧ Sh0 W w' []) := by
 have hz := checkG_ok hok
 obtain ⟨hl1, hl2, hl3, hl4', hl5, hl6, hl7⟩ := ok_len hok
 refine x_enter (N := 89) Try.func17 rfl Try.ntmps17 (Nat.le_of_ble_eq_true rfl) fun a1 hf1 => ?_
 have h1 : St 89 (fun _ => False) W a1 W [(0, .agg #[code.v, words.v, .int .i64 locks, .int .i64 regs])] [.at_ code, .at_ words] := ⟨hf1.sub ⟨rfl, trivial⟩, Sh0.ext2 hcode hwords⟩
 clear hf1
 refine wp_seq_k fun K2 hK2 => ?_
 refine wp_region_lit ?_
 refine wl_ex (x_box (cs := [code.v, words.v, .int .i64 locks, .int .i64 regs]) h1 rfl rfl rfl rfl rfl) (wanted_none rfl _) ?_
 rintro a3 w3 ⟨b3, h3⟩; clear h1
 refine wms 1 h3 rfl fun a4 h4 => ?_; clear h3
 refine wpList_nil ?_
 refine hK2 _ _ ?_
 refine wp_seq_k fun K5 hK5 => ?_
 refine wp_seq_k fun K6 hK6 => ?_
 refine wp_region_lit ?_
 refine wv h4 (r_ldbw (i := 0) (vs := [code.v, words.v, .int .i64 locks, .int .i64 regs]) ti_28 rfl rfl rfl rfl rfl) rfl rfl fun a7 h7 => ?_; clear h4
 refine wl_ex (x_call h7 bd_18 rfl rfl rfl rfl rfl (vast_c (code := code) (words := words) (locks := locks) (regs := regs) (h7.sh.at 1 rfl) (h7.sh.at 2 rfl))) (wanted_none rfl _) ?_
 rintro a8 w8 ⟨_, ⟨rfl, hs8⟩, hf8⟩
 have h8 : St 89 (fun _ => False) W a8 w8 _ _ := ⟨hf8, h7.sh.call0 hs8⟩
 clear hf8 hs8
 clear h7
 refine wpList_nil ?_
 refine hK6 _ _ ?_
 refine x_condF h8 rfl hv ?_
 refine wp_skip ?_
 refine hK5 _ _ ?_
 refine wp_seq_k fun K9 hK9 => ?_
 refine wp_region_lit ?_
 refine wv h8 (r_ldbw (i := 0) (vs := [code.v, words.v, .int .i64 locks, .int .i64 regs]) ti_28 rfl rfl rfl rfl rfl) rfl rfl fun a10 h10 => ?_; clear h8
 refine wl_ex (x_call h10 bd_23 rfl rfl rfl rfl rfl (full_l code words locks regs k _ (h10.sh.at 1 rfl) (h10.sh.at 2 rfl) hok hk h400 hbef)) (wanted_none rfl _) ?_
 rintro a11 w11 ⟨_, ⟨rfl, hs11⟩, hf11⟩
 have h11 : St 89 (fun _ => False) W a11 w11 _ _ := ⟨hf11, h10.sh.call0 hs11⟩
 clear hf11 hs11
 clear h10
 refine wms 1 h11 rfl fun a12 h12 => ?_; clear h11
 refine wv h12 (r_extract rfl rfl rfl) rfl rfl fun a13 h13 => ?_; clear h12
 refine wv h13 (r_extract rfl rfl rfl) rfl rfl fun a14 h14 => ?_; clear h13
 refine wl_ex (x_alloc h14 ti_28 rfl rfl rfl) (wanted_none rfl _) ?_
 rintro a15 w15 ⟨b15, h15⟩; clear h14
 refine wl_ex (x_alloc h15 ti_31 rfl rfl rfl) (wanted_none rfl _) ?_
 rintro a16 w16 ⟨b16, h16⟩; clear h15
 refine wl_ex (x_stb (i := 1) (vs := [(.slice none 0 0), (.slice none 0 0), .int .i64 0, .int .i64 0]) (cs' := [(.slice none 0 0), (.slice none 0 0), .int .i64 0, .int .i64 0]) h16 ti_28 rfl rfl rfl rfl rfl rfl rfl (allOne_cons ((Sh.nilAt (α := Ls Ins) h16.sh)).one (allOne_cons ((Sh.nilAt (α := Int) h16.sh)).one (allOne_cons rfl (allOne_cons rfl allOne_nil)))) (Nat.le_of_ble_eq_true rfl) rfl) (wanted_none rfl _) ?_
 rintro a17 w17 h17
 clear h16
 refine wl_ex (x_stb (i := 0) (vs := [.int .i64 1, .int .i64 ((k : Nat) : Int), .int .i64 0]) (cs' := [.int .i64 1, .int .i64 ((k : Nat) : Int), .int .i64 0]) h17 ti_31 rfl rfl rfl rfl rfl rfl rfl (allOne_cons rfl (allOne_cons rfl (allOne_cons rfl allOne_nil))) (Nat.le_of_ble_eq_true rfl) rfl) (wanted_none rfl _) ?_
 rintro a18 w18 h18
 clear h17
 refine wpList_nil ?_
 refine hK9 _ _ ?_
 refine wp_seq_k fun K19 hK19 => ?_
 refine wp_region_lit ?_
 refine wv h18 (r_ldbw (i := 2) (vs := [code.v, words.v, .int .i64 locks, .int .i64 regs]) ti_28 rfl rfl rfl rfl rfl) rfl rfl fun a20 h20 => ?_; clear h18
 refine wl_ex (x_call h20 bd_35 rfl rfl rfl rfl rfl (drop_k code words locks regs _ (h20.sh.at 3 rfl) (h20.sh.at 4 rfl) hok)) (wanted_none rfl _) ?_
 rintro a21 w21 ⟨_, ⟨c21, u21, rfl, hq21, hu21, hs21⟩, hf21⟩
 have h21 := (⟨hf21, h20.sh.call hs21 (by intro A hA b hb; first | (simp at hA; done) | (simp at hA; subst hA; first | exact Flat.noRd hb | exact (hb : False).elim) | (simp at hA; rcases hA with rfl | rfl <;> first | exact Flat.noRd hb | exact (hb : False).elim))⟩ : St 89 (fun _ => False) W a21 w21 _ _)
 clear hf21 hs21
 clear h20
 refine wms 1 h21 rfl fun a22 h22 => ?_; clear h21
 refine wv h22 (r_extract rfl rfl rfl) rfl rfl fun a23 h23 => ?_; clear h22
 refine wv h23 (r_extract rfl rfl rfl) rfl rfl fun a24 h24 => ?_; clear h23
 refine wl_ex (x_alloc h24 ti_28 rfl rfl rfl) (wanted_none rfl _) ?_
 rintro a25 w25 ⟨b25, h25⟩; clear h24
 refine wl_ex (x_alloc h25 ti_31 rfl rfl rfl) (wanted_none rfl _) ?_
 rintro a26 w26 ⟨b26, h26⟩; clear h25
 refine wl_ex (x_stb (i := 1) (vs := [c21.v, u21.v, .int .i64 locks, .int .i64 regs]) (cs' := [c21.v, u21.v, .int .i64 locks, .int .i64 regs]) h26 ti_28 rfl rfl rfl rfl rfl rfl rfl (allOne_cons ((h26.sh.deep 2 rfl)).one (allOne_cons ((h26.sh.own 3 rfl)).one (allOne_cons rfl (allOne_cons rfl allOne_nil)))) (Nat.le_of_ble_eq_true rfl) rfl) (wanted_none rfl _) ?_
 rintro a27 w27 h27
 clear h26
 refine wl_ex (x_stb (i := 0) (vs := [.int .i64 0, .int .i64 0, .int .i64 0]) (cs' := [.int .i64 0, .int .i64 0, .int .i64 0]) h27 ti_31 rfl rfl rfl rfl rfl rfl rfl (allOne_cons rfl (allOne_cons rfl (allOne_cons rfl allOne_nil))) (Nat.le_of_ble_eq_true rfl) rfl) (wanted_none rfl _) ?_
 rintro a28 w28 h28
 clear h27
 refine wpList_nil ?_
 refine hK19 _ _ ?_
 refine wp_seq_k fun K29 hK29 => ?_
 refine wp_region_lit ?_
 refine wv h28 (r_ldbw (i := 6) (vs := [code.v, words.v, .int .i64 locks, .int .i64 regs]) ti_28 rfl rfl rfl rfl rfl) rfl rfl fun a30 h30 => ?_; clear h28
 refine wl_ex (x_call h30 bd_20 rfl rfl rfl rfl rfl (refCheck_c (code := code) (words := words) (locks := locks) (regs := regs) (h30.sh.at 7 rfl) (h30.sh.at 8 rfl))) (wanted_none rfl _) ?_
 rintro a31 w31 ⟨_, ⟨rfl, hs31⟩, hf31⟩
 have h31 : St 89 (fun _ => False) W a31 w31 _ _ := ⟨hf31, h30.sh.call0 hs31⟩
 clear hf31 hs31
 clear h30
 refine wl_ex (x_alloc h31 ti_31 rfl rfl rfl) (wanted_none rfl _) ?_
 rintro a32 w32 ⟨b32, h32⟩; clear h31
 refine wl_ex (x_stb (i := 0) (vs := [.int .i64 ((checkG (pgOf code words locks regs)).code), .int .i64 ((checkG (pgOf code words locks regs)).thread), .int .i64 ((checkG (pgOf code words locks regs)).at_)]) (cs' := [.int .i64 ((checkG (pgOf code words locks regs)).code), .int .i64 ((checkG (pgOf code words locks regs)).thread), .int .i64 ((checkG (pgOf code words locks regs)).at_)]) h32 ti_31 rfl rfl rfl rfl rfl rfl rfl (allOne_cons rfl (allOne_cons rfl (allOne_cons rfl allOne_nil))) (Nat.le_of_ble_eq_true rfl) rfl) (wanted_none rfl _) ?_
 rintro a33 w33 h33
 clear h32
 refine wpList_nil ?_
 refine hK29 _ _ ?_
 refine wp_seq_k fun K34 hK34 => ?_
 refine wp_region_lit ?_
 refine wv h33 (r_ldbw (i := 2) (vs := [c21.v, u21.v, .int .i64 locks, .int .i64 regs]) ti_28 rfl rfl rfl rfl rfl) rfl rfl fun a35 h35 => ?_; clear h33
 refine wl_ex (x_call h35 bd_27 rfl rfl rfl rfl rfl (none_c c21 u21 locks regs _ (h35.sh.deep 3 rfl) (h35.sh.own 4 rfl))) (wanted_none rfl _) ?_
 rintro a36 w36 ⟨_, ⟨rfl, hs36⟩, hf36⟩
 have h36 : St 89 (fun _ => False) W a36 w36 _ _ := ⟨hf36, h35.sh.call0 hs36⟩
 clear hf36 hs36
 clear h35
 refine wms 1 h36 rfl fun a37 h37 => ?_; clear h36
 refine wpList_nil ?_
 refine hK34 _ _ ?_
 refine wp_seq_k fun K38 hK38 => ?_
 refine wp_seq_k fun K39 hK39 => ?_
 refine wp_region_lit ?_
 refine wv h37 (r_fieldB (r := 0) fl_31_0 rfl rfl rfl) rfl rfl fun a40 h40 => ?_; clear h37
 refine wv h40 (r_ldb (i := 0) ti_22 rfl rfl rfl rfl) rfl rfl fun a41 h41 => ?_; clear h40
 refine wv h41 (r_neqI (p := (checkG (pgOf code words locks regs)).code) (q := 0) rfl rfl rfl) rfl rfl fun a42 h42 => ?_; clear h41
 refine wpList_nil ?_
 refine hK39 _ _ ?_
 refine x_condF h42 rfl (by rw [hz]; rfl) ?_
 refine wp_skip ?_
 refine hK38 _ _ ?_
 have h43 : St 89 (fun _ => False) W a42 w36 [(1, .pointer (some ⟨b3, 0, none⟩)), (3, .pointer (some ⟨b15, 0, none⟩)), (4, .pointer (some ⟨b16, 0, none⟩)), (5, .pointer (some ⟨b25, 0, none⟩)), (6, .pointer (some ⟨b26, 0, none⟩))] [.blk b32 31 [.int .i64 ((checkG (pgOf code words locks regs)).code), .int .i64 ((checkG (pgOf code words locks regs)).thread), .int .i64 ((checkG (pgOf code words locks regs)).at_)], .blk b26 31 [.int .i64 0, .int .i64 0, .int .i64 0], .blk b25 28 [c21.v, u21.v, .int .i64 locks, .int .i64 regs], .deep 64 c21, .own 3 u21, .blk b16 31 [.int .i64 1, .int .i64 ((k : Nat) : Int), .int .i64 0], .blk b15 28 [(.slice none 0 0), (.slice none 0 0), .int .i64 0, .int .i64 0], .blk b3 28 [code.v, words.v, .int .i64 locks, .int .i64 regs], .at_ code, .at_ words] := h42.nrm ⟨rfl, rfl, rfl, rfl, rfl, trivial⟩ [0, 1, 2, 3, 4, 5, 6, 7, 8, 9] (by decide) ⟨rfl, rfl, rfl, rfl, rfl, rfl, rfl, rfl, rfl, rfl, trivial⟩
 clear h42
 refine wp_seq_k fun K44 hK44 => ?_
 refine wp_region_lit ?_
 refine wv h43 (r_ldbw (i := 7) (vs := [code.v, words.v, .int .i64 locks, .int .i64 regs]) ti_28 rfl rfl rfl rfl rfl) rfl rfl fun a45 h45 => ?_; clear h43
 refine wl_ex (x_call h45 bd_47 rfl rfl rfl rfl rfl (rDrop_c code words locks regs _ (h45.sh.at 8 rfl) (h45.sh.at 9 rfl) hok)) (wanted_none rfl _) ?_
 rintro a46 w46 ⟨_, ⟨c46, u46, rfl, hq46, hu46, hs46⟩, hf46⟩
 have h46 := (⟨hf46, h45.sh.call hs46 (by intro A hA b hb; first | (simp at hA; done) | (simp at hA; subst hA; first | exact Flat.noRd hb | exact (hb : False).elim) | (simp at hA; rcases hA with rfl | rfl <;> first | exact Flat.noRd hb | exact (hb : False).elim))⟩ : St 89 (fun _ => False) W a46 w46 _ _)
 clear hf46 hs46
 clear h45
 refine wl_ex (x_alloc h46 ti_28 rfl rfl rfl) (wanted_none rfl _) ?_
 rintro a47 w47 ⟨b47, h47⟩; clear h46
 refine wl_ex (x_stb (i := 0) (vs := [c46.v, u46.v, .int .i64 locks, .int .i64 regs]) (cs' := [c46.v, u46.v, .int .i64 locks, .int .i64 regs]) h47 ti_28 rfl rfl rfl rfl rfl rfl rfl (allOne_cons ((h47.sh.deep 1 rfl)).one (allOne_cons ((h47.sh.own 2 rfl)).one (allOne_cons rfl (allOne_cons rfl allOne_nil)))) (Nat.le_of_ble_eq_true rfl) rfl) (wanted_none rfl _) ?_
 rintro a48 w48 h48
 clear h47
 refine wpList_nil ?_
 refine hK44 _ _ ?_
 refine wp_seq_k fun K49 hK49 => ?_
 refine wp_region_lit ?_
 refine wv h48 (r_ldbw (i := 5) (vs := [c21.v, u21.v, .int .i64 locks, .int .i64 regs]) ti_28 rfl rfl rfl rfl rfl) rfl rfl fun a50 h50 => ?_; clear h48
 refine wv h50 (r_ldbw (i := 0) (vs := [c46.v, u46.v, .int .i64 locks, .int .i64 regs]) ti_28 rfl rfl rfl rfl rfl) rfl rfl fun a51 h51 => ?_; clear h50
 refine wl_ex (x_call h51 bd_29 rfl rfl rfl rfl rfl (same_c c21 u21 locks regs c46 u46 locks regs _ (h51.sh.deep 6 rfl) (h51.sh.own 7 rfl) (h51.sh.deep 1 rfl) (h51.sh.own 2 rfl))) (wanted_none rfl _) ?_
 rintro a52 w52 ⟨_, ⟨rfl, hs52⟩, hf52⟩
 have h52 : St 89 (fun _ => False) W a52 w52 _ _ := ⟨hf52, h51.sh.call0 hs52⟩
 clear hf52 hs52
 clear h51
 refine wms 1 h52 rfl fun a53 h53 => ?_; clear h52
 refine wpList_nil ?_
 refine hK49 _ _ ?_
 refine wp_seq_k fun K54 hK54 => ?_
 refine wp_seq_k fun K55 hK55 => ?_
 refine wp_region_lit ?_
 refine wv h53 (r_fieldB (r := 0) fl_31_0 rfl rfl rfl) rfl rfl fun a56 h56 => ?_; clear h53
 refine wv h56 (r_ldb (i := 4) ti_22 rfl rfl rfl rfl) rfl rfl fun a57 h57 => ?_; clear h56
 refine wv h57 (r_neqN (p := 0) (q := 0) rfl rfl rfl) rfl rfl fun a58 h58 => ?_; clear h57
 refine wms 1 h58 rfl fun a59 h59 => ?_; clear h58
 refine wl_val h59 (r_move rfl rfl) (wanted_yes h59.fr rfl rfl rfl rfl (by decide)) rfl rfl fun a60 h60 => ?_; clear h59
 refine wl_val h60 (r_not rfl rfl) (wanted_yes h60.fr rfl rfl rfl rfl (by decide)) rfl rfl fun a61 h61 => ?_; clear h60
 refine wv h61 (r_pickF rfl rfl (by decide) rfl) rfl rfl fun a62 h62 => ?_; clear h61
 refine wpList_nil ?_
 refine hK55 _ _ ?_
 refine x_condF h62 rfl (by rw [(decide_eq_true (pg_eq2 (by simp only [*]) (by simp only [*])))]; rfl) ?_
 refine wp_skip ?_
 refine hK54 _ _ ?_
 refine wp_seq_k fun K63 hK63 => ?_
 refine wp_region_lit ?_
 refine wv h62 (r_ldbw (i := 10) (vs := [code.v, words.v, .int .i64 locks, .int .i64 regs]) ti_28 rfl rfl rfl rfl rfl) rfl rfl fun a64 h64 => ?_; clear h62
 refine wl_ex (x_call h64 bd_48 rfl rfl rfl rfl rfl (rStores_c code words locks regs _ (h64.sh.at 11 rfl) (h64.sh.at 12 rfl) hok)) (wanted_none rfl _) ?_
 rintro a65 w65 ⟨_, ⟨o65, rfl, ho65, hs65⟩, hf65⟩
 have h65 := (⟨hf65, h64.sh.call hs65 (by intro A hA b hb; first | (simp at hA; done) | (simp at hA; subst hA; first | exact Flat.noRd hb | exact (hb : False).elim) | (simp at hA; rcases hA with rfl | rfl <;> first | exact Flat.noRd hb | exact (hb : False).elim))⟩ : St 89 (fun _ => False) W a65 w65 _ _)
 clear hf65 hs65
 clear h64
 refine wms 1 h65 rfl fun a66 h66 => ?_; clear h65
 refine wpList_nil ?_
 refine hK63 _ _ ?_
 refine wp_seq_k fun K67 hK67 => ?_
 refine wp_region_lit ?_
 refine wv h66 (r_ldbw (i := 11) (vs := [code.v, words.v, .int .i64 locks, .int .i64 regs]) ti_28 rfl rfl rfl rfl rfl) rfl rfl fun a68 h68 => ?_; clear h66
 refine wms 1 h68 rfl fun a69 h69 => ?_; clear h68
 refine wl_ex (x_call h69 bd_49 rfl rfl rfl rfl rfl (rWith_c code words locks regs o65 _ (h69.sh.at 12 rfl) (h69.sh.at 13 rfl) hok (h69.sh.deep 0 rfl) (st_len ho65).1 (st_len ho65).2)) (wanted_none rfl _) ?_
 rintro a70 w70 ⟨_, ⟨c70, u70, rfl, hq70, hu70, hs70⟩, hf70⟩
 rw [ful_eq ho65] at hq70
 have h70 := (⟨hf70, h69.sh.call hs70 (by intro A hA b hb; first | (simp at hA; done) | (simp at hA; subst hA; first | exact Flat.noRd hb | exact (hb : False).elim) | (simp at hA; rcases hA with rfl | rfl <;> first | exact Flat.noRd hb | exact (hb : False).elim))⟩ : St 89 (fun _ => False) W a70 w70 _ _)
 clear hf70 hs70
 clear h69
 refine wl_ex (x_stb (i := 3) (vs := [c70.v, u70.v, .int .i64 locks, .int .i64 regs]) (cs' := [c70.v, u70.v, .int .i64 locks, .int .i64 regs]) h70 ti_28 rfl rfl rfl rfl rfl rfl rfl (allOne_cons ((h70.sh.deep 0 rfl)).one (allOne_cons ((h70.sh.own 1 rfl)).one (allOne_cons rfl (allOne_cons rfl allOne_nil)))) (Nat.le_of_ble_eq_true rfl) rfl) (wanted_none rfl _) ?_
 rintro a71 w71 h71
 clear h70
 refine wpList_nil ?_
 refine hK67 _ _ ?_
 refine wp_seq_k fun K72 hK72 => ?_
 refine wp_region_lit ?_
 refine wv h71 (r_ldbw (i := 3) (vs := [c70.v, u70.v, .int .i64 locks, .int .i64 regs]) ti_28 rfl rfl rfl rfl rfl) rfl rfl fun a73 h73 => ?_; clear h71
 refine wl_ex (x_call h73 bd_50 rfl rfl rfl rfl rfl (rLong_c c70 u70 locks regs _ (h73.sh.deep 0 rfl) (h73.sh.own 1 rfl))) (wanted_none rfl _) ?_
 rintro a74 w74 ⟨_, ⟨n74, rfl, hlong, hs74⟩, hf74⟩
 have h74 : St 89 (fun _ => False) W a74 w74 _ _ := ⟨hf74, h73.sh.call0 hs74⟩
 clear hf74 hs74
 clear h73
 refine wms 1 h74 rfl fun a75 h75 => ?_; clear h74
 refine wpList_nil ?_
 refine hK72 _ _ ?_
 have h76 : St 89 (fun _ => False) W a75 w74 [(3, .pointer (some ⟨b15, 0, none⟩)), (4, .pointer (some ⟨b16, 0, none⟩)), (10, .pointer (some ⟨b47, 0, none⟩)), (13, .int .i64 n74)] [.deep 64 c70, .own 3 u70, .deep 66 o65, .blk b47 28 [c70.v, u70.v, .int .i64 locks, .int .i64 regs], .deep 64 c46, .own 3 u46, .blk b32 31 [.int .i64 ((checkG (pgOf code words locks regs)).code), .int .i64 ((checkG (pgOf code words locks regs)).thread), .int .i64 ((checkG (pgOf code words locks regs)).at_)], .blk b26 31 [.int .i64 0, .int .i64 0, .int .i64 0], .blk b25 28 [c21.v, u21.v, .int .i64 locks, .int .i64 regs], .deep 64 c21, .own 3 u21, .blk b16 31 [.int .i64 1, .int .i64 ((k : Nat) : Int), .int .i64 0], .blk b15 28 [(.slice none 0 0), (.slice none 0 0), .int .i64 0, .int .i64 0], .blk b3 28 [code.v, words.v, .int .i64 locks, .int .i64 regs], .at_ code, .at_ words] := h75.nrm ⟨rfl, rfl, rfl, rfl, trivial⟩ [0, 1, 2, 3, 4, 5, 6, 7, 8, 9, 10, 11, 12, 13, 14, 15] (by decide) ⟨rfl, rfl, rfl, rfl, rfl, rfl, rfl, rfl, rfl, rfl, rfl, rfl, rfl, rfl, rfl, rfl, trivial⟩
 clear h75
 refine wp_seq_k fun K77 hK77 => ?_
 refine wp_seq_k fun K78 hK78 => ?_
 refine wp_region_lit ?_
 refine wms 1 h76 rfl fun a79 h79 => ?_; clear h76
 refine wv h79 (r_geqI (p := n74) (q := 0) rfl rfl rfl) rfl rfl fun a80 h80 => ?_; clear h79
 refine wpList_nil ?_
 refine hK78 _ _ ?_
 refine x_cond h80 rfl (fun hb81 => ?_) (fun hb81 => ?_)
 ·
  have hp81 : 0 ≤ n74 := of_decide_eq_true hb81
  refine wp_seq_k fun K82 hK82 => ?_
  refine wp_region_lit ?_
  refine wv h80 (r_ldbw (i := 12) (vs := [(.slice none 0 0), (.slice none 0 0), .int .i64 0, .int .i64 0]) ti_28 rfl rfl rfl rfl rfl) rfl rfl fun a83 h83 => ?_; clear h80
  refine wl_ex (x_call h83 bd_27 rfl rfl rfl rfl rfl (none_c (⟨.slice none 0 0, []⟩ : Ls (Ls Ins)) (⟨.slice none 0 0, []⟩ : Ls Int) 0 0 _ (Sh.nilAt (α := Ls Ins) h83.sh) (Sh.nilAt (α := Int) h83.sh))) (wanted_none rfl _) ?_
  rintro a84 w84 ⟨_, ⟨rfl, hs84⟩, hf84⟩
  have h84 : St 89 (fun _ => False) W a84 w84 _ _ := ⟨hf84, h83.sh.call0 hs84⟩
  clear hf84 hs84
  clear h83
  refine wms 1 h84 rfl fun a85 h85 => ?_; clear h84
  refine wpList_nil ?_
  refine hK82 _ _ ?_
  refine wp_seq_k fun K86 hK86 => ?_
  refine wp_region_lit ?_
  refine wv h85 (r_ldbw (i := 11) (vs := [.int .i64 1, .int .i64 ((k : Nat) : Int), .int .i64 0]) ti_31 rfl rfl rfl rfl rfl) rfl rfl fun a87 h87 => ?_; clear h85
  refine wms 1 h87 rfl fun a88 h88 => ?_; clear h87
  refine wv h88 (r_build (cs := [.int .i64 1, .int .i64 n74, .int .i64 0]) rfl rfl (by kernel_rfl)) rfl rfl fun a89 h89 => ?_; clear h88
  refine wv h89 (r_eqS rfl rfl rfl (fun w => eq_fltG _ _ ⟨1, ((k : Nat) : Int), 0⟩ ⟨1, n74, 0⟩ w) (fun w => eq_flt ⟨1, ((k : Nat) : Int), 0⟩ ⟨1, n74, 0⟩ w)) rfl rfl fun a90 h90 => ?_; clear h89
  refine wms 1 h90 rfl fun a91 h91 => ?_; clear h90
  rcases Bool.eq_false_or_eq_true (decide ((⟨1, ((k : Nat) : Int), 0⟩ : Flt) = ⟨1, n74, 0⟩)) with hb92 | hb92
  ·
   have hp92 : (⟨1, ((k : Nat) : Int), 0⟩ : Flt) = ⟨1, n74, 0⟩ := of_decide_eq_true hb92
   refine wl_val h91 (r_move rfl rfl) (wanted_yes h91.fr rfl rfl rfl rfl hb92) rfl rfl fun a93 h93 => ?_; clear h91
   refine wv h93 (r_pickT rfl rfl hb92 rfl) rfl rfl fun a94 h94 => ?_; clear h93
   refine wms 1 h94 rfl fun a95 h95 => ?_; clear h94
   refine wpList_nil ?_
   refine hK86 _ _ ?_
   refine wp_ret ?_
   try simp only [Exit.then, Exit.inBlock]
   refine x_ret1 (fn := Try.f17) (t := 2) rfl h95 rfl ?_
   exact ⟨rfl, (h95.sh.sel [] (by decide) trivial)⟩
  ·
   have hp92 : ¬ ((⟨1, ((k : Nat) : Int), 0⟩ : Flt) = ⟨1, n74, 0⟩) := of_decide_eq_false hb92
   exfalso
   have h9 := long_l (by assumption) hlong hk h400 hbef; simp_all
 ·
  have hp81 : ¬ (0 ≤ n74) := of_decide_eq_false hb81
  exfalso
  have h9 := long_l (by assumption) hlong hk h400 hbef; omega

theorem fenceMakes_any (code : Ls (Ls Ins)) (words : Ls Int) (locks regs : Int) (W : World) (hcode : code.At W) (hwords : words.At W) : Rets Try.prog 17 [.agg #[code.v, words.v, .int .i64 locks, .int .i64 regs]] W (fun v w' => v = .bool true ∧ Sh0 W w' []) := by
  cases hv : vastG (code.l.map (·.l)) words.l with
  | true => exact fenceMakes_v code words locks regs W hcode hwords hv
  | false =>
    by_cases hok : OkPg (pgOf code words locks regs)
    · by_cases hsh : ∀ j, j < code.l.length → (withL (fulW code j) (nth code.l j).l).length ≤ 400
      · exact fenceMakes_k code words locks regs W hcode hwords hv hok hsh
      · have hex : ∃ k, k < code.l.length ∧ 400 < (withL (fulW code k) (nth code.l k).l).length := by
          apply Classical.byContradiction
          intro hn
          exact hsh fun j hj => Nat.le_of_not_lt fun h4 => hn ⟨j, hj, h4⟩
        have least : ∀ n, (∃ k, k < n ∧ k < code.l.length ∧ 400 < (withL (fulW code k) (nth code.l k).l).length) → ∃ k, k < code.l.length ∧ 400 < (withL (fulW code k) (nth code.l k).l).length ∧ ∀ j, j < k → (withL (fulW code j) (nth code.l j).l).length ≤ 400 := by
          intro n
          induction n with
          | zero => rintro ⟨k, hk, _⟩; omega
          | succ n ih =>
            rintro ⟨k, hk, h1, h2⟩
            by_cases hb : ∃ j, j < k ∧ j < code.l.length ∧ 400 < (withL (fulW code j) (nth code.l j).l).length
            · obtain ⟨j, hj, hj2⟩ := hb
              exact ih ⟨j, by omega, hj2⟩
            · exact ⟨k, h1, h2, fun j hj => Nat.le_of_not_lt fun h4 => hb ⟨j, hj, by omega, h4⟩⟩
        obtain ⟨k0, hk0⟩ := hex
        obtain ⟨k, hk, h4, hb⟩ := least (k0 + 1) ⟨k0, by omega, hk0⟩
        exact fenceMakes_l code words locks regs k W hcode hwords hv hok hk h4 hb
    · exact fenceMakes_b code words locks regs W hcode hwords hv (fun h => hok (checkG_code_pos.1 h))
end Go.Proofs.Ytanhbpofhebbaaa
