/-
  Contracts of functions of this program and of the references, each walked once.
-/
import Derived.Test.YtanhbpofhebbaaaX23
import Derived.Test.YtanhbpofhebbaaaX11
import Derived.Test.YtanhbpofhebbaaaF2
namespace Go.Proofs.Ytanhbpofhebbaaa
open Go.RowKit
set_option linter.unusedSimpArgs false
set_option linter.unusedVariables false


theorem fence_full {code c : Ls (Ls Ins)} {words u : Ls Int} {Lk R : Nat} (hok : OkPg (pgN code words Lk R)) (hsh : ∀ j, j < code.l.length → (withL (fulW code j) (nth code.l j).l).length ≤ 400) (hq : c.l.map (·.l) = (List.range code.l.length).map (fun t => withL (fulW code t) (nth code.l t).l)) (hu : u.l = words.l) :
    OkPg (pgN c u Lk R) ∧ ∀ o, Outs (pgN code words Lk R) 0 o ↔ Outs (pgN c u Lk R) 1 o := by
  have e : pgN c u Lk R = fullPg (pgN code words Lk R) := by
    unfold pgN pgOf fullPg
    rw [hq, hu]
    congr 1
    refine ext_nth _ _ (by simp) fun i hi => ?_
    have hi' : i < code.l.length := by simpa using hi
    rw [nth_map' _ _ _ (by simpa using hi'), nth_map' _ _ _ (by simpa using hi'), nth_map' _ _ _ hi', show nth (List.range code.l.length) i = i by simp [nth, hi']]
    rfl
  rw [e]
  have h2 := fullPg_ok hok (fun t ht => by rw [pgN_len] at ht; rw [pgN_code ht]; exact hsh t ht)
  exact ⟨h2, fun o => full_outs hok h2 o⟩

set_option maxRecDepth 100000 in
set_option maxHeartbeats 1000000 in
theorem make0_c (code : Ls (Ls Ins)) (words : Ls Int) (Lk R : Nat) (W : World) (hcode : code.At W) (hwords : words.At W) (hok : OkPg (pgN code words Lk R)) :
    Rets Try.prog 24 [.agg #[code.v, words.v, .int .i64 ((Lk : Nat) : Int), .int .i64 ((R : Nat) : Int)], .bool false] W (fun v w' => ∃ (g : Nat) (full : Bool) (sv kv hv bv : Value) (ends : Ls OutL), v = .pointer (some ⟨g, 0, none⟩) ∧ (full = false → Sorted_ (ends.l.map OutL.out) ∧ ∀ o, o ∈ ends.l.map OutL.out ↔ Outs (pgN code words Lk R) 0 o) ∧ (∀ o ∈ ends.l, ∀ b, Enc.on o b → W.heap.size ≤ b) ∧ Sh0 W w' [.blk g 49 [sv, kv, hv, bv, ends.v, .bool full], .own 56 ends]) := by
 refine x_enter (N := 10) Try.func24 rfl Try.ntmps24 (Nat.le_of_ble_eq_true rfl) fun a1 hf1 => ?_
 have h1 : St 10 (fun _ => False) W a1 W [(0, .agg #[code.v, words.v, .int .i64 ((Lk : Nat) : Int), .int .i64 ((R : Nat) : Int)]), (1, .bool false)] [.at_ code, .at_ words] := ⟨hf1.sub ⟨rfl, rfl, trivial⟩, Sh0.ext2 hcode hwords⟩
 clear hf1
 refine wp_seq_k fun K2 hK2 => ?_
 refine wp_region_lit ?_
 refine wl_ex (x_box (cs := [code.v, words.v, .int .i64 ((Lk : Nat) : Int), .int .i64 ((R : Nat) : Int)]) h1 rfl rfl rfl rfl rfl) (wanted_none rfl _) ?_
 rintro a3 w3 ⟨b3, h3⟩; clear h1
 refine wms 1 h3 rfl fun a4 h4 => ?_; clear h3
 refine wpList_nil ?_
 refine hK2 _ _ ?_
 refine wp_seq_k fun K5 hK5 => ?_
 refine wp_seq_k fun K6 hK6 => ?_
 refine wp_region_lit ?_
 refine wms 1 h4 rfl fun a7 h7 => ?_; clear h4
 refine wpList_nil ?_
 refine hK6 _ _ ?_
 refine x_condF h7 rfl rfl ?_
 refine wp_skip ?_
 refine hK5 _ _ ?_
 refine wp_seq_k fun K8 hK8 => ?_
 refine wp_region_lit ?_
 refine wv h7 (r_ldbw (i := 0) (vs := [code.v, words.v, .int .i64 ((Lk : Nat) : Int), .int .i64 ((R : Nat) : Int)]) ti_28 rfl rfl rfl rfl rfl) rfl rfl fun a9 h9 => ?_; clear h7
 refine wl_ex (x_call h9 bd_67 rfl rfl rfl rfl rfl (by_c code words Lk R 0 _ (h9.sh.at 1 rfl) (h9.sh.at 2 rfl) hok)) (wanted_none rfl _) ?_
 rintro a10 w10 ⟨_, ⟨g10, fu10, sv10, kv10, hv10, bv10, en10, rfl, hby10, hnw10, hs10⟩, hf10⟩
 have hsz10 := h9.sh.chg.size
 have h10 := (⟨hf10, h9.sh.call hs10 (by intro A hA b hb; simp only [List.mem_cons, List.not_mem_nil, or_false] at hA; rcases hA with rfl | rfl; exact (hb : False).elim; exact .inl (by obtain ⟨i9, hi9, hb9⟩ := hb; exact hnw10 _ (nth_mem _ _ hi9) b hb9))⟩ : St 10 (fun _ => False) W a10 w10 _ _)
 clear hf10 hs10
 clear h9
 refine wms 1 h10 rfl fun a11 h11 => ?_; clear h10
 refine wpList_nil ?_
 refine hK8 _ _ ?_
 refine wp_ret ?_
 try simp only [Exit.then, Exit.inBlock]
 refine x_ret1 (fn := Try.f24) (t := 4) rfl h11 rfl ?_
 exact ⟨g10, fu10, _, _, _, _, en10, rfl, hby10, (fun o ho b hb => Nat.le_trans hsz10 (hnw10 o ho b hb)), (h11.sh.sel (L' := [.blk g10 49 [sv10, kv10, hv10, bv10, en10.v, .bool fu10], .own 56 en10]) [0, 1] (by decide) ⟨rfl, rfl, trivial⟩)⟩

set_option maxRecDepth 100000 in
set_option maxHeartbeats 1000000 in
theorem make1_c (code : Ls (Ls Ins)) (words : Ls Int) (Lk R : Nat) (W : World) (hcode : code.At W) (hwords : words.At W) (hok : OkPg (pgN code words Lk R)) :
    Rets Try.prog 24 [.agg #[code.v, words.v, .int .i64 ((Lk : Nat) : Int), .int .i64 ((R : Nat) : Int)], .bool true] W (fun v w' => ∃ (g : Nat) (full : Bool) (sv kv hv bv : Value) (ends : Ls OutL), v = .pointer (some ⟨g, 0, none⟩) ∧ (full = false → Sorted_ (ends.l.map OutL.out) ∧ ∀ o, o ∈ ends.l.map OutL.out ↔ Outs (pgN code words Lk R) 1 o) ∧ (∀ o ∈ ends.l, ∀ b, Enc.on o b → W.heap.size ≤ b) ∧ Sh0 W w' [.blk g 49 [sv, kv, hv, bv, ends.v, .bool full], .own 56 ends]) := by
 refine x_enter (N := 10) Try.func24 rfl Try.ntmps24 (Nat.le_of_ble_eq_true rfl) fun a1 hf1 => ?_
 have h1 : St 10 (fun _ => False) W a1 W [(0, .agg #[code.v, words.v, .int .i64 ((Lk : Nat) : Int), .int .i64 ((R : Nat) : Int)]), (1, .bool true)] [.at_ code, .at_ words] := ⟨hf1.sub ⟨rfl, rfl, trivial⟩, Sh0.ext2 hcode hwords⟩
 clear hf1
 refine wp_seq_k fun K2 hK2 => ?_
 refine wp_region_lit ?_
 refine wl_ex (x_box (cs := [code.v, words.v, .int .i64 ((Lk : Nat) : Int), .int .i64 ((R : Nat) : Int)]) h1 rfl rfl rfl rfl rfl) (wanted_none rfl _) ?_
 rintro a3 w3 ⟨b3, h3⟩; clear h1
 refine wms 1 h3 rfl fun a4 h4 => ?_; clear h3
 refine wpList_nil ?_
 refine hK2 _ _ ?_
 refine wp_seq_k fun K5 hK5 => ?_
 refine wp_seq_k fun K6 hK6 => ?_
 refine wp_region_lit ?_
 refine wms 1 h4 rfl fun a7 h7 => ?_; clear h4
 refine wpList_nil ?_
 refine hK6 _ _ ?_
 refine x_condT h7 rfl rfl ?_
 refine wp_seq_k fun K8 hK8 => ?_
 refine wp_region_lit ?_
 refine wv h7 (r_ldbw (i := 0) (vs := [code.v, words.v, .int .i64 ((Lk : Nat) : Int), .int .i64 ((R : Nat) : Int)]) ti_28 rfl rfl rfl rfl rfl) rfl rfl fun a9 h9 => ?_; clear h7
 refine wl_ex (x_call h9 bd_67 rfl rfl rfl rfl rfl (by_c code words Lk R 1 _ (h9.sh.at 1 rfl) (h9.sh.at 2 rfl) hok)) (wanted_none rfl _) ?_
 rintro a10 w10 ⟨_, ⟨g10, fu10, sv10, kv10, hv10, bv10, en10, rfl, hby10, hnw10, hs10⟩, hf10⟩
 have hsz10 := h9.sh.chg.size
 have h10 := (⟨hf10, h9.sh.call hs10 (by intro A hA b hb; simp only [List.mem_cons, List.not_mem_nil, or_false] at hA; rcases hA with rfl | rfl; exact (hb : False).elim; exact .inl (by obtain ⟨i9, hi9, hb9⟩ := hb; exact hnw10 _ (nth_mem _ _ hi9) b hb9))⟩ : St 10 (fun _ => False) W a10 w10 _ _)
 clear hf10 hs10
 clear h9
 refine wms 1 h10 rfl fun a11 h11 => ?_; clear h10
 refine wpList_nil ?_
 refine hK8 _ _ ?_
 refine wp_ret ?_
 try simp only [Exit.then, Exit.inBlock]
 refine x_ret1 (fn := Try.f24) (t := 4) rfl h11 rfl ?_
 exact ⟨g10, fu10, _, _, _, _, en10, rfl, hby10, (fun o ho b hb => Nat.le_trans hsz10 (hnw10 o ho b hb)), (h11.sh.sel (L' := [.blk g10 49 [sv10, kv10, hv10, bv10, en10.v, .bool fu10], .own 56 en10]) [0, 1] (by decide) ⟨rfl, rfl, trivial⟩)⟩

set_option maxRecDepth 100000 in
set_option maxHeartbeats 4000000 in
theorem fenceFull_v (code : Ls (Ls Ins)) (words : Ls Int) (locks regs : Int) (W : World) (hcode : code.At W) (hwords : words.At W) (hv : vastG (code.l.map (·.l)) words.l = true) :
    Rets Try.prog 7 [.agg #[code.v, words.v, .int .i64 locks, .int .i64 regs]] W (fun v w' => v = .bool true ∧ Sh0 W w' []) := by
 refine x_enter (N := 67) Try.func7 rfl Try.ntmps7 (Nat.le_of_ble_eq_true rfl) fun a1 hf1 => ?_
 have h1 : St 67 (fun _ => False) W a1 W [(0, .agg #[code.v, words.v, .int .i64 locks, .int .i64 regs])] [.at_ code, .at_ words] := ⟨hf1.sub ⟨rfl, trivial⟩, Sh0.ext2 hcode hwords⟩
 clear hf1
 refine wp_seq_k fun K2 hK2 => ?_
 refine wp_region_lit ?_
 refine wl_ex (x_box (cs := [code.v, words.v, .int .i64 locks, .int .i64 regs]) h1 rfl rfl rfl rfl rfl) (wanted_none rfl _) ?_
 rintro a3 w3 ⟨b3, h3⟩; clear h1
 refine wms 1 h3 rfl fun a4 h4 => ?_; clear h3
 refine wpList_nil ?_
 refine hK2 _ _ ?_
 refine wp_seq_k fun K5 hK5 => ?_
 refine wp_seq_k fun K6 hK6 => ?_
 refine wp_region_lit ?_
 refine wv h4 (r_ldbw (i := 0) (vs := [code.v, words.v, .int .i64 locks, .int .i64 regs]) ti_28 rfl rfl rfl rfl rfl) rfl rfl fun a7 h7 => ?_; clear h4
 refine wl_ex (x_call h7 bd_18 rfl rfl rfl rfl rfl (vast_c (code := code) (words := words) (locks := locks) (regs := regs) (h7.sh.at 1 rfl) (h7.sh.at 2 rfl))) (wanted_none rfl _) ?_
 rintro a8 w8 ⟨_, ⟨rfl, hs8⟩, hf8⟩
 have h8 : St 67 (fun _ => False) W a8 w8 _ _ := ⟨hf8, h7.sh.call0 hs8⟩
 clear hf8 hs8
 clear h7
 refine wpList_nil ?_
 refine hK6 _ _ ?_
 refine x_condT h8 rfl hv ?_
 refine wp_seq_k fun K9 hK9 => ?_
 refine wp_region_lit ?_
 refine wms 1 h8 rfl fun a10 h10 => ?_; clear h8
 refine wpList_nil ?_
 refine hK9 _ _ ?_
 refine wp_ret ?_
 try simp only [Exit.then, Exit.inBlock]
 refine x_ret1 (fn := Try.f7) (t := 2) rfl h10 rfl ?_
 exact ⟨rfl, (h10.sh.sel [] (by decide) trivial)⟩

set_option maxRecDepth 100000 in
set_option maxHeartbeats 4000000 in
theorem fenceFull_b (code : Ls (Ls Ins)) (words : Ls Int) (locks regs : Int) (W : World) (hcode : code.At W) (hwords : words.At W) (hv : vastG (code.l.map (·.l)) words.l = false) (hz : (checkG (pgOf code words locks regs)).code ≠ 0) :
    Rets Try.prog 7 [.agg #[code.v, words.v, .int .i64 locks, .int .i64 regs]] W (fun v w' => v = .bool true ∧ Sh0 W w' []) := by
 refine x_enter (N := 67) Try.func7 rfl Try.ntmps7 (Nat.le_of_ble_eq_true rfl) fun a1 hf1 => ?_
 have h1 : St 67 (fun _ => False) W a1 W [(0, .agg #[code.v, words.v, .int .i64 locks, .int .i64 regs])] [.at_ code, .at_ words] := ⟨hf1.sub ⟨rfl, trivial⟩, Sh0.ext2 hcode hwords⟩
 clear hf1
 refine wp_seq_k fun K2 hK2 => ?_
 refine wp_region_lit ?_
 refine wl_ex (x_box (cs := [code.v, words.v, .int .i64 locks, .int .i64 regs]) h1 rfl rfl rfl rfl rfl) (wanted_none rfl _) ?_
 rintro a3 w3 ⟨b3, h3⟩; clear h1
 refine wms 1 h3 rfl fun a4 h4 => ?_; clear h3
 refine wpList_nil ?_
 refine hK2 _ _ ?_
 refine wp_seq_k fun K5 hK5 => ?_
 refine wp_seq_k fun K6 hK6 => ?_
 refine wp_region_lit ?_
 refine wv h4 (r_ldbw (i := 0) (vs := [code.v, words.v, .int .i64 locks, .int .i64 regs]) ti_28 rfl rfl rfl rfl rfl) rfl rfl fun a7 h7 => ?_; clear h4
 refine wl_ex (x_call h7 bd_18 rfl rfl rfl rfl rfl (vast_c (code := code) (words := words) (locks := locks) (regs := regs) (h7.sh.at 1 rfl) (h7.sh.at 2 rfl))) (wanted_none rfl _) ?_
 rintro a8 w8 ⟨_, ⟨rfl, hs8⟩, hf8⟩
 have h8 : St 67 (fun _ => False) W a8 w8 _ _ := ⟨hf8, h7.sh.call0 hs8⟩
 clear hf8 hs8
 clear h7
 refine wpList_nil ?_
 refine hK6 _ _ ?_
 refine x_condF h8 rfl hv ?_
 refine wp_skip ?_
 refine hK5 _ _ ?_
 refine wp_seq_k fun K9 hK9 => ?_
 refine wp_region_lit ?_
 refine wv h8 (r_ldbw (i := 0) (vs := [code.v, words.v, .int .i64 locks, .int .i64 regs]) ti_28 rfl rfl rfl rfl rfl) rfl rfl fun a10 h10 => ?_; clear h8
 refine wl_ex (x_call h10 bd_23 rfl rfl rfl rfl rfl (full_b code words locks regs _ (h10.sh.at 1 rfl) (h10.sh.at 2 rfl) hz)) (wanted_none rfl _) ?_
 rintro a11 w11 ⟨_, ⟨rfl, hs11⟩, hf11⟩
 have h11 : St 67 (fun _ => False) W a11 w11 _ _ := ⟨hf11, h10.sh.call0 hs11⟩
 clear hf11 hs11
 clear h10
 refine wms 1 h11 rfl fun a12 h12 => ?_; clear h11
 refine wv h12 (r_extract rfl rfl rfl) rfl rfl fun a13 h13 => ?_; clear h12
 refine wv h13 (r_extract rfl rfl rfl) rfl rfl fun a14 h14 => ?_; clear h13
 refine wl_ex (x_alloc h14 ti_28 rfl rfl rfl) (wanted_none rfl _) ?_
 rintro a15 w15 ⟨b15, h15⟩; clear h14
 refine wl_ex (x_alloc h15 ti_31 rfl rfl rfl) (wanted_none rfl _) ?_
 rintro a16 w16 ⟨b16, h16⟩; clear h15
 refine wl_ex (x_stb (i := 1) (vs := [(.slice none 0 0), (.slice none 0 0), .int .i64 0, .int .i64 0]) (cs' := [(.slice none 0 0), (.slice none 0 0), .int .i64 0, .int .i64 0]) h16 ti_28 rfl rfl rfl rfl rfl rfl rfl (allOne_cons ((Sh.nilAt (α := Ls Ins) h16.sh)).one (allOne_cons ((Sh.nilAt (α := Int) h16.sh)).one (allOne_cons rfl (allOne_cons rfl allOne_nil)))) (Nat.le_of_ble_eq_true rfl) rfl) (wanted_none rfl _) ?_
 rintro a17 w17 h17
 clear h16
 refine wl_ex (x_stb (i := 0) (vs := [.int .i64 ((checkG (pgOf code words locks regs)).code), .int .i64 ((checkG (pgOf code words locks regs)).thread), .int .i64 ((checkG (pgOf code words locks regs)).at_)]) (cs' := [.int .i64 ((checkG (pgOf code words locks regs)).code), .int .i64 ((checkG (pgOf code words locks regs)).thread), .int .i64 ((checkG (pgOf code words locks regs)).at_)]) h17 ti_31 rfl rfl rfl rfl rfl rfl rfl (allOne_cons rfl (allOne_cons rfl (allOne_cons rfl allOne_nil))) (Nat.le_of_ble_eq_true rfl) rfl) (wanted_none rfl _) ?_
 rintro a18 w18 h18
 clear h17
 refine wpList_nil ?_
 refine hK9 _ _ ?_
 refine wp_seq_k fun K19 hK19 => ?_
 refine wp_region_lit ?_
 refine wv h18 (r_ldbw (i := 2) (vs := [code.v, words.v, .int .i64 locks, .int .i64 regs]) ti_28 rfl rfl rfl rfl rfl) rfl rfl fun a20 h20 => ?_; clear h18
 refine wl_ex (x_call h20 bd_20 rfl rfl rfl rfl rfl (refCheck_c (code := code) (words := words) (locks := locks) (regs := regs) (h20.sh.at 3 rfl) (h20.sh.at 4 rfl))) (wanted_none rfl _) ?_
 rintro a21 w21 ⟨_, ⟨rfl, hs21⟩, hf21⟩
 have h21 : St 67 (fun _ => False) W a21 w21 _ _ := ⟨hf21, h20.sh.call0 hs21⟩
 clear hf21 hs21
 clear h20
 refine wl_ex (x_alloc h21 ti_31 rfl rfl rfl) (wanted_none rfl _) ?_
 rintro a22 w22 ⟨b22, h22⟩; clear h21
 refine wl_ex (x_stb (i := 0) (vs := [.int .i64 ((checkG (pgOf code words locks regs)).code), .int .i64 ((checkG (pgOf code words locks regs)).thread), .int .i64 ((checkG (pgOf code words locks regs)).at_)]) (cs' := [.int .i64 ((checkG (pgOf code words locks regs)).code), .int .i64 ((checkG (pgOf code words locks regs)).thread), .int .i64 ((checkG (pgOf code words locks regs)).at_)]) h22 ti_31 rfl rfl rfl rfl rfl rfl rfl (allOne_cons rfl (allOne_cons rfl (allOne_cons rfl allOne_nil))) (Nat.le_of_ble_eq_true rfl) rfl) (wanted_none rfl _) ?_
 rintro a23 w23 h23
 clear h22
 refine wpList_nil ?_
 refine hK19 _ _ ?_
 refine wp_seq_k fun K24 hK24 => ?_
 refine wp_seq_k fun K25 hK25 => ?_
 refine wp_region_lit ?_
 refine wv h23 (r_fieldB (r := 0) fl_31_0 rfl rfl rfl) rfl rfl fun a26 h26 => ?_; clear h23
 refine wv h26 (r_ldb (i := 1) ti_22 rfl rfl rfl rfl) rfl rfl fun a27 h27 => ?_; clear h26
 refine wv h27 (r_eqlI (p := (checkG (pgOf code words locks regs)).code) (q := 1) rfl rfl rfl) rfl rfl fun a28 h28 => ?_; clear h27
 refine wms 1 h28 rfl fun a29 h29 => ?_; clear h28
 rcases Bool.eq_false_or_eq_true (decide ((checkG (pgOf code words locks regs)).code = 1)) with hb30 | hb30
 ·
  have hp30 : (checkG (pgOf code words locks regs)).code = 1 := of_decide_eq_true hb30
  refine wl_val h29 (r_fieldB (r := 0) fl_31_0 rfl rfl rfl) (wanted_yes h29.fr rfl rfl rfl rfl hb30) rfl rfl fun a31 h31 => ?_; clear h29
  refine wl_val h31 (r_ldb (i := 0) ti_22 rfl rfl rfl rfl) (wanted_yes h31.fr rfl rfl rfl rfl hb30) rfl rfl fun a32 h32 => ?_; clear h31
  refine wl_val h32 (r_eqlI (p := (checkG (pgOf code words locks regs)).code) (q := 0) rfl rfl rfl) (wanted_yes h32.fr rfl rfl rfl rfl hb30) rfl rfl fun a33 h33 => ?_; clear h32
  refine wv h33 (r_pickT rfl rfl hb30 rfl) rfl rfl fun a34 h34 => ?_; clear h33
  refine wpList_nil ?_
  refine hK25 _ _ ?_
  refine x_condF h34 rfl (decide_eq_false (by omega)) ?_
  refine wp_skip ?_
  refine hK24 _ _ ?_
  refine wp_seq_k fun K35 hK35 => ?_
  refine wp_seq_k fun K36 hK36 => ?_
  refine wp_region_lit ?_
  refine wv h34 (r_fieldB (r := 0) fl_31_0 rfl rfl rfl) rfl rfl fun a37 h37 => ?_; clear h34
  refine wv h37 (r_ldb (i := 0) ti_22 rfl rfl rfl rfl) rfl rfl fun a38 h38 => ?_; clear h37
  refine wv h38 (r_neqI (p := (checkG (pgOf code words locks regs)).code) (q := 0) rfl rfl rfl) rfl rfl fun a39 h39 => ?_; clear h38
  refine wpList_nil ?_
  refine hK36 _ _ ?_
  refine x_condT h39 rfl (decide_eq_true hz) ?_
  refine wp_seq_k fun K40 hK40 => ?_
  refine wp_region_lit ?_
  refine wv h39 (r_ldbw (i := 1) (vs := [.int .i64 ((checkG (pgOf code words locks regs)).code), .int .i64 ((checkG (pgOf code words locks regs)).thread), .int .i64 ((checkG (pgOf code words locks regs)).at_)]) ti_31 rfl rfl rfl rfl rfl) rfl rfl fun a41 h41 => ?_; clear h39
  refine wv h41 (r_ldbw (i := 0) (vs := [.int .i64 ((checkG (pgOf code words locks regs)).code), .int .i64 ((checkG (pgOf code words locks regs)).thread), .int .i64 ((checkG (pgOf code words locks regs)).at_)]) ti_31 rfl rfl rfl rfl rfl) rfl rfl fun a42 h42 => ?_; clear h41
  refine wv h42 (r_eqS rfl rfl rfl (fun w => eq_fltG _ _ ⟨(checkG (pgOf code words locks regs)).code, (checkG (pgOf code words locks regs)).thread, (checkG (pgOf code words locks regs)).at_⟩ ⟨(checkG (pgOf code words locks regs)).code, (checkG (pgOf code words locks regs)).thread, (checkG (pgOf code words locks regs)).at_⟩ w) (fun w => eq_flt ⟨(checkG (pgOf code words locks regs)).code, (checkG (pgOf code words locks regs)).thread, (checkG (pgOf code words locks regs)).at_⟩ ⟨(checkG (pgOf code words locks regs)).code, (checkG (pgOf code words locks regs)).thread, (checkG (pgOf code words locks regs)).at_⟩ w)) rfl rfl fun a43 h43 => ?_; clear h42
  refine wms 1 h43 rfl fun a44 h44 => ?_; clear h43
  refine wpList_nil ?_
  refine hK40 _ _ ?_
  have h45 : St 67 (fun _ => False) W a44 w23 [(2, .bool (decide ((⟨(checkG (pgOf code words locks regs)).code, (checkG (pgOf code words locks regs)).thread, (checkG (pgOf code words locks regs)).at_⟩ : Flt) = ⟨(checkG (pgOf code words locks regs)).code, (checkG (pgOf code words locks regs)).thread, (checkG (pgOf code words locks regs)).at_⟩)))] [.blk b22 31 [.int .i64 ((checkG (pgOf code words locks regs)).code), .int .i64 ((checkG (pgOf code words locks regs)).thread), .int .i64 ((checkG (pgOf code words locks regs)).at_)], .blk b16 31 [.int .i64 ((checkG (pgOf code words locks regs)).code), .int .i64 ((checkG (pgOf code words locks regs)).thread), .int .i64 ((checkG (pgOf code words locks regs)).at_)], .blk b15 28 [(.slice none 0 0), (.slice none 0 0), .int .i64 0, .int .i64 0], .blk b3 28 [code.v, words.v, .int .i64 locks, .int .i64 regs], .at_ code, .at_ words] := h44.nrm ⟨rfl, trivial⟩ [0, 1, 2, 3, 4, 5] (by decide) ⟨rfl, rfl, rfl, rfl, rfl, rfl, trivial⟩
  clear h44
  refine wp_ret ?_
  try simp only [Exit.then, Exit.inBlock]
  refine x_ret1 (fn := Try.f7) (t := 2) rfl h45 rfl ?_
  exact ⟨congrArg _ (decide_eq_true rfl), (h45.sh.sel [] (by decide) trivial)⟩
 ·
  have hp30 : ¬ ((checkG (pgOf code words locks regs)).code = 1) := of_decide_eq_false hb30
  refine wl_skip h29 (wanted_no h29.fr rfl rfl rfl rfl hb30) rfl rfl fun a46 h46 => ?_; clear h29
  refine wl_skip h46 (wanted_no h46.fr rfl rfl rfl rfl hb30) rfl rfl fun a47 h47 => ?_; clear h46
  refine wl_skip h47 (wanted_no h47.fr rfl rfl rfl rfl hb30) rfl rfl fun a48 h48 => ?_; clear h47
  refine wv h48 (r_pickF rfl rfl hb30 rfl) rfl rfl fun a49 h49 => ?_; clear h48
  refine wpList_nil ?_
  refine hK25 _ _ ?_
  refine x_condF h49 rfl rfl ?_
  refine wp_skip ?_
  refine hK24 _ _ ?_
  refine wp_seq_k fun K50 hK50 => ?_
  refine wp_seq_k fun K51 hK51 => ?_
  refine wp_region_lit ?_
  refine wv h49 (r_fieldB (r := 0) fl_31_0 rfl rfl rfl) rfl rfl fun a52 h52 => ?_; clear h49
  refine wv h52 (r_ldb (i := 0) ti_22 rfl rfl rfl rfl) rfl rfl fun a53 h53 => ?_; clear h52
  refine wv h53 (r_neqI (p := (checkG (pgOf code words locks regs)).code) (q := 0) rfl rfl rfl) rfl rfl fun a54 h54 => ?_; clear h53
  refine wpList_nil ?_
  refine hK51 _ _ ?_
  refine x_condT h54 rfl (decide_eq_true hz) ?_
  refine wp_seq_k fun K55 hK55 => ?_
  refine wp_region_lit ?_
  refine wv h54 (r_ldbw (i := 1) (vs := [.int .i64 ((checkG (pgOf code words locks regs)).code), .int .i64 ((checkG (pgOf code words locks regs)).thread), .int .i64 ((checkG (pgOf code words locks regs)).at_)]) ti_31 rfl rfl rfl rfl rfl) rfl rfl fun a56 h56 => ?_; clear h54
  refine wv h56 (r_ldbw (i := 0) (vs := [.int .i64 ((checkG (pgOf code words locks regs)).code), .int .i64 ((checkG (pgOf code words locks regs)).thread), .int .i64 ((checkG (pgOf code words locks regs)).at_)]) ti_31 rfl rfl rfl rfl rfl) rfl rfl fun a57 h57 => ?_; clear h56
  refine wv h57 (r_eqS rfl rfl rfl (fun w => eq_fltG _ _ ⟨(checkG (pgOf code words locks regs)).code, (checkG (pgOf code words locks regs)).thread, (checkG (pgOf code words locks regs)).at_⟩ ⟨(checkG (pgOf code words locks regs)).code, (checkG (pgOf code words locks regs)).thread, (checkG (pgOf code words locks regs)).at_⟩ w) (fun w => eq_flt ⟨(checkG (pgOf code words locks regs)).code, (checkG (pgOf code words locks regs)).thread, (checkG (pgOf code words locks regs)).at_⟩ ⟨(checkG (pgOf code words locks regs)).code, (checkG (pgOf code words locks regs)).thread, (checkG (pgOf code words locks regs)).at_⟩ w)) rfl rfl fun a58 h58 => ?_; clear h57
  refine wms 1 h58 rfl fun a59 h59 => ?_; clear h58
  refine wpList_nil ?_
  refine hK55 _ _ ?_
  have h60 : St 67 (fun _ => False) W a59 w23 [(2, .bool (decide ((⟨(checkG (pgOf code words locks regs)).code, (checkG (pgOf code words locks regs)).thread, (checkG (pgOf code words locks regs)).at_⟩ : Flt) = ⟨(checkG (pgOf code words locks regs)).code, (checkG (pgOf code words locks regs)).thread, (checkG (pgOf code words locks regs)).at_⟩)))] [.blk b22 31 [.int .i64 ((checkG (pgOf code words locks regs)).code), .int .i64 ((checkG (pgOf code words locks regs)).thread), .int .i64 ((checkG (pgOf code words locks regs)).at_)], .blk b16 31 [.int .i64 ((checkG (pgOf code words locks regs)).code), .int .i64 ((checkG (pgOf code words locks regs)).thread), .int .i64 ((checkG (pgOf code words locks regs)).at_)], .blk b15 28 [(.slice none 0 0), (.slice none 0 0), .int .i64 0, .int .i64 0], .blk b3 28 [code.v, words.v, .int .i64 locks, .int .i64 regs], .at_ code, .at_ words] := h59.nrm ⟨rfl, trivial⟩ [0, 1, 2, 3, 4, 5] (by decide) ⟨rfl, rfl, rfl, rfl, rfl, rfl, trivial⟩
  clear h59
  refine wp_ret ?_
  try simp only [Exit.then, Exit.inBlock]
  refine x_ret1 (fn := Try.f7) (t := 2) rfl h60 rfl ?_
  exact ⟨congrArg _ (decide_eq_true rfl), (h60.sh.sel [] (by decide) trivial)⟩

set_option maxRecDepth 100000 in
set_option maxHeartbeats 4000000 in
theorem fenceFull_k (code : Ls (Ls Ins)) (words : Ls Int) (Lk R : Nat) (W : World) (hcode : code.At W) (hwords : words.At W) (hv : vastG (code.l.map (·.l)) words.l = false) (hok : OkPg (pgN code words Lk R)) (hshort : ∀ j, j < code.l.length → (withL (fulW code j) (nth code.l j).l).length ≤ 400) :
    Rets Try.prog 7 [.agg #[code.v, words.v, .int .i64 ((Lk : Nat) : Int), .int .i64 ((R : Nat) : Int)]] W (fun v w' => v = .bool true ∧ Sh0 W w' []) := by
 have hz := checkG_ok hok
 obtain ⟨hl1, hl2, hl3, hl4', hl5, hl6, hl7⟩ := ok_lenN hok
 refine x_enter (N := 67) Try.func7 rfl Try.ntmps7 (Nat.le_of_ble_eq_true rfl) fun a1 hf1 => ?_
 have h1 : St 67 (fun _ => False) W a1 W [(0, .agg #[code.v, words.v, .int .i64 ((Lk : Nat) : Int), .int .i64 ((R : Nat) : Int)])] [.at_ code, .at_ words] := ⟨hf1.sub ⟨rfl, trivial⟩, Sh0.ext2 hcode hwords⟩
 clear hf1
 refine wp_seq_k fun K2 hK2 => ?_
 refine wp_region_lit ?_
 refine wl_ex (x_box (cs := [code.v, words.v, .int .i64 ((Lk : Nat) : Int), .int .i64 ((R : Nat) : Int)]) h1 rfl rfl rfl rfl rfl) (wanted_none rfl _) ?_
 rintro a3 w3 ⟨b3, h3⟩; clear h1
 refine wms 1 h3 rfl fun a4 h4 => ?_; clear h3
 refine wpList_nil ?_
 refine hK2 _ _ ?_
 refine wp_seq_k fun K5 hK5 => ?_
 refine wp_seq_k fun K6 hK6 => ?_
 refine wp_region_lit ?_
 refine wv h4 (r_ldbw (i := 0) (vs := [code.v, words.v, .int .i64 ((Lk : Nat) : Int), .int .i64 ((R : Nat) : Int)]) ti_28 rfl rfl rfl rfl rfl) rfl rfl fun a7 h7 => ?_; clear h4
 refine wl_ex (x_call h7 bd_18 rfl rfl rfl rfl rfl (vast_c (code := code) (words := words) (locks := ((Lk : Nat) : Int)) (regs := ((R : Nat) : Int)) (h7.sh.at 1 rfl) (h7.sh.at 2 rfl))) (wanted_none rfl _) ?_
 rintro a8 w8 ⟨_, ⟨rfl, hs8⟩, hf8⟩
 have h8 : St 67 (fun _ => False) W a8 w8 _ _ := ⟨hf8, h7.sh.call0 hs8⟩
 clear hf8 hs8
 clear h7
 refine wpList_nil ?_
 refine hK6 _ _ ?_
 refine x_condF h8 rfl hv ?_
 refine wp_skip ?_
 refine hK5 _ _ ?_
 refine wp_seq_k fun K9 hK9 => ?_
 refine wp_region_lit ?_
 refine wv h8 (r_ldbw (i := 0) (vs := [code.v, words.v, .int .i64 ((Lk : Nat) : Int), .int .i64 ((R : Nat) : Int)]) ti_28 rfl rfl rfl rfl rfl) rfl rfl fun a10 h10 => ?_; clear h8
 refine wl_ex (x_call h10 bd_23 rfl rfl rfl rfl rfl (full_k code words ((Lk : Nat) : Int) ((R : Nat) : Int) _ (h10.sh.at 1 rfl) (h10.sh.at 2 rfl) hok hshort)) (wanted_none rfl _) ?_
 rintro a11 w11 ⟨_, ⟨c11, u11, rfl, hq11, hu11, hs11⟩, hf11⟩
 have hf := fence_full hok hshort hq11 hu11
 have hz2 := checkG_ok hf.1
 have h11 := (⟨hf11, h10.sh.call hs11 (by intro A hA b hb; first | (simp at hA; done) | (simp at hA; subst hA; first | exact Flat.noRd hb | exact (hb : False).elim) | (simp at hA; rcases hA with rfl | rfl <;> first | exact Flat.noRd hb | exact (hb : False).elim))⟩ : St 67 (fun _ => False) W a11 w11 _ _)
 clear hf11 hs11
 clear h10
 refine wms 1 h11 rfl fun a12 h12 => ?_; clear h11
 refine wv h12 (r_extract rfl rfl rfl) rfl rfl fun a13 h13 => ?_; clear h12
 refine wv h13 (r_extract rfl rfl rfl) rfl rfl fun a14 h14 => ?_; clear h13
 refine wl_ex (x_alloc h14 ti_28 rfl rfl rfl) (wanted_none rfl _) ?_
 rintro a15 w15 ⟨b15, h15⟩; clear h14
 refine wl_ex (x_alloc h15 ti_31 rfl rfl rfl) (wanted_none rfl _) ?_
 rintro a16 w16 ⟨b16, h16⟩; clear h15
 refine wl_ex (x_stb (i := 1) (vs := [c11.v, u11.v, .int .i64 ((Lk : Nat) : Int), .int .i64 ((R : Nat) : Int)]) (cs' := [c11.v, u11.v, .int .i64 ((Lk : Nat) : Int), .int .i64 ((R : Nat) : Int)]) h16 ti_28 rfl rfl rfl rfl rfl rfl rfl (allOne_cons ((h16.sh.deep 2 rfl)).one (allOne_cons ((h16.sh.own 3 rfl)).one (allOne_cons rfl (allOne_cons rfl allOne_nil)))) (Nat.le_of_ble_eq_true rfl) rfl) (wanted_none rfl _) ?_
 rintro a17 w17 h17
 clear h16
 refine wl_ex (x_stb (i := 0) (vs := [.int .i64 0, .int .i64 0, .int .i64 0]) (cs' := [.int .i64 0, .int .i64 0, .int .i64 0]) h17 ti_31 rfl rfl rfl rfl rfl rfl rfl (allOne_cons rfl (allOne_cons rfl (allOne_cons rfl allOne_nil))) (Nat.le_of_ble_eq_true rfl) rfl) (wanted_none rfl _) ?_
 rintro a18 w18 h18
 clear h17
 refine wpList_nil ?_
 refine hK9 _ _ ?_
 refine wp_seq_k fun K19 hK19 => ?_
 refine wp_region_lit ?_
 refine wv h18 (r_ldbw (i := 4) (vs := [code.v, words.v, .int .i64 ((Lk : Nat) : Int), .int .i64 ((R : Nat) : Int)]) ti_28 rfl rfl rfl rfl rfl) rfl rfl fun a20 h20 => ?_; clear h18
 refine wl_ex (x_call h20 bd_20 rfl rfl rfl rfl rfl (refCheck_c (code := code) (words := words) (locks := ((Lk : Nat) : Int)) (regs := ((R : Nat) : Int)) (h20.sh.at 5 rfl) (h20.sh.at 6 rfl))) (wanted_none rfl _) ?_
 rintro a21 w21 ⟨_, ⟨rfl, hs21⟩, hf21⟩
 have h21 : St 67 (fun _ => False) W a21 w21 _ _ := ⟨hf21, h20.sh.call0 hs21⟩
 clear hf21 hs21
 clear h20
 refine wl_ex (x_alloc h21 ti_31 rfl rfl rfl) (wanted_none rfl _) ?_
 rintro a22 w22 ⟨b22, h22⟩; clear h21
 refine wl_ex (x_stb (i := 0) (vs := [.int .i64 ((checkG (pgOf code words ((Lk : Nat) : Int) ((R : Nat) : Int))).code), .int .i64 ((checkG (pgOf code words ((Lk : Nat) : Int) ((R : Nat) : Int))).thread), .int .i64 ((checkG (pgOf code words ((Lk : Nat) : Int) ((R : Nat) : Int))).at_)]) (cs' := [.int .i64 ((checkG (pgOf code words ((Lk : Nat) : Int) ((R : Nat) : Int))).code), .int .i64 ((checkG (pgOf code words ((Lk : Nat) : Int) ((R : Nat) : Int))).thread), .int .i64 ((checkG (pgOf code words ((Lk : Nat) : Int) ((R : Nat) : Int))).at_)]) h22 ti_31 rfl rfl rfl rfl rfl rfl rfl (allOne_cons rfl (allOne_cons rfl (allOne_cons rfl allOne_nil))) (Nat.le_of_ble_eq_true rfl) rfl) (wanted_none rfl _) ?_
 rintro a23 w23 h23
 clear h22
 refine wpList_nil ?_
 refine hK19 _ _ ?_
 refine wp_seq_k fun K24 hK24 => ?_
 refine wp_seq_k fun K25 hK25 => ?_
 refine wp_region_lit ?_
 refine wv h23 (r_fieldB (r := 0) fl_31_0 rfl rfl rfl) rfl rfl fun a26 h26 => ?_; clear h23
 refine wv h26 (r_ldb (i := 1) ti_22 rfl rfl rfl rfl) rfl rfl fun a27 h27 => ?_; clear h26
 refine wv h27 (r_eqlN (p := 0) (q := 1) rfl rfl rfl) rfl rfl fun a28 h28 => ?_; clear h27
 refine wms 1 h28 rfl fun a29 h29 => ?_; clear h28
 refine wl_skip h29 (wanted_no h29.fr rfl rfl rfl rfl (by decide)) rfl rfl fun a30 h30 => ?_; clear h29
 refine wl_skip h30 (wanted_no h30.fr rfl rfl rfl rfl (by decide)) rfl rfl fun a31 h31 => ?_; clear h30
 refine wl_skip h31 (wanted_no h31.fr rfl rfl rfl rfl (by decide)) rfl rfl fun a32 h32 => ?_; clear h31
 refine wv h32 (r_pickF rfl rfl (by decide) rfl) rfl rfl fun a33 h33 => ?_; clear h32
 refine wpList_nil ?_
 refine hK25 _ _ ?_
 refine x_condF h33 rfl rfl ?_
 refine wp_skip ?_
 refine hK24 _ _ ?_
 refine wp_seq_k fun K34 hK34 => ?_
 refine wp_seq_k fun K35 hK35 => ?_
 refine wp_region_lit ?_
 refine wv h33 (r_fieldB (r := 0) fl_31_0 rfl rfl rfl) rfl rfl fun a36 h36 => ?_; clear h33
 refine wv h36 (r_ldb (i := 0) ti_22 rfl rfl rfl rfl) rfl rfl fun a37 h37 => ?_; clear h36
 refine wv h37 (r_neqI (p := (checkG (pgOf code words ((Lk : Nat) : Int) ((R : Nat) : Int))).code) (q := 0) rfl rfl rfl) rfl rfl fun a38 h38 => ?_; clear h37
 refine wpList_nil ?_
 refine hK35 _ _ ?_
 refine x_condF h38 rfl (by rw [show checkG (pgOf code words ((Lk : Nat) : Int) ((R : Nat) : Int)) = ⟨0, 0, 0⟩ from hz]; rfl) ?_
 refine wp_skip ?_
 refine hK34 _ _ ?_
 have h39 : St 67 (fun _ => False) W a38 w23 [(1, .pointer (some ⟨b3, 0, none⟩)), (3, .pointer (some ⟨b15, 0, none⟩)), (4, .pointer (some ⟨b16, 0, none⟩))] [.blk b22 31 [.int .i64 ((checkG (pgOf code words ((Lk : Nat) : Int) ((R : Nat) : Int))).code), .int .i64 ((checkG (pgOf code words ((Lk : Nat) : Int) ((R : Nat) : Int))).thread), .int .i64 ((checkG (pgOf code words ((Lk : Nat) : Int) ((R : Nat) : Int))).at_)], .blk b16 31 [.int .i64 0, .int .i64 0, .int .i64 0], .blk b15 28 [c11.v, u11.v, .int .i64 ((Lk : Nat) : Int), .int .i64 ((R : Nat) : Int)], .deep 64 c11, .own 3 u11, .blk b3 28 [code.v, words.v, .int .i64 ((Lk : Nat) : Int), .int .i64 ((R : Nat) : Int)], .at_ code, .at_ words] := h38.nrm ⟨rfl, rfl, rfl, trivial⟩ [0, 1, 2, 3, 4, 5, 6, 7] (by decide) ⟨rfl, rfl, rfl, rfl, rfl, rfl, rfl, rfl, trivial⟩
 clear h38
 refine wp_seq_k fun K40 hK40 => ?_
 refine wp_region_lit ?_
 refine wv h39 (r_ldbw (i := 2) (vs := [c11.v, u11.v, .int .i64 ((Lk : Nat) : Int), .int .i64 ((R : Nat) : Int)]) ti_28 rfl rfl rfl rfl rfl) rfl rfl fun a41 h41 => ?_; clear h39
 refine wl_ex (x_call h41 bd_20 rfl rfl rfl rfl rfl (refCheck_c (code := c11) (words := u11) (locks := ((Lk : Nat) : Int)) (regs := ((R : Nat) : Int)) (h41.sh.deep 3 rfl) (h41.sh.own 4 rfl))) (wanted_none rfl _) ?_
 rintro a42 w42 ⟨_, ⟨rfl, hs42⟩, hf42⟩
 have h42 : St 67 (fun _ => False) W a42 w42 _ _ := ⟨hf42, h41.sh.call0 hs42⟩
 clear hf42 hs42
 clear h41
 refine wl_ex (x_alloc h42 ti_31 rfl rfl rfl) (wanted_none rfl _) ?_
 rintro a43 w43 ⟨b43, h43⟩; clear h42
 refine wl_ex (x_stb (i := 0) (vs := [.int .i64 ((checkG (pgOf c11 u11 ((Lk : Nat) : Int) ((R : Nat) : Int))).code), .int .i64 ((checkG (pgOf c11 u11 ((Lk : Nat) : Int) ((R : Nat) : Int))).thread), .int .i64 ((checkG (pgOf c11 u11 ((Lk : Nat) : Int) ((R : Nat) : Int))).at_)]) (cs' := [.int .i64 ((checkG (pgOf c11 u11 ((Lk : Nat) : Int) ((R : Nat) : Int))).code), .int .i64 ((checkG (pgOf c11 u11 ((Lk : Nat) : Int) ((R : Nat) : Int))).thread), .int .i64 ((checkG (pgOf c11 u11 ((Lk : Nat) : Int) ((R : Nat) : Int))).at_)]) h43 ti_31 rfl rfl rfl rfl rfl rfl rfl (allOne_cons rfl (allOne_cons rfl (allOne_cons rfl allOne_nil))) (Nat.le_of_ble_eq_true rfl) rfl) (wanted_none rfl _) ?_
 rintro a44 w44 h44
 clear h43
 refine wpList_nil ?_
 refine hK40 _ _ ?_
 refine wp_seq_k fun K45 hK45 => ?_
 refine wp_seq_k fun K46 hK46 => ?_
 refine wp_region_lit ?_
 refine wv h44 (r_fieldB (r := 0) fl_31_0 rfl rfl rfl) rfl rfl fun a47 h47 => ?_; clear h44
 refine wv h47 (r_ldb (i := 2) ti_22 rfl rfl rfl rfl) rfl rfl fun a48 h48 => ?_; clear h47
 refine wv h48 (r_neqN (p := 0) (q := 0) rfl rfl rfl) rfl rfl fun a49 h49 => ?_; clear h48
 refine wms 1 h49 rfl fun a50 h50 => ?_; clear h49
 refine wl_val h50 (r_fieldB (r := 0) fl_31_0 rfl rfl rfl) (wanted_yes h50.fr rfl rfl rfl rfl (by decide)) rfl rfl fun a51 h51 => ?_; clear h50
 refine wl_val h51 (r_ldb (i := 0) ti_22 rfl rfl rfl rfl) (wanted_yes h51.fr rfl rfl rfl rfl (by decide)) rfl rfl fun a52 h52 => ?_; clear h51
 refine wl_val h52 (r_neqI (p := (checkG (pgOf c11 u11 ((Lk : Nat) : Int) ((R : Nat) : Int))).code) (q := 0) rfl rfl rfl) (wanted_yes h52.fr rfl rfl rfl rfl (by decide)) rfl rfl fun a53 h53 => ?_; clear h52
 refine wv h53 (r_pickF rfl rfl (by decide) rfl) rfl rfl fun a54 h54 => ?_; clear h53
 refine wpList_nil ?_
 refine hK46 _ _ ?_
 refine x_condF h54 rfl (by rw [show checkG (pgOf c11 u11 ((Lk : Nat) : Int) ((R : Nat) : Int)) = ⟨0, 0, 0⟩ from hz2]; rfl) ?_
 refine wp_skip ?_
 refine hK45 _ _ ?_
 refine wp_seq_k fun K55 hK55 => ?_
 refine wp_region_lit ?_
 refine wv h54 (r_ldbw (i := 6) (vs := [code.v, words.v, .int .i64 ((Lk : Nat) : Int), .int .i64 ((R : Nat) : Int)]) ti_28 rfl rfl rfl rfl rfl) rfl rfl fun a56 h56 => ?_; clear h54
 refine wl_ex (x_call h56 bd_24 rfl rfl rfl rfl rfl (make0_c code words Lk R _ (h56.sh.at 7 rfl) (h56.sh.at 8 rfl) hok)) (wanted_none rfl _) ?_
 rintro a57 w57 ⟨_, ⟨g57, fu57, sv57, kv57, hv57, bv57, en57, rfl, hby57, hnw57, hs57⟩, hf57⟩
 have h57 := (⟨hf57, h56.sh.call hs57 (by intro A hA b hb; simp only [List.mem_cons, List.not_mem_nil, or_false] at hA; rcases hA with rfl | rfl; exact (hb : False).elim; exact .inl (by obtain ⟨i9, hi9, hb9⟩ := hb; exact hnw57 _ (nth_mem _ _ hi9) b hb9))⟩ : St 67 (fun _ => False) W a57 w57 _ _)
 clear hf57 hs57
 clear h56
 refine wms 1 h57 rfl fun a58 h58 => ?_; clear h57
 refine wpList_nil ?_
 refine hK55 _ _ ?_
 refine wp_seq_k fun K59 hK59 => ?_
 refine wp_region_lit ?_
 refine wv h58 (r_ldbw (i := 5) (vs := [c11.v, u11.v, .int .i64 ((Lk : Nat) : Int), .int .i64 ((R : Nat) : Int)]) ti_28 rfl rfl rfl rfl rfl) rfl rfl fun a60 h60 => ?_; clear h58
 refine wl_ex (x_call h60 bd_24 rfl rfl rfl rfl rfl (make1_c c11 u11 Lk R _ (h60.sh.deep 6 rfl) (h60.sh.own 7 rfl) hf.1)) (wanted_none rfl _) ?_
 rintro a61 w61 ⟨_, ⟨g61, fu61, sv61, kv61, hv61, bv61, en61, rfl, hby61, hnw61, hs61⟩, hf61⟩
 have h61 := (⟨hf61, h60.sh.call hs61 (by intro A hA b hb; simp only [List.mem_cons, List.not_mem_nil, or_false] at hA; rcases hA with rfl | rfl; exact (hb : False).elim; exact .inl (by obtain ⟨i9, hi9, hb9⟩ := hb; exact hnw61 _ (nth_mem _ _ hi9) b hb9))⟩ : St 67 (fun _ => False) W a61 w61 _ _)
 clear hf61 hs61
 clear h60
 refine wms 1 h61 rfl fun a62 h62 => ?_; clear h61
 refine wpList_nil ?_
 refine hK59 _ _ ?_
 refine wp_seq_k fun K63 hK63 => ?_
 refine x_quiet (by kernel_rfl) (by kernel_rfl) h62 fun Z64 hZ64 => ?_
 have hq64 := h62.fr
 refine wq_val hq64 (r_move rfl rfl) (wanted_none rfl _) rfl rfl fun a65 hq65 => ?_; clear hq64
 refine wq_val hq65 (r_nil rfl rfl) (wanted_none rfl _) rfl rfl fun a66 hq66 => ?_; clear hq65
 refine wq_val hq66 (r_fieldB (r := 5) fl_49_5 rfl rfl rfl) (wanted_none rfl _) rfl rfl fun a67 hq67 => ?_; clear hq66
 refine wq_val hq67 (r_ldb (i := 2) ti_4 rfl rfl rfl rfl) (wanted_none rfl _) rfl rfl fun a68 hq68 => ?_; clear hq67
 refine wq_val hq68 (r_move rfl rfl) (wanted_none rfl _) rfl rfl fun a69 hq69 => ?_; clear hq68
 rcases Bool.eq_false_or_eq_true fu57 with hb70 | hb70
 ·
  skip
  refine wq_skip hq69 (wanted_no hq69 rfl rfl rfl rfl hb70) rfl rfl fun a71 hq71 => ?_; clear hq69
  refine wq_skip hq71 (wanted_no hq71 rfl rfl rfl rfl hb70) rfl rfl fun a72 hq72 => ?_; clear hq71
  refine wq_skip hq72 (wanted_no hq72 rfl rfl rfl rfl hb70) rfl rfl fun a73 hq73 => ?_; clear hq72
  refine wq_skip hq73 (wanted_no hq73 rfl rfl rfl rfl hb70) rfl rfl fun a74 hq74 => ?_; clear hq73
  refine wq_val hq74 (r_pickT rfl rfl hb70 rfl) (wanted_none rfl _) rfl rfl fun a75 hq75 => ?_; clear hq74
  refine wq_val hq75 (r_move rfl rfl) (wanted_none rfl _) rfl rfl fun a76 hq76 => ?_; clear hq75
  refine wq_skip hq76 (wanted_no hq76 rfl rfl rfl rfl rfl) rfl rfl fun a77 hq77 => ?_; clear hq76
  refine wq_skip hq77 (wanted_no hq77 rfl rfl rfl rfl rfl) rfl rfl fun a78 hq78 => ?_; clear hq77
  refine wq_skip hq78 (wanted_no hq78 rfl rfl rfl rfl rfl) rfl rfl fun a79 hq79 => ?_; clear hq78
  refine wq_skip hq79 (wanted_no hq79 rfl rfl rfl rfl rfl) rfl rfl fun a80 hq80 => ?_; clear hq79
  refine wq_skip hq80 (wanted_no hq80 rfl rfl rfl rfl rfl) rfl rfl fun a81 hq81 => ?_; clear hq80
  refine wq_skip hq81 (wanted_no hq81 rfl rfl rfl rfl rfl) rfl rfl fun a82 hq82 => ?_; clear hq81
  refine wq_skip hq82 (wanted_no hq82 rfl rfl rfl rfl rfl) rfl rfl fun a83 hq83 => ?_; clear hq82
  refine wq_skip hq83 (wanted_no hq83 rfl rfl rfl rfl rfl) rfl rfl fun a84 hq84 => ?_; clear hq83
  refine wq_skip hq84 (wanted_no hq84 rfl rfl rfl rfl rfl) rfl rfl fun a85 hq85 => ?_; clear hq84
  refine wq_val hq85 (r_pickT rfl rfl rfl rfl) (wanted_none rfl _) rfl rfl fun a86 hq86 => ?_; clear hq85
  refine wq_val hq86 (r_assign rfl rfl) (wanted_none rfl _) rfl rfl fun a87 hq87 => ?_; clear hq86
  refine wpQuiet_nil (hZ64 _ fun w88 hw88 => ?_)
  have h88 : St 67 (fun _ => False) W a87 w88 _ _ := ⟨hq87, hw88⟩
  clear hq87 hw88 h62
  refine hK63 _ _ ?_
  have h89 : St 67 (fun _ => False) W a87 w88 [(2, .bool true)] [.blk g61 49 [sv61, kv61, hv61, bv61, en61.v, .bool fu61], .own 56 en61, .blk g57 49 [sv57, kv57, hv57, bv57, en57.v, .bool fu57], .own 56 en57, .blk b43 31 [.int .i64 ((checkG (pgOf c11 u11 ((Lk : Nat) : Int) ((R : Nat) : Int))).code), .int .i64 ((checkG (pgOf c11 u11 ((Lk : Nat) : Int) ((R : Nat) : Int))).thread), .int .i64 ((checkG (pgOf c11 u11 ((Lk : Nat) : Int) ((R : Nat) : Int))).at_)], .blk b22 31 [.int .i64 ((checkG (pgOf code words ((Lk : Nat) : Int) ((R : Nat) : Int))).code), .int .i64 ((checkG (pgOf code words ((Lk : Nat) : Int) ((R : Nat) : Int))).thread), .int .i64 ((checkG (pgOf code words ((Lk : Nat) : Int) ((R : Nat) : Int))).at_)], .blk b16 31 [.int .i64 0, .int .i64 0, .int .i64 0], .blk b15 28 [c11.v, u11.v, .int .i64 ((Lk : Nat) : Int), .int .i64 ((R : Nat) : Int)], .deep 64 c11, .own 3 u11, .blk b3 28 [code.v, words.v, .int .i64 ((Lk : Nat) : Int), .int .i64 ((R : Nat) : Int)], .at_ code, .at_ words] := h88.nrm ⟨rfl, trivial⟩ [0, 1, 2, 3, 4, 5, 6, 7, 8, 9, 10, 11, 12] (by decide) ⟨rfl, rfl, rfl, rfl, rfl, rfl, rfl, rfl, rfl, rfl, rfl, rfl, rfl, trivial⟩
  clear h88
  refine wp_ret ?_
  try simp only [Exit.then, Exit.inBlock]
  refine x_ret1 (fn := Try.f7) (t := 2) rfl h89 rfl ?_
  refine ⟨?_, (h89.sh.sel [] (by decide) trivial)⟩
  first | rfl | (congr 1; exact decide_eq_true (sorted_ext (hby57 (by assumption)).1 (hby61 (by assumption)).1 (fun o => ((hby57 (by assumption)).2 o).trans ((hf.2 o).trans ((hby61 (by assumption)).2 o).symm))))
 ·
  skip
  refine wq_val hq69 (r_move rfl rfl) (wanted_yes hq69 rfl rfl rfl rfl hb70) rfl rfl fun a91 hq91 => ?_; clear hq69
  refine wq_val hq91 (r_nil rfl rfl) (wanted_yes hq91 rfl rfl rfl rfl hb70) rfl rfl fun a93 hq93 => ?_; clear hq91
  refine wq_val hq93 (r_fieldB (r := 5) fl_49_5 rfl rfl rfl) (wanted_yes hq93 rfl rfl rfl rfl hb70) rfl rfl fun a95 hq95 => ?_; clear hq93
  refine wq_val hq95 (r_ldb (i := 0) ti_4 rfl rfl rfl rfl) (wanted_yes hq95 rfl rfl rfl rfl hb70) rfl rfl fun a97 hq97 => ?_; clear hq95
  refine wq_val hq97 (r_pickF rfl rfl hb70 rfl) (wanted_none rfl _) rfl rfl fun a98 hq98 => ?_; clear hq97
  refine wq_val hq98 (r_move rfl rfl) (wanted_none rfl _) rfl rfl fun a99 hq99 => ?_; clear hq98
  rcases Bool.eq_false_or_eq_true fu61 with hb100 | hb100
  ·
   skip
   refine wq_skip hq99 (wanted_no hq99 rfl rfl rfl rfl hb100) rfl rfl fun a101 hq101 => ?_; clear hq99
   refine wq_skip hq101 (wanted_no hq101 rfl rfl rfl rfl hb100) rfl rfl fun a102 hq102 => ?_; clear hq101
   refine wq_skip hq102 (wanted_no hq102 rfl rfl rfl rfl hb100) rfl rfl fun a103 hq103 => ?_; clear hq102
   refine wq_skip hq103 (wanted_no hq103 rfl rfl rfl rfl hb100) rfl rfl fun a104 hq104 => ?_; clear hq103
   refine wq_skip hq104 (wanted_no hq104 rfl rfl rfl rfl hb100) rfl rfl fun a105 hq105 => ?_; clear hq104
   refine wq_skip hq105 (wanted_no hq105 rfl rfl rfl rfl hb100) rfl rfl fun a106 hq106 => ?_; clear hq105
   refine wq_skip hq106 (wanted_no hq106 rfl rfl rfl rfl hb100) rfl rfl fun a107 hq107 => ?_; clear hq106
   refine wq_skip hq107 (wanted_no hq107 rfl rfl rfl rfl hb100) rfl rfl fun a108 hq108 => ?_; clear hq107
   refine wq_skip hq108 (wanted_no hq108 rfl rfl rfl rfl hb100) rfl rfl fun a109 hq109 => ?_; clear hq108
   refine wq_val hq109 (r_pickT rfl rfl hb100 rfl) (wanted_none rfl _) rfl rfl fun a110 hq110 => ?_; clear hq109
   refine wq_val hq110 (r_assign rfl rfl) (wanted_none rfl _) rfl rfl fun a111 hq111 => ?_; clear hq110
   refine wpQuiet_nil (hZ64 _ fun w112 hw112 => ?_)
   have h112 : St 67 (fun _ => False) W a111 w112 _ _ := ⟨hq111, hw112⟩
   clear hq111 hw112 h62
   refine hK63 _ _ ?_
   have h113 : St 67 (fun _ => False) W a111 w112 [(2, .bool true)] [.blk g61 49 [sv61, kv61, hv61, bv61, en61.v, .bool fu61], .own 56 en61, .blk g57 49 [sv57, kv57, hv57, bv57, en57.v, .bool fu57], .own 56 en57, .blk b43 31 [.int .i64 ((checkG (pgOf c11 u11 ((Lk : Nat) : Int) ((R : Nat) : Int))).code), .int .i64 ((checkG (pgOf c11 u11 ((Lk : Nat) : Int) ((R : Nat) : Int))).thread), .int .i64 ((checkG (pgOf c11 u11 ((Lk : Nat) : Int) ((R : Nat) : Int))).at_)], .blk b22 31 [.int .i64 ((checkG (pgOf code words ((Lk : Nat) : Int) ((R : Nat) : Int))).code), .int .i64 ((checkG (pgOf code words ((Lk : Nat) : Int) ((R : Nat) : Int))).thread), .int .i64 ((checkG (pgOf code words ((Lk : Nat) : Int) ((R : Nat) : Int))).at_)], .blk b16 31 [.int .i64 0, .int .i64 0, .int .i64 0], .blk b15 28 [c11.v, u11.v, .int .i64 ((Lk : Nat) : Int), .int .i64 ((R : Nat) : Int)], .deep 64 c11, .own 3 u11, .blk b3 28 [code.v, words.v, .int .i64 ((Lk : Nat) : Int), .int .i64 ((R : Nat) : Int)], .at_ code, .at_ words] := h112.nrm ⟨rfl, trivial⟩ [0, 1, 2, 3, 4, 5, 6, 7, 8, 9, 10, 11, 12] (by decide) ⟨rfl, rfl, rfl, rfl, rfl, rfl, rfl, rfl, rfl, rfl, rfl, rfl, rfl, trivial⟩
   clear h112
   refine wp_ret ?_
   try simp only [Exit.then, Exit.inBlock]
   refine x_ret1 (fn := Try.f7) (t := 2) rfl h113 rfl ?_
   refine ⟨?_, (h113.sh.sel [] (by decide) trivial)⟩
   first | rfl | (congr 1; exact decide_eq_true (sorted_ext (hby57 (by assumption)).1 (hby61 (by assumption)).1 (fun o => ((hby57 (by assumption)).2 o).trans ((hf.2 o).trans ((hby61 (by assumption)).2 o).symm))))
  ·
   skip
   refine wq_val hq99 (r_move rfl rfl) (wanted_yes hq99 rfl rfl rfl rfl hb100) rfl rfl fun a115 hq115 => ?_; clear hq99
   refine wq_val hq115 (r_nil rfl rfl) (wanted_yes hq115 rfl rfl rfl rfl hb100) rfl rfl fun a117 hq117 => ?_; clear hq115
   refine wq_val hq117 (r_fieldB (r := 4) fl_49_4 rfl rfl rfl) (wanted_yes hq117 rfl rfl rfl rfl hb100) rfl rfl fun a119 hq119 => ?_; clear hq117
   refine wq_val hq119 (r_ldb (i := 2) ti_47 rfl rfl rfl rfl) (wanted_yes hq119 rfl rfl rfl rfl hb100) rfl rfl fun a121 hq121 => ?_; clear hq119
   refine wq_val hq121 (r_move rfl rfl) (wanted_yes hq121 rfl rfl rfl rfl hb100) rfl rfl fun a123 hq123 => ?_; clear hq121
   refine wq_val hq123 (r_nil rfl rfl) (wanted_yes hq123 rfl rfl rfl rfl hb100) rfl rfl fun a125 hq125 => ?_; clear hq123
   refine wq_val hq125 (r_fieldB (r := 4) fl_49_4 rfl rfl rfl) (wanted_yes hq125 rfl rfl rfl rfl hb100) rfl rfl fun a127 hq127 => ?_; clear hq125
   refine wq_val hq127 (r_ldb (i := 0) ti_47 rfl rfl rfl rfl) (wanted_yes hq127 rfl rfl rfl rfl hb100) rfl rfl fun a129 hq129 => ?_; clear hq127
   refine wq_call hq129 bd_25 rfl rfl rfl (wanted_yes hq129 rfl rfl rfl rfl hb100) rfl rfl (fun w h => (sameO_c en57 en61 _ (h.own 3 rfl) (h.own 1 rfl))) fun a131 hq131 => ?_; clear hq129
   refine wq_val hq131 (r_pickF rfl rfl hb100 rfl) (wanted_none rfl _) rfl rfl fun a132 hq132 => ?_; clear hq131
   refine wq_val hq132 (r_assign rfl rfl) (wanted_none rfl _) rfl rfl fun a133 hq133 => ?_; clear hq132
   refine wpQuiet_nil (hZ64 _ fun w134 hw134 => ?_)
   have h134 : St 67 (fun _ => False) W a133 w134 _ _ := ⟨hq133, hw134⟩
   clear hq133 hw134 h62
   refine hK63 _ _ ?_
   have h135 : St 67 (fun _ => False) W a133 w134 [(2, .bool (decide (en57.l.map OutL.out = en61.l.map OutL.out)))] [.blk g61 49 [sv61, kv61, hv61, bv61, en61.v, .bool fu61], .own 56 en61, .blk g57 49 [sv57, kv57, hv57, bv57, en57.v, .bool fu57], .own 56 en57, .blk b43 31 [.int .i64 ((checkG (pgOf c11 u11 ((Lk : Nat) : Int) ((R : Nat) : Int))).code), .int .i64 ((checkG (pgOf c11 u11 ((Lk : Nat) : Int) ((R : Nat) : Int))).thread), .int .i64 ((checkG (pgOf c11 u11 ((Lk : Nat) : Int) ((R : Nat) : Int))).at_)], .blk b22 31 [.int .i64 ((checkG (pgOf code words ((Lk : Nat) : Int) ((R : Nat) : Int))).code), .int .i64 ((checkG (pgOf code words ((Lk : Nat) : Int) ((R : Nat) : Int))).thread), .int .i64 ((checkG (pgOf code words ((Lk : Nat) : Int) ((R : Nat) : Int))).at_)], .blk b16 31 [.int .i64 0, .int .i64 0, .int .i64 0], .blk b15 28 [c11.v, u11.v, .int .i64 ((Lk : Nat) : Int), .int .i64 ((R : Nat) : Int)], .deep 64 c11, .own 3 u11, .blk b3 28 [code.v, words.v, .int .i64 ((Lk : Nat) : Int), .int .i64 ((R : Nat) : Int)], .at_ code, .at_ words] := h134.nrm ⟨rfl, trivial⟩ [0, 1, 2, 3, 4, 5, 6, 7, 8, 9, 10, 11, 12] (by decide) ⟨rfl, rfl, rfl, rfl, rfl, rfl, rfl, rfl, rfl, rfl, rfl, rfl, rfl, trivial⟩
   clear h134
   refine wp_ret ?_
   try simp only [Exit.then, Exit.inBlock]
   refine x_ret1 (fn := Try.f7) (t := 2) rfl h135 rfl ?_
   refine ⟨?_, (h135.sh.sel [] (by decide) trivial)⟩
   first | rfl | (congr 1; exact decide_eq_true (sorted_ext (hby57 (by assumption)).1 (hby61 (by assumption)).1 (fun o => ((hby57 (by assumption)).2 o).trans ((hf.2 o).trans ((hby61 (by assumption)).2 o).symm))))

set_option maxRecDepth 100000 in
set_option maxHeartbeats 4000000 in
theorem fenceFull_l (code : Ls (Ls Ins)) (words : Ls Int) (Lk R k : Nat) (W : World) (hcode : code.At W) (hwords : words.At W) (hv : vastG (code.l.map (·.l)) words.l = false) (hok : OkPg (pgN code words Lk R)) (hk : k < code.l.length) (h400 : 400 < (withL (fulW code k) (nth code.l k).l).length) (hbef : ∀ j, j < k → (withL (fulW code j) (nth code.l j).l).length ≤ 400) :
    Rets Try.prog 7 [.agg #[code.v, words.v, .int .i64 ((Lk : Nat) : Int), .int .i64 ((R : Nat) : Int)]] W (fun v w' => v = .bool true ∧ Sh0 W w' []) := by
 have hz := checkG_ok hok
 obtain ⟨hl1, hl2, hl3, hl4', hl5, hl6, hl7⟩ := ok_lenN hok
 refine x_enter (N := 67) Try.func7 rfl Try.ntmps7 (Nat.le_of_ble_eq_true rfl) fun a1 hf1 => ?_
 have h1 : St 67 (fun _ => False) W a1 W [(0, .agg #[code.v, words.v, .int .i64 ((Lk : Nat) : Int), .int .i64 ((R : Nat) : Int)])] [.at_ code, .at_ words] := ⟨hf1.sub ⟨rfl, trivial⟩, Sh0.ext2 hcode hwords⟩
 clear hf1
 refine wp_seq_k fun K2 hK2 => ?_
 refine wp_region_lit ?_
 refine wl_ex (x_box (cs := [code.v, words.v, .int .i64 ((Lk : Nat) : Int), .int .i64 ((R : Nat) : Int)]) h1 rfl rfl rfl rfl rfl) (wanted_none rfl _) ?_
 rintro a3 w3 ⟨b3, h3⟩; clear h1
 refine wms 1 h3 rfl fun a4 h4 => ?_; clear h3
 refine wpList_nil ?_
 refine hK2 _ _ ?_
 refine wp_seq_k fun K5 hK5 => ?_
 refine wp_seq_k fun K6 hK6 => ?_
 refine wp_region_lit ?_
 refine wv h4 (r_ldbw (i := 0) (vs := [code.v, words.v, .int .i64 ((Lk : Nat) : Int), .int .i64 ((R : Nat) : Int)]) ti_28 rfl rfl rfl rfl rfl) rfl rfl fun a7 h7 => ?_; clear h4
 refine wl_ex (x_call h7 bd_18 rfl rfl rfl rfl rfl (vast_c (code := code) (words := words) (locks := ((Lk : Nat) : Int)) (regs := ((R : Nat) : Int)) (h7.sh.at 1 rfl) (h7.sh.at 2 rfl))) (wanted_none rfl _) ?_
 rintro a8 w8 ⟨_, ⟨rfl, hs8⟩, hf8⟩
 have h8 : St 67 (fun _ => False) W a8 w8 _ _ := ⟨hf8, h7.sh.call0 hs8⟩
 clear hf8 hs8
 clear h7
 refine wpList_nil ?_
 refine hK6 _ _ ?_
 refine x_condF h8 rfl hv ?_
 refine wp_skip ?_
 refine hK5 _ _ ?_
 refine wp_seq_k fun K9 hK9 => ?_
 refine wp_region_lit ?_
 refine wv h8 (r_ldbw (i := 0) (vs := [code.v, words.v, .int .i64 ((Lk : Nat) : Int), .int .i64 ((R : Nat) : Int)]) ti_28 rfl rfl rfl rfl rfl) rfl rfl fun a10 h10 => ?_; clear h8
 refine wl_ex (x_call h10 bd_23 rfl rfl rfl rfl rfl (full_l code words ((Lk : Nat) : Int) ((R : Nat) : Int) k _ (h10.sh.at 1 rfl) (h10.sh.at 2 rfl) hok hk h400 hbef)) (wanted_none rfl _) ?_
 rintro a11 w11 ⟨_, ⟨rfl, hs11⟩, hf11⟩
 have h11 : St 67 (fun _ => False) W a11 w11 _ _ := ⟨hf11, h10.sh.call0 hs11⟩
 clear hf11 hs11
 clear h10
 refine wms 1 h11 rfl fun a12 h12 => ?_; clear h11
 refine wv h12 (r_extract rfl rfl rfl) rfl rfl fun a13 h13 => ?_; clear h12
 refine wv h13 (r_extract rfl rfl rfl) rfl rfl fun a14 h14 => ?_; clear h13
 refine wl_ex (x_alloc h14 ti_28 rfl rfl rfl) (wanted_none rfl _) ?_
 rintro a15 w15 ⟨b15, h15⟩; clear h14
 refine wl_ex (x_alloc h15 ti_31 rfl rfl rfl) (wanted_none rfl _) ?_
 rintro a16 w16 ⟨b16, h16⟩; clear h15
 refine wl_ex (x_stb (i := 1) (vs := [(.slice none 0 0), (.slice none 0 0), .int .i64 0, .int .i64 0]) (cs' := [(.slice none 0 0), (.slice none 0 0), .int .i64 0, .int .i64 0]) h16 ti_28 rfl rfl rfl rfl rfl rfl rfl (allOne_cons ((Sh.nilAt (α := Ls Ins) h16.sh)).one (allOne_cons ((Sh.nilAt (α := Int) h16.sh)).one (allOne_cons rfl (allOne_cons rfl allOne_nil)))) (Nat.le_of_ble_eq_true rfl) rfl) (wanted_none rfl _) ?_
 rintro a17 w17 h17
 clear h16
 refine wl_ex (x_stb (i := 0) (vs := [.int .i64 1, .int .i64 ((k : Nat) : Int), .int .i64 0]) (cs' := [.int .i64 1, .int .i64 ((k : Nat) : Int), .int .i64 0]) h17 ti_31 rfl rfl rfl rfl rfl rfl rfl (allOne_cons rfl (allOne_cons rfl (allOne_cons rfl allOne_nil))) (Nat.le_of_ble_eq_true rfl) rfl) (wanted_none rfl _) ?_
 rintro a18 w18 h18
 clear h17
 refine wpList_nil ?_
 refine hK9 _ _ ?_
 refine wp_seq_k fun K19 hK19 => ?_
 refine wp_region_lit ?_
 refine wv h18 (r_ldbw (i := 2) (vs := [code.v, words.v, .int .i64 ((Lk : Nat) : Int), .int .i64 ((R : Nat) : Int)]) ti_28 rfl rfl rfl rfl rfl) rfl rfl fun a20 h20 => ?_; clear h18
 refine wl_ex (x_call h20 bd_20 rfl rfl rfl rfl rfl (refCheck_c (code := code) (words := words) (locks := ((Lk : Nat) : Int)) (regs := ((R : Nat) : Int)) (h20.sh.at 3 rfl) (h20.sh.at 4 rfl))) (wanted_none rfl _) ?_
 rintro a21 w21 ⟨_, ⟨rfl, hs21⟩, hf21⟩
 have h21 : St 67 (fun _ => False) W a21 w21 _ _ := ⟨hf21, h20.sh.call0 hs21⟩
 clear hf21 hs21
 clear h20
 refine wl_ex (x_alloc h21 ti_31 rfl rfl rfl) (wanted_none rfl _) ?_
 rintro a22 w22 ⟨b22, h22⟩; clear h21
 refine wl_ex (x_stb (i := 0) (vs := [.int .i64 ((checkG (pgOf code words ((Lk : Nat) : Int) ((R : Nat) : Int))).code), .int .i64 ((checkG (pgOf code words ((Lk : Nat) : Int) ((R : Nat) : Int))).thread), .int .i64 ((checkG (pgOf code words ((Lk : Nat) : Int) ((R : Nat) : Int))).at_)]) (cs' := [.int .i64 ((checkG (pgOf code words ((Lk : Nat) : Int) ((R : Nat) : Int))).code), .int .i64 ((checkG (pgOf code words ((Lk : Nat) : Int) ((R : Nat) : Int))).thread), .int .i64 ((checkG (pgOf code words ((Lk : Nat) : Int) ((R : Nat) : Int))).at_)]) h22 ti_31 rfl rfl rfl rfl rfl rfl rfl (allOne_cons rfl (allOne_cons rfl (allOne_cons rfl allOne_nil))) (Nat.le_of_ble_eq_true rfl) rfl) (wanted_none rfl _) ?_
 rintro a23 w23 h23
 clear h22
 refine wpList_nil ?_
 refine hK19 _ _ ?_
 refine wp_seq_k fun K24 hK24 => ?_
 refine wp_seq_k fun K25 hK25 => ?_
 refine wp_region_lit ?_
 refine wv h23 (r_fieldB (r := 0) fl_31_0 rfl rfl rfl) rfl rfl fun a26 h26 => ?_; clear h23
 refine wv h26 (r_ldb (i := 1) ti_22 rfl rfl rfl rfl) rfl rfl fun a27 h27 => ?_; clear h26
 refine wv h27 (r_eqlN (p := 1) (q := 1) rfl rfl rfl) rfl rfl fun a28 h28 => ?_; clear h27
 refine wms 1 h28 rfl fun a29 h29 => ?_; clear h28
 refine wl_val h29 (r_fieldB (r := 0) fl_31_0 rfl rfl rfl) (wanted_yes h29.fr rfl rfl rfl rfl (by decide)) rfl rfl fun a30 h30 => ?_; clear h29
 refine wl_val h30 (r_ldb (i := 0) ti_22 rfl rfl rfl rfl) (wanted_yes h30.fr rfl rfl rfl rfl (by decide)) rfl rfl fun a31 h31 => ?_; clear h30
 refine wl_val h31 (r_eqlI (p := (checkG (pgOf code words ((Lk : Nat) : Int) ((R : Nat) : Int))).code) (q := 0) rfl rfl rfl) (wanted_yes h31.fr rfl rfl rfl rfl (by decide)) rfl rfl fun a32 h32 => ?_; clear h31
 refine wv h32 (r_pickT rfl rfl (by decide) rfl) rfl rfl fun a33 h33 => ?_; clear h32
 refine wpList_nil ?_
 refine hK25 _ _ ?_
 refine x_condT h33 rfl (by rw [show checkG (pgOf code words ((Lk : Nat) : Int) ((R : Nat) : Int)) = ⟨0, 0, 0⟩ from hz]; rfl) ?_
 refine wp_seq_k fun K34 hK34 => ?_
 refine wp_region_lit ?_
 refine wms 1 h33 rfl fun a35 h35 => ?_; clear h33
 refine wpList_nil ?_
 refine hK34 _ _ ?_
 refine wp_ret ?_
 try simp only [Exit.then, Exit.inBlock]
 refine x_ret1 (fn := Try.f7) (t := 2) rfl h35 rfl ?_
 exact ⟨rfl, (h35.sh.sel [] (by decide) trivial)⟩

theorem fenceFull_any (code : Ls (Ls Ins)) (words : Ls Int) (locks regs : Int) (W : World) (hcode : code.At W) (hwords : words.At W) : Rets Try.prog 7 [.agg #[code.v, words.v, .int .i64 locks, .int .i64 regs]] W (fun v w' => v = .bool true ∧ Sh0 W w' []) := by
  cases hv : vastG (code.l.map (·.l)) words.l with
  | true => exact fenceFull_v code words locks regs W hcode hwords hv
  | false =>
    by_cases hok : OkPg (pgOf code words locks regs)
    · obtain ⟨Lk, rfl⟩ := Int.eq_ofNat_of_zero_le hok.locks.1
      obtain ⟨R, rfl⟩ := Int.eq_ofNat_of_zero_le (show 0 ≤ regs by have := hok.regs.1; have e : (pgOf code words (Lk : Int) regs).regs = regs := rfl; omega)
      by_cases hsh : ∀ j, j < code.l.length → (withL (fulW code j) (nth code.l j).l).length ≤ 400
      · exact fenceFull_k code words Lk R W hcode hwords hv hok hsh
      · have hex : ∃ k, k < code.l.length ∧ 400 < (withL (fulW code k) (nth code.l k).l).length := by
          apply Classical.byContradiction
          intro hn
          exact hsh fun j hj => Nat.le_of_not_lt fun h4 => hn ⟨j, hj, h4⟩
        have least : ∀ n, (∃ k, k < n ∧ k < code.l.length ∧ 400 < (withL (fulW code k) (nth code.l k).l).length) → ∃ k, k < code.l.length ∧ 400 < (withL (fulW code k) (nth code.l k).l).length ∧ ∀ j, j < k → (withL (fulW code j) (nth code.l j).l).length ≤ 400 := by
          intro n
          induction n with
          | zero => rintro ⟨k, hk, _⟩; omega
          | succ n ih =>
            rintro ⟨k, hk, h1, h2⟩
            by_cases hb : ∃ j, j < k ∧ j < code.l.length ∧ 400 < (withL (fulW code j) (nth code.l j).l).length
            · obtain ⟨j, hj, hj2⟩ := hb
              exact ih ⟨j, by omega, hj2⟩
            · exact ⟨k, h1, h2, fun j hj => Nat.le_of_not_lt fun h4 => hb ⟨j, hj, by omega, h4⟩⟩
        obtain ⟨k0, hk0⟩ := hex
        obtain ⟨k, hk, h4, hb⟩ := least (k0 + 1) ⟨k0, by omega, hk0⟩
        exact fenceFull_l code words Lk R k W hcode hwords hv hok hk h4 hb
    · exact fenceFull_b code words locks regs W hcode hwords hv (fun h => hok (checkG_code_pos.1 h))
end Go.Proofs.Ytanhbpofhebbaaa
