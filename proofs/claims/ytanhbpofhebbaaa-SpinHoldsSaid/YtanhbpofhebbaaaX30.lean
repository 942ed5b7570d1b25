/-
  Contracts of functions of this program and of the references, each walked once.
-/
import Derived.Test.YtanhbpofhebbaaaX29
import Derived.Test.YtanhbpofhebbaaaX8
import Derived.Test.YtanhbpofhebbaaaK4
namespace Go.Proofs.Ytanhbpofhebbaaa
open Go.RowKit
set_option linter.unusedSimpArgs false
set_option linter.unusedVariables false


theorem spin_q {code c : Ls (Ls Ins)} {words u : Ls Int} {Lk R : Nat} (hok : OkPg (pgN code words Lk R)) (hr : (R : Int) ≤ 6) (hs : (words.l.length : Int) + (Lk : Int) ≤ 64) (hsh : ∀ j, j < code.l.length → (linkL words.l.length (nth code.l j).l).length ≤ 400)
    (hq : c.l.map (·.l) = (code.l.map (·.l)).map (linkL words.l.length)) (hu : u.l = words.l ++ List.replicate (Lk : Int).toNat 0) : pgN c u 0 8 = linkPg (pgN code words Lk R) ∧ OkPg (pgN c u 0 8) := by
  have e : pgN c u 0 8 = linkPg (pgN code words Lk R) := by unfold pgN pgOf linkPg; rw [hq, hu]; rfl
  refine ⟨e, ?_⟩
  rw [e]
  exact linkPg_ok hok hr hs fun t ht => by
    rw [pgN_len] at ht
    rw [pgN_code ht]; exact hsh t ht
theorem cut_ok {en : Ls OutL} {p : Pg} {m : Int} {n : Nat} (hok : OkPg p) (hn : n ≤ p.words.length) (h : ∀ o, o ∈ en.l.map OutL.out ↔ Outs p m o) : ∀ i, i < en.l.length → (nth en.l i).st = 0 → n ≤ (nth en.l i).words.l.length := by
  intro i hi h0
  have h1 := (h _).1 (List.mem_map.2 ⟨_, nth_mem _ _ hi, rfl⟩)
  have h2 : Outs p m ⟨0, (nth en.l i).words.l, (nth en.l i).prints.l⟩ := by rw [← h0]; exact h1
  rw [outs_len hok h2]; exact hn
theorem no_fell {en : Ls OutL} {p : Pg} (h : ∀ o, o ∈ en.l.map OutL.out ↔ Outs p 1 o) (hall : ∀ j, j < en.l.length → (nth en.l j).st ≠ 1) : ∀ o, Outs p 1 o → o.st ≠ 1 := by
  intro o ho
  obtain ⟨y, hy, rfl⟩ := List.mem_map.1 ((h o).2 ho)
  obtain ⟨i, hi, rfl⟩ := List.mem_iff_getElem.1 hy
  have := hall i hi
  rwa [nth_lt _ _ hi] at this
theorem spin_eq {code c : Ls (Ls Ins)} {words u : Ls Int} {Lk R : Nat} {m : Int} {a b x y s : List OutL} (hok : OkPg (pgN code words Lk R)) (hq : pgN c u 0 8 = linkPg (pgN code words Lk R) ∧ OkPg (pgN c u 0 8)) (hR : (R : Int) ≤ 6) (hm : m = 0 ∨ m = 1) (hnf : ∀ o, Outs (pgN code words Lk R) 1 o → o.st ≠ 1)
    (ha : Sorted_ (a.map OutL.out) ∧ ∀ o, o ∈ a.map OutL.out ↔ Outs (pgN code words Lk R) m o) (hb : Sorted_ (b.map OutL.out) ∧ ∀ o, o ∈ b.map OutL.out ↔ Outs (pgN c u 0 8) m o)
    (hx : x.map OutL.out = cutL words.l.length (a.map OutL.out)) (hy : y.map OutL.out = cutL words.l.length (b.map OutL.out)) (hs : Sorted_ (s.map OutL.out) ∧ ∀ o, o ∈ s.map OutL.out ↔ o ∈ y.map OutL.out) : x.map OutL.out = s.map OutL.out := by
  have e := hq.1
  have h2 := hq.2
  rw [e] at hb h2
  rw [hy] at hs
  exact hx.trans (spin_same hok h2 hR hm hnf ha hb.2 hs)

set_option maxRecDepth 100000 in
set_option maxHeartbeats 4000000 in
theorem spinHolds_v (code : Ls (Ls Ins)) (words : Ls Int) (locks regs : Int) (W : World) (hcode : code.At W) (hwords : words.At W) (hv : vastG (code.l.map (·.l)) words.l = true) :
    Rets Try.prog 11 [.agg #[code.v, words.v, .int .i64 locks, .int .i64 regs]] W (fun v w' => v = .bool true ∧ Sh0 W w' []) := by
 refine x_enter (N := 128) Try.func11 rfl Try.ntmps11 (Nat.le_of_ble_eq_true rfl) fun a1 hf1 => ?_
 have h1 : St 128 (fun _ => False) W a1 W [(0, .agg #[code.v, words.v, .int .i64 locks, .int .i64 regs])] [.at_ code, .at_ words] := ⟨hf1.sub ⟨rfl, trivial⟩, Sh0.ext2 hcode hwords⟩
 clear hf1
 refine wp_seq_k fun K2 hK2 => wp_region_lit <| wl_ex (x_box (cs := [code.v, words.v, .int .i64 locks, .int .i64 regs]) h1 rfl rfl rfl rfl rfl) (wanted_none rfl _) ?_
 rintro a3 w3 ⟨b3, h3⟩; clear h1
 refine wms 1 h3 rfl fun a4 h4 => wpList_nil <| hK2 _ _ <| wp_seq_k fun K5 hK5 => wp_seq_k fun K6 hK6 => wp_region_lit <| wv h4 (r_ldbw (i := 0) (vs := [code.v, words.v, .int .i64 locks, .int .i64 regs]) ti_28 rfl rfl rfl rfl rfl) rfl rfl fun a7 h7 => wl_ex (x_call h7 bd_18 rfl rfl rfl rfl rfl (vast_c (code := code) (words := words) (locks := locks) (regs := regs) (h7.sh.at 1 rfl) (h7.sh.at 2 rfl))) (wanted_none rfl _) ?_; clear h3 h4
 rintro a8 w8 ⟨_, ⟨rfl, hs8⟩, hf8⟩
 have h8 : St 128 (fun _ => False) W a8 w8 _ _ := ⟨hf8, h7.sh.call0 hs8⟩
 clear hf8 hs8
 clear h7
 refine wpList_nil <| hK6 _ _ <| x_condT h8 rfl hv <| wp_seq_k fun K9 hK9 => wp_region_lit <| wms 1 h8 rfl fun a10 h10 => wpList_nil <| hK9 _ _ <| wp_ret ?_; clear h8
 try simp only [Exit.then, Exit.inBlock]
 refine x_ret1 (fn := Try.f11) (t := 2) rfl h10 rfl ?_
 exact ⟨rfl, (h10.sh.sel [] (by decide) trivial)⟩

set_option maxRecDepth 100000 in
set_option maxHeartbeats 4000000 in
theorem spinHolds_b (code : Ls (Ls Ins)) (words : Ls Int) (locks regs : Int) (W : World) (hcode : code.At W) (hwords : words.At W) (hv : vastG (code.l.map (·.l)) words.l = false) (hz : (checkG (pgOf code words locks regs)).code ≠ 0) :
    Rets Try.prog 11 [.agg #[code.v, words.v, .int .i64 locks, .int .i64 regs]] W (fun v w' => v = .bool true ∧ Sh0 W w' []) := by
 refine x_enter (N := 128) Try.func11 rfl Try.ntmps11 (Nat.le_of_ble_eq_true rfl) fun a1 hf1 => ?_
 have h1 : St 128 (fun _ => False) W a1 W [(0, .agg #[code.v, words.v, .int .i64 locks, .int .i64 regs])] [.at_ code, .at_ words] := ⟨hf1.sub ⟨rfl, trivial⟩, Sh0.ext2 hcode hwords⟩
 clear hf1
 refine wp_seq_k fun K2 hK2 => wp_region_lit <| wl_ex (x_box (cs := [code.v, words.v, .int .i64 locks, .int .i64 regs]) h1 rfl rfl rfl rfl rfl) (wanted_none rfl _) ?_
 rintro a3 w3 ⟨b3, h3⟩; clear h1
 refine wms 1 h3 rfl fun a4 h4 => wpList_nil <| hK2 _ _ <| wp_seq_k fun K5 hK5 => wp_seq_k fun K6 hK6 => wp_region_lit <| wv h4 (r_ldbw (i := 0) (vs := [code.v, words.v, .int .i64 locks, .int .i64 regs]) ti_28 rfl rfl rfl rfl rfl) rfl rfl fun a7 h7 => wl_ex (x_call h7 bd_18 rfl rfl rfl rfl rfl (vast_c (code := code) (words := words) (locks := locks) (regs := regs) (h7.sh.at 1 rfl) (h7.sh.at 2 rfl))) (wanted_none rfl _) ?_; clear h3 h4
 rintro a8 w8 ⟨_, ⟨rfl, hs8⟩, hf8⟩
 have h8 : St 128 (fun _ => False) W a8 w8 _ _ := ⟨hf8, h7.sh.call0 hs8⟩
 clear hf8 hs8
 clear h7
 refine wpList_nil <| hK6 _ _ <| x_condF h8 rfl hv <| wp_skip <| hK5 _ _ <| wp_seq_k fun K9 hK9 => wp_region_lit <| wv h8 (r_ldbw (i := 0) (vs := [code.v, words.v, .int .i64 locks, .int .i64 regs]) ti_28 rfl rfl rfl rfl rfl) rfl rfl fun a10 h10 => wl_ex (x_call h10 bd_31 rfl rfl rfl rfl rfl (link_b code words locks regs _ (h10.sh.at 1 rfl) (h10.sh.at 2 rfl) hz)) (wanted_none rfl _) ?_; clear h8
 rintro a11 w11 ⟨_, ⟨rfl, hs11⟩, hf11⟩
 have h11 : St 128 (fun _ => False) W a11 w11 _ _ := ⟨hf11, h10.sh.call0 hs11⟩
 clear hf11 hs11
 clear h10
 refine wms 1 h11 rfl fun a12 h12 => wv h12 (r_extract rfl rfl rfl) rfl rfl fun a13 h13 => wv h13 (r_extract rfl rfl rfl) rfl rfl fun a14 h14 => wl_ex (x_alloc h14 ti_28 rfl rfl rfl) (wanted_none rfl _) ?_; clear h11 h12 h13
 rintro a15 w15 ⟨b15, h15⟩; clear h14
 refine wl_ex (x_alloc h15 ti_31 rfl rfl rfl) (wanted_none rfl _) ?_
 rintro a16 w16 ⟨b16, h16⟩; clear h15
 refine wl_ex (x_stb (i := 1) (vs := [(.slice none 0 0), (.slice none 0 0), .int .i64 0, .int .i64 0]) (cs' := [(.slice none 0 0), (.slice none 0 0), .int .i64 0, .int .i64 0]) h16 ti_28 rfl rfl rfl rfl rfl rfl rfl (allOne_cons ((Sh.nilAt (α := Ls Ins) h16.sh)).one (allOne_cons ((Sh.nilAt (α := Int) h16.sh)).one (allOne_cons rfl (allOne_cons rfl allOne_nil)))) (Nat.le_of_ble_eq_true rfl) rfl) (wanted_none rfl _) ?_
 rintro a17 w17 h17
 clear h16
 refine wl_ex (x_stb (i := 0) (vs := [.int .i64 ((checkG (pgOf code words locks regs)).code), .int .i64 ((checkG (pgOf code words locks regs)).thread), .int .i64 ((checkG (pgOf code words locks regs)).at_)]) (cs' := [.int .i64 ((checkG (pgOf code words locks regs)).code), .int .i64 ((checkG (pgOf code words locks regs)).thread), .int .i64 ((checkG (pgOf code words locks regs)).at_)]) h17 ti_31 rfl rfl rfl rfl rfl rfl rfl (allOne_cons rfl (allOne_cons rfl (allOne_cons rfl allOne_nil))) (Nat.le_of_ble_eq_true rfl) rfl) (wanted_none rfl _) ?_
 rintro a18 w18 h18
 clear h17
 refine wpList_nil <| hK9 _ _ <| wp_seq_k fun K19 hK19 => wp_region_lit <| wv h18 (r_ldbw (i := 2) (vs := [code.v, words.v, .int .i64 locks, .int .i64 regs]) ti_28 rfl rfl rfl rfl rfl) rfl rfl fun a20 h20 => wl_ex (x_call h20 bd_20 rfl rfl rfl rfl rfl (refCheck_c (code := code) (words := words) (locks := locks) (regs := regs) (h20.sh.at 3 rfl) (h20.sh.at 4 rfl))) (wanted_none rfl _) ?_; clear h18
 rintro a21 w21 ⟨_, ⟨rfl, hs21⟩, hf21⟩
 have h21 : St 128 (fun _ => False) W a21 w21 _ _ := ⟨hf21, h20.sh.call0 hs21⟩
 clear hf21 hs21
 clear h20
 refine wl_ex (x_alloc h21 ti_31 rfl rfl rfl) (wanted_none rfl _) ?_
 rintro a22 w22 ⟨b22, h22⟩; clear h21
 refine wl_ex (x_stb (i := 0) (vs := [.int .i64 ((checkG (pgOf code words locks regs)).code), .int .i64 ((checkG (pgOf code words locks regs)).thread), .int .i64 ((checkG (pgOf code words locks regs)).at_)]) (cs' := [.int .i64 ((checkG (pgOf code words locks regs)).code), .int .i64 ((checkG (pgOf code words locks regs)).thread), .int .i64 ((checkG (pgOf code words locks regs)).at_)]) h22 ti_31 rfl rfl rfl rfl rfl rfl rfl (allOne_cons rfl (allOne_cons rfl (allOne_cons rfl allOne_nil))) (Nat.le_of_ble_eq_true rfl) rfl) (wanted_none rfl _) ?_
 rintro a23 w23 h23
 clear h22
 refine wpList_nil <| hK19 _ _ <| wp_seq_k fun K24 hK24 => wp_seq_k fun K25 hK25 => wp_region_lit <| wv h23 (r_fieldB (r := 0) fl_31_0 rfl rfl rfl) rfl rfl fun a26 h26 => wv h26 (r_ldb (i := 0) ti_22 rfl rfl rfl rfl) rfl rfl fun a27 h27 => wv h27 (r_neqI (p := (checkG (pgOf code words locks regs)).code) (q := 0) rfl rfl rfl) rfl rfl fun a28 h28 => wpList_nil <| hK25 _ _ <| x_condT h28 rfl (decide_eq_true hz) <| wp_seq_k fun K29 hK29 => wp_region_lit <| wv h28 (r_ldbw (i := 1) (vs := [.int .i64 ((checkG (pgOf code words locks regs)).code), .int .i64 ((checkG (pgOf code words locks regs)).thread), .int .i64 ((checkG (pgOf code words locks regs)).at_)]) ti_31 rfl rfl rfl rfl rfl) rfl rfl fun a30 h30 => ?_; clear h23 h26 h27 h28
 refine wv h30 (r_ldbw (i := 0) (vs := [.int .i64 ((checkG (pgOf code words locks regs)).code), .int .i64 ((checkG (pgOf code words locks regs)).thread), .int .i64 ((checkG (pgOf code words locks regs)).at_)]) ti_31 rfl rfl rfl rfl rfl) rfl rfl fun a31 h31 => wv h31 (r_eqS rfl rfl rfl (fun w => eq_fltG _ _ ⟨(checkG (pgOf code words locks regs)).code, (checkG (pgOf code words locks regs)).thread, (checkG (pgOf code words locks regs)).at_⟩ ⟨(checkG (pgOf code words locks regs)).code, (checkG (pgOf code words locks regs)).thread, (checkG (pgOf code words locks regs)).at_⟩ w) (fun w => eq_flt ⟨(checkG (pgOf code words locks regs)).code, (checkG (pgOf code words locks regs)).thread, (checkG (pgOf code words locks regs)).at_⟩ ⟨(checkG (pgOf code words locks regs)).code, (checkG (pgOf code words locks regs)).thread, (checkG (pgOf code words locks regs)).at_⟩ w)) rfl rfl fun a32 h32 => wms 1 h32 rfl fun a33 h33 => wpList_nil <| hK29 _ _ <| wp_ret ?_; clear h30 h31 h32
 try simp only [Exit.then, Exit.inBlock]
 refine x_ret1 (fn := Try.f11) (t := 2) rfl h33 rfl ?_
 exact ⟨congrArg _ (decide_eq_true rfl), (h33.sh.sel [] (by decide) trivial)⟩

set_option maxRecDepth 100000 in
set_option maxHeartbeats 4000000 in
theorem spinHolds_k (code : Ls (Ls Ins)) (words : Ls Int) (Lk R : Nat) (W : World) (hcode : code.At W) (hwords : words.At W) (hv : vastG (code.l.map (·.l)) words.l = false) (hok : OkPg (pgN code words Lk R)) (hr : (R : Int) ≤ 6) (hs : (words.l.length : Int) + (Lk : Int) ≤ 64) (hshort : ∀ j, j < code.l.length → (linkL words.l.length (nth code.l j).l).length ≤ 400) :
    Rets Try.prog 11 [.agg #[code.v, words.v, .int .i64 ((Lk : Nat) : Int), .int .i64 ((R : Nat) : Int)]] W (fun v w' => v = .bool true ∧ Sh0 W w' []) := by
 have hz := checkG_ok hok
 obtain ⟨hl1, hl2, hl3, hl4', hl5, hl6, hl7⟩ := ok_lenN hok
 refine x_enter (N := 128) Try.func11 rfl Try.ntmps11 (Nat.le_of_ble_eq_true rfl) fun a1 hf1 => ?_
 have h1 : St 128 (fun _ => False) W a1 W [(0, .agg #[code.v, words.v, .int .i64 ((Lk : Nat) : Int), .int .i64 ((R : Nat) : Int)])] [.at_ code, .at_ words] := ⟨hf1.sub ⟨rfl, trivial⟩, Sh0.ext2 hcode hwords⟩
 clear hf1
 refine wp_seq_k fun K2 hK2 => wp_region_lit <| wl_ex (x_box (cs := [code.v, words.v, .int .i64 ((Lk : Nat) : Int), .int .i64 ((R : Nat) : Int)]) h1 rfl rfl rfl rfl rfl) (wanted_none rfl _) ?_
 rintro a3 w3 ⟨b3, h3⟩; clear h1
 refine wms 1 h3 rfl fun a4 h4 => wpList_nil <| hK2 _ _ <| wp_seq_k fun K5 hK5 => wp_seq_k fun K6 hK6 => wp_region_lit <| wv h4 (r_ldbw (i := 0) (vs := [code.v, words.v, .int .i64 ((Lk : Nat) : Int), .int .i64 ((R : Nat) : Int)]) ti_28 rfl rfl rfl rfl rfl) rfl rfl fun a7 h7 => wl_ex (x_call h7 bd_18 rfl rfl rfl rfl rfl (vast_c (code := code) (words := words) (locks := ((Lk : Nat) : Int)) (regs := ((R : Nat) : Int)) (h7.sh.at 1 rfl) (h7.sh.at 2 rfl))) (wanted_none rfl _) ?_; clear h3 h4
 rintro a8 w8 ⟨_, ⟨rfl, hs8⟩, hf8⟩
 have h8 : St 128 (fun _ => False) W a8 w8 _ _ := ⟨hf8, h7.sh.call0 hs8⟩
 clear hf8 hs8
 clear h7
 refine wpList_nil <| hK6 _ _ <| x_condF h8 rfl hv <| wp_skip <| hK5 _ _ <| wp_seq_k fun K9 hK9 => wp_region_lit <| wv h8 (r_ldbw (i := 0) (vs := [code.v, words.v, .int .i64 ((Lk : Nat) : Int), .int .i64 ((R : Nat) : Int)]) ti_28 rfl rfl rfl rfl rfl) rfl rfl fun a10 h10 => wl_ex (x_call h10 bd_31 rfl rfl rfl rfl rfl (link_k code words ((Lk : Nat) : Int) ((R : Nat) : Int) _ (h10.sh.at 1 rfl) (h10.sh.at 2 rfl) hok hr hs hshort)) (wanted_none rfl _) ?_; clear h8
 rintro a11 w11 ⟨_, ⟨c11, u11, rfl, hq11, hu11, hs11⟩, hf11⟩
 have hf := spin_q hok hr hs hshort hq11 hu11
 have hz2 := checkG_ok hf.2
 have hul : words.l.length ≤ u11.l.length := by rw [hu11]; simp
 have h11 := (⟨hf11, h10.sh.call hs11 (by intro A hA b hb; first | (simp at hA; done) | (simp at hA; subst hA; first | exact Flat.noRd hb | exact (hb : False).elim) | (simp at hA; rcases hA with rfl | rfl <;> first | exact Flat.noRd hb | exact (hb : False).elim))⟩ : St 128 (fun _ => False) W a11 w11 _ _)
 clear hf11 hs11
 clear h10
 refine wms 1 h11 rfl fun a12 h12 => wv h12 (r_extract rfl rfl rfl) rfl rfl fun a13 h13 => wv h13 (r_extract rfl rfl rfl) rfl rfl fun a14 h14 => wl_ex (x_alloc h14 ti_28 rfl rfl rfl) (wanted_none rfl _) ?_; clear h11 h12 h13
 rintro a15 w15 ⟨b15, h15⟩; clear h14
 refine wl_ex (x_alloc h15 ti_31 rfl rfl rfl) (wanted_none rfl _) ?_
 rintro a16 w16 ⟨b16, h16⟩; clear h15
 refine wl_ex (x_stb (i := 1) (vs := [c11.v, u11.v, .int .i64 0, .int .i64 8]) (cs' := [c11.v, u11.v, .int .i64 0, .int .i64 8]) h16 ti_28 rfl rfl rfl rfl rfl rfl rfl (allOne_cons ((h16.sh.deep 2 rfl)).one (allOne_cons ((h16.sh.own 3 rfl)).one (allOne_cons rfl (allOne_cons rfl allOne_nil)))) (Nat.le_of_ble_eq_true rfl) rfl) (wanted_none rfl _) ?_
 rintro a17 w17 h17
 clear h16
 refine wl_ex (x_stb (i := 0) (vs := [.int .i64 0, .int .i64 0, .int .i64 0]) (cs' := [.int .i64 0, .int .i64 0, .int .i64 0]) h17 ti_31 rfl rfl rfl rfl rfl rfl rfl (allOne_cons rfl (allOne_cons rfl (allOne_cons rfl allOne_nil))) (Nat.le_of_ble_eq_true rfl) rfl) (wanted_none rfl _) ?_
 rintro a18 w18 h18
 clear h17
 refine wpList_nil <| hK9 _ _ <| wp_seq_k fun K19 hK19 => wp_region_lit <| wv h18 (r_ldbw (i := 4) (vs := [code.v, words.v, .int .i64 ((Lk : Nat) : Int), .int .i64 ((R : Nat) : Int)]) ti_28 rfl rfl rfl rfl rfl) rfl rfl fun a20 h20 => wl_ex (x_call h20 bd_20 rfl rfl rfl rfl rfl (refCheck_c (code := code) (words := words) (locks := ((Lk : Nat) : Int)) (regs := ((R : Nat) : Int)) (h20.sh.at 5 rfl) (h20.sh.at 6 rfl))) (wanted_none rfl _) ?_; clear h18
 rintro a21 w21 ⟨_, ⟨rfl, hs21⟩, hf21⟩
 have h21 : St 128 (fun _ => False) W a21 w21 _ _ := ⟨hf21, h20.sh.call0 hs21⟩
 clear hf21 hs21
 clear h20
 refine wl_ex (x_alloc h21 ti_31 rfl rfl rfl) (wanted_none rfl _) ?_
 rintro a22 w22 ⟨b22, h22⟩; clear h21
 refine wl_ex (x_stb (i := 0) (vs := [.int .i64 ((checkG (pgOf code words ((Lk : Nat) : Int) ((R : Nat) : Int))).code), .int .i64 ((checkG (pgOf code words ((Lk : Nat) : Int) ((R : Nat) : Int))).thread), .int .i64 ((checkG (pgOf code words ((Lk : Nat) : Int) ((R : Nat) : Int))).at_)]) (cs' := [.int .i64 ((checkG (pgOf code words ((Lk : Nat) : Int) ((R : Nat) : Int))).code), .int .i64 ((checkG (pgOf code words ((Lk : Nat) : Int) ((R : Nat) : Int))).thread), .int .i64 ((checkG (pgOf code words ((Lk : Nat) : Int) ((R : Nat) : Int))).at_)]) h22 ti_31 rfl rfl rfl rfl rfl rfl rfl (allOne_cons rfl (allOne_cons rfl (allOne_cons rfl allOne_nil))) (Nat.le_of_ble_eq_true rfl) rfl) (wanted_none rfl _) ?_
 rintro a23 w23 h23
 clear h22
 refine wpList_nil <| hK19 _ _ <| wp_seq_k fun K24 hK24 => wp_seq_k fun K25 hK25 => wp_region_lit <| wv h23 (r_fieldB (r := 0) fl_31_0 rfl rfl rfl) rfl rfl fun a26 h26 => wv h26 (r_ldb (i := 0) ti_22 rfl rfl rfl rfl) rfl rfl fun a27 h27 => wv h27 (r_neqI (p := (checkG (pgOf code words ((Lk : Nat) : Int) ((R : Nat) : Int))).code) (q := 0) rfl rfl rfl) rfl rfl fun a28 h28 => wpList_nil <| hK25 _ _ <| x_condF h28 rfl (by rw [show checkG (pgOf code words ((Lk : Nat) : Int) ((R : Nat) : Int)) = ⟨0, 0, 0⟩ from hz]; rfl) ?_; clear h23 h26 h27
 refine wp_skip <| hK24 _ _ <| wp_seq_k fun K29 hK29 => wp_seq_k fun K30 hK30 => wp_region_lit <| wv h28 (r_fieldB (r := 0) fl_31_0 rfl rfl rfl) rfl rfl fun a31 h31 => wv h31 (r_ldb (i := 1) ti_22 rfl rfl rfl rfl) rfl rfl fun a32 h32 => wv h32 (r_neqN (p := 0) (q := 0) rfl rfl rfl) rfl rfl fun a33 h33 => wpList_nil <| hK30 _ _ <| x_condF h33 rfl (by decide) <| wp_skip <| hK29 _ _ <| wp_seq_k fun K34 hK34 => ?_; clear h28 h31 h32
 refine wp_region_lit <| wv h33 (r_ldbw (i := 2) (vs := [c11.v, u11.v, .int .i64 0, .int .i64 8]) ti_28 rfl rfl rfl rfl rfl) rfl rfl fun a35 h35 => wl_ex (x_call h35 bd_20 rfl rfl rfl rfl rfl (refCheck_c (code := c11) (words := u11) (locks := 0) (regs := 8) (h35.sh.deep 3 rfl) (h35.sh.own 4 rfl))) (wanted_none rfl _) ?_; clear h33
 rintro a36 w36 ⟨_, ⟨rfl, hs36⟩, hf36⟩
 have h36 : St 128 (fun _ => False) W a36 w36 _ _ := ⟨hf36, h35.sh.call0 hs36⟩
 clear hf36 hs36
 clear h35
 refine wl_ex (x_alloc h36 ti_31 rfl rfl rfl) (wanted_none rfl _) ?_
 rintro a37 w37 ⟨b37, h37⟩; clear h36
 refine wl_ex (x_stb (i := 0) (vs := [.int .i64 ((checkG (pgOf c11 u11 0 8)).code), .int .i64 ((checkG (pgOf c11 u11 0 8)).thread), .int .i64 ((checkG (pgOf c11 u11 0 8)).at_)]) (cs' := [.int .i64 ((checkG (pgOf c11 u11 0 8)).code), .int .i64 ((checkG (pgOf c11 u11 0 8)).thread), .int .i64 ((checkG (pgOf c11 u11 0 8)).at_)]) h37 ti_31 rfl rfl rfl rfl rfl rfl rfl (allOne_cons rfl (allOne_cons rfl (allOne_cons rfl allOne_nil))) (Nat.le_of_ble_eq_true rfl) rfl) (wanted_none rfl _) ?_
 rintro a38 w38 h38
 clear h37
 refine wpList_nil <| hK34 _ _ <| wp_seq_k fun K39 hK39 => wp_seq_k fun K40 hK40 => wp_region_lit <| wv h38 (r_fieldB (r := 0) fl_31_0 rfl rfl rfl) rfl rfl fun a41 h41 => wv h41 (r_ldb (i := 0) ti_22 rfl rfl rfl rfl) rfl rfl fun a42 h42 => wv h42 (r_neqI (p := (checkG (pgOf c11 u11 0 8)).code) (q := 0) rfl rfl rfl) rfl rfl fun a43 h43 => wpList_nil <| hK40 _ _ ?_; clear h38 h41 h42
 have h44 : St 128 (fun _ => False) W a43 w38 [(1, .pointer (some ⟨b3, 0, none⟩)), (3, .pointer (some ⟨b15, 0, none⟩)), (54, .bool (decide ((checkG (pgOf c11 u11 0 8)).code ≠ 0)))] [.blk b37 31 [.int .i64 ((checkG (pgOf c11 u11 0 8)).code), .int .i64 ((checkG (pgOf c11 u11 0 8)).thread), .int .i64 ((checkG (pgOf c11 u11 0 8)).at_)], .blk b22 31 [.int .i64 ((checkG (pgOf code words ((Lk : Nat) : Int) ((R : Nat) : Int))).code), .int .i64 ((checkG (pgOf code words ((Lk : Nat) : Int) ((R : Nat) : Int))).thread), .int .i64 ((checkG (pgOf code words ((Lk : Nat) : Int) ((R : Nat) : Int))).at_)], .blk b16 31 [.int .i64 0, .int .i64 0, .int .i64 0], .blk b15 28 [c11.v, u11.v, .int .i64 0, .int .i64 8], .deep 64 c11, .own 3 u11, .blk b3 28 [code.v, words.v, .int .i64 ((Lk : Nat) : Int), .int .i64 ((R : Nat) : Int)], .at_ code, .at_ words] := h43.nrm ⟨rfl, rfl, rfl, trivial⟩ [0, 1, 2, 3, 4, 5, 6, 7, 8] (by decide) ⟨rfl, rfl, rfl, rfl, rfl, rfl, rfl, rfl, rfl, trivial⟩
 clear h43
 refine x_condF h44 rfl (by rw [show checkG (pgOf c11 u11 0 8) = ⟨0, 0, 0⟩ from hz2]; rfl) ?_
 refine wp_skip <| hK39 _ _ <| wp_seq_k fun K45 hK45 => wp_seq_k fun K46 hK46 => wp_region_lit <| wms 1 h44 rfl fun a47 h47 => wpList_nil <| hK46 _ _ <| wp_block <| x_loop (fun m a w => ∃ (md : Nat), (md ≤ 2) ∧ St 128 (fun _ => False) W a w [(1, .pointer (some ⟨b3, 0, none⟩)), (3, .pointer (some ⟨b15, 0, none⟩)), (7, .int .i64 ((md : Nat) : Int))] [.blk b37 31 [.int .i64 ((checkG (pgOf c11 u11 0 8)).code), .int .i64 ((checkG (pgOf c11 u11 0 8)).thread), .int .i64 ((checkG (pgOf c11 u11 0 8)).at_)], .blk b22 31 [.int .i64 ((checkG (pgOf code words ((Lk : Nat) : Int) ((R : Nat) : Int))).code), .int .i64 ((checkG (pgOf code words ((Lk : Nat) : Int) ((R : Nat) : Int))).thread), .int .i64 ((checkG (pgOf code words ((Lk : Nat) : Int) ((R : Nat) : Int))).at_)], .blk b16 31 [.int .i64 0, .int .i64 0, .int .i64 0], .blk b15 28 [c11.v, u11.v, .int .i64 0, .int .i64 8], .deep 64 c11, .own 3 u11, .blk b3 28 [code.v, words.v, .int .i64 ((Lk : Nat) : Int), .int .i64 ((R : Nat) : Int)], .at_ code, .at_ words] ∧ m = 2 - md) ⟨_, 0, (by omega), h47.nrm ⟨rfl, rfl, rfl, trivial⟩ [0, 1, 2, 3, 4, 5, 6, 7, 8] (by decide) ⟨rfl, rfl, rfl, rfl, rfl, rfl, rfl, rfl, rfl, trivial⟩, rfl⟩ ?_; clear h44
 clear h47
 rintro m48 a48 w48 ⟨md, hmd, h48, hm48⟩
 refine wp_seq_k fun K49 hK49 => wp_seq_k fun K50 hK50 => wp_region_lit <| wms 1 h48 rfl fun a51 h51 => wv h51 (r_lssN (p := md) (q := 2) rfl rfl rfl) rfl rfl fun a52 h52 => wpList_nil <| hK50 _ _ <| x_cond h52 rfl (fun hb53 => ?_) (fun hb53 => ?_); clear h48 h51
 ·
  have hp53 : md < 2 := of_decide_eq_true hb53
  refine wp_skip <| hK49 _ _ <| wp_seq_k fun K54 hK54 => wp_block <| wp_seq_k fun K55 hK55 => wp_region_lit <| wv h52 (r_ldbw (i := 6) (vs := [code.v, words.v, .int .i64 ((Lk : Nat) : Int), .int .i64 ((R : Nat) : Int)]) ti_28 rfl rfl rfl rfl rfl) rfl rfl fun a56 h56 => wl_ex (x_call h56 bd_24 rfl rfl rfl rfl rfl (make1_c code words Lk R _ (h56.sh.at 7 rfl) (h56.sh.at 8 rfl) hok)) (wanted_none rfl _) ?_; clear h52
  rintro a57 w57 ⟨_, ⟨g57, fu57, sv57, kv57, hv57, bv57, en57, rfl, hby57, hel57, hnw57, hs57⟩, hf57⟩
  have h57 := (⟨hf57, h56.sh.call hs57 (by intro A hA b hb; simp only [List.mem_cons, List.not_mem_nil, or_false] at hA; rcases hA with rfl | rfl; exact (hb : False).elim; exact .inl (by obtain ⟨i9, hi9, hb9⟩ := hb; exact hnw57 _ (nth_mem _ _ hi9) b hb9))⟩ : St 128 (fun _ => False) W a57 w57 _ _)
  clear hf57 hs57
  clear h56
  refine wms 1 h57 rfl fun a58 h58 => wpList_nil <| hK55 _ _ <| wp_seq_k fun K59 hK59 => wp_seq_k fun K60 hK60 => wp_region_lit <| wms 1 h58 rfl fun a61 h61 => wv h61 (r_eqlN (p := md) (q := 0) rfl rfl rfl) rfl rfl fun a62 h62 => wpList_nil <| hK60 _ _ <| x_cond h62 rfl (fun hb63 => ?_) (fun hb63 => ?_); clear h57 h58 h61
  ·
   have hp63 : md = 0 := of_decide_eq_true hb63
   refine wp_region_lit <| wv h62 (r_ldbw (i := 8) (vs := [code.v, words.v, .int .i64 ((Lk : Nat) : Int), .int .i64 ((R : Nat) : Int)]) ti_28 rfl rfl rfl rfl rfl) rfl rfl fun a64 h64 => wl_ex (x_call h64 bd_24 rfl rfl rfl rfl rfl (make0_c code words Lk R _ (h64.sh.at 9 rfl) (h64.sh.at 10 rfl) hok)) (wanted_none rfl _) ?_; clear h62
   rintro a65 w65 ⟨_, ⟨g65, fu65, sv65, kv65, hv65, bv65, en65, rfl, hby65, hel65, hnw65, hs65⟩, hf65⟩
   have h65 := (⟨hf65, h64.sh.call hs65 (by intro A hA b hb; simp only [List.mem_cons, List.not_mem_nil, or_false] at hA; rcases hA with rfl | rfl; exact (hb : False).elim; exact .inl (by obtain ⟨i9, hi9, hb9⟩ := hb; exact hnw65 _ (nth_mem _ _ hi9) b hb9))⟩ : St 128 (fun _ => False) W a65 w65 _ _)
   clear hf65 hs65
   clear h64
   refine wms 1 h65 rfl fun a66 h66 => wpList_nil <| hK59 _ _ <| wp_seq_k fun K67 hK67 => wp_region_lit <| wv h66 (r_ldbw (i := 10) (vs := [code.v, words.v, .int .i64 ((Lk : Nat) : Int), .int .i64 ((R : Nat) : Int)]) ti_28 rfl rfl rfl rfl rfl) rfl rfl fun a68 h68 => wl_ex (x_call h68 bd_24 rfl rfl rfl rfl rfl (make1_c code words Lk R _ (h68.sh.at 11 rfl) (h68.sh.at 12 rfl) hok)) (wanted_none rfl _) ?_; clear h65 h66
   rintro a69 w69 ⟨_, ⟨g69, fu69, sv69, kv69, hv69, bv69, en69, rfl, hby69, hel69, hnw69, hs69⟩, hf69⟩
   have h69 := (⟨hf69, h68.sh.call hs69 (by intro A hA b hb; simp only [List.mem_cons, List.not_mem_nil, or_false] at hA; rcases hA with rfl | rfl; exact (hb : False).elim; exact .inl (by obtain ⟨i9, hi9, hb9⟩ := hb; exact hnw69 _ (nth_mem _ _ hi9) b hb9))⟩ : St 128 (fun _ => False) W a69 w69 _ _)
   clear hf69 hs69
   clear h68
   refine wms 1 h69 rfl fun a70 h70 => wpList_nil <| hK67 _ _ <| wp_seq_k fun K71 hK71 => wp_region_lit <| wv h70 (r_ldbw (i := 9) (vs := [c11.v, u11.v, .int .i64 0, .int .i64 8]) ti_28 rfl rfl rfl rfl rfl) rfl rfl fun a72 h72 => wms 1 h72 rfl fun a73 h73 => wv h73 (r_eqlN (p := md) (q := 1) rfl rfl rfl) rfl rfl fun a74 h74 => wl_ex (x_call h74 bd_24 rfl rfl rfl rfl rfl (makeB_c c11 u11 0 8 (decide (md = 1)) _ (h74.sh.deep 10 rfl) (h74.sh.own 11 rfl) hf.2)) (wanted_none rfl _) ?_; clear h69 h70 h72 h73
   rintro a75 w75 ⟨_, ⟨g75, fu75, sv75, kv75, hv75, bv75, en75, rfl, hby75, hel75, hnw75, hs75⟩, hf75⟩
   have h75 := (⟨hf75, h74.sh.call hs75 (by intro A hA b hb; simp only [List.mem_cons, List.not_mem_nil, or_false] at hA; rcases hA with rfl | rfl; exact (hb : False).elim; exact .inl (by obtain ⟨i9, hi9, hb9⟩ := hb; exact hnw75 _ (nth_mem _ _ hi9) b hb9))⟩ : St 128 (fun _ => False) W a75 w75 _ _)
   clear hf75 hs75
   clear h74
   refine wms 1 h75 rfl fun a76 h76 => wpList_nil <| hK71 _ _ <| wp_seq_k fun K77 hK77 => wp_seq_k fun K78 hK78 => wp_region_lit <| wms 1 h76 rfl fun a79 h79 => wv h79 (r_nil rfl rfl) rfl rfl fun a80 h80 => wv h80 (r_fieldB (r := 5) fl_49_5 rfl rfl rfl) rfl rfl fun a81 h81 => wv h81 (r_ldb (i := 4) ti_4 rfl rfl rfl rfl) rfl rfl fun a82 h82 => wms 1 h82 rfl fun a83 h83 => ?_; clear h75 h76 h79 h80 h81 h82
   rcases Bool.eq_false_or_eq_true fu65 with hb84 | hb84
   ·
    skip
    refine wl_skip h83 (wanted_no h83.fr rfl rfl rfl rfl hb84) rfl rfl fun a85 h85 => wl_skip h85 (wanted_no h85.fr rfl rfl rfl rfl hb84) rfl rfl fun a86 h86 => wl_skip h86 (wanted_no h86.fr rfl rfl rfl rfl hb84) rfl rfl fun a87 h87 => wl_skip h87 (wanted_no h87.fr rfl rfl rfl rfl hb84) rfl rfl fun a88 h88 => wv h88 (r_pickT rfl rfl hb84 rfl) rfl rfl fun a89 h89 => wms 1 h89 rfl fun a90 h90 => wl_skip h90 (wanted_no h90.fr rfl rfl rfl rfl rfl) rfl rfl fun a91 h91 => wl_skip h91 (wanted_no h91.fr rfl rfl rfl rfl rfl) rfl rfl fun a92 h92 => wl_skip h92 (wanted_no h92.fr rfl rfl rfl rfl rfl) rfl rfl fun a93 h93 => wl_skip h93 (wanted_no h93.fr rfl rfl rfl rfl rfl) rfl rfl fun a94 h94 => wv h94 (r_pickT rfl rfl rfl rfl) rfl rfl fun a95 h95 => wpList_nil <| hK78 _ _ ?_; clear h83 h85 h86 h87 h88 h89 h90 h91 h92 h93 h94
    have h96 : St 128 (fun _ => False) W a95 w75 [(1, .pointer (some ⟨b3, 0, none⟩)), (3, .pointer (some ⟨b15, 0, none⟩)), (7, .int .i64 ((md : Nat) : Int)), (8, .pointer (some ⟨g65, 0, none⟩)), (9, .pointer (some ⟨g69, 0, none⟩)), (10, .pointer (some ⟨g75, 0, none⟩)), (86, .bool true)] [.blk g75 49 [sv75, kv75, hv75, bv75, en75.v, .bool fu75], .own 56 en75, .blk g69 49 [sv69, kv69, hv69, bv69, en69.v, .bool fu69], .own 56 en69, .blk g65 49 [sv65, kv65, hv65, bv65, en65.v, .bool fu65], .own 56 en65, .blk g57 49 [sv57, kv57, hv57, bv57, en57.v, .bool fu57], .own 56 en57, .blk b37 31 [.int .i64 ((checkG (pgOf c11 u11 0 8)).code), .int .i64 ((checkG (pgOf c11 u11 0 8)).thread), .int .i64 ((checkG (pgOf c11 u11 0 8)).at_)], .blk b22 31 [.int .i64 ((checkG (pgOf code words ((Lk : Nat) : Int) ((R : Nat) : Int))).code), .int .i64 ((checkG (pgOf code words ((Lk : Nat) : Int) ((R : Nat) : Int))).thread), .int .i64 ((checkG (pgOf code words ((Lk : Nat) : Int) ((R : Nat) : Int))).at_)], .blk b16 31 [.int .i64 0, .int .i64 0, .int .i64 0], .blk b15 28 [c11.v, u11.v, .int .i64 0, .int .i64 8], .deep 64 c11, .own 3 u11, .blk b3 28 [code.v, words.v, .int .i64 ((Lk : Nat) : Int), .int .i64 ((R : Nat) : Int)], .at_ code, .at_ words] := h95.nrm ⟨rfl, rfl, rfl, rfl, rfl, rfl, rfl, trivial⟩ [0, 1, 2, 3, 4, 5, 6, 7, 8, 9, 10, 11, 12, 13, 14, 15, 16] (by decide) ⟨rfl, rfl, rfl, rfl, rfl, rfl, rfl, rfl, rfl, rfl, rfl, rfl, rfl, rfl, rfl, rfl, rfl, trivial⟩
    clear h95
    refine x_condT h96 rfl rfl <| wp_exit <| hK54 _ _ <| wp_region_lit <| wms 1 h96 rfl fun a97 h97 => wv h97 (r_addN (p := md) (q := 1) rfl rfl rfl (show md + 1 < 9223372036854775808 from (by omega))) rfl rfl fun a98 h98 => wms 1 h98 rfl fun a99 h99 => wpList_nil <| x_again ⟨_, ?_, md + 1, ?_, h99.nrm ⟨rfl, rfl, rfl, trivial⟩ [8, 9, 10, 11, 12, 13, 14, 15, 16] (by decide) ⟨rfl, rfl, rfl, rfl, rfl, rfl, rfl, rfl, rfl, trivial⟩, rfl⟩; clear h96 h97 h98
    · rw [hm48]; first | omega | (simp only [lens9]; omega)
    · omega
   refine wl_val h83 (r_move rfl rfl) (wanted_yes h83.fr rfl rfl rfl rfl hb84) rfl rfl fun a100 h100 => wl_val h100 (r_nil rfl rfl) (wanted_yes h100.fr rfl rfl rfl rfl hb84) rfl rfl fun a101 h101 => wl_val h101 (r_fieldB (r := 5) fl_49_5 rfl rfl rfl) (wanted_yes h101.fr rfl rfl rfl rfl hb84) rfl rfl fun a102 h102 => wl_val h102 (r_ldb (i := 0) ti_4 rfl rfl rfl rfl) (wanted_yes h102.fr rfl rfl rfl rfl hb84) rfl rfl fun a103 h103 => wv h103 (r_pickF rfl rfl hb84 rfl) rfl rfl fun a104 h104 => wms 1 h104 rfl fun a105 h105 => ?_; clear h83 h100 h101 h102 h103 h104
   rcases Bool.eq_false_or_eq_true fu75 with hb106 | hb106
   ·
    skip
    refine wl_skip h105 (wanted_no h105.fr rfl rfl rfl rfl hb106) rfl rfl fun a107 h107 => wl_skip h107 (wanted_no h107.fr rfl rfl rfl rfl hb106) rfl rfl fun a108 h108 => wl_skip h108 (wanted_no h108.fr rfl rfl rfl rfl hb106) rfl rfl fun a109 h109 => wl_skip h109 (wanted_no h109.fr rfl rfl rfl rfl hb106) rfl rfl fun a110 h110 => wv h110 (r_pickT rfl rfl hb106 rfl) rfl rfl fun a111 h111 => wpList_nil <| hK78 _ _ ?_; clear h105 h107 h108 h109 h110
    have h112 : St 128 (fun _ => False) W a111 w75 [(1, .pointer (some ⟨b3, 0, none⟩)), (3, .pointer (some ⟨b15, 0, none⟩)), (7, .int .i64 ((md : Nat) : Int)), (8, .pointer (some ⟨g65, 0, none⟩)), (9, .pointer (some ⟨g69, 0, none⟩)), (10, .pointer (some ⟨g75, 0, none⟩)), (86, .bool true)] [.blk g75 49 [sv75, kv75, hv75, bv75, en75.v, .bool fu75], .own 56 en75, .blk g69 49 [sv69, kv69, hv69, bv69, en69.v, .bool fu69], .own 56 en69, .blk g65 49 [sv65, kv65, hv65, bv65, en65.v, .bool fu65], .own 56 en65, .blk g57 49 [sv57, kv57, hv57, bv57, en57.v, .bool fu57], .own 56 en57, .blk b37 31 [.int .i64 ((checkG (pgOf c11 u11 0 8)).code), .int .i64 ((checkG (pgOf c11 u11 0 8)).thread), .int .i64 ((checkG (pgOf c11 u11 0 8)).at_)], .blk b22 31 [.int .i64 ((checkG (pgOf code words ((Lk : Nat) : Int) ((R : Nat) : Int))).code), .int .i64 ((checkG (pgOf code words ((Lk : Nat) : Int) ((R : Nat) : Int))).thread), .int .i64 ((checkG (pgOf code words ((Lk : Nat) : Int) ((R : Nat) : Int))).at_)], .blk b16 31 [.int .i64 0, .int .i64 0, .int .i64 0], .blk b15 28 [c11.v, u11.v, .int .i64 0, .int .i64 8], .deep 64 c11, .own 3 u11, .blk b3 28 [code.v, words.v, .int .i64 ((Lk : Nat) : Int), .int .i64 ((R : Nat) : Int)], .at_ code, .at_ words] := h111.nrm ⟨rfl, rfl, rfl, rfl, rfl, rfl, rfl, trivial⟩ [0, 1, 2, 3, 4, 5, 6, 7, 8, 9, 10, 11, 12, 13, 14, 15, 16] (by decide) ⟨rfl, rfl, rfl, rfl, rfl, rfl, rfl, rfl, rfl, rfl, rfl, rfl, rfl, rfl, rfl, rfl, rfl, trivial⟩
    clear h111
    refine x_condT h112 rfl rfl <| wp_exit <| hK54 _ _ <| wp_region_lit <| wms 1 h112 rfl fun a113 h113 => wv h113 (r_addN (p := md) (q := 1) rfl rfl rfl (show md + 1 < 9223372036854775808 from (by omega))) rfl rfl fun a114 h114 => wms 1 h114 rfl fun a115 h115 => wpList_nil <| x_again ⟨_, ?_, md + 1, ?_, h115.nrm ⟨rfl, rfl, rfl, trivial⟩ [8, 9, 10, 11, 12, 13, 14, 15, 16] (by decide) ⟨rfl, rfl, rfl, rfl, rfl, rfl, rfl, rfl, rfl, trivial⟩, rfl⟩; clear h112 h113 h114
    · rw [hm48]; first | omega | (simp only [lens9]; omega)
    · omega
   refine wl_val h105 (r_move rfl rfl) (wanted_yes h105.fr rfl rfl rfl rfl hb106) rfl rfl fun a116 h116 => wl_val h116 (r_nil rfl rfl) (wanted_yes h116.fr rfl rfl rfl rfl hb106) rfl rfl fun a117 h117 => wl_val h117 (r_fieldB (r := 5) fl_49_5 rfl rfl rfl) (wanted_yes h117.fr rfl rfl rfl rfl hb106) rfl rfl fun a118 h118 => wl_val h118 (r_ldb (i := 2) ti_4 rfl rfl rfl rfl) (wanted_yes h118.fr rfl rfl rfl rfl hb106) rfl rfl fun a119 h119 => wv h119 (r_pickF rfl rfl hb106 rfl) rfl rfl fun a120 h120 => wpList_nil <| hK78 _ _ ?_; clear h105 h116 h117 h118 h119
   have h121 : St 128 (fun _ => False) W a120 w75 [(1, .pointer (some ⟨b3, 0, none⟩)), (3, .pointer (some ⟨b15, 0, none⟩)), (7, .int .i64 ((md : Nat) : Int)), (8, .pointer (some ⟨g65, 0, none⟩)), (9, .pointer (some ⟨g69, 0, none⟩)), (10, .pointer (some ⟨g75, 0, none⟩)), (86, .bool fu69)] [.blk g75 49 [sv75, kv75, hv75, bv75, en75.v, .bool fu75], .own 56 en75, .blk g69 49 [sv69, kv69, hv69, bv69, en69.v, .bool fu69], .own 56 en69, .blk g65 49 [sv65, kv65, hv65, bv65, en65.v, .bool fu65], .own 56 en65, .blk g57 49 [sv57, kv57, hv57, bv57, en57.v, .bool fu57], .own 56 en57, .blk b37 31 [.int .i64 ((checkG (pgOf c11 u11 0 8)).code), .int .i64 ((checkG (pgOf c11 u11 0 8)).thread), .int .i64 ((checkG (pgOf c11 u11 0 8)).at_)], .blk b22 31 [.int .i64 ((checkG (pgOf code words ((Lk : Nat) : Int) ((R : Nat) : Int))).code), .int .i64 ((checkG (pgOf code words ((Lk : Nat) : Int) ((R : Nat) : Int))).thread), .int .i64 ((checkG (pgOf code words ((Lk : Nat) : Int) ((R : Nat) : Int))).at_)], .blk b16 31 [.int .i64 0, .int .i64 0, .int .i64 0], .blk b15 28 [c11.v, u11.v, .int .i64 0, .int .i64 8], .deep 64 c11, .own 3 u11, .blk b3 28 [code.v, words.v, .int .i64 ((Lk : Nat) : Int), .int .i64 ((R : Nat) : Int)], .at_ code, .at_ words] := h120.nrm ⟨rfl, rfl, rfl, rfl, rfl, rfl, rfl, trivial⟩ [0, 1, 2, 3, 4, 5, 6, 7, 8, 9, 10, 11, 12, 13, 14, 15, 16] (by decide) ⟨rfl, rfl, rfl, rfl, rfl, rfl, rfl, rfl, rfl, rfl, rfl, rfl, rfl, rfl, rfl, rfl, rfl, trivial⟩
   clear h120
   refine x_cond h121 rfl (fun hb122 => ?_) (fun hb122 => ?_)
   ·
    skip
    refine wp_exit <| hK54 _ _ <| wp_region_lit <| wms 1 h121 rfl fun a123 h123 => wv h123 (r_addN (p := md) (q := 1) rfl rfl rfl (show md + 1 < 9223372036854775808 from (by omega))) rfl rfl fun a124 h124 => wms 1 h124 rfl fun a125 h125 => wpList_nil <| x_again ⟨_, ?_, md + 1, ?_, h125.nrm ⟨rfl, rfl, rfl, trivial⟩ [8, 9, 10, 11, 12, 13, 14, 15, 16] (by decide) ⟨rfl, rfl, rfl, rfl, rfl, rfl, rfl, rfl, rfl, trivial⟩, rfl⟩; clear h121 h123 h124
    · rw [hm48]; first | omega | (simp only [lens9]; omega)
    · omega
   refine wp_skip <| hK77 _ _ <| wp_seq_k fun K126 hK126 => wp_seq_k fun K127 hK127 => wp_region_lit <| wms 1 h121 rfl fun a128 h128 => wpList_nil <| hK127 _ _ <| wp_block <| x_loop (fun m a w => ∃ (e : Nat), (e ≤ en69.l.length) ∧ (∀ j, j < e → (nth en69.l j).st ≠ 1) ∧ St 128 (fun _ => False) W a w [(1, .pointer (some ⟨b3, 0, none⟩)), (3, .pointer (some ⟨b15, 0, none⟩)), (7, .int .i64 ((md : Nat) : Int)), (8, .pointer (some ⟨g65, 0, none⟩)), (9, .pointer (some ⟨g69, 0, none⟩)), (10, .pointer (some ⟨g75, 0, none⟩)), (11, .int .i64 ((e : Nat) : Int))] [.blk g75 49 [sv75, kv75, hv75, bv75, en75.v, .bool fu75], .own 56 en75, .blk g69 49 [sv69, kv69, hv69, bv69, en69.v, .bool fu69], .own 56 en69, .blk g65 49 [sv65, kv65, hv65, bv65, en65.v, .bool fu65], .own 56 en65, .blk g57 49 [sv57, kv57, hv57, bv57, en57.v, .bool fu57], .own 56 en57, .blk b37 31 [.int .i64 ((checkG (pgOf c11 u11 0 8)).code), .int .i64 ((checkG (pgOf c11 u11 0 8)).thread), .int .i64 ((checkG (pgOf c11 u11 0 8)).at_)], .blk b22 31 [.int .i64 ((checkG (pgOf code words ((Lk : Nat) : Int) ((R : Nat) : Int))).code), .int .i64 ((checkG (pgOf code words ((Lk : Nat) : Int) ((R : Nat) : Int))).thread), .int .i64 ((checkG (pgOf code words ((Lk : Nat) : Int) ((R : Nat) : Int))).at_)], .blk b16 31 [.int .i64 0, .int .i64 0, .int .i64 0], .blk b15 28 [c11.v, u11.v, .int .i64 0, .int .i64 8], .deep 64 c11, .own 3 u11, .blk b3 28 [code.v, words.v, .int .i64 ((Lk : Nat) : Int), .int .i64 ((R : Nat) : Int)], .at_ code, .at_ words] ∧ m = en69.l.length - e) ⟨_, 0, (by omega), (fun j hj => absurd hj (by omega)), h128.nrm ⟨rfl, rfl, rfl, rfl, rfl, rfl, rfl, trivial⟩ [0, 1, 2, 3, 4, 5, 6, 7, 8, 9, 10, 11, 12, 13, 14, 15, 16] (by decide) ⟨rfl, rfl, rfl, rfl, rfl, rfl, rfl, rfl, rfl, rfl, rfl, rfl, rfl, rfl, rfl, rfl, rfl, trivial⟩, rfl⟩ ?_; clear h121
   clear h128
   rintro m129 a129 w129 ⟨e, he, hall, h129, hm129⟩
   refine wp_seq_k fun K130 hK130 => wp_seq_k fun K131 hK131 => wp_region_lit <| wms 2 h129 rfl fun a132 h132 => wv h132 (r_nil rfl rfl) rfl rfl fun a133 h133 => wv h133 (r_fieldB (r := 4) fl_49_4 rfl rfl rfl) rfl rfl fun a134 h134 => wv h134 (r_ldb (i := 2) ti_47 rfl rfl rfl rfl) rfl rfl fun a135 h135 => ?_; clear h129 h132 h133 h134
   have hl136 : en69.l.length ≤ 140737488355328 := (h135.sh.own 3 rfl).len
   refine wv h135 (r_len (s := en69) (n := en69.l.length) sl_47 rfl rfl (fun w h => (h.own 3 rfl)) rfl) rfl rfl fun a137 h137 => wv h137 (r_lssN (p := e) (q := en69.l.length) rfl rfl rfl) rfl rfl fun a138 h138 => wpList_nil <| hK131 _ _ <| x_cond h138 rfl (fun hb139 => ?_) (fun hb139 => ?_); clear h135 h137
   ·
    have hp139 : e < en69.l.length := of_decide_eq_true hb139
    refine wp_skip <| hK130 _ _ <| wp_seq_k fun K140 hK140 => wp_block <| wp_seq_k fun K141 hK141 => wp_region_lit <| wms 1 h138 rfl fun a142 h142 => wv h142 (r_nil rfl rfl) rfl rfl fun a143 h143 => wv h143 (r_fieldB (r := 4) fl_49_4 rfl rfl rfl) rfl rfl fun a144 h144 => wv h144 (r_ldb (i := 2) ti_47 rfl rfl rfl rfl) rfl rfl fun a145 h145 => wms 1 h145 rfl fun a146 h146 => wv h146 (r_ixN (s := en69) (q := e) sl_47 ti_56 rfl rfl rfl (fun w h => (h.own 3 rfl)) (show e < en69.l.length from (by omega))) rfl rfl fun a147 h147 => wv h147 (r_fieldE (r := 0) fl_56_0 rfl rfl rfl) rfl rfl fun a148 h148 => wv h148 (r_lde (s := en69) (i := e) (v := .int .i64 ((nth en69.l e).st)) ti_3 rfl rfl rfl (fun w h => (h.own 3 rfl)) (show e < en69.l.length from (by omega)) (Nat.le_of_ble_eq_true rfl) rfl) rfl rfl fun a149 h149 => ?_; clear h138 h142 h143 h144 h145 h146 h147 h148
    refine wv h149 (r_eqlI (p := (nth en69.l e).st) (q := 1) rfl rfl rfl) rfl rfl fun a150 h150 => wpList_nil <| hK141 _ _ <| x_cond h150 rfl (fun hb151 => ?_) (fun hb151 => ?_); clear h149
    ·
     have hp151 : (nth en69.l e).st = 1 := of_decide_eq_true hb151
     refine wp_seq_k fun K152 hK152 => wp_region_lit <| wms 1 h150 rfl fun a153 h153 => wpList_nil <| hK152 _ _ ?_; clear h150
     have h154 : St 128 (fun _ => False) W a153 w129 [(2, .bool true)] [.blk g75 49 [sv75, kv75, hv75, bv75, en75.v, .bool fu75], .own 56 en75, .blk g69 49 [sv69, kv69, hv69, bv69, en69.v, .bool fu69], .own 56 en69, .blk g65 49 [sv65, kv65, hv65, bv65, en65.v, .bool fu65], .own 56 en65, .blk g57 49 [sv57, kv57, hv57, bv57, en57.v, .bool fu57], .own 56 en57, .blk b37 31 [.int .i64 ((checkG (pgOf c11 u11 0 8)).code), .int .i64 ((checkG (pgOf c11 u11 0 8)).thread), .int .i64 ((checkG (pgOf c11 u11 0 8)).at_)], .blk b22 31 [.int .i64 ((checkG (pgOf code words ((Lk : Nat) : Int) ((R : Nat) : Int))).code), .int .i64 ((checkG (pgOf code words ((Lk : Nat) : Int) ((R : Nat) : Int))).thread), .int .i64 ((checkG (pgOf code words ((Lk : Nat) : Int) ((R : Nat) : Int))).at_)], .blk b16 31 [.int .i64 0, .int .i64 0, .int .i64 0], .blk b15 28 [c11.v, u11.v, .int .i64 0, .int .i64 8], .deep 64 c11, .own 3 u11, .blk b3 28 [code.v, words.v, .int .i64 ((Lk : Nat) : Int), .int .i64 ((R : Nat) : Int)], .at_ code, .at_ words] := h153.nrm ⟨rfl, trivial⟩ [0, 1, 2, 3, 4, 5, 6, 7, 8, 9, 10, 11, 12, 13, 14, 15, 16] (by decide) ⟨rfl, rfl, rfl, rfl, rfl, rfl, rfl, rfl, rfl, rfl, rfl, rfl, rfl, rfl, rfl, rfl, rfl, trivial⟩
     clear h153
     refine wp_ret ?_
     try simp only [Exit.then, Exit.inBlock]
     refine x_ret1 (fn := Try.f11) (t := 2) rfl h154 rfl ?_
     exact ⟨rfl, (h154.sh.sel [] (by decide) trivial)⟩
    have hp151 : ¬ ((nth en69.l e).st = 1) := of_decide_eq_false hb151
    refine wp_skip <| hK140 _ _ <| wp_region_lit <| wms 1 h150 rfl fun a155 h155 => wv h155 (r_addN (p := e) (q := 1) rfl rfl rfl (show e + 1 < 9223372036854775808 from (by omega))) rfl rfl fun a156 h156 => wms 1 h156 rfl fun a157 h157 => wpList_nil <| x_again ⟨_, ?_, e + 1, ?_, ?_, h157.nrm ⟨rfl, rfl, rfl, rfl, rfl, rfl, rfl, trivial⟩ [0, 1, 2, 3, 4, 5, 6, 7, 8, 9, 10, 11, 12, 13, 14, 15, 16] (by decide) ⟨rfl, rfl, rfl, rfl, rfl, rfl, rfl, rfl, rfl, rfl, rfl, rfl, rfl, rfl, rfl, rfl, rfl, trivial⟩, rfl⟩; clear h150 h155 h156
    · rw [hm129]; first | omega | (simp only [lens9]; omega)
    · omega
    · intro j hj; rcases Nat.lt_or_ge j e with h9 | h9; exact hall j h9; obtain rfl : j = e := (by omega); omega
   have hp139 : ¬ (e < en69.l.length) := of_decide_eq_false hb139
   refine wp_exit <| hK126 _ _ <| wp_seq_k fun K158 hK158 => x_tail 7 [] (by kernel_rfl) (by kernel_rfl) h138 fun Z159 hZ159 => ?_
   have hq159 := h138.fr
   refine wq_val hq159 (r_move rfl rfl) (wanted_none rfl _) rfl rfl fun a160 hq160 => wq_val hq160 (r_nil rfl rfl) (wanted_none rfl _) rfl rfl fun a161 hq161 => wq_val hq161 (r_fieldB (r := 4) fl_49_4 rfl rfl rfl) (wanted_none rfl _) rfl rfl fun a162 hq162 => wq_val hq162 (r_ldb (i := 4) ti_47 rfl rfl rfl rfl) (wanted_none rfl _) rfl rfl fun a163 hq163 => wq_val hq163 (r_fieldB (r := 1) fl_28_1 rfl rfl rfl) (wanted_none rfl _) rfl rfl fun a164 hq164 => wq_val hq164 (r_ldb (i := 14) ti_24 rfl rfl rfl rfl) (wanted_none rfl _) rfl rfl fun a165 hq165 => ?_; clear hq159 hq160 hq161 hq162 hq163 hq164
   have hl166 : words.l.length ≤ 140737488355328 := (h138.sh.at 16 rfl).len
   refine wq_val hq165 (r_len (s := words) (n := words.l.length) sl_24 rfl rfl (fun w h => (h.at 16 rfl)) rfl) (wanted_none rfl _) rfl rfl fun a167 hq167 => wpQuiet_nil (hZ159 _ fun w168 hw168 => ?_); clear hq165
   have h168 : St 128 (fun _ => False) W a167 w168 _ _ := ⟨hq167, hw168⟩
   clear hq167 hw168 h138
   refine wl_ex (x_call h168 bd_33 rfl rfl rfl rfl rfl (cut_c en65 words.l.length _ (h168.sh.own 5 rfl) (cut_ok hok (Nat.le_refl _) (hby65 (by assumption)).2) (by omega))) (wanted_none rfl _) ?_
   rintro a169 w169 ⟨_, ⟨cx169, rfl, hcx169, hob169, hs169⟩, hf169⟩
   have h169 := (⟨hf169, h168.sh.call hs169 (by intro A hA b hb; simp only [List.mem_cons, List.not_mem_nil, or_false] at hA; subst hA; exact .inr (by obtain ⟨i9, hi9, hb9⟩ := hb; exact ⟨_, List.mem_of_getElem? (i := 5) rfl, hob169 _ (nth_mem _ _ hi9) b hb9⟩))⟩ : St 128 (fun _ => False) W a169 w169 _ _)
   clear hf169 hs169
   have hcl169 : cx169.l.length ≤ 70000 := by have h9 := congrArg List.length hcx169; rw [List.length_map, cutL, List.length_map] at h9; have h8 := List.length_filter_le (fun o : Outc => decide (o.st = 0)) (en65.l.map OutL.out); rw [List.length_map] at h8; omega
   clear h168
   refine wms 1 h169 rfl fun a170 h170 => wpList_nil <| hK158 _ _ <| wp_seq_k fun K171 hK171 => x_tail 7 [] (by kernel_rfl) (by kernel_rfl) h170 fun Z172 hZ172 => ?_; clear h169
   have hq172 := h170.fr
   refine wq_val hq172 (r_move rfl rfl) (wanted_none rfl _) rfl rfl fun a173 hq173 => wq_val hq173 (r_nil rfl rfl) (wanted_none rfl _) rfl rfl fun a174 hq174 => wq_val hq174 (r_fieldB (r := 4) fl_49_4 rfl rfl rfl) (wanted_none rfl _) rfl rfl fun a175 hq175 => wq_val hq175 (r_ldb (i := 1) ti_47 rfl rfl rfl rfl) (wanted_none rfl _) rfl rfl fun a176 hq176 => wq_val hq176 (r_fieldB (r := 1) fl_28_1 rfl rfl rfl) (wanted_none rfl _) rfl rfl fun a177 hq177 => wq_val hq177 (r_ldb (i := 15) ti_24 rfl rfl rfl rfl) (wanted_none rfl _) rfl rfl fun a178 hq178 => wq_val hq178 (r_len (s := words) (n := words.l.length) sl_24 rfl rfl (fun w h => (h.at 17 rfl)) rfl) (wanted_none rfl _) rfl rfl fun a179 hq179 => wpQuiet_nil (hZ172 _ fun w180 hw180 => ?_); clear hq172 hq173 hq174 hq175 hq176 hq177 hq178
   have h180 : St 128 (fun _ => False) W a179 w180 _ _ := ⟨hq179, hw180⟩
   clear hq179 hw180 h170
   refine wl_ex (x_call h180 bd_33 rfl rfl rfl rfl rfl (cut_c en75 words.l.length _ (h180.sh.own 2 rfl) (cut_ok hf.2 hul (hby75 (by assumption)).2) (by omega))) (wanted_none rfl _) ?_
   rintro a181 w181 ⟨_, ⟨cx181, rfl, hcx181, hob181, hs181⟩, hf181⟩
   have h181 := (⟨hf181, h180.sh.call hs181 (by intro A hA b hb; simp only [List.mem_cons, List.not_mem_nil, or_false] at hA; subst hA; exact .inr (by obtain ⟨i9, hi9, hb9⟩ := hb; exact ⟨_, List.mem_of_getElem? (i := 2) rfl, hob181 _ (nth_mem _ _ hi9) b hb9⟩))⟩ : St 128 (fun _ => False) W a181 w181 _ _)
   clear hf181 hs181
   have hcl181 : cx181.l.length ≤ 70000 := by have h9 := congrArg List.length hcx181; rw [List.length_map, cutL, List.length_map] at h9; have h8 := List.length_filter_le (fun o : Outc => decide (o.st = 0)) (en75.l.map OutL.out); rw [List.length_map] at h8; omega
   clear h180
   refine wms 1 h181 rfl fun a182 h182 => wpList_nil <| hK171 _ _ ?_; clear h181
   have h183 : St 128 (fun _ => False) W a182 w181 [(1, .pointer (some ⟨b3, 0, none⟩)), (3, .pointer (some ⟨b15, 0, none⟩)), (7, .int .i64 ((md : Nat) : Int)), (12, cx169.v), (13, cx181.v)] [.own 56 cx181, .own 56 cx169, .blk g75 49 [sv75, kv75, hv75, bv75, en75.v, .bool fu75], .own 56 en75, .blk g69 49 [sv69, kv69, hv69, bv69, en69.v, .bool fu69], .own 56 en69, .blk g65 49 [sv65, kv65, hv65, bv65, en65.v, .bool fu65], .own 56 en65, .blk g57 49 [sv57, kv57, hv57, bv57, en57.v, .bool fu57], .own 56 en57, .blk b37 31 [.int .i64 ((checkG (pgOf c11 u11 0 8)).code), .int .i64 ((checkG (pgOf c11 u11 0 8)).thread), .int .i64 ((checkG (pgOf c11 u11 0 8)).at_)], .blk b22 31 [.int .i64 ((checkG (pgOf code words ((Lk : Nat) : Int) ((R : Nat) : Int))).code), .int .i64 ((checkG (pgOf code words ((Lk : Nat) : Int) ((R : Nat) : Int))).thread), .int .i64 ((checkG (pgOf code words ((Lk : Nat) : Int) ((R : Nat) : Int))).at_)], .blk b16 31 [.int .i64 0, .int .i64 0, .int .i64 0], .blk b15 28 [c11.v, u11.v, .int .i64 0, .int .i64 8], .deep 64 c11, .own 3 u11, .blk b3 28 [code.v, words.v, .int .i64 ((Lk : Nat) : Int), .int .i64 ((R : Nat) : Int)], .at_ code, .at_ words] := h182.nrm ⟨rfl, rfl, rfl, rfl, rfl, trivial⟩ [0, 1, 2, 3, 4, 5, 6, 7, 8, 9, 10, 11, 12, 13, 14, 15, 16, 17, 18] (by decide) ⟨rfl, rfl, rfl, rfl, rfl, rfl, rfl, rfl, rfl, rfl, rfl, rfl, rfl, rfl, rfl, rfl, rfl, rfl, rfl, trivial⟩
   clear h182
   refine wp_seq_k fun K184 hK184 => wp_region_lit <| wms 1 h183 rfl fun a185 h185 => wl_ex (x_call h185 bd_34 rfl rfl rfl rfl rfl (once_c cx181 _ (h185.sh.own 0 rfl) (by omega))) (wanted_none rfl _) ?_; clear h183
   rintro a186 w186 ⟨_, ⟨cx186, rfl, hcx186, hob186, hs186⟩, hf186⟩
   have h186 := (⟨hf186, h185.sh.call hs186 (by intro A hA b hb; simp only [List.mem_cons, List.not_mem_nil, or_false] at hA; subst hA; exact .inr (by obtain ⟨i9, hi9, hb9⟩ := hb; exact ⟨_, List.mem_of_getElem? (i := 0) rfl, hob186 _ (nth_mem _ _ hi9) b hb9⟩))⟩ : St 128 (fun _ => False) W a186 w186 _ _)
   clear hf186 hs186
   clear h185
   refine wms 1 h186 rfl fun a187 h187 => wpList_nil <| hK184 _ _ <| wp_seq_k fun K188 hK188 => wp_region_lit <| wms 2 h187 rfl fun a189 h189 => wl_ex (x_call h189 bd_25 rfl rfl rfl rfl rfl (sameO_c cx169 cx186 _ (h189.sh.own 2 rfl) (h189.sh.own 0 rfl))) (wanted_none rfl _) ?_; clear h186 h187
   rintro a190 w190 ⟨_, ⟨rfl, hs190⟩, hf190⟩
   have h190 : St 128 (fun _ => False) W a190 w190 _ _ := ⟨hf190, h189.sh.call0 hs190⟩
   clear hf190 hs190
   clear h189
   refine wms 1 h190 rfl fun a191 h191 => wpList_nil <| hK188 _ _ <| wp_seq_k fun K192 hK192 => wp_region_lit <| wms 1 h191 rfl fun a193 h193 => wv h193 (r_not rfl rfl) rfl rfl fun a194 h194 => wpList_nil <| hK192 _ _ <| x_cond h194 rfl (fun hb195 => ?_) (fun hb195 => ?_); clear h190 h191 h193
   ·
    have hp195 : ¬ (cx169.l.map OutL.out = cx186.l.map OutL.out) := by simpa using hb195
    have hnf := no_fell (hby69 (by assumption)).2 (fun j hj => hall j (by omega))
    have hmb : bit (decide (md = 1)) = 0 := by first | (rw [decide_eq_false (by omega)]; rfl) | (rw [decide_eq_true (by omega)]; rfl)
    have hbq := hby75 (by assumption)
    rw [hmb] at hbq
    exact absurd (spin_eq hok hf hr (.inl rfl) hnf (hby65 (by assumption)) hbq hcx169 hcx181 hcx186) (by assumption)
   have hp195 : cx169.l.map OutL.out = cx186.l.map OutL.out := by simpa using hb195
   refine wp_skip <| hK54 _ _ <| wp_region_lit <| wms 1 h194 rfl fun a196 h196 => wv h196 (r_addN (p := md) (q := 1) rfl rfl rfl (show md + 1 < 9223372036854775808 from (by omega))) rfl rfl fun a197 h197 => wms 1 h197 rfl fun a198 h198 => wpList_nil <| x_again ⟨_, ?_, md + 1, ?_, h198.nrm ⟨rfl, rfl, rfl, trivial⟩ [11, 12, 13, 14, 15, 16, 17, 18, 19] (by decide) ⟨rfl, rfl, rfl, rfl, rfl, rfl, rfl, rfl, rfl, trivial⟩, rfl⟩; clear h194 h196 h197
   · rw [hm48]; first | omega | (simp only [lens9]; omega)
   · omega
  have hp63 : ¬ (md = 0) := of_decide_eq_false hb63
  refine wp_skip <| hK59 _ _ <| wp_seq_k fun K199 hK199 => wp_region_lit <| wv h62 (r_ldbw (i := 8) (vs := [code.v, words.v, .int .i64 ((Lk : Nat) : Int), .int .i64 ((R : Nat) : Int)]) ti_28 rfl rfl rfl rfl rfl) rfl rfl fun a200 h200 => wl_ex (x_call h200 bd_24 rfl rfl rfl rfl rfl (make1_c code words Lk R _ (h200.sh.at 9 rfl) (h200.sh.at 10 rfl) hok)) (wanted_none rfl _) ?_; clear h62
  rintro a201 w201 ⟨_, ⟨g201, fu201, sv201, kv201, hv201, bv201, en201, rfl, hby201, hel201, hnw201, hs201⟩, hf201⟩
  have h201 := (⟨hf201, h200.sh.call hs201 (by intro A hA b hb; simp only [List.mem_cons, List.not_mem_nil, or_false] at hA; rcases hA with rfl | rfl; exact (hb : False).elim; exact .inl (by obtain ⟨i9, hi9, hb9⟩ := hb; exact hnw201 _ (nth_mem _ _ hi9) b hb9))⟩ : St 128 (fun _ => False) W a201 w201 _ _)
  clear hf201 hs201
  clear h200
  refine wms 1 h201 rfl fun a202 h202 => wpList_nil <| hK199 _ _ <| wp_seq_k fun K203 hK203 => wp_region_lit <| wv h202 (r_ldbw (i := 7) (vs := [c11.v, u11.v, .int .i64 0, .int .i64 8]) ti_28 rfl rfl rfl rfl rfl) rfl rfl fun a204 h204 => wms 1 h204 rfl fun a205 h205 => wv h205 (r_eqlN (p := md) (q := 1) rfl rfl rfl) rfl rfl fun a206 h206 => wl_ex (x_call h206 bd_24 rfl rfl rfl rfl rfl (makeB_c c11 u11 0 8 (decide (md = 1)) _ (h206.sh.deep 8 rfl) (h206.sh.own 9 rfl) hf.2)) (wanted_none rfl _) ?_; clear h201 h202 h204 h205
  rintro a207 w207 ⟨_, ⟨g207, fu207, sv207, kv207, hv207, bv207, en207, rfl, hby207, hel207, hnw207, hs207⟩, hf207⟩
  have h207 := (⟨hf207, h206.sh.call hs207 (by intro A hA b hb; simp only [List.mem_cons, List.not_mem_nil, or_false] at hA; rcases hA with rfl | rfl; exact (hb : False).elim; exact .inl (by obtain ⟨i9, hi9, hb9⟩ := hb; exact hnw207 _ (nth_mem _ _ hi9) b hb9))⟩ : St 128 (fun _ => False) W a207 w207 _ _)
  clear hf207 hs207
  clear h206
  refine wms 1 h207 rfl fun a208 h208 => wpList_nil <| hK203 _ _ <| wp_seq_k fun K209 hK209 => wp_seq_k fun K210 hK210 => wp_region_lit <| wms 1 h208 rfl fun a211 h211 => wv h211 (r_nil rfl rfl) rfl rfl fun a212 h212 => wv h212 (r_fieldB (r := 5) fl_49_5 rfl rfl rfl) rfl rfl fun a213 h213 => wv h213 (r_ldb (i := 4) ti_4 rfl rfl rfl rfl) rfl rfl fun a214 h214 => wms 1 h214 rfl fun a215 h215 => ?_; clear h207 h208 h211 h212 h213 h214
  rcases Bool.eq_false_or_eq_true fu57 with hb216 | hb216
  ·
   skip
   refine wl_skip h215 (wanted_no h215.fr rfl rfl rfl rfl hb216) rfl rfl fun a217 h217 => wl_skip h217 (wanted_no h217.fr rfl rfl rfl rfl hb216) rfl rfl fun a218 h218 => wl_skip h218 (wanted_no h218.fr rfl rfl rfl rfl hb216) rfl rfl fun a219 h219 => wl_skip h219 (wanted_no h219.fr rfl rfl rfl rfl hb216) rfl rfl fun a220 h220 => wv h220 (r_pickT rfl rfl hb216 rfl) rfl rfl fun a221 h221 => wms 1 h221 rfl fun a222 h222 => wl_skip h222 (wanted_no h222.fr rfl rfl rfl rfl rfl) rfl rfl fun a223 h223 => wl_skip h223 (wanted_no h223.fr rfl rfl rfl rfl rfl) rfl rfl fun a224 h224 => wl_skip h224 (wanted_no h224.fr rfl rfl rfl rfl rfl) rfl rfl fun a225 h225 => wl_skip h225 (wanted_no h225.fr rfl rfl rfl rfl rfl) rfl rfl fun a226 h226 => wv h226 (r_pickT rfl rfl rfl rfl) rfl rfl fun a227 h227 => wpList_nil <| hK210 _ _ ?_; clear h215 h217 h218 h219 h220 h221 h222 h223 h224 h225 h226
   have h228 : St 128 (fun _ => False) W a227 w207 [(1, .pointer (some ⟨b3, 0, none⟩)), (3, .pointer (some ⟨b15, 0, none⟩)), (7, .int .i64 ((md : Nat) : Int)), (8, .pointer (some ⟨g57, 0, none⟩)), (9, .pointer (some ⟨g201, 0, none⟩)), (10, .pointer (some ⟨g207, 0, none⟩)), (86, .bool true)] [.blk g207 49 [sv207, kv207, hv207, bv207, en207.v, .bool fu207], .own 56 en207, .blk g201 49 [sv201, kv201, hv201, bv201, en201.v, .bool fu201], .own 56 en201, .blk g57 49 [sv57, kv57, hv57, bv57, en57.v, .bool fu57], .own 56 en57, .blk b37 31 [.int .i64 ((checkG (pgOf c11 u11 0 8)).code), .int .i64 ((checkG (pgOf c11 u11 0 8)).thread), .int .i64 ((checkG (pgOf c11 u11 0 8)).at_)], .blk b22 31 [.int .i64 ((checkG (pgOf code words ((Lk : Nat) : Int) ((R : Nat) : Int))).code), .int .i64 ((checkG (pgOf code words ((Lk : Nat) : Int) ((R : Nat) : Int))).thread), .int .i64 ((checkG (pgOf code words ((Lk : Nat) : Int) ((R : Nat) : Int))).at_)], .blk b16 31 [.int .i64 0, .int .i64 0, .int .i64 0], .blk b15 28 [c11.v, u11.v, .int .i64 0, .int .i64 8], .deep 64 c11, .own 3 u11, .blk b3 28 [code.v, words.v, .int .i64 ((Lk : Nat) : Int), .int .i64 ((R : Nat) : Int)], .at_ code, .at_ words] := h227.nrm ⟨rfl, rfl, rfl, rfl, rfl, rfl, rfl, trivial⟩ [0, 1, 2, 3, 4, 5, 6, 7, 8, 9, 10, 11, 12, 13, 14] (by decide) ⟨rfl, rfl, rfl, rfl, rfl, rfl, rfl, rfl, rfl, rfl, rfl, rfl, rfl, rfl, rfl, trivial⟩
   clear h227
   refine x_condT h228 rfl rfl <| wp_exit <| hK54 _ _ <| wp_region_lit <| wms 1 h228 rfl fun a229 h229 => wv h229 (r_addN (p := md) (q := 1) rfl rfl rfl (show md + 1 < 9223372036854775808 from (by omega))) rfl rfl fun a230 h230 => wms 1 h230 rfl fun a231 h231 => wpList_nil <| x_again ⟨_, ?_, md + 1, ?_, h231.nrm ⟨rfl, rfl, rfl, trivial⟩ [6, 7, 8, 9, 10, 11, 12, 13, 14] (by decide) ⟨rfl, rfl, rfl, rfl, rfl, rfl, rfl, rfl, rfl, trivial⟩, rfl⟩; clear h228 h229 h230
   · rw [hm48]; first | omega | (simp only [lens9]; omega)
   · omega
  refine wl_val h215 (r_move rfl rfl) (wanted_yes h215.fr rfl rfl rfl rfl hb216) rfl rfl fun a232 h232 => wl_val h232 (r_nil rfl rfl) (wanted_yes h232.fr rfl rfl rfl rfl hb216) rfl rfl fun a233 h233 => wl_val h233 (r_fieldB (r := 5) fl_49_5 rfl rfl rfl) (wanted_yes h233.fr rfl rfl rfl rfl hb216) rfl rfl fun a234 h234 => wl_val h234 (r_ldb (i := 0) ti_4 rfl rfl rfl rfl) (wanted_yes h234.fr rfl rfl rfl rfl hb216) rfl rfl fun a235 h235 => wv h235 (r_pickF rfl rfl hb216 rfl) rfl rfl fun a236 h236 => wms 1 h236 rfl fun a237 h237 => ?_; clear h215 h232 h233 h234 h235 h236
  rcases Bool.eq_false_or_eq_true fu207 with hb238 | hb238
  ·
   skip
   refine wl_skip h237 (wanted_no h237.fr rfl rfl rfl rfl hb238) rfl rfl fun a239 h239 => wl_skip h239 (wanted_no h239.fr rfl rfl rfl rfl hb238) rfl rfl fun a240 h240 => wl_skip h240 (wanted_no h240.fr rfl rfl rfl rfl hb238) rfl rfl fun a241 h241 => wl_skip h241 (wanted_no h241.fr rfl rfl rfl rfl hb238) rfl rfl fun a242 h242 => wv h242 (r_pickT rfl rfl hb238 rfl) rfl rfl fun a243 h243 => wpList_nil <| hK210 _ _ ?_; clear h237 h239 h240 h241 h242
   have h244 : St 128 (fun _ => False) W a243 w207 [(1, .pointer (some ⟨b3, 0, none⟩)), (3, .pointer (some ⟨b15, 0, none⟩)), (7, .int .i64 ((md : Nat) : Int)), (8, .pointer (some ⟨g57, 0, none⟩)), (9, .pointer (some ⟨g201, 0, none⟩)), (10, .pointer (some ⟨g207, 0, none⟩)), (86, .bool true)] [.blk g207 49 [sv207, kv207, hv207, bv207, en207.v, .bool fu207], .own 56 en207, .blk g201 49 [sv201, kv201, hv201, bv201, en201.v, .bool fu201], .own 56 en201, .blk g57 49 [sv57, kv57, hv57, bv57, en57.v, .bool fu57], .own 56 en57, .blk b37 31 [.int .i64 ((checkG (pgOf c11 u11 0 8)).code), .int .i64 ((checkG (pgOf c11 u11 0 8)).thread), .int .i64 ((checkG (pgOf c11 u11 0 8)).at_)], .blk b22 31 [.int .i64 ((checkG (pgOf code words ((Lk : Nat) : Int) ((R : Nat) : Int))).code), .int .i64 ((checkG (pgOf code words ((Lk : Nat) : Int) ((R : Nat) : Int))).thread), .int .i64 ((checkG (pgOf code words ((Lk : Nat) : Int) ((R : Nat) : Int))).at_)], .blk b16 31 [.int .i64 0, .int .i64 0, .int .i64 0], .blk b15 28 [c11.v, u11.v, .int .i64 0, .int .i64 8], .deep 64 c11, .own 3 u11, .blk b3 28 [code.v, words.v, .int .i64 ((Lk : Nat) : Int), .int .i64 ((R : Nat) : Int)], .at_ code, .at_ words] := h243.nrm ⟨rfl, rfl, rfl, rfl, rfl, rfl, rfl, trivial⟩ [0, 1, 2, 3, 4, 5, 6, 7, 8, 9, 10, 11, 12, 13, 14] (by decide) ⟨rfl, rfl, rfl, rfl, rfl, rfl, rfl, rfl, rfl, rfl, rfl, rfl, rfl, rfl, rfl, trivial⟩
   clear h243
   refine x_condT h244 rfl rfl <| wp_exit <| hK54 _ _ <| wp_region_lit <| wms 1 h244 rfl fun a245 h245 => wv h245 (r_addN (p := md) (q := 1) rfl rfl rfl (show md + 1 < 9223372036854775808 from (by omega))) rfl rfl fun a246 h246 => wms 1 h246 rfl fun a247 h247 => wpList_nil <| x_again ⟨_, ?_, md + 1, ?_, h247.nrm ⟨rfl, rfl, rfl, trivial⟩ [6, 7, 8, 9, 10, 11, 12, 13, 14] (by decide) ⟨rfl, rfl, rfl, rfl, rfl, rfl, rfl, rfl, rfl, trivial⟩, rfl⟩; clear h244 h245 h246
   · rw [hm48]; first | omega | (simp only [lens9]; omega)
   · omega
  refine wl_val h237 (r_move rfl rfl) (wanted_yes h237.fr rfl rfl rfl rfl hb238) rfl rfl fun a248 h248 => wl_val h248 (r_nil rfl rfl) (wanted_yes h248.fr rfl rfl rfl rfl hb238) rfl rfl fun a249 h249 => wl_val h249 (r_fieldB (r := 5) fl_49_5 rfl rfl rfl) (wanted_yes h249.fr rfl rfl rfl rfl hb238) rfl rfl fun a250 h250 => wl_val h250 (r_ldb (i := 2) ti_4 rfl rfl rfl rfl) (wanted_yes h250.fr rfl rfl rfl rfl hb238) rfl rfl fun a251 h251 => wv h251 (r_pickF rfl rfl hb238 rfl) rfl rfl fun a252 h252 => wpList_nil <| hK210 _ _ ?_; clear h237 h248 h249 h250 h251
  have h253 : St 128 (fun _ => False) W a252 w207 [(1, .pointer (some ⟨b3, 0, none⟩)), (3, .pointer (some ⟨b15, 0, none⟩)), (7, .int .i64 ((md : Nat) : Int)), (8, .pointer (some ⟨g57, 0, none⟩)), (9, .pointer (some ⟨g201, 0, none⟩)), (10, .pointer (some ⟨g207, 0, none⟩)), (86, .bool fu201)] [.blk g207 49 [sv207, kv207, hv207, bv207, en207.v, .bool fu207], .own 56 en207, .blk g201 49 [sv201, kv201, hv201, bv201, en201.v, .bool fu201], .own 56 en201, .blk g57 49 [sv57, kv57, hv57, bv57, en57.v, .bool fu57], .own 56 en57, .blk b37 31 [.int .i64 ((checkG (pgOf c11 u11 0 8)).code), .int .i64 ((checkG (pgOf c11 u11 0 8)).thread), .int .i64 ((checkG (pgOf c11 u11 0 8)).at_)], .blk b22 31 [.int .i64 ((checkG (pgOf code words ((Lk : Nat) : Int) ((R : Nat) : Int))).code), .int .i64 ((checkG (pgOf code words ((Lk : Nat) : Int) ((R : Nat) : Int))).thread), .int .i64 ((checkG (pgOf code words ((Lk : Nat) : Int) ((R : Nat) : Int))).at_)], .blk b16 31 [.int .i64 0, .int .i64 0, .int .i64 0], .blk b15 28 [c11.v, u11.v, .int .i64 0, .int .i64 8], .deep 64 c11, .own 3 u11, .blk b3 28 [code.v, words.v, .int .i64 ((Lk : Nat) : Int), .int .i64 ((R : Nat) : Int)], .at_ code, .at_ words] := h252.nrm ⟨rfl, rfl, rfl, rfl, rfl, rfl, rfl, trivial⟩ [0, 1, 2, 3, 4, 5, 6, 7, 8, 9, 10, 11, 12, 13, 14] (by decide) ⟨rfl, rfl, rfl, rfl, rfl, rfl, rfl, rfl, rfl, rfl, rfl, rfl, rfl, rfl, rfl, trivial⟩
  clear h252
  refine x_cond h253 rfl (fun hb254 => ?_) (fun hb254 => ?_)
  ·
   skip
   refine wp_exit <| hK54 _ _ <| wp_region_lit <| wms 1 h253 rfl fun a255 h255 => wv h255 (r_addN (p := md) (q := 1) rfl rfl rfl (show md + 1 < 9223372036854775808 from (by omega))) rfl rfl fun a256 h256 => wms 1 h256 rfl fun a257 h257 => wpList_nil <| x_again ⟨_, ?_, md + 1, ?_, h257.nrm ⟨rfl, rfl, rfl, trivial⟩ [6, 7, 8, 9, 10, 11, 12, 13, 14] (by decide) ⟨rfl, rfl, rfl, rfl, rfl, rfl, rfl, rfl, rfl, trivial⟩, rfl⟩; clear h253 h255 h256
   · rw [hm48]; first | omega | (simp only [lens9]; omega)
   · omega
  refine wp_skip <| hK209 _ _ <| wp_seq_k fun K258 hK258 => wp_seq_k fun K259 hK259 => wp_region_lit <| wms 1 h253 rfl fun a260 h260 => wpList_nil <| hK259 _ _ <| wp_block <| x_loop (fun m a w => ∃ (e : Nat), (e ≤ en201.l.length) ∧ (∀ j, j < e → (nth en201.l j).st ≠ 1) ∧ St 128 (fun _ => False) W a w [(1, .pointer (some ⟨b3, 0, none⟩)), (3, .pointer (some ⟨b15, 0, none⟩)), (7, .int .i64 ((md : Nat) : Int)), (8, .pointer (some ⟨g57, 0, none⟩)), (9, .pointer (some ⟨g201, 0, none⟩)), (10, .pointer (some ⟨g207, 0, none⟩)), (11, .int .i64 ((e : Nat) : Int))] [.blk g207 49 [sv207, kv207, hv207, bv207, en207.v, .bool fu207], .own 56 en207, .blk g201 49 [sv201, kv201, hv201, bv201, en201.v, .bool fu201], .own 56 en201, .blk g57 49 [sv57, kv57, hv57, bv57, en57.v, .bool fu57], .own 56 en57, .blk b37 31 [.int .i64 ((checkG (pgOf c11 u11 0 8)).code), .int .i64 ((checkG (pgOf c11 u11 0 8)).thread), .int .i64 ((checkG (pgOf c11 u11 0 8)).at_)], .blk b22 31 [.int .i64 ((checkG (pgOf code words ((Lk : Nat) : Int) ((R : Nat) : Int))).code), .int .i64 ((checkG (pgOf code words ((Lk : Nat) : Int) ((R : Nat) : Int))).thread), .int .i64 ((checkG (pgOf code words ((Lk : Nat) : Int) ((R : Nat) : Int))).at_)], .blk b16 31 [.int .i64 0, .int .i64 0, .int .i64 0], .blk b15 28 [c11.v, u11.v, .int .i64 0, .int .i64 8], .deep 64 c11, .own 3 u11, .blk b3 28 [code.v, words.v, .int .i64 ((Lk : Nat) : Int), .int .i64 ((R : Nat) : Int)], .at_ code, .at_ words] ∧ m = en201.l.length - e) ⟨_, 0, (by omega), (fun j hj => absurd hj (by omega)), h260.nrm ⟨rfl, rfl, rfl, rfl, rfl, rfl, rfl, trivial⟩ [0, 1, 2, 3, 4, 5, 6, 7, 8, 9, 10, 11, 12, 13, 14] (by decide) ⟨rfl, rfl, rfl, rfl, rfl, rfl, rfl, rfl, rfl, rfl, rfl, rfl, rfl, rfl, rfl, trivial⟩, rfl⟩ ?_; clear h253
  clear h260
  rintro m261 a261 w261 ⟨e, he, hall, h261, hm261⟩
  refine wp_seq_k fun K262 hK262 => wp_seq_k fun K263 hK263 => wp_region_lit <| wms 2 h261 rfl fun a264 h264 => wv h264 (r_nil rfl rfl) rfl rfl fun a265 h265 => wv h265 (r_fieldB (r := 4) fl_49_4 rfl rfl rfl) rfl rfl fun a266 h266 => wv h266 (r_ldb (i := 2) ti_47 rfl rfl rfl rfl) rfl rfl fun a267 h267 => ?_; clear h261 h264 h265 h266
  have hl268 : en201.l.length ≤ 140737488355328 := (h267.sh.own 3 rfl).len
  refine wv h267 (r_len (s := en201) (n := en201.l.length) sl_47 rfl rfl (fun w h => (h.own 3 rfl)) rfl) rfl rfl fun a269 h269 => wv h269 (r_lssN (p := e) (q := en201.l.length) rfl rfl rfl) rfl rfl fun a270 h270 => wpList_nil <| hK263 _ _ <| x_cond h270 rfl (fun hb271 => ?_) (fun hb271 => ?_); clear h267 h269
  ·
   have hp271 : e < en201.l.length := of_decide_eq_true hb271
   refine wp_skip <| hK262 _ _ <| wp_seq_k fun K272 hK272 => wp_block <| wp_seq_k fun K273 hK273 => wp_region_lit <| wms 1 h270 rfl fun a274 h274 => wv h274 (r_nil rfl rfl) rfl rfl fun a275 h275 => wv h275 (r_fieldB (r := 4) fl_49_4 rfl rfl rfl) rfl rfl fun a276 h276 => wv h276 (r_ldb (i := 2) ti_47 rfl rfl rfl rfl) rfl rfl fun a277 h277 => wms 1 h277 rfl fun a278 h278 => wv h278 (r_ixN (s := en201) (q := e) sl_47 ti_56 rfl rfl rfl (fun w h => (h.own 3 rfl)) (show e < en201.l.length from (by omega))) rfl rfl fun a279 h279 => wv h279 (r_fieldE (r := 0) fl_56_0 rfl rfl rfl) rfl rfl fun a280 h280 => wv h280 (r_lde (s := en201) (i := e) (v := .int .i64 ((nth en201.l e).st)) ti_3 rfl rfl rfl (fun w h => (h.own 3 rfl)) (show e < en201.l.length from (by omega)) (Nat.le_of_ble_eq_true rfl) rfl) rfl rfl fun a281 h281 => ?_; clear h270 h274 h275 h276 h277 h278 h279 h280
   refine wv h281 (r_eqlI (p := (nth en201.l e).st) (q := 1) rfl rfl rfl) rfl rfl fun a282 h282 => wpList_nil <| hK273 _ _ <| x_cond h282 rfl (fun hb283 => ?_) (fun hb283 => ?_); clear h281
   ·
    have hp283 : (nth en201.l e).st = 1 := of_decide_eq_true hb283
    refine wp_seq_k fun K284 hK284 => wp_region_lit <| wms 1 h282 rfl fun a285 h285 => wpList_nil <| hK284 _ _ ?_; clear h282
    have h286 : St 128 (fun _ => False) W a285 w261 [(2, .bool true)] [.blk g207 49 [sv207, kv207, hv207, bv207, en207.v, .bool fu207], .own 56 en207, .blk g201 49 [sv201, kv201, hv201, bv201, en201.v, .bool fu201], .own 56 en201, .blk g57 49 [sv57, kv57, hv57, bv57, en57.v, .bool fu57], .own 56 en57, .blk b37 31 [.int .i64 ((checkG (pgOf c11 u11 0 8)).code), .int .i64 ((checkG (pgOf c11 u11 0 8)).thread), .int .i64 ((checkG (pgOf c11 u11 0 8)).at_)], .blk b22 31 [.int .i64 ((checkG (pgOf code words ((Lk : Nat) : Int) ((R : Nat) : Int))).code), .int .i64 ((checkG (pgOf code words ((Lk : Nat) : Int) ((R : Nat) : Int))).thread), .int .i64 ((checkG (pgOf code words ((Lk : Nat) : Int) ((R : Nat) : Int))).at_)], .blk b16 31 [.int .i64 0, .int .i64 0, .int .i64 0], .blk b15 28 [c11.v, u11.v, .int .i64 0, .int .i64 8], .deep 64 c11, .own 3 u11, .blk b3 28 [code.v, words.v, .int .i64 ((Lk : Nat) : Int), .int .i64 ((R : Nat) : Int)], .at_ code, .at_ words] := h285.nrm ⟨rfl, trivial⟩ [0, 1, 2, 3, 4, 5, 6, 7, 8, 9, 10, 11, 12, 13, 14] (by decide) ⟨rfl, rfl, rfl, rfl, rfl, rfl, rfl, rfl, rfl, rfl, rfl, rfl, rfl, rfl, rfl, trivial⟩
    clear h285
    refine wp_ret ?_
    try simp only [Exit.then, Exit.inBlock]
    refine x_ret1 (fn := Try.f11) (t := 2) rfl h286 rfl ?_
    exact ⟨rfl, (h286.sh.sel [] (by decide) trivial)⟩
   have hp283 : ¬ ((nth en201.l e).st = 1) := of_decide_eq_false hb283
   refine wp_skip <| hK272 _ _ <| wp_region_lit <| wms 1 h282 rfl fun a287 h287 => wv h287 (r_addN (p := e) (q := 1) rfl rfl rfl (show e + 1 < 9223372036854775808 from (by omega))) rfl rfl fun a288 h288 => wms 1 h288 rfl fun a289 h289 => wpList_nil <| x_again ⟨_, ?_, e + 1, ?_, ?_, h289.nrm ⟨rfl, rfl, rfl, rfl, rfl, rfl, rfl, trivial⟩ [0, 1, 2, 3, 4, 5, 6, 7, 8, 9, 10, 11, 12, 13, 14] (by decide) ⟨rfl, rfl, rfl, rfl, rfl, rfl, rfl, rfl, rfl, rfl, rfl, rfl, rfl, rfl, rfl, trivial⟩, rfl⟩; clear h282 h287 h288
   · rw [hm261]; first | omega | (simp only [lens9]; omega)
   · omega
   · intro j hj; rcases Nat.lt_or_ge j e with h9 | h9; exact hall j h9; obtain rfl : j = e := (by omega); omega
  have hp271 : ¬ (e < en201.l.length) := of_decide_eq_false hb271
  refine wp_exit <| hK258 _ _ <| wp_seq_k fun K290 hK290 => x_tail 7 [] (by kernel_rfl) (by kernel_rfl) h270 fun Z291 hZ291 => ?_
  have hq291 := h270.fr
  refine wq_val hq291 (r_move rfl rfl) (wanted_none rfl _) rfl rfl fun a292 hq292 => wq_val hq292 (r_nil rfl rfl) (wanted_none rfl _) rfl rfl fun a293 hq293 => wq_val hq293 (r_fieldB (r := 4) fl_49_4 rfl rfl rfl) (wanted_none rfl _) rfl rfl fun a294 hq294 => wq_val hq294 (r_ldb (i := 4) ti_47 rfl rfl rfl rfl) (wanted_none rfl _) rfl rfl fun a295 hq295 => wq_val hq295 (r_fieldB (r := 1) fl_28_1 rfl rfl rfl) (wanted_none rfl _) rfl rfl fun a296 hq296 => wq_val hq296 (r_ldb (i := 12) ti_24 rfl rfl rfl rfl) (wanted_none rfl _) rfl rfl fun a297 hq297 => ?_; clear hq291 hq292 hq293 hq294 hq295 hq296
  have hl298 : words.l.length ≤ 140737488355328 := (h270.sh.at 14 rfl).len
  refine wq_val hq297 (r_len (s := words) (n := words.l.length) sl_24 rfl rfl (fun w h => (h.at 14 rfl)) rfl) (wanted_none rfl _) rfl rfl fun a299 hq299 => wpQuiet_nil (hZ291 _ fun w300 hw300 => ?_); clear hq297
  have h300 : St 128 (fun _ => False) W a299 w300 _ _ := ⟨hq299, hw300⟩
  clear hq299 hw300 h270
  refine wl_ex (x_call h300 bd_33 rfl rfl rfl rfl rfl (cut_c en57 words.l.length _ (h300.sh.own 5 rfl) (cut_ok hok (Nat.le_refl _) (hby57 (by assumption)).2) (by omega))) (wanted_none rfl _) ?_
  rintro a301 w301 ⟨_, ⟨cx301, rfl, hcx301, hob301, hs301⟩, hf301⟩
  have h301 := (⟨hf301, h300.sh.call hs301 (by intro A hA b hb; simp only [List.mem_cons, List.not_mem_nil, or_false] at hA; subst hA; exact .inr (by obtain ⟨i9, hi9, hb9⟩ := hb; exact ⟨_, List.mem_of_getElem? (i := 5) rfl, hob301 _ (nth_mem _ _ hi9) b hb9⟩))⟩ : St 128 (fun _ => False) W a301 w301 _ _)
  clear hf301 hs301
  have hcl301 : cx301.l.length ≤ 70000 := by have h9 := congrArg List.length hcx301; rw [List.length_map, cutL, List.length_map] at h9; have h8 := List.length_filter_le (fun o : Outc => decide (o.st = 0)) (en57.l.map OutL.out); rw [List.length_map] at h8; omega
  clear h300
  refine wms 1 h301 rfl fun a302 h302 => wpList_nil <| hK290 _ _ <| wp_seq_k fun K303 hK303 => x_tail 7 [] (by kernel_rfl) (by kernel_rfl) h302 fun Z304 hZ304 => ?_; clear h301
  have hq304 := h302.fr
  refine wq_val hq304 (r_move rfl rfl) (wanted_none rfl _) rfl rfl fun a305 hq305 => wq_val hq305 (r_nil rfl rfl) (wanted_none rfl _) rfl rfl fun a306 hq306 => wq_val hq306 (r_fieldB (r := 4) fl_49_4 rfl rfl rfl) (wanted_none rfl _) rfl rfl fun a307 hq307 => wq_val hq307 (r_ldb (i := 1) ti_47 rfl rfl rfl rfl) (wanted_none rfl _) rfl rfl fun a308 hq308 => wq_val hq308 (r_fieldB (r := 1) fl_28_1 rfl rfl rfl) (wanted_none rfl _) rfl rfl fun a309 hq309 => wq_val hq309 (r_ldb (i := 13) ti_24 rfl rfl rfl rfl) (wanted_none rfl _) rfl rfl fun a310 hq310 => wq_val hq310 (r_len (s := words) (n := words.l.length) sl_24 rfl rfl (fun w h => (h.at 15 rfl)) rfl) (wanted_none rfl _) rfl rfl fun a311 hq311 => wpQuiet_nil (hZ304 _ fun w312 hw312 => ?_); clear hq304 hq305 hq306 hq307 hq308 hq309 hq310
  have h312 : St 128 (fun _ => False) W a311 w312 _ _ := ⟨hq311, hw312⟩
  clear hq311 hw312 h302
  refine wl_ex (x_call h312 bd_33 rfl rfl rfl rfl rfl (cut_c en207 words.l.length _ (h312.sh.own 2 rfl) (cut_ok hf.2 hul (hby207 (by assumption)).2) (by omega))) (wanted_none rfl _) ?_
  rintro a313 w313 ⟨_, ⟨cx313, rfl, hcx313, hob313, hs313⟩, hf313⟩
  have h313 := (⟨hf313, h312.sh.call hs313 (by intro A hA b hb; simp only [List.mem_cons, List.not_mem_nil, or_false] at hA; subst hA; exact .inr (by obtain ⟨i9, hi9, hb9⟩ := hb; exact ⟨_, List.mem_of_getElem? (i := 2) rfl, hob313 _ (nth_mem _ _ hi9) b hb9⟩))⟩ : St 128 (fun _ => False) W a313 w313 _ _)
  clear hf313 hs313
  have hcl313 : cx313.l.length ≤ 70000 := by have h9 := congrArg List.length hcx313; rw [List.length_map, cutL, List.length_map] at h9; have h8 := List.length_filter_le (fun o : Outc => decide (o.st = 0)) (en207.l.map OutL.out); rw [List.length_map] at h8; omega
  clear h312
  refine wms 1 h313 rfl fun a314 h314 => wpList_nil <| hK303 _ _ ?_; clear h313
  have h315 : St 128 (fun _ => False) W a314 w313 [(1, .pointer (some ⟨b3, 0, none⟩)), (3, .pointer (some ⟨b15, 0, none⟩)), (7, .int .i64 ((md : Nat) : Int)), (12, cx301.v), (13, cx313.v)] [.own 56 cx313, .own 56 cx301, .blk g207 49 [sv207, kv207, hv207, bv207, en207.v, .bool fu207], .own 56 en207, .blk g201 49 [sv201, kv201, hv201, bv201, en201.v, .bool fu201], .own 56 en201, .blk g57 49 [sv57, kv57, hv57, bv57, en57.v, .bool fu57], .own 56 en57, .blk b37 31 [.int .i64 ((checkG (pgOf c11 u11 0 8)).code), .int .i64 ((checkG (pgOf c11 u11 0 8)).thread), .int .i64 ((checkG (pgOf c11 u11 0 8)).at_)], .blk b22 31 [.int .i64 ((checkG (pgOf code words ((Lk : Nat) : Int) ((R : Nat) : Int))).code), .int .i64 ((checkG (pgOf code words ((Lk : Nat) : Int) ((R : Nat) : Int))).thread), .int .i64 ((checkG (pgOf code words ((Lk : Nat) : Int) ((R : Nat) : Int))).at_)], .blk b16 31 [.int .i64 0, .int .i64 0, .int .i64 0], .blk b15 28 [c11.v, u11.v, .int .i64 0, .int .i64 8], .deep 64 c11, .own 3 u11, .blk b3 28 [code.v, words.v, .int .i64 ((Lk : Nat) : Int), .int .i64 ((R : Nat) : Int)], .at_ code, .at_ words] := h314.nrm ⟨rfl, rfl, rfl, rfl, rfl, trivial⟩ [0, 1, 2, 3, 4, 5, 6, 7, 8, 9, 10, 11, 12, 13, 14, 15, 16] (by decide) ⟨rfl, rfl, rfl, rfl, rfl, rfl, rfl, rfl, rfl, rfl, rfl, rfl, rfl, rfl, rfl, rfl, rfl, trivial⟩
  clear h314
  refine wp_seq_k fun K316 hK316 => wp_region_lit <| wms 1 h315 rfl fun a317 h317 => wl_ex (x_call h317 bd_34 rfl rfl rfl rfl rfl (once_c cx313 _ (h317.sh.own 0 rfl) (by omega))) (wanted_none rfl _) ?_; clear h315
  rintro a318 w318 ⟨_, ⟨cx318, rfl, hcx318, hob318, hs318⟩, hf318⟩
  have h318 := (⟨hf318, h317.sh.call hs318 (by intro A hA b hb; simp only [List.mem_cons, List.not_mem_nil, or_false] at hA; subst hA; exact .inr (by obtain ⟨i9, hi9, hb9⟩ := hb; exact ⟨_, List.mem_of_getElem? (i := 0) rfl, hob318 _ (nth_mem _ _ hi9) b hb9⟩))⟩ : St 128 (fun _ => False) W a318 w318 _ _)
  clear hf318 hs318
  clear h317
  refine wms 1 h318 rfl fun a319 h319 => wpList_nil <| hK316 _ _ <| wp_seq_k fun K320 hK320 => wp_region_lit <| wms 2 h319 rfl fun a321 h321 => wl_ex (x_call h321 bd_25 rfl rfl rfl rfl rfl (sameO_c cx301 cx318 _ (h321.sh.own 2 rfl) (h321.sh.own 0 rfl))) (wanted_none rfl _) ?_; clear h318 h319
  rintro a322 w322 ⟨_, ⟨rfl, hs322⟩, hf322⟩
  have h322 : St 128 (fun _ => False) W a322 w322 _ _ := ⟨hf322, h321.sh.call0 hs322⟩
  clear hf322 hs322
  clear h321
  refine wms 1 h322 rfl fun a323 h323 => wpList_nil <| hK320 _ _ <| wp_seq_k fun K324 hK324 => wp_region_lit <| wms 1 h323 rfl fun a325 h325 => wv h325 (r_not rfl rfl) rfl rfl fun a326 h326 => wpList_nil <| hK324 _ _ <| x_cond h326 rfl (fun hb327 => ?_) (fun hb327 => ?_); clear h322 h323 h325
  ·
   have hp327 : ¬ (cx301.l.map OutL.out = cx318.l.map OutL.out) := by simpa using hb327
   have hnf := no_fell (hby201 (by assumption)).2 (fun j hj => hall j (by omega))
   have hmb : bit (decide (md = 1)) = 1 := by first | (rw [decide_eq_false (by omega)]; rfl) | (rw [decide_eq_true (by omega)]; rfl)
   have hbq := hby207 (by assumption)
   rw [hmb] at hbq
   exact absurd (spin_eq hok hf hr (.inr rfl) hnf (hby57 (by assumption)) hbq hcx301 hcx313 hcx318) (by assumption)
  have hp327 : cx301.l.map OutL.out = cx318.l.map OutL.out := by simpa using hb327
  refine wp_skip <| hK54 _ _ <| wp_region_lit <| wms 1 h326 rfl fun a328 h328 => wv h328 (r_addN (p := md) (q := 1) rfl rfl rfl (show md + 1 < 9223372036854775808 from (by omega))) rfl rfl fun a329 h329 => wms 1 h329 rfl fun a330 h330 => wpList_nil <| x_again ⟨_, ?_, md + 1, ?_, h330.nrm ⟨rfl, rfl, rfl, trivial⟩ [9, 10, 11, 12, 13, 14, 15, 16, 17] (by decide) ⟨rfl, rfl, rfl, rfl, rfl, rfl, rfl, rfl, rfl, trivial⟩, rfl⟩; clear h326 h328 h329
  · rw [hm48]; first | omega | (simp only [lens9]; omega)
  · omega
 have hp53 : ¬ (md < 2) := of_decide_eq_false hb53
 refine wp_exit <| hK45 _ _ <| wp_seq_k fun K331 hK331 => wp_region_lit <| wms 1 h52 rfl fun a332 h332 => wpList_nil <| hK331 _ _ <| wp_ret ?_; clear h52
 try simp only [Exit.then, Exit.inBlock]
 refine x_ret1 (fn := Try.f11) (t := 2) rfl h332 rfl ?_
 exact ⟨rfl, (h332.sh.sel [] (by decide) trivial)⟩

set_option maxRecDepth 100000 in
set_option maxHeartbeats 4000000 in
theorem spinHolds_r (code : Ls (Ls Ins)) (words : Ls Int) (Lk R : Nat) (W : World) (hcode : code.At W) (hwords : words.At W) (hv : vastG (code.l.map (·.l)) words.l = false) (hok : OkPg (pgN code words Lk R)) (hr : 6 < (R : Int)) :
    Rets Try.prog 11 [.agg #[code.v, words.v, .int .i64 ((Lk : Nat) : Int), .int .i64 ((R : Nat) : Int)]] W (fun v w' => v = .bool true ∧ Sh0 W w' []) := by
 have hz := checkG_ok hok
 obtain ⟨hl1, hl2, hl3, hl4', hl5, hl6, hl7⟩ := ok_lenN hok
 refine x_enter (N := 128) Try.func11 rfl Try.ntmps11 (Nat.le_of_ble_eq_true rfl) fun a1 hf1 => ?_
 have h1 : St 128 (fun _ => False) W a1 W [(0, .agg #[code.v, words.v, .int .i64 ((Lk : Nat) : Int), .int .i64 ((R : Nat) : Int)])] [.at_ code, .at_ words] := ⟨hf1.sub ⟨rfl, trivial⟩, Sh0.ext2 hcode hwords⟩
 clear hf1
 refine wp_seq_k fun K2 hK2 => wp_region_lit <| wl_ex (x_box (cs := [code.v, words.v, .int .i64 ((Lk : Nat) : Int), .int .i64 ((R : Nat) : Int)]) h1 rfl rfl rfl rfl rfl) (wanted_none rfl _) ?_
 rintro a3 w3 ⟨b3, h3⟩; clear h1
 refine wms 1 h3 rfl fun a4 h4 => wpList_nil <| hK2 _ _ <| wp_seq_k fun K5 hK5 => wp_seq_k fun K6 hK6 => wp_region_lit <| wv h4 (r_ldbw (i := 0) (vs := [code.v, words.v, .int .i64 ((Lk : Nat) : Int), .int .i64 ((R : Nat) : Int)]) ti_28 rfl rfl rfl rfl rfl) rfl rfl fun a7 h7 => wl_ex (x_call h7 bd_18 rfl rfl rfl rfl rfl (vast_c (code := code) (words := words) (locks := ((Lk : Nat) : Int)) (regs := ((R : Nat) : Int)) (h7.sh.at 1 rfl) (h7.sh.at 2 rfl))) (wanted_none rfl _) ?_; clear h3 h4
 rintro a8 w8 ⟨_, ⟨rfl, hs8⟩, hf8⟩
 have h8 : St 128 (fun _ => False) W a8 w8 _ _ := ⟨hf8, h7.sh.call0 hs8⟩
 clear hf8 hs8
 clear h7
 refine wpList_nil <| hK6 _ _ <| x_condF h8 rfl hv <| wp_skip <| hK5 _ _ <| wp_seq_k fun K9 hK9 => wp_region_lit <| wv h8 (r_ldbw (i := 0) (vs := [code.v, words.v, .int .i64 ((Lk : Nat) : Int), .int .i64 ((R : Nat) : Int)]) ti_28 rfl rfl rfl rfl rfl) rfl rfl fun a10 h10 => wl_ex (x_call h10 bd_31 rfl rfl rfl rfl rfl (link_r code words ((Lk : Nat) : Int) ((R : Nat) : Int) _ (h10.sh.at 1 rfl) (h10.sh.at 2 rfl) hok hr)) (wanted_none rfl _) ?_; clear h8
 rintro a11 w11 ⟨_, ⟨rfl, hs11⟩, hf11⟩
 have h11 : St 128 (fun _ => False) W a11 w11 _ _ := ⟨hf11, h10.sh.call0 hs11⟩
 clear hf11 hs11
 clear h10
 refine wms 1 h11 rfl fun a12 h12 => wv h12 (r_extract rfl rfl rfl) rfl rfl fun a13 h13 => wv h13 (r_extract rfl rfl rfl) rfl rfl fun a14 h14 => wl_ex (x_alloc h14 ti_28 rfl rfl rfl) (wanted_none rfl _) ?_; clear h11 h12 h13
 rintro a15 w15 ⟨b15, h15⟩; clear h14
 refine wl_ex (x_alloc h15 ti_31 rfl rfl rfl) (wanted_none rfl _) ?_
 rintro a16 w16 ⟨b16, h16⟩; clear h15
 refine wl_ex (x_stb (i := 1) (vs := [(.slice none 0 0), (.slice none 0 0), .int .i64 0, .int .i64 0]) (cs' := [(.slice none 0 0), (.slice none 0 0), .int .i64 0, .int .i64 0]) h16 ti_28 rfl rfl rfl rfl rfl rfl rfl (allOne_cons ((Sh.nilAt (α := Ls Ins) h16.sh)).one (allOne_cons ((Sh.nilAt (α := Int) h16.sh)).one (allOne_cons rfl (allOne_cons rfl allOne_nil)))) (Nat.le_of_ble_eq_true rfl) rfl) (wanted_none rfl _) ?_
 rintro a17 w17 h17
 clear h16
 refine wl_ex (x_stb (i := 0) (vs := [.int .i64 3, .int .i64 0, .int .i64 0]) (cs' := [.int .i64 3, .int .i64 0, .int .i64 0]) h17 ti_31 rfl rfl rfl rfl rfl rfl rfl (allOne_cons rfl (allOne_cons rfl (allOne_cons rfl allOne_nil))) (Nat.le_of_ble_eq_true rfl) rfl) (wanted_none rfl _) ?_
 rintro a18 w18 h18
 clear h17
 refine wpList_nil <| hK9 _ _ <| wp_seq_k fun K19 hK19 => wp_region_lit <| wv h18 (r_ldbw (i := 2) (vs := [code.v, words.v, .int .i64 ((Lk : Nat) : Int), .int .i64 ((R : Nat) : Int)]) ti_28 rfl rfl rfl rfl rfl) rfl rfl fun a20 h20 => wl_ex (x_call h20 bd_20 rfl rfl rfl rfl rfl (refCheck_c (code := code) (words := words) (locks := ((Lk : Nat) : Int)) (regs := ((R : Nat) : Int)) (h20.sh.at 3 rfl) (h20.sh.at 4 rfl))) (wanted_none rfl _) ?_; clear h18
 rintro a21 w21 ⟨_, ⟨rfl, hs21⟩, hf21⟩
 have h21 : St 128 (fun _ => False) W a21 w21 _ _ := ⟨hf21, h20.sh.call0 hs21⟩
 clear hf21 hs21
 clear h20
 refine wl_ex (x_alloc h21 ti_31 rfl rfl rfl) (wanted_none rfl _) ?_
 rintro a22 w22 ⟨b22, h22⟩; clear h21
 refine wl_ex (x_stb (i := 0) (vs := [.int .i64 ((checkG (pgOf code words ((Lk : Nat) : Int) ((R : Nat) : Int))).code), .int .i64 ((checkG (pgOf code words ((Lk : Nat) : Int) ((R : Nat) : Int))).thread), .int .i64 ((checkG (pgOf code words ((Lk : Nat) : Int) ((R : Nat) : Int))).at_)]) (cs' := [.int .i64 ((checkG (pgOf code words ((Lk : Nat) : Int) ((R : Nat) : Int))).code), .int .i64 ((checkG (pgOf code words ((Lk : Nat) : Int) ((R : Nat) : Int))).thread), .int .i64 ((checkG (pgOf code words ((Lk : Nat) : Int) ((R : Nat) : Int))).at_)]) h22 ti_31 rfl rfl rfl rfl rfl rfl rfl (allOne_cons rfl (allOne_cons rfl (allOne_cons rfl allOne_nil))) (Nat.le_of_ble_eq_true rfl) rfl) (wanted_none rfl _) ?_
 rintro a23 w23 h23
 clear h22
 refine wpList_nil <| hK19 _ _ <| wp_seq_k fun K24 hK24 => wp_seq_k fun K25 hK25 => wp_region_lit <| wv h23 (r_fieldB (r := 0) fl_31_0 rfl rfl rfl) rfl rfl fun a26 h26 => wv h26 (r_ldb (i := 0) ti_22 rfl rfl rfl rfl) rfl rfl fun a27 h27 => wv h27 (r_neqI (p := (checkG (pgOf code words ((Lk : Nat) : Int) ((R : Nat) : Int))).code) (q := 0) rfl rfl rfl) rfl rfl fun a28 h28 => wpList_nil <| hK25 _ _ <| x_condF h28 rfl (by rw [show checkG (pgOf code words ((Lk : Nat) : Int) ((R : Nat) : Int)) = ⟨0, 0, 0⟩ from hz]; rfl) ?_; clear h23 h26 h27
 refine wp_skip <| hK24 _ _ <| wp_seq_k fun K29 hK29 => wp_seq_k fun K30 hK30 => wp_region_lit <| wv h28 (r_fieldB (r := 0) fl_31_0 rfl rfl rfl) rfl rfl fun a31 h31 => wv h31 (r_ldb (i := 1) ti_22 rfl rfl rfl rfl) rfl rfl fun a32 h32 => wv h32 (r_neqN (p := 3) (q := 0) rfl rfl rfl) rfl rfl fun a33 h33 => wpList_nil <| hK30 _ _ <| x_condT h33 rfl (by decide) <| wp_seq_k fun K34 hK34 => wp_region_lit <| wv h33 (r_fieldB (r := 3) fl_28_3 rfl rfl rfl) rfl rfl fun a35 h35 => ?_; clear h28 h31 h32 h33
 refine wv h35 (r_ldb (i := 3) ti_3 rfl rfl rfl rfl) rfl rfl fun a36 h36 => wv h36 (r_gtrN (p := R) (q := 6) rfl rfl rfl) rfl rfl fun a37 h37 => wms 1 h37 rfl fun a38 h38 => wl_skip h38 (wanted_no h38.fr rfl rfl rfl rfl (decide_eq_true (by omega))) rfl rfl fun a39 h39 => wl_skip h39 (wanted_no h39.fr rfl rfl rfl rfl (decide_eq_true (by omega))) rfl rfl fun a40 h40 => wl_skip h40 (wanted_no h40.fr rfl rfl rfl rfl (decide_eq_true (by omega))) rfl rfl fun a41 h41 => wl_skip h41 (wanted_no h41.fr rfl rfl rfl rfl (decide_eq_true (by omega))) rfl rfl fun a42 h42 => wl_skip h42 (wanted_no h42.fr rfl rfl rfl rfl (decide_eq_true (by omega))) rfl rfl fun a43 h43 => wl_skip h43 (wanted_no h43.fr rfl rfl rfl rfl (decide_eq_true (by omega))) rfl rfl fun a44 h44 => wl_skip h44 (wanted_no h44.fr rfl rfl rfl rfl (decide_eq_true (by omega))) rfl rfl fun a45 h45 => wv h45 (r_pickT rfl rfl (decide_eq_true (by omega)) rfl) rfl rfl fun a46 h46 => wms 1 h46 rfl fun a47 h47 => wl_skip h47 (wanted_no h47.fr rfl rfl rfl rfl rfl) rfl rfl fun a48 h48 => wl_skip h48 (wanted_no h48.fr rfl rfl rfl rfl rfl) rfl rfl fun a49 h49 => ?_; clear h35 h36 h37 h38 h39 h40 h41 h42 h43 h44 h45 h46 h47 h48
 refine wl_skip h49 (wanted_no h49.fr rfl rfl rfl rfl rfl) rfl rfl fun a50 h50 => wv h50 (r_pickT rfl rfl rfl rfl) rfl rfl fun a51 h51 => wms 1 h51 rfl fun a52 h52 => wpList_nil <| hK34 _ _ ?_; clear h49 h50 h51
 have h53 : St 128 (fun _ => False) W a52 w23 [(2, .bool true)] [.blk b22 31 [.int .i64 ((checkG (pgOf code words ((Lk : Nat) : Int) ((R : Nat) : Int))).code), .int .i64 ((checkG (pgOf code words ((Lk : Nat) : Int) ((R : Nat) : Int))).thread), .int .i64 ((checkG (pgOf code words ((Lk : Nat) : Int) ((R : Nat) : Int))).at_)], .blk b16 31 [.int .i64 3, .int .i64 0, .int .i64 0], .blk b15 28 [(.slice none 0 0), (.slice none 0 0), .int .i64 0, .int .i64 0], .blk b3 28 [code.v, words.v, .int .i64 ((Lk : Nat) : Int), .int .i64 ((R : Nat) : Int)], .at_ code, .at_ words] := h52.nrm ⟨rfl, trivial⟩ [0, 1, 2, 3, 4, 5] (by decide) ⟨rfl, rfl, rfl, rfl, rfl, rfl, trivial⟩
 clear h52
 refine wp_ret ?_
 try simp only [Exit.then, Exit.inBlock]
 refine x_ret1 (fn := Try.f11) (t := 2) rfl h53 rfl ?_
 first | exact ⟨rfl, (h53.sh.sel [] (by decide) trivial)⟩ | exact ⟨congrArg _ (decide_eq_true rfl), (h53.sh.sel [] (by decide) trivial)⟩

set_option maxRecDepth 100000 in
set_option maxHeartbeats 4000000 in
theorem spinHolds_s (code : Ls (Ls Ins)) (words : Ls Int) (Lk R : Nat) (W : World) (hcode : code.At W) (hwords : words.At W) (hv : vastG (code.l.map (·.l)) words.l = false) (hok : OkPg (pgN code words Lk R)) (hr : (R : Int) ≤ 6) (hs : 64 < (words.l.length : Int) + (Lk : Int)) :
    Rets Try.prog 11 [.agg #[code.v, words.v, .int .i64 ((Lk : Nat) : Int), .int .i64 ((R : Nat) : Int)]] W (fun v w' => v = .bool true ∧ Sh0 W w' []) := by
 have hz := checkG_ok hok
 obtain ⟨hl1, hl2, hl3, hl4', hl5, hl6, hl7⟩ := ok_lenN hok
 refine x_enter (N := 128) Try.func11 rfl Try.ntmps11 (Nat.le_of_ble_eq_true rfl) fun a1 hf1 => ?_
 have h1 : St 128 (fun _ => False) W a1 W [(0, .agg #[code.v, words.v, .int .i64 ((Lk : Nat) : Int), .int .i64 ((R : Nat) : Int)])] [.at_ code, .at_ words] := ⟨hf1.sub ⟨rfl, trivial⟩, Sh0.ext2 hcode hwords⟩
 clear hf1
 refine wp_seq_k fun K2 hK2 => wp_region_lit <| wl_ex (x_box (cs := [code.v, words.v, .int .i64 ((Lk : Nat) : Int), .int .i64 ((R : Nat) : Int)]) h1 rfl rfl rfl rfl rfl) (wanted_none rfl _) ?_
 rintro a3 w3 ⟨b3, h3⟩; clear h1
 refine wms 1 h3 rfl fun a4 h4 => wpList_nil <| hK2 _ _ <| wp_seq_k fun K5 hK5 => wp_seq_k fun K6 hK6 => wp_region_lit <| wv h4 (r_ldbw (i := 0) (vs := [code.v, words.v, .int .i64 ((Lk : Nat) : Int), .int .i64 ((R : Nat) : Int)]) ti_28 rfl rfl rfl rfl rfl) rfl rfl fun a7 h7 => wl_ex (x_call h7 bd_18 rfl rfl rfl rfl rfl (vast_c (code := code) (words := words) (locks := ((Lk : Nat) : Int)) (regs := ((R : Nat) : Int)) (h7.sh.at 1 rfl) (h7.sh.at 2 rfl))) (wanted_none rfl _) ?_; clear h3 h4
 rintro a8 w8 ⟨_, ⟨rfl, hs8⟩, hf8⟩
 have h8 : St 128 (fun _ => False) W a8 w8 _ _ := ⟨hf8, h7.sh.call0 hs8⟩
 clear hf8 hs8
 clear h7
 refine wpList_nil <| hK6 _ _ <| x_condF h8 rfl hv <| wp_skip <| hK5 _ _ <| wp_seq_k fun K9 hK9 => wp_region_lit <| wv h8 (r_ldbw (i := 0) (vs := [code.v, words.v, .int .i64 ((Lk : Nat) : Int), .int .i64 ((R : Nat) : Int)]) ti_28 rfl rfl rfl rfl rfl) rfl rfl fun a10 h10 => wl_ex (x_call h10 bd_31 rfl rfl rfl rfl rfl (link_s code words ((Lk : Nat) : Int) ((R : Nat) : Int) _ (h10.sh.at 1 rfl) (h10.sh.at 2 rfl) hok hr hs)) (wanted_none rfl _) ?_; clear h8
 rintro a11 w11 ⟨_, ⟨rfl, hs11⟩, hf11⟩
 have h11 : St 128 (fun _ => False) W a11 w11 _ _ := ⟨hf11, h10.sh.call0 hs11⟩
 clear hf11 hs11
 clear h10
 refine wms 1 h11 rfl fun a12 h12 => wv h12 (r_extract rfl rfl rfl) rfl rfl fun a13 h13 => wv h13 (r_extract rfl rfl rfl) rfl rfl fun a14 h14 => wl_ex (x_alloc h14 ti_28 rfl rfl rfl) (wanted_none rfl _) ?_; clear h11 h12 h13
 rintro a15 w15 ⟨b15, h15⟩; clear h14
 refine wl_ex (x_alloc h15 ti_31 rfl rfl rfl) (wanted_none rfl _) ?_
 rintro a16 w16 ⟨b16, h16⟩; clear h15
 refine wl_ex (x_stb (i := 1) (vs := [(.slice none 0 0), (.slice none 0 0), .int .i64 0, .int .i64 0]) (cs' := [(.slice none 0 0), (.slice none 0 0), .int .i64 0, .int .i64 0]) h16 ti_28 rfl rfl rfl rfl rfl rfl rfl (allOne_cons ((Sh.nilAt (α := Ls Ins) h16.sh)).one (allOne_cons ((Sh.nilAt (α := Int) h16.sh)).one (allOne_cons rfl (allOne_cons rfl allOne_nil)))) (Nat.le_of_ble_eq_true rfl) rfl) (wanted_none rfl _) ?_
 rintro a17 w17 h17
 clear h16
 refine wl_ex (x_stb (i := 0) (vs := [.int .i64 1, .int .i64 0, .int .i64 0]) (cs' := [.int .i64 1, .int .i64 0, .int .i64 0]) h17 ti_31 rfl rfl rfl rfl rfl rfl rfl (allOne_cons rfl (allOne_cons rfl (allOne_cons rfl allOne_nil))) (Nat.le_of_ble_eq_true rfl) rfl) (wanted_none rfl _) ?_
 rintro a18 w18 h18
 clear h17
 refine wpList_nil <| hK9 _ _ <| wp_seq_k fun K19 hK19 => wp_region_lit <| wv h18 (r_ldbw (i := 2) (vs := [code.v, words.v, .int .i64 ((Lk : Nat) : Int), .int .i64 ((R : Nat) : Int)]) ti_28 rfl rfl rfl rfl rfl) rfl rfl fun a20 h20 => wl_ex (x_call h20 bd_20 rfl rfl rfl rfl rfl (refCheck_c (code := code) (words := words) (locks := ((Lk : Nat) : Int)) (regs := ((R : Nat) : Int)) (h20.sh.at 3 rfl) (h20.sh.at 4 rfl))) (wanted_none rfl _) ?_; clear h18
 rintro a21 w21 ⟨_, ⟨rfl, hs21⟩, hf21⟩
 have h21 : St 128 (fun _ => False) W a21 w21 _ _ := ⟨hf21, h20.sh.call0 hs21⟩
 clear hf21 hs21
 clear h20
 refine wl_ex (x_alloc h21 ti_31 rfl rfl rfl) (wanted_none rfl _) ?_
 rintro a22 w22 ⟨b22, h22⟩; clear h21
 refine wl_ex (x_stb (i := 0) (vs := [.int .i64 ((checkG (pgOf code words ((Lk : Nat) : Int) ((R : Nat) : Int))).code), .int .i64 ((checkG (pgOf code words ((Lk : Nat) : Int) ((R : Nat) : Int))).thread), .int .i64 ((checkG (pgOf code words ((Lk : Nat) : Int) ((R : Nat) : Int))).at_)]) (cs' := [.int .i64 ((checkG (pgOf code words ((Lk : Nat) : Int) ((R : Nat) : Int))).code), .int .i64 ((checkG (pgOf code words ((Lk : Nat) : Int) ((R : Nat) : Int))).thread), .int .i64 ((checkG (pgOf code words ((Lk : Nat) : Int) ((R : Nat) : Int))).at_)]) h22 ti_31 rfl rfl rfl rfl rfl rfl rfl (allOne_cons rfl (allOne_cons rfl (allOne_cons rfl allOne_nil))) (Nat.le_of_ble_eq_true rfl) rfl) (wanted_none rfl _) ?_
 rintro a23 w23 h23
 clear h22
 refine wpList_nil <| hK19 _ _ <| wp_seq_k fun K24 hK24 => wp_seq_k fun K25 hK25 => wp_region_lit <| wv h23 (r_fieldB (r := 0) fl_31_0 rfl rfl rfl) rfl rfl fun a26 h26 => wv h26 (r_ldb (i := 0) ti_22 rfl rfl rfl rfl) rfl rfl fun a27 h27 => wv h27 (r_neqI (p := (checkG (pgOf code words ((Lk : Nat) : Int) ((R : Nat) : Int))).code) (q := 0) rfl rfl rfl) rfl rfl fun a28 h28 => wpList_nil <| hK25 _ _ <| x_condF h28 rfl (by rw [show checkG (pgOf code words ((Lk : Nat) : Int) ((R : Nat) : Int)) = ⟨0, 0, 0⟩ from hz]; rfl) ?_; clear h23 h26 h27
 refine wp_skip <| hK24 _ _ <| wp_seq_k fun K29 hK29 => wp_seq_k fun K30 hK30 => wp_region_lit <| wv h28 (r_fieldB (r := 0) fl_31_0 rfl rfl rfl) rfl rfl fun a31 h31 => wv h31 (r_ldb (i := 1) ti_22 rfl rfl rfl rfl) rfl rfl fun a32 h32 => wv h32 (r_neqN (p := 1) (q := 0) rfl rfl rfl) rfl rfl fun a33 h33 => wpList_nil <| hK30 _ _ <| x_condT h33 rfl (by decide) <| wp_seq_k fun K34 hK34 => wp_region_lit <| wv h33 (r_fieldB (r := 3) fl_28_3 rfl rfl rfl) rfl rfl fun a35 h35 => ?_; clear h28 h31 h32 h33
 refine wv h35 (r_ldb (i := 3) ti_3 rfl rfl rfl rfl) rfl rfl fun a36 h36 => wv h36 (r_gtrN (p := R) (q := 6) rfl rfl rfl) rfl rfl fun a37 h37 => wms 1 h37 rfl fun a38 h38 => ?_; clear h35 h36 h37
 rcases Bool.eq_false_or_eq_true (decide (6 < R)) with hb39 | hb39
 ·
  have hp39 : 6 < R := of_decide_eq_true hb39
  refine wl_skip h38 (wanted_no h38.fr rfl rfl rfl rfl hb39) rfl rfl fun a40 h40 => wl_skip h40 (wanted_no h40.fr rfl rfl rfl rfl hb39) rfl rfl fun a41 h41 => wl_skip h41 (wanted_no h41.fr rfl rfl rfl rfl hb39) rfl rfl fun a42 h42 => wl_skip h42 (wanted_no h42.fr rfl rfl rfl rfl hb39) rfl rfl fun a43 h43 => wl_skip h43 (wanted_no h43.fr rfl rfl rfl rfl hb39) rfl rfl fun a44 h44 => wl_skip h44 (wanted_no h44.fr rfl rfl rfl rfl hb39) rfl rfl fun a45 h45 => wl_skip h45 (wanted_no h45.fr rfl rfl rfl rfl hb39) rfl rfl fun a46 h46 => wv h46 (r_pickT rfl rfl hb39 rfl) rfl rfl fun a47 h47 => wms 1 h47 rfl fun a48 h48 => wl_skip h48 (wanted_no h48.fr rfl rfl rfl rfl rfl) rfl rfl fun a49 h49 => wl_skip h49 (wanted_no h49.fr rfl rfl rfl rfl rfl) rfl rfl fun a50 h50 => wl_skip h50 (wanted_no h50.fr rfl rfl rfl rfl rfl) rfl rfl fun a51 h51 => wv h51 (r_pickT rfl rfl rfl rfl) rfl rfl fun a52 h52 => wms 1 h52 rfl fun a53 h53 => ?_; clear h38 h40 h41 h42 h43 h44 h45 h46 h47 h48 h49 h50 h51 h52
  refine wpList_nil <| hK34 _ _ ?_
  have h54 : St 128 (fun _ => False) W a53 w23 [(2, .bool true)] [.blk b22 31 [.int .i64 ((checkG (pgOf code words ((Lk : Nat) : Int) ((R : Nat) : Int))).code), .int .i64 ((checkG (pgOf code words ((Lk : Nat) : Int) ((R : Nat) : Int))).thread), .int .i64 ((checkG (pgOf code words ((Lk : Nat) : Int) ((R : Nat) : Int))).at_)], .blk b16 31 [.int .i64 1, .int .i64 0, .int .i64 0], .blk b15 28 [(.slice none 0 0), (.slice none 0 0), .int .i64 0, .int .i64 0], .blk b3 28 [code.v, words.v, .int .i64 ((Lk : Nat) : Int), .int .i64 ((R : Nat) : Int)], .at_ code, .at_ words] := h53.nrm ⟨rfl, trivial⟩ [0, 1, 2, 3, 4, 5] (by decide) ⟨rfl, rfl, rfl, rfl, rfl, rfl, trivial⟩
  clear h53
  refine wp_ret ?_
  try simp only [Exit.then, Exit.inBlock]
  refine x_ret1 (fn := Try.f11) (t := 2) rfl h54 rfl ?_
  first | exact ⟨rfl, (h54.sh.sel [] (by decide) trivial)⟩ | exact ⟨congrArg _ (decide_eq_true rfl), (h54.sh.sel [] (by decide) trivial)⟩
 have hp39 : ¬ (6 < R) := of_decide_eq_false hb39
 refine wl_val h38 (r_fieldB (r := 1) fl_28_1 rfl rfl rfl) (wanted_yes h38.fr rfl rfl rfl rfl hb39) rfl rfl fun a55 h55 => wl_val h55 (r_ldb (i := 3) ti_24 rfl rfl rfl rfl) (wanted_yes h55.fr rfl rfl rfl rfl hb39) rfl rfl fun a56 h56 => ?_; clear h38 h55
 have hl57 : words.l.length ≤ 140737488355328 := (h56.sh.at 5 rfl).len
 refine wl_val h56 (r_len (s := words) (n := words.l.length) sl_24 rfl rfl (fun w h => (h.at 5 rfl)) rfl) (wanted_yes h56.fr rfl rfl rfl rfl hb39) rfl rfl fun a58 h58 => wl_val h58 (r_fieldB (r := 2) fl_28_2 rfl rfl rfl) (wanted_yes h58.fr rfl rfl rfl rfl hb39) rfl rfl fun a59 h59 => wl_val h59 (r_ldb (i := 3) ti_3 rfl rfl rfl rfl) (wanted_yes h59.fr rfl rfl rfl rfl hb39) rfl rfl fun a60 h60 => wl_val h60 (r_addN (p := words.l.length) (q := Lk) rfl rfl rfl (show words.l.length + Lk < 9223372036854775808 from (by omega))) (wanted_yes h60.fr rfl rfl rfl rfl hb39) rfl rfl fun a61 h61 => wl_val h61 (r_gtrN (p := words.l.length + Lk) (q := 64) rfl rfl rfl) (wanted_yes h61.fr rfl rfl rfl rfl hb39) rfl rfl fun a62 h62 => wv h62 (r_pickF rfl rfl hb39 rfl) rfl rfl fun a63 h63 => wms 1 h63 rfl fun a64 h64 => ?_; clear h56 h58 h59 h60 h61 h62 h63
 rcases Bool.eq_false_or_eq_true (decide (64 < words.l.length + Lk)) with hb65 | hb65
 ·
  have hp65 : 64 < words.l.length + Lk := of_decide_eq_true hb65
  refine wl_skip h64 (wanted_no h64.fr rfl rfl rfl rfl hb65) rfl rfl fun a66 h66 => wl_skip h66 (wanted_no h66.fr rfl rfl rfl rfl hb65) rfl rfl fun a67 h67 => wl_skip h67 (wanted_no h67.fr rfl rfl rfl rfl hb65) rfl rfl fun a68 h68 => wv h68 (r_pickT rfl rfl hb65 rfl) rfl rfl fun a69 h69 => wms 1 h69 rfl fun a70 h70 => wpList_nil <| hK34 _ _ ?_; clear h64 h66 h67 h68 h69
  have h71 : St 128 (fun _ => False) W a70 w23 [(2, .bool true)] [.blk b22 31 [.int .i64 ((checkG (pgOf code words ((Lk : Nat) : Int) ((R : Nat) : Int))).code), .int .i64 ((checkG (pgOf code words ((Lk : Nat) : Int) ((R : Nat) : Int))).thread), .int .i64 ((checkG (pgOf code words ((Lk : Nat) : Int) ((R : Nat) : Int))).at_)], .blk b16 31 [.int .i64 1, .int .i64 0, .int .i64 0], .blk b15 28 [(.slice none 0 0), (.slice none 0 0), .int .i64 0, .int .i64 0], .blk b3 28 [code.v, words.v, .int .i64 ((Lk : Nat) : Int), .int .i64 ((R : Nat) : Int)], .at_ code, .at_ words] := h70.nrm ⟨rfl, trivial⟩ [0, 1, 2, 3, 4, 5] (by decide) ⟨rfl, rfl, rfl, rfl, rfl, rfl, trivial⟩
  clear h70
  refine wp_ret ?_
  try simp only [Exit.then, Exit.inBlock]
  refine x_ret1 (fn := Try.f11) (t := 2) rfl h71 rfl ?_
  first | exact ⟨rfl, (h71.sh.sel [] (by decide) trivial)⟩ | exact ⟨congrArg _ (decide_eq_true rfl), (h71.sh.sel [] (by decide) trivial)⟩
 have hp65 : ¬ (64 < words.l.length + Lk) := of_decide_eq_false hb65
 refine wl_val h64 (r_fieldB (r := 0) fl_31_0 rfl rfl rfl) (wanted_yes h64.fr rfl rfl rfl rfl hb65) rfl rfl fun a72 h72 => wl_val h72 (r_ldb (i := 1) ti_22 rfl rfl rfl rfl) (wanted_yes h72.fr rfl rfl rfl rfl hb65) rfl rfl fun a73 h73 => wl_val h73 (r_eqlN (p := 1) (q := 1) rfl rfl rfl) (wanted_yes h73.fr rfl rfl rfl rfl hb65) rfl rfl fun a74 h74 => wv h74 (r_pickF rfl rfl hb65 rfl) rfl rfl fun a75 h75 => wms 1 h75 rfl fun a76 h76 => wpList_nil <| hK34 _ _ ?_; clear h64 h72 h73 h74 h75
 have h77 : St 128 (fun _ => False) W a76 w23 [(2, .bool (decide (1 = 1)))] [.blk b22 31 [.int .i64 ((checkG (pgOf code words ((Lk : Nat) : Int) ((R : Nat) : Int))).code), .int .i64 ((checkG (pgOf code words ((Lk : Nat) : Int) ((R : Nat) : Int))).thread), .int .i64 ((checkG (pgOf code words ((Lk : Nat) : Int) ((R : Nat) : Int))).at_)], .blk b16 31 [.int .i64 1, .int .i64 0, .int .i64 0], .blk b15 28 [(.slice none 0 0), (.slice none 0 0), .int .i64 0, .int .i64 0], .blk b3 28 [code.v, words.v, .int .i64 ((Lk : Nat) : Int), .int .i64 ((R : Nat) : Int)], .at_ code, .at_ words] := h76.nrm ⟨rfl, trivial⟩ [0, 1, 2, 3, 4, 5] (by decide) ⟨rfl, rfl, rfl, rfl, rfl, rfl, trivial⟩
 clear h76
 refine wp_ret ?_
 try simp only [Exit.then, Exit.inBlock]
 refine x_ret1 (fn := Try.f11) (t := 2) rfl h77 rfl ?_
 first | exact ⟨rfl, (h77.sh.sel [] (by decide) trivial)⟩ | exact ⟨congrArg _ (decide_eq_true rfl), (h77.sh.sel [] (by decide) trivial)⟩

set_option maxRecDepth 100000 in
set_option maxHeartbeats 4000000 in
theorem spinHolds_l (code : Ls (Ls Ins)) (words : Ls Int) (Lk R k : Nat) (W : World) (hcode : code.At W) (hwords : words.At W) (hv : vastG (code.l.map (·.l)) words.l = false) (hok : OkPg (pgN code words Lk R)) (hr : (R : Int) ≤ 6) (hs : (words.l.length : Int) + (Lk : Int) ≤ 64) (hk : k < code.l.length) (h400 : 400 < (linkL words.l.length (nth code.l k).l).length) (hbef : ∀ j, j < k → (linkL words.l.length (nth code.l j).l).length ≤ 400) :
    Rets Try.prog 11 [.agg #[code.v, words.v, .int .i64 ((Lk : Nat) : Int), .int .i64 ((R : Nat) : Int)]] W (fun v w' => v = .bool true ∧ Sh0 W w' []) := by
 have hz := checkG_ok hok
 obtain ⟨hl1, hl2, hl3, hl4', hl5, hl6, hl7⟩ := ok_lenN hok
 refine x_enter (N := 128) Try.func11 rfl Try.ntmps11 (Nat.le_of_ble_eq_true rfl) fun a1 hf1 => ?_
 have h1 : St 128 (fun _ => False) W a1 W [(0, .agg #[code.v, words.v, .int .i64 ((Lk : Nat) : Int), .int .i64 ((R : Nat) : Int)])] [.at_ code, .at_ words] := ⟨hf1.sub ⟨rfl, trivial⟩, Sh0.ext2 hcode hwords⟩
 clear hf1
 refine wp_seq_k fun K2 hK2 => wp_region_lit <| wl_ex (x_box (cs := [code.v, words.v, .int .i64 ((Lk : Nat) : Int), .int .i64 ((R : Nat) : Int)]) h1 rfl rfl rfl rfl rfl) (wanted_none rfl _) ?_
 rintro a3 w3 ⟨b3, h3⟩; clear h1
 refine wms 1 h3 rfl fun a4 h4 => wpList_nil <| hK2 _ _ <| wp_seq_k fun K5 hK5 => wp_seq_k fun K6 hK6 => wp_region_lit <| wv h4 (r_ldbw (i := 0) (vs := [code.v, words.v, .int .i64 ((Lk : Nat) : Int), .int .i64 ((R : Nat) : Int)]) ti_28 rfl rfl rfl rfl rfl) rfl rfl fun a7 h7 => wl_ex (x_call h7 bd_18 rfl rfl rfl rfl rfl (vast_c (code := code) (words := words) (locks := ((Lk : Nat) : Int)) (regs := ((R : Nat) : Int)) (h7.sh.at 1 rfl) (h7.sh.at 2 rfl))) (wanted_none rfl _) ?_; clear h3 h4
 rintro a8 w8 ⟨_, ⟨rfl, hs8⟩, hf8⟩
 have h8 : St 128 (fun _ => False) W a8 w8 _ _ := ⟨hf8, h7.sh.call0 hs8⟩
 clear hf8 hs8
 clear h7
 refine wpList_nil <| hK6 _ _ <| x_condF h8 rfl hv <| wp_skip <| hK5 _ _ <| wp_seq_k fun K9 hK9 => wp_region_lit <| wv h8 (r_ldbw (i := 0) (vs := [code.v, words.v, .int .i64 ((Lk : Nat) : Int), .int .i64 ((R : Nat) : Int)]) ti_28 rfl rfl rfl rfl rfl) rfl rfl fun a10 h10 => wl_ex (x_call h10 bd_31 rfl rfl rfl rfl rfl (link_l code words ((Lk : Nat) : Int) ((R : Nat) : Int) k _ (h10.sh.at 1 rfl) (h10.sh.at 2 rfl) hok hr hs hk h400 hbef)) (wanted_none rfl _) ?_; clear h8
 rintro a11 w11 ⟨_, ⟨rfl, hs11⟩, hf11⟩
 have h11 : St 128 (fun _ => False) W a11 w11 _ _ := ⟨hf11, h10.sh.call0 hs11⟩
 clear hf11 hs11
 clear h10
 refine wms 1 h11 rfl fun a12 h12 => wv h12 (r_extract rfl rfl rfl) rfl rfl fun a13 h13 => wv h13 (r_extract rfl rfl rfl) rfl rfl fun a14 h14 => wl_ex (x_alloc h14 ti_28 rfl rfl rfl) (wanted_none rfl _) ?_; clear h11 h12 h13
 rintro a15 w15 ⟨b15, h15⟩; clear h14
 refine wl_ex (x_alloc h15 ti_31 rfl rfl rfl) (wanted_none rfl _) ?_
 rintro a16 w16 ⟨b16, h16⟩; clear h15
 refine wl_ex (x_stb (i := 1) (vs := [(.slice none 0 0), (.slice none 0 0), .int .i64 0, .int .i64 0]) (cs' := [(.slice none 0 0), (.slice none 0 0), .int .i64 0, .int .i64 0]) h16 ti_28 rfl rfl rfl rfl rfl rfl rfl (allOne_cons ((Sh.nilAt (α := Ls Ins) h16.sh)).one (allOne_cons ((Sh.nilAt (α := Int) h16.sh)).one (allOne_cons rfl (allOne_cons rfl allOne_nil)))) (Nat.le_of_ble_eq_true rfl) rfl) (wanted_none rfl _) ?_
 rintro a17 w17 h17
 clear h16
 refine wl_ex (x_stb (i := 0) (vs := [.int .i64 1, .int .i64 ((k : Nat) : Int), .int .i64 0]) (cs' := [.int .i64 1, .int .i64 ((k : Nat) : Int), .int .i64 0]) h17 ti_31 rfl rfl rfl rfl rfl rfl rfl (allOne_cons rfl (allOne_cons rfl (allOne_cons rfl allOne_nil))) (Nat.le_of_ble_eq_true rfl) rfl) (wanted_none rfl _) ?_
 rintro a18 w18 h18
 clear h17
 refine wpList_nil <| hK9 _ _ <| wp_seq_k fun K19 hK19 => wp_region_lit <| wv h18 (r_ldbw (i := 2) (vs := [code.v, words.v, .int .i64 ((Lk : Nat) : Int), .int .i64 ((R : Nat) : Int)]) ti_28 rfl rfl rfl rfl rfl) rfl rfl fun a20 h20 => wl_ex (x_call h20 bd_20 rfl rfl rfl rfl rfl (refCheck_c (code := code) (words := words) (locks := ((Lk : Nat) : Int)) (regs := ((R : Nat) : Int)) (h20.sh.at 3 rfl) (h20.sh.at 4 rfl))) (wanted_none rfl _) ?_; clear h18
 rintro a21 w21 ⟨_, ⟨rfl, hs21⟩, hf21⟩
 have h21 : St 128 (fun _ => False) W a21 w21 _ _ := ⟨hf21, h20.sh.call0 hs21⟩
 clear hf21 hs21
 clear h20
 refine wl_ex (x_alloc h21 ti_31 rfl rfl rfl) (wanted_none rfl _) ?_
 rintro a22 w22 ⟨b22, h22⟩; clear h21
 refine wl_ex (x_stb (i := 0) (vs := [.int .i64 ((checkG (pgOf code words ((Lk : Nat) : Int) ((R : Nat) : Int))).code), .int .i64 ((checkG (pgOf code words ((Lk : Nat) : Int) ((R : Nat) : Int))).thread), .int .i64 ((checkG (pgOf code words ((Lk : Nat) : Int) ((R : Nat) : Int))).at_)]) (cs' := [.int .i64 ((checkG (pgOf code words ((Lk : Nat) : Int) ((R : Nat) : Int))).code), .int .i64 ((checkG (pgOf code words ((Lk : Nat) : Int) ((R : Nat) : Int))).thread), .int .i64 ((checkG (pgOf code words ((Lk : Nat) : Int) ((R : Nat) : Int))).at_)]) h22 ti_31 rfl rfl rfl rfl rfl rfl rfl (allOne_cons rfl (allOne_cons rfl (allOne_cons rfl allOne_nil))) (Nat.le_of_ble_eq_true rfl) rfl) (wanted_none rfl _) ?_
 rintro a23 w23 h23
 clear h22
 refine wpList_nil <| hK19 _ _ <| wp_seq_k fun K24 hK24 => wp_seq_k fun K25 hK25 => wp_region_lit <| wv h23 (r_fieldB (r := 0) fl_31_0 rfl rfl rfl) rfl rfl fun a26 h26 => wv h26 (r_ldb (i := 0) ti_22 rfl rfl rfl rfl) rfl rfl fun a27 h27 => wv h27 (r_neqI (p := (checkG (pgOf code words ((Lk : Nat) : Int) ((R : Nat) : Int))).code) (q := 0) rfl rfl rfl) rfl rfl fun a28 h28 => wpList_nil <| hK25 _ _ <| x_condF h28 rfl (by rw [show checkG (pgOf code words ((Lk : Nat) : Int) ((R : Nat) : Int)) = ⟨0, 0, 0⟩ from hz]; rfl) ?_; clear h23 h26 h27
 refine wp_skip <| hK24 _ _ <| wp_seq_k fun K29 hK29 => wp_seq_k fun K30 hK30 => wp_region_lit <| wv h28 (r_fieldB (r := 0) fl_31_0 rfl rfl rfl) rfl rfl fun a31 h31 => wv h31 (r_ldb (i := 1) ti_22 rfl rfl rfl rfl) rfl rfl fun a32 h32 => wv h32 (r_neqN (p := 1) (q := 0) rfl rfl rfl) rfl rfl fun a33 h33 => wpList_nil <| hK30 _ _ <| x_condT h33 rfl (by decide) <| wp_seq_k fun K34 hK34 => wp_region_lit <| wv h33 (r_fieldB (r := 3) fl_28_3 rfl rfl rfl) rfl rfl fun a35 h35 => ?_; clear h28 h31 h32 h33
 refine wv h35 (r_ldb (i := 3) ti_3 rfl rfl rfl rfl) rfl rfl fun a36 h36 => wv h36 (r_gtrN (p := R) (q := 6) rfl rfl rfl) rfl rfl fun a37 h37 => wms 1 h37 rfl fun a38 h38 => ?_; clear h35 h36 h37
 rcases Bool.eq_false_or_eq_true (decide (6 < R)) with hb39 | hb39
 ·
  have hp39 : 6 < R := of_decide_eq_true hb39
  refine wl_skip h38 (wanted_no h38.fr rfl rfl rfl rfl hb39) rfl rfl fun a40 h40 => wl_skip h40 (wanted_no h40.fr rfl rfl rfl rfl hb39) rfl rfl fun a41 h41 => wl_skip h41 (wanted_no h41.fr rfl rfl rfl rfl hb39) rfl rfl fun a42 h42 => wl_skip h42 (wanted_no h42.fr rfl rfl rfl rfl hb39) rfl rfl fun a43 h43 => wl_skip h43 (wanted_no h43.fr rfl rfl rfl rfl hb39) rfl rfl fun a44 h44 => wl_skip h44 (wanted_no h44.fr rfl rfl rfl rfl hb39) rfl rfl fun a45 h45 => wl_skip h45 (wanted_no h45.fr rfl rfl rfl rfl hb39) rfl rfl fun a46 h46 => wv h46 (r_pickT rfl rfl hb39 rfl) rfl rfl fun a47 h47 => wms 1 h47 rfl fun a48 h48 => wl_skip h48 (wanted_no h48.fr rfl rfl rfl rfl rfl) rfl rfl fun a49 h49 => wl_skip h49 (wanted_no h49.fr rfl rfl rfl rfl rfl) rfl rfl fun a50 h50 => wl_skip h50 (wanted_no h50.fr rfl rfl rfl rfl rfl) rfl rfl fun a51 h51 => wv h51 (r_pickT rfl rfl rfl rfl) rfl rfl fun a52 h52 => wms 1 h52 rfl fun a53 h53 => ?_; clear h38 h40 h41 h42 h43 h44 h45 h46 h47 h48 h49 h50 h51 h52
  refine wpList_nil <| hK34 _ _ ?_
  have h54 : St 128 (fun _ => False) W a53 w23 [(2, .bool true)] [.blk b22 31 [.int .i64 ((checkG (pgOf code words ((Lk : Nat) : Int) ((R : Nat) : Int))).code), .int .i64 ((checkG (pgOf code words ((Lk : Nat) : Int) ((R : Nat) : Int))).thread), .int .i64 ((checkG (pgOf code words ((Lk : Nat) : Int) ((R : Nat) : Int))).at_)], .blk b16 31 [.int .i64 1, .int .i64 ((k : Nat) : Int), .int .i64 0], .blk b15 28 [(.slice none 0 0), (.slice none 0 0), .int .i64 0, .int .i64 0], .blk b3 28 [code.v, words.v, .int .i64 ((Lk : Nat) : Int), .int .i64 ((R : Nat) : Int)], .at_ code, .at_ words] := h53.nrm ⟨rfl, trivial⟩ [0, 1, 2, 3, 4, 5] (by decide) ⟨rfl, rfl, rfl, rfl, rfl, rfl, trivial⟩
  clear h53
  refine wp_ret ?_
  try simp only [Exit.then, Exit.inBlock]
  refine x_ret1 (fn := Try.f11) (t := 2) rfl h54 rfl ?_
  first | exact ⟨rfl, (h54.sh.sel [] (by decide) trivial)⟩ | exact ⟨congrArg _ (decide_eq_true rfl), (h54.sh.sel [] (by decide) trivial)⟩
 have hp39 : ¬ (6 < R) := of_decide_eq_false hb39
 refine wl_val h38 (r_fieldB (r := 1) fl_28_1 rfl rfl rfl) (wanted_yes h38.fr rfl rfl rfl rfl hb39) rfl rfl fun a55 h55 => wl_val h55 (r_ldb (i := 3) ti_24 rfl rfl rfl rfl) (wanted_yes h55.fr rfl rfl rfl rfl hb39) rfl rfl fun a56 h56 => ?_; clear h38 h55
 have hl57 : words.l.length ≤ 140737488355328 := (h56.sh.at 5 rfl).len
 refine wl_val h56 (r_len (s := words) (n := words.l.length) sl_24 rfl rfl (fun w h => (h.at 5 rfl)) rfl) (wanted_yes h56.fr rfl rfl rfl rfl hb39) rfl rfl fun a58 h58 => wl_val h58 (r_fieldB (r := 2) fl_28_2 rfl rfl rfl) (wanted_yes h58.fr rfl rfl rfl rfl hb39) rfl rfl fun a59 h59 => wl_val h59 (r_ldb (i := 3) ti_3 rfl rfl rfl rfl) (wanted_yes h59.fr rfl rfl rfl rfl hb39) rfl rfl fun a60 h60 => wl_val h60 (r_addN (p := words.l.length) (q := Lk) rfl rfl rfl (show words.l.length + Lk < 9223372036854775808 from (by omega))) (wanted_yes h60.fr rfl rfl rfl rfl hb39) rfl rfl fun a61 h61 => wl_val h61 (r_gtrN (p := words.l.length + Lk) (q := 64) rfl rfl rfl) (wanted_yes h61.fr rfl rfl rfl rfl hb39) rfl rfl fun a62 h62 => wv h62 (r_pickF rfl rfl hb39 rfl) rfl rfl fun a63 h63 => wms 1 h63 rfl fun a64 h64 => ?_; clear h56 h58 h59 h60 h61 h62 h63
 rcases Bool.eq_false_or_eq_true (decide (64 < words.l.length + Lk)) with hb65 | hb65
 ·
  have hp65 : 64 < words.l.length + Lk := of_decide_eq_true hb65
  refine wl_skip h64 (wanted_no h64.fr rfl rfl rfl rfl hb65) rfl rfl fun a66 h66 => wl_skip h66 (wanted_no h66.fr rfl rfl rfl rfl hb65) rfl rfl fun a67 h67 => wl_skip h67 (wanted_no h67.fr rfl rfl rfl rfl hb65) rfl rfl fun a68 h68 => wv h68 (r_pickT rfl rfl hb65 rfl) rfl rfl fun a69 h69 => wms 1 h69 rfl fun a70 h70 => wpList_nil <| hK34 _ _ ?_; clear h64 h66 h67 h68 h69
  have h71 : St 128 (fun _ => False) W a70 w23 [(2, .bool true)] [.blk b22 31 [.int .i64 ((checkG (pgOf code words ((Lk : Nat) : Int) ((R : Nat) : Int))).code), .int .i64 ((checkG (pgOf code words ((Lk : Nat) : Int) ((R : Nat) : Int))).thread), .int .i64 ((checkG (pgOf code words ((Lk : Nat) : Int) ((R : Nat) : Int))).at_)], .blk b16 31 [.int .i64 1, .int .i64 ((k : Nat) : Int), .int .i64 0], .blk b15 28 [(.slice none 0 0), (.slice none 0 0), .int .i64 0, .int .i64 0], .blk b3 28 [code.v, words.v, .int .i64 ((Lk : Nat) : Int), .int .i64 ((R : Nat) : Int)], .at_ code, .at_ words] := h70.nrm ⟨rfl, trivial⟩ [0, 1, 2, 3, 4, 5] (by decide) ⟨rfl, rfl, rfl, rfl, rfl, rfl, trivial⟩
  clear h70
  refine wp_ret ?_
  try simp only [Exit.then, Exit.inBlock]
  refine x_ret1 (fn := Try.f11) (t := 2) rfl h71 rfl ?_
  first | exact ⟨rfl, (h71.sh.sel [] (by decide) trivial)⟩ | exact ⟨congrArg _ (decide_eq_true rfl), (h71.sh.sel [] (by decide) trivial)⟩
 have hp65 : ¬ (64 < words.l.length + Lk) := of_decide_eq_false hb65
 refine wl_val h64 (r_fieldB (r := 0) fl_31_0 rfl rfl rfl) (wanted_yes h64.fr rfl rfl rfl rfl hb65) rfl rfl fun a72 h72 => wl_val h72 (r_ldb (i := 1) ti_22 rfl rfl rfl rfl) (wanted_yes h72.fr rfl rfl rfl rfl hb65) rfl rfl fun a73 h73 => wl_val h73 (r_eqlN (p := 1) (q := 1) rfl rfl rfl) (wanted_yes h73.fr rfl rfl rfl rfl hb65) rfl rfl fun a74 h74 => wv h74 (r_pickF rfl rfl hb65 rfl) rfl rfl fun a75 h75 => wms 1 h75 rfl fun a76 h76 => wpList_nil <| hK34 _ _ ?_; clear h64 h72 h73 h74 h75
 have h77 : St 128 (fun _ => False) W a76 w23 [(2, .bool (decide (1 = 1)))] [.blk b22 31 [.int .i64 ((checkG (pgOf code words ((Lk : Nat) : Int) ((R : Nat) : Int))).code), .int .i64 ((checkG (pgOf code words ((Lk : Nat) : Int) ((R : Nat) : Int))).thread), .int .i64 ((checkG (pgOf code words ((Lk : Nat) : Int) ((R : Nat) : Int))).at_)], .blk b16 31 [.int .i64 1, .int .i64 ((k : Nat) : Int), .int .i64 0], .blk b15 28 [(.slice none 0 0), (.slice none 0 0), .int .i64 0, .int .i64 0], .blk b3 28 [code.v, words.v, .int .i64 ((Lk : Nat) : Int), .int .i64 ((R : Nat) : Int)], .at_ code, .at_ words] := h76.nrm ⟨rfl, trivial⟩ [0, 1, 2, 3, 4, 5] (by decide) ⟨rfl, rfl, rfl, rfl, rfl, rfl, trivial⟩
 clear h76
 refine wp_ret ?_
 try simp only [Exit.then, Exit.inBlock]
 refine x_ret1 (fn := Try.f11) (t := 2) rfl h77 rfl ?_
 first | exact ⟨rfl, (h77.sh.sel [] (by decide) trivial)⟩ | exact ⟨congrArg _ (decide_eq_true rfl), (h77.sh.sel [] (by decide) trivial)⟩

theorem spinHolds_any (code : Ls (Ls Ins)) (words : Ls Int) (locks regs : Int) (W : World) (hcode : code.At W) (hwords : words.At W) : Rets Try.prog 11 [.agg #[code.v, words.v, .int .i64 locks, .int .i64 regs]] W (fun v w' => v = .bool true ∧ Sh0 W w' []) := by
  cases hv : vastG (code.l.map (·.l)) words.l with
  | true => exact spinHolds_v code words locks regs W hcode hwords hv
  | false =>
    by_cases hok : OkPg (pgOf code words locks regs)
    · obtain ⟨Lk, rfl⟩ := Int.eq_ofNat_of_zero_le hok.locks.1
      obtain ⟨R, rfl⟩ := Int.eq_ofNat_of_zero_le (show 0 ≤ regs by have := hok.regs.1; have e : (pgOf code words (Lk : Int) regs).regs = regs := rfl; omega)
      by_cases hr : (R : Int) ≤ 6
      · by_cases hs : (words.l.length : Int) + (Lk : Int) ≤ 64
        · by_cases hsh : ∀ j, j < code.l.length → (linkL words.l.length (nth code.l j).l).length ≤ 400
          · exact spinHolds_k code words Lk R W hcode hwords hv hok hr hs hsh
          · have hex : ∃ k, k < code.l.length ∧ 400 < (linkL words.l.length (nth code.l k).l).length := by
              apply Classical.byContradiction
              intro hn
              exact hsh fun j hj => Nat.le_of_not_lt fun h4 => hn ⟨j, hj, h4⟩
            have least : ∀ n, (∃ k, k < n ∧ k < code.l.length ∧ 400 < (linkL words.l.length (nth code.l k).l).length) → ∃ k, k < code.l.length ∧ 400 < (linkL words.l.length (nth code.l k).l).length ∧ ∀ j, j < k → (linkL words.l.length (nth code.l j).l).length ≤ 400 := by
              intro n
              induction n with
              | zero => rintro ⟨k, hk, _⟩; omega
              | succ n ih =>
                rintro ⟨k, hk, h1, h2⟩
                by_cases hb : ∃ j, j < k ∧ j < code.l.length ∧ 400 < (linkL words.l.length (nth code.l j).l).length
                · obtain ⟨j, hj, hj2⟩ := hb
                  exact ih ⟨j, by omega, hj2⟩
                · exact ⟨k, h1, h2, fun j hj => Nat.le_of_not_lt fun h4 => hb ⟨j, hj, by omega, h4⟩⟩
            obtain ⟨k0, hk0⟩ := hex
            obtain ⟨k, hk, h4, hb⟩ := least (k0 + 1) ⟨k0, by omega, hk0⟩
            exact spinHolds_l code words Lk R k W hcode hwords hv hok hr hs hk h4 hb
        · exact spinHolds_s code words Lk R W hcode hwords hv hok hr (by omega)
      · exact spinHolds_r code words Lk R W hcode hwords hv hok (by omega)
    · exact spinHolds_b code words locks regs W hcode hwords hv (fun h => hok (checkG_code_pos.1 h))
end Go.Proofs.Ytanhbpofhebbaaa
