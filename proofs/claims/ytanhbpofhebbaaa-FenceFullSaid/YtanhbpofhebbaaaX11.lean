/-
  Contracts of functions of this program and of the references, each walked once.
-/
import Derived.Test.YtanhbpofhebbaaaX10
namespace Go.Proofs.Ytanhbpofhebbaaa
open Go.RowKit
set_option linter.unusedSimpArgs false
set_option linter.unusedVariables false


def fulW (code : Ls (Ls Ins)) (t i : Nat) : Bool := waitsB (nth (nth code.l t).l i).op
theorem cm_len {α : Type} [Inhabited α] {c : Ls (Ls α)} {n : Nat} {f : Nat → List α} (h : c.l.map (·.l) = (List.range n).map f) : c.l.length = n := by
  have := congrArg List.length h
  simpa using this
theorem cm_nth {c : Ls (Ls Ins)} {n : Nat} {f : Nat → List Ins} (h : c.l.map (·.l) = (List.range n).map f) (j : Nat) (hj : j < n) : (nth c.l j).l = f j := by
  have hl := cm_len h
  rw [← nth_map' (fun x : Ls Ins => x.l) c.l j (by omega), h, nth_map' _ _ _ (by simpa using hj)]
  simp [nth, hj]
theorem cm_nthB {c : Ls (Ls Bool)} {n : Nat} {f : Nat → List Bool} (h : c.l.map (·.l) = (List.range n).map f) (j : Nat) (hj : j < n) : (nth c.l j).l = f j := by
  have hl := cm_len h
  rw [← nth_map' (fun x : Ls Bool => x.l) c.l j (by omega), h, nth_map' _ _ _ (by simpa using hj)]
  simp [nth, hj]
theorem eq_wb (code : List Ins) (rl : List Bool) (hl : rl.length = code.length) (h : ∀ j, j < code.length → nth rl j = waitsB (nth code j).op) : rl = code.map (fun x => waitsB x.op) := by
  apply ext_nth
  · simpa using hl
  · intro i hi
    rw [h i (by omega), nth_map' _ _ _ (by omega)]

set_option maxRecDepth 100000 in
set_option maxHeartbeats 4000000 in
theorem full_k (code : Ls (Ls Ins)) (words : Ls Int) (locks regs : Int) (W : World) (hcode : code.At W) (hwords : words.At W) (hok : OkPg (pgOf code words locks regs)) (hshort : ∀ j, j < code.l.length → (withL (fulW code j) (nth code.l j).l).length ≤ 400) :
    Rets Try.prog 23 [.agg #[code.v, words.v, .int .i64 locks, .int .i64 regs]] W (fun v w' => ∃ (c : Ls (Ls Ins)) (u : Ls Int), v = .tuple #[.agg #[c.v, u.v, .int .i64 locks, .int .i64 regs], .agg #[.int .i64 0, .int .i64 0, .int .i64 0]] ∧ c.l.map (·.l) = (List.range code.l.length).map (fun t => withL (fulW code t) (nth code.l t).l) ∧ u.l = words.l ∧ Sh0 W w' [.deep 64 c, .own 3 u]) := by
 have hz := checkG_ok hok
 obtain ⟨hl1, hl2, hl3, hl4', hl5, hl6, hl7⟩ := ok_len hok
 refine x_enter (N := 18) Try.func23 rfl Try.ntmps23 (Nat.le_of_ble_eq_true rfl) fun a1 hf1 => ?_
 have h1 : St 18 (fun _ => False) W a1 W [(0, .agg #[code.v, words.v, .int .i64 locks, .int .i64 regs])] [.at_ code, .at_ words] := ⟨hf1.sub ⟨rfl, trivial⟩, Sh0.ext2 hcode hwords⟩
 clear hf1
 refine wp_seq_k fun K2 hK2 => ?_
 refine wp_region_lit ?_
 refine wl_ex (x_box (cs := [code.v, words.v, .int .i64 locks, .int .i64 regs]) h1 rfl rfl rfl rfl rfl) (wanted_none rfl _) ?_
 rintro a3 w3 ⟨b3, h3⟩; clear h1
 refine wl_ex (x_alloc h3 ti_28 rfl rfl rfl) (wanted_none rfl _) ?_
 rintro a4 w4 ⟨b4, h4⟩; clear h3
 refine wl_ex (x_alloc h4 ti_31 rfl rfl rfl) (wanted_none rfl _) ?_
 rintro a5 w5 ⟨b5, h5⟩; clear h4
 refine wpList_nil ?_
 refine hK2 _ _ ?_
 refine wp_seq_k fun K6 hK6 => ?_
 refine wp_seq_k fun K7 hK7 => ?_
 refine wp_region_lit ?_
 refine wv h5 (r_ldbw (i := 2) (vs := [code.v, words.v, .int .i64 locks, .int .i64 regs]) ti_28 rfl rfl rfl rfl rfl) rfl rfl fun a8 h8 => ?_; clear h5
 refine wl_ex (x_call h8 bd_19 rfl rfl rfl rfl rfl (asmCheck_c (code := code) (words := words) (locks := locks) (regs := regs) (h8.sh.at 3 rfl) (h8.sh.at 4 rfl))) (wanted_none rfl _) ?_
 rintro a9 w9 ⟨_, ⟨rfl, hs9⟩, hf9⟩
 have h9 : St 18 (fun _ => False) W a9 w9 _ _ := ⟨hf9, h8.sh.call0 hs9⟩
 clear hf9 hs9
 clear h8
 refine wl_ex (x_alloc h9 ti_31 rfl rfl rfl) (wanted_none rfl _) ?_
 rintro a10 w10 ⟨b10, h10⟩; clear h9
 refine wl_ex (x_stb (i := 0) (vs := [.int .i64 ((checkG (pgOf code words locks regs)).code), .int .i64 ((checkG (pgOf code words locks regs)).thread), .int .i64 ((checkG (pgOf code words locks regs)).at_)]) (cs' := [.int .i64 ((checkG (pgOf code words locks regs)).code), .int .i64 ((checkG (pgOf code words locks regs)).thread), .int .i64 ((checkG (pgOf code words locks regs)).at_)]) h10 ti_31 rfl rfl rfl rfl rfl rfl rfl (allOne_cons rfl (allOne_cons rfl (allOne_cons rfl allOne_nil))) (Nat.le_of_ble_eq_true rfl) rfl) (wanted_none rfl _) ?_
 rintro a11 w11 h11
 clear h10
 refine wpList_nil ?_
 refine hK7 _ _ ?_
 refine wp_seq_k fun K12 hK12 => ?_
 refine wp_region_lit ?_
 refine wv h11 (r_fieldB (r := 0) fl_31_0 rfl rfl rfl) rfl rfl fun a13 h13 => ?_; clear h11
 refine wv h13 (r_ldb (i := 0) ti_22 rfl rfl rfl rfl) rfl rfl fun a14 h14 => ?_; clear h13
 refine wv h14 (r_neqI (p := (checkG (pgOf code words locks regs)).code) (q := 0) rfl rfl rfl) rfl rfl fun a15 h15 => ?_; clear h14
 refine wpList_nil ?_
 refine hK12 _ _ ?_
 refine x_condF h15 rfl (by rw [hz]; rfl) ?_
 refine wp_skip ?_
 refine hK6 _ _ ?_
 refine wp_seq_k fun K16 hK16 => ?_
 refine wp_region_lit ?_
 refine wv h15 (r_ldbw (i := 3) (vs := [code.v, words.v, .int .i64 locks, .int .i64 regs]) ti_28 rfl rfl rfl rfl rfl) rfl rfl fun a17 h17 => ?_; clear h15
 refine wv h17 (r_makeFunc rfl rfl rfl) rfl rfl fun a18 h18 => ?_; clear h17
 refine wl_ex (x_call h18 bd_64 rfl rfl rfl rfl rfl (with_c code words locks regs 65 [] [.pointer (some ⟨b3, 0, none⟩)] (fulW code) (Asn.ro [.blk b3 28 [code.v, words.v, .int .i64 locks, .int .i64 regs], .at_ code]) _ (h18.sh.at 4 rfl) (h18.sh.at 5 rfl) hok bd_65 (fun _ h => h) (by intro A hA; simp at hA; rcases hA with rfl | rfl; exact h18.sh.ok _ (List.mem_of_getElem? (i := 3) rfl); exact h18.sh.ok _ (List.mem_of_getElem? (i := 4) rfl)) (fun w t i hE hD => full1_c t i b3 code words locks regs w hD.1 hD.2 (hE (.blk b3 28 [code.v, words.v, .int .i64 locks, .int .i64 regs]) (by simp)) (hE (.at_ code) (by simp))))) (wanted_none rfl _) ?_
 rintro a19 w19 ⟨_, ⟨c19, u19, rfl, hq19, hu19, hs19⟩, hf19⟩
 have h19 := (⟨hf19, h18.sh.call hs19 (by intro A hA b hb; first | (simp at hA; done) | (simp at hA; subst hA; first | exact Flat.noRd hb | exact (hb : False).elim) | (simp at hA; rcases hA with rfl | rfl <;> first | exact Flat.noRd hb | exact (hb : False).elim))⟩ : St 18 (fun _ => False) W a19 w19 _ _)
 clear hf19 hs19
 clear h18
 refine wl_ex (x_call h19 bd_63 rfl rfl rfl rfl rfl (sized_k c19 u19 locks regs _ (h19.sh.deep 0 rfl) (h19.sh.own 1 rfl) (by rw [cm_len hq19]; omega) (fun j hj => by rw [cm_len hq19] at hj; rw [cm_nth hq19 j hj]; exact hshort j hj))) (wanted_none rfl _) ?_
 rintro a20 w20 ⟨_, ⟨rfl, hs20⟩, hf20⟩
 have h20 : St 18 (fun _ => False) W a20 w20 _ _ := ⟨hf20, h19.sh.call0 hs20⟩
 clear hf20 hs20
 clear h19
 refine wv h20 (r_extract rfl rfl rfl) rfl rfl fun a21 h21 => ?_; clear h20
 refine wv h21 (r_extract rfl rfl rfl) rfl rfl fun a22 h22 => ?_; clear h21
 refine wl_ex (x_stb (i := 4) (vs := [c19.v, u19.v, .int .i64 locks, .int .i64 regs]) (cs' := [c19.v, u19.v, .int .i64 locks, .int .i64 regs]) h22 ti_28 rfl rfl rfl rfl rfl rfl rfl (allOne_cons ((h22.sh.deep 0 rfl)).one (allOne_cons ((h22.sh.own 1 rfl)).one (allOne_cons rfl (allOne_cons rfl allOne_nil)))) (Nat.le_of_ble_eq_true rfl) rfl) (wanted_none rfl _) ?_
 rintro a23 w23 h23
 clear h22
 refine wl_ex (x_stb (i := 3) (vs := [.int .i64 0, .int .i64 0, .int .i64 0]) (cs' := [.int .i64 0, .int .i64 0, .int .i64 0]) h23 ti_31 rfl rfl rfl rfl rfl rfl rfl (allOne_cons rfl (allOne_cons rfl (allOne_cons rfl allOne_nil))) (Nat.le_of_ble_eq_true rfl) rfl) (wanted_none rfl _) ?_
 rintro a24 w24 h24
 clear h23
 refine wpList_nil ?_
 refine hK16 _ _ ?_
 refine wp_ret ?_
 try simp only [Exit.then, Exit.inBlock]
 refine x_ret2c (fn := Try.f23) (t := 2) (t2 := 3) (i := 4) (i2 := 3) ti_28 ti_31 rfl h24 rfl rfl rfl rfl rfl rfl ?_
 refine ⟨⟨c19.v, c19.l⟩, ⟨u19.v, u19.l⟩, rfl, ?_, ?_, (h24.sh.sel (L' := [.deep 64 c19, .own 3 u19]) [0, 1] (by decide) ⟨rfl, rfl, trivial⟩)⟩
 · exact hq19
 · exact hu19

set_option maxRecDepth 100000 in
set_option maxHeartbeats 4000000 in
theorem full_l (code : Ls (Ls Ins)) (words : Ls Int) (locks regs : Int) (k : Nat) (W : World) (hcode : code.At W) (hwords : words.At W) (hok : OkPg (pgOf code words locks regs)) (hk : k < code.l.length) (h400 : 400 < (withL (fulW code k) (nth code.l k).l).length) (hbef : ∀ j, j < k → (withL (fulW code j) (nth code.l j).l).length ≤ 400) :
    Rets Try.prog 23 [.agg #[code.v, words.v, .int .i64 locks, .int .i64 regs]] W (fun v w' => v = .tuple #[.agg #[.slice none 0 0, .slice none 0 0, .int .i64 0, .int .i64 0], (⟨1, k, 0⟩ : Flt).val] ∧ Sh0 W w' []) := by
 have hz := checkG_ok hok
 obtain ⟨hl1, hl2, hl3, hl4', hl5, hl6, hl7⟩ := ok_len hok
 refine x_enter (N := 18) Try.func23 rfl Try.ntmps23 (Nat.le_of_ble_eq_true rfl) fun a1 hf1 => ?_
 have h1 : St 18 (fun _ => False) W a1 W [(0, .agg #[code.v, words.v, .int .i64 locks, .int .i64 regs])] [.at_ code, .at_ words] := ⟨hf1.sub ⟨rfl, trivial⟩, Sh0.ext2 hcode hwords⟩
 clear hf1
 refine wp_seq_k fun K2 hK2 => ?_
 refine wp_region_lit ?_
 refine wl_ex (x_box (cs := [code.v, words.v, .int .i64 locks, .int .i64 regs]) h1 rfl rfl rfl rfl rfl) (wanted_none rfl _) ?_
 rintro a3 w3 ⟨b3, h3⟩; clear h1
 refine wl_ex (x_alloc h3 ti_28 rfl rfl rfl) (wanted_none rfl _) ?_
 rintro a4 w4 ⟨b4, h4⟩; clear h3
 refine wl_ex (x_alloc h4 ti_31 rfl rfl rfl) (wanted_none rfl _) ?_
 rintro a5 w5 ⟨b5, h5⟩; clear h4
 refine wpList_nil ?_
 refine hK2 _ _ ?_
 refine wp_seq_k fun K6 hK6 => ?_
 refine wp_seq_k fun K7 hK7 => ?_
 refine wp_region_lit ?_
 refine wv h5 (r_ldbw (i := 2) (vs := [code.v, words.v, .int .i64 locks, .int .i64 regs]) ti_28 rfl rfl rfl rfl rfl) rfl rfl fun a8 h8 => ?_; clear h5
 refine wl_ex (x_call h8 bd_19 rfl rfl rfl rfl rfl (asmCheck_c (code := code) (words := words) (locks := locks) (regs := regs) (h8.sh.at 3 rfl) (h8.sh.at 4 rfl))) (wanted_none rfl _) ?_
 rintro a9 w9 ⟨_, ⟨rfl, hs9⟩, hf9⟩
 have h9 : St 18 (fun _ => False) W a9 w9 _ _ := ⟨hf9, h8.sh.call0 hs9⟩
 clear hf9 hs9
 clear h8
 refine wl_ex (x_alloc h9 ti_31 rfl rfl rfl) (wanted_none rfl _) ?_
 rintro a10 w10 ⟨b10, h10⟩; clear h9
 refine wl_ex (x_stb (i := 0) (vs := [.int .i64 ((checkG (pgOf code words locks regs)).code), .int .i64 ((checkG (pgOf code words locks regs)).thread), .int .i64 ((checkG (pgOf code words locks regs)).at_)]) (cs' := [.int .i64 ((checkG (pgOf code words locks regs)).code), .int .i64 ((checkG (pgOf code words locks regs)).thread), .int .i64 ((checkG (pgOf code words locks regs)).at_)]) h10 ti_31 rfl rfl rfl rfl rfl rfl rfl (allOne_cons rfl (allOne_cons rfl (allOne_cons rfl allOne_nil))) (Nat.le_of_ble_eq_true rfl) rfl) (wanted_none rfl _) ?_
 rintro a11 w11 h11
 clear h10
 refine wpList_nil ?_
 refine hK7 _ _ ?_
 refine wp_seq_k fun K12 hK12 => ?_
 refine wp_region_lit ?_
 refine wv h11 (r_fieldB (r := 0) fl_31_0 rfl rfl rfl) rfl rfl fun a13 h13 => ?_; clear h11
 refine wv h13 (r_ldb (i := 0) ti_22 rfl rfl rfl rfl) rfl rfl fun a14 h14 => ?_; clear h13
 refine wv h14 (r_neqI (p := (checkG (pgOf code words locks regs)).code) (q := 0) rfl rfl rfl) rfl rfl fun a15 h15 => ?_; clear h14
 refine wpList_nil ?_
 refine hK12 _ _ ?_
 refine x_condF h15 rfl (by rw [hz]; rfl) ?_
 refine wp_skip ?_
 refine hK6 _ _ ?_
 refine wp_seq_k fun K16 hK16 => ?_
 refine wp_region_lit ?_
 refine wv h15 (r_ldbw (i := 3) (vs := [code.v, words.v, .int .i64 locks, .int .i64 regs]) ti_28 rfl rfl rfl rfl rfl) rfl rfl fun a17 h17 => ?_; clear h15
 refine wv h17 (r_makeFunc rfl rfl rfl) rfl rfl fun a18 h18 => ?_; clear h17
 refine wl_ex (x_call h18 bd_64 rfl rfl rfl rfl rfl (with_c code words locks regs 65 [] [.pointer (some ⟨b3, 0, none⟩)] (fulW code) (Asn.ro [.blk b3 28 [code.v, words.v, .int .i64 locks, .int .i64 regs], .at_ code]) _ (h18.sh.at 4 rfl) (h18.sh.at 5 rfl) hok bd_65 (fun _ h => h) (by intro A hA; simp at hA; rcases hA with rfl | rfl; exact h18.sh.ok _ (List.mem_of_getElem? (i := 3) rfl); exact h18.sh.ok _ (List.mem_of_getElem? (i := 4) rfl)) (fun w t i hE hD => full1_c t i b3 code words locks regs w hD.1 hD.2 (hE (.blk b3 28 [code.v, words.v, .int .i64 locks, .int .i64 regs]) (by simp)) (hE (.at_ code) (by simp))))) (wanted_none rfl _) ?_
 rintro a19 w19 ⟨_, ⟨c19, u19, rfl, hq19, hu19, hs19⟩, hf19⟩
 have h19 := (⟨hf19, h18.sh.call hs19 (by intro A hA b hb; first | (simp at hA; done) | (simp at hA; subst hA; first | exact Flat.noRd hb | exact (hb : False).elim) | (simp at hA; rcases hA with rfl | rfl <;> first | exact Flat.noRd hb | exact (hb : False).elim))⟩ : St 18 (fun _ => False) W a19 w19 _ _)
 clear hf19 hs19
 clear h18
 refine wl_ex (x_call h19 bd_63 rfl rfl rfl rfl rfl (sized_l c19 u19 locks regs k _ (h19.sh.deep 0 rfl) (h19.sh.own 1 rfl) (by rw [cm_len hq19]; omega) (by rw [cm_len hq19]; exact hk) (by rw [cm_nth hq19 k hk]; exact h400) (fun j hj => by rw [cm_nth hq19 j (by omega)]; exact hbef j hj))) (wanted_none rfl _) ?_
 rintro a20 w20 ⟨_, ⟨rfl, hs20⟩, hf20⟩
 have h20 : St 18 (fun _ => False) W a20 w20 _ _ := ⟨hf20, h19.sh.call0 hs20⟩
 clear hf20 hs20
 clear h19
 refine wv h20 (r_extract rfl rfl rfl) rfl rfl fun a21 h21 => ?_; clear h20
 refine wv h21 (r_extract rfl rfl rfl) rfl rfl fun a22 h22 => ?_; clear h21
 refine wl_ex (x_stb (i := 4) (vs := [(.slice none 0 0), (.slice none 0 0), .int .i64 0, .int .i64 0]) (cs' := [(.slice none 0 0), (.slice none 0 0), .int .i64 0, .int .i64 0]) h22 ti_28 rfl rfl rfl rfl rfl rfl rfl (allOne_cons ((Sh.nilAt (α := Ls Ins) h22.sh)).one (allOne_cons ((Sh.nilAt (α := Int) h22.sh)).one (allOne_cons rfl (allOne_cons rfl allOne_nil)))) (Nat.le_of_ble_eq_true rfl) rfl) (wanted_none rfl _) ?_
 rintro a23 w23 h23
 clear h22
 refine wl_ex (x_stb (i := 3) (vs := [.int .i64 1, .int .i64 ((k : Nat) : Int), .int .i64 0]) (cs' := [.int .i64 1, .int .i64 ((k : Nat) : Int), .int .i64 0]) h23 ti_31 rfl rfl rfl rfl rfl rfl rfl (allOne_cons rfl (allOne_cons rfl (allOne_cons rfl allOne_nil))) (Nat.le_of_ble_eq_true rfl) rfl) (wanted_none rfl _) ?_
 rintro a24 w24 h24
 clear h23
 refine wpList_nil ?_
 refine hK16 _ _ ?_
 refine wp_ret ?_
 try simp only [Exit.then, Exit.inBlock]
 refine x_ret2c (fn := Try.f23) (t := 2) (t2 := 3) (i := 4) (i2 := 3) ti_28 ti_31 rfl h24 rfl rfl rfl rfl rfl rfl ?_
 exact ⟨rfl, (h24.sh.sel [] (by decide) trivial)⟩

set_option maxRecDepth 100000 in
set_option maxHeartbeats 4000000 in
theorem full_b (code : Ls (Ls Ins)) (words : Ls Int) (locks regs : Int) (W : World) (hcode : code.At W) (hwords : words.At W) (hz : (checkG (pgOf code words locks regs)).code ≠ 0) :
    Rets Try.prog 23 [.agg #[code.v, words.v, .int .i64 locks, .int .i64 regs]] W (fun v w' => v = .tuple #[.agg #[.slice none 0 0, .slice none 0 0, .int .i64 0, .int .i64 0], (checkG (pgOf code words locks regs)).val] ∧ Sh0 W w' []) := by
 refine x_enter (N := 18) Try.func23 rfl Try.ntmps23 (Nat.le_of_ble_eq_true rfl) fun a1 hf1 => ?_
 have h1 : St 18 (fun _ => False) W a1 W [(0, .agg #[code.v, words.v, .int .i64 locks, .int .i64 regs])] [.at_ code, .at_ words] := ⟨hf1.sub ⟨rfl, trivial⟩, Sh0.ext2 hcode hwords⟩
 clear hf1
 refine wp_seq_k fun K2 hK2 => ?_
 refine wp_region_lit ?_
 refine wl_ex (x_box (cs := [code.v, words.v, .int .i64 locks, .int .i64 regs]) h1 rfl rfl rfl rfl rfl) (wanted_none rfl _) ?_
 rintro a3 w3 ⟨b3, h3⟩; clear h1
 refine wl_ex (x_alloc h3 ti_28 rfl rfl rfl) (wanted_none rfl _) ?_
 rintro a4 w4 ⟨b4, h4⟩; clear h3
 refine wl_ex (x_alloc h4 ti_31 rfl rfl rfl) (wanted_none rfl _) ?_
 rintro a5 w5 ⟨b5, h5⟩; clear h4
 refine wpList_nil ?_
 refine hK2 _ _ ?_
 refine wp_seq_k fun K6 hK6 => ?_
 refine wp_seq_k fun K7 hK7 => ?_
 refine wp_region_lit ?_
 refine wv h5 (r_ldbw (i := 2) (vs := [code.v, words.v, .int .i64 locks, .int .i64 regs]) ti_28 rfl rfl rfl rfl rfl) rfl rfl fun a8 h8 => ?_; clear h5
 refine wl_ex (x_call h8 bd_19 rfl rfl rfl rfl rfl (asmCheck_c (code := code) (words := words) (locks := locks) (regs := regs) (h8.sh.at 3 rfl) (h8.sh.at 4 rfl))) (wanted_none rfl _) ?_
 rintro a9 w9 ⟨_, ⟨rfl, hs9⟩, hf9⟩
 have h9 : St 18 (fun _ => False) W a9 w9 _ _ := ⟨hf9, h8.sh.call0 hs9⟩
 clear hf9 hs9
 clear h8
 refine wl_ex (x_alloc h9 ti_31 rfl rfl rfl) (wanted_none rfl _) ?_
 rintro a10 w10 ⟨b10, h10⟩; clear h9
 refine wl_ex (x_stb (i := 0) (vs := [.int .i64 ((checkG (pgOf code words locks regs)).code), .int .i64 ((checkG (pgOf code words locks regs)).thread), .int .i64 ((checkG (pgOf code words locks regs)).at_)]) (cs' := [.int .i64 ((checkG (pgOf code words locks regs)).code), .int .i64 ((checkG (pgOf code words locks regs)).thread), .int .i64 ((checkG (pgOf code words locks regs)).at_)]) h10 ti_31 rfl rfl rfl rfl rfl rfl rfl (allOne_cons rfl (allOne_cons rfl (allOne_cons rfl allOne_nil))) (Nat.le_of_ble_eq_true rfl) rfl) (wanted_none rfl _) ?_
 rintro a11 w11 h11
 clear h10
 refine wpList_nil ?_
 refine hK7 _ _ ?_
 refine wp_seq_k fun K12 hK12 => ?_
 refine wp_region_lit ?_
 refine wv h11 (r_fieldB (r := 0) fl_31_0 rfl rfl rfl) rfl rfl fun a13 h13 => ?_; clear h11
 refine wv h13 (r_ldb (i := 0) ti_22 rfl rfl rfl rfl) rfl rfl fun a14 h14 => ?_; clear h13
 refine wv h14 (r_neqI (p := (checkG (pgOf code words locks regs)).code) (q := 0) rfl rfl rfl) rfl rfl fun a15 h15 => ?_; clear h14
 refine wpList_nil ?_
 refine hK12 _ _ ?_
 refine x_condT h15 rfl (decide_eq_true hz) ?_
 refine wp_seq_k fun K16 hK16 => ?_
 have h17 : St 18 (fun _ => False) W a15 w11 [(0, .agg #[code.v, words.v, .int .i64 locks, .int .i64 regs]), (1, .pointer (some ⟨b3, 0, none⟩)), (2, .pointer (some ⟨b4, 0, none⟩)), (3, .pointer (some ⟨b5, 0, none⟩)), (4, .pointer (some ⟨b10, 0, none⟩)), (5, .agg #[code.v, words.v, .int .i64 locks, .int .i64 regs]), (6, .agg #[.int .i64 ((checkG (pgOf code words locks regs)).code), .int .i64 ((checkG (pgOf code words locks regs)).thread), .int .i64 ((checkG (pgOf code words locks regs)).at_)]), (7, .pointer (some ⟨b10, 0, none⟩)), (8, .int .i64 ((checkG (pgOf code words locks regs)).code)), (9, .bool (decide ((checkG (pgOf code words locks regs)).code ≠ 0)))] [.blk b10 31 [.int .i64 ((checkG (pgOf code words locks regs)).code), .int .i64 ((checkG (pgOf code words locks regs)).thread), .int .i64 ((checkG (pgOf code words locks regs)).at_)], .blk b5 31 [.int .i64 0, .int .i64 0, .int .i64 0], .blk b4 28 [(.slice none 0 0), (.slice none 0 0), .int .i64 0, .int .i64 0], .blk b3 28 [code.v, words.v, .int .i64 locks, .int .i64 regs], .at_ code, .at_ words] := h15.nrm ⟨rfl, rfl, rfl, rfl, rfl, rfl, rfl, rfl, rfl, rfl, trivial⟩ [0, 1, 2, 3, 4, 5] (by decide) ⟨rfl, rfl, rfl, rfl, rfl, rfl, trivial⟩
 clear h15
 refine x_any (fun S a w => (S 2 = false ∧ S 3 = false ∧ FrI 18 S [(0, .agg #[code.v, words.v, .int .i64 locks, .int .i64 regs]), (1, .pointer (some ⟨b3, 0, none⟩)), (2, .pointer (some ⟨b4, 0, none⟩)), (3, .pointer (some ⟨b5, 0, none⟩)), (4, .pointer (some ⟨b10, 0, none⟩)), (5, .agg #[code.v, words.v, .int .i64 locks, .int .i64 regs]), (6, .agg #[.int .i64 ((checkG (pgOf code words locks regs)).code), .int .i64 ((checkG (pgOf code words locks regs)).thread), .int .i64 ((checkG (pgOf code words locks regs)).at_)]), (7, .pointer (some ⟨b10, 0, none⟩)), (8, .int .i64 ((checkG (pgOf code words locks regs)).code)), (9, .bool (decide ((checkG (pgOf code words locks regs)).code ≠ 0)))] [(0, 10, .agg #[(.slice none 0 0), (.slice none 0 0), .int .i64 0, .int .i64 0]), (1, 11, .agg #[.int .i64 ((checkG (pgOf code words locks regs)).code), .int .i64 ((checkG (pgOf code words locks regs)).thread), .int .i64 ((checkG (pgOf code words locks regs)).at_)])] a ∧ Sh (fun _ => False) W w [.blk b10 31 [.int .i64 ((checkG (pgOf code words locks regs)).code), .int .i64 ((checkG (pgOf code words locks regs)).thread), .int .i64 ((checkG (pgOf code words locks regs)).at_)], .blk b5 31 [.int .i64 0, .int .i64 0, .int .i64 0], .blk b4 28 [(.slice none 0 0), (.slice none 0 0), .int .i64 0, .int .i64 0], .blk b3 28 [code.v, words.v, .int .i64 locks, .int .i64 regs], .at_ code, .at_ words]) ∨ (S 2 = true ∧ S 3 = false ∧ FrI 18 S [(0, .agg #[code.v, words.v, .int .i64 locks, .int .i64 regs]), (1, .pointer (some ⟨b3, 0, none⟩)), (2, .pointer (some ⟨b4, 0, none⟩)), (3, .pointer (some ⟨b5, 0, none⟩)), (4, .pointer (some ⟨b10, 0, none⟩)), (5, .agg #[code.v, words.v, .int .i64 locks, .int .i64 regs]), (6, .agg #[.int .i64 ((checkG (pgOf code words locks regs)).code), .int .i64 ((checkG (pgOf code words locks regs)).thread), .int .i64 ((checkG (pgOf code words locks regs)).at_)]), (7, .pointer (some ⟨b10, 0, none⟩)), (8, .int .i64 ((checkG (pgOf code words locks regs)).code)), (9, .bool (decide ((checkG (pgOf code words locks regs)).code ≠ 0)))] [(0, 10, .agg #[(.slice none 0 0), (.slice none 0 0), .int .i64 0, .int .i64 0]), (1, 11, .agg #[.int .i64 ((checkG (pgOf code words locks regs)).code), .int .i64 ((checkG (pgOf code words locks regs)).thread), .int .i64 ((checkG (pgOf code words locks regs)).at_)])] a ∧ Sh (fun _ => False) W w [.blk b10 31 [.int .i64 ((checkG (pgOf code words locks regs)).code), .int .i64 ((checkG (pgOf code words locks regs)).thread), .int .i64 ((checkG (pgOf code words locks regs)).at_)], .blk b5 31 [.int .i64 0, .int .i64 0, .int .i64 0], .blk b4 28 [(.slice none 0 0), (.slice none 0 0), .int .i64 0, .int .i64 0], .blk b3 28 [code.v, words.v, .int .i64 locks, .int .i64 regs], .at_ code, .at_ words]) ∨ (S 2 = true ∧ S 3 = true ∧ FrI 18 S [(0, .agg #[code.v, words.v, .int .i64 locks, .int .i64 regs]), (1, .pointer (some ⟨b3, 0, none⟩)), (2, .pointer (some ⟨b4, 0, none⟩)), (3, .pointer (some ⟨b5, 0, none⟩)), (4, .pointer (some ⟨b10, 0, none⟩)), (5, .agg #[code.v, words.v, .int .i64 locks, .int .i64 regs]), (6, .agg #[.int .i64 ((checkG (pgOf code words locks regs)).code), .int .i64 ((checkG (pgOf code words locks regs)).thread), .int .i64 ((checkG (pgOf code words locks regs)).at_)]), (7, .pointer (some ⟨b10, 0, none⟩)), (8, .int .i64 ((checkG (pgOf code words locks regs)).code)), (9, .bool (decide ((checkG (pgOf code words locks regs)).code ≠ 0)))] [(0, 10, .agg #[(.slice none 0 0), (.slice none 0 0), .int .i64 0, .int .i64 0]), (1, 11, .agg #[.int .i64 ((checkG (pgOf code words locks regs)).code), .int .i64 ((checkG (pgOf code words locks regs)).thread), .int .i64 ((checkG (pgOf code words locks regs)).at_)])] a ∧ Sh (fun _ => False) W w [.blk b10 31 [.int .i64 ((checkG (pgOf code words locks regs)).code), .int .i64 ((checkG (pgOf code words locks regs)).thread), .int .i64 ((checkG (pgOf code words locks regs)).at_)], .blk b5 31 [.int .i64 ((checkG (pgOf code words locks regs)).code), .int .i64 ((checkG (pgOf code words locks regs)).thread), .int .i64 ((checkG (pgOf code words locks regs)).at_)], .blk b4 28 [(.slice none 0 0), (.slice none 0 0), .int .i64 0, .int .i64 0], .blk b3 28 [code.v, words.v, .int .i64 locks, .int .i64 regs], .at_ code, .at_ words])) (by kernel_rfl) (by kernel_rfl) (Or.inl (⟨rfl, rfl, FrI.start h17.fr, h17.sh.drew⟩)) ?_ ?_
 ·intro S i o ho hSi hcl hdep a w hI
  clear h17
  rcases i with _ | _ | _ | _ | i
  ·
   obtain rfl : _ = o := Option.some.inj ho
   rcases hI with ⟨hw2, hw3, hfr, hsh⟩ | ⟨hw2, hw3, hfr, hsh⟩ | ⟨hw2, hw3, hfr, hsh⟩
   ·
    exact sq hfr hfr.fr0 hsh (r_build (cs := [(.slice none 0 0), (.slice none 0 0), .int .i64 0, .int .i64 0]) rfl rfl (by kernel_rfl)) 0 rfl rfl rfl rfl rfl rfl fun a hg => Or.inl (⟨un rfl hw2, un rfl hw3, hg, hsh⟩)
   ·
    exact no_way (cA hcl 2 0 rfl hw2) hSi
   ·
    exact no_way (cA hcl 2 0 rfl hw2) hSi
  ·
   obtain rfl : _ = o := Option.some.inj ho
   rcases hI with ⟨hw2, hw3, hfr, hsh⟩ | ⟨hw2, hw3, hfr, hsh⟩ | ⟨hw2, hw3, hfr, hsh⟩
   ·
    exact sq hfr hfr.fr0 hsh (r_ldbw (i := 0) (vs := [.int .i64 ((checkG (pgOf code words locks regs)).code), .int .i64 ((checkG (pgOf code words locks regs)).thread), .int .i64 ((checkG (pgOf code words locks regs)).at_)]) ti_31 rfl rfl rfl rfl rfl) 1 rfl rfl rfl rfl rfl rfl fun a hg => Or.inl (⟨un rfl hw2, un rfl hw3, hg, hsh⟩)
   ·
    exact sq hfr hfr.fr0 hsh (r_ldbw (i := 0) (vs := [.int .i64 ((checkG (pgOf code words locks regs)).code), .int .i64 ((checkG (pgOf code words locks regs)).thread), .int .i64 ((checkG (pgOf code words locks regs)).at_)]) ti_31 rfl rfl rfl rfl rfl) 1 rfl rfl rfl rfl rfl rfl fun a hg => Or.inr (Or.inl (⟨un rfl hw2, un rfl hw3, hg, hsh⟩))
   ·
    exact no_way (cA hcl 3 1 rfl hw3) hSi
  ·
   obtain rfl : _ = o := Option.some.inj ho
   have hd0 : S 0 = true := depAt hdep 0 rfl rfl
   rcases hI with ⟨hw2, hw3, hfr, hsh⟩ | ⟨hw2, hw3, hfr, hsh⟩ | ⟨hw2, hw3, hfr, hsh⟩
   ·
    have hs := St.mk (Fr.cons hfr.fr0 (hfr.at_ 0 0 10 _ rfl hd0)) hsh
    refine step_ex (x_stb (i := 2) (vs := [(.slice none 0 0), (.slice none 0 0), .int .i64 0, .int .i64 0]) (cs' := [(.slice none 0 0), (.slice none 0 0), .int .i64 0, .int .i64 0]) hs ti_28 rfl rfl rfl rfl rfl rfl rfl (allOne_cons rfl (allOne_cons rfl (allOne_cons rfl (allOne_cons rfl allOne_nil)))) (Nat.le_of_ble_eq_true rfl) rfl) (wanted_none rfl _) ?_
    rintro a22 w22 h22 ⟨v0, ht22⟩
    have hm22 : FrI 18 S [(0, .agg #[code.v, words.v, .int .i64 locks, .int .i64 regs]), (1, .pointer (some ⟨b3, 0, none⟩)), (2, .pointer (some ⟨b4, 0, none⟩)), (3, .pointer (some ⟨b5, 0, none⟩)), (4, .pointer (some ⟨b10, 0, none⟩)), (5, .agg #[code.v, words.v, .int .i64 locks, .int .i64 regs]), (6, .agg #[.int .i64 ((checkG (pgOf code words locks regs)).code), .int .i64 ((checkG (pgOf code words locks regs)).thread), .int .i64 ((checkG (pgOf code words locks regs)).at_)]), (7, .pointer (some ⟨b10, 0, none⟩)), (8, .int .i64 ((checkG (pgOf code words locks regs)).code)), (9, .bool (decide ((checkG (pgOf code words locks regs)).code ≠ 0)))] [(0, 10, .agg #[(.slice none 0 0), (.slice none 0 0), .int .i64 0, .int .i64 0]), (1, 11, .agg #[.int .i64 ((checkG (pgOf code words locks regs)).code), .int .i64 ((checkG (pgOf code words locks regs)).thread), .int .i64 ((checkG (pgOf code words locks regs)).at_)])] a := hfr.more (by
     intro k j d v hk hS
     rcases k with _ | _ | k
     ·obtain ⟨rfl, rfl, rfl⟩ : _ = j ∧ _ = d ∧ _ = v := by simpa using hk
      exact hfr.at_ 0 _ _ _ rfl hS
     ·obtain ⟨rfl, rfl, rfl⟩ : _ = j ∧ _ = d ∧ _ = v := by simpa using hk
      exact hfr.at_ 1 _ _ _ rfl hS
     · simp at hk)
    exact Or.inr (Or.inl (⟨upd_self _ _, un rfl hw3, hm22.none ht22 h22.fr.defers rfl, (h22.sh.sel (L' := [.blk b10 31 [.int .i64 ((checkG (pgOf code words locks regs)).code), .int .i64 ((checkG (pgOf code words locks regs)).thread), .int .i64 ((checkG (pgOf code words locks regs)).at_)], .blk b5 31 [.int .i64 0, .int .i64 0, .int .i64 0], .blk b4 28 [(.slice none 0 0), (.slice none 0 0), .int .i64 0, .int .i64 0], .blk b3 28 [code.v, words.v, .int .i64 locks, .int .i64 regs], .at_ code, .at_ words]) [0, 1, 2, 3, 4, 5] (by decide) ⟨rfl, rfl, rfl, rfl, rfl, rfl, trivial⟩)⟩))
   ·
    exact no_way hw2 hSi
   ·
    exact no_way hw2 hSi
  ·
   obtain rfl : _ = o := Option.some.inj ho
   have hd1 : S 1 = true := depAt hdep 0 rfl rfl
   have hd2 : S 2 = true := depAt hdep 1 rfl rfl
   rcases hI with ⟨hw2, hw3, hfr, hsh⟩ | ⟨hw2, hw3, hfr, hsh⟩ | ⟨hw2, hw3, hfr, hsh⟩
   ·
    exact no_way hd2 hw2
   ·
    have hs := St.mk (Fr.cons hfr.fr0 (hfr.at_ 1 1 11 _ rfl hd1)) hsh
    refine step_ex (x_stb (i := 1) (vs := [.int .i64 ((checkG (pgOf code words locks regs)).code), .int .i64 ((checkG (pgOf code words locks regs)).thread), .int .i64 ((checkG (pgOf code words locks regs)).at_)]) (cs' := [.int .i64 ((checkG (pgOf code words locks regs)).code), .int .i64 ((checkG (pgOf code words locks regs)).thread), .int .i64 ((checkG (pgOf code words locks regs)).at_)]) hs ti_31 rfl rfl rfl rfl rfl rfl rfl (allOne_cons rfl (allOne_cons rfl (allOne_cons rfl allOne_nil))) (Nat.le_of_ble_eq_true rfl) rfl) (wanted_none rfl _) ?_
    rintro a23 w23 h23 ⟨v0, ht23⟩
    have hm23 : FrI 18 S [(0, .agg #[code.v, words.v, .int .i64 locks, .int .i64 regs]), (1, .pointer (some ⟨b3, 0, none⟩)), (2, .pointer (some ⟨b4, 0, none⟩)), (3, .pointer (some ⟨b5, 0, none⟩)), (4, .pointer (some ⟨b10, 0, none⟩)), (5, .agg #[code.v, words.v, .int .i64 locks, .int .i64 regs]), (6, .agg #[.int .i64 ((checkG (pgOf code words locks regs)).code), .int .i64 ((checkG (pgOf code words locks regs)).thread), .int .i64 ((checkG (pgOf code words locks regs)).at_)]), (7, .pointer (some ⟨b10, 0, none⟩)), (8, .int .i64 ((checkG (pgOf code words locks regs)).code)), (9, .bool (decide ((checkG (pgOf code words locks regs)).code ≠ 0)))] [(0, 10, .agg #[(.slice none 0 0), (.slice none 0 0), .int .i64 0, .int .i64 0]), (1, 11, .agg #[.int .i64 ((checkG (pgOf code words locks regs)).code), .int .i64 ((checkG (pgOf code words locks regs)).thread), .int .i64 ((checkG (pgOf code words locks regs)).at_)])] a := hfr.more (by
     intro k j d v hk hS
     rcases k with _ | _ | k
     ·obtain ⟨rfl, rfl, rfl⟩ : _ = j ∧ _ = d ∧ _ = v := by simpa using hk
      exact hfr.at_ 0 _ _ _ rfl hS
     ·obtain ⟨rfl, rfl, rfl⟩ : _ = j ∧ _ = d ∧ _ = v := by simpa using hk
      exact hfr.at_ 1 _ _ _ rfl hS
     · simp at hk)
    exact Or.inr (Or.inr (⟨un rfl hw2, upd_self _ _, hm23.none ht23 h23.fr.defers rfl, (h23.sh.sel (L' := [.blk b10 31 [.int .i64 ((checkG (pgOf code words locks regs)).code), .int .i64 ((checkG (pgOf code words locks regs)).thread), .int .i64 ((checkG (pgOf code words locks regs)).at_)], .blk b5 31 [.int .i64 ((checkG (pgOf code words locks regs)).code), .int .i64 ((checkG (pgOf code words locks regs)).thread), .int .i64 ((checkG (pgOf code words locks regs)).at_)], .blk b4 28 [(.slice none 0 0), (.slice none 0 0), .int .i64 0, .int .i64 0], .blk b3 28 [code.v, words.v, .int .i64 locks, .int .i64 regs], .at_ code, .at_ words]) [0, 1, 2, 3, 4, 5] (by decide) ⟨rfl, rfl, rfl, rfl, rfl, rfl, trivial⟩)⟩))
   ·
    exact no_way hw3 hSi
  · simp at ho
 intro S hall a w hI
 clear h17
 rcases hI with ⟨hw2, hw3, hfr, hsh⟩ | ⟨hw2, hw3, hfr, hsh⟩ | ⟨hw2, hw3, hfr, hsh⟩
 · exact no_way (hall 2 (by decide)) hw2
 · exact no_way (hall 3 (by decide)) hw3
 have h24 : St 18 (fun _ => False) W a w _ [.blk b10 31 [.int .i64 ((checkG (pgOf code words locks regs)).code), .int .i64 ((checkG (pgOf code words locks regs)).thread), .int .i64 ((checkG (pgOf code words locks regs)).at_)], .blk b5 31 [.int .i64 ((checkG (pgOf code words locks regs)).code), .int .i64 ((checkG (pgOf code words locks regs)).thread), .int .i64 ((checkG (pgOf code words locks regs)).at_)], .blk b4 28 [(.slice none 0 0), (.slice none 0 0), .int .i64 0, .int .i64 0], .blk b3 28 [code.v, words.v, .int .i64 locks, .int .i64 regs], .at_ code, .at_ words] := ⟨hfr.fr0, hsh⟩
 clear hall hfr hsh hw2 hw3
 refine hK16 _ _ ?_
 refine wp_ret ?_
 try simp only [Exit.then, Exit.inBlock]
 refine x_ret2c (fn := Try.f23) (t := 2) (t2 := 3) (i := 2) (i2 := 1) ti_28 ti_31 rfl h24 rfl rfl rfl rfl rfl rfl ?_
 exact ⟨rfl, (h24.sh.sel [] (by decide) trivial)⟩

end Go.Proofs.Ytanhbpofhebbaaa
