/-
  Contracts of functions of this program and of the references, each walked once.
-/
import Derived.Test.YtanhbpofhebbaaaX10
namespace Go.Proofs.Ytanhbpofhebbaaa
open Go.RowKit
set_option linter.unusedSimpArgs false
set_option linter.unusedVariables false


def fulW (code : Ls (Ls Ins)) (t i : Nat) : Bool := waitsB (nth (nth code.l t).l i).op
theorem cm_len {α : Type} [Inhabited α] {c : Ls (Ls α)} {n : Nat} {f : Nat → List α} (h : c.l.map (·.l) = (List.range n).map f) : c.l.length = n := by
  have := congrArg List.length h
  simpa using this
theorem cm_nth {c : Ls (Ls Ins)} {n : Nat} {f : Nat → List Ins} (h : c.l.map (·.l) = (List.range n).map f) (j : Nat) (hj : j < n) : (nth c.l j).l = f j := by
  have hl := cm_len h
  rw [← nth_map' (fun x : Ls Ins => x.l) c.l j (by omega), h, nth_map' _ _ _ (by simpa using hj)]
  simp [nth, hj]
theorem cm_nthB {c : Ls (Ls Bool)} {n : Nat} {f : Nat → List Bool} (h : c.l.map (·.l) = (List.range n).map f) (j : Nat) (hj : j < n) : (nth c.l j).l = f j := by
  have hl := cm_len h
  rw [← nth_map' (fun x : Ls Bool => x.l) c.l j (by omega), h, nth_map' _ _ _ (by simpa using hj)]
  simp [nth, hj]
theorem eq_wb (code : List Ins) (rl : List Bool) (hl : rl.length = code.length) (h : ∀ j, j < code.length → nth rl j = waitsB (nth code j).op) : rl = code.map (fun x => waitsB x.op) := by
  apply ext_nth
  · simpa using hl
  · intro i hi
    rw [h i (by omega), nth_map' _ _ _ (by omega)]

set_option maxRecDepth 100000 in
set_option maxHeartbeats 4000000 in
theorem full_k (code : Ls (Ls Ins)) (words : Ls Int) (locks regs : Int) (W : World) (hcode : code.At W) (hwords : words.At W) (hok : OkPg (pgOf code words locks regs)) (hshort : ∀ j, j < code.l.length → (withL (fulW code j) (nth code.l j).l).length ≤ 400) :
    Rets Try.prog 23 [.agg #[code.v, words.v, .int .i64 locks, .int .i64 regs]] W (fun v w' => ∃ (c : Ls (Ls Ins)) (u : Ls Int), v = .tuple #[.agg #[c.v, u.v, .int .i64 locks, .int .i64 regs], .agg #[.int .i64 0, .int .i64 0, .int .i64 0]] ∧ c.l.map (·.l) = (List.range code.l.length).map (fun t => withL (fulW code t) (nth code.l t).l) ∧ u.l = words.l ∧ Sh0 W w' [.deep 64 c, .own 3 u]) := by
  have hz := checkG_ok hok
  obtain ⟨hl1, hl2, hl3, hl4', hl5, hl6, hl7⟩ := ok_len hok
  refine x_enter (N := 18) Try.func23 rfl Try.ntmps23 (Nat.le_of_ble_eq_true rfl) fun a1 hf1 => ?_
  have h1 : St 18 (fun _ => False) W a1 W [(0, .agg #[code.v, words.v, .int .i64 locks, .int .i64 regs])] [.at_ code, .at_ words] := ⟨hf1.sub ⟨rfl, trivial⟩, Sh0.ext2 hcode hwords⟩
  clear hf1
  refine wp_seq_k fun K2 hK2 => ?_
  refine wp_region_lit ?_
  refine wl_ex (x_box (cs := [code.v, words.v, .int .i64 locks, .int .i64 regs]) h1 rfl rfl rfl rfl rfl) (wanted_none rfl _) ?_
  rintro a3 w3 ⟨b3, h3⟩
  clear h1
  refine wl_ex (x_alloc h3 ti_28 rfl rfl rfl) (wanted_none rfl _) ?_
  rintro a4 w4 ⟨b4, h4⟩
  clear h3
  refine wl_ex (x_alloc h4 ti_31 rfl rfl rfl) (wanted_none rfl _) ?_
  rintro a5 w5 ⟨b5, h5⟩
  clear h4
  refine wpList_nil ?_
  refine hK2 _ _ ?_
  refine wp_seq_k fun K6 hK6 => ?_
  refine wp_seq_k fun K7 hK7 => ?_
  refine wp_region_lit ?_
  refine wv h5 (r_ldbw (i := 2) (vs := [code.v, words.v, .int .i64 locks, .int .i64 regs]) ti_28 rfl rfl rfl rfl rfl) rfl rfl fun a8 h8 => ?_
  clear h5
  refine wl_ex (x_call h8 bd_19 rfl rfl rfl rfl rfl (asmCheck_c (code := code) (words := words) (locks := locks) (regs := regs) (h8.sh.at 3 rfl) (h8.sh.at 4 rfl))) (wanted_none rfl _) ?_
  rintro a9 w9 ⟨_, ⟨rfl, hs9⟩, hf9⟩
  have h9 : St 18 (fun _ => False) W a9 w9 _ _ := ⟨hf9, h8.sh.call0 hs9⟩
  clear hf9 hs9
  clear h8
  refine wl_ex (x_alloc h9 ti_31 rfl rfl rfl) (wanted_none rfl _) ?_
  rintro a10 w10 ⟨b10, h10⟩
  clear h9
  refine wl_ex (x_stb (i := 0) (vs := [.int .i64 ((checkG (pgOf code words locks regs)).code), .int .i64 ((checkG (pgOf code words locks regs)).thread), .int .i64 ((checkG (pgOf code words locks regs)).at_)]) (cs' := [.int .i64 ((checkG (pgOf code words locks regs)).code), .int .i64 ((checkG (pgOf code words locks regs)).thread), .int .i64 ((checkG (pgOf code words locks regs)).at_)]) h10 ti_31 rfl rfl rfl rfl rfl rfl rfl (allOne_cons rfl (allOne_cons rfl (allOne_cons rfl allOne_nil))) (Nat.le_of_ble_eq_true rfl) rfl) (wanted_none rfl _) ?_
  rintro a11 w11 h11
  clear h10
  refine wpList_nil ?_
  refine hK7 _ _ ?_
  refine wp_seq_k fun K12 hK12 => ?_
  refine wp_region_lit ?_
  refine wv h11 (r_fieldB (r := 0) fl_31_0 rfl rfl rfl) rfl rfl fun a13 h13 => ?_
  clear h11
  refine wv h13 (r_ldb (i := 0) ti_22 rfl rfl rfl rfl) rfl rfl fun a14 h14 => ?_
  clear h13
  refine wv h14 (r_neqI (p := (checkG (pgOf code words locks regs)).code) (q := 0) rfl rfl rfl) rfl rfl fun a15 h15 => ?_
  clear h14
  refine wpList_nil ?_
  refine hK12 _ _ ?_
  refine x_condF h15 rfl (by rw [hz]; rfl) ?_
  refine wp_skip ?_
  refine hK6 _ _ ?_
  refine wp_seq_k fun K16 hK16 => ?_
  refine wp_region_lit ?_
  refine wv h15 (r_ldbw (i := 3) (vs := [code.v, words.v, .int .i64 locks, .int .i64 regs]) ti_28 rfl rfl rfl rfl rfl) rfl rfl fun a17 h17 => ?_
  clear h15
  refine wv h17 (r_makeFunc rfl rfl rfl) rfl rfl fun a18 h18 => ?_
  clear h17
  refine wl_ex (x_call h18 bd_64 rfl rfl rfl rfl rfl (with_c code words locks regs 65 [] [.pointer (some ⟨b3, 0, none⟩)] (fulW code) (Asn.ro [.blk b3 28 [code.v, words.v, .int .i64 locks, .int .i64 regs], .at_ code]) _ (h18.sh.at 4 rfl) (h18.sh.at 5 rfl) hok bd_65 (fun _ h => h) (by intro A hA; simp at hA; rcases hA with rfl | rfl; exact h18.sh.ok _ (List.mem_of_getElem? (i := 3) rfl); exact h18.sh.ok _ (List.mem_of_getElem? (i := 4) rfl)) (fun w t i hE hD => full1_c t i b3 code words locks regs w hD.1 hD.2 (hE (.blk b3 28 [code.v, words.v, .int .i64 locks, .int .i64 regs]) (by simp)) (hE (.at_ code) (by simp))))) (wanted_none rfl _) ?_
  rintro a19 w19 ⟨_, ⟨c19, u19, rfl, hq19, hu19, hs19⟩, hf19⟩
  have h19 := (⟨hf19, h18.sh.call hs19 (by intro A hA b hb; first | (simp at hA; done) | (simp at hA; subst hA; first | exact Flat.noRd hb | exact (hb : False).elim) | (simp at hA; rcases hA with rfl | rfl <;> first | exact Flat.noRd hb | exact (hb : False).elim))⟩ : St 18 (fun _ => False) W a19 w19 _ _)
  clear hf19 hs19
  clear h18
  refine wl_ex (x_call h19 bd_63 rfl rfl rfl rfl rfl (sized_k c19 u19 locks regs _ (h19.sh.deep 0 rfl) (h19.sh.own 1 rfl) (by rw [cm_len hq19]; omega) (fun j hj => by rw [cm_len hq19] at hj; rw [cm_nth hq19 j hj]; exact hshort j hj))) (wanted_none rfl _) ?_
  rintro a20 w20 ⟨_, ⟨rfl, hs20⟩, hf20⟩
  have h20 : St 18 (fun _ => False) W a20 w20 _ _ := ⟨hf20, h19.sh.call0 hs20⟩
  clear hf20 hs20
  clear h19
  refine wv h20 (r_extract rfl rfl rfl) rfl rfl fun a21 h21 => ?_
  clear h20
  refine wv h21 (r_extract rfl rfl rfl) rfl rfl fun a22 h22 => ?_
  clear h21
  refine wl_ex (x_stb (i := 4) (vs := [c19.v, u19.v, .int .i64 locks, .int .i64 regs]) (cs' := [c19.v, u19.v, .int .i64 locks, .int .i64 regs]) h22 ti_28 rfl rfl rfl rfl rfl rfl rfl (allOne_cons ((h22.sh.deep 0 rfl)).one (allOne_cons ((h22.sh.own 1 rfl)).one (allOne_cons rfl (allOne_cons rfl allOne_nil)))) (Nat.le_of_ble_eq_true rfl) rfl) (wanted_none rfl _) ?_
  rintro a23 w23 h23
  clear h22
  refine wl_ex (x_stb (i := 3) (vs := [.int .i64 0, .int .i64 0, .int .i64 0]) (cs' := [.int .i64 0, .int .i64 0, .int .i64 0]) h23 ti_31 rfl rfl rfl rfl rfl rfl rfl (allOne_cons rfl (allOne_cons rfl (allOne_cons rfl allOne_nil))) (Nat.le_of_ble_eq_true rfl) rfl) (wanted_none rfl _) ?_
  rintro a24 w24 h24
  clear h23
  refine wpList_nil ?_
  refine hK16 _ _ ?_
  refine wp_ret ?_
  try simp only [Exit.then, Exit.inBlock]
  refine x_ret2c (fn := Try.f23) (t := 2) (t2 := 3) (i := 4) (i2 := 3) ti_28 ti_31 rfl h24 rfl rfl rfl rfl rfl rfl ?_
  refine ⟨⟨c19.v, c19.l⟩, ⟨u19.v, u19.l⟩, rfl, ?_, ?_, (h24.sh.sel (L' := [.deep 64 c19, .own 3 u19]) [0, 1] (by decide) ⟨rfl, rfl, trivial⟩)⟩
  · exact hq19
  · exact hu19

set_option maxRecDepth 100000 in
set_option maxHeartbeats 4000000 in
theorem full_l (code : Ls (Ls Ins)) (words : Ls Int) (locks regs : Int) (k : Nat) (W : World) (hcode : code.At W) (hwords : words.At W) (hok : OkPg (pgOf code words locks regs)) (hk : k < code.l.length) (h400 : 400 < (withL (fulW code k) (nth code.l k).l).length) (hbef : ∀ j, j < k → (withL (fulW code j) (nth code.l j).l).length ≤ 400) :
    Rets Try.prog 23 [.agg #[code.v, words.v, .int .i64 locks, .int .i64 regs]] W (fun v w' => v = .tuple #[.agg #[.slice none 0 0, .slice none 0 0, .int .i64 0, .int .i64 0], (⟨1, k, 0⟩ : Flt).val] ∧ Sh0 W w' []) := by
  have hz := checkG_ok hok
  obtain ⟨hl1, hl2, hl3, hl4', hl5, hl6, hl7⟩ := ok_len hok
  refine x_enter (N := 18) Try.func23 rfl Try.ntmps23 (Nat.le_of_ble_eq_true rfl) fun a1 hf1 => ?_
  have h1 : St 18 (fun _ => False) W a1 W [(0, .agg #[code.v, words.v, .int .i64 locks, .int .i64 regs])] [.at_ code, .at_ words] := ⟨hf1.sub ⟨rfl, trivial⟩, Sh0.ext2 hcode hwords⟩
  clear hf1
  refine wp_seq_k fun K2 hK2 => ?_
  refine wp_region_lit ?_
  refine wl_ex (x_box (cs := [code.v, words.v, .int .i64 locks, .int .i64 regs]) h1 rfl rfl rfl rfl rfl) (wanted_none rfl _) ?_
  rintro a3 w3 ⟨b3, h3⟩
  clear h1
  refine wl_ex (x_alloc h3 ti_28 rfl rfl rfl) (wanted_none rfl _) ?_
  rintro a4 w4 ⟨b4, h4⟩
  clear h3
  refine wl_ex (x_alloc h4 ti_31 rfl rfl rfl) (wanted_none rfl _) ?_
  rintro a5 w5 ⟨b5, h5⟩
  clear h4
  refine wpList_nil ?_
  refine hK2 _ _ ?_
  refine wp_seq_k fun K6 hK6 => ?_
  refine wp_seq_k fun K7 hK7 => ?_
  refine wp_region_lit ?_
  refine wv h5 (r_ldbw (i := 2) (vs := [code.v, words.v, .int .i64 locks, .int .i64 regs]) ti_28 rfl rfl rfl rfl rfl) rfl rfl fun a8 h8 => ?_
  clear h5
  refine wl_ex (x_call h8 bd_19 rfl rfl rfl rfl rfl (asmCheck_c (code := code) (words := words) (locks := locks) (regs := regs) (h8.sh.at 3 rfl) (h8.sh.at 4 rfl))) (wanted_none rfl _) ?_
  rintro a9 w9 ⟨_, ⟨rfl, hs9⟩, hf9⟩
  have h9 : St 18 (fun _ => False) W a9 w9 _ _ := ⟨hf9, h8.sh.call0 hs9⟩
  clear hf9 hs9
  clear h8
  refine wl_ex (x_alloc h9 ti_31 rfl rfl rfl) (wanted_none rfl _) ?_
  rintro a10 w10 ⟨b10, h10⟩
  clear h9
  refine wl_ex (x_stb (i := 0) (vs := [.int .i64 ((checkG (pgOf code words locks regs)).code), .int .i64 ((checkG (pgOf code words locks regs)).thread), .int .i64 ((checkG (pgOf code words locks regs)).at_)]) (cs' := [.int .i64 ((checkG (pgOf code words locks regs)).code), .int .i64 ((checkG (pgOf code words locks regs)).thread), .int .i64 ((checkG (pgOf code words locks regs)).at_)]) h10 ti_31 rfl rfl rfl rfl rfl rfl rfl (allOne_cons rfl (allOne_cons rfl (allOne_cons rfl allOne_nil))) (Nat.le_of_ble_eq_true rfl) rfl) (wanted_none rfl _) ?_
  rintro a11 w11 h11
  clear h10
  refine wpList_nil ?_
  refine hK7 _ _ ?_
  refine wp_seq_k fun K12 hK12 => ?_
  refine wp_region_lit ?_
  refine wv h11 (r_fieldB (r := 0) fl_31_0 rfl rfl rfl) rfl rfl fun a13 h13 => ?_
  clear h11
  refine wv h13 (r_ldb (i := 0) ti_22 rfl rfl rfl rfl) rfl rfl fun a14 h14 => ?_
  clear h13
  refine wv h14 (r_neqI (p := (checkG (pgOf code words locks regs)).code) (q := 0) rfl rfl rfl) rfl rfl fun a15 h15 => ?_
  clear h14
  refine wpList_nil ?_
  refine hK12 _ _ ?_
  refine x_condF h15 rfl (by rw [hz]; rfl) ?_
  refine wp_skip ?_
  refine hK6 _ _ ?_
  refine wp_seq_k fun K16 hK16 => ?_
  refine wp_region_lit ?_
  refine wv h15 (r_ldbw (i := 3) (vs := [code.v, words.v, .int .i64 locks, .int .i64 regs]) ti_28 rfl rfl rfl rfl rfl) rfl rfl fun a17 h17 => ?_
  clear h15
  refine wv h17 (r_makeFunc rfl rfl rfl) rfl rfl fun a18 h18 => ?_
  clear h17
  refine wl_ex (x_call h18 bd_64 rfl rfl rfl rfl rfl (with_c code words locks regs 65 [] [.pointer (some ⟨b3, 0, none⟩)] (fulW code) (Asn.ro [.blk b3 28 [code.v, words.v, .int .i64 locks, .int .i64 regs], .at_ code]) _ (h18.sh.at 4 rfl) (h18.sh.at 5 rfl) hok bd_65 (fun _ h => h) (by intro A hA; simp at hA; rcases hA with rfl | rfl; exact h18.sh.ok _ (List.mem_of_getElem? (i := 3) rfl); exact h18.sh.ok _ (List.mem_of_getElem? (i := 4) rfl)) (fun w t i hE hD => full1_c t i b3 code words locks regs w hD.1 hD.2 (hE (.blk b3 28 [code.v, words.v, .int .i64 locks, .int .i64 regs]) (by simp)) (hE (.at_ code) (by simp))))) (wanted_none rfl _) ?_
  rintro a19 w19 ⟨_, ⟨c19, u19, rfl, hq19, hu19, hs19⟩, hf19⟩
  have h19 := (⟨hf19, h18.sh.call hs19 (by intro A hA b hb; first | (simp at hA; done) | (simp at hA; subst hA; first | exact Flat.noRd hb | exact (hb : False).elim) | (simp at hA; rcases hA with rfl | rfl <;> first | exact Flat.noRd hb | exact (hb : False).elim))⟩ : St 18 (fun _ => False) W a19 w19 _ _)
  clear hf19 hs19
  clear h18
  refine wl_ex (x_call h19 bd_63 rfl rfl rfl rfl rfl (sized_l c19 u19 locks regs k _ (h19.sh.deep 0 rfl) (h19.sh.own 1 rfl) (by rw [cm_len hq19]; omega) (by rw [cm_len hq19]; exact hk) (by rw [cm_nth hq19 k hk]; exact h400) (fun j hj => by rw [cm_nth hq19 j (by omega)]; exact hbef j hj))) (wanted_none rfl _) ?_
  rintro a20 w20 ⟨_, ⟨rfl, hs20⟩, hf20⟩
  have h20 : St 18 (fun _ => False) W a20 w20 _ _ := ⟨hf20, h19.sh.call0 hs20⟩
  clear hf20 hs20
  clear h19
  refine wv h20 (r_extract rfl rfl rfl) rfl rfl fun a21 h21 => ?_
  clear h20
  refine wv h21 (r_extract rfl rfl rfl) rfl rfl fun a22 h22 => ?_
  clear h21
  refine wl_ex (x_stb (i := 4) (vs := [(.slice none 0 0), (.slice none 0 0), .int .i64 0, .int .i64 0]) (cs' := [(.slice none 0 0), (.slice none 0 0), .int .i64 0, .int .i64 0]) h22 ti_28 rfl rfl rfl rfl rfl rfl rfl (allOne_cons ((Sh.nilAt (α := Ls Ins) h22.sh)).one (allOne_cons ((Sh.nilAt (α := Int) h22.sh)).one (allOne_cons rfl (allOne_cons rfl allOne_nil)))) (Nat.le_of_ble_eq_true rfl) rfl) (wanted_none rfl _) ?_
  rintro a23 w23 h23
  clear h22
  refine wl_ex (x_stb (i := 3) (vs := [.int .i64 1, .int .i64 ((k : Nat) : Int), .int .i64 0]) (cs' := [.int .i64 1, .int .i64 ((k : Nat) : Int), .int .i64 0]) h23 ti_31 rfl rfl rfl rfl rfl rfl rfl (allOne_cons rfl (allOne_cons rfl (allOne_cons rfl allOne_nil))) (Nat.le_of_ble_eq_true rfl) rfl) (wanted_none rfl _) ?_
  rintro a24 w24 h24
  clear h23
  refine wpList_nil ?_
  refine hK16 _ _ ?_
  refine wp_ret ?_
  try simp only [Exit.then, Exit.inBlock]
  refine x_ret2c (fn := Try.f23) (t := 2) (t2 := 3) (i := 4) (i2 := 3) ti_28 ti_31 rfl h24 rfl rfl rfl rfl rfl rfl ?_
  exact ⟨rfl, (h24.sh.sel [] (by decide) trivial)⟩

set_option maxRecDepth 100000 in
set_option maxHeartbeats 4000000 in
theorem full_b (code : Ls (Ls Ins)) (words : Ls Int) (locks regs : Int) (W : World) (hcode : code.At W) (hwords : words.At W) (hz : (checkG (pgOf code words locks regs)).code ≠ 0) :
    Rets Try.prog 23 [.agg #[code.v, words.v, .int .i64 locks, .int .i64 regs]] W (fun v w' => v = .tuple #[.agg #[.slice none 0 0, .slice none 0 0, .int .i64 0, .int .i64 0], (checkG (pgOf code words locks regs)).val] ∧ Sh0 W w' []) := by
  refine x_enter (N := 18) Try.func23 rfl Try.ntmps23 (Nat.le_of_ble_eq_true rfl) fun a1 hf1 => ?_
  have h1 : St 18 (fun _ => False) W a1 W [(0, .agg #[code.v, words.v, .int .i64 locks, .int .i64 regs])] [.at_ code, .at_ words] := ⟨hf1.sub ⟨rfl, trivial⟩, Sh0.ext2 hcode hwords⟩
  clear hf1
  refine wp_seq_k fun K2 hK2 => ?_
  refine wp_region_lit ?_
  refine wl_ex (x_box (cs := [code.v, words.v, .int .i64 locks, .int .i64 regs]) h1 rfl rfl rfl rfl rfl) (wanted_none rfl _) ?_
  rintro a3 w3 ⟨b3, h3⟩
  clear h1
  refine wl_ex (x_alloc h3 ti_28 rfl rfl rfl) (wanted_none rfl _) ?_
  rintro a4 w4 ⟨b4, h4⟩
  clear h3
  refine wl_ex (x_alloc h4 ti_31 rfl rfl rfl) (wanted_none rfl _) ?_
  rintro a5 w5 ⟨b5, h5⟩
  clear h4
  refine wpList_nil ?_
  refine hK2 _ _ ?_
  refine wp_seq_k fun K6 hK6 => ?_
  refine wp_seq_k fun K7 hK7 => ?_
  refine wp_region_lit ?_
  refine wv h5 (r_ldbw (i := 2) (vs := [code.v, words.v, .int .i64 locks, .int .i64 regs]) ti_28 rfl rfl rfl rfl rfl) rfl rfl fun a8 h8 => ?_
  clear h5
  refine wl_ex (x_call h8 bd_19 rfl rfl rfl rfl rfl (asmCheck_c (code := code) (words := words) (locks := locks) (regs := regs) (h8.sh.at 3 rfl) (h8.sh.at 4 rfl))) (wanted_none rfl _) ?_
  rintro a9 w9 ⟨_, ⟨rfl, hs9⟩, hf9⟩
  have h9 : St 18 (fun _ => False) W a9 w9 _ _ := ⟨hf9, h8.sh.call0 hs9⟩
  clear hf9 hs9
  clear h8
  refine wl_ex (x_alloc h9 ti_31 rfl rfl rfl) (wanted_none rfl _) ?_
  rintro a10 w10 ⟨b10, h10⟩
  clear h9
  refine wl_ex (x_stb (i := 0) (vs := [.int .i64 ((checkG (pgOf code words locks regs)).code), .int .i64 ((checkG (pgOf code words locks regs)).thread), .int .i64 ((checkG (pgOf code words locks regs)).at_)]) (cs' := [.int .i64 ((checkG (pgOf code words locks regs)).code), .int .i64 ((checkG (pgOf code words locks regs)).thread), .int .i64 ((checkG (pgOf code words locks regs)).at_)]) h10 ti_31 rfl rfl rfl rfl rfl rfl rfl (allOne_cons rfl (allOne_cons rfl (allOne_cons rfl allOne_nil))) (Nat.le_of_ble_eq_true rfl) rfl) (wanted_none rfl _) ?_
  rintro a11 w11 h11
  clear h10
  refine wpList_nil ?_
  refine hK7 _ _ ?_
  refine wp_seq_k fun K12 hK12 => ?_
  refine wp_region_lit ?_
  refine wv h11 (r_fieldB (r := 0) fl_31_0 rfl rfl rfl) rfl rfl fun a13 h13 => ?_
  clear h11
  refine wv h13 (r_ldb (i := 0) ti_22 rfl rfl rfl rfl) rfl rfl fun a14 h14 => ?_
  clear h13
  refine wv h14 (r_neqI (p := (checkG (pgOf code words locks regs)).code) (q := 0) rfl rfl rfl) rfl rfl fun a15 h15 => ?_
  clear h14
  refine wpList_nil ?_
  refine hK12 _ _ ?_
  refine x_condT h15 rfl (decide_eq_true hz) ?_
  refine wp_seq_k fun K16 hK16 => ?_
  have h17 : St 18 (fun _ => False) W a15 w11 [(0, .agg #[code.v, words.v, .int .i64 locks, .int .i64 regs]), (1, .pointer (some ⟨b3, 0, none⟩)), (2, .pointer (some ⟨b4, 0, none⟩)), (3, .pointer (some ⟨b5, 0, none⟩)), (4, .pointer (some ⟨b10, 0, none⟩)), (5, .agg #[code.v, words.v, .int .i64 locks, .int .i64 regs]), (6, .agg #[.int .i64 ((checkG (pgOf code words locks regs)).code), .int .i64 ((checkG (pgOf code words locks regs)).thread), .int .i64 ((checkG (pgOf code words locks regs)).at_)]), (7, .pointer (some ⟨b10, 0, none⟩)), (8, .int .i64 ((checkG (pgOf code words locks regs)).code)), (9, .bool (decide ((checkG (pgOf code words locks regs)).code ≠ 0)))] [.blk b10 31 [.int .i64 ((checkG (pgOf code words locks regs)).code), .int .i64 ((checkG (pgOf code words locks regs)).thread), .int .i64 ((checkG (pgOf code words locks regs)).at_)], .blk b5 31 [.int .i64 0, .int .i64 0, .int .i64 0], .blk b4 28 [(.slice none 0 0), (.slice none 0 0), .int .i64 0, .int .i64 0], .blk b3 28 [code.v, words.v, .int .i64 locks, .int .i64 regs], .at_ code, .at_ words] := h15.nrm ⟨rfl, rfl, rfl, rfl, rfl, rfl, rfl, rfl, rfl, rfl, trivial⟩ [0, 1, 2, 3, 4, 5] (by decide) ⟨rfl, rfl, rfl, rfl, rfl, rfl, trivial⟩
  clear h15
  refine x_any (fun S a w => (S 2 = false ∧ S 3 = false ∧ FrI 18 S [(0, .agg #[code.v, words.v, .int .i64 locks, .int .i64 regs]), (1, .pointer (some ⟨b3, 0, none⟩)), (2, .pointer (some ⟨b4, 0, none⟩)), (3, .pointer (some ⟨b5, 0, none⟩)), (4, .pointer (some ⟨b10, 0, none⟩)), (5, .agg #[code.v, words.v, .int .i64 locks, .int .i64 regs]), (6, .agg #[.int .i64 ((checkG (pgOf code words locks regs)).code), .int .i64 ((checkG (pgOf code words locks regs)).thread), .int .i64 ((checkG (pgOf code words locks regs)).at_)]), (7, .pointer (some ⟨b10, 0, none⟩)), (8, .int .i64 ((checkG (pgOf code words locks regs)).code)), (9, .bool (decide ((checkG (pgOf code words locks regs)).code ≠ 0)))] [(0, 10, .agg #[(.slice none 0 0), (.slice none 0 0), .int .i64 0, .int .i64 0]), (1, 11, .agg #[.int .i64 ((checkG (pgOf code words locks regs)).code), .int .i64 ((checkG (pgOf code words locks regs)).thread), .int .i64 ((checkG (pgOf code words locks regs)).at_)])] a ∧ Sh (fun _ => False) W w [.blk b10 31 [.int .i64 ((checkG (pgOf code words locks regs)).code), .int .i64 ((checkG (pgOf code words locks regs)).thread), .int .i64 ((checkG (pgOf code words locks regs)).at_)], .blk b5 31 [.int .i64 0, .int .i64 0, .int .i64 0], .blk b4 28 [(.slice none 0 0), (.slice none 0 0), .int .i64 0, .int .i64 0], .blk b3 28 [code.v, words.v, .int .i64 locks, .int .i64 regs], .at_ code, .at_ words]) ∨ (S 2 = true ∧ S 3 = false ∧ FrI 18 S [(0, .agg #[code.v, words.v, .int .i64 locks, .int .i64 regs]), (1, .pointer (some ⟨b3, 0, none⟩)), (2, .pointer (some ⟨b4, 0, none⟩)), (3, .pointer (some ⟨b5, 0, none⟩)), (4, .pointer (some ⟨b10, 0, none⟩)), (5, .agg #[code.v, words.v, .int .i64 locks, .int .i64 regs]), (6, .agg #[.int .i64 ((checkG (pgOf code words locks regs)).code), .int .i64 ((checkG (pgOf code words locks regs)).thread), .int .i64 ((checkG (pgOf code words locks regs)).at_)]), (7, .pointer (some ⟨b10, 0, none⟩)), (8, .int .i64 ((checkG (pgOf code words locks regs)).code)), (9, .bool (decide ((checkG (pgOf code words locks regs)).code ≠ 0)))] [(0, 10, .agg #[(.slice none 0 0), (.slice none 0 0), .int .i64 0, .int .i64 0]), (1, 11, .agg #[.int .i64 ((checkG (pgOf code words locks regs)).code), .int .i64 ((checkG (pgOf code words locks regs)).thread), .int .i64 ((checkG (pgOf code words locks regs)).at_)])] a ∧ Sh (fun _ => False) W w [.blk b10 31 [.int .i64 ((checkG (pgOf code words locks regs)).code), .int .i64 ((checkG (pgOf code words locks regs)).thread), .int .i64 ((checkG (pgOf code words locks regs)).at_)], .blk b5 31 [.int .i64 0, .int .i64 0, .int .i64 0], .blk b4 28 [(.slice none 0 0), (.slice none 0 0), .int .i64 0, .int .i64 0], .blk b3 28 [code.v, words.v, .int .i64 locks, .int .i64 regs], .at_ code, .at_ words]) ∨ (S 2 = true ∧ S 3 = true ∧ FrI 18 S [(0, .agg #[code.v, words.v, .int .i64 locks, .int .i64 regs]), (1, .pointer (some ⟨b3, 0, none⟩)), (2, .pointer (some ⟨b4, 0, none⟩)), (3, .pointer (some ⟨b5, 0, none⟩)), (4, .pointer (some ⟨b10, 0, none⟩)), (5, .agg #[code.v, words.v, .int .i64 locks, .int .i64 regs]), (6, .agg #[.int .i64 ((checkG (pgOf code words locks regs)).code), .int .i64 ((checkG (pgOf code words locks regs)).thread), .int .i64 ((checkG (pgOf code words locks regs)).at_)]), (7, .pointer (some ⟨b10, 0, none⟩)), (8, .int .i64 ((checkG (pgOf code words locks regs)).code)), (9, .bool (decide ((checkG (pgOf code words locks regs)).code ≠ 0)))] [(0, 10, .agg #[(.slice none 0 0), (.slice none 0 0), .int .i64 0, .int .i64 0]), (1, 11, .agg #[.int .i64 ((checkG (pgOf code words locks regs)).code), .int .i64 ((checkG (pgOf code words locks regs)).thread), .int .i64 ((checkG (pgOf code words locks regs)).at_)])] a ∧ Sh (fun _ => False) W w [.blk b10 31 [.int .i64 ((checkG (pgOf code words locks regs)).code), .int .i64 ((checkG (pgOf code words locks regs)).thread), .int .i64 ((checkG (pgOf code words locks regs)).at_)], .blk b5 31 [.int .i64 ((checkG (pgOf code words locks regs)).code), .int .i64 ((checkG (pgOf code words locks regs)).thread), .int .i64 ((checkG (pgOf code words locks regs)).at_)], .blk b4 28 [(.slice none 0 0), (.slice none 0 0), .int .i64 0, .int .i64 0], .blk b3 28 [code.v, words.v, .int .i64 locks, .int .i64 regs], .at_ code, .at_ words])) (by kernel_rfl) (by kernel_rfl) (Or.inl (⟨rfl, rfl, FrI.start h17.fr, h17.sh.drew⟩)) ?_ ?_
  · intro S i o ho hSi hcl hdep a w hI
    clear h17
    rcases i with _ | _ | _ | _ | i
    ·
      obtain rfl : _ = o := Option.some.inj ho
      rcases hI with ⟨hw2, hw3, hfr, hsh⟩ | ⟨hw2, hw3, hfr, hsh⟩ | ⟨hw2, hw3, hfr, hsh⟩
      ·
        have hs : St 18 (fun _ => False) W a w _ [.blk b10 31 [.int .i64 ((checkG (pgOf code words locks regs)).code), .int .i64 ((checkG (pgOf code words locks regs)).thread), .int .i64 ((checkG (pgOf code words locks regs)).at_)], .blk b5 31 [.int .i64 0, .int .i64 0, .int .i64 0], .blk b4 28 [(.slice none 0 0), (.slice none 0 0), .int .i64 0, .int .i64 0], .blk b3 28 [code.v, words.v, .int .i64 locks, .int .i64 regs], .at_ code, .at_ words] := ⟨hfr.fr0, hsh⟩
        refine step_val hs (r_build (cs := [(.slice none 0 0), (.slice none 0 0), .int .i64 0, .int .i64 0]) rfl rfl (by kernel_rfl)) (wanted_none rfl _) rfl rfl fun a19 ht19 hf19 => ?_
        exact Or.inl (⟨(upd_ne rfl).trans hw2, (upd_ne rfl).trans hw3, hfr.step ht19 hf19.defers (hf19.at_ 10 _ rfl) 0 rfl rfl rfl rfl, hsh⟩)
      ·
        exact no_way (show S 0 = true from closedAt hcl 2 0 rfl rfl rfl hw2) hSi
      ·
        exact no_way (show S 0 = true from closedAt hcl 2 0 rfl rfl rfl hw2) hSi
    ·
      obtain rfl : _ = o := Option.some.inj ho
      rcases hI with ⟨hw2, hw3, hfr, hsh⟩ | ⟨hw2, hw3, hfr, hsh⟩ | ⟨hw2, hw3, hfr, hsh⟩
      ·
        have hs : St 18 (fun _ => False) W a w _ [.blk b10 31 [.int .i64 ((checkG (pgOf code words locks regs)).code), .int .i64 ((checkG (pgOf code words locks regs)).thread), .int .i64 ((checkG (pgOf code words locks regs)).at_)], .blk b5 31 [.int .i64 0, .int .i64 0, .int .i64 0], .blk b4 28 [(.slice none 0 0), (.slice none 0 0), .int .i64 0, .int .i64 0], .blk b3 28 [code.v, words.v, .int .i64 locks, .int .i64 regs], .at_ code, .at_ words] := ⟨hfr.fr0, hsh⟩
        refine step_val hs (r_ldbw (i := 0) (vs := [.int .i64 ((checkG (pgOf code words locks regs)).code), .int .i64 ((checkG (pgOf code words locks regs)).thread), .int .i64 ((checkG (pgOf code words locks regs)).at_)]) ti_31 rfl rfl rfl rfl rfl) (wanted_none rfl _) rfl rfl fun a20 ht20 hf20 => ?_
        exact Or.inl (⟨(upd_ne rfl).trans hw2, (upd_ne rfl).trans hw3, hfr.step ht20 hf20.defers (hf20.at_ 11 _ rfl) 1 rfl rfl rfl rfl, hsh⟩)
      ·
        have hs : St 18 (fun _ => False) W a w _ [.blk b10 31 [.int .i64 ((checkG (pgOf code words locks regs)).code), .int .i64 ((checkG (pgOf code words locks regs)).thread), .int .i64 ((checkG (pgOf code words locks regs)).at_)], .blk b5 31 [.int .i64 0, .int .i64 0, .int .i64 0], .blk b4 28 [(.slice none 0 0), (.slice none 0 0), .int .i64 0, .int .i64 0], .blk b3 28 [code.v, words.v, .int .i64 locks, .int .i64 regs], .at_ code, .at_ words] := ⟨hfr.fr0, hsh⟩
        refine step_val hs (r_ldbw (i := 0) (vs := [.int .i64 ((checkG (pgOf code words locks regs)).code), .int .i64 ((checkG (pgOf code words locks regs)).thread), .int .i64 ((checkG (pgOf code words locks regs)).at_)]) ti_31 rfl rfl rfl rfl rfl) (wanted_none rfl _) rfl rfl fun a21 ht21 hf21 => ?_
        exact Or.inr (Or.inl (⟨(upd_ne rfl).trans hw2, (upd_ne rfl).trans hw3, hfr.step ht21 hf21.defers (hf21.at_ 11 _ rfl) 1 rfl rfl rfl rfl, hsh⟩))
      ·
        exact no_way (show S 1 = true from closedAt hcl 3 0 rfl rfl rfl hw3) hSi
    ·
      obtain rfl : _ = o := Option.some.inj ho
      have hd0 : S 0 = true := depAt hdep 0 rfl rfl
      have hd0 : S 0 = true := depAt hdep 1 rfl rfl
      rcases hI with ⟨hw2, hw3, hfr, hsh⟩ | ⟨hw2, hw3, hfr, hsh⟩ | ⟨hw2, hw3, hfr, hsh⟩
      ·
        have hs : St 18 (fun _ => False) W a w _ [.blk b10 31 [.int .i64 ((checkG (pgOf code words locks regs)).code), .int .i64 ((checkG (pgOf code words locks regs)).thread), .int .i64 ((checkG (pgOf code words locks regs)).at_)], .blk b5 31 [.int .i64 0, .int .i64 0, .int .i64 0], .blk b4 28 [(.slice none 0 0), (.slice none 0 0), .int .i64 0, .int .i64 0], .blk b3 28 [code.v, words.v, .int .i64 locks, .int .i64 regs], .at_ code, .at_ words] := ⟨(Fr.cons hfr.fr0 (hfr.at_ 0 0 10 _ rfl hd0)), hsh⟩
        refine step_ex (x_stb (i := 2) (vs := [(.slice none 0 0), (.slice none 0 0), .int .i64 0, .int .i64 0]) (cs' := [(.slice none 0 0), (.slice none 0 0), .int .i64 0, .int .i64 0]) hs ti_28 rfl rfl rfl rfl rfl rfl rfl (allOne_cons rfl (allOne_cons rfl (allOne_cons rfl (allOne_cons rfl allOne_nil)))) (Nat.le_of_ble_eq_true rfl) rfl) (wanted_none rfl _) ?_
        rintro a22 w22 h22 ⟨v0, ht22⟩
        have hm22 : FrI 18 S [(0, .agg #[code.v, words.v, .int .i64 locks, .int .i64 regs]), (1, .pointer (some ⟨b3, 0, none⟩)), (2, .pointer (some ⟨b4, 0, none⟩)), (3, .pointer (some ⟨b5, 0, none⟩)), (4, .pointer (some ⟨b10, 0, none⟩)), (5, .agg #[code.v, words.v, .int .i64 locks, .int .i64 regs]), (6, .agg #[.int .i64 ((checkG (pgOf code words locks regs)).code), .int .i64 ((checkG (pgOf code words locks regs)).thread), .int .i64 ((checkG (pgOf code words locks regs)).at_)]), (7, .pointer (some ⟨b10, 0, none⟩)), (8, .int .i64 ((checkG (pgOf code words locks regs)).code)), (9, .bool (decide ((checkG (pgOf code words locks regs)).code ≠ 0)))] [(0, 10, .agg #[(.slice none 0 0), (.slice none 0 0), .int .i64 0, .int .i64 0]), (1, 11, .agg #[.int .i64 ((checkG (pgOf code words locks regs)).code), .int .i64 ((checkG (pgOf code words locks regs)).thread), .int .i64 ((checkG (pgOf code words locks regs)).at_)])] a := hfr.more (by
          intro k j d v hk hS
          rcases k with _ | _ | k
          · obtain ⟨rfl, rfl, rfl⟩ : _ = j ∧ _ = d ∧ _ = v := by simpa using hk
            exact hfr.at_ 0 _ _ _ rfl hS
          · obtain ⟨rfl, rfl, rfl⟩ : _ = j ∧ _ = d ∧ _ = v := by simpa using hk
            exact hfr.at_ 1 _ _ _ rfl hS
          · simp at hk)
        exact Or.inr (Or.inl (⟨upd_self _ _, (upd_ne rfl).trans hw3, hm22.none ht22 h22.fr.defers rfl, (h22.sh.sel (L' := [.blk b10 31 [.int .i64 ((checkG (pgOf code words locks regs)).code), .int .i64 ((checkG (pgOf code words locks regs)).thread), .int .i64 ((checkG (pgOf code words locks regs)).at_)], .blk b5 31 [.int .i64 0, .int .i64 0, .int .i64 0], .blk b4 28 [(.slice none 0 0), (.slice none 0 0), .int .i64 0, .int .i64 0], .blk b3 28 [code.v, words.v, .int .i64 locks, .int .i64 regs], .at_ code, .at_ words]) [0, 1, 2, 3, 4, 5] (by decide) ⟨rfl, rfl, rfl, rfl, rfl, rfl, trivial⟩)⟩))
      ·
        exact no_way hw2 hSi
      ·
        exact no_way hw2 hSi
    ·
      obtain rfl : _ = o := Option.some.inj ho
      have hd1 : S 1 = true := depAt hdep 0 rfl rfl
      have hd2 : S 2 = true := depAt hdep 1 rfl rfl
      have hd0 : S 0 = true := depAt hdep 2 rfl rfl
      have hd1 : S 1 = true := depAt hdep 3 rfl rfl
      have hd2 : S 2 = true := depAt hdep 4 rfl rfl
      rcases hI with ⟨hw2, hw3, hfr, hsh⟩ | ⟨hw2, hw3, hfr, hsh⟩ | ⟨hw2, hw3, hfr, hsh⟩
      ·
        exact no_way hd2 hw2
      ·
        have hs : St 18 (fun _ => False) W a w _ [.blk b10 31 [.int .i64 ((checkG (pgOf code words locks regs)).code), .int .i64 ((checkG (pgOf code words locks regs)).thread), .int .i64 ((checkG (pgOf code words locks regs)).at_)], .blk b5 31 [.int .i64 0, .int .i64 0, .int .i64 0], .blk b4 28 [(.slice none 0 0), (.slice none 0 0), .int .i64 0, .int .i64 0], .blk b3 28 [code.v, words.v, .int .i64 locks, .int .i64 regs], .at_ code, .at_ words] := ⟨(Fr.cons hfr.fr0 (hfr.at_ 1 1 11 _ rfl hd1)), hsh⟩
        refine step_ex (x_stb (i := 1) (vs := [.int .i64 ((checkG (pgOf code words locks regs)).code), .int .i64 ((checkG (pgOf code words locks regs)).thread), .int .i64 ((checkG (pgOf code words locks regs)).at_)]) (cs' := [.int .i64 ((checkG (pgOf code words locks regs)).code), .int .i64 ((checkG (pgOf code words locks regs)).thread), .int .i64 ((checkG (pgOf code words locks regs)).at_)]) hs ti_31 rfl rfl rfl rfl rfl rfl rfl (allOne_cons rfl (allOne_cons rfl (allOne_cons rfl allOne_nil))) (Nat.le_of_ble_eq_true rfl) rfl) (wanted_none rfl _) ?_
        rintro a23 w23 h23 ⟨v0, ht23⟩
        have hm23 : FrI 18 S [(0, .agg #[code.v, words.v, .int .i64 locks, .int .i64 regs]), (1, .pointer (some ⟨b3, 0, none⟩)), (2, .pointer (some ⟨b4, 0, none⟩)), (3, .pointer (some ⟨b5, 0, none⟩)), (4, .pointer (some ⟨b10, 0, none⟩)), (5, .agg #[code.v, words.v, .int .i64 locks, .int .i64 regs]), (6, .agg #[.int .i64 ((checkG (pgOf code words locks regs)).code), .int .i64 ((checkG (pgOf code words locks regs)).thread), .int .i64 ((checkG (pgOf code words locks regs)).at_)]), (7, .pointer (some ⟨b10, 0, none⟩)), (8, .int .i64 ((checkG (pgOf code words locks regs)).code)), (9, .bool (decide ((checkG (pgOf code words locks regs)).code ≠ 0)))] [(0, 10, .agg #[(.slice none 0 0), (.slice none 0 0), .int .i64 0, .int .i64 0]), (1, 11, .agg #[.int .i64 ((checkG (pgOf code words locks regs)).code), .int .i64 ((checkG (pgOf code words locks regs)).thread), .int .i64 ((checkG (pgOf code words locks regs)).at_)])] a := hfr.more (by
          intro k j d v hk hS
          rcases k with _ | _ | k
          · obtain ⟨rfl, rfl, rfl⟩ : _ = j ∧ _ = d ∧ _ = v := by simpa using hk
            exact hfr.at_ 0 _ _ _ rfl hS
          · obtain ⟨rfl, rfl, rfl⟩ : _ = j ∧ _ = d ∧ _ = v := by simpa using hk
            exact hfr.at_ 1 _ _ _ rfl hS
          · simp at hk)
        exact Or.inr (Or.inr (⟨(upd_ne rfl).trans hw2, upd_self _ _, hm23.none ht23 h23.fr.defers rfl, (h23.sh.sel (L' := [.blk b10 31 [.int .i64 ((checkG (pgOf code words locks regs)).code), .int .i64 ((checkG (pgOf code words locks regs)).thread), .int .i64 ((checkG (pgOf code words locks regs)).at_)], .blk b5 31 [.int .i64 ((checkG (pgOf code words locks regs)).code), .int .i64 ((checkG (pgOf code words locks regs)).thread), .int .i64 ((checkG (pgOf code words locks regs)).at_)], .blk b4 28 [(.slice none 0 0), (.slice none 0 0), .int .i64 0, .int .i64 0], .blk b3 28 [code.v, words.v, .int .i64 locks, .int .i64 regs], .at_ code, .at_ words]) [0, 1, 2, 3, 4, 5] (by decide) ⟨rfl, rfl, rfl, rfl, rfl, rfl, trivial⟩)⟩))
      ·
        exact no_way hw3 hSi
    · simp at ho
  intro S hall a w hI
  clear h17
  rcases hI with ⟨hw2, hw3, hfr, hsh⟩ | ⟨hw2, hw3, hfr, hsh⟩ | ⟨hw2, hw3, hfr, hsh⟩
  · exact no_way (hall 2 (by decide)) hw2
  · exact no_way (hall 3 (by decide)) hw3
  have h24 : St 18 (fun _ => False) W a w _ [.blk b10 31 [.int .i64 ((checkG (pgOf code words locks regs)).code), .int .i64 ((checkG (pgOf code words locks regs)).thread), .int .i64 ((checkG (pgOf code words locks regs)).at_)], .blk b5 31 [.int .i64 ((checkG (pgOf code words locks regs)).code), .int .i64 ((checkG (pgOf code words locks regs)).thread), .int .i64 ((checkG (pgOf code words locks regs)).at_)], .blk b4 28 [(.slice none 0 0), (.slice none 0 0), .int .i64 0, .int .i64 0], .blk b3 28 [code.v, words.v, .int .i64 locks, .int .i64 regs], .at_ code, .at_ words] := ⟨hfr.fr0, hsh⟩
  clear hall hfr hsh hw2 hw3
  refine hK16 _ _ ?_
  refine wp_ret ?_
  try simp only [Exit.then, Exit.inBlock]
  refine x_ret2c (fn := Try.f23) (t := 2) (t2 := 3) (i := 2) (i2 := 1) ti_28 ti_31 rfl h24 rfl rfl rfl rfl rfl rfl ?_
  exact ⟨rfl, (h24.sh.sel [] (by decide) trivial)⟩

set_option maxRecDepth 100000 in
set_option maxHeartbeats 4000000 in
theorem rWith_c (code : Ls (Ls Ins)) (words : Ls Int) (locks regs : Int) (wr : Ls (Ls Bool)) (W : World) (hcode : code.At W) (hwords : words.At W) (hok : OkPg (pgOf code words locks regs)) (hwr : wr.At W) (hwl : wr.l.length = code.l.length) (hwt : ∀ t, t < code.l.length → (nth wr.l t).l.length = (nth code.l t).l.length) :
    Rets Try.prog 49 [.agg #[code.v, words.v, .int .i64 locks, .int .i64 regs], wr.v] W (fun v w' => ∃ (c : Ls (Ls Ins)) (u : Ls Int), v = .agg #[c.v, u.v, .int .i64 locks, .int .i64 regs] ∧ c.l.map (·.l) = (List.range code.l.length).map (fun t => withL (nth (nth wr.l t).l) (nth code.l t).l) ∧ u.l = words.l ∧ Sh0 W w' [.deep 64 c, .own 3 u]) := by
  have hz := checkG_ok hok
  obtain ⟨hl1, hl2, hl3, hl4', hl5, hl6, hl7⟩ := ok_len hok
  refine x_enter (N := 76) Try.func49 rfl Try.ntmps49 (Nat.le_of_ble_eq_true rfl) fun a1 hf1 => ?_
  have h1 : St 76 (fun _ => False) W a1 W [(0, .agg #[code.v, words.v, .int .i64 locks, .int .i64 regs]), (1, wr.v)] [.at_ code, .at_ words, .at_ wr] := ⟨hf1.sub ⟨rfl, rfl, trivial⟩, Sh0.ext (by intro A hA; simp at hA; rcases hA with rfl | rfl | rfl; exact hcode; exact hwords; exact hwr) (by intro A hA b hb; simp at hA; rcases hA with rfl | rfl | rfl <;> exact hb)⟩
  clear hf1
  refine wp_seq_k fun K2 hK2 => ?_
  refine wp_region_lit ?_
  refine wl_ex (x_box (cs := [code.v, words.v, .int .i64 locks, .int .i64 regs]) h1 rfl rfl rfl rfl rfl) (wanted_none rfl _) ?_
  rintro a3 w3 ⟨b3, h3⟩
  clear h1
  refine wl_ex (x_alloc h3 ti_28 rfl rfl rfl) (wanted_none rfl _) ?_
  rintro a4 w4 ⟨b4, h4⟩
  clear h3
  refine wpList_nil ?_
  refine hK2 _ _ ?_
  refine wp_seq_k fun K5 hK5 => ?_
  refine wp_region_lit ?_
  refine wv h4 (r_fieldB (r := 2) fl_28_2 rfl rfl rfl) rfl rfl fun a6 h6 => ?_
  clear h4
  refine wv h6 (r_ldb (i := 1) ti_3 rfl rfl rfl rfl) rfl rfl fun a7 h7 => ?_
  clear h6
  refine wv h7 (r_fieldB (r := 3) fl_28_3 rfl rfl rfl) rfl rfl fun a8 h8 => ?_
  clear h7
  refine wv h8 (r_ldb (i := 1) ti_3 rfl rfl rfl rfl) rfl rfl fun a9 h9 => ?_
  clear h8
  refine wv h9 (r_build (cs := [(.slice none 0 0), (.slice none 0 0), .int .i64 locks, .int .i64 regs]) rfl rfl (by kernel_rfl)) rfl rfl fun a10 h10 => ?_
  clear h9
  refine wl_ex (x_alloc h10 ti_28 rfl rfl rfl) (wanted_none rfl _) ?_
  rintro a11 w11 ⟨b11, h11⟩
  clear h10
  refine wl_ex (x_stb (i := 0) (vs := [(.slice none 0 0), (.slice none 0 0), .int .i64 locks, .int .i64 regs]) (cs' := [(.slice none 0 0), (.slice none 0 0), .int .i64 locks, .int .i64 regs]) h11 ti_28 rfl rfl rfl rfl rfl rfl rfl (allOne_cons rfl (allOne_cons rfl (allOne_cons rfl (allOne_cons rfl allOne_nil)))) (Nat.le_of_ble_eq_true rfl) rfl) (wanted_none rfl _) ?_
  rintro a12 w12 h12
  clear h11
  refine wpList_nil ?_
  refine hK5 _ _ ?_
  refine wp_seq_k fun K13 hK13 => ?_
  refine wp_region_lit ?_
  refine wl_ex (x_lit0 (α := Int) h12 sl_24 ti_3 rfl rfl rfl) (wanted_none rfl _) ?_
  rintro a14 w14 ⟨v14, h14⟩
  clear h12
  refine wv h14 (r_fieldB (r := 1) fl_28_1 rfl rfl rfl) rfl rfl fun a15 h15 => ?_
  clear h14
  refine wv h15 (r_ldb (i := 3) ti_24 rfl rfl rfl rfl) rfl rfl fun a16 h16 => ?_
  clear h15
  refine wl_ex (x_app (r := 0) (rm := 5) (s := (⟨v14, []⟩ : Ls Int)) (m := words) h16 sl_24 ti_3 rfl rfl rfl rfl rfl rfl rfl (fun w h => (h.at 5 rfl)) (fun b hb => .inr hb) (fun q hq b hb => .inr ⟨q, hq, hb⟩) rfl rfl rfl inferInstance (show (([]).length + words.l.length) * 8 ≤ 140737488355328 ∧ ([]).length + words.l.length ≤ 140737488355328 from (by first | omega | (simp only [List.length_append, List.length_cons, List.length_nil, List.length_set, List.length_replicate, List.length_map, List.length_range]; omega))) rfl rfl) (wanted_none rfl _) ?_
  rintro a17 w17 ⟨v17, h17⟩
  clear h16
  refine wv h17 (r_fieldB (r := 1) fl_28_1 rfl rfl rfl) rfl rfl fun a18 h18 => ?_
  clear h17
  refine wl_ex (x_stb (i := 1) (vs := [v17]) (cs' := [(.slice none 0 0), v17, .int .i64 locks, .int .i64 regs]) h18 ti_24 rfl rfl rfl rfl rfl (cells_oneL ((h18.sh.own 0 rfl)).one) rfl (allOne_cons ((h18.sh.own 0 rfl)).one allOne_nil) (Nat.le_of_ble_eq_true rfl) rfl) (wanted_none rfl _) ?_
  rintro a19 w19 h19
  clear h18
  refine wpList_nil ?_
  refine hK13 _ _ ?_
  refine wp_seq_k fun K20 hK20 => ?_
  refine wp_seq_k fun K21 hK21 => ?_
  refine wp_region_lit ?_
  refine wms 1 h19 rfl fun a22 h22 => ?_
  clear h19
  refine wpList_nil ?_
  refine hK21 _ _ ?_
  refine wp_block ?_
  have h24 := h22.nilDeep (α := Ls Ins) 64
  clear h22
  refine x_loop (fun m a w => ∃ (t : Nat) (qs : List (Ls Ins)) (vq : Value), (t ≤ code.l.length) ∧ (qs.map (·.l) = (List.range t).map (fun t => withL (nth (nth wr.l t).l) (nth code.l t).l)) ∧ (qs.length = t) ∧ St 76 (fun _ => False) W a w [(1, wr.v), (2, .pointer (some ⟨b3, 0, none⟩)), (4, .pointer (some ⟨b4, 0, none⟩)), (5, .pointer (some ⟨b11, 0, none⟩)), (6, .int .i64 ((t : Nat) : Int))] [.own 3 (⟨v17, words.l⟩ : Ls Int), .blk b11 28 [vq, v17, .int .i64 locks, .int .i64 regs], .blk b4 28 [(.slice none 0 0), (.slice none 0 0), .int .i64 0, .int .i64 0], .blk b3 28 [code.v, words.v, .int .i64 locks, .int .i64 regs], .at_ code, .at_ words, .at_ wr, .deep 64 (⟨vq, qs⟩ : Ls (Ls Ins))] ∧ m = code.l.length - t) ⟨_, 0, [], (.slice none 0 0), (by omega), (rfl), (rfl), ((h24.sub (F' := [(1, wr.v), (2, .pointer (some ⟨b3, 0, none⟩)), (4, .pointer (some ⟨b4, 0, none⟩)), (5, .pointer (some ⟨b11, 0, none⟩)), (6, .int .i64 0)]) ⟨rfl, rfl, rfl, rfl, rfl, trivial⟩).sel (L' := [.own 3 (⟨v17, words.l⟩ : Ls Int), .blk b11 28 [(.slice none 0 0), v17, .int .i64 locks, .int .i64 regs], .blk b4 28 [(.slice none 0 0), (.slice none 0 0), .int .i64 0, .int .i64 0], .blk b3 28 [code.v, words.v, .int .i64 locks, .int .i64 regs], .at_ code, .at_ words, .at_ wr, .deep 64 (⟨.slice none 0 0, []⟩ : Ls (Ls Ins))]) [1, 2, 3, 4, 5, 6, 7, 0] (by decide) ⟨rfl, rfl, rfl, rfl, rfl, rfl, rfl, rfl, trivial⟩), rfl⟩ ?_
  clear h24
  rintro m23 a23 w23 ⟨t, qs, vq, ht, hqs, hql, h23, hm23⟩
  refine wp_seq_k fun K25 hK25 => ?_
  refine wp_seq_k fun K26 hK26 => ?_
  refine wp_region_lit ?_
  refine wms 1 h23 rfl fun a27 h27 => ?_
  clear h23
  refine wv h27 (r_fieldB (r := 0) fl_28_0 rfl rfl rfl) rfl rfl fun a28 h28 => ?_
  clear h27
  refine wv h28 (r_ldb (i := 3) ti_26 rfl rfl rfl rfl) rfl rfl fun a29 h29 => ?_
  clear h28
  have hl30 : code.l.length ≤ 140737488355328 := (h29.sh.at 4 rfl).len
  refine wv h29 (r_len (s := code) (n := code.l.length) sl_26 rfl rfl (fun w h => (h.at 4 rfl)) rfl) rfl rfl fun a31 h31 => ?_
  clear h29
  refine wv h31 (r_lssN (p := t) (q := code.l.length) rfl rfl rfl) rfl rfl fun a32 h32 => ?_
  clear h31
  refine wpList_nil ?_
  refine hK26 _ _ ?_
  refine x_cond h32 rfl (fun hb33 => ?_) (fun hb33 => ?_)
  ·
    have hp33 : t < code.l.length := of_decide_eq_true hb33
    refine wp_skip ?_
    refine hK25 _ _ ?_
    refine wp_seq_k fun K34 hK34 => ?_
    refine wp_block ?_
    refine wp_seq_k fun K35 hK35 => ?_
    refine wp_region_lit ?_
    refine wms 1 h32 rfl fun a36 h36 => ?_
    clear h32
    refine wpList_nil ?_
    refine hK35 _ _ ?_
    refine wp_seq_k fun K37 hK37 => ?_
    refine wp_seq_k fun K38 hK38 => ?_
    refine wp_region_lit ?_
    refine wms 1 h36 rfl fun a39 h39 => ?_
    clear h36
    refine wpList_nil ?_
    refine hK38 _ _ ?_
    refine wp_block ?_
    have h41 := h39.nilDeep (α := Ls Ins) 64
    clear h39
    obtain ⟨hl4, hjt⟩ := ok_thread hok t (by omega)
    have hwt1 := hwt t (by omega)
    refine x_loop (fun m a w => ∃ (j : Nat) (bc : List (Ls Ins)) (vb : Value), (j ≤ (nth code.l t).l.length) ∧ (bc.map (·.l) = (List.range j).map (fun i => fenW (nth (nth wr.l t).l) i (nth (nth code.l t).l i))) ∧ (bc.length = j) ∧ St 76 (fun _ => False) W a w [(1, wr.v), (2, .pointer (some ⟨b3, 0, none⟩)), (4, .pointer (some ⟨b4, 0, none⟩)), (5, .pointer (some ⟨b11, 0, none⟩)), (6, .int .i64 ((t : Nat) : Int)), (7, vb), (8, .int .i64 ((j : Nat) : Int))] [.own 3 (⟨v17, words.l⟩ : Ls Int), .blk b11 28 [vq, v17, .int .i64 locks, .int .i64 regs], .blk b4 28 [(.slice none 0 0), (.slice none 0 0), .int .i64 0, .int .i64 0], .blk b3 28 [code.v, words.v, .int .i64 locks, .int .i64 regs], .at_ code, .at_ words, .at_ wr, .deep 64 (⟨vq, qs⟩ : Ls (Ls Ins)), .deep 64 (⟨vb, bc⟩ : Ls (Ls Ins))] ∧ m = (nth code.l t).l.length - j) ⟨_, 0, [], (.slice none 0 0), (by omega), (rfl), (rfl), ((h41.sub (F' := [(1, wr.v), (2, .pointer (some ⟨b3, 0, none⟩)), (4, .pointer (some ⟨b4, 0, none⟩)), (5, .pointer (some ⟨b11, 0, none⟩)), (6, .int .i64 ((t : Nat) : Int)), (7, (.slice none 0 0)), (8, .int .i64 0)]) ⟨rfl, rfl, rfl, rfl, rfl, rfl, rfl, trivial⟩).sel (L' := [.own 3 (⟨v17, words.l⟩ : Ls Int), .blk b11 28 [vq, v17, .int .i64 locks, .int .i64 regs], .blk b4 28 [(.slice none 0 0), (.slice none 0 0), .int .i64 0, .int .i64 0], .blk b3 28 [code.v, words.v, .int .i64 locks, .int .i64 regs], .at_ code, .at_ words, .at_ wr, .deep 64 (⟨vq, qs⟩ : Ls (Ls Ins)), .deep 64 (⟨.slice none 0 0, []⟩ : Ls (Ls Ins))]) [1, 2, 3, 4, 5, 6, 7, 8, 0] (by decide) ⟨rfl, rfl, rfl, rfl, rfl, rfl, rfl, rfl, rfl, trivial⟩), rfl⟩ ?_
    clear h41
    rintro m40 a40 w40 ⟨j, bc, vb, hj, hbc, hbl, h40, hm40⟩
    refine wp_seq_k fun K42 hK42 => ?_
    refine wp_seq_k fun K43 hK43 => ?_
    refine wp_region_lit ?_
    refine wms 1 h40 rfl fun a44 h44 => ?_
    clear h40
    refine wv h44 (r_fieldB (r := 0) fl_28_0 rfl rfl rfl) rfl rfl fun a45 h45 => ?_
    clear h44
    refine wv h45 (r_ldb (i := 3) ti_26 rfl rfl rfl rfl) rfl rfl fun a46 h46 => ?_
    clear h45
    refine wms 1 h46 rfl fun a47 h47 => ?_
    clear h46
    refine wv h47 (r_ixN (s := code) (q := t) sl_26 ti_64 rfl rfl rfl (fun w h => (h.at 4 rfl)) (show t < code.l.length from (by first | omega | (simp only [List.length_append, List.length_cons, List.length_nil, List.length_set, List.length_replicate, List.length_map, List.length_range]; omega)))) rfl rfl fun a48 h48 => ?_
    clear h47
    refine wv h48 (r_lde (s := code) (i := t) (v := (nth code.l t).v) ti_64 rfl rfl rfl (fun w h => (h.at 4 rfl)) (show t < code.l.length from (by first | omega | (simp only [List.length_append, List.length_cons, List.length_nil, List.length_set, List.length_replicate, List.length_map, List.length_range]; omega))) (Nat.le_of_ble_eq_true rfl) rfl) rfl rfl fun a49 h49 => ?_
    clear h48
    have hl50 : ((nth code.l t).l).length ≤ 140737488355328 := ((h49.sh.at 4 rfl).nth t (show t < code.l.length from (by first | omega | (simp only [List.length_append, List.length_cons, List.length_nil, List.length_set, List.length_replicate, List.length_map, List.length_range]; omega)))).len
    refine wv h49 (r_len (s := nth code.l t) (n := ((nth code.l t).l).length) sl_64 rfl rfl (fun w h => ((h.at 4 rfl).nth t (show t < code.l.length from (by first | omega | (simp only [List.length_append, List.length_cons, List.length_nil, List.length_set, List.length_replicate, List.length_map, List.length_range]; omega))))) rfl) rfl rfl fun a51 h51 => ?_
    clear h49
    refine wv h51 (r_lssN (p := j) (q := ((nth code.l t).l).length) rfl rfl rfl) rfl rfl fun a52 h52 => ?_
    clear h51
    refine wpList_nil ?_
    refine hK43 _ _ ?_
    refine x_cond h52 rfl (fun hb53 => ?_) (fun hb53 => ?_)
    ·
      have hp53 : j < ((nth code.l t).l).length := of_decide_eq_true hb53
      refine wp_skip ?_
      refine hK42 _ _ ?_
      refine wp_seq_k fun K54 hK54 => ?_
      refine wp_block ?_
      refine wp_seq_k fun K55 hK55 => ?_
      refine wp_region_lit ?_
      refine wv h52 (r_fieldB (r := 0) fl_28_0 rfl rfl rfl) rfl rfl fun a56 h56 => ?_
      clear h52
      refine wv h56 (r_ldb (i := 3) ti_26 rfl rfl rfl rfl) rfl rfl fun a57 h57 => ?_
      clear h56
      refine wms 1 h57 rfl fun a58 h58 => ?_
      clear h57
      refine wv h58 (r_ixN (s := code) (q := t) sl_26 ti_64 rfl rfl rfl (fun w h => (h.at 4 rfl)) (show t < code.l.length from (by first | omega | (simp only [List.length_append, List.length_cons, List.length_nil, List.length_set, List.length_replicate, List.length_map, List.length_range]; omega)))) rfl rfl fun a59 h59 => ?_
      clear h58
      refine wv h59 (r_lde (s := code) (i := t) (v := (nth code.l t).v) ti_64 rfl rfl rfl (fun w h => (h.at 4 rfl)) (show t < code.l.length from (by first | omega | (simp only [List.length_append, List.length_cons, List.length_nil, List.length_set, List.length_replicate, List.length_map, List.length_range]; omega))) (Nat.le_of_ble_eq_true rfl) rfl) rfl rfl fun a60 h60 => ?_
      clear h59
      refine wms 1 h60 rfl fun a61 h61 => ?_
      clear h60
      refine wv h61 (r_ixN (s := nth code.l t) (q := j) sl_64 ti_73 rfl rfl rfl (fun w h => ((h.at 4 rfl).nth t (show t < code.l.length from (by first | omega | (simp only [List.length_append, List.length_cons, List.length_nil, List.length_set, List.length_replicate, List.length_map, List.length_range]; omega))))) (show j < ((nth code.l t).l).length from (by first | omega | (simp only [List.length_append, List.length_cons, List.length_nil, List.length_set, List.length_replicate, List.length_map, List.length_range]; omega)))) rfl rfl fun a62 h62 => ?_
      clear h61
      refine wv h62 (r_ldew (s := nth code.l t) (i := j) (vs := [.int .i64 ((nth ((nth code.l t).l) j).op), .int .i64 ((nth ((nth code.l t).l) j).a), .int .i64 ((nth ((nth code.l t).l) j).b), .int .i64 ((nth ((nth code.l t).l) j).c)]) ti_73 rfl rfl rfl (fun w h => ((h.at 4 rfl).nth t (show t < code.l.length from (by first | omega | (simp only [List.length_append, List.length_cons, List.length_nil, List.length_set, List.length_replicate, List.length_map, List.length_range]; omega))))) (show j < ((nth code.l t).l).length from (by first | omega | (simp only [List.length_append, List.length_cons, List.length_nil, List.length_set, List.length_replicate, List.length_map, List.length_range]; omega))) (Nat.le_of_ble_eq_true rfl) rfl) rfl rfl fun a63 h63 => ?_
      clear h62
      refine wl_ex (x_lit (n := 1) (cs := [.int .i64 ((nth ((nth code.l t).l) j).op), .int .i64 ((nth ((nth code.l t).l) j).a), .int .i64 ((nth ((nth code.l t).l) j).b), .int .i64 ((nth ((nth code.l t).l) j).c)]) ([nth ((nth code.l t).l) j] : List Ins) h63 sl_64 ti_73 rfl rfl rfl (by decide) rfl (by kernel_rfl) rfl (fun q hq w h => Flat.inner _ _) (fun q hq b hb => (Flat.on _ _ hb).elim) rfl rfl) (wanted_none rfl _) ?_
      rintro a64 w64 ⟨v64, h64⟩
      clear h63
      refine wms 1 h64 rfl fun a65 h65 => ?_
      clear h64
      refine wpList_nil ?_
      refine hK55 _ _ ?_
      refine wp_seq_k fun K66 hK66 => ?_
      refine wp_seq_k fun K67 hK67 => ?_
      refine wp_region_lit ?_
      refine wms 2 h65 rfl fun a68 h68 => ?_
      clear h65
      have hl69 : wr.l.length ≤ 140737488355328 := (h68.sh.at 7 rfl).len
      refine wv h68 (r_ixN (s := wr) (q := t) sl_62 ti_66 rfl rfl rfl (fun w h => (h.at 7 rfl)) (show t < wr.l.length from (by first | omega | (simp only [List.length_append, List.length_cons, List.length_nil, List.length_set, List.length_replicate, List.length_map, List.length_range]; omega)))) rfl rfl fun a70 h70 => ?_
      clear h68
      refine wv h70 (r_lde (s := wr) (i := t) (v := (nth wr.l t).v) ti_66 rfl rfl rfl (fun w h => (h.at 7 rfl)) (show t < wr.l.length from (by first | omega | (simp only [List.length_append, List.length_cons, List.length_nil, List.length_set, List.length_replicate, List.length_map, List.length_range]; omega))) (Nat.le_of_ble_eq_true rfl) rfl) rfl rfl fun a71 h71 => ?_
      clear h70
      refine wms 1 h71 rfl fun a72 h72 => ?_
      clear h71
      have hl73 : ((nth wr.l t).l).length ≤ 140737488355328 := ((h72.sh.at 7 rfl).nth t (show t < wr.l.length from (by first | omega | (simp only [List.length_append, List.length_cons, List.length_nil, List.length_set, List.length_replicate, List.length_map, List.length_range]; omega)))).len
      refine wv h72 (r_ixN (s := nth wr.l t) (q := j) sl_66 ti_4 rfl rfl rfl (fun w h => ((h.at 7 rfl).nth t (show t < wr.l.length from (by first | omega | (simp only [List.length_append, List.length_cons, List.length_nil, List.length_set, List.length_replicate, List.length_map, List.length_range]; omega))))) (show j < ((nth wr.l t).l).length from (by first | omega | (simp only [List.length_append, List.length_cons, List.length_nil, List.length_set, List.length_replicate, List.length_map, List.length_range]; omega)))) rfl rfl fun a74 h74 => ?_
      clear h72
      refine wv h74 (r_lde (s := nth wr.l t) (i := j) (v := .bool (nth ((nth wr.l t).l) j)) ti_4 rfl rfl rfl (fun w h => ((h.at 7 rfl).nth t (show t < wr.l.length from (by first | omega | (simp only [List.length_append, List.length_cons, List.length_nil, List.length_set, List.length_replicate, List.length_map, List.length_range]; omega))))) (show j < ((nth wr.l t).l).length from (by first | omega | (simp only [List.length_append, List.length_cons, List.length_nil, List.length_set, List.length_replicate, List.length_map, List.length_range]; omega))) (Nat.le_of_ble_eq_true rfl) rfl) rfl rfl fun a75 h75 => ?_
      clear h74
      refine wpList_nil ?_
      refine hK67 _ _ ?_
      have h76 : St 76 (fun _ => False) W a75 w64 [(1, wr.v), (2, .pointer (some ⟨b3, 0, none⟩)), (4, .pointer (some ⟨b4, 0, none⟩)), (5, .pointer (some ⟨b11, 0, none⟩)), (6, .int .i64 ((t : Nat) : Int)), (7, vb), (8, .int .i64 ((j : Nat) : Int)), (9, v64), (53, .bool (nth ((nth wr.l t).l) j))] [.own 73 (⟨v64, [nth ((nth code.l t).l) j]⟩ : Ls Ins), .own 3 (⟨v17, words.l⟩ : Ls Int), .blk b11 28 [vq, v17, .int .i64 locks, .int .i64 regs], .blk b4 28 [(.slice none 0 0), (.slice none 0 0), .int .i64 0, .int .i64 0], .blk b3 28 [code.v, words.v, .int .i64 locks, .int .i64 regs], .at_ code, .at_ words, .at_ wr, .deep 64 (⟨vq, qs⟩ : Ls (Ls Ins)), .deep 64 (⟨vb, bc⟩ : Ls (Ls Ins))] := h75.nrm ⟨rfl, rfl, rfl, rfl, rfl, rfl, rfl, rfl, rfl, trivial⟩ [0, 1, 2, 3, 4, 5, 6, 7, 8, 9] (by decide) ⟨rfl, rfl, rfl, rfl, rfl, rfl, rfl, rfl, rfl, rfl, trivial⟩
      clear h75
      refine x_cond h76 rfl (fun hb77 => ?_) (fun hb77 => ?_)
      ·
        skip
        refine wp_region_lit ?_
        refine wms 1 h76 rfl fun a78 h78 => ?_
        clear h76
        refine wv h78 (r_build (cs := [.int .i64 12, .int .i64 0, .int .i64 0, .int .i64 0]) rfl rfl (by kernel_rfl)) rfl rfl fun a79 h79 => ?_
        clear h78
        refine wl_ex (x_lit (n := 1) (cs := [.int .i64 12, .int .i64 0, .int .i64 0, .int .i64 0]) ([⟨12, 0, 0, 0⟩] : List Ins) h79 sl_64 ti_73 rfl rfl rfl (by decide) rfl (by kernel_rfl) rfl (fun q hq w h => Flat.inner _ _) (fun q hq b hb => (Flat.on _ _ hb).elim) rfl rfl) (wanted_none rfl _) ?_
        rintro a80 w80 ⟨v80, h80⟩
        clear h79
        refine wl_ex (x_app (r := 1) (rm := 0) (s := (⟨v64, [nth ((nth code.l t).l) j]⟩ : Ls Ins)) (m := (⟨v80, [⟨12, 0, 0, 0⟩]⟩ : Ls Ins)) h80 sl_64 ti_73 rfl rfl rfl rfl rfl rfl rfl (fun w h => (h.own 0 rfl)) (fun b hb => own_on (h80.sh.ok _ (List.mem_of_getElem? (i := 0) rfl)) hb) (fun q hq b hb => ⟨q, hq, hb⟩) rfl rfl rfl inferInstance (show (([nth ((nth code.l t).l) j]).length + ([⟨12, 0, 0, 0⟩]).length) * 32 ≤ 140737488355328 ∧ ([nth ((nth code.l t).l) j]).length + ([⟨12, 0, 0, 0⟩]).length ≤ 140737488355328 from (by first | omega | (simp only [List.length_append, List.length_cons, List.length_nil, List.length_set, List.length_replicate, List.length_map, List.length_range]; omega))) rfl rfl) (wanted_none rfl _) ?_
        rintro a81 w81 ⟨v81, h81⟩
        clear h80
        refine wms 1 h81 rfl fun a82 h82 => ?_
        clear h81
        refine wpList_nil ?_
        refine hK66 _ _ ?_
        refine wp_region_lit ?_
        refine wms 2 h82 rfl fun a83 h83 => ?_
        clear h82
        have h84 := h83.sel (L' := [.own 73 (⟨v81, ([nth ((nth code.l t).l) j]) ++ ([⟨12, 0, 0, 0⟩])⟩ : Ls Ins), .own 73 (⟨v80, [⟨12, 0, 0, 0⟩]⟩ : Ls Ins), .own 3 (⟨v17, words.l⟩ : Ls Int), .blk b11 28 [vq, v17, .int .i64 locks, .int .i64 regs], .blk b4 28 [(.slice none 0 0), (.slice none 0 0), .int .i64 0, .int .i64 0], .blk b3 28 [code.v, words.v, .int .i64 locks, .int .i64 regs], .at_ code, .at_ words, .at_ wr, .deep 64 (⟨vq, qs⟩ : Ls (Ls Ins)), .deep 64 (⟨vb, bc⟩ : Ls (Ls Ins))]) [1, 0, 2, 3, 4, 5, 6, 7, 8, 9, 10] (by decide) ⟨rfl, rfl, rfl, rfl, rfl, rfl, rfl, rfl, rfl, rfl, rfl, trivial⟩
        refine wl_ex (x_litD (E := 0) (x := (⟨v81, ([nth ((nth code.l t).l) j]) ++ ([⟨12, 0, 0, 0⟩])⟩ : Ls Ins)) h84 sl_26 ti_64 rfl rfl rfl ((h84.sh.own 0 rfl)) (fun b hb => (own_on (h84.sh.ok _ (List.mem_of_getElem? (i := 0) rfl)) hb).elim (fun h => h) (fun h => Flat.noRd h)) (fun b hb => Flat.noRd hb) rfl rfl) (wanted_none rfl _) ?_
        rintro a85 w85 ⟨v85, h85⟩
        clear h84
        have h86 := h85.sel (L' := [.deep 64 (⟨vb, bc⟩ : Ls (Ls Ins)), .deep 64 (⟨v85, [(⟨v81, ([nth ((nth code.l t).l) j]) ++ ([⟨12, 0, 0, 0⟩])⟩ : Ls Ins)]⟩ : Ls (Ls Ins)), .own 73 (⟨v80, [⟨12, 0, 0, 0⟩]⟩ : Ls Ins), .own 3 (⟨v17, words.l⟩ : Ls Int), .blk b11 28 [vq, v17, .int .i64 locks, .int .i64 regs], .blk b4 28 [(.slice none 0 0), (.slice none 0 0), .int .i64 0, .int .i64 0], .blk b3 28 [code.v, words.v, .int .i64 locks, .int .i64 regs], .at_ code, .at_ words, .at_ wr, .deep 64 (⟨vq, qs⟩ : Ls (Ls Ins))]) [10, 0, 1, 2, 3, 4, 5, 6, 7, 8, 9] (by decide) ⟨rfl, rfl, rfl, rfl, rfl, rfl, rfl, rfl, rfl, rfl, rfl, trivial⟩
        refine wl_ex (x_appD (s := (⟨vb, bc⟩ : Ls (Ls Ins))) (m := (⟨v85, [(⟨v81, ([nth ((nth code.l t).l) j]) ++ ([⟨12, 0, 0, 0⟩])⟩ : Ls Ins)]⟩ : Ls (Ls Ins))) h86 sl_26 ti_64 rfl rfl rfl rfl rfl rfl rfl inferInstance (show (bc.length + ([(⟨v81, ([nth ((nth code.l t).l) j]) ++ ([⟨12, 0, 0, 0⟩])⟩ : Ls Ins)]).length) * 24 ≤ 140737488355328 ∧ bc.length + ([(⟨v81, ([nth ((nth code.l t).l) j]) ++ ([⟨12, 0, 0, 0⟩])⟩ : Ls Ins)]).length ≤ 140737488355328 from (by first | omega | (simp only [List.length_append, List.length_cons, List.length_nil, List.length_set, List.length_replicate, List.length_map, List.length_range]; omega))) rfl rfl) (wanted_none rfl _) ?_
        rintro a87 w87 ⟨v87, h87⟩
        clear h86
        refine wms 1 h87 rfl fun a88 h88 => ?_
        clear h87
        refine wpList_nil ?_
        refine hK54 _ _ ?_
        refine wp_region_lit ?_
        refine wms 1 h88 rfl fun a89 h89 => ?_
        clear h88
        refine wv h89 (r_addN (p := j) (q := 1) rfl rfl rfl (show j + 1 < 9223372036854775808 from (by first | omega | (simp only [List.length_append, List.length_cons, List.length_nil, List.length_set, List.length_replicate, List.length_map, List.length_range]; omega)))) rfl rfl fun a90 h90 => ?_
        clear h89
        refine wms 1 h90 rfl fun a91 h91 => ?_
        clear h90
        refine wpList_nil ?_
        refine x_again ⟨_, ?_, j + 1, bc ++ ([(⟨v81, ([nth ((nth code.l t).l) j]) ++ ([⟨12, 0, 0, 0⟩])⟩ : Ls Ins)]), v87, ?_, ?_, ?_, ((h91.sub (F' := [(1, wr.v), (2, .pointer (some ⟨b3, 0, none⟩)), (4, .pointer (some ⟨b4, 0, none⟩)), (5, .pointer (some ⟨b11, 0, none⟩)), (6, .int .i64 ((t : Nat) : Int)), (7, v87), (8, .int .i64 ((j + 1 : Nat) : Int))]) ⟨rfl, rfl, rfl, rfl, rfl, rfl, rfl, trivial⟩).sel (L' := [.own 3 (⟨v17, words.l⟩ : Ls Int), .blk b11 28 [vq, v17, .int .i64 locks, .int .i64 regs], .blk b4 28 [(.slice none 0 0), (.slice none 0 0), .int .i64 0, .int .i64 0], .blk b3 28 [code.v, words.v, .int .i64 locks, .int .i64 regs], .at_ code, .at_ words, .at_ wr, .deep 64 (⟨vq, qs⟩ : Ls (Ls Ins)), .deep 64 (⟨v87, bc ++ ([(⟨v81, ([nth ((nth code.l t).l) j]) ++ ([⟨12, 0, 0, 0⟩])⟩ : Ls Ins)])⟩ : Ls (Ls Ins))]) [2, 3, 4, 5, 6, 7, 8, 9, 0] (by decide) ⟨rfl, rfl, rfl, rfl, rfl, rfl, rfl, rfl, rfl, trivial⟩), rfl⟩
        · rw [hm40]; first | omega | (simp only [List.length_append, List.length_cons, List.length_nil, List.length_set, List.length_replicate, List.length_map, List.length_range]; omega)
        · omega
        · rw [List.map_append, hbc, List.range_succ, List.map_append]; congr 1; simp only [List.map_cons, List.map_nil]; congr 1; unfold fenW fenB; (repeat' split) <;> first | rfl | simp_all
        · simp [hbl]
      ·
        skip
        refine wp_skip ?_
        refine hK66 _ _ ?_
        refine wp_region_lit ?_
        refine wms 2 h76 rfl fun a92 h92 => ?_
        clear h76
        refine wl_ex (x_litD (E := 0) (x := (⟨v64, [nth ((nth code.l t).l) j]⟩ : Ls Ins)) h92 sl_26 ti_64 rfl rfl rfl ((h92.sh.own 0 rfl)) (fun b hb => (own_on (h92.sh.ok _ (List.mem_of_getElem? (i := 0) rfl)) hb).elim (fun h => h) (fun h => Flat.noRd h)) (fun b hb => Flat.noRd hb) rfl rfl) (wanted_none rfl _) ?_
        rintro a93 w93 ⟨v93, h93⟩
        clear h92
        have h94 := h93.sel (L' := [.deep 64 (⟨vb, bc⟩ : Ls (Ls Ins)), .deep 64 (⟨v93, [(⟨v64, [nth ((nth code.l t).l) j]⟩ : Ls Ins)]⟩ : Ls (Ls Ins)), .own 3 (⟨v17, words.l⟩ : Ls Int), .blk b11 28 [vq, v17, .int .i64 locks, .int .i64 regs], .blk b4 28 [(.slice none 0 0), (.slice none 0 0), .int .i64 0, .int .i64 0], .blk b3 28 [code.v, words.v, .int .i64 locks, .int .i64 regs], .at_ code, .at_ words, .at_ wr, .deep 64 (⟨vq, qs⟩ : Ls (Ls Ins))]) [9, 0, 1, 2, 3, 4, 5, 6, 7, 8] (by decide) ⟨rfl, rfl, rfl, rfl, rfl, rfl, rfl, rfl, rfl, rfl, trivial⟩
        refine wl_ex (x_appD (s := (⟨vb, bc⟩ : Ls (Ls Ins))) (m := (⟨v93, [(⟨v64, [nth ((nth code.l t).l) j]⟩ : Ls Ins)]⟩ : Ls (Ls Ins))) h94 sl_26 ti_64 rfl rfl rfl rfl rfl rfl rfl inferInstance (show (bc.length + ([(⟨v64, [nth ((nth code.l t).l) j]⟩ : Ls Ins)]).length) * 24 ≤ 140737488355328 ∧ bc.length + ([(⟨v64, [nth ((nth code.l t).l) j]⟩ : Ls Ins)]).length ≤ 140737488355328 from (by first | omega | (simp only [List.length_append, List.length_cons, List.length_nil, List.length_set, List.length_replicate, List.length_map, List.length_range]; omega))) rfl rfl) (wanted_none rfl _) ?_
        rintro a95 w95 ⟨v95, h95⟩
        clear h94
        refine wms 1 h95 rfl fun a96 h96 => ?_
        clear h95
        refine wpList_nil ?_
        refine hK54 _ _ ?_
        refine wp_region_lit ?_
        refine wms 1 h96 rfl fun a97 h97 => ?_
        clear h96
        refine wv h97 (r_addN (p := j) (q := 1) rfl rfl rfl (show j + 1 < 9223372036854775808 from (by first | omega | (simp only [List.length_append, List.length_cons, List.length_nil, List.length_set, List.length_replicate, List.length_map, List.length_range]; omega)))) rfl rfl fun a98 h98 => ?_
        clear h97
        refine wms 1 h98 rfl fun a99 h99 => ?_
        clear h98
        refine wpList_nil ?_
        refine x_again ⟨_, ?_, j + 1, bc ++ ([(⟨v64, [nth ((nth code.l t).l) j]⟩ : Ls Ins)]), v95, ?_, ?_, ?_, ((h99.sub (F' := [(1, wr.v), (2, .pointer (some ⟨b3, 0, none⟩)), (4, .pointer (some ⟨b4, 0, none⟩)), (5, .pointer (some ⟨b11, 0, none⟩)), (6, .int .i64 ((t : Nat) : Int)), (7, v95), (8, .int .i64 ((j + 1 : Nat) : Int))]) ⟨rfl, rfl, rfl, rfl, rfl, rfl, rfl, trivial⟩).sel (L' := [.own 3 (⟨v17, words.l⟩ : Ls Int), .blk b11 28 [vq, v17, .int .i64 locks, .int .i64 regs], .blk b4 28 [(.slice none 0 0), (.slice none 0 0), .int .i64 0, .int .i64 0], .blk b3 28 [code.v, words.v, .int .i64 locks, .int .i64 regs], .at_ code, .at_ words, .at_ wr, .deep 64 (⟨vq, qs⟩ : Ls (Ls Ins)), .deep 64 (⟨v95, bc ++ ([(⟨v64, [nth ((nth code.l t).l) j]⟩ : Ls Ins)])⟩ : Ls (Ls Ins))]) [1, 2, 3, 4, 5, 6, 7, 8, 0] (by decide) ⟨rfl, rfl, rfl, rfl, rfl, rfl, rfl, rfl, rfl, trivial⟩), rfl⟩
        · rw [hm40]; first | omega | (simp only [List.length_append, List.length_cons, List.length_nil, List.length_set, List.length_replicate, List.length_map, List.length_range]; omega)
        · omega
        · rw [List.map_append, hbc, List.range_succ, List.map_append]; congr 1; simp only [List.map_cons, List.map_nil]; congr 1; unfold fenW fenB; (repeat' split) <;> first | rfl | simp_all
        · simp [hbl]
    ·
      have hp53 : ¬ (j < ((nth code.l t).l).length) := of_decide_eq_false hb53
      refine wp_exit ?_
      refine hK37 _ _ ?_
      refine wp_seq_k fun K100 hK100 => ?_
      refine wp_region_lit ?_
      refine wms 1 h52 rfl fun a101 h101 => ?_
      clear h52
      refine wv h101 (r_fieldB (r := 0) fl_28_0 rfl rfl rfl) rfl rfl fun a102 h102 => ?_
      clear h101
      refine wv h102 (r_ldb (i := 3) ti_26 rfl rfl rfl rfl) rfl rfl fun a103 h103 => ?_
      clear h102
      refine wms 1 h103 rfl fun a104 h104 => ?_
      clear h103
      refine wv h104 (r_ixN (s := code) (q := t) sl_26 ti_64 rfl rfl rfl (fun w h => (h.at 4 rfl)) (show t < code.l.length from (by first | omega | (simp only [List.length_append, List.length_cons, List.length_nil, List.length_set, List.length_replicate, List.length_map, List.length_range]; omega)))) rfl rfl fun a105 h105 => ?_
      clear h104
      refine wv h105 (r_lde (s := code) (i := t) (v := (nth code.l t).v) ti_64 rfl rfl rfl (fun w h => (h.at 4 rfl)) (show t < code.l.length from (by first | omega | (simp only [List.length_append, List.length_cons, List.length_nil, List.length_set, List.length_replicate, List.length_map, List.length_range]; omega))) (Nat.le_of_ble_eq_true rfl) rfl) rfl rfl fun a106 h106 => ?_
      clear h105
      refine wl_ex (x_call h106 bd_73 rfl rfl rfl rfl rfl (rPut_c (⟨vb, bc⟩ : Ls (Ls Ins)) (nth code.l t) _ (h106.sh.deep 8 rfl) ((h106.sh.at 4 rfl).nth t (show t < code.l.length from (by first | omega | (simp only [List.length_append, List.length_cons, List.length_nil, List.length_set, List.length_replicate, List.length_map, List.length_range]; omega)))) (show bc.length = (nth code.l t).l.length by omega) (show (nth code.l t).l.length ≤ 5000 by omega) (show ∀ i, i < (nth code.l t).l.length → (nth bc i).l.length ≤ 8 from fun i hi => by have e : nth (bc.map (·.l)) i = nth ((List.range j).map (fun i => fenW (nth (nth wr.l t).l) i (nth (nth code.l t).l i))) i := (by rw [hbc]); rw [nth_map' _ _ _ (by omega), nth_map' _ _ _ (by simp; omega)] at e; rw [e]; exact Nat.le_trans (fenB_len _ _) (by omega)) (fenB_ok2 (nth (nth wr.l t).l) (nth code.l t).l hjt bc (by rw [hbc, becL, show j = (nth code.l t).l.length by omega])))) (wanted_none rfl _) ?_
      rintro a107 w107 ⟨_, ⟨s107, rfl, hl107, hs107⟩, hf107⟩
      have h107 := (⟨hf107, h106.sh.call hs107 (by intro A hA b hb; first | (simp at hA; done) | (simp at hA; subst hA; first | exact Flat.noRd hb | exact (hb : False).elim) | (simp at hA; rcases hA with rfl | rfl <;> first | exact Flat.noRd hb | exact (hb : False).elim))⟩ : St 76 (fun _ => False) W a107 w107 _ _)
      clear hf107 hs107
      clear h106
      refine wms 1 h107 rfl fun a108 h108 => ?_
      clear h107
      refine wpList_nil ?_
      refine hK100 _ _ ?_
      have hq1 : s107.l = withL (nth (nth wr.l t).l) (nth code.l t).l := by rw [withL, hl107, hbc, becL, show j = (nth code.l t).l.length by omega]
      refine wp_region_lit ?_
      refine wv h108 (r_fieldB (r := 0) fl_28_0 rfl rfl rfl) rfl rfl fun a109 h109 => ?_
      clear h108
      refine wv h109 (r_ldb (i := 2) ti_26 rfl rfl rfl rfl) rfl rfl fun a110 h110 => ?_
      clear h109
      refine wms 1 h110 rfl fun a111 h111 => ?_
      clear h110
      refine wl_ex (x_litD (E := 0) (x := s107) h111 sl_26 ti_64 rfl rfl rfl ((h111.sh.own 0 rfl)) (fun b hb => (own_on (h111.sh.ok _ (List.mem_of_getElem? (i := 0) rfl)) hb).elim (fun h => h) (fun h => Flat.noRd h)) (fun b hb => Flat.noRd hb) rfl rfl) (wanted_none rfl _) ?_
      rintro a112 w112 ⟨v112, h112⟩
      clear h111
      have h113 := h112.sel (L' := [.deep 64 (⟨vq, qs⟩ : Ls (Ls Ins)), .deep 64 (⟨v112, [s107]⟩ : Ls (Ls Ins)), .own 3 (⟨v17, words.l⟩ : Ls Int), .blk b11 28 [vq, v17, .int .i64 locks, .int .i64 regs], .blk b4 28 [(.slice none 0 0), (.slice none 0 0), .int .i64 0, .int .i64 0], .blk b3 28 [code.v, words.v, .int .i64 locks, .int .i64 regs], .at_ code, .at_ words, .at_ wr, .deep 64 (⟨vb, bc⟩ : Ls (Ls Ins))]) [8, 0, 1, 2, 3, 4, 5, 6, 7, 9] (by decide) ⟨rfl, rfl, rfl, rfl, rfl, rfl, rfl, rfl, rfl, rfl, trivial⟩
      refine wl_ex (x_appD (s := (⟨vq, qs⟩ : Ls (Ls Ins))) (m := (⟨v112, [s107]⟩ : Ls (Ls Ins))) h113 sl_26 ti_64 rfl rfl rfl rfl rfl rfl rfl inferInstance (show (qs.length + ([s107]).length) * 24 ≤ 140737488355328 ∧ qs.length + ([s107]).length ≤ 140737488355328 from (by first | omega | (simp only [List.length_append, List.length_cons, List.length_nil, List.length_set, List.length_replicate, List.length_map, List.length_range]; omega))) rfl rfl) (wanted_none rfl _) ?_
      rintro a114 w114 ⟨v114, h114⟩
      clear h113
      refine wv h114 (r_fieldB (r := 0) fl_28_0 rfl rfl rfl) rfl rfl fun a115 h115 => ?_
      clear h114
      refine wl_ex (x_stb (i := 2) (vs := [v114]) (cs' := [v114, v17, .int .i64 locks, .int .i64 regs]) h115 ti_26 rfl rfl rfl rfl rfl (cells_oneL ((h115.sh.deep 0 rfl)).one) rfl (allOne_cons ((h115.sh.deep 0 rfl)).one allOne_nil) (Nat.le_of_ble_eq_true rfl) rfl) (wanted_none rfl _) ?_
      rintro a116 w116 h116
      clear h115
      refine wpList_nil ?_
      refine hK34 _ _ ?_
      have h117 : St 76 (fun _ => False) W a116 w116 [(1, wr.v), (2, .pointer (some ⟨b3, 0, none⟩)), (4, .pointer (some ⟨b4, 0, none⟩)), (5, .pointer (some ⟨b11, 0, none⟩)), (6, .int .i64 ((t : Nat) : Int))] [.deep 64 (⟨v114, qs ++ ([s107])⟩ : Ls (Ls Ins)), .own 3 (⟨v17, words.l⟩ : Ls Int), .blk b11 28 [v114, v17, .int .i64 locks, .int .i64 regs], .blk b4 28 [(.slice none 0 0), (.slice none 0 0), .int .i64 0, .int .i64 0], .blk b3 28 [code.v, words.v, .int .i64 locks, .int .i64 regs], .at_ code, .at_ words, .at_ wr, .deep 64 (⟨vb, bc⟩ : Ls (Ls Ins))] := h116.nrm ⟨rfl, rfl, rfl, rfl, rfl, trivial⟩ [0, 1, 2, 3, 4, 5, 6, 7, 8] (by decide) ⟨rfl, rfl, rfl, rfl, rfl, rfl, rfl, rfl, rfl, trivial⟩
      clear h116
      refine wp_region_lit ?_
      refine wms 1 h117 rfl fun a118 h118 => ?_
      clear h117
      refine wv h118 (r_addN (p := t) (q := 1) rfl rfl rfl (show t + 1 < 9223372036854775808 from (by first | omega | (simp only [List.length_append, List.length_cons, List.length_nil, List.length_set, List.length_replicate, List.length_map, List.length_range]; omega)))) rfl rfl fun a119 h119 => ?_
      clear h118
      refine wms 1 h119 rfl fun a120 h120 => ?_
      clear h119
      refine wpList_nil ?_
      refine x_again ⟨_, ?_, t + 1, qs ++ ([s107]), v114, ?_, ?_, ?_, ((h120.sub (F' := [(1, wr.v), (2, .pointer (some ⟨b3, 0, none⟩)), (4, .pointer (some ⟨b4, 0, none⟩)), (5, .pointer (some ⟨b11, 0, none⟩)), (6, .int .i64 ((t + 1 : Nat) : Int))]) ⟨rfl, rfl, rfl, rfl, rfl, trivial⟩).sel (L' := [.own 3 (⟨v17, words.l⟩ : Ls Int), .blk b11 28 [v114, v17, .int .i64 locks, .int .i64 regs], .blk b4 28 [(.slice none 0 0), (.slice none 0 0), .int .i64 0, .int .i64 0], .blk b3 28 [code.v, words.v, .int .i64 locks, .int .i64 regs], .at_ code, .at_ words, .at_ wr, .deep 64 (⟨v114, qs ++ ([s107])⟩ : Ls (Ls Ins))]) [1, 2, 3, 4, 5, 6, 7, 0] (by decide) ⟨rfl, rfl, rfl, rfl, rfl, rfl, rfl, rfl, trivial⟩), rfl⟩
      · rw [hm23]; first | omega | (simp only [List.length_append, List.length_cons, List.length_nil, List.length_set, List.length_replicate, List.length_map, List.length_range]; omega)
      · omega
      · rw [List.map_append, hqs, List.range_succ, List.map_append]; simp [hq1]
      · simp [hql]
  ·
    have hp33 : ¬ (t < code.l.length) := of_decide_eq_false hb33
    refine wp_exit ?_
    refine hK20 _ _ ?_
    refine wp_seq_k fun K121 hK121 => ?_
    refine wp_region_lit ?_
    refine wv h32 (r_ldbw (i := 1) (vs := [vq, v17, .int .i64 locks, .int .i64 regs]) ti_28 rfl rfl rfl rfl rfl) rfl rfl fun a122 h122 => ?_
    clear h32
    refine wl_ex (x_stb (i := 2) (vs := [vq, v17, .int .i64 locks, .int .i64 regs]) (cs' := [vq, v17, .int .i64 locks, .int .i64 regs]) h122 ti_28 rfl rfl rfl rfl rfl rfl rfl (allOne_cons ((h122.sh.deep 7 rfl)).one (allOne_cons ((h122.sh.own 0 rfl)).one (allOne_cons rfl (allOne_cons rfl allOne_nil)))) (Nat.le_of_ble_eq_true rfl) rfl) (wanted_none rfl _) ?_
    rintro a123 w123 h123
    clear h122
    refine wpList_nil ?_
    refine hK121 _ _ ?_
    refine wp_ret ?_
    try simp only [Exit.then, Exit.inBlock]
    refine x_ret1c (fn := Try.f49) (t := 4) (i := 2) ti_28 rfl h123 rfl rfl rfl ?_
    refine ⟨⟨vq, qs⟩, ⟨v17, words.l⟩, rfl, ?_, rfl, (h123.sh.sel (L' := [.deep 64 (⟨vq, qs⟩ : Ls (Ls Ins)), .own 3 (⟨v17, words.l⟩ : Ls Int)]) [7, 0] (by decide) ⟨rfl, rfl, trivial⟩)⟩
    show qs.map (·.l) = _; rw [hqs, show t = code.l.length by omega]

set_option maxRecDepth 100000 in
set_option maxHeartbeats 2000000 in
theorem rStores_c (code : Ls (Ls Ins)) (words : Ls Int) (locks regs : Int) (W : World) (hcode : code.At W) (hwords : words.At W) (hok : OkPg (pgOf code words locks regs)) :
    Rets Try.prog 48 [.agg #[code.v, words.v, .int .i64 locks, .int .i64 regs]] W (fun v w' => ∃ o : Ls (Ls Bool), v = o.v ∧ o.l.map (·.l) = (List.range code.l.length).map (fun t => (nth code.l t).l.map (fun x => waitsB x.op)) ∧ Sh0 W w' [.deep 66 o]) := by
  have hz := checkG_ok hok
  obtain ⟨hl1, hl2, hl3, hl4', hl5, hl6, hl7⟩ := ok_len hok
  refine x_enter (N := 45) Try.func48 rfl Try.ntmps48 (Nat.le_of_ble_eq_true rfl) fun a1 hf1 => ?_
  have h1 : St 45 (fun _ => False) W a1 W [(0, .agg #[code.v, words.v, .int .i64 locks, .int .i64 regs])] [.at_ code, .at_ words] := ⟨hf1.sub ⟨rfl, trivial⟩, Sh0.ext2 hcode hwords⟩
  clear hf1
  refine wp_seq_k fun K2 hK2 => ?_
  refine wp_region_lit ?_
  refine wl_ex (x_box (cs := [code.v, words.v, .int .i64 locks, .int .i64 regs]) h1 rfl rfl rfl rfl rfl) (wanted_none rfl _) ?_
  rintro a3 w3 ⟨b3, h3⟩
  clear h1
  refine wms 1 h3 rfl fun a4 h4 => ?_
  clear h3
  refine wpList_nil ?_
  refine hK2 _ _ ?_
  refine wp_seq_k fun K5 hK5 => ?_
  refine wp_region_lit ?_
  refine wms 1 h4 rfl fun a6 h6 => ?_
  clear h4
  refine wpList_nil ?_
  refine hK5 _ _ ?_
  refine wp_seq_k fun K7 hK7 => ?_
  refine wp_seq_k fun K8 hK8 => ?_
  refine wp_region_lit ?_
  refine wms 1 h6 rfl fun a9 h9 => ?_
  clear h6
  refine wpList_nil ?_
  refine hK8 _ _ ?_
  refine wp_block ?_
  have h11 := h9.nilDeep (α := Ls Bool) 66
  clear h9
  refine x_loop (fun m a w => ∃ (t : Nat) (os : List (Ls Bool)) (vo : Value), (t ≤ code.l.length) ∧ (os.map (·.l) = (List.range t).map (fun t => (nth code.l t).l.map (fun x => waitsB x.op))) ∧ (os.length = t) ∧ St 45 (fun _ => False) W a w [(1, .pointer (some ⟨b3, 0, none⟩)), (3, vo), (4, .int .i64 ((t : Nat) : Int))] [.blk b3 28 [code.v, words.v, .int .i64 locks, .int .i64 regs], .at_ code, .at_ words, .deep 66 (⟨vo, os⟩ : Ls (Ls Bool))] ∧ m = code.l.length - t) ⟨_, 0, [], (.slice none 0 0), (by omega), (rfl), (rfl), ((h11.sub (F' := [(1, .pointer (some ⟨b3, 0, none⟩)), (3, (.slice none 0 0)), (4, .int .i64 0)]) ⟨rfl, rfl, rfl, trivial⟩).sel (L' := [.blk b3 28 [code.v, words.v, .int .i64 locks, .int .i64 regs], .at_ code, .at_ words, .deep 66 (⟨.slice none 0 0, []⟩ : Ls (Ls Bool))]) [1, 2, 3, 0] (by decide) ⟨rfl, rfl, rfl, rfl, trivial⟩), rfl⟩ ?_
  clear h11
  rintro m10 a10 w10 ⟨t, os, vo, ht, hos, hol, h10, hm10⟩
  refine wp_seq_k fun K12 hK12 => ?_
  refine wp_seq_k fun K13 hK13 => ?_
  refine wp_region_lit ?_
  refine wms 1 h10 rfl fun a14 h14 => ?_
  clear h10
  refine wv h14 (r_fieldB (r := 0) fl_28_0 rfl rfl rfl) rfl rfl fun a15 h15 => ?_
  clear h14
  refine wv h15 (r_ldb (i := 0) ti_26 rfl rfl rfl rfl) rfl rfl fun a16 h16 => ?_
  clear h15
  have hl17 : code.l.length ≤ 140737488355328 := (h16.sh.at 1 rfl).len
  refine wv h16 (r_len (s := code) (n := code.l.length) sl_26 rfl rfl (fun w h => (h.at 1 rfl)) rfl) rfl rfl fun a18 h18 => ?_
  clear h16
  refine wv h18 (r_lssN (p := t) (q := code.l.length) rfl rfl rfl) rfl rfl fun a19 h19 => ?_
  clear h18
  refine wpList_nil ?_
  refine hK13 _ _ ?_
  refine x_cond h19 rfl (fun hb20 => ?_) (fun hb20 => ?_)
  ·
    have hp20 : t < code.l.length := of_decide_eq_true hb20
    refine wp_skip ?_
    refine hK12 _ _ ?_
    obtain ⟨hl4, hjt⟩ := ok_thread hok t (by omega)
    refine wp_seq_k fun K21 hK21 => ?_
    refine wp_block ?_
    refine wp_seq_k fun K22 hK22 => ?_
    refine wp_region_lit ?_
    refine wv h19 (r_fieldB (r := 0) fl_28_0 rfl rfl rfl) rfl rfl fun a23 h23 => ?_
    clear h19
    refine wv h23 (r_ldb (i := 0) ti_26 rfl rfl rfl rfl) rfl rfl fun a24 h24 => ?_
    clear h23
    refine wms 1 h24 rfl fun a25 h25 => ?_
    clear h24
    refine wv h25 (r_ixN (s := code) (q := t) sl_26 ti_64 rfl rfl rfl (fun w h => (h.at 1 rfl)) (show t < code.l.length from (by first | omega | (simp only [List.length_append, List.length_cons, List.length_nil, List.length_set, List.length_replicate, List.length_map, List.length_range]; omega)))) rfl rfl fun a26 h26 => ?_
    clear h25
    refine wv h26 (r_lde (s := code) (i := t) (v := (nth code.l t).v) ti_64 rfl rfl rfl (fun w h => (h.at 1 rfl)) (show t < code.l.length from (by first | omega | (simp only [List.length_append, List.length_cons, List.length_nil, List.length_set, List.length_replicate, List.length_map, List.length_range]; omega))) (Nat.le_of_ble_eq_true rfl) rfl) rfl rfl fun a27 h27 => ?_
    clear h26
    have hl28 : ((nth code.l t).l).length ≤ 140737488355328 := ((h27.sh.at 1 rfl).nth t (show t < code.l.length from (by first | omega | (simp only [List.length_append, List.length_cons, List.length_nil, List.length_set, List.length_replicate, List.length_map, List.length_range]; omega)))).len
    refine wv h27 (r_len (s := nth code.l t) (n := ((nth code.l t).l).length) sl_64 rfl rfl (fun w h => ((h.at 1 rfl).nth t (show t < code.l.length from (by first | omega | (simp only [List.length_append, List.length_cons, List.length_nil, List.length_set, List.length_replicate, List.length_map, List.length_range]; omega))))) rfl) rfl rfl fun a29 h29 => ?_
    clear h27
    refine wl_ex (x_make (n := ((nth code.l t).l).length) (false : Bool) h29 sl_66 ti_4 rfl rfl rfl rfl rfl (show 1 * (((nth code.l t).l).length) ≤ 140737488355328 ∧ ((nth code.l t).l).length ≤ 140737488355328 from (by first | omega | (simp only [List.length_append, List.length_cons, List.length_nil, List.length_set, List.length_replicate, List.length_map, List.length_range]; omega))) (fun w => Flat.inner _ _) (fun b => Flat.on _ _) rfl rfl) (wanted_none rfl _) ?_
    rintro a30 w30 ⟨v30, h30⟩
    clear h29
    refine wms 1 h30 rfl fun a31 h31 => ?_
    clear h30
    refine wpList_nil ?_
    refine hK22 _ _ ?_
    refine wp_seq_k fun K32 hK32 => ?_
    refine wp_seq_k fun K33 hK33 => ?_
    refine wp_region_lit ?_
    refine wms 1 h31 rfl fun a34 h34 => ?_
    clear h31
    refine wpList_nil ?_
    refine hK33 _ _ ?_
    refine wp_block ?_
    refine x_loop (fun m a w => ∃ (i : Nat) (rl : List Bool), (i ≤ (nth code.l t).l.length) ∧ (rl.length = (nth code.l t).l.length) ∧ (∀ j, j < i → nth rl j = waitsB (nth (nth code.l t).l j).op) ∧ St 45 (fun _ => False) W a w [(1, .pointer (some ⟨b3, 0, none⟩)), (3, vo), (4, .int .i64 ((t : Nat) : Int)), (5, v30), (6, .int .i64 ((i : Nat) : Int))] [.own 4 (⟨v30, rl⟩ : Ls Bool), .blk b3 28 [code.v, words.v, .int .i64 locks, .int .i64 regs], .at_ code, .at_ words, .deep 66 (⟨vo, os⟩ : Ls (Ls Bool))] ∧ m = (nth code.l t).l.length - i) ⟨_, 0, List.replicate (((nth code.l t).l).length) false, (by omega), (by simp), (fun j hj => absurd hj (by omega)), ((h34.sub (F' := [(1, .pointer (some ⟨b3, 0, none⟩)), (3, vo), (4, .int .i64 ((t : Nat) : Int)), (5, v30), (6, .int .i64 0)]) ⟨rfl, rfl, rfl, rfl, rfl, trivial⟩).sel (L' := [.own 4 (⟨v30, List.replicate (((nth code.l t).l).length) false⟩ : Ls Bool), .blk b3 28 [code.v, words.v, .int .i64 locks, .int .i64 regs], .at_ code, .at_ words, .deep 66 (⟨vo, os⟩ : Ls (Ls Bool))]) [0, 1, 2, 3, 4] (by decide) ⟨rfl, rfl, rfl, rfl, rfl, trivial⟩), rfl⟩ ?_
    clear h34
    rintro m35 a35 w35 ⟨i, rl, hi, hrl, hdone, h35, hm35⟩
    refine wp_seq_k fun K36 hK36 => ?_
    refine wp_seq_k fun K37 hK37 => ?_
    refine wp_region_lit ?_
    refine wms 2 h35 rfl fun a38 h38 => ?_
    clear h35
    have hl39 : rl.length ≤ 140737488355328 := (h38.sh.own 0 rfl).len
    refine wv h38 (r_len (s := (⟨v30, rl⟩ : Ls Bool)) (n := rl.length) sl_66 rfl rfl (fun w h => (h.own 0 rfl)) rfl) rfl rfl fun a40 h40 => ?_
    clear h38
    refine wv h40 (r_lssN (p := i) (q := rl.length) rfl rfl rfl) rfl rfl fun a41 h41 => ?_
    clear h40
    refine wpList_nil ?_
    refine hK37 _ _ ?_
    refine x_cond h41 rfl (fun hb42 => ?_) (fun hb42 => ?_)
    ·
      have hp42 : i < rl.length := of_decide_eq_true hb42
      refine wp_skip ?_
      refine hK36 _ _ ?_
      refine wp_seq_k fun K43 hK43 => ?_
      refine wp_block ?_
      refine wp_region_lit ?_
      refine wms 2 h41 rfl fun a44 h44 => ?_
      clear h41
      refine wv h44 (r_fieldB (r := 0) fl_28_0 rfl rfl rfl) rfl rfl fun a45 h45 => ?_
      clear h44
      refine wv h45 (r_ldb (i := 1) ti_26 rfl rfl rfl rfl) rfl rfl fun a46 h46 => ?_
      clear h45
      refine wms 1 h46 rfl fun a47 h47 => ?_
      clear h46
      refine wv h47 (r_ixN (s := code) (q := t) sl_26 ti_64 rfl rfl rfl (fun w h => (h.at 2 rfl)) (show t < code.l.length from (by first | omega | (simp only [List.length_append, List.length_cons, List.length_nil, List.length_set, List.length_replicate, List.length_map, List.length_range]; omega)))) rfl rfl fun a48 h48 => ?_
      clear h47
      refine wv h48 (r_lde (s := code) (i := t) (v := (nth code.l t).v) ti_64 rfl rfl rfl (fun w h => (h.at 2 rfl)) (show t < code.l.length from (by first | omega | (simp only [List.length_append, List.length_cons, List.length_nil, List.length_set, List.length_replicate, List.length_map, List.length_range]; omega))) (Nat.le_of_ble_eq_true rfl) rfl) rfl rfl fun a49 h49 => ?_
      clear h48
      refine wms 1 h49 rfl fun a50 h50 => ?_
      clear h49
      refine wv h50 (r_ixN (s := nth code.l t) (q := i) sl_64 ti_73 rfl rfl rfl (fun w h => ((h.at 2 rfl).nth t (show t < code.l.length from (by first | omega | (simp only [List.length_append, List.length_cons, List.length_nil, List.length_set, List.length_replicate, List.length_map, List.length_range]; omega))))) (show i < ((nth code.l t).l).length from (by first | omega | (simp only [List.length_append, List.length_cons, List.length_nil, List.length_set, List.length_replicate, List.length_map, List.length_range]; omega)))) rfl rfl fun a51 h51 => ?_
      clear h50
      refine wv h51 (r_fieldE (r := 0) fl_73_0 rfl rfl rfl) rfl rfl fun a52 h52 => ?_
      clear h51
      refine wv h52 (r_lde (s := nth code.l t) (i := i) (v := .int .i64 ((nth ((nth code.l t).l) i).op)) ti_3 rfl rfl rfl (fun w h => ((h.at 2 rfl).nth t (show t < code.l.length from (by first | omega | (simp only [List.length_append, List.length_cons, List.length_nil, List.length_set, List.length_replicate, List.length_map, List.length_range]; omega))))) (show i < ((nth code.l t).l).length from (by first | omega | (simp only [List.length_append, List.length_cons, List.length_nil, List.length_set, List.length_replicate, List.length_map, List.length_range]; omega))) (Nat.le_of_ble_eq_true rfl) rfl) rfl rfl fun a53 h53 => ?_
      clear h52
      refine wl_ex (x_call h53 bd_91 rfl rfl rfl rfl rfl (rWaits_c ((nth ((nth code.l t).l) i).op) _)) (wanted_none rfl _) ?_
      rintro a54 w54 ⟨_, ⟨rfl, hs54⟩, hf54⟩
      have h54 : St 45 (fun _ => False) W a54 w54 _ _ := ⟨hf54, h53.sh.call0 hs54⟩
      clear hf54 hs54
      clear h53
      refine wv h54 (r_ixN (s := (⟨v30, rl⟩ : Ls Bool)) (q := i) sl_66 ti_4 rfl rfl rfl (fun w h => (h.own 0 rfl)) (show i < rl.length from (by first | omega | (simp only [List.length_append, List.length_cons, List.length_nil, List.length_set, List.length_replicate, List.length_map, List.length_range]; omega)))) rfl rfl fun a55 h55 => ?_
      clear h54
      refine wl_ex (x_ste (r := 0) (i := i) (j := 0) (x' := (waitsB ((nth ((nth code.l t).l) i).op) : Bool)) h55 ti_4 rfl rfl rfl rfl rfl (show i < rl.length from (by first | omega | (simp only [List.length_append, List.length_cons, List.length_nil, List.length_set, List.length_replicate, List.length_map, List.length_range]; omega))) (Nat.le_of_ble_eq_true rfl) rfl rfl rfl (by intro q hq; obtain rfl : q = 0 := (by omega); rfl) (fun w h => Flat.inner _ _) (fun b hb => (Flat.on _ _ hb).elim)) (wanted_none rfl _) ?_
      rintro a56 w56 h56
      clear h55
      refine wpList_nil ?_
      refine hK43 _ _ ?_
      refine wp_region_lit ?_
      refine wms 1 h56 rfl fun a57 h57 => ?_
      clear h56
      refine wv h57 (r_addN (p := i) (q := 1) rfl rfl rfl (show i + 1 < 9223372036854775808 from (by first | omega | (simp only [List.length_append, List.length_cons, List.length_nil, List.length_set, List.length_replicate, List.length_map, List.length_range]; omega)))) rfl rfl fun a58 h58 => ?_
      clear h57
      refine wms 1 h58 rfl fun a59 h59 => ?_
      clear h58
      refine wpList_nil ?_
      refine x_again ⟨_, ?_, i + 1, rl.set i (waitsB ((nth ((nth code.l t).l) i).op)), ?_, ?_, ?_, ((h59.sub (F' := [(1, .pointer (some ⟨b3, 0, none⟩)), (3, vo), (4, .int .i64 ((t : Nat) : Int)), (5, v30), (6, .int .i64 ((i + 1 : Nat) : Int))]) ⟨rfl, rfl, rfl, rfl, rfl, trivial⟩).sel (L' := [.own 4 (⟨v30, rl.set i (waitsB ((nth ((nth code.l t).l) i).op))⟩ : Ls Bool), .blk b3 28 [code.v, words.v, .int .i64 locks, .int .i64 regs], .at_ code, .at_ words, .deep 66 (⟨vo, os⟩ : Ls (Ls Bool))]) [0, 1, 2, 3, 4] (by decide) ⟨rfl, rfl, rfl, rfl, rfl, trivial⟩), rfl⟩
      · rw [hm35]; first | omega | (simp only [List.length_append, List.length_cons, List.length_nil, List.length_set, List.length_replicate, List.length_map, List.length_range]; omega)
      · omega
      · simpa using hrl
      · intro j hj; rw [nth_set]; split; (rename_i hh; obtain ⟨rfl, _⟩ := hh; rfl); exact hdone j (by omega)
    ·
      have hp42 : ¬ (i < rl.length) := of_decide_eq_false hb42
      refine wp_exit ?_
      refine hK32 _ _ ?_
      have hr1 := eq_wb _ rl hrl (fun j hj => hdone j (by omega))
      refine wp_region_lit ?_
      refine wms 2 h41 rfl fun a60 h60 => ?_
      clear h41
      refine wl_ex (x_litD (E := 0) (x := (⟨v30, rl⟩ : Ls Bool)) h60 sl_62 ti_66 rfl rfl rfl ((h60.sh.own 0 rfl)) (fun b hb => (own_on (h60.sh.ok _ (List.mem_of_getElem? (i := 0) rfl)) hb).elim (fun h => h) (fun h => Flat.noRd h)) (fun b hb => Flat.noRd hb) rfl rfl) (wanted_none rfl _) ?_
      rintro a61 w61 ⟨v61, h61⟩
      clear h60
      have h62 := h61.sel (L' := [.deep 66 (⟨vo, os⟩ : Ls (Ls Bool)), .deep 66 (⟨v61, [(⟨v30, rl⟩ : Ls Bool)]⟩ : Ls (Ls Bool)), .blk b3 28 [code.v, words.v, .int .i64 locks, .int .i64 regs], .at_ code, .at_ words]) [4, 0, 1, 2, 3] (by decide) ⟨rfl, rfl, rfl, rfl, rfl, trivial⟩
      refine wl_ex (x_appD (s := (⟨vo, os⟩ : Ls (Ls Bool))) (m := (⟨v61, [(⟨v30, rl⟩ : Ls Bool)]⟩ : Ls (Ls Bool))) h62 sl_62 ti_66 rfl rfl rfl rfl rfl rfl rfl inferInstance (show (os.length + ([(⟨v30, rl⟩ : Ls Bool)]).length) * 24 ≤ 140737488355328 ∧ os.length + ([(⟨v30, rl⟩ : Ls Bool)]).length ≤ 140737488355328 from (by first | omega | (simp only [List.length_append, List.length_cons, List.length_nil, List.length_set, List.length_replicate, List.length_map, List.length_range]; omega))) rfl rfl) (wanted_none rfl _) ?_
      rintro a63 w63 ⟨v63, h63⟩
      clear h62
      refine wms 1 h63 rfl fun a64 h64 => ?_
      clear h63
      refine wpList_nil ?_
      refine hK21 _ _ ?_
      refine wp_region_lit ?_
      refine wms 1 h64 rfl fun a65 h65 => ?_
      clear h64
      refine wv h65 (r_addN (p := t) (q := 1) rfl rfl rfl (show t + 1 < 9223372036854775808 from (by first | omega | (simp only [List.length_append, List.length_cons, List.length_nil, List.length_set, List.length_replicate, List.length_map, List.length_range]; omega)))) rfl rfl fun a66 h66 => ?_
      clear h65
      refine wms 1 h66 rfl fun a67 h67 => ?_
      clear h66
      refine wpList_nil ?_
      refine x_again ⟨_, ?_, t + 1, os ++ ([(⟨v30, rl⟩ : Ls Bool)]), v63, ?_, ?_, ?_, ((h67.sub (F' := [(1, .pointer (some ⟨b3, 0, none⟩)), (3, v63), (4, .int .i64 ((t + 1 : Nat) : Int))]) ⟨rfl, rfl, rfl, trivial⟩).sel (L' := [.blk b3 28 [code.v, words.v, .int .i64 locks, .int .i64 regs], .at_ code, .at_ words, .deep 66 (⟨v63, os ++ ([(⟨v30, rl⟩ : Ls Bool)])⟩ : Ls (Ls Bool))]) [1, 2, 3, 0] (by decide) ⟨rfl, rfl, rfl, rfl, trivial⟩), rfl⟩
      · rw [hm10]; first | omega | (simp only [List.length_append, List.length_cons, List.length_nil, List.length_set, List.length_replicate, List.length_map, List.length_range]; omega)
      · omega
      · rw [List.map_append, hos, List.range_succ, List.map_append]; simp [← hr1]
      · simp [hol]
  ·
    have hp20 : ¬ (t < code.l.length) := of_decide_eq_false hb20
    refine wp_exit ?_
    refine hK7 _ _ ?_
    refine wp_seq_k fun K68 hK68 => ?_
    refine wp_region_lit ?_
    refine wms 2 h19 rfl fun a69 h69 => ?_
    clear h19
    refine wpList_nil ?_
    refine hK68 _ _ ?_
    refine wp_ret ?_
    try simp only [Exit.then, Exit.inBlock]
    refine x_ret1 (fn := Try.f48) (t := 2) rfl h69 rfl ?_
    refine ⟨⟨vo, os⟩, rfl, ?_, (h69.sh.sel (L' := [.deep 66 (⟨vo, os⟩ : Ls (Ls Bool))]) [3] (by decide) ⟨rfl, trivial⟩)⟩
    show os.map (·.l) = _; rw [hos, show t = code.l.length by omega]

end Go.Proofs.Ytanhbpofhebbaaa
