/-
  Registers given: the program.
-/
import Derived.Test.YtfpaahkleienoaaA1
import Derived.Test.YtfpaahkleienoaaS22
namespace Go.Proofs.Ytfpaahkleienoaa
open Go.RowKit
set_option linter.unusedSimpArgs false
set_option linter.unusedVariables false


theorem nth_setP (l : List MP) (i k : Nat) (x : MP) : nth (l.set i x) k = if i = k ∧ i < l.length then x else nth l k := by
  simp only [nth, List.getD, List.getElem?_set]
  by_cases h : i = k
  · subst h
    by_cases h2 : i < l.length <;> simp [h2]
  · simp [h]
theorem mapsX_ok {K : Nat → Prop} {W w : World} {L : List Asn} {E : TypeId} {v : Value} {M : List MP} (h : Sh K W w L) (i : Nat) (hi : L[i]? = some (.big (mapsX E v M))) (t : Nat) (ht : t < M.length) : (Asn.mapO (nth M t).p (nth M t).l).ok w :=
  (h.ok _ (List.mem_of_getElem? hi)).1 _ (List.mem_cons_of_mem _ (List.mem_map.2 ⟨nth M t, nth_mem _ _ ht, rfl⟩))
theorem ro1 {A : Asn} {w : World} (h : A.ok w) : (Asn.ro [A]).ok w := fun B hB => by rw [List.mem_singleton.1 hB]; exact h
theorem colsB_len {code : List (Ls Ins)} {cols : List (Ls Int)} {f : Nat → Nat → Nat → Bool} {R : Nat} (h : colsB code cols f R = true) : cols.length = code.length ∧ ∀ t, t < code.length → (nth cols t).l.length = R := by
  unfold colsB at h
  simp only [Bool.and_eq_true, decide_eq_true_eq, List.all_eq_true, List.mem_range] at h
  refine ⟨h.1, fun t ht => ?_⟩
  have := h.2 t (by omega)
  unfold thB at this
  simp only [Bool.and_eq_true, decide_eq_true_eq] at this
  exact this.1

set_option maxRecDepth 100000 in
set_option maxHeartbeats 16000000 in
theorem apply_k (code : Ls (Ls Ins)) (words : Ls Int) (locks regs : Int) (cols : Ls (Ls Int)) (f : Nat → Nat → Nat → Bool) (W : World) (hcode : code.At W) (hwords : words.At W) (hcols : cols.At W) (hok : OkPg (pgOf code words locks regs)) (hF : ∀ t, t < code.l.length → ∀ r j, (f t r j = true ↔ LiveI (nth code.l t).l r j)) (hcb : (colsB code.l cols.l f regs.toNat) = true) (htot : words.l.length + tSp cols.l regs.toNat code.l.length ≤ 64) (hfit : ∀ t, t < code.l.length → (apT (nth code.l t).l (nth cols.l t).l (words.l.length + tSp cols.l regs.toNat t) regs.toNat).length ≤ 400) :
    Rets Try.prog 19 [.agg #[code.v, words.v, .int .i64 locks, .int .i64 regs], cols.v] W (fun v w' => ∃ (c : Ls (Ls Ins)) (u : Ls Int), v = .tuple #[.agg #[c.v, u.v, .int .i64 locks, .int .i64 8], .agg #[.int .i64 0, .int .i64 0, .int .i64 0]] ∧ c.l.map (·.l) = (List.range code.l.length).map (fun t => apT (nth code.l t).l (nth cols.l t).l (words.l.length + tSp cols.l regs.toNat t) regs.toNat) ∧ u.l = words.l ++ List.replicate (tSp cols.l regs.toNat code.l.length) 0 ∧ Sh0 W w' [.deep 33 c, .own 3 u]) := by
 have hz := checkG_ok hok
 obtain ⟨hl1, hl2, hl3, hl4', hl5, hl6, hl7⟩ := ok_len hok
 have hrg := hok.regs
 have hrg1 : (pgOf code words locks regs).regs = regs := rfl
 rw [hrg1] at hrg
 obtain ⟨hcc, hcr⟩ := colsB_len hcb
 refine x_enter (N := 117) Try.func19 rfl Try.ntmps19 (Nat.le_of_ble_eq_true rfl) fun a1 hf1 => ?_
 have h1 : St 117 (fun _ => False) W a1 W [(0, .agg #[code.v, words.v, .int .i64 locks, .int .i64 regs]), (1, cols.v)] [.at_ code, .at_ words, .at_ cols] := ⟨hf1.sub ⟨rfl, rfl, trivial⟩, Sh0.ext3 hcode hwords hcols⟩
 clear hf1
 refine wp_seq_k fun K2 hK2 => wp_region_lit <| wl_ex (x_box (cs := [code.v, words.v, .int .i64 locks, .int .i64 regs]) h1 rfl rfl rfl rfl rfl) (wanted_none rfl _) ?_
 rintro a3 w3 ⟨b3, h3⟩; clear h1
 refine wl_ex (x_alloc h3 ti_25 rfl rfl rfl) (wanted_none rfl _) ?_
 rintro a4 w4 ⟨b4, h4⟩; clear h3
 refine wl_ex (x_alloc h4 ti_28 rfl rfl rfl) (wanted_none rfl _) ?_
 rintro a5 w5 ⟨b5, h5⟩; clear h4
 refine wpList_nil <| hK2 _ _ <| wp_seq_k fun K6 hK6 => wp_seq_k fun K7 hK7 => wp_region_lit <| wv h5 (r_ldbw (i := 2) (vs := [code.v, words.v, .int .i64 locks, .int .i64 regs]) ti_25 rfl rfl rfl rfl rfl) rfl rfl fun a8 h8 => wl_ex (x_call h8 bd_46 rfl rfl rfl rfl rfl (asmCheck_c (code := code) (words := words) (locks := locks) (regs := regs) (h8.sh.at 3 rfl) (h8.sh.at 4 rfl))) (wanted_none rfl _) ?_; clear h5
 rintro a9 w9 ⟨_, ⟨rfl, hs9⟩, hf9⟩
 have h9 : St 117 (fun _ => False) W a9 w9 _ _ := ⟨hf9, h8.sh.call0 hs9⟩
 clear hf9 hs9
 clear h8
 refine wl_ex (x_alloc h9 ti_28 rfl rfl rfl) (wanted_none rfl _) ?_
 rintro a10 w10 ⟨b10, h10⟩; clear h9
 refine wl_ex (x_stb (i := 0) (vs := [.int .i64 ((checkG (pgOf code words locks regs)).code), .int .i64 ((checkG (pgOf code words locks regs)).thread), .int .i64 ((checkG (pgOf code words locks regs)).at_)]) (cs' := [.int .i64 ((checkG (pgOf code words locks regs)).code), .int .i64 ((checkG (pgOf code words locks regs)).thread), .int .i64 ((checkG (pgOf code words locks regs)).at_)]) h10 ti_28 rfl rfl rfl rfl rfl rfl rfl (allOne_cons rfl (allOne_cons rfl (allOne_cons rfl allOne_nil))) (Nat.le_of_ble_eq_true rfl) rfl) (wanted_none rfl _) ?_
 rintro a11 w11 h11
 clear h10
 refine wpList_nil <| hK7 _ _ <| wp_seq_k fun K12 hK12 => wp_region_lit <| wv h11 (r_fieldB (r := 0) fl_28_0 rfl rfl rfl) rfl rfl fun a13 h13 => wv h13 (r_ldb (i := 0) ti_26 rfl rfl rfl rfl) rfl rfl fun a14 h14 => wv h14 (r_neqI (p := (checkG (pgOf code words locks regs)).code) (q := 0) rfl rfl rfl) rfl rfl fun a15 h15 => wpList_nil <| hK12 _ _ <| x_condF h15 rfl (by rw [hz]; rfl) ?_; clear h11 h13 h14
 refine wp_skip <| hK6 _ _ <| wp_seq_k fun K16 hK16 => wp_seq_k fun K17 hK17 => wp_region_lit <| wv h15 (r_ldbw (i := 3) (vs := [code.v, words.v, .int .i64 locks, .int .i64 regs]) ti_25 rfl rfl rfl rfl rfl) rfl rfl fun a18 h18 => wms 1 h18 rfl fun a19 h19 => wl_ex (x_call h19 bd_54 rfl rfl rfl rfl rfl (is_c code words locks regs cols f _ (h19.sh.at 4 rfl) (h19.sh.at 5 rfl) (h19.sh.at 6 rfl) hok hF)) (wanted_none rfl _) ?_; clear h15 h18
 rintro a20 w20 ⟨_, ⟨rfl, hs20⟩, hf20⟩
 have h20 : St 117 (fun _ => False) W a20 w20 _ _ := ⟨hf20, h19.sh.call0 hs20⟩
 clear hf20 hs20
 clear h19
 refine wv h20 (r_not rfl rfl) rfl rfl fun a21 h21 => wpList_nil <| hK17 _ _ <| x_condF h21 rfl (by rw [hcb]; rfl) ?_; clear h20
 refine wp_skip <| hK16 _ _ <| wp_seq_k fun K22 hK22 => ?_
 have h23 : St 117 (fun _ => False) W a21 w20 [(0, .agg #[code.v, words.v, .int .i64 locks, .int .i64 regs]), (1, cols.v), (2, .pointer (some ⟨b3, 0, none⟩)), (4, .pointer (some ⟨b4, 0, none⟩)), (5, .pointer (some ⟨b5, 0, none⟩)), (6, .pointer (some ⟨b10, 0, none⟩)), (17, .agg #[code.v, words.v, .int .i64 locks, .int .i64 regs]), (18, .agg #[.int .i64 ((checkG (pgOf code words locks regs)).code), .int .i64 ((checkG (pgOf code words locks regs)).thread), .int .i64 ((checkG (pgOf code words locks regs)).at_)]), (19, .pointer (some ⟨b10, 0, none⟩)), (20, .int .i64 ((checkG (pgOf code words locks regs)).code)), (21, .bool (decide ((checkG (pgOf code words locks regs)).code ≠ 0))), (24, .agg #[code.v, words.v, .int .i64 locks, .int .i64 regs]), (25, cols.v), (26, .bool (colsB code.l cols.l f regs.toNat)), (27, .bool (!(colsB code.l cols.l f regs.toNat)))] [.blk b10 28 [.int .i64 ((checkG (pgOf code words locks regs)).code), .int .i64 ((checkG (pgOf code words locks regs)).thread), .int .i64 ((checkG (pgOf code words locks regs)).at_)], .blk b5 28 [.int .i64 0, .int .i64 0, .int .i64 0], .blk b4 25 [(.slice none 0 0), (.slice none 0 0), .int .i64 0, .int .i64 0], .blk b3 25 [code.v, words.v, .int .i64 locks, .int .i64 regs], .at_ code, .at_ words, .at_ cols] := h21.nrm ⟨rfl, rfl, rfl, rfl, rfl, rfl, rfl, rfl, rfl, rfl, rfl, rfl, rfl, rfl, rfl, trivial⟩ [0, 1, 2, 3, 4, 5, 6] (by decide) ⟨rfl, rfl, rfl, rfl, rfl, rfl, rfl, trivial⟩
 clear h21
 refine x_any ((fun Φ Ψ S a w => (S 4 = false ∧ S 6 = false ∧ S 7 = false ∧ FrI 117 S Φ Ψ a ∧ Sh (fun _ => False) W w [.blk b10 28 [.int .i64 ((checkG (pgOf code words locks regs)).code), .int .i64 ((checkG (pgOf code words locks regs)).thread), .int .i64 ((checkG (pgOf code words locks regs)).at_)], .blk b5 28 [.int .i64 0, .int .i64 0, .int .i64 0], .blk b4 25 [(.slice none 0 0), (.slice none 0 0), .int .i64 0, .int .i64 0], .blk b3 25 [code.v, words.v, .int .i64 locks, .int .i64 regs], .at_ code, .at_ words, .at_ cols]) ∨ (S 4 = true ∧ S 6 = false ∧ S 7 = false ∧ ∃ (s7004 : Ls Int), FrI 117 S Φ (Ψ ++ [(4, 34, s7004.v), (5, 35, .agg #[(.slice none 0 0), s7004.v, .int .i64 locks, .int .i64 8])]) a ∧ Sh (fun _ => False) W w [.own 3 (⟨s7004.v, words.l⟩ : Ls Int), .blk b10 28 [.int .i64 ((checkG (pgOf code words locks regs)).code), .int .i64 ((checkG (pgOf code words locks regs)).thread), .int .i64 ((checkG (pgOf code words locks regs)).at_)], .blk b5 28 [.int .i64 0, .int .i64 0, .int .i64 0], .blk b4 25 [(.slice none 0 0), (.slice none 0 0), .int .i64 0, .int .i64 0], .blk b3 25 [code.v, words.v, .int .i64 locks, .int .i64 regs], .at_ code, .at_ words, .at_ cols]) ∨ (S 4 = false ∧ S 6 = true ∧ S 7 = false ∧ ∃ (b7006 : Nat), FrI 117 S Φ (Ψ ++ [(6, 7, .pointer (some ⟨b7006, 0, none⟩))]) a ∧ Sh (fun _ => False) W w [.blk b7006 25 [(.slice none 0 0), (.slice none 0 0), .int .i64 0, .int .i64 0], .blk b10 28 [.int .i64 ((checkG (pgOf code words locks regs)).code), .int .i64 ((checkG (pgOf code words locks regs)).thread), .int .i64 ((checkG (pgOf code words locks regs)).at_)], .blk b5 28 [.int .i64 0, .int .i64 0, .int .i64 0], .blk b4 25 [(.slice none 0 0), (.slice none 0 0), .int .i64 0, .int .i64 0], .blk b3 25 [code.v, words.v, .int .i64 locks, .int .i64 regs], .at_ code, .at_ words, .at_ cols]) ∨ (S 4 = true ∧ S 6 = true ∧ S 7 = false ∧ ∃ (s7004 : Ls Int) (b7006 : Nat), FrI 117 S Φ (Ψ ++ [(4, 34, s7004.v), (5, 35, .agg #[(.slice none 0 0), s7004.v, .int .i64 locks, .int .i64 8]), (6, 7, .pointer (some ⟨b7006, 0, none⟩))]) a ∧ Sh (fun _ => False) W w [.blk b7006 25 [(.slice none 0 0), (.slice none 0 0), .int .i64 0, .int .i64 0], .own 3 (⟨s7004.v, words.l⟩ : Ls Int), .blk b10 28 [.int .i64 ((checkG (pgOf code words locks regs)).code), .int .i64 ((checkG (pgOf code words locks regs)).thread), .int .i64 ((checkG (pgOf code words locks regs)).at_)], .blk b5 28 [.int .i64 0, .int .i64 0, .int .i64 0], .blk b4 25 [(.slice none 0 0), (.slice none 0 0), .int .i64 0, .int .i64 0], .blk b3 25 [code.v, words.v, .int .i64 locks, .int .i64 regs], .at_ code, .at_ words, .at_ cols]) ∨ (S 4 = true ∧ S 6 = true ∧ S 7 = true ∧ ∃ (s7004 : Ls Int) (b7006 : Nat), FrI 117 S Φ (Ψ ++ [(4, 34, s7004.v), (5, 35, .agg #[(.slice none 0 0), s7004.v, .int .i64 locks, .int .i64 8]), (6, 7, .pointer (some ⟨b7006, 0, none⟩))]) a ∧ Sh (fun _ => False) W w [.blk b7006 25 [(.slice none 0 0), s7004.v, .int .i64 locks, .int .i64 8], .own 3 (⟨s7004.v, words.l⟩ : Ls Int), .blk b10 28 [.int .i64 ((checkG (pgOf code words locks regs)).code), .int .i64 ((checkG (pgOf code words locks regs)).thread), .int .i64 ((checkG (pgOf code words locks regs)).at_)], .blk b5 28 [.int .i64 0, .int .i64 0, .int .i64 0], .blk b4 25 [(.slice none 0 0), (.slice none 0 0), .int .i64 0, .int .i64 0], .blk b3 25 [code.v, words.v, .int .i64 locks, .int .i64 regs], .at_ code, .at_ words, .at_ cols])) [(0, .agg #[code.v, words.v, .int .i64 locks, .int .i64 regs]), (1, cols.v), (2, .pointer (some ⟨b3, 0, none⟩)), (4, .pointer (some ⟨b4, 0, none⟩)), (5, .pointer (some ⟨b5, 0, none⟩)), (6, .pointer (some ⟨b10, 0, none⟩)), (17, .agg #[code.v, words.v, .int .i64 locks, .int .i64 regs]), (18, .agg #[.int .i64 ((checkG (pgOf code words locks regs)).code), .int .i64 ((checkG (pgOf code words locks regs)).thread), .int .i64 ((checkG (pgOf code words locks regs)).at_)]), (19, .pointer (some ⟨b10, 0, none⟩)), (20, .int .i64 ((checkG (pgOf code words locks regs)).code)), (21, .bool (decide ((checkG (pgOf code words locks regs)).code ≠ 0))), (24, .agg #[code.v, words.v, .int .i64 locks, .int .i64 regs]), (25, cols.v), (26, .bool (colsB code.l cols.l f regs.toNat)), (27, .bool (!(colsB code.l cols.l f regs.toNat)))] [(0, 30, .pointer (some ⟨b3, 2, none⟩)), (1, 31, .int .i64 locks), (2, 32, .pointer (some ⟨b3, 1, none⟩)), (3, 33, words.v)]) (by kernel_rfl) (by kernel_rfl) (Or.inl (⟨rfl, rfl, rfl, FrI.start h23.fr, h23.sh.drew⟩)) ?_ ?_
 ·intro S i o ho hSi hcl hdep a w hI
  clear h23
  rcases i with _ | _ | _ | _ | _ | _ | _ | _ | i
  ·obtain rfl : _ = o := Option.some.inj ho
   rcases hI with ⟨ν4, ν6, ν7, φ, ς⟩ | ⟨ν4, ν6, ν7, s7004, φ, ς⟩ | ⟨ν4, ν6, ν7, b7006, φ, ς⟩ | ⟨ν4, ν6, ν7, s7004, b7006, φ, ς⟩ | ⟨_, _, ν7, _⟩
   ·exact sq φ φ.fr0 ς (r_fieldB (r := 2) fl_25_2 rfl rfl rfl) 0 rfl rfl rfl rfl rfl rfl fun a hg => Or.inl (⟨un rfl ν4, un rfl ν6, un rfl ν7, hg, ς⟩)
   ·exact sq φ φ.fr0 ς (r_fieldB (r := 2) fl_25_2 rfl rfl rfl) 0 rfl rfl rfl rfl rfl rfl fun a hg => Or.inr (Or.inl (⟨un rfl ν4, un rfl ν6, un rfl ν7, s7004, hg, ς⟩))
   ·exact sq φ φ.fr0 ς (r_fieldB (r := 2) fl_25_2 rfl rfl rfl) 0 rfl rfl rfl rfl rfl rfl fun a hg => Or.inr (Or.inr (Or.inl (⟨un rfl ν4, un rfl ν6, un rfl ν7, b7006, hg, ς⟩)))
   ·exact sq φ φ.fr0 ς (r_fieldB (r := 2) fl_25_2 rfl rfl rfl) 0 rfl rfl rfl rfl rfl rfl fun a hg => Or.inr (Or.inr (Or.inr (Or.inl (⟨un rfl ν4, un rfl ν6, un rfl ν7, s7004, b7006, hg, ς⟩))))
   ·exact no_way (cA hcl 7 0 rfl ν7) hSi
  ·obtain rfl : _ = o := Option.some.inj ho
   have hd0 : S 0 = true := depAt hdep 0 rfl rfl
   rcases hI with ⟨ν4, ν6, ν7, φ, ς⟩ | ⟨ν4, ν6, ν7, s7004, φ, ς⟩ | ⟨ν4, ν6, ν7, b7006, φ, ς⟩ | ⟨ν4, ν6, ν7, s7004, b7006, φ, ς⟩ | ⟨_, _, ν7, _⟩
   ·exact sq φ (Fr.cons φ.fr0 (φ.at_ 0 0 30 _ rfl hd0)) ς (r_ldb (i := 3) ti_3 rfl rfl rfl rfl) 1 rfl rfl rfl rfl rfl rfl fun a hg => Or.inl (⟨un rfl ν4, un rfl ν6, un rfl ν7, hg, ς⟩)
   ·exact sq φ (Fr.cons φ.fr0 (φ.at_ 0 0 30 _ rfl hd0)) ς (r_ldb (i := 4) ti_3 rfl rfl rfl rfl) 1 rfl rfl rfl rfl rfl rfl fun a hg => Or.inr (Or.inl (⟨un rfl ν4, un rfl ν6, un rfl ν7, s7004, hg, ς⟩))
   ·exact sq φ (Fr.cons φ.fr0 (φ.at_ 0 0 30 _ rfl hd0)) ς (r_ldb (i := 4) ti_3 rfl rfl rfl rfl) 1 rfl rfl rfl rfl rfl rfl fun a hg => Or.inr (Or.inr (Or.inl (⟨un rfl ν4, un rfl ν6, un rfl ν7, b7006, hg, ς⟩)))
   ·exact sq φ (Fr.cons φ.fr0 (φ.at_ 0 0 30 _ rfl hd0)) ς (r_ldb (i := 5) ti_3 rfl rfl rfl rfl) 1 rfl rfl rfl rfl rfl rfl fun a hg => Or.inr (Or.inr (Or.inr (Or.inl (⟨un rfl ν4, un rfl ν6, un rfl ν7, s7004, b7006, hg, ς⟩))))
   ·exact no_way (cA hcl 7 1 rfl ν7) hSi
  ·obtain rfl : _ = o := Option.some.inj ho
   rcases hI with ⟨ν4, ν6, ν7, φ, ς⟩ | ⟨ν4, _⟩ | ⟨ν4, ν6, ν7, b7006, φ, ς⟩ | ⟨ν4, _⟩ | ⟨ν4, _⟩
   ·exact sq φ φ.fr0 ς (r_fieldB (r := 1) fl_25_1 rfl rfl rfl) 2 rfl rfl rfl rfl rfl rfl fun a hg => Or.inl (⟨un rfl ν4, un rfl ν6, un rfl ν7, hg, ς⟩)
   ·exact no_way (cA hcl 4 2 rfl ν4) hSi
   ·exact sq φ φ.fr0 ς (r_fieldB (r := 1) fl_25_1 rfl rfl rfl) 2 rfl rfl rfl rfl rfl rfl fun a hg => Or.inr (Or.inr (Or.inl (⟨un rfl ν4, un rfl ν6, un rfl ν7, b7006, hg, ς⟩)))
   ·exact no_way (cA hcl 4 2 rfl ν4) hSi
   ·exact no_way (cA hcl 4 2 rfl ν4) hSi
  ·obtain rfl : _ = o := Option.some.inj ho
   have hd2 : S 2 = true := depAt hdep 0 rfl rfl
   rcases hI with ⟨ν4, ν6, ν7, φ, ς⟩ | ⟨ν4, _⟩ | ⟨ν4, ν6, ν7, b7006, φ, ς⟩ | ⟨ν4, _⟩ | ⟨ν4, _⟩
   ·exact sq φ (Fr.cons φ.fr0 (φ.at_ 2 2 32 _ rfl hd2)) ς (r_ldb (i := 3) ti_23 rfl rfl rfl rfl) 3 rfl rfl rfl rfl rfl rfl fun a hg => Or.inl (⟨un rfl ν4, un rfl ν6, un rfl ν7, hg, ς⟩)
   ·exact no_way (cA hcl 4 3 rfl ν4) hSi
   ·exact sq φ (Fr.cons φ.fr0 (φ.at_ 2 2 32 _ rfl hd2)) ς (r_ldb (i := 4) ti_23 rfl rfl rfl rfl) 3 rfl rfl rfl rfl rfl rfl fun a hg => Or.inr (Or.inr (Or.inl (⟨un rfl ν4, un rfl ν6, un rfl ν7, b7006, hg, ς⟩)))
   ·exact no_way (cA hcl 4 3 rfl ν4) hSi
   ·exact no_way (cA hcl 4 3 rfl ν4) hSi
  ·obtain rfl : _ = o := Option.some.inj ho
   have hd3 : S 3 = true := depAt hdep 0 rfl rfl
   rcases hI with ⟨ν4, ν6, ν7, φ, ς⟩ | ⟨ν4, _⟩ | ⟨ν4, ν6, ν7, b7006, φ, ς⟩ | ⟨ν4, _⟩ | ⟨ν4, _⟩
   ·have hs := St.mk (Fr.cons φ.fr0 (φ.at_ 3 3 33 _ rfl hd3)) ς
    refine step_ex (x_call hs bd_47 rfl rfl rfl rfl rfl (cloneI_c words _ (hs.sh.at 5 rfl) (by first | omega | (simp only [lens9]; omega)))) (wanted_none rfl _) ?_
    rintro a40 w40 ⟨_, ⟨s40, rfl, hs40⟩, hf40⟩ ⟨v0, ht40⟩
    have h40 := (⟨hf40, hs.sh.call hs40 (by intro A hA b hb; first | (simp at hA; done) | (simp at hA; subst hA; first | exact Flat.noRd hb | exact (hb : False).elim) | (simp at hA; rcases hA with rfl | rfl <;> first | exact Flat.noRd hb | exact (hb : False).elim))⟩ : St 117 (fun _ => False) W a40 w40 _ _)
    clear hf40 hs40
    exact Or.inr (Or.inl (⟨upd_self _ _, un rfl ν6, un rfl ν7, s40, φ.stepW hcl hSi [0, 1, 2, 3] (by kernel_rfl) (by kernel_rfl) ht40 h40.fr.defers (h40.fr.at_ 34 _ rfl) 4 rfl rfl rfl rfl, (h40.sh.sel (L' := [.own 3 (⟨s40.v, words.l⟩ : Ls Int), .blk b10 28 [.int .i64 ((checkG (pgOf code words locks regs)).code), .int .i64 ((checkG (pgOf code words locks regs)).thread), .int .i64 ((checkG (pgOf code words locks regs)).at_)], .blk b5 28 [.int .i64 0, .int .i64 0, .int .i64 0], .blk b4 25 [(.slice none 0 0), (.slice none 0 0), .int .i64 0, .int .i64 0], .blk b3 25 [code.v, words.v, .int .i64 locks, .int .i64 regs], .at_ code, .at_ words, .at_ cols]) [0, 1, 2, 3, 4, 5, 6, 7] (by decide) ⟨rfl, rfl, rfl, rfl, rfl, rfl, rfl, rfl, trivial⟩)⟩))
   ·exact no_way ν4 hSi
   ·have hs := St.mk (Fr.cons φ.fr0 (φ.at_ 3 3 33 _ rfl hd3)) ς
    refine step_ex (x_call hs bd_47 rfl rfl rfl rfl rfl (cloneI_c words _ (hs.sh.at 6 rfl) (by first | omega | (simp only [lens9]; omega)))) (wanted_none rfl _) ?_
    rintro a41 w41 ⟨_, ⟨s41, rfl, hs41⟩, hf41⟩ ⟨v0, ht41⟩
    have h41 := (⟨hf41, hs.sh.call hs41 (by intro A hA b hb; first | (simp at hA; done) | (simp at hA; subst hA; first | exact Flat.noRd hb | exact (hb : False).elim) | (simp at hA; rcases hA with rfl | rfl <;> first | exact Flat.noRd hb | exact (hb : False).elim))⟩ : St 117 (fun _ => False) W a41 w41 _ _)
    clear hf41 hs41
    exact Or.inr (Or.inr (Or.inr (Or.inl (⟨upd_self _ _, un rfl ν6, un rfl ν7, s41, b7006, φ.stepW hcl hSi [0, 1, 2, 3, 6] (by kernel_rfl) (by kernel_rfl) ht41 h41.fr.defers (h41.fr.at_ 34 _ rfl) 4 rfl rfl rfl rfl, (h41.sh.sel (L' := [.blk b7006 25 [(.slice none 0 0), (.slice none 0 0), .int .i64 0, .int .i64 0], .own 3 (⟨s41.v, words.l⟩ : Ls Int), .blk b10 28 [.int .i64 ((checkG (pgOf code words locks regs)).code), .int .i64 ((checkG (pgOf code words locks regs)).thread), .int .i64 ((checkG (pgOf code words locks regs)).at_)], .blk b5 28 [.int .i64 0, .int .i64 0, .int .i64 0], .blk b4 25 [(.slice none 0 0), (.slice none 0 0), .int .i64 0, .int .i64 0], .blk b3 25 [code.v, words.v, .int .i64 locks, .int .i64 regs], .at_ code, .at_ words, .at_ cols]) [1, 0, 2, 3, 4, 5, 6, 7, 8] (by decide) ⟨rfl, rfl, rfl, rfl, rfl, rfl, rfl, rfl, rfl, trivial⟩)⟩))))
   ·exact no_way ν4 hSi
   ·exact no_way ν4 hSi
  ·obtain rfl : _ = o := Option.some.inj ho
   have hd1 : S 1 = true := depAt hdep 0 rfl rfl
   have hd4 : S 4 = true := depAt hdep 1 rfl rfl
   rcases hI with ⟨ν4, _⟩ | ⟨ν4, ν6, ν7, s7004, φ, ς⟩ | ⟨ν4, _⟩ | ⟨ν4, ν6, ν7, s7004, b7006, φ, ς⟩ | ⟨_, _, ν7, _⟩
   ·exact no_way hd4 ν4
   ·have hs := St.mk (Fr.cons (Fr.cons φ.fr0 (φ.at_ 1 1 31 _ rfl hd1)) (φ.at_ 4 4 34 _ rfl hd4)) ς
    exact sq φ (Fr.cons (Fr.cons φ.fr0 (φ.at_ 1 1 31 _ rfl hd1)) (φ.at_ 4 4 34 _ rfl hd4)) ς (r_build (cs := [(.slice none 0 0), s7004.v, .int .i64 locks, .int .i64 8]) rfl rfl (by obtain ⟨A42, n42, c42, (e42 : s7004.v = _)⟩ := ((hs.sh.own 0 rfl)).form; rw [e42]; kernel_rfl)) 5 rfl rfl rfl rfl rfl rfl fun a hg => Or.inr (Or.inl (⟨un rfl ν4, un rfl ν6, un rfl ν7, s7004, hg, ς⟩))
   ·exact no_way hd4 ν4
   ·have hs := St.mk (Fr.cons (Fr.cons φ.fr0 (φ.at_ 1 1 31 _ rfl hd1)) (φ.at_ 4 4 34 _ rfl hd4)) ς
    exact sq φ (Fr.cons (Fr.cons φ.fr0 (φ.at_ 1 1 31 _ rfl hd1)) (φ.at_ 4 4 34 _ rfl hd4)) ς (r_build (cs := [(.slice none 0 0), s7004.v, .int .i64 locks, .int .i64 8]) rfl rfl (by obtain ⟨A44, n44, c44, (e44 : s7004.v = _)⟩ := ((hs.sh.own 1 rfl)).form; rw [e44]; kernel_rfl)) 5 rfl rfl rfl rfl rfl rfl fun a hg => Or.inr (Or.inr (Or.inr (Or.inl (⟨un rfl ν4, un rfl ν6, un rfl ν7, s7004, b7006, hg, ς⟩))))
   ·exact no_way (cA hcl 7 5 rfl ν7) hSi
  ·obtain rfl : _ = o := Option.some.inj ho
   rcases hI with ⟨ν4, ν6, ν7, φ, ς⟩ | ⟨ν4, ν6, ν7, s7004, φ, ς⟩ | ⟨_, ν6, _⟩ | ⟨_, ν6, _⟩ | ⟨_, ν6, _⟩
   ·have hs := St.mk φ.fr0 ς
    refine step_ex (x_alloc hs ti_25 rfl rfl rfl) (wanted_none rfl _) ?_
    rintro a46 w46 ⟨b46, h46⟩ ⟨v0, ht46⟩
    exact Or.inr (Or.inr (Or.inl (⟨un rfl ν4, upd_self _ _, un rfl ν7, b46, φ.stepW hcl hSi [0, 1, 2, 3] (by kernel_rfl) (by kernel_rfl) ht46 h46.fr.defers (h46.fr.at_ 7 _ rfl) 4 rfl rfl rfl rfl, (h46.sh.sel (L' := [.blk b46 25 [(.slice none 0 0), (.slice none 0 0), .int .i64 0, .int .i64 0], .blk b10 28 [.int .i64 ((checkG (pgOf code words locks regs)).code), .int .i64 ((checkG (pgOf code words locks regs)).thread), .int .i64 ((checkG (pgOf code words locks regs)).at_)], .blk b5 28 [.int .i64 0, .int .i64 0, .int .i64 0], .blk b4 25 [(.slice none 0 0), (.slice none 0 0), .int .i64 0, .int .i64 0], .blk b3 25 [code.v, words.v, .int .i64 locks, .int .i64 regs], .at_ code, .at_ words, .at_ cols]) [0, 1, 2, 3, 4, 5, 6, 7] (by decide) ⟨rfl, rfl, rfl, rfl, rfl, rfl, rfl, rfl, trivial⟩)⟩)))
   ·have hs := St.mk φ.fr0 ς
    refine step_ex (x_alloc hs ti_25 rfl rfl rfl) (wanted_none rfl _) ?_
    rintro a47 w47 ⟨b47, h47⟩ ⟨v0, ht47⟩
    exact Or.inr (Or.inr (Or.inr (Or.inl (⟨un rfl ν4, upd_self _ _, un rfl ν7, s7004, b47, φ.stepW hcl hSi [0, 1, 2, 3, 4, 5] (by kernel_rfl) (by kernel_rfl) ht47 h47.fr.defers (h47.fr.at_ 7 _ rfl) 6 rfl rfl rfl rfl, (h47.sh.sel (L' := [.blk b47 25 [(.slice none 0 0), (.slice none 0 0), .int .i64 0, .int .i64 0], .own 3 (⟨s7004.v, words.l⟩ : Ls Int), .blk b10 28 [.int .i64 ((checkG (pgOf code words locks regs)).code), .int .i64 ((checkG (pgOf code words locks regs)).thread), .int .i64 ((checkG (pgOf code words locks regs)).at_)], .blk b5 28 [.int .i64 0, .int .i64 0, .int .i64 0], .blk b4 25 [(.slice none 0 0), (.slice none 0 0), .int .i64 0, .int .i64 0], .blk b3 25 [code.v, words.v, .int .i64 locks, .int .i64 regs], .at_ code, .at_ words, .at_ cols]) [0, 1, 2, 3, 4, 5, 6, 7, 8] (by decide) ⟨rfl, rfl, rfl, rfl, rfl, rfl, rfl, rfl, rfl, trivial⟩)⟩))))
   ·exact no_way ν6 hSi
   ·exact no_way ν6 hSi
   ·exact no_way ν6 hSi
  ·obtain rfl : _ = o := Option.some.inj ho
   have hd6 : S 6 = true := depAt hdep 0 rfl rfl
   have hd5 : S 5 = true := depAt hdep 1 rfl rfl
   have hd4 : S 4 = true := depAt hdep 2 rfl rfl
   rcases hI with ⟨ν4, _⟩ | ⟨_, ν6, _⟩ | ⟨ν4, _⟩ | ⟨ν4, ν6, ν7, s7004, b7006, φ, ς⟩ | ⟨_, _, ν7, _⟩
   ·exact no_way hd4 ν4
   ·exact no_way hd6 ν6
   ·exact no_way hd4 ν4
   ·have hs := St.mk (Fr.cons (Fr.cons φ.fr0 (φ.at_ 5 5 35 _ rfl hd5)) (φ.at_ 6 6 7 _ rfl hd6)) ς
    refine step_ex (x_stb (i := 0) (vs := [(.slice none 0 0), s7004.v, .int .i64 locks, .int .i64 8]) (cs' := [(.slice none 0 0), s7004.v, .int .i64 locks, .int .i64 8]) hs ti_25 rfl rfl rfl rfl rfl rfl rfl (allOne_cons rfl (allOne_cons ((hs.sh.own 1 rfl)).one (allOne_cons rfl (allOne_cons rfl allOne_nil)))) (Nat.le_of_ble_eq_true rfl) rfl) (wanted_none rfl _) ?_
    rintro a48 w48 h48 ⟨v0, ht48⟩
    exact Or.inr (Or.inr (Or.inr (Or.inr (⟨un rfl ν4, un rfl ν6, upd_self _ _, s7004, b7006, φ.noneW hcl hSi [0, 1, 2, 3, 4, 5, 6] (by kernel_rfl) (by kernel_rfl) ht48 h48.fr.defers rfl, (h48.sh.sel (L' := [.blk b7006 25 [(.slice none 0 0), s7004.v, .int .i64 locks, .int .i64 8], .own 3 (⟨s7004.v, words.l⟩ : Ls Int), .blk b10 28 [.int .i64 ((checkG (pgOf code words locks regs)).code), .int .i64 ((checkG (pgOf code words locks regs)).thread), .int .i64 ((checkG (pgOf code words locks regs)).at_)], .blk b5 28 [.int .i64 0, .int .i64 0, .int .i64 0], .blk b4 25 [(.slice none 0 0), (.slice none 0 0), .int .i64 0, .int .i64 0], .blk b3 25 [code.v, words.v, .int .i64 locks, .int .i64 regs], .at_ code, .at_ words, .at_ cols]) [0, 1, 2, 3, 4, 5, 6, 7, 8] (by decide) ⟨rfl, rfl, rfl, rfl, rfl, rfl, rfl, rfl, rfl, trivial⟩)⟩))))
   ·exact no_way ν7 hSi
  · simp at ho
 intro S hall a w hI
 clear h23
 rcases hI with ⟨ν4, ν6, ν7, φ, ς⟩ | ⟨ν4, ν6, ν7, s7004, φ, ς⟩ | ⟨ν4, ν6, ν7, b7006, φ, ς⟩ | ⟨ν4, ν6, ν7, s7004, b7006, φ, ς⟩ | ⟨ν4, ν6, ν7, s7004, b7006, φ, ς⟩
 · exact no_way (hall 4 (by decide)) ν4
 · exact no_way (hall 6 (by decide)) ν6
 · exact no_way (hall 4 (by decide)) ν4
 · exact no_way (hall 7 (by decide)) ν7
 have h49 : St 117 (fun _ => False) W a w _ [.blk b7006 25 [(.slice none 0 0), s7004.v, .int .i64 locks, .int .i64 8], .own 3 (⟨s7004.v, words.l⟩ : Ls Int), .blk b10 28 [.int .i64 ((checkG (pgOf code words locks regs)).code), .int .i64 ((checkG (pgOf code words locks regs)).thread), .int .i64 ((checkG (pgOf code words locks regs)).at_)], .blk b5 28 [.int .i64 0, .int .i64 0, .int .i64 0], .blk b4 25 [(.slice none 0 0), (.slice none 0 0), .int .i64 0, .int .i64 0], .blk b3 25 [code.v, words.v, .int .i64 locks, .int .i64 regs], .at_ code, .at_ words, .at_ cols] := ⟨(Fr.cons φ.fr0 (φ.at_ 6 6 7 _ rfl (hall 6 (by decide)))), ς⟩
 clear hall φ ς ν4 ν6 ν7
 refine hK22 _ _ <| wp_seq_k fun K50 hK50 => wp_region_lit <| wms 1 h49 rfl fun a51 h51 => ?_; clear h49
 have hl52 : cols.l.length ≤ 140737488355328 := (h51.sh.at 8 rfl).len
 refine wv h51 (r_len (s := cols) (n := cols.l.length) sl_35 rfl rfl (fun w h => (h.at 8 rfl)) rfl) rfl rfl fun a53 h53 => wl_ex (x_makeMaps (n := cols.l.length) h53 sl_82 ti_80 rfl rfl rfl (show 8 * cols.l.length ≤ 140737488355328 ∧ cols.l.length ≤ 140737488355328 from (by omega)) rfl rfl) (wanted_none rfl _) ?_; clear h51
 rintro a54 w54 ⟨v54, h54⟩; clear h53
 refine wms 1 h54 rfl fun a55 h55 => wpList_nil <| hK50 _ _ <| wp_seq_k fun K56 hK56 => wp_seq_k fun K57 hK57 => wp_region_lit <| wms 1 h55 rfl fun a58 h58 => wv h58 (r_len (s := cols) (n := cols.l.length) sl_35 rfl rfl (fun w h => (h.at 9 rfl)) rfl) rfl rfl fun a59 h59 => wms 1 h59 rfl fun a60 h60 => wpList_nil <| hK57 _ _ <| wp_block <| x_loop (fun m a w => ∃ (t1 : Nat) (wl : List Int) (vw : Value) (M : List MP), (t1 ≤ cols.l.length) ∧ (wl = words.l ++ List.replicate (tSp cols.l regs.toNat t1) 0) ∧ (M.length = cols.l.length) ∧ (∀ j, j < t1 → (nth M j).l = spL (nth cols.l j).l (words.l.length + tSp cols.l regs.toNat j) regs.toNat) ∧ St 117 (fun _ => False) W a w [(1, cols.v), (2, .pointer (some ⟨b3, 0, none⟩)), (4, .pointer (some ⟨b4, 0, none⟩)), (5, .pointer (some ⟨b5, 0, none⟩)), (7, .pointer (some ⟨b7006, 0, none⟩)), (8, v54), (39, cols.v), (40, .int .i64 ((cols.l.length : Nat) : Int)), (41, .int .i64 ((t1 : Nat) : Int))] [.big (mapsX 80 v54 M), .blk b7006 25 [(.slice none 0 0), vw, .int .i64 locks, .int .i64 8], .own 3 (⟨vw, wl⟩ : Ls Int), .blk b10 28 [.int .i64 ((checkG (pgOf code words locks regs)).code), .int .i64 ((checkG (pgOf code words locks regs)).thread), .int .i64 ((checkG (pgOf code words locks regs)).at_)], .blk b5 28 [.int .i64 0, .int .i64 0, .int .i64 0], .blk b4 25 [(.slice none 0 0), (.slice none 0 0), .int .i64 0, .int .i64 0], .blk b3 25 [code.v, words.v, .int .i64 locks, .int .i64 regs], .at_ code, .at_ words, .at_ cols] ∧ m = cols.l.length - t1) ⟨_, 0, words.l, s7004.v, List.replicate cols.l.length (⟨none, []⟩ : MP), (by omega), (by simp [tSp]), (by simp), (fun j hj => absurd hj (by omega)), h60.nrm ⟨rfl, rfl, rfl, rfl, rfl, rfl, rfl, rfl, rfl, trivial⟩ [0, 1, 2, 3, 4, 5, 6, 7, 8, 9] (by decide) ⟨rfl, rfl, rfl, rfl, rfl, rfl, rfl, rfl, rfl, rfl, trivial⟩, rfl⟩ ?_; clear h54 h55 h58 h59
 clear h60
 rintro m61 a61 w61 ⟨t1, wl, vw, M, ht, hwl, hML, hMR, h61, hm61⟩
 refine wp_seq_k fun K62 hK62 => wp_region_lit <| wv h61 (r_lssN (p := t1) (q := cols.l.length) rfl rfl rfl) rfl rfl fun a63 h63 => wpList_nil <| hK62 _ _ <| wp_seq_k fun K64 hK64 => x_cond h63 rfl (fun hb65 => ?_) (fun hb65 => ?_); clear h61
 ·have hp65 : t1 < cols.l.length := of_decide_eq_true hb65
  refine wp_skip <| hK64 _ _ <| wp_seq_k fun K66 hK66 => wp_block <| wp_seq_k fun K67 hK67 => wp_region_lit <| wms 1 h63 rfl fun a68 h68 => wv h68 (r_ixN (s := cols) (q := t1) sl_35 ti_23 rfl rfl rfl (fun w h => (h.at 9 rfl)) (show t1 < cols.l.length from (by omega))) rfl rfl fun a69 h69 => wv h69 (r_lde (s := cols) (i := t1) (v := (nth cols.l t1).v) ti_23 rfl rfl rfl (fun w h => (h.at 9 rfl)) (show t1 < cols.l.length from (by omega)) (Nat.le_of_ble_eq_true rfl) rfl) rfl rfl fun a70 h70 => wms 2 h70 rfl fun a71 h71 => wpList_nil <| hK67 _ _ <| wp_seq_k fun K72 hK72 => wp_region_lit ?_; clear h63 h68 h69 h70
  refine wms 2 h71 rfl fun a73 h73 => wl_ex (x_makeZ h73 rfl rfl rfl) (wanted_none rfl _) ?_; clear h71
  rintro a74 w74 ⟨g74, h74⟩; clear h73
  refine wv h74 (r_ixN (s := (⟨v54, pvs M⟩ : Ls RV)) (q := t1) sl_82 ti_80 rfl rfl rfl (fun w h => (h.mapsAt 1 rfl)) (by rw [pvs_len]; exact (show t1 < M.length from (by omega)))) rfl rfl fun a75 h75 => ?_; clear h74
  have h76 := h75.sel (L' := [.big (mapsX 80 v54 M), .mapO (some g74) ([]), .blk b7006 25 [(.slice none 0 0), vw, .int .i64 locks, .int .i64 8], .own 3 (⟨vw, wl⟩ : Ls Int), .blk b10 28 [.int .i64 ((checkG (pgOf code words locks regs)).code), .int .i64 ((checkG (pgOf code words locks regs)).thread), .int .i64 ((checkG (pgOf code words locks regs)).at_)], .blk b5 28 [.int .i64 0, .int .i64 0, .int .i64 0], .blk b4 25 [(.slice none 0 0), (.slice none 0 0), .int .i64 0, .int .i64 0], .blk b3 25 [code.v, words.v, .int .i64 locks, .int .i64 regs], .at_ code, .at_ words, .at_ cols]) [1, 0, 2, 3, 4, 5, 6, 7, 8, 9, 10] (by decide) ⟨rfl, rfl, rfl, rfl, rfl, rfl, rfl, rfl, rfl, rfl, rfl, trivial⟩
  refine wl_ex (x_stMaps (i := t1) h76 ti_80 rfl rfl rfl rfl (show t1 < M.length from (by omega))) (wanted_none rfl _) ?_
  rintro a77 w77 h77
  clear h76
  refine wpList_nil <| hK72 _ _ <| wp_seq_k fun K78 hK78 => wp_region_lit <| wms 1 h77 rfl fun a79 h79 => ?_; clear h77
  have hl80 : ((nth cols.l t1).l).length ≤ 140737488355328 := ((h79.sh.at 9 rfl).nth t1 (show t1 < cols.l.length from (by omega))).len
  refine wv h79 (r_len (s := nth cols.l t1) (n := ((nth cols.l t1).l).length) sl_23 rfl rfl (fun w h => ((h.at 9 rfl).nth t1 (show t1 < cols.l.length from (by omega)))) rfl) rfl rfl fun a81 h81 => wms 1 h81 rfl fun a82 h82 => wpList_nil <| hK78 _ _ <| wp_block ?_; clear h79 h81
  have hcr1 := hcr t1 (by omega)
  have hts := tSp_le (cols := cols.l) (show regs.toNat ≤ 200 by omega) t1
  refine x_loop (fun m a w => ∃ (r1 : Nat) (wl2 : List Int) (vw2 : Value) (M2 : List MP) (gm : Nat), (r1 ≤ regs.toNat) ∧ (wl2 = words.l ++ List.replicate (tSp cols.l regs.toNat t1 + nSp (nth cols.l t1).l r1) 0) ∧ (M2.length = cols.l.length) ∧ (∀ j, j < t1 → (nth M2 j).l = spL (nth cols.l j).l (words.l.length + tSp cols.l regs.toNat j) regs.toNat) ∧ ((nth M2 t1).p = some gm) ∧ ((nth M2 t1).l = spL (nth cols.l t1).l (words.l.length + tSp cols.l regs.toNat t1) r1) ∧ St 117 (fun _ => False) W a w [(1, cols.v), (2, .pointer (some ⟨b3, 0, none⟩)), (4, .pointer (some ⟨b4, 0, none⟩)), (5, .pointer (some ⟨b5, 0, none⟩)), (7, .pointer (some ⟨b7006, 0, none⟩)), (8, v54), (9, .int .i64 ((t1 : Nat) : Int)), (39, cols.v), (40, .int .i64 ((cols.l.length : Nat) : Int)), (41, .int .i64 ((t1 : Nat) : Int)), (50, (nth cols.l t1).v), (51, .int .i64 ((((nth cols.l t1).l).length : Nat) : Int)), (52, .int .i64 ((r1 : Nat) : Int))] [.big (mapsX 80 v54 M2), .blk b7006 25 [(.slice none 0 0), vw2, .int .i64 locks, .int .i64 8], .own 3 (⟨vw2, wl2⟩ : Ls Int), .blk b10 28 [.int .i64 ((checkG (pgOf code words locks regs)).code), .int .i64 ((checkG (pgOf code words locks regs)).thread), .int .i64 ((checkG (pgOf code words locks regs)).at_)], .blk b5 28 [.int .i64 0, .int .i64 0, .int .i64 0], .blk b4 25 [(.slice none 0 0), (.slice none 0 0), .int .i64 0, .int .i64 0], .blk b3 25 [code.v, words.v, .int .i64 locks, .int .i64 regs], .at_ code, .at_ words, .at_ cols] ∧ m = regs.toNat - r1) ⟨_, 0, wl, vw, M.set t1 ⟨(some g74), []⟩, _, (by omega), (by rw [hwl]; rfl), (by rw [List.length_set]; exact hML), (fun j hj => by rw [nth_setP, if_neg (by omega)]; exact hMR j hj), (by rw [nth_setP, if_pos ⟨rfl, by omega⟩]), (by rw [nth_setP, if_pos ⟨rfl, by omega⟩]; rfl), h82.nrm ⟨rfl, rfl, rfl, rfl, rfl, rfl, rfl, rfl, rfl, rfl, rfl, rfl, rfl, trivial⟩ [0, 1, 2, 3, 4, 5, 6, 7, 8, 9] (by decide) ⟨rfl, rfl, rfl, rfl, rfl, rfl, rfl, rfl, rfl, rfl, trivial⟩, rfl⟩ ?_
  clear h82
  rintro m83 a83 w83 ⟨r1, wl2, vw2, M2, gm, hr, hwl2, hML2, hMR2, hgp, hml, h83, hm83⟩
  have hwn2 : wl2.length = words.l.length + (tSp cols.l regs.toNat t1 + nSp (nth cols.l t1).l r1) := by rw [hwl2, List.length_append, List.length_replicate]
  have hnl := nSp_le (nth cols.l t1).l r1
  refine wp_seq_k fun K84 hK84 => wp_region_lit <| wv h83 (r_lssN (p := r1) (q := ((nth cols.l t1).l).length) rfl rfl rfl) rfl rfl fun a85 h85 => wpList_nil <| hK84 _ _ <| wp_seq_k fun K86 hK86 => x_cond h85 rfl (fun hb87 => ?_) (fun hb87 => ?_); clear h83
  ·have hp87 : r1 < ((nth cols.l t1).l).length := of_decide_eq_true hb87
   refine wp_skip <| hK86 _ _ <| wp_seq_k fun K88 hK88 => wp_block <| wp_seq_k fun K89 hK89 => wp_region_lit <| wms 1 h85 rfl fun a90 h90 => wv h90 (r_ixN (s := nth cols.l t1) (q := r1) sl_23 ti_3 rfl rfl rfl (fun w h => ((h.at 9 rfl).nth t1 (show t1 < cols.l.length from (by omega)))) (show r1 < ((nth cols.l t1).l).length from (by omega))) rfl rfl fun a91 h91 => wv h91 (r_lde (s := nth cols.l t1) (i := r1) (v := .int .i64 (nth ((nth cols.l t1).l) r1)) ti_3 rfl rfl rfl (fun w h => ((h.at 9 rfl).nth t1 (show t1 < cols.l.length from (by omega)))) (show r1 < ((nth cols.l t1).l).length from (by omega)) (Nat.le_of_ble_eq_true rfl) rfl) rfl rfl fun a92 h92 => wms 2 h92 rfl fun a93 h93 => wpList_nil <| hK89 _ _ <| wp_seq_k fun K94 hK94 => wp_region_lit ?_; clear h85 h90 h91 h92
   refine wms 1 h93 rfl fun a95 h95 => wv h95 (r_lssI (p := nth ((nth cols.l t1).l) r1) (q := 0) rfl rfl rfl) rfl rfl fun a96 h96 => wpList_nil <| hK94 _ _ ?_; clear h93 h95
   have h97 := h96.openM 0 t1 rfl (show t1 < M2.length from (by omega)) hgp
   clear h96
   refine x_cond h97 rfl (fun hb98 => ?_) (fun hb98 => ?_)
   ·have hp98 : nth ((nth cols.l t1).l) r1 < 0 := of_decide_eq_true hb98
    refine wp_seq_k fun K99 hK99 => x_tail 8 [] (by kernel_rfl) (by kernel_rfl) h97 fun Z100 hZ100 => ?_
    have hq100 := h97.fr
    refine wq_val hq100 (r_move rfl rfl) (wanted_none rfl _) rfl rfl fun a101 hq101 => wq_val hq101 (r_move rfl rfl) (wanted_none rfl _) rfl rfl fun a102 hq102 => wq_val hq102 (r_ixN (s := (⟨v54, pvs M2⟩ : Ls RV)) (q := t1) sl_82 ti_80 rfl rfl rfl (fun w h => (h.mapsHAt 1 rfl)) (by rw [pvs_len]; exact (show t1 < M2.length from (by omega)))) (wanted_none rfl _) rfl rfl fun a103 hq103 => wq_val hq103 (Rn.same (r_lde (s := (⟨v54, pvs M2⟩ : Ls RV)) (i := t1) (v := (nth (pvs M2) t1).v) ti_80 rfl rfl rfl (fun w h => (h.mapsHAt 1 rfl)) (by rw [pvs_len]; exact (show t1 < M2.length from (by omega))) (Nat.le_of_ble_eq_true rfl) rfl) ((nth_pvs (show t1 < M2.length from (by omega))).trans (congrArg Value.map hgp))) (wanted_none rfl _) rfl rfl fun a104 hq104 => wq_val hq104 (r_move rfl rfl) (wanted_none rfl _) rfl rfl fun a105 hq105 => wq_val hq105 (r_fieldB (r := 1) fl_25_1 rfl rfl rfl) (wanted_none rfl _) rfl rfl fun a106 hq106 => wq_val hq106 (r_ldb (i := 2) ti_23 rfl rfl rfl rfl) (wanted_none rfl _) rfl rfl fun a107 hq107 => ?_; clear hq100 hq101 hq102 hq103 hq104 hq105 hq106
    have hl108 : wl2.length ≤ 140737488355328 := (h97.sh.own 3 rfl).len
    refine wq_val hq107 (r_len (s := (⟨vw2, wl2⟩ : Ls Int)) (n := wl2.length) sl_23 rfl rfl (fun w h => (h.own 3 rfl)) rfl) (wanted_none rfl _) rfl rfl fun a109 hq109 => wpQuiet_nil (hZ100 _ fun w110 hw110 => ?_); clear hq107
    have h110 : St 117 (fun _ => False) W a109 w110 _ _ := ⟨hq109, hw110⟩
    clear hq109 hw110 h97
    refine wl_ex (x_updZ (i := 0) (k := ((r1 : Nat) : Int)) (v := ((wl2.length : Nat) : Int)) h110 mz_80 rfl rfl rfl rfl rfl rfl (by rw [hml]; exact spL_none _ _ _)) (wanted_none rfl _) ?_
    rintro a111 w111 h111
    clear h110
    refine wpList_nil <| hK99 _ _ ?_
    have h112 := h111.closeM 0 t1 rfl (show t1 < M2.length from (by omega)) hgp
    clear h111
    refine wp_region_lit <| wv h112 (r_fieldB (r := 1) fl_25_1 rfl rfl rfl) rfl rfl fun a113 h113 => wv h113 (r_ldb (i := 1) ti_23 rfl rfl rfl rfl) rfl rfl fun a114 h114 => wl_ex (x_lit (n := 1) (cs := [.int .i64 0]) ([0] : List Int) h114 sl_23 ti_3 rfl rfl rfl (by decide) rfl (by kernel_rfl) rfl (fun q hq w h => Flat.inner _ _) (fun q hq b hb => (Flat.on _ _ hb).elim) rfl rfl) (wanted_none rfl _) ?_; clear h112 h113
    rintro a115 w115 ⟨v115, h115⟩; clear h114
    refine wl_ex (x_app (r := 3) (rm := 0) (s := (⟨vw2, wl2⟩ : Ls Int)) (m := (⟨v115, [0]⟩ : Ls Int)) h115 sl_23 ti_3 rfl rfl rfl rfl rfl rfl rfl (fun w h => (h.own 0 rfl)) (fun b hb => own_on (h115.sh.ok _ (List.mem_of_getElem? (i := 0) rfl)) hb) (fun q hq b hb => ⟨q, hq, hb⟩) rfl rfl rfl inferInstance (show (wl2.length + ([0]).length) * 8 ≤ 140737488355328 ∧ wl2.length + ([0]).length ≤ 140737488355328 from (by first | omega | (simp only [lens9]; omega))) rfl rfl) (wanted_none rfl _) ?_
    rintro a116 w116 ⟨v116, h116⟩; clear h115
    refine wv h116 (r_fieldB (r := 1) fl_25_1 rfl rfl rfl) rfl rfl fun a117 h117 => wl_ex (x_stb (i := 2) (vs := [v116]) (cs' := [(.slice none 0 0), v116, .int .i64 locks, .int .i64 8]) h117 ti_23 rfl rfl rfl rfl rfl (cells_oneL ((h117.sh.own 3 rfl)).one) rfl (allOne_cons ((h117.sh.own 3 rfl)).one allOne_nil) (Nat.le_of_ble_eq_true rfl) rfl) (wanted_none rfl _) ?_; clear h116
    rintro a118 w118 h118
    clear h117
    refine wpList_nil <| hK88 _ _ <| wp_region_lit <| wv h118 (r_addN (p := r1) (q := 1) rfl rfl rfl (show r1 + 1 < 9223372036854775808 from (by omega))) rfl rfl fun a119 h119 => wms 1 h119 rfl fun a120 h120 => wpList_nil <| x_again ⟨_, ?_, (r1 + 1), wl2 ++ ([0]), v116, M2.set t1 ⟨(nth M2 t1).p, ((nth M2 t1).l) ++ [(((r1 : Nat) : Int), ((wl2.length : Nat) : Int))]⟩, gm, ?_, ?_, ?_, ?_, ?_, ?_, h120.nrm ⟨rfl, rfl, rfl, rfl, rfl, rfl, rfl, rfl, rfl, rfl, rfl, rfl, rfl, trivial⟩ [1, 2, 3, 4, 5, 6, 7, 8, 9, 10] (by decide) ⟨rfl, rfl, rfl, rfl, rfl, rfl, rfl, rfl, rfl, rfl, trivial⟩, rfl⟩; clear h118 h119
    · rw [hm83]; first | omega | (simp only [lens9]; omega)
    · omega
    · first | exact wl_yes hwl2 (by assumption) | exact wl_no hwl2 (by assumption)
    · first | exact hML2 | (rw [List.length_set]; exact hML2)
    · first | exact hMR2 | (intro j hj; rw [nth_setP, if_neg (by omega)]; exact hMR2 j hj)
    · first | exact hgp | (rw [nth_setP, if_pos ⟨rfl, by omega⟩]; exact hgp)
    · first | (rw [spL_no (by assumption)]; exact hml) | (rw [nth_setP, if_pos ⟨rfl, by omega⟩]; show (nth M2 t1).l ++ _ = _; rw [hml, spL_yes (by assumption), hwn2, Nat.add_assoc])
   have hp98 : ¬ (nth ((nth cols.l t1).l) r1 < 0) := of_decide_eq_false hb98
   have h121 := h97.closeM 0 t1 rfl (show t1 < M2.length from (by omega)) hgp
   clear h97
   rw [nth_set_p] at h121
   refine wp_skip <| hK88 _ _ <| wp_region_lit <| wv h121 (r_addN (p := r1) (q := 1) rfl rfl rfl (show r1 + 1 < 9223372036854775808 from (by omega))) rfl rfl fun a122 h122 => wms 1 h122 rfl fun a123 h123 => wpList_nil <| x_again ⟨_, ?_, (r1 + 1), wl2, vw2, M2, gm, ?_, ?_, ?_, ?_, ?_, ?_, h123.nrm ⟨rfl, rfl, rfl, rfl, rfl, rfl, rfl, rfl, rfl, rfl, rfl, rfl, rfl, trivial⟩ [0, 1, 2, 3, 4, 5, 6, 7, 8, 9] (by decide) ⟨rfl, rfl, rfl, rfl, rfl, rfl, rfl, rfl, rfl, rfl, trivial⟩, rfl⟩; clear h121 h122
   · rw [hm83]; first | omega | (simp only [lens9]; omega)
   · omega
   · first | exact wl_yes hwl2 (by assumption) | exact wl_no hwl2 (by assumption)
   · first | exact hML2 | (rw [List.length_set]; exact hML2)
   · first | exact hMR2 | (intro j hj; rw [nth_setP, if_neg (by omega)]; exact hMR2 j hj)
   · first | exact hgp | (rw [nth_setP, if_pos ⟨rfl, by omega⟩]; exact hgp)
   · first | (rw [spL_no (by assumption)]; exact hml) | (rw [nth_setP, if_pos ⟨rfl, by omega⟩]; show (nth M2 t1).l ++ _ = _; rw [hml, spL_yes (by assumption), hwn2, Nat.add_assoc])
  have hp87 : ¬ (r1 < ((nth cols.l t1).l).length) := of_decide_eq_false hb87
  refine wp_exit <| hK66 _ _ <| wp_region_lit <| wv h85 (r_addN (p := t1) (q := 1) rfl rfl rfl (show t1 + 1 < 9223372036854775808 from (by omega))) rfl rfl fun a124 h124 => wms 1 h124 rfl fun a125 h125 => wpList_nil <| x_again ⟨_, ?_, (t1 + 1), wl2, vw2, M2, ?_, ?_, ?_, ?_, h125.nrm ⟨rfl, rfl, rfl, rfl, rfl, rfl, rfl, rfl, rfl, trivial⟩ [0, 1, 2, 3, 4, 5, 6, 7, 8, 9] (by decide) ⟨rfl, rfl, rfl, rfl, rfl, rfl, rfl, rfl, rfl, rfl, trivial⟩, rfl⟩; clear h85 h124
  · rw [hm61]; first | omega | (simp only [lens9]; omega)
  · omega
  · rw [hwl2, show r1 = regs.toNat by omega]; rfl
  · exact hML2
  · exact all_step hMR2 (by rw [hml, show r1 = regs.toNat by omega])
 have hp65 : ¬ (t1 < cols.l.length) := of_decide_eq_false hb65
 refine wp_exit <| hK56 _ _ ?_
 have hwn1 : wl.length = words.l.length + tSp cols.l regs.toNat t1 := by rw [hwl, List.length_append, List.length_replicate]
 rw [show t1 = code.l.length by omega] at hwn1
 refine wp_seq_k fun K126 hK126 => wp_seq_k fun K127 hK127 => wp_region_lit <| wv h63 (r_fieldB (r := 1) fl_25_1 rfl rfl rfl) rfl rfl fun a128 h128 => wv h128 (r_ldb (i := 1) ti_23 rfl rfl rfl rfl) rfl rfl fun a129 h129 => ?_; clear h63 h128
 have hl130 : wl.length ≤ 140737488355328 := (h129.sh.own 2 rfl).len
 refine wv h129 (r_len (s := (⟨vw, wl⟩ : Ls Int)) (n := wl.length) sl_23 rfl rfl (fun w h => (h.own 2 rfl)) rfl) rfl rfl fun a131 h131 => wv h131 (r_gtrN (p := wl.length) (q := 64) rfl rfl rfl) rfl rfl fun a132 h132 => wpList_nil <| hK127 _ _ <| x_cond h132 rfl (fun hb133 => ?_) (fun hb133 => ?_); clear h129 h131
 ·have hp133 : 64 < wl.length := of_decide_eq_true hb133
  exfalso
  omega
 have hp133 : ¬ (64 < wl.length) := of_decide_eq_false hb133
 refine wp_skip <| hK126 _ _ <| wp_seq_k fun K134 hK134 => wp_seq_k fun K135 hK135 => wp_region_lit <| wv h132 (r_fieldB (r := 0) fl_25_0 rfl rfl rfl) rfl rfl fun a136 h136 => wv h136 (r_ldb (i := 6) ti_22 rfl rfl rfl rfl) rfl rfl fun a137 h137 => ?_; clear h132 h136
 have hl138 : code.l.length ≤ 140737488355328 := (h137.sh.at 7 rfl).len
 refine wv h137 (r_len (s := code) (n := code.l.length) sl_22 rfl rfl (fun w h => (h.at 7 rfl)) rfl) rfl rfl fun a139 h139 => wms 1 h139 rfl fun a140 h140 => wpList_nil <| hK135 _ _ <| wp_block ?_; clear h137 h139
 have h142 := h140.nilDeep (α := Ls Ins) 33
 clear h140
 refine x_loop (fun m a w => ∃ (t : Nat) (qs : List (Ls Ins)) (vq : Value), (t ≤ code.l.length) ∧ (qs.map (·.l) = (List.range t).map (fun t => apT (nth code.l t).l (nth cols.l t).l (words.l.length + tSp cols.l regs.toNat t) regs.toNat)) ∧ (qs.length = t) ∧ St 117 (fun _ => False) W a w [(1, cols.v), (4, .pointer (some ⟨b4, 0, none⟩)), (5, .pointer (some ⟨b5, 0, none⟩)), (7, .pointer (some ⟨b7006, 0, none⟩)), (8, v54), (81, code.v), (82, .int .i64 ((code.l.length : Nat) : Int)), (83, .int .i64 ((t : Nat) : Int))] [.big (mapsX 80 v54 M), .blk b7006 25 [vq, vw, .int .i64 locks, .int .i64 8], .own 3 (⟨vw, wl⟩ : Ls Int), .blk b10 28 [.int .i64 ((checkG (pgOf code words locks regs)).code), .int .i64 ((checkG (pgOf code words locks regs)).thread), .int .i64 ((checkG (pgOf code words locks regs)).at_)], .blk b5 28 [.int .i64 0, .int .i64 0, .int .i64 0], .blk b4 25 [(.slice none 0 0), (.slice none 0 0), .int .i64 0, .int .i64 0], .blk b3 25 [code.v, words.v, .int .i64 locks, .int .i64 regs], .at_ code, .at_ words, .at_ cols, .deep 33 (⟨vq, qs⟩ : Ls (Ls Ins))] ∧ m = code.l.length - t) ⟨_, 0, [], (.slice none 0 0), (by omega), (rfl), (rfl), h142.nrm ⟨rfl, rfl, rfl, rfl, rfl, rfl, rfl, rfl, trivial⟩ [1, 2, 3, 4, 5, 6, 7, 8, 9, 10, 0] (by decide) ⟨rfl, rfl, rfl, rfl, rfl, rfl, rfl, rfl, rfl, rfl, rfl, trivial⟩, rfl⟩ ?_
 clear h142
 rintro m141 a141 w141 ⟨t, qs, vq, ht3, hqs, hql, h141, hm141⟩
 refine wp_seq_k fun K143 hK143 => wp_region_lit <| wv h141 (r_lssN (p := t) (q := code.l.length) rfl rfl rfl) rfl rfl fun a144 h144 => wpList_nil <| hK143 _ _ <| wp_seq_k fun K145 hK145 => x_cond h144 rfl (fun hb146 => ?_) (fun hb146 => ?_); clear h141
 ·have hp146 : t < code.l.length := of_decide_eq_true hb146
  refine wp_skip <| hK145 _ _ <| wp_seq_k fun K147 hK147 => wp_block <| wp_seq_k fun K148 hK148 => wp_region_lit <| wms 1 h144 rfl fun a149 h149 => wv h149 (r_ixN (s := code) (q := t) sl_22 ti_33 rfl rfl rfl (fun w h => (h.at 7 rfl)) (show t < code.l.length from (by omega))) rfl rfl fun a150 h150 => wv h150 (r_lde (s := code) (i := t) (v := (nth code.l t).v) ti_33 rfl rfl rfl (fun w h => (h.at 7 rfl)) (show t < code.l.length from (by omega)) (Nat.le_of_ble_eq_true rfl) rfl) rfl rfl fun a151 h151 => wms 2 h151 rfl fun a152 h152 => wpList_nil <| hK148 _ _ ?_; clear h144 h149 h150 h151
  obtain ⟨hl4, hjt⟩ := ok_thread hok t (by omega)
  have hov := okV_of hok t (by omega)
  have hml9 := hMR t (by omega)
  have hcr9 := hcr t (by omega)
  refine wp_seq_k fun K153 hK153 => x_tail 9 [] (by kernel_rfl) (by kernel_rfl) h152 fun Z154 hZ154 => ?_
  have hq154 := h152.fr
  refine wq_val hq154 (r_move rfl rfl) (wanted_none rfl _) rfl rfl fun a155 hq155 => wq_val hq155 (r_move rfl rfl) (wanted_none rfl _) rfl rfl fun a156 hq156 => wq_val hq156 (r_ixN (s := cols) (q := t) sl_35 ti_23 rfl rfl rfl (fun w h => (h.at 9 rfl)) (show t < cols.l.length from (by omega))) (wanted_none rfl _) rfl rfl fun a157 hq157 => wq_val hq157 (r_lde (s := cols) (i := t) (v := (nth cols.l t).v) ti_23 rfl rfl rfl (fun w h => (h.at 9 rfl)) (show t < cols.l.length from (by omega)) (Nat.le_of_ble_eq_true rfl) rfl) (wanted_none rfl _) rfl rfl fun a158 hq158 => wq_val hq158 (r_move rfl rfl) (wanted_none rfl _) rfl rfl fun a159 hq159 => wq_val hq159 (r_move rfl rfl) (wanted_none rfl _) rfl rfl fun a160 hq160 => wq_val hq160 (r_ixN (s := (⟨v54, pvs M⟩ : Ls RV)) (q := t) sl_82 ti_80 rfl rfl rfl (fun w h => (h.mapsAt 0 rfl)) (by rw [pvs_len]; exact (show t < M.length from (by omega)))) (wanted_none rfl _) rfl rfl fun a161 hq161 => wq_val hq161 (Rn.same (r_lde (s := (⟨v54, pvs M⟩ : Ls RV)) (i := t) (v := (nth (pvs M) t).v) ti_80 rfl rfl rfl (fun w h => (h.mapsAt 0 rfl)) (by rw [pvs_len]; exact (show t < M.length from (by omega))) (Nat.le_of_ble_eq_true rfl) rfl) (nth_pvs (show t < M.length from (by omega)))) (wanted_none rfl _) rfl rfl fun a162 hq162 => wq_val hq162 (r_build (cs := [(nth cols.l t).v, .map ((nth M t).p)]) rfl rfl (by obtain ⟨A163, n163, c163, (e163 : (nth cols.l t).v = _)⟩ := (((h152.sh.at 9 rfl).nth t (show t < cols.l.length from (by omega)))).form; rw [e163]; kernel_rfl)) (wanted_none rfl _) rfl rfl fun a164 hq164 => wpQuiet_nil (hZ154 _ fun w165 hw165 => ?_); clear hq154 hq155 hq156 hq157 hq158 hq159 hq160 hq161 hq162
  have h165 : St 117 (fun _ => False) W a164 w165 _ _ := ⟨hq164, hw165⟩
  clear hq164 hw165 h152
  refine wl_ex (x_box (cs := [(nth cols.l t).v, .map ((nth M t).p)]) h165 rfl rfl rfl rfl rfl) (wanted_none rfl _) ?_
  rintro a166 w166 ⟨b166, h166⟩; clear h165
  refine wms 1 h166 rfl fun a167 h167 => wpList_nil <| hK153 _ _ <| wp_seq_k fun K168 hK168 => wp_region_lit <| wms 2 h167 rfl fun a169 h169 => wv h169 (r_makeFunc rfl rfl rfl) rfl rfl fun a170 h170 => wl_ex (x_call h170 bd_50 rfl rfl rfl rfl rfl (moved_c (nth code.l t) 55 [.pointer (some ⟨b166, 0, none⟩)] [] (fun (_ : Nat) (x : Ins) => paintF (nth cols.l t).l (fun r : Int => (getZ r (nth M t).l).getD 0) x) (Asn.ro [.blk b166 85 [(nth cols.l t).v, .map ((nth M t).p)], .at_ (nth cols.l t), .mapO (nth M t).p (nth M t).l]) _ ((h170.sh.at 8 rfl).nth t (show t < code.l.length from (by omega))) (show (nth code.l t).l.length ≤ 5000 by omega) bd_55 (fun _ h => h) (roI (h170.sh.ok _ (List.mem_of_getElem? (i := 0) rfl)) ((h170.sh.at 10 rfl).nth t (show t < cols.l.length from (by omega))) (mapsX_ok h170.sh 1 rfl t (by omega))) (fun w i hE hi => pbecome_c b166 (nth cols.l t) (nth M t).p (nth M t).l _ (nth (nth code.l t).l i) w (roE hE).1 (roE hE).2.1 (ro1 (roE hE).2.2) (hov i hi).1 (hov i hi).2.1 (fun q hq => by have h9 := (hov i hi).2.2.2 _ (nth_mem _ _ hq); omega) (by have h9 := (hov i hi).2.2.1; omega)) (ap_b8 hml9 (by omega) hov) (ap_bok hml9 (by omega) hov hjt))) (wanted_none rfl _) ?_; clear h166 h167 h169
  rintro a171 w171 ⟨_, ⟨s171, rfl, hl171, hs171⟩, hf171⟩
  have h171 := (⟨hf171, h170.sh.call hs171 (by intro A hA b hb; first | (simp at hA; done) | (simp at hA; subst hA; first | exact Flat.noRd hb | exact (hb : False).elim) | (simp at hA; rcases hA with rfl | rfl <;> first | exact Flat.noRd hb | exact (hb : False).elim))⟩ : St 117 (fun _ => False) W a171 w171 _ _)
  clear hf171 hs171
  clear h170
  refine wms 1 h171 rfl fun a172 h172 => wpList_nil <| hK168 _ _ ?_; clear h171
  have hq1 : s171.l = apT (nth code.l t).l (nth cols.l t).l (words.l.length + tSp cols.l regs.toNat t) regs.toNat := hl171.trans (moved_ap2 hml9 (by omega) hov)
  have hq2 := congrArg List.length hq1
  refine wp_seq_k fun K173 hK173 => wp_seq_k fun K174 hK174 => wp_region_lit <| wms 1 h172 rfl fun a175 h175 => ?_; clear h172
  have hl176 : s171.l.length ≤ 140737488355328 := (h175.sh.own 0 rfl).len
  refine wv h175 (r_len (s := s171) (n := s171.l.length) sl_33 rfl rfl (fun w h => (h.own 0 rfl)) rfl) rfl rfl fun a177 h177 => wv h177 (r_gtrN (p := s171.l.length) (q := 400) rfl rfl rfl) rfl rfl fun a178 h178 => wpList_nil <| hK174 _ _ <| x_cond h178 rfl (fun hb179 => ?_) (fun hb179 => ?_); clear h175 h177
  ·have hp179 : 400 < s171.l.length := of_decide_eq_true hb179
   exfalso
   have h9 := hfit t (by omega); omega
  have hp179 : ¬ (400 < s171.l.length) := of_decide_eq_false hb179
  refine wp_skip <| hK173 _ _ ?_
  have h180 : St 117 (fun _ => False) W a178 w171 [(1, cols.v), (4, .pointer (some ⟨b4, 0, none⟩)), (5, .pointer (some ⟨b5, 0, none⟩)), (7, .pointer (some ⟨b7006, 0, none⟩)), (8, v54), (16, s171.v), (81, code.v), (82, .int .i64 ((code.l.length : Nat) : Int)), (83, .int .i64 ((t : Nat) : Int))] [.own 32 s171, .blk b166 85 [(nth cols.l t).v, .map ((nth M t).p)], .big (mapsX 80 v54 M), .blk b7006 25 [vq, vw, .int .i64 locks, .int .i64 8], .own 3 (⟨vw, wl⟩ : Ls Int), .blk b10 28 [.int .i64 ((checkG (pgOf code words locks regs)).code), .int .i64 ((checkG (pgOf code words locks regs)).thread), .int .i64 ((checkG (pgOf code words locks regs)).at_)], .blk b5 28 [.int .i64 0, .int .i64 0, .int .i64 0], .blk b4 25 [(.slice none 0 0), (.slice none 0 0), .int .i64 0, .int .i64 0], .blk b3 25 [code.v, words.v, .int .i64 locks, .int .i64 regs], .at_ code, .at_ words, .at_ cols, .deep 33 (⟨vq, qs⟩ : Ls (Ls Ins))] := h178.nrm ⟨rfl, rfl, rfl, rfl, rfl, rfl, rfl, rfl, rfl, trivial⟩ [0, 1, 2, 3, 4, 5, 6, 7, 8, 9, 10, 11, 12] (by decide) ⟨rfl, rfl, rfl, rfl, rfl, rfl, rfl, rfl, rfl, rfl, rfl, rfl, rfl, trivial⟩
  clear h178
  refine wp_region_lit <| wv h180 (r_fieldB (r := 0) fl_25_0 rfl rfl rfl) rfl rfl fun a181 h181 => wv h181 (r_ldb (i := 3) ti_22 rfl rfl rfl rfl) rfl rfl fun a182 h182 => wms 1 h182 rfl fun a183 h183 => wl_ex (x_litD (E := 0) (x := s171) h183 sl_22 ti_33 rfl rfl rfl ((h183.sh.own 0 rfl)) (fun b hb => (own_on (h183.sh.ok _ (List.mem_of_getElem? (i := 0) rfl)) hb).elim (fun h => h) (fun h => Flat.noRd h)) (fun b hb => Flat.noRd hb) rfl rfl) (wanted_none rfl _) ?_; clear h180 h181 h182
  rintro a184 w184 ⟨v184, h184⟩; clear h183
  have h185 := h184.sel (L' := [.deep 33 (⟨vq, qs⟩ : Ls (Ls Ins)), .deep 33 (⟨v184, [s171]⟩ : Ls (Ls Ins)), .blk b166 85 [(nth cols.l t).v, .map ((nth M t).p)], .big (mapsX 80 v54 M), .blk b7006 25 [vq, vw, .int .i64 locks, .int .i64 8], .own 3 (⟨vw, wl⟩ : Ls Int), .blk b10 28 [.int .i64 ((checkG (pgOf code words locks regs)).code), .int .i64 ((checkG (pgOf code words locks regs)).thread), .int .i64 ((checkG (pgOf code words locks regs)).at_)], .blk b5 28 [.int .i64 0, .int .i64 0, .int .i64 0], .blk b4 25 [(.slice none 0 0), (.slice none 0 0), .int .i64 0, .int .i64 0], .blk b3 25 [code.v, words.v, .int .i64 locks, .int .i64 regs], .at_ code, .at_ words, .at_ cols]) [12, 0, 1, 2, 3, 4, 5, 6, 7, 8, 9, 10, 11] (by decide) ⟨rfl, rfl, rfl, rfl, rfl, rfl, rfl, rfl, rfl, rfl, rfl, rfl, rfl, trivial⟩
  refine wl_ex (x_appD (s := (⟨vq, qs⟩ : Ls (Ls Ins))) (m := (⟨v184, [s171]⟩ : Ls (Ls Ins))) h185 sl_22 ti_33 rfl rfl rfl rfl rfl rfl rfl inferInstance (show (qs.length + ([s171]).length) * 24 ≤ 140737488355328 ∧ qs.length + ([s171]).length ≤ 140737488355328 from (by first | omega | (simp only [lens9]; omega))) rfl rfl) (wanted_none rfl _) ?_
  rintro a186 w186 ⟨v186, h186⟩; clear h185
  refine wv h186 (r_fieldB (r := 0) fl_25_0 rfl rfl rfl) rfl rfl fun a187 h187 => wl_ex (x_stb (i := 3) (vs := [v186]) (cs' := [v186, vw, .int .i64 locks, .int .i64 8]) h187 ti_22 rfl rfl rfl rfl rfl (cells_oneL ((h187.sh.deep 0 rfl)).one) rfl (allOne_cons ((h187.sh.deep 0 rfl)).one allOne_nil) (Nat.le_of_ble_eq_true rfl) rfl) (wanted_none rfl _) ?_; clear h186
  rintro a188 w188 h188
  clear h187
  refine wpList_nil <| hK147 _ _ <| wp_region_lit <| wv h188 (r_addN (p := t) (q := 1) rfl rfl rfl (show t + 1 < 9223372036854775808 from (by omega))) rfl rfl fun a189 h189 => wms 1 h189 rfl fun a190 h190 => wpList_nil <| x_again ⟨_, ?_, t + 1, qs ++ ([s171]), v186, ?_, ?_, ?_, h190.nrm ⟨rfl, rfl, rfl, rfl, rfl, rfl, rfl, rfl, trivial⟩ [2, 3, 4, 5, 6, 7, 8, 9, 10, 11, 0] (by decide) ⟨rfl, rfl, rfl, rfl, rfl, rfl, rfl, rfl, rfl, rfl, rfl, trivial⟩, rfl⟩; clear h188 h189
  · rw [hm141]; first | omega | (simp only [lens9]; omega)
  · first | omega | (rcases Nat.lt_or_ge t kk with h9 | h9; (omega); (exfalso; have h8 : t = kk := (by omega); rw [h8] at hq2; omega))
  · rw [List.map_append, hqs, List.range_succ, List.map_append]; simp [hq1]
  · simp [hql]
 have hp146 : ¬ (t < code.l.length) := of_decide_eq_false hb146
 refine wp_exit <| hK134 _ _ <| wp_seq_k fun K191 hK191 => wp_region_lit <| wv h144 (r_ldbw (i := 1) (vs := [vq, vw, .int .i64 locks, .int .i64 8]) ti_25 rfl rfl rfl rfl rfl) rfl rfl fun a192 h192 => wv h192 (r_build (cs := [.int .i64 0, .int .i64 0, .int .i64 0]) rfl rfl (by kernel_rfl)) rfl rfl fun a193 h193 => wl_ex (x_stb (i := 5) (vs := [vq, vw, .int .i64 locks, .int .i64 8]) (cs' := [vq, vw, .int .i64 locks, .int .i64 8]) h193 ti_25 rfl rfl rfl rfl rfl rfl rfl (allOne_cons ((h193.sh.deep 10 rfl)).one (allOne_cons ((h193.sh.own 2 rfl)).one (allOne_cons rfl (allOne_cons rfl allOne_nil)))) (Nat.le_of_ble_eq_true rfl) rfl) (wanted_none rfl _) ?_; clear h144 h192
 rintro a194 w194 h194
 clear h193
 refine wl_ex (x_stb (i := 4) (vs := [.int .i64 0, .int .i64 0, .int .i64 0]) (cs' := [.int .i64 0, .int .i64 0, .int .i64 0]) h194 ti_28 rfl rfl rfl rfl rfl rfl rfl (allOne_cons rfl (allOne_cons rfl (allOne_cons rfl allOne_nil))) (Nat.le_of_ble_eq_true rfl) rfl) (wanted_none rfl _) ?_
 rintro a195 w195 h195
 clear h194
 refine wpList_nil <| hK191 _ _ <| wp_ret ?_
 try simp only [Exit.then, Exit.inBlock]
 refine x_ret2c (fn := Try.f19) (t := 4) (t2 := 5) (i := 5) (i2 := 4) ti_25 ti_28 rfl h195 rfl rfl rfl rfl rfl rfl <| ⟨⟨vq, qs⟩, ⟨vw, wl⟩, rfl, ?_, ?_, (h195.sh.sel (L' := [.deep 33 (⟨vq, qs⟩ : Ls (Ls Ins)), .own 3 (⟨vw, wl⟩ : Ls Int)]) [10, 2] (by decide) ⟨rfl, rfl, trivial⟩)⟩
 · show qs.map (·.l) = _; rw [hqs, show t = code.l.length by omega]
 · show wl = _; rw [hwl, show t1 = code.l.length by omega]

set_option maxRecDepth 100000 in
set_option maxHeartbeats 16000000 in
theorem apply_w (code : Ls (Ls Ins)) (words : Ls Int) (locks regs : Int) (cols : Ls (Ls Int)) (f : Nat → Nat → Nat → Bool) (W : World) (hcode : code.At W) (hwords : words.At W) (hcols : cols.At W) (hok : OkPg (pgOf code words locks regs)) (hF : ∀ t, t < code.l.length → ∀ r j, (f t r j = true ↔ LiveI (nth code.l t).l r j)) (hcb : (colsB code.l cols.l f regs.toNat) = true) (htot : 64 < words.l.length + tSp cols.l regs.toNat code.l.length) :
    Rets Try.prog 19 [.agg #[code.v, words.v, .int .i64 locks, .int .i64 regs], cols.v] W (fun v w' => v = .tuple #[.agg #[.slice none 0 0, .slice none 0 0, .int .i64 0, .int .i64 0], (⟨1, 0, 0⟩ : Flt).val] ∧ Sh0 W w' []) := by
 have hz := checkG_ok hok
 obtain ⟨hl1, hl2, hl3, hl4', hl5, hl6, hl7⟩ := ok_len hok
 have hrg := hok.regs
 have hrg1 : (pgOf code words locks regs).regs = regs := rfl
 rw [hrg1] at hrg
 obtain ⟨hcc, hcr⟩ := colsB_len hcb
 refine x_enter (N := 117) Try.func19 rfl Try.ntmps19 (Nat.le_of_ble_eq_true rfl) fun a1 hf1 => ?_
 have h1 : St 117 (fun _ => False) W a1 W [(0, .agg #[code.v, words.v, .int .i64 locks, .int .i64 regs]), (1, cols.v)] [.at_ code, .at_ words, .at_ cols] := ⟨hf1.sub ⟨rfl, rfl, trivial⟩, Sh0.ext3 hcode hwords hcols⟩
 clear hf1
 refine wp_seq_k fun K2 hK2 => wp_region_lit <| wl_ex (x_box (cs := [code.v, words.v, .int .i64 locks, .int .i64 regs]) h1 rfl rfl rfl rfl rfl) (wanted_none rfl _) ?_
 rintro a3 w3 ⟨b3, h3⟩; clear h1
 refine wl_ex (x_alloc h3 ti_25 rfl rfl rfl) (wanted_none rfl _) ?_
 rintro a4 w4 ⟨b4, h4⟩; clear h3
 refine wl_ex (x_alloc h4 ti_28 rfl rfl rfl) (wanted_none rfl _) ?_
 rintro a5 w5 ⟨b5, h5⟩; clear h4
 refine wpList_nil <| hK2 _ _ <| wp_seq_k fun K6 hK6 => wp_seq_k fun K7 hK7 => wp_region_lit <| wv h5 (r_ldbw (i := 2) (vs := [code.v, words.v, .int .i64 locks, .int .i64 regs]) ti_25 rfl rfl rfl rfl rfl) rfl rfl fun a8 h8 => wl_ex (x_call h8 bd_46 rfl rfl rfl rfl rfl (asmCheck_c (code := code) (words := words) (locks := locks) (regs := regs) (h8.sh.at 3 rfl) (h8.sh.at 4 rfl))) (wanted_none rfl _) ?_; clear h5
 rintro a9 w9 ⟨_, ⟨rfl, hs9⟩, hf9⟩
 have h9 : St 117 (fun _ => False) W a9 w9 _ _ := ⟨hf9, h8.sh.call0 hs9⟩
 clear hf9 hs9
 clear h8
 refine wl_ex (x_alloc h9 ti_28 rfl rfl rfl) (wanted_none rfl _) ?_
 rintro a10 w10 ⟨b10, h10⟩; clear h9
 refine wl_ex (x_stb (i := 0) (vs := [.int .i64 ((checkG (pgOf code words locks regs)).code), .int .i64 ((checkG (pgOf code words locks regs)).thread), .int .i64 ((checkG (pgOf code words locks regs)).at_)]) (cs' := [.int .i64 ((checkG (pgOf code words locks regs)).code), .int .i64 ((checkG (pgOf code words locks regs)).thread), .int .i64 ((checkG (pgOf code words locks regs)).at_)]) h10 ti_28 rfl rfl rfl rfl rfl rfl rfl (allOne_cons rfl (allOne_cons rfl (allOne_cons rfl allOne_nil))) (Nat.le_of_ble_eq_true rfl) rfl) (wanted_none rfl _) ?_
 rintro a11 w11 h11
 clear h10
 refine wpList_nil <| hK7 _ _ <| wp_seq_k fun K12 hK12 => wp_region_lit <| wv h11 (r_fieldB (r := 0) fl_28_0 rfl rfl rfl) rfl rfl fun a13 h13 => wv h13 (r_ldb (i := 0) ti_26 rfl rfl rfl rfl) rfl rfl fun a14 h14 => wv h14 (r_neqI (p := (checkG (pgOf code words locks regs)).code) (q := 0) rfl rfl rfl) rfl rfl fun a15 h15 => wpList_nil <| hK12 _ _ <| x_condF h15 rfl (by rw [hz]; rfl) ?_; clear h11 h13 h14
 refine wp_skip <| hK6 _ _ <| wp_seq_k fun K16 hK16 => wp_seq_k fun K17 hK17 => wp_region_lit <| wv h15 (r_ldbw (i := 3) (vs := [code.v, words.v, .int .i64 locks, .int .i64 regs]) ti_25 rfl rfl rfl rfl rfl) rfl rfl fun a18 h18 => wms 1 h18 rfl fun a19 h19 => wl_ex (x_call h19 bd_54 rfl rfl rfl rfl rfl (is_c code words locks regs cols f _ (h19.sh.at 4 rfl) (h19.sh.at 5 rfl) (h19.sh.at 6 rfl) hok hF)) (wanted_none rfl _) ?_; clear h15 h18
 rintro a20 w20 ⟨_, ⟨rfl, hs20⟩, hf20⟩
 have h20 : St 117 (fun _ => False) W a20 w20 _ _ := ⟨hf20, h19.sh.call0 hs20⟩
 clear hf20 hs20
 clear h19
 refine wv h20 (r_not rfl rfl) rfl rfl fun a21 h21 => wpList_nil <| hK17 _ _ <| x_condF h21 rfl (by rw [hcb]; rfl) ?_; clear h20
 refine wp_skip <| hK16 _ _ <| wp_seq_k fun K22 hK22 => ?_
 have h23 : St 117 (fun _ => False) W a21 w20 [(0, .agg #[code.v, words.v, .int .i64 locks, .int .i64 regs]), (1, cols.v), (2, .pointer (some ⟨b3, 0, none⟩)), (4, .pointer (some ⟨b4, 0, none⟩)), (5, .pointer (some ⟨b5, 0, none⟩)), (6, .pointer (some ⟨b10, 0, none⟩)), (17, .agg #[code.v, words.v, .int .i64 locks, .int .i64 regs]), (18, .agg #[.int .i64 ((checkG (pgOf code words locks regs)).code), .int .i64 ((checkG (pgOf code words locks regs)).thread), .int .i64 ((checkG (pgOf code words locks regs)).at_)]), (19, .pointer (some ⟨b10, 0, none⟩)), (20, .int .i64 ((checkG (pgOf code words locks regs)).code)), (21, .bool (decide ((checkG (pgOf code words locks regs)).code ≠ 0))), (24, .agg #[code.v, words.v, .int .i64 locks, .int .i64 regs]), (25, cols.v), (26, .bool (colsB code.l cols.l f regs.toNat)), (27, .bool (!(colsB code.l cols.l f regs.toNat)))] [.blk b10 28 [.int .i64 ((checkG (pgOf code words locks regs)).code), .int .i64 ((checkG (pgOf code words locks regs)).thread), .int .i64 ((checkG (pgOf code words locks regs)).at_)], .blk b5 28 [.int .i64 0, .int .i64 0, .int .i64 0], .blk b4 25 [(.slice none 0 0), (.slice none 0 0), .int .i64 0, .int .i64 0], .blk b3 25 [code.v, words.v, .int .i64 locks, .int .i64 regs], .at_ code, .at_ words, .at_ cols] := h21.nrm ⟨rfl, rfl, rfl, rfl, rfl, rfl, rfl, rfl, rfl, rfl, rfl, rfl, rfl, rfl, rfl, trivial⟩ [0, 1, 2, 3, 4, 5, 6] (by decide) ⟨rfl, rfl, rfl, rfl, rfl, rfl, rfl, trivial⟩
 clear h21
 refine x_any ((fun Φ Ψ S a w => (S 4 = false ∧ S 6 = false ∧ S 7 = false ∧ FrI 117 S Φ Ψ a ∧ Sh (fun _ => False) W w [.blk b10 28 [.int .i64 ((checkG (pgOf code words locks regs)).code), .int .i64 ((checkG (pgOf code words locks regs)).thread), .int .i64 ((checkG (pgOf code words locks regs)).at_)], .blk b5 28 [.int .i64 0, .int .i64 0, .int .i64 0], .blk b4 25 [(.slice none 0 0), (.slice none 0 0), .int .i64 0, .int .i64 0], .blk b3 25 [code.v, words.v, .int .i64 locks, .int .i64 regs], .at_ code, .at_ words, .at_ cols]) ∨ (S 4 = true ∧ S 6 = false ∧ S 7 = false ∧ ∃ (s7004 : Ls Int), FrI 117 S Φ (Ψ ++ [(4, 34, s7004.v), (5, 35, .agg #[(.slice none 0 0), s7004.v, .int .i64 locks, .int .i64 8])]) a ∧ Sh (fun _ => False) W w [.own 3 (⟨s7004.v, words.l⟩ : Ls Int), .blk b10 28 [.int .i64 ((checkG (pgOf code words locks regs)).code), .int .i64 ((checkG (pgOf code words locks regs)).thread), .int .i64 ((checkG (pgOf code words locks regs)).at_)], .blk b5 28 [.int .i64 0, .int .i64 0, .int .i64 0], .blk b4 25 [(.slice none 0 0), (.slice none 0 0), .int .i64 0, .int .i64 0], .blk b3 25 [code.v, words.v, .int .i64 locks, .int .i64 regs], .at_ code, .at_ words, .at_ cols]) ∨ (S 4 = false ∧ S 6 = true ∧ S 7 = false ∧ ∃ (b7006 : Nat), FrI 117 S Φ (Ψ ++ [(6, 7, .pointer (some ⟨b7006, 0, none⟩))]) a ∧ Sh (fun _ => False) W w [.blk b7006 25 [(.slice none 0 0), (.slice none 0 0), .int .i64 0, .int .i64 0], .blk b10 28 [.int .i64 ((checkG (pgOf code words locks regs)).code), .int .i64 ((checkG (pgOf code words locks regs)).thread), .int .i64 ((checkG (pgOf code words locks regs)).at_)], .blk b5 28 [.int .i64 0, .int .i64 0, .int .i64 0], .blk b4 25 [(.slice none 0 0), (.slice none 0 0), .int .i64 0, .int .i64 0], .blk b3 25 [code.v, words.v, .int .i64 locks, .int .i64 regs], .at_ code, .at_ words, .at_ cols]) ∨ (S 4 = true ∧ S 6 = true ∧ S 7 = false ∧ ∃ (s7004 : Ls Int) (b7006 : Nat), FrI 117 S Φ (Ψ ++ [(4, 34, s7004.v), (5, 35, .agg #[(.slice none 0 0), s7004.v, .int .i64 locks, .int .i64 8]), (6, 7, .pointer (some ⟨b7006, 0, none⟩))]) a ∧ Sh (fun _ => False) W w [.blk b7006 25 [(.slice none 0 0), (.slice none 0 0), .int .i64 0, .int .i64 0], .own 3 (⟨s7004.v, words.l⟩ : Ls Int), .blk b10 28 [.int .i64 ((checkG (pgOf code words locks regs)).code), .int .i64 ((checkG (pgOf code words locks regs)).thread), .int .i64 ((checkG (pgOf code words locks regs)).at_)], .blk b5 28 [.int .i64 0, .int .i64 0, .int .i64 0], .blk b4 25 [(.slice none 0 0), (.slice none 0 0), .int .i64 0, .int .i64 0], .blk b3 25 [code.v, words.v, .int .i64 locks, .int .i64 regs], .at_ code, .at_ words, .at_ cols]) ∨ (S 4 = true ∧ S 6 = true ∧ S 7 = true ∧ ∃ (s7004 : Ls Int) (b7006 : Nat), FrI 117 S Φ (Ψ ++ [(4, 34, s7004.v), (5, 35, .agg #[(.slice none 0 0), s7004.v, .int .i64 locks, .int .i64 8]), (6, 7, .pointer (some ⟨b7006, 0, none⟩))]) a ∧ Sh (fun _ => False) W w [.blk b7006 25 [(.slice none 0 0), s7004.v, .int .i64 locks, .int .i64 8], .own 3 (⟨s7004.v, words.l⟩ : Ls Int), .blk b10 28 [.int .i64 ((checkG (pgOf code words locks regs)).code), .int .i64 ((checkG (pgOf code words locks regs)).thread), .int .i64 ((checkG (pgOf code words locks regs)).at_)], .blk b5 28 [.int .i64 0, .int .i64 0, .int .i64 0], .blk b4 25 [(.slice none 0 0), (.slice none 0 0), .int .i64 0, .int .i64 0], .blk b3 25 [code.v, words.v, .int .i64 locks, .int .i64 regs], .at_ code, .at_ words, .at_ cols])) [(0, .agg #[code.v, words.v, .int .i64 locks, .int .i64 regs]), (1, cols.v), (2, .pointer (some ⟨b3, 0, none⟩)), (4, .pointer (some ⟨b4, 0, none⟩)), (5, .pointer (some ⟨b5, 0, none⟩)), (6, .pointer (some ⟨b10, 0, none⟩)), (17, .agg #[code.v, words.v, .int .i64 locks, .int .i64 regs]), (18, .agg #[.int .i64 ((checkG (pgOf code words locks regs)).code), .int .i64 ((checkG (pgOf code words locks regs)).thread), .int .i64 ((checkG (pgOf code words locks regs)).at_)]), (19, .pointer (some ⟨b10, 0, none⟩)), (20, .int .i64 ((checkG (pgOf code words locks regs)).code)), (21, .bool (decide ((checkG (pgOf code words locks regs)).code ≠ 0))), (24, .agg #[code.v, words.v, .int .i64 locks, .int .i64 regs]), (25, cols.v), (26, .bool (colsB code.l cols.l f regs.toNat)), (27, .bool (!(colsB code.l cols.l f regs.toNat)))] [(0, 30, .pointer (some ⟨b3, 2, none⟩)), (1, 31, .int .i64 locks), (2, 32, .pointer (some ⟨b3, 1, none⟩)), (3, 33, words.v)]) (by kernel_rfl) (by kernel_rfl) (Or.inl (⟨rfl, rfl, rfl, FrI.start h23.fr, h23.sh.drew⟩)) ?_ ?_
 ·intro S i o ho hSi hcl hdep a w hI
  clear h23
  rcases i with _ | _ | _ | _ | _ | _ | _ | _ | i
  ·obtain rfl : _ = o := Option.some.inj ho
   rcases hI with ⟨ν4, ν6, ν7, φ, ς⟩ | ⟨ν4, ν6, ν7, s7004, φ, ς⟩ | ⟨ν4, ν6, ν7, b7006, φ, ς⟩ | ⟨ν4, ν6, ν7, s7004, b7006, φ, ς⟩ | ⟨_, _, ν7, _⟩
   ·exact sq φ φ.fr0 ς (r_fieldB (r := 2) fl_25_2 rfl rfl rfl) 0 rfl rfl rfl rfl rfl rfl fun a hg => Or.inl (⟨un rfl ν4, un rfl ν6, un rfl ν7, hg, ς⟩)
   ·exact sq φ φ.fr0 ς (r_fieldB (r := 2) fl_25_2 rfl rfl rfl) 0 rfl rfl rfl rfl rfl rfl fun a hg => Or.inr (Or.inl (⟨un rfl ν4, un rfl ν6, un rfl ν7, s7004, hg, ς⟩))
   ·exact sq φ φ.fr0 ς (r_fieldB (r := 2) fl_25_2 rfl rfl rfl) 0 rfl rfl rfl rfl rfl rfl fun a hg => Or.inr (Or.inr (Or.inl (⟨un rfl ν4, un rfl ν6, un rfl ν7, b7006, hg, ς⟩)))
   ·exact sq φ φ.fr0 ς (r_fieldB (r := 2) fl_25_2 rfl rfl rfl) 0 rfl rfl rfl rfl rfl rfl fun a hg => Or.inr (Or.inr (Or.inr (Or.inl (⟨un rfl ν4, un rfl ν6, un rfl ν7, s7004, b7006, hg, ς⟩))))
   ·exact no_way (cA hcl 7 0 rfl ν7) hSi
  ·obtain rfl : _ = o := Option.some.inj ho
   have hd0 : S 0 = true := depAt hdep 0 rfl rfl
   rcases hI with ⟨ν4, ν6, ν7, φ, ς⟩ | ⟨ν4, ν6, ν7, s7004, φ, ς⟩ | ⟨ν4, ν6, ν7, b7006, φ, ς⟩ | ⟨ν4, ν6, ν7, s7004, b7006, φ, ς⟩ | ⟨_, _, ν7, _⟩
   ·exact sq φ (Fr.cons φ.fr0 (φ.at_ 0 0 30 _ rfl hd0)) ς (r_ldb (i := 3) ti_3 rfl rfl rfl rfl) 1 rfl rfl rfl rfl rfl rfl fun a hg => Or.inl (⟨un rfl ν4, un rfl ν6, un rfl ν7, hg, ς⟩)
   ·exact sq φ (Fr.cons φ.fr0 (φ.at_ 0 0 30 _ rfl hd0)) ς (r_ldb (i := 4) ti_3 rfl rfl rfl rfl) 1 rfl rfl rfl rfl rfl rfl fun a hg => Or.inr (Or.inl (⟨un rfl ν4, un rfl ν6, un rfl ν7, s7004, hg, ς⟩))
   ·exact sq φ (Fr.cons φ.fr0 (φ.at_ 0 0 30 _ rfl hd0)) ς (r_ldb (i := 4) ti_3 rfl rfl rfl rfl) 1 rfl rfl rfl rfl rfl rfl fun a hg => Or.inr (Or.inr (Or.inl (⟨un rfl ν4, un rfl ν6, un rfl ν7, b7006, hg, ς⟩)))
   ·exact sq φ (Fr.cons φ.fr0 (φ.at_ 0 0 30 _ rfl hd0)) ς (r_ldb (i := 5) ti_3 rfl rfl rfl rfl) 1 rfl rfl rfl rfl rfl rfl fun a hg => Or.inr (Or.inr (Or.inr (Or.inl (⟨un rfl ν4, un rfl ν6, un rfl ν7, s7004, b7006, hg, ς⟩))))
   ·exact no_way (cA hcl 7 1 rfl ν7) hSi
  ·obtain rfl : _ = o := Option.some.inj ho
   rcases hI with ⟨ν4, ν6, ν7, φ, ς⟩ | ⟨ν4, _⟩ | ⟨ν4, ν6, ν7, b7006, φ, ς⟩ | ⟨ν4, _⟩ | ⟨ν4, _⟩
   ·exact sq φ φ.fr0 ς (r_fieldB (r := 1) fl_25_1 rfl rfl rfl) 2 rfl rfl rfl rfl rfl rfl fun a hg => Or.inl (⟨un rfl ν4, un rfl ν6, un rfl ν7, hg, ς⟩)
   ·exact no_way (cA hcl 4 2 rfl ν4) hSi
   ·exact sq φ φ.fr0 ς (r_fieldB (r := 1) fl_25_1 rfl rfl rfl) 2 rfl rfl rfl rfl rfl rfl fun a hg => Or.inr (Or.inr (Or.inl (⟨un rfl ν4, un rfl ν6, un rfl ν7, b7006, hg, ς⟩)))
   ·exact no_way (cA hcl 4 2 rfl ν4) hSi
   ·exact no_way (cA hcl 4 2 rfl ν4) hSi
  ·obtain rfl : _ = o := Option.some.inj ho
   have hd2 : S 2 = true := depAt hdep 0 rfl rfl
   rcases hI with ⟨ν4, ν6, ν7, φ, ς⟩ | ⟨ν4, _⟩ | ⟨ν4, ν6, ν7, b7006, φ, ς⟩ | ⟨ν4, _⟩ | ⟨ν4, _⟩
   ·exact sq φ (Fr.cons φ.fr0 (φ.at_ 2 2 32 _ rfl hd2)) ς (r_ldb (i := 3) ti_23 rfl rfl rfl rfl) 3 rfl rfl rfl rfl rfl rfl fun a hg => Or.inl (⟨un rfl ν4, un rfl ν6, un rfl ν7, hg, ς⟩)
   ·exact no_way (cA hcl 4 3 rfl ν4) hSi
   ·exact sq φ (Fr.cons φ.fr0 (φ.at_ 2 2 32 _ rfl hd2)) ς (r_ldb (i := 4) ti_23 rfl rfl rfl rfl) 3 rfl rfl rfl rfl rfl rfl fun a hg => Or.inr (Or.inr (Or.inl (⟨un rfl ν4, un rfl ν6, un rfl ν7, b7006, hg, ς⟩)))
   ·exact no_way (cA hcl 4 3 rfl ν4) hSi
   ·exact no_way (cA hcl 4 3 rfl ν4) hSi
  ·obtain rfl : _ = o := Option.some.inj ho
   have hd3 : S 3 = true := depAt hdep 0 rfl rfl
   rcases hI with ⟨ν4, ν6, ν7, φ, ς⟩ | ⟨ν4, _⟩ | ⟨ν4, ν6, ν7, b7006, φ, ς⟩ | ⟨ν4, _⟩ | ⟨ν4, _⟩
   ·have hs := St.mk (Fr.cons φ.fr0 (φ.at_ 3 3 33 _ rfl hd3)) ς
    refine step_ex (x_call hs bd_47 rfl rfl rfl rfl rfl (cloneI_c words _ (hs.sh.at 5 rfl) (by first | omega | (simp only [lens9]; omega)))) (wanted_none rfl _) ?_
    rintro a40 w40 ⟨_, ⟨s40, rfl, hs40⟩, hf40⟩ ⟨v0, ht40⟩
    have h40 := (⟨hf40, hs.sh.call hs40 (by intro A hA b hb; first | (simp at hA; done) | (simp at hA; subst hA; first | exact Flat.noRd hb | exact (hb : False).elim) | (simp at hA; rcases hA with rfl | rfl <;> first | exact Flat.noRd hb | exact (hb : False).elim))⟩ : St 117 (fun _ => False) W a40 w40 _ _)
    clear hf40 hs40
    exact Or.inr (Or.inl (⟨upd_self _ _, un rfl ν6, un rfl ν7, s40, φ.stepW hcl hSi [0, 1, 2, 3] (by kernel_rfl) (by kernel_rfl) ht40 h40.fr.defers (h40.fr.at_ 34 _ rfl) 4 rfl rfl rfl rfl, (h40.sh.sel (L' := [.own 3 (⟨s40.v, words.l⟩ : Ls Int), .blk b10 28 [.int .i64 ((checkG (pgOf code words locks regs)).code), .int .i64 ((checkG (pgOf code words locks regs)).thread), .int .i64 ((checkG (pgOf code words locks regs)).at_)], .blk b5 28 [.int .i64 0, .int .i64 0, .int .i64 0], .blk b4 25 [(.slice none 0 0), (.slice none 0 0), .int .i64 0, .int .i64 0], .blk b3 25 [code.v, words.v, .int .i64 locks, .int .i64 regs], .at_ code, .at_ words, .at_ cols]) [0, 1, 2, 3, 4, 5, 6, 7] (by decide) ⟨rfl, rfl, rfl, rfl, rfl, rfl, rfl, rfl, trivial⟩)⟩))
   ·exact no_way ν4 hSi
   ·have hs := St.mk (Fr.cons φ.fr0 (φ.at_ 3 3 33 _ rfl hd3)) ς
    refine step_ex (x_call hs bd_47 rfl rfl rfl rfl rfl (cloneI_c words _ (hs.sh.at 6 rfl) (by first | omega | (simp only [lens9]; omega)))) (wanted_none rfl _) ?_
    rintro a41 w41 ⟨_, ⟨s41, rfl, hs41⟩, hf41⟩ ⟨v0, ht41⟩
    have h41 := (⟨hf41, hs.sh.call hs41 (by intro A hA b hb; first | (simp at hA; done) | (simp at hA; subst hA; first | exact Flat.noRd hb | exact (hb : False).elim) | (simp at hA; rcases hA with rfl | rfl <;> first | exact Flat.noRd hb | exact (hb : False).elim))⟩ : St 117 (fun _ => False) W a41 w41 _ _)
    clear hf41 hs41
    exact Or.inr (Or.inr (Or.inr (Or.inl (⟨upd_self _ _, un rfl ν6, un rfl ν7, s41, b7006, φ.stepW hcl hSi [0, 1, 2, 3, 6] (by kernel_rfl) (by kernel_rfl) ht41 h41.fr.defers (h41.fr.at_ 34 _ rfl) 4 rfl rfl rfl rfl, (h41.sh.sel (L' := [.blk b7006 25 [(.slice none 0 0), (.slice none 0 0), .int .i64 0, .int .i64 0], .own 3 (⟨s41.v, words.l⟩ : Ls Int), .blk b10 28 [.int .i64 ((checkG (pgOf code words locks regs)).code), .int .i64 ((checkG (pgOf code words locks regs)).thread), .int .i64 ((checkG (pgOf code words locks regs)).at_)], .blk b5 28 [.int .i64 0, .int .i64 0, .int .i64 0], .blk b4 25 [(.slice none 0 0), (.slice none 0 0), .int .i64 0, .int .i64 0], .blk b3 25 [code.v, words.v, .int .i64 locks, .int .i64 regs], .at_ code, .at_ words, .at_ cols]) [1, 0, 2, 3, 4, 5, 6, 7, 8] (by decide) ⟨rfl, rfl, rfl, rfl, rfl, rfl, rfl, rfl, rfl, trivial⟩)⟩))))
   ·exact no_way ν4 hSi
   ·exact no_way ν4 hSi
  ·obtain rfl : _ = o := Option.some.inj ho
   have hd1 : S 1 = true := depAt hdep 0 rfl rfl
   have hd4 : S 4 = true := depAt hdep 1 rfl rfl
   rcases hI with ⟨ν4, _⟩ | ⟨ν4, ν6, ν7, s7004, φ, ς⟩ | ⟨ν4, _⟩ | ⟨ν4, ν6, ν7, s7004, b7006, φ, ς⟩ | ⟨_, _, ν7, _⟩
   ·exact no_way hd4 ν4
   ·have hs := St.mk (Fr.cons (Fr.cons φ.fr0 (φ.at_ 1 1 31 _ rfl hd1)) (φ.at_ 4 4 34 _ rfl hd4)) ς
    exact sq φ (Fr.cons (Fr.cons φ.fr0 (φ.at_ 1 1 31 _ rfl hd1)) (φ.at_ 4 4 34 _ rfl hd4)) ς (r_build (cs := [(.slice none 0 0), s7004.v, .int .i64 locks, .int .i64 8]) rfl rfl (by obtain ⟨A42, n42, c42, (e42 : s7004.v = _)⟩ := ((hs.sh.own 0 rfl)).form; rw [e42]; kernel_rfl)) 5 rfl rfl rfl rfl rfl rfl fun a hg => Or.inr (Or.inl (⟨un rfl ν4, un rfl ν6, un rfl ν7, s7004, hg, ς⟩))
   ·exact no_way hd4 ν4
   ·have hs := St.mk (Fr.cons (Fr.cons φ.fr0 (φ.at_ 1 1 31 _ rfl hd1)) (φ.at_ 4 4 34 _ rfl hd4)) ς
    exact sq φ (Fr.cons (Fr.cons φ.fr0 (φ.at_ 1 1 31 _ rfl hd1)) (φ.at_ 4 4 34 _ rfl hd4)) ς (r_build (cs := [(.slice none 0 0), s7004.v, .int .i64 locks, .int .i64 8]) rfl rfl (by obtain ⟨A44, n44, c44, (e44 : s7004.v = _)⟩ := ((hs.sh.own 1 rfl)).form; rw [e44]; kernel_rfl)) 5 rfl rfl rfl rfl rfl rfl fun a hg => Or.inr (Or.inr (Or.inr (Or.inl (⟨un rfl ν4, un rfl ν6, un rfl ν7, s7004, b7006, hg, ς⟩))))
   ·exact no_way (cA hcl 7 5 rfl ν7) hSi
  ·obtain rfl : _ = o := Option.some.inj ho
   rcases hI with ⟨ν4, ν6, ν7, φ, ς⟩ | ⟨ν4, ν6, ν7, s7004, φ, ς⟩ | ⟨_, ν6, _⟩ | ⟨_, ν6, _⟩ | ⟨_, ν6, _⟩
   ·have hs := St.mk φ.fr0 ς
    refine step_ex (x_alloc hs ti_25 rfl rfl rfl) (wanted_none rfl _) ?_
    rintro a46 w46 ⟨b46, h46⟩ ⟨v0, ht46⟩
    exact Or.inr (Or.inr (Or.inl (⟨un rfl ν4, upd_self _ _, un rfl ν7, b46, φ.stepW hcl hSi [0, 1, 2, 3] (by kernel_rfl) (by kernel_rfl) ht46 h46.fr.defers (h46.fr.at_ 7 _ rfl) 4 rfl rfl rfl rfl, (h46.sh.sel (L' := [.blk b46 25 [(.slice none 0 0), (.slice none 0 0), .int .i64 0, .int .i64 0], .blk b10 28 [.int .i64 ((checkG (pgOf code words locks regs)).code), .int .i64 ((checkG (pgOf code words locks regs)).thread), .int .i64 ((checkG (pgOf code words locks regs)).at_)], .blk b5 28 [.int .i64 0, .int .i64 0, .int .i64 0], .blk b4 25 [(.slice none 0 0), (.slice none 0 0), .int .i64 0, .int .i64 0], .blk b3 25 [code.v, words.v, .int .i64 locks, .int .i64 regs], .at_ code, .at_ words, .at_ cols]) [0, 1, 2, 3, 4, 5, 6, 7] (by decide) ⟨rfl, rfl, rfl, rfl, rfl, rfl, rfl, rfl, trivial⟩)⟩)))
   ·have hs := St.mk φ.fr0 ς
    refine step_ex (x_alloc hs ti_25 rfl rfl rfl) (wanted_none rfl _) ?_
    rintro a47 w47 ⟨b47, h47⟩ ⟨v0, ht47⟩
    exact Or.inr (Or.inr (Or.inr (Or.inl (⟨un rfl ν4, upd_self _ _, un rfl ν7, s7004, b47, φ.stepW hcl hSi [0, 1, 2, 3, 4, 5] (by kernel_rfl) (by kernel_rfl) ht47 h47.fr.defers (h47.fr.at_ 7 _ rfl) 6 rfl rfl rfl rfl, (h47.sh.sel (L' := [.blk b47 25 [(.slice none 0 0), (.slice none 0 0), .int .i64 0, .int .i64 0], .own 3 (⟨s7004.v, words.l⟩ : Ls Int), .blk b10 28 [.int .i64 ((checkG (pgOf code words locks regs)).code), .int .i64 ((checkG (pgOf code words locks regs)).thread), .int .i64 ((checkG (pgOf code words locks regs)).at_)], .blk b5 28 [.int .i64 0, .int .i64 0, .int .i64 0], .blk b4 25 [(.slice none 0 0), (.slice none 0 0), .int .i64 0, .int .i64 0], .blk b3 25 [code.v, words.v, .int .i64 locks, .int .i64 regs], .at_ code, .at_ words, .at_ cols]) [0, 1, 2, 3, 4, 5, 6, 7, 8] (by decide) ⟨rfl, rfl, rfl, rfl, rfl, rfl, rfl, rfl, rfl, trivial⟩)⟩))))
   ·exact no_way ν6 hSi
   ·exact no_way ν6 hSi
   ·exact no_way ν6 hSi
  ·obtain rfl : _ = o := Option.some.inj ho
   have hd6 : S 6 = true := depAt hdep 0 rfl rfl
   have hd5 : S 5 = true := depAt hdep 1 rfl rfl
   have hd4 : S 4 = true := depAt hdep 2 rfl rfl
   rcases hI with ⟨ν4, _⟩ | ⟨_, ν6, _⟩ | ⟨ν4, _⟩ | ⟨ν4, ν6, ν7, s7004, b7006, φ, ς⟩ | ⟨_, _, ν7, _⟩
   ·exact no_way hd4 ν4
   ·exact no_way hd6 ν6
   ·exact no_way hd4 ν4
   ·have hs := St.mk (Fr.cons (Fr.cons φ.fr0 (φ.at_ 5 5 35 _ rfl hd5)) (φ.at_ 6 6 7 _ rfl hd6)) ς
    refine step_ex (x_stb (i := 0) (vs := [(.slice none 0 0), s7004.v, .int .i64 locks, .int .i64 8]) (cs' := [(.slice none 0 0), s7004.v, .int .i64 locks, .int .i64 8]) hs ti_25 rfl rfl rfl rfl rfl rfl rfl (allOne_cons rfl (allOne_cons ((hs.sh.own 1 rfl)).one (allOne_cons rfl (allOne_cons rfl allOne_nil)))) (Nat.le_of_ble_eq_true rfl) rfl) (wanted_none rfl _) ?_
    rintro a48 w48 h48 ⟨v0, ht48⟩
    exact Or.inr (Or.inr (Or.inr (Or.inr (⟨un rfl ν4, un rfl ν6, upd_self _ _, s7004, b7006, φ.noneW hcl hSi [0, 1, 2, 3, 4, 5, 6] (by kernel_rfl) (by kernel_rfl) ht48 h48.fr.defers rfl, (h48.sh.sel (L' := [.blk b7006 25 [(.slice none 0 0), s7004.v, .int .i64 locks, .int .i64 8], .own 3 (⟨s7004.v, words.l⟩ : Ls Int), .blk b10 28 [.int .i64 ((checkG (pgOf code words locks regs)).code), .int .i64 ((checkG (pgOf code words locks regs)).thread), .int .i64 ((checkG (pgOf code words locks regs)).at_)], .blk b5 28 [.int .i64 0, .int .i64 0, .int .i64 0], .blk b4 25 [(.slice none 0 0), (.slice none 0 0), .int .i64 0, .int .i64 0], .blk b3 25 [code.v, words.v, .int .i64 locks, .int .i64 regs], .at_ code, .at_ words, .at_ cols]) [0, 1, 2, 3, 4, 5, 6, 7, 8] (by decide) ⟨rfl, rfl, rfl, rfl, rfl, rfl, rfl, rfl, rfl, trivial⟩)⟩))))
   ·exact no_way ν7 hSi
  · simp at ho
 intro S hall a w hI
 clear h23
 rcases hI with ⟨ν4, ν6, ν7, φ, ς⟩ | ⟨ν4, ν6, ν7, s7004, φ, ς⟩ | ⟨ν4, ν6, ν7, b7006, φ, ς⟩ | ⟨ν4, ν6, ν7, s7004, b7006, φ, ς⟩ | ⟨ν4, ν6, ν7, s7004, b7006, φ, ς⟩
 · exact no_way (hall 4 (by decide)) ν4
 · exact no_way (hall 6 (by decide)) ν6
 · exact no_way (hall 4 (by decide)) ν4
 · exact no_way (hall 7 (by decide)) ν7
 have h49 : St 117 (fun _ => False) W a w _ [.blk b7006 25 [(.slice none 0 0), s7004.v, .int .i64 locks, .int .i64 8], .own 3 (⟨s7004.v, words.l⟩ : Ls Int), .blk b10 28 [.int .i64 ((checkG (pgOf code words locks regs)).code), .int .i64 ((checkG (pgOf code words locks regs)).thread), .int .i64 ((checkG (pgOf code words locks regs)).at_)], .blk b5 28 [.int .i64 0, .int .i64 0, .int .i64 0], .blk b4 25 [(.slice none 0 0), (.slice none 0 0), .int .i64 0, .int .i64 0], .blk b3 25 [code.v, words.v, .int .i64 locks, .int .i64 regs], .at_ code, .at_ words, .at_ cols] := ⟨(Fr.cons φ.fr0 (φ.at_ 6 6 7 _ rfl (hall 6 (by decide)))), ς⟩
 clear hall φ ς ν4 ν6 ν7
 refine hK22 _ _ <| wp_seq_k fun K50 hK50 => wp_region_lit <| wms 1 h49 rfl fun a51 h51 => ?_; clear h49
 have hl52 : cols.l.length ≤ 140737488355328 := (h51.sh.at 8 rfl).len
 refine wv h51 (r_len (s := cols) (n := cols.l.length) sl_35 rfl rfl (fun w h => (h.at 8 rfl)) rfl) rfl rfl fun a53 h53 => wl_ex (x_makeMaps (n := cols.l.length) h53 sl_82 ti_80 rfl rfl rfl (show 8 * cols.l.length ≤ 140737488355328 ∧ cols.l.length ≤ 140737488355328 from (by omega)) rfl rfl) (wanted_none rfl _) ?_; clear h51
 rintro a54 w54 ⟨v54, h54⟩; clear h53
 refine wms 1 h54 rfl fun a55 h55 => wpList_nil <| hK50 _ _ <| wp_seq_k fun K56 hK56 => wp_seq_k fun K57 hK57 => wp_region_lit <| wms 1 h55 rfl fun a58 h58 => wv h58 (r_len (s := cols) (n := cols.l.length) sl_35 rfl rfl (fun w h => (h.at 9 rfl)) rfl) rfl rfl fun a59 h59 => wms 1 h59 rfl fun a60 h60 => wpList_nil <| hK57 _ _ <| wp_block <| x_loop (fun m a w => ∃ (t1 : Nat) (wl : List Int) (vw : Value) (M : List MP), (t1 ≤ cols.l.length) ∧ (wl = words.l ++ List.replicate (tSp cols.l regs.toNat t1) 0) ∧ (M.length = cols.l.length) ∧ (∀ j, j < t1 → (nth M j).l = spL (nth cols.l j).l (words.l.length + tSp cols.l regs.toNat j) regs.toNat) ∧ St 117 (fun _ => False) W a w [(1, cols.v), (2, .pointer (some ⟨b3, 0, none⟩)), (4, .pointer (some ⟨b4, 0, none⟩)), (5, .pointer (some ⟨b5, 0, none⟩)), (7, .pointer (some ⟨b7006, 0, none⟩)), (8, v54), (39, cols.v), (40, .int .i64 ((cols.l.length : Nat) : Int)), (41, .int .i64 ((t1 : Nat) : Int))] [.big (mapsX 80 v54 M), .blk b7006 25 [(.slice none 0 0), vw, .int .i64 locks, .int .i64 8], .own 3 (⟨vw, wl⟩ : Ls Int), .blk b10 28 [.int .i64 ((checkG (pgOf code words locks regs)).code), .int .i64 ((checkG (pgOf code words locks regs)).thread), .int .i64 ((checkG (pgOf code words locks regs)).at_)], .blk b5 28 [.int .i64 0, .int .i64 0, .int .i64 0], .blk b4 25 [(.slice none 0 0), (.slice none 0 0), .int .i64 0, .int .i64 0], .blk b3 25 [code.v, words.v, .int .i64 locks, .int .i64 regs], .at_ code, .at_ words, .at_ cols] ∧ m = cols.l.length - t1) ⟨_, 0, words.l, s7004.v, List.replicate cols.l.length (⟨none, []⟩ : MP), (by omega), (by simp [tSp]), (by simp), (fun j hj => absurd hj (by omega)), h60.nrm ⟨rfl, rfl, rfl, rfl, rfl, rfl, rfl, rfl, rfl, trivial⟩ [0, 1, 2, 3, 4, 5, 6, 7, 8, 9] (by decide) ⟨rfl, rfl, rfl, rfl, rfl, rfl, rfl, rfl, rfl, rfl, trivial⟩, rfl⟩ ?_; clear h54 h55 h58 h59
 clear h60
 rintro m61 a61 w61 ⟨t1, wl, vw, M, ht, hwl, hML, hMR, h61, hm61⟩
 refine wp_seq_k fun K62 hK62 => wp_region_lit <| wv h61 (r_lssN (p := t1) (q := cols.l.length) rfl rfl rfl) rfl rfl fun a63 h63 => wpList_nil <| hK62 _ _ <| wp_seq_k fun K64 hK64 => x_cond h63 rfl (fun hb65 => ?_) (fun hb65 => ?_); clear h61
 ·have hp65 : t1 < cols.l.length := of_decide_eq_true hb65
  refine wp_skip <| hK64 _ _ <| wp_seq_k fun K66 hK66 => wp_block <| wp_seq_k fun K67 hK67 => wp_region_lit <| wms 1 h63 rfl fun a68 h68 => wv h68 (r_ixN (s := cols) (q := t1) sl_35 ti_23 rfl rfl rfl (fun w h => (h.at 9 rfl)) (show t1 < cols.l.length from (by omega))) rfl rfl fun a69 h69 => wv h69 (r_lde (s := cols) (i := t1) (v := (nth cols.l t1).v) ti_23 rfl rfl rfl (fun w h => (h.at 9 rfl)) (show t1 < cols.l.length from (by omega)) (Nat.le_of_ble_eq_true rfl) rfl) rfl rfl fun a70 h70 => wms 2 h70 rfl fun a71 h71 => wpList_nil <| hK67 _ _ <| wp_seq_k fun K72 hK72 => wp_region_lit ?_; clear h63 h68 h69 h70
  refine wms 2 h71 rfl fun a73 h73 => wl_ex (x_makeZ h73 rfl rfl rfl) (wanted_none rfl _) ?_; clear h71
  rintro a74 w74 ⟨g74, h74⟩; clear h73
  refine wv h74 (r_ixN (s := (⟨v54, pvs M⟩ : Ls RV)) (q := t1) sl_82 ti_80 rfl rfl rfl (fun w h => (h.mapsAt 1 rfl)) (by rw [pvs_len]; exact (show t1 < M.length from (by omega)))) rfl rfl fun a75 h75 => ?_; clear h74
  have h76 := h75.sel (L' := [.big (mapsX 80 v54 M), .mapO (some g74) ([]), .blk b7006 25 [(.slice none 0 0), vw, .int .i64 locks, .int .i64 8], .own 3 (⟨vw, wl⟩ : Ls Int), .blk b10 28 [.int .i64 ((checkG (pgOf code words locks regs)).code), .int .i64 ((checkG (pgOf code words locks regs)).thread), .int .i64 ((checkG (pgOf code words locks regs)).at_)], .blk b5 28 [.int .i64 0, .int .i64 0, .int .i64 0], .blk b4 25 [(.slice none 0 0), (.slice none 0 0), .int .i64 0, .int .i64 0], .blk b3 25 [code.v, words.v, .int .i64 locks, .int .i64 regs], .at_ code, .at_ words, .at_ cols]) [1, 0, 2, 3, 4, 5, 6, 7, 8, 9, 10] (by decide) ⟨rfl, rfl, rfl, rfl, rfl, rfl, rfl, rfl, rfl, rfl, rfl, trivial⟩
  refine wl_ex (x_stMaps (i := t1) h76 ti_80 rfl rfl rfl rfl (show t1 < M.length from (by omega))) (wanted_none rfl _) ?_
  rintro a77 w77 h77
  clear h76
  refine wpList_nil <| hK72 _ _ <| wp_seq_k fun K78 hK78 => wp_region_lit <| wms 1 h77 rfl fun a79 h79 => ?_; clear h77
  have hl80 : ((nth cols.l t1).l).length ≤ 140737488355328 := ((h79.sh.at 9 rfl).nth t1 (show t1 < cols.l.length from (by omega))).len
  refine wv h79 (r_len (s := nth cols.l t1) (n := ((nth cols.l t1).l).length) sl_23 rfl rfl (fun w h => ((h.at 9 rfl).nth t1 (show t1 < cols.l.length from (by omega)))) rfl) rfl rfl fun a81 h81 => wms 1 h81 rfl fun a82 h82 => wpList_nil <| hK78 _ _ <| wp_block ?_; clear h79 h81
  have hcr1 := hcr t1 (by omega)
  have hts := tSp_le (cols := cols.l) (show regs.toNat ≤ 200 by omega) t1
  refine x_loop (fun m a w => ∃ (r1 : Nat) (wl2 : List Int) (vw2 : Value) (M2 : List MP) (gm : Nat), (r1 ≤ regs.toNat) ∧ (wl2 = words.l ++ List.replicate (tSp cols.l regs.toNat t1 + nSp (nth cols.l t1).l r1) 0) ∧ (M2.length = cols.l.length) ∧ (∀ j, j < t1 → (nth M2 j).l = spL (nth cols.l j).l (words.l.length + tSp cols.l regs.toNat j) regs.toNat) ∧ ((nth M2 t1).p = some gm) ∧ ((nth M2 t1).l = spL (nth cols.l t1).l (words.l.length + tSp cols.l regs.toNat t1) r1) ∧ St 117 (fun _ => False) W a w [(1, cols.v), (2, .pointer (some ⟨b3, 0, none⟩)), (4, .pointer (some ⟨b4, 0, none⟩)), (5, .pointer (some ⟨b5, 0, none⟩)), (7, .pointer (some ⟨b7006, 0, none⟩)), (8, v54), (9, .int .i64 ((t1 : Nat) : Int)), (39, cols.v), (40, .int .i64 ((cols.l.length : Nat) : Int)), (41, .int .i64 ((t1 : Nat) : Int)), (50, (nth cols.l t1).v), (51, .int .i64 ((((nth cols.l t1).l).length : Nat) : Int)), (52, .int .i64 ((r1 : Nat) : Int))] [.big (mapsX 80 v54 M2), .blk b7006 25 [(.slice none 0 0), vw2, .int .i64 locks, .int .i64 8], .own 3 (⟨vw2, wl2⟩ : Ls Int), .blk b10 28 [.int .i64 ((checkG (pgOf code words locks regs)).code), .int .i64 ((checkG (pgOf code words locks regs)).thread), .int .i64 ((checkG (pgOf code words locks regs)).at_)], .blk b5 28 [.int .i64 0, .int .i64 0, .int .i64 0], .blk b4 25 [(.slice none 0 0), (.slice none 0 0), .int .i64 0, .int .i64 0], .blk b3 25 [code.v, words.v, .int .i64 locks, .int .i64 regs], .at_ code, .at_ words, .at_ cols] ∧ m = regs.toNat - r1) ⟨_, 0, wl, vw, M.set t1 ⟨(some g74), []⟩, _, (by omega), (by rw [hwl]; rfl), (by rw [List.length_set]; exact hML), (fun j hj => by rw [nth_setP, if_neg (by omega)]; exact hMR j hj), (by rw [nth_setP, if_pos ⟨rfl, by omega⟩]), (by rw [nth_setP, if_pos ⟨rfl, by omega⟩]; rfl), h82.nrm ⟨rfl, rfl, rfl, rfl, rfl, rfl, rfl, rfl, rfl, rfl, rfl, rfl, rfl, trivial⟩ [0, 1, 2, 3, 4, 5, 6, 7, 8, 9] (by decide) ⟨rfl, rfl, rfl, rfl, rfl, rfl, rfl, rfl, rfl, rfl, trivial⟩, rfl⟩ ?_
  clear h82
  rintro m83 a83 w83 ⟨r1, wl2, vw2, M2, gm, hr, hwl2, hML2, hMR2, hgp, hml, h83, hm83⟩
  have hwn2 : wl2.length = words.l.length + (tSp cols.l regs.toNat t1 + nSp (nth cols.l t1).l r1) := by rw [hwl2, List.length_append, List.length_replicate]
  have hnl := nSp_le (nth cols.l t1).l r1
  refine wp_seq_k fun K84 hK84 => wp_region_lit <| wv h83 (r_lssN (p := r1) (q := ((nth cols.l t1).l).length) rfl rfl rfl) rfl rfl fun a85 h85 => wpList_nil <| hK84 _ _ <| wp_seq_k fun K86 hK86 => x_cond h85 rfl (fun hb87 => ?_) (fun hb87 => ?_); clear h83
  ·have hp87 : r1 < ((nth cols.l t1).l).length := of_decide_eq_true hb87
   refine wp_skip <| hK86 _ _ <| wp_seq_k fun K88 hK88 => wp_block <| wp_seq_k fun K89 hK89 => wp_region_lit <| wms 1 h85 rfl fun a90 h90 => wv h90 (r_ixN (s := nth cols.l t1) (q := r1) sl_23 ti_3 rfl rfl rfl (fun w h => ((h.at 9 rfl).nth t1 (show t1 < cols.l.length from (by omega)))) (show r1 < ((nth cols.l t1).l).length from (by omega))) rfl rfl fun a91 h91 => wv h91 (r_lde (s := nth cols.l t1) (i := r1) (v := .int .i64 (nth ((nth cols.l t1).l) r1)) ti_3 rfl rfl rfl (fun w h => ((h.at 9 rfl).nth t1 (show t1 < cols.l.length from (by omega)))) (show r1 < ((nth cols.l t1).l).length from (by omega)) (Nat.le_of_ble_eq_true rfl) rfl) rfl rfl fun a92 h92 => wms 2 h92 rfl fun a93 h93 => wpList_nil <| hK89 _ _ <| wp_seq_k fun K94 hK94 => wp_region_lit ?_; clear h85 h90 h91 h92
   refine wms 1 h93 rfl fun a95 h95 => wv h95 (r_lssI (p := nth ((nth cols.l t1).l) r1) (q := 0) rfl rfl rfl) rfl rfl fun a96 h96 => wpList_nil <| hK94 _ _ ?_; clear h93 h95
   have h97 := h96.openM 0 t1 rfl (show t1 < M2.length from (by omega)) hgp
   clear h96
   refine x_cond h97 rfl (fun hb98 => ?_) (fun hb98 => ?_)
   ·have hp98 : nth ((nth cols.l t1).l) r1 < 0 := of_decide_eq_true hb98
    refine wp_seq_k fun K99 hK99 => x_tail 8 [] (by kernel_rfl) (by kernel_rfl) h97 fun Z100 hZ100 => ?_
    have hq100 := h97.fr
    refine wq_val hq100 (r_move rfl rfl) (wanted_none rfl _) rfl rfl fun a101 hq101 => wq_val hq101 (r_move rfl rfl) (wanted_none rfl _) rfl rfl fun a102 hq102 => wq_val hq102 (r_ixN (s := (⟨v54, pvs M2⟩ : Ls RV)) (q := t1) sl_82 ti_80 rfl rfl rfl (fun w h => (h.mapsHAt 1 rfl)) (by rw [pvs_len]; exact (show t1 < M2.length from (by omega)))) (wanted_none rfl _) rfl rfl fun a103 hq103 => wq_val hq103 (Rn.same (r_lde (s := (⟨v54, pvs M2⟩ : Ls RV)) (i := t1) (v := (nth (pvs M2) t1).v) ti_80 rfl rfl rfl (fun w h => (h.mapsHAt 1 rfl)) (by rw [pvs_len]; exact (show t1 < M2.length from (by omega))) (Nat.le_of_ble_eq_true rfl) rfl) ((nth_pvs (show t1 < M2.length from (by omega))).trans (congrArg Value.map hgp))) (wanted_none rfl _) rfl rfl fun a104 hq104 => wq_val hq104 (r_move rfl rfl) (wanted_none rfl _) rfl rfl fun a105 hq105 => wq_val hq105 (r_fieldB (r := 1) fl_25_1 rfl rfl rfl) (wanted_none rfl _) rfl rfl fun a106 hq106 => wq_val hq106 (r_ldb (i := 2) ti_23 rfl rfl rfl rfl) (wanted_none rfl _) rfl rfl fun a107 hq107 => ?_; clear hq100 hq101 hq102 hq103 hq104 hq105 hq106
    have hl108 : wl2.length ≤ 140737488355328 := (h97.sh.own 3 rfl).len
    refine wq_val hq107 (r_len (s := (⟨vw2, wl2⟩ : Ls Int)) (n := wl2.length) sl_23 rfl rfl (fun w h => (h.own 3 rfl)) rfl) (wanted_none rfl _) rfl rfl fun a109 hq109 => wpQuiet_nil (hZ100 _ fun w110 hw110 => ?_); clear hq107
    have h110 : St 117 (fun _ => False) W a109 w110 _ _ := ⟨hq109, hw110⟩
    clear hq109 hw110 h97
    refine wl_ex (x_updZ (i := 0) (k := ((r1 : Nat) : Int)) (v := ((wl2.length : Nat) : Int)) h110 mz_80 rfl rfl rfl rfl rfl rfl (by rw [hml]; exact spL_none _ _ _)) (wanted_none rfl _) ?_
    rintro a111 w111 h111
    clear h110
    refine wpList_nil <| hK99 _ _ ?_
    have h112 := h111.closeM 0 t1 rfl (show t1 < M2.length from (by omega)) hgp
    clear h111
    refine wp_region_lit <| wv h112 (r_fieldB (r := 1) fl_25_1 rfl rfl rfl) rfl rfl fun a113 h113 => wv h113 (r_ldb (i := 1) ti_23 rfl rfl rfl rfl) rfl rfl fun a114 h114 => wl_ex (x_lit (n := 1) (cs := [.int .i64 0]) ([0] : List Int) h114 sl_23 ti_3 rfl rfl rfl (by decide) rfl (by kernel_rfl) rfl (fun q hq w h => Flat.inner _ _) (fun q hq b hb => (Flat.on _ _ hb).elim) rfl rfl) (wanted_none rfl _) ?_; clear h112 h113
    rintro a115 w115 ⟨v115, h115⟩; clear h114
    refine wl_ex (x_app (r := 3) (rm := 0) (s := (⟨vw2, wl2⟩ : Ls Int)) (m := (⟨v115, [0]⟩ : Ls Int)) h115 sl_23 ti_3 rfl rfl rfl rfl rfl rfl rfl (fun w h => (h.own 0 rfl)) (fun b hb => own_on (h115.sh.ok _ (List.mem_of_getElem? (i := 0) rfl)) hb) (fun q hq b hb => ⟨q, hq, hb⟩) rfl rfl rfl inferInstance (show (wl2.length + ([0]).length) * 8 ≤ 140737488355328 ∧ wl2.length + ([0]).length ≤ 140737488355328 from (by first | omega | (simp only [lens9]; omega))) rfl rfl) (wanted_none rfl _) ?_
    rintro a116 w116 ⟨v116, h116⟩; clear h115
    refine wv h116 (r_fieldB (r := 1) fl_25_1 rfl rfl rfl) rfl rfl fun a117 h117 => wl_ex (x_stb (i := 2) (vs := [v116]) (cs' := [(.slice none 0 0), v116, .int .i64 locks, .int .i64 8]) h117 ti_23 rfl rfl rfl rfl rfl (cells_oneL ((h117.sh.own 3 rfl)).one) rfl (allOne_cons ((h117.sh.own 3 rfl)).one allOne_nil) (Nat.le_of_ble_eq_true rfl) rfl) (wanted_none rfl _) ?_; clear h116
    rintro a118 w118 h118
    clear h117
    refine wpList_nil <| hK88 _ _ <| wp_region_lit <| wv h118 (r_addN (p := r1) (q := 1) rfl rfl rfl (show r1 + 1 < 9223372036854775808 from (by omega))) rfl rfl fun a119 h119 => wms 1 h119 rfl fun a120 h120 => wpList_nil <| x_again ⟨_, ?_, (r1 + 1), wl2 ++ ([0]), v116, M2.set t1 ⟨(nth M2 t1).p, ((nth M2 t1).l) ++ [(((r1 : Nat) : Int), ((wl2.length : Nat) : Int))]⟩, gm, ?_, ?_, ?_, ?_, ?_, ?_, h120.nrm ⟨rfl, rfl, rfl, rfl, rfl, rfl, rfl, rfl, rfl, rfl, rfl, rfl, rfl, trivial⟩ [1, 2, 3, 4, 5, 6, 7, 8, 9, 10] (by decide) ⟨rfl, rfl, rfl, rfl, rfl, rfl, rfl, rfl, rfl, rfl, trivial⟩, rfl⟩; clear h118 h119
    · rw [hm83]; first | omega | (simp only [lens9]; omega)
    · omega
    · first | exact wl_yes hwl2 (by assumption) | exact wl_no hwl2 (by assumption)
    · first | exact hML2 | (rw [List.length_set]; exact hML2)
    · first | exact hMR2 | (intro j hj; rw [nth_setP, if_neg (by omega)]; exact hMR2 j hj)
    · first | exact hgp | (rw [nth_setP, if_pos ⟨rfl, by omega⟩]; exact hgp)
    · first | (rw [spL_no (by assumption)]; exact hml) | (rw [nth_setP, if_pos ⟨rfl, by omega⟩]; show (nth M2 t1).l ++ _ = _; rw [hml, spL_yes (by assumption), hwn2, Nat.add_assoc])
   have hp98 : ¬ (nth ((nth cols.l t1).l) r1 < 0) := of_decide_eq_false hb98
   have h121 := h97.closeM 0 t1 rfl (show t1 < M2.length from (by omega)) hgp
   clear h97
   rw [nth_set_p] at h121
   refine wp_skip <| hK88 _ _ <| wp_region_lit <| wv h121 (r_addN (p := r1) (q := 1) rfl rfl rfl (show r1 + 1 < 9223372036854775808 from (by omega))) rfl rfl fun a122 h122 => wms 1 h122 rfl fun a123 h123 => wpList_nil <| x_again ⟨_, ?_, (r1 + 1), wl2, vw2, M2, gm, ?_, ?_, ?_, ?_, ?_, ?_, h123.nrm ⟨rfl, rfl, rfl, rfl, rfl, rfl, rfl, rfl, rfl, rfl, rfl, rfl, rfl, trivial⟩ [0, 1, 2, 3, 4, 5, 6, 7, 8, 9] (by decide) ⟨rfl, rfl, rfl, rfl, rfl, rfl, rfl, rfl, rfl, rfl, trivial⟩, rfl⟩; clear h121 h122
   · rw [hm83]; first | omega | (simp only [lens9]; omega)
   · omega
   · first | exact wl_yes hwl2 (by assumption) | exact wl_no hwl2 (by assumption)
   · first | exact hML2 | (rw [List.length_set]; exact hML2)
   · first | exact hMR2 | (intro j hj; rw [nth_setP, if_neg (by omega)]; exact hMR2 j hj)
   · first | exact hgp | (rw [nth_setP, if_pos ⟨rfl, by omega⟩]; exact hgp)
   · first | (rw [spL_no (by assumption)]; exact hml) | (rw [nth_setP, if_pos ⟨rfl, by omega⟩]; show (nth M2 t1).l ++ _ = _; rw [hml, spL_yes (by assumption), hwn2, Nat.add_assoc])
  have hp87 : ¬ (r1 < ((nth cols.l t1).l).length) := of_decide_eq_false hb87
  refine wp_exit <| hK66 _ _ <| wp_region_lit <| wv h85 (r_addN (p := t1) (q := 1) rfl rfl rfl (show t1 + 1 < 9223372036854775808 from (by omega))) rfl rfl fun a124 h124 => wms 1 h124 rfl fun a125 h125 => wpList_nil <| x_again ⟨_, ?_, (t1 + 1), wl2, vw2, M2, ?_, ?_, ?_, ?_, h125.nrm ⟨rfl, rfl, rfl, rfl, rfl, rfl, rfl, rfl, rfl, trivial⟩ [0, 1, 2, 3, 4, 5, 6, 7, 8, 9] (by decide) ⟨rfl, rfl, rfl, rfl, rfl, rfl, rfl, rfl, rfl, rfl, trivial⟩, rfl⟩; clear h85 h124
  · rw [hm61]; first | omega | (simp only [lens9]; omega)
  · omega
  · rw [hwl2, show r1 = regs.toNat by omega]; rfl
  · exact hML2
  · exact all_step hMR2 (by rw [hml, show r1 = regs.toNat by omega])
 have hp65 : ¬ (t1 < cols.l.length) := of_decide_eq_false hb65
 refine wp_exit <| hK56 _ _ ?_
 have hwn1 : wl.length = words.l.length + tSp cols.l regs.toNat t1 := by rw [hwl, List.length_append, List.length_replicate]
 rw [show t1 = code.l.length by omega] at hwn1
 refine wp_seq_k fun K126 hK126 => wp_seq_k fun K127 hK127 => wp_region_lit <| wv h63 (r_fieldB (r := 1) fl_25_1 rfl rfl rfl) rfl rfl fun a128 h128 => wv h128 (r_ldb (i := 1) ti_23 rfl rfl rfl rfl) rfl rfl fun a129 h129 => ?_; clear h63 h128
 have hl130 : wl.length ≤ 140737488355328 := (h129.sh.own 2 rfl).len
 refine wv h129 (r_len (s := (⟨vw, wl⟩ : Ls Int)) (n := wl.length) sl_23 rfl rfl (fun w h => (h.own 2 rfl)) rfl) rfl rfl fun a131 h131 => wv h131 (r_gtrN (p := wl.length) (q := 64) rfl rfl rfl) rfl rfl fun a132 h132 => wpList_nil <| hK127 _ _ <| x_cond h132 rfl (fun hb133 => ?_) (fun hb133 => ?_); clear h129 h131
 ·have hp133 : 64 < wl.length := of_decide_eq_true hb133
  refine wp_seq_k fun K134 hK134 => wp_region_lit <| wv h132 (r_build (cs := [(.slice none 0 0), (.slice none 0 0), .int .i64 0, .int .i64 0]) rfl rfl (by kernel_rfl)) rfl rfl fun a135 h135 => wv h135 (r_build (cs := [.int .i64 1, .int .i64 0, .int .i64 0]) rfl rfl (by kernel_rfl)) rfl rfl fun a136 h136 => wl_ex (x_stb (i := 5) (vs := [(.slice none 0 0), (.slice none 0 0), .int .i64 0, .int .i64 0]) (cs' := [(.slice none 0 0), (.slice none 0 0), .int .i64 0, .int .i64 0]) h136 ti_25 rfl rfl rfl rfl rfl rfl rfl (allOne_cons rfl (allOne_cons rfl (allOne_cons rfl (allOne_cons rfl allOne_nil)))) (Nat.le_of_ble_eq_true rfl) rfl) (wanted_none rfl _) ?_; clear h132 h135
  rintro a137 w137 h137
  clear h136
  refine wl_ex (x_stb (i := 4) (vs := [.int .i64 1, .int .i64 0, .int .i64 0]) (cs' := [.int .i64 1, .int .i64 0, .int .i64 0]) h137 ti_28 rfl rfl rfl rfl rfl rfl rfl (allOne_cons rfl (allOne_cons rfl (allOne_cons rfl allOne_nil))) (Nat.le_of_ble_eq_true rfl) rfl) (wanted_none rfl _) ?_
  rintro a138 w138 h138
  clear h137
  refine wpList_nil <| hK134 _ _ <| wp_ret ?_
  try simp only [Exit.then, Exit.inBlock]
  refine x_ret2c (fn := Try.f19) (t := 4) (t2 := 5) (i := 5) (i2 := 4) ti_25 ti_28 rfl h138 rfl rfl rfl rfl rfl rfl ?_
  exact ⟨rfl, (h138.sh.sel [] (by decide) trivial)⟩
 have hp133 : ¬ (64 < wl.length) := of_decide_eq_false hb133
 exfalso
 omega

set_option maxRecDepth 100000 in
set_option maxHeartbeats 16000000 in
theorem apply_l (code : Ls (Ls Ins)) (words : Ls Int) (locks regs : Int) (cols : Ls (Ls Int)) (f : Nat → Nat → Nat → Bool) (kk : Nat) (W : World) (hcode : code.At W) (hwords : words.At W) (hcols : cols.At W) (hok : OkPg (pgOf code words locks regs)) (hF : ∀ t, t < code.l.length → ∀ r j, (f t r j = true ↔ LiveI (nth code.l t).l r j)) (hcb : (colsB code.l cols.l f regs.toNat) = true) (htot : words.l.length + tSp cols.l regs.toNat code.l.length ≤ 64) (hk9 : kk < code.l.length) (h400 : 400 < (apT (nth code.l kk).l (nth cols.l kk).l (words.l.length + tSp cols.l regs.toNat kk) regs.toNat).length) (hbef : ∀ j, j < kk → (apT (nth code.l j).l (nth cols.l j).l (words.l.length + tSp cols.l regs.toNat j) regs.toNat).length ≤ 400) :
    Rets Try.prog 19 [.agg #[code.v, words.v, .int .i64 locks, .int .i64 regs], cols.v] W (fun v w' => v = .tuple #[.agg #[.slice none 0 0, .slice none 0 0, .int .i64 0, .int .i64 0], (⟨1, kk, 0⟩ : Flt).val] ∧ Sh0 W w' []) := by
 have hz := checkG_ok hok
 obtain ⟨hl1, hl2, hl3, hl4', hl5, hl6, hl7⟩ := ok_len hok
 have hrg := hok.regs
 have hrg1 : (pgOf code words locks regs).regs = regs := rfl
 rw [hrg1] at hrg
 obtain ⟨hcc, hcr⟩ := colsB_len hcb
 refine x_enter (N := 117) Try.func19 rfl Try.ntmps19 (Nat.le_of_ble_eq_true rfl) fun a1 hf1 => ?_
 have h1 : St 117 (fun _ => False) W a1 W [(0, .agg #[code.v, words.v, .int .i64 locks, .int .i64 regs]), (1, cols.v)] [.at_ code, .at_ words, .at_ cols] := ⟨hf1.sub ⟨rfl, rfl, trivial⟩, Sh0.ext3 hcode hwords hcols⟩
 clear hf1
 refine wp_seq_k fun K2 hK2 => wp_region_lit <| wl_ex (x_box (cs := [code.v, words.v, .int .i64 locks, .int .i64 regs]) h1 rfl rfl rfl rfl rfl) (wanted_none rfl _) ?_
 rintro a3 w3 ⟨b3, h3⟩; clear h1
 refine wl_ex (x_alloc h3 ti_25 rfl rfl rfl) (wanted_none rfl _) ?_
 rintro a4 w4 ⟨b4, h4⟩; clear h3
 refine wl_ex (x_alloc h4 ti_28 rfl rfl rfl) (wanted_none rfl _) ?_
 rintro a5 w5 ⟨b5, h5⟩; clear h4
 refine wpList_nil <| hK2 _ _ <| wp_seq_k fun K6 hK6 => wp_seq_k fun K7 hK7 => wp_region_lit <| wv h5 (r_ldbw (i := 2) (vs := [code.v, words.v, .int .i64 locks, .int .i64 regs]) ti_25 rfl rfl rfl rfl rfl) rfl rfl fun a8 h8 => wl_ex (x_call h8 bd_46 rfl rfl rfl rfl rfl (asmCheck_c (code := code) (words := words) (locks := locks) (regs := regs) (h8.sh.at 3 rfl) (h8.sh.at 4 rfl))) (wanted_none rfl _) ?_; clear h5
 rintro a9 w9 ⟨_, ⟨rfl, hs9⟩, hf9⟩
 have h9 : St 117 (fun _ => False) W a9 w9 _ _ := ⟨hf9, h8.sh.call0 hs9⟩
 clear hf9 hs9
 clear h8
 refine wl_ex (x_alloc h9 ti_28 rfl rfl rfl) (wanted_none rfl _) ?_
 rintro a10 w10 ⟨b10, h10⟩; clear h9
 refine wl_ex (x_stb (i := 0) (vs := [.int .i64 ((checkG (pgOf code words locks regs)).code), .int .i64 ((checkG (pgOf code words locks regs)).thread), .int .i64 ((checkG (pgOf code words locks regs)).at_)]) (cs' := [.int .i64 ((checkG (pgOf code words locks regs)).code), .int .i64 ((checkG (pgOf code words locks regs)).thread), .int .i64 ((checkG (pgOf code words locks regs)).at_)]) h10 ti_28 rfl rfl rfl rfl rfl rfl rfl (allOne_cons rfl (allOne_cons rfl (allOne_cons rfl allOne_nil))) (Nat.le_of_ble_eq_true rfl) rfl) (wanted_none rfl _) ?_
 rintro a11 w11 h11
 clear h10
 refine wpList_nil <| hK7 _ _ <| wp_seq_k fun K12 hK12 => wp_region_lit <| wv h11 (r_fieldB (r := 0) fl_28_0 rfl rfl rfl) rfl rfl fun a13 h13 => wv h13 (r_ldb (i := 0) ti_26 rfl rfl rfl rfl) rfl rfl fun a14 h14 => wv h14 (r_neqI (p := (checkG (pgOf code words locks regs)).code) (q := 0) rfl rfl rfl) rfl rfl fun a15 h15 => wpList_nil <| hK12 _ _ <| x_condF h15 rfl (by rw [hz]; rfl) ?_; clear h11 h13 h14
 refine wp_skip <| hK6 _ _ <| wp_seq_k fun K16 hK16 => wp_seq_k fun K17 hK17 => wp_region_lit <| wv h15 (r_ldbw (i := 3) (vs := [code.v, words.v, .int .i64 locks, .int .i64 regs]) ti_25 rfl rfl rfl rfl rfl) rfl rfl fun a18 h18 => wms 1 h18 rfl fun a19 h19 => wl_ex (x_call h19 bd_54 rfl rfl rfl rfl rfl (is_c code words locks regs cols f _ (h19.sh.at 4 rfl) (h19.sh.at 5 rfl) (h19.sh.at 6 rfl) hok hF)) (wanted_none rfl _) ?_; clear h15 h18
 rintro a20 w20 ⟨_, ⟨rfl, hs20⟩, hf20⟩
 have h20 : St 117 (fun _ => False) W a20 w20 _ _ := ⟨hf20, h19.sh.call0 hs20⟩
 clear hf20 hs20
 clear h19
 refine wv h20 (r_not rfl rfl) rfl rfl fun a21 h21 => wpList_nil <| hK17 _ _ <| x_condF h21 rfl (by rw [hcb]; rfl) ?_; clear h20
 refine wp_skip <| hK16 _ _ <| wp_seq_k fun K22 hK22 => ?_
 have h23 : St 117 (fun _ => False) W a21 w20 [(0, .agg #[code.v, words.v, .int .i64 locks, .int .i64 regs]), (1, cols.v), (2, .pointer (some ⟨b3, 0, none⟩)), (4, .pointer (some ⟨b4, 0, none⟩)), (5, .pointer (some ⟨b5, 0, none⟩)), (6, .pointer (some ⟨b10, 0, none⟩)), (17, .agg #[code.v, words.v, .int .i64 locks, .int .i64 regs]), (18, .agg #[.int .i64 ((checkG (pgOf code words locks regs)).code), .int .i64 ((checkG (pgOf code words locks regs)).thread), .int .i64 ((checkG (pgOf code words locks regs)).at_)]), (19, .pointer (some ⟨b10, 0, none⟩)), (20, .int .i64 ((checkG (pgOf code words locks regs)).code)), (21, .bool (decide ((checkG (pgOf code words locks regs)).code ≠ 0))), (24, .agg #[code.v, words.v, .int .i64 locks, .int .i64 regs]), (25, cols.v), (26, .bool (colsB code.l cols.l f regs.toNat)), (27, .bool (!(colsB code.l cols.l f regs.toNat)))] [.blk b10 28 [.int .i64 ((checkG (pgOf code words locks regs)).code), .int .i64 ((checkG (pgOf code words locks regs)).thread), .int .i64 ((checkG (pgOf code words locks regs)).at_)], .blk b5 28 [.int .i64 0, .int .i64 0, .int .i64 0], .blk b4 25 [(.slice none 0 0), (.slice none 0 0), .int .i64 0, .int .i64 0], .blk b3 25 [code.v, words.v, .int .i64 locks, .int .i64 regs], .at_ code, .at_ words, .at_ cols] := h21.nrm ⟨rfl, rfl, rfl, rfl, rfl, rfl, rfl, rfl, rfl, rfl, rfl, rfl, rfl, rfl, rfl, trivial⟩ [0, 1, 2, 3, 4, 5, 6] (by decide) ⟨rfl, rfl, rfl, rfl, rfl, rfl, rfl, trivial⟩
 clear h21
 refine x_any ((fun Φ Ψ S a w => (S 4 = false ∧ S 6 = false ∧ S 7 = false ∧ FrI 117 S Φ Ψ a ∧ Sh (fun _ => False) W w [.blk b10 28 [.int .i64 ((checkG (pgOf code words locks regs)).code), .int .i64 ((checkG (pgOf code words locks regs)).thread), .int .i64 ((checkG (pgOf code words locks regs)).at_)], .blk b5 28 [.int .i64 0, .int .i64 0, .int .i64 0], .blk b4 25 [(.slice none 0 0), (.slice none 0 0), .int .i64 0, .int .i64 0], .blk b3 25 [code.v, words.v, .int .i64 locks, .int .i64 regs], .at_ code, .at_ words, .at_ cols]) ∨ (S 4 = true ∧ S 6 = false ∧ S 7 = false ∧ ∃ (s7004 : Ls Int), FrI 117 S Φ (Ψ ++ [(4, 34, s7004.v), (5, 35, .agg #[(.slice none 0 0), s7004.v, .int .i64 locks, .int .i64 8])]) a ∧ Sh (fun _ => False) W w [.own 3 (⟨s7004.v, words.l⟩ : Ls Int), .blk b10 28 [.int .i64 ((checkG (pgOf code words locks regs)).code), .int .i64 ((checkG (pgOf code words locks regs)).thread), .int .i64 ((checkG (pgOf code words locks regs)).at_)], .blk b5 28 [.int .i64 0, .int .i64 0, .int .i64 0], .blk b4 25 [(.slice none 0 0), (.slice none 0 0), .int .i64 0, .int .i64 0], .blk b3 25 [code.v, words.v, .int .i64 locks, .int .i64 regs], .at_ code, .at_ words, .at_ cols]) ∨ (S 4 = false ∧ S 6 = true ∧ S 7 = false ∧ ∃ (b7006 : Nat), FrI 117 S Φ (Ψ ++ [(6, 7, .pointer (some ⟨b7006, 0, none⟩))]) a ∧ Sh (fun _ => False) W w [.blk b7006 25 [(.slice none 0 0), (.slice none 0 0), .int .i64 0, .int .i64 0], .blk b10 28 [.int .i64 ((checkG (pgOf code words locks regs)).code), .int .i64 ((checkG (pgOf code words locks regs)).thread), .int .i64 ((checkG (pgOf code words locks regs)).at_)], .blk b5 28 [.int .i64 0, .int .i64 0, .int .i64 0], .blk b4 25 [(.slice none 0 0), (.slice none 0 0), .int .i64 0, .int .i64 0], .blk b3 25 [code.v, words.v, .int .i64 locks, .int .i64 regs], .at_ code, .at_ words, .at_ cols]) ∨ (S 4 = true ∧ S 6 = true ∧ S 7 = false ∧ ∃ (s7004 : Ls Int) (b7006 : Nat), FrI 117 S Φ (Ψ ++ [(4, 34, s7004.v), (5, 35, .agg #[(.slice none 0 0), s7004.v, .int .i64 locks, .int .i64 8]), (6, 7, .pointer (some ⟨b7006, 0, none⟩))]) a ∧ Sh (fun _ => False) W w [.blk b7006 25 [(.slice none 0 0), (.slice none 0 0), .int .i64 0, .int .i64 0], .own 3 (⟨s7004.v, words.l⟩ : Ls Int), .blk b10 28 [.int .i64 ((checkG (pgOf code words locks regs)).code), .int .i64 ((checkG (pgOf code words locks regs)).thread), .int .i64 ((checkG (pgOf code words locks regs)).at_)], .blk b5 28 [.int .i64 0, .int .i64 0, .int .i64 0], .blk b4 25 [(.slice none 0 0), (.slice none 0 0), .int .i64 0, .int .i64 0], .blk b3 25 [code.v, words.v, .int .i64 locks, .int .i64 regs], .at_ code, .at_ words, .at_ cols]) ∨ (S 4 = true ∧ S 6 = true ∧ S 7 = true ∧ ∃ (s7004 : Ls Int) (b7006 : Nat), FrI 117 S Φ (Ψ ++ [(4, 34, s7004.v), (5, 35, .agg #[(.slice none 0 0), s7004.v, .int .i64 locks, .int .i64 8]), (6, 7, .pointer (some ⟨b7006, 0, none⟩))]) a ∧ Sh (fun _ => False) W w [.blk b7006 25 [(.slice none 0 0), s7004.v, .int .i64 locks, .int .i64 8], .own 3 (⟨s7004.v, words.l⟩ : Ls Int), .blk b10 28 [.int .i64 ((checkG (pgOf code words locks regs)).code), .int .i64 ((checkG (pgOf code words locks regs)).thread), .int .i64 ((checkG (pgOf code words locks regs)).at_)], .blk b5 28 [.int .i64 0, .int .i64 0, .int .i64 0], .blk b4 25 [(.slice none 0 0), (.slice none 0 0), .int .i64 0, .int .i64 0], .blk b3 25 [code.v, words.v, .int .i64 locks, .int .i64 regs], .at_ code, .at_ words, .at_ cols])) [(0, .agg #[code.v, words.v, .int .i64 locks, .int .i64 regs]), (1, cols.v), (2, .pointer (some ⟨b3, 0, none⟩)), (4, .pointer (some ⟨b4, 0, none⟩)), (5, .pointer (some ⟨b5, 0, none⟩)), (6, .pointer (some ⟨b10, 0, none⟩)), (17, .agg #[code.v, words.v, .int .i64 locks, .int .i64 regs]), (18, .agg #[.int .i64 ((checkG (pgOf code words locks regs)).code), .int .i64 ((checkG (pgOf code words locks regs)).thread), .int .i64 ((checkG (pgOf code words locks regs)).at_)]), (19, .pointer (some ⟨b10, 0, none⟩)), (20, .int .i64 ((checkG (pgOf code words locks regs)).code)), (21, .bool (decide ((checkG (pgOf code words locks regs)).code ≠ 0))), (24, .agg #[code.v, words.v, .int .i64 locks, .int .i64 regs]), (25, cols.v), (26, .bool (colsB code.l cols.l f regs.toNat)), (27, .bool (!(colsB code.l cols.l f regs.toNat)))] [(0, 30, .pointer (some ⟨b3, 2, none⟩)), (1, 31, .int .i64 locks), (2, 32, .pointer (some ⟨b3, 1, none⟩)), (3, 33, words.v)]) (by kernel_rfl) (by kernel_rfl) (Or.inl (⟨rfl, rfl, rfl, FrI.start h23.fr, h23.sh.drew⟩)) ?_ ?_
 ·intro S i o ho hSi hcl hdep a w hI
  clear h23
  rcases i with _ | _ | _ | _ | _ | _ | _ | _ | i
  ·obtain rfl : _ = o := Option.some.inj ho
   rcases hI with ⟨ν4, ν6, ν7, φ, ς⟩ | ⟨ν4, ν6, ν7, s7004, φ, ς⟩ | ⟨ν4, ν6, ν7, b7006, φ, ς⟩ | ⟨ν4, ν6, ν7, s7004, b7006, φ, ς⟩ | ⟨_, _, ν7, _⟩
   ·exact sq φ φ.fr0 ς (r_fieldB (r := 2) fl_25_2 rfl rfl rfl) 0 rfl rfl rfl rfl rfl rfl fun a hg => Or.inl (⟨un rfl ν4, un rfl ν6, un rfl ν7, hg, ς⟩)
   ·exact sq φ φ.fr0 ς (r_fieldB (r := 2) fl_25_2 rfl rfl rfl) 0 rfl rfl rfl rfl rfl rfl fun a hg => Or.inr (Or.inl (⟨un rfl ν4, un rfl ν6, un rfl ν7, s7004, hg, ς⟩))
   ·exact sq φ φ.fr0 ς (r_fieldB (r := 2) fl_25_2 rfl rfl rfl) 0 rfl rfl rfl rfl rfl rfl fun a hg => Or.inr (Or.inr (Or.inl (⟨un rfl ν4, un rfl ν6, un rfl ν7, b7006, hg, ς⟩)))
   ·exact sq φ φ.fr0 ς (r_fieldB (r := 2) fl_25_2 rfl rfl rfl) 0 rfl rfl rfl rfl rfl rfl fun a hg => Or.inr (Or.inr (Or.inr (Or.inl (⟨un rfl ν4, un rfl ν6, un rfl ν7, s7004, b7006, hg, ς⟩))))
   ·exact no_way (cA hcl 7 0 rfl ν7) hSi
  ·obtain rfl : _ = o := Option.some.inj ho
   have hd0 : S 0 = true := depAt hdep 0 rfl rfl
   rcases hI with ⟨ν4, ν6, ν7, φ, ς⟩ | ⟨ν4, ν6, ν7, s7004, φ, ς⟩ | ⟨ν4, ν6, ν7, b7006, φ, ς⟩ | ⟨ν4, ν6, ν7, s7004, b7006, φ, ς⟩ | ⟨_, _, ν7, _⟩
   ·exact sq φ (Fr.cons φ.fr0 (φ.at_ 0 0 30 _ rfl hd0)) ς (r_ldb (i := 3) ti_3 rfl rfl rfl rfl) 1 rfl rfl rfl rfl rfl rfl fun a hg => Or.inl (⟨un rfl ν4, un rfl ν6, un rfl ν7, hg, ς⟩)
   ·exact sq φ (Fr.cons φ.fr0 (φ.at_ 0 0 30 _ rfl hd0)) ς (r_ldb (i := 4) ti_3 rfl rfl rfl rfl) 1 rfl rfl rfl rfl rfl rfl fun a hg => Or.inr (Or.inl (⟨un rfl ν4, un rfl ν6, un rfl ν7, s7004, hg, ς⟩))
   ·exact sq φ (Fr.cons φ.fr0 (φ.at_ 0 0 30 _ rfl hd0)) ς (r_ldb (i := 4) ti_3 rfl rfl rfl rfl) 1 rfl rfl rfl rfl rfl rfl fun a hg => Or.inr (Or.inr (Or.inl (⟨un rfl ν4, un rfl ν6, un rfl ν7, b7006, hg, ς⟩)))
   ·exact sq φ (Fr.cons φ.fr0 (φ.at_ 0 0 30 _ rfl hd0)) ς (r_ldb (i := 5) ti_3 rfl rfl rfl rfl) 1 rfl rfl rfl rfl rfl rfl fun a hg => Or.inr (Or.inr (Or.inr (Or.inl (⟨un rfl ν4, un rfl ν6, un rfl ν7, s7004, b7006, hg, ς⟩))))
   ·exact no_way (cA hcl 7 1 rfl ν7) hSi
  ·obtain rfl : _ = o := Option.some.inj ho
   rcases hI with ⟨ν4, ν6, ν7, φ, ς⟩ | ⟨ν4, _⟩ | ⟨ν4, ν6, ν7, b7006, φ, ς⟩ | ⟨ν4, _⟩ | ⟨ν4, _⟩
   ·exact sq φ φ.fr0 ς (r_fieldB (r := 1) fl_25_1 rfl rfl rfl) 2 rfl rfl rfl rfl rfl rfl fun a hg => Or.inl (⟨un rfl ν4, un rfl ν6, un rfl ν7, hg, ς⟩)
   ·exact no_way (cA hcl 4 2 rfl ν4) hSi
   ·exact sq φ φ.fr0 ς (r_fieldB (r := 1) fl_25_1 rfl rfl rfl) 2 rfl rfl rfl rfl rfl rfl fun a hg => Or.inr (Or.inr (Or.inl (⟨un rfl ν4, un rfl ν6, un rfl ν7, b7006, hg, ς⟩)))
   ·exact no_way (cA hcl 4 2 rfl ν4) hSi
   ·exact no_way (cA hcl 4 2 rfl ν4) hSi
  ·obtain rfl : _ = o := Option.some.inj ho
   have hd2 : S 2 = true := depAt hdep 0 rfl rfl
   rcases hI with ⟨ν4, ν6, ν7, φ, ς⟩ | ⟨ν4, _⟩ | ⟨ν4, ν6, ν7, b7006, φ, ς⟩ | ⟨ν4, _⟩ | ⟨ν4, _⟩
   ·exact sq φ (Fr.cons φ.fr0 (φ.at_ 2 2 32 _ rfl hd2)) ς (r_ldb (i := 3) ti_23 rfl rfl rfl rfl) 3 rfl rfl rfl rfl rfl rfl fun a hg => Or.inl (⟨un rfl ν4, un rfl ν6, un rfl ν7, hg, ς⟩)
   ·exact no_way (cA hcl 4 3 rfl ν4) hSi
   ·exact sq φ (Fr.cons φ.fr0 (φ.at_ 2 2 32 _ rfl hd2)) ς (r_ldb (i := 4) ti_23 rfl rfl rfl rfl) 3 rfl rfl rfl rfl rfl rfl fun a hg => Or.inr (Or.inr (Or.inl (⟨un rfl ν4, un rfl ν6, un rfl ν7, b7006, hg, ς⟩)))
   ·exact no_way (cA hcl 4 3 rfl ν4) hSi
   ·exact no_way (cA hcl 4 3 rfl ν4) hSi
  ·obtain rfl : _ = o := Option.some.inj ho
   have hd3 : S 3 = true := depAt hdep 0 rfl rfl
   rcases hI with ⟨ν4, ν6, ν7, φ, ς⟩ | ⟨ν4, _⟩ | ⟨ν4, ν6, ν7, b7006, φ, ς⟩ | ⟨ν4, _⟩ | ⟨ν4, _⟩
   ·have hs := St.mk (Fr.cons φ.fr0 (φ.at_ 3 3 33 _ rfl hd3)) ς
    refine step_ex (x_call hs bd_47 rfl rfl rfl rfl rfl (cloneI_c words _ (hs.sh.at 5 rfl) (by first | omega | (simp only [lens9]; omega)))) (wanted_none rfl _) ?_
    rintro a40 w40 ⟨_, ⟨s40, rfl, hs40⟩, hf40⟩ ⟨v0, ht40⟩
    have h40 := (⟨hf40, hs.sh.call hs40 (by intro A hA b hb; first | (simp at hA; done) | (simp at hA; subst hA; first | exact Flat.noRd hb | exact (hb : False).elim) | (simp at hA; rcases hA with rfl | rfl <;> first | exact Flat.noRd hb | exact (hb : False).elim))⟩ : St 117 (fun _ => False) W a40 w40 _ _)
    clear hf40 hs40
    exact Or.inr (Or.inl (⟨upd_self _ _, un rfl ν6, un rfl ν7, s40, φ.stepW hcl hSi [0, 1, 2, 3] (by kernel_rfl) (by kernel_rfl) ht40 h40.fr.defers (h40.fr.at_ 34 _ rfl) 4 rfl rfl rfl rfl, (h40.sh.sel (L' := [.own 3 (⟨s40.v, words.l⟩ : Ls Int), .blk b10 28 [.int .i64 ((checkG (pgOf code words locks regs)).code), .int .i64 ((checkG (pgOf code words locks regs)).thread), .int .i64 ((checkG (pgOf code words locks regs)).at_)], .blk b5 28 [.int .i64 0, .int .i64 0, .int .i64 0], .blk b4 25 [(.slice none 0 0), (.slice none 0 0), .int .i64 0, .int .i64 0], .blk b3 25 [code.v, words.v, .int .i64 locks, .int .i64 regs], .at_ code, .at_ words, .at_ cols]) [0, 1, 2, 3, 4, 5, 6, 7] (by decide) ⟨rfl, rfl, rfl, rfl, rfl, rfl, rfl, rfl, trivial⟩)⟩))
   ·exact no_way ν4 hSi
   ·have hs := St.mk (Fr.cons φ.fr0 (φ.at_ 3 3 33 _ rfl hd3)) ς
    refine step_ex (x_call hs bd_47 rfl rfl rfl rfl rfl (cloneI_c words _ (hs.sh.at 6 rfl) (by first | omega | (simp only [lens9]; omega)))) (wanted_none rfl _) ?_
    rintro a41 w41 ⟨_, ⟨s41, rfl, hs41⟩, hf41⟩ ⟨v0, ht41⟩
    have h41 := (⟨hf41, hs.sh.call hs41 (by intro A hA b hb; first | (simp at hA; done) | (simp at hA; subst hA; first | exact Flat.noRd hb | exact (hb : False).elim) | (simp at hA; rcases hA with rfl | rfl <;> first | exact Flat.noRd hb | exact (hb : False).elim))⟩ : St 117 (fun _ => False) W a41 w41 _ _)
    clear hf41 hs41
    exact Or.inr (Or.inr (Or.inr (Or.inl (⟨upd_self _ _, un rfl ν6, un rfl ν7, s41, b7006, φ.stepW hcl hSi [0, 1, 2, 3, 6] (by kernel_rfl) (by kernel_rfl) ht41 h41.fr.defers (h41.fr.at_ 34 _ rfl) 4 rfl rfl rfl rfl, (h41.sh.sel (L' := [.blk b7006 25 [(.slice none 0 0), (.slice none 0 0), .int .i64 0, .int .i64 0], .own 3 (⟨s41.v, words.l⟩ : Ls Int), .blk b10 28 [.int .i64 ((checkG (pgOf code words locks regs)).code), .int .i64 ((checkG (pgOf code words locks regs)).thread), .int .i64 ((checkG (pgOf code words locks regs)).at_)], .blk b5 28 [.int .i64 0, .int .i64 0, .int .i64 0], .blk b4 25 [(.slice none 0 0), (.slice none 0 0), .int .i64 0, .int .i64 0], .blk b3 25 [code.v, words.v, .int .i64 locks, .int .i64 regs], .at_ code, .at_ words, .at_ cols]) [1, 0, 2, 3, 4, 5, 6, 7, 8] (by decide) ⟨rfl, rfl, rfl, rfl, rfl, rfl, rfl, rfl, rfl, trivial⟩)⟩))))
   ·exact no_way ν4 hSi
   ·exact no_way ν4 hSi
  ·obtain rfl : _ = o := Option.some.inj ho
   have hd1 : S 1 = true := depAt hdep 0 rfl rfl
   have hd4 : S 4 = true := depAt hdep 1 rfl rfl
   rcases hI with ⟨ν4, _⟩ | ⟨ν4, ν6, ν7, s7004, φ, ς⟩ | ⟨ν4, _⟩ | ⟨ν4, ν6, ν7, s7004, b7006, φ, ς⟩ | ⟨_, _, ν7, _⟩
   ·exact no_way hd4 ν4
   ·have hs := St.mk (Fr.cons (Fr.cons φ.fr0 (φ.at_ 1 1 31 _ rfl hd1)) (φ.at_ 4 4 34 _ rfl hd4)) ς
    exact sq φ (Fr.cons (Fr.cons φ.fr0 (φ.at_ 1 1 31 _ rfl hd1)) (φ.at_ 4 4 34 _ rfl hd4)) ς (r_build (cs := [(.slice none 0 0), s7004.v, .int .i64 locks, .int .i64 8]) rfl rfl (by obtain ⟨A42, n42, c42, (e42 : s7004.v = _)⟩ := ((hs.sh.own 0 rfl)).form; rw [e42]; kernel_rfl)) 5 rfl rfl rfl rfl rfl rfl fun a hg => Or.inr (Or.inl (⟨un rfl ν4, un rfl ν6, un rfl ν7, s7004, hg, ς⟩))
   ·exact no_way hd4 ν4
   ·have hs := St.mk (Fr.cons (Fr.cons φ.fr0 (φ.at_ 1 1 31 _ rfl hd1)) (φ.at_ 4 4 34 _ rfl hd4)) ς
    exact sq φ (Fr.cons (Fr.cons φ.fr0 (φ.at_ 1 1 31 _ rfl hd1)) (φ.at_ 4 4 34 _ rfl hd4)) ς (r_build (cs := [(.slice none 0 0), s7004.v, .int .i64 locks, .int .i64 8]) rfl rfl (by obtain ⟨A44, n44, c44, (e44 : s7004.v = _)⟩ := ((hs.sh.own 1 rfl)).form; rw [e44]; kernel_rfl)) 5 rfl rfl rfl rfl rfl rfl fun a hg => Or.inr (Or.inr (Or.inr (Or.inl (⟨un rfl ν4, un rfl ν6, un rfl ν7, s7004, b7006, hg, ς⟩))))
   ·exact no_way (cA hcl 7 5 rfl ν7) hSi
  ·obtain rfl : _ = o := Option.some.inj ho
   rcases hI with ⟨ν4, ν6, ν7, φ, ς⟩ | ⟨ν4, ν6, ν7, s7004, φ, ς⟩ | ⟨_, ν6, _⟩ | ⟨_, ν6, _⟩ | ⟨_, ν6, _⟩
   ·have hs := St.mk φ.fr0 ς
    refine step_ex (x_alloc hs ti_25 rfl rfl rfl) (wanted_none rfl _) ?_
    rintro a46 w46 ⟨b46, h46⟩ ⟨v0, ht46⟩
    exact Or.inr (Or.inr (Or.inl (⟨un rfl ν4, upd_self _ _, un rfl ν7, b46, φ.stepW hcl hSi [0, 1, 2, 3] (by kernel_rfl) (by kernel_rfl) ht46 h46.fr.defers (h46.fr.at_ 7 _ rfl) 4 rfl rfl rfl rfl, (h46.sh.sel (L' := [.blk b46 25 [(.slice none 0 0), (.slice none 0 0), .int .i64 0, .int .i64 0], .blk b10 28 [.int .i64 ((checkG (pgOf code words locks regs)).code), .int .i64 ((checkG (pgOf code words locks regs)).thread), .int .i64 ((checkG (pgOf code words locks regs)).at_)], .blk b5 28 [.int .i64 0, .int .i64 0, .int .i64 0], .blk b4 25 [(.slice none 0 0), (.slice none 0 0), .int .i64 0, .int .i64 0], .blk b3 25 [code.v, words.v, .int .i64 locks, .int .i64 regs], .at_ code, .at_ words, .at_ cols]) [0, 1, 2, 3, 4, 5, 6, 7] (by decide) ⟨rfl, rfl, rfl, rfl, rfl, rfl, rfl, rfl, trivial⟩)⟩)))
   ·have hs := St.mk φ.fr0 ς
    refine step_ex (x_alloc hs ti_25 rfl rfl rfl) (wanted_none rfl _) ?_
    rintro a47 w47 ⟨b47, h47⟩ ⟨v0, ht47⟩
    exact Or.inr (Or.inr (Or.inr (Or.inl (⟨un rfl ν4, upd_self _ _, un rfl ν7, s7004, b47, φ.stepW hcl hSi [0, 1, 2, 3, 4, 5] (by kernel_rfl) (by kernel_rfl) ht47 h47.fr.defers (h47.fr.at_ 7 _ rfl) 6 rfl rfl rfl rfl, (h47.sh.sel (L' := [.blk b47 25 [(.slice none 0 0), (.slice none 0 0), .int .i64 0, .int .i64 0], .own 3 (⟨s7004.v, words.l⟩ : Ls Int), .blk b10 28 [.int .i64 ((checkG (pgOf code words locks regs)).code), .int .i64 ((checkG (pgOf code words locks regs)).thread), .int .i64 ((checkG (pgOf code words locks regs)).at_)], .blk b5 28 [.int .i64 0, .int .i64 0, .int .i64 0], .blk b4 25 [(.slice none 0 0), (.slice none 0 0), .int .i64 0, .int .i64 0], .blk b3 25 [code.v, words.v, .int .i64 locks, .int .i64 regs], .at_ code, .at_ words, .at_ cols]) [0, 1, 2, 3, 4, 5, 6, 7, 8] (by decide) ⟨rfl, rfl, rfl, rfl, rfl, rfl, rfl, rfl, rfl, trivial⟩)⟩))))
   ·exact no_way ν6 hSi
   ·exact no_way ν6 hSi
   ·exact no_way ν6 hSi
  ·obtain rfl : _ = o := Option.some.inj ho
   have hd6 : S 6 = true := depAt hdep 0 rfl rfl
   have hd5 : S 5 = true := depAt hdep 1 rfl rfl
   have hd4 : S 4 = true := depAt hdep 2 rfl rfl
   rcases hI with ⟨ν4, _⟩ | ⟨_, ν6, _⟩ | ⟨ν4, _⟩ | ⟨ν4, ν6, ν7, s7004, b7006, φ, ς⟩ | ⟨_, _, ν7, _⟩
   ·exact no_way hd4 ν4
   ·exact no_way hd6 ν6
   ·exact no_way hd4 ν4
   ·have hs := St.mk (Fr.cons (Fr.cons φ.fr0 (φ.at_ 5 5 35 _ rfl hd5)) (φ.at_ 6 6 7 _ rfl hd6)) ς
    refine step_ex (x_stb (i := 0) (vs := [(.slice none 0 0), s7004.v, .int .i64 locks, .int .i64 8]) (cs' := [(.slice none 0 0), s7004.v, .int .i64 locks, .int .i64 8]) hs ti_25 rfl rfl rfl rfl rfl rfl rfl (allOne_cons rfl (allOne_cons ((hs.sh.own 1 rfl)).one (allOne_cons rfl (allOne_cons rfl allOne_nil)))) (Nat.le_of_ble_eq_true rfl) rfl) (wanted_none rfl _) ?_
    rintro a48 w48 h48 ⟨v0, ht48⟩
    exact Or.inr (Or.inr (Or.inr (Or.inr (⟨un rfl ν4, un rfl ν6, upd_self _ _, s7004, b7006, φ.noneW hcl hSi [0, 1, 2, 3, 4, 5, 6] (by kernel_rfl) (by kernel_rfl) ht48 h48.fr.defers rfl, (h48.sh.sel (L' := [.blk b7006 25 [(.slice none 0 0), s7004.v, .int .i64 locks, .int .i64 8], .own 3 (⟨s7004.v, words.l⟩ : Ls Int), .blk b10 28 [.int .i64 ((checkG (pgOf code words locks regs)).code), .int .i64 ((checkG (pgOf code words locks regs)).thread), .int .i64 ((checkG (pgOf code words locks regs)).at_)], .blk b5 28 [.int .i64 0, .int .i64 0, .int .i64 0], .blk b4 25 [(.slice none 0 0), (.slice none 0 0), .int .i64 0, .int .i64 0], .blk b3 25 [code.v, words.v, .int .i64 locks, .int .i64 regs], .at_ code, .at_ words, .at_ cols]) [0, 1, 2, 3, 4, 5, 6, 7, 8] (by decide) ⟨rfl, rfl, rfl, rfl, rfl, rfl, rfl, rfl, rfl, trivial⟩)⟩))))
   ·exact no_way ν7 hSi
  · simp at ho
 intro S hall a w hI
 clear h23
 rcases hI with ⟨ν4, ν6, ν7, φ, ς⟩ | ⟨ν4, ν6, ν7, s7004, φ, ς⟩ | ⟨ν4, ν6, ν7, b7006, φ, ς⟩ | ⟨ν4, ν6, ν7, s7004, b7006, φ, ς⟩ | ⟨ν4, ν6, ν7, s7004, b7006, φ, ς⟩
 · exact no_way (hall 4 (by decide)) ν4
 · exact no_way (hall 6 (by decide)) ν6
 · exact no_way (hall 4 (by decide)) ν4
 · exact no_way (hall 7 (by decide)) ν7
 have h49 : St 117 (fun _ => False) W a w _ [.blk b7006 25 [(.slice none 0 0), s7004.v, .int .i64 locks, .int .i64 8], .own 3 (⟨s7004.v, words.l⟩ : Ls Int), .blk b10 28 [.int .i64 ((checkG (pgOf code words locks regs)).code), .int .i64 ((checkG (pgOf code words locks regs)).thread), .int .i64 ((checkG (pgOf code words locks regs)).at_)], .blk b5 28 [.int .i64 0, .int .i64 0, .int .i64 0], .blk b4 25 [(.slice none 0 0), (.slice none 0 0), .int .i64 0, .int .i64 0], .blk b3 25 [code.v, words.v, .int .i64 locks, .int .i64 regs], .at_ code, .at_ words, .at_ cols] := ⟨(Fr.cons φ.fr0 (φ.at_ 6 6 7 _ rfl (hall 6 (by decide)))), ς⟩
 clear hall φ ς ν4 ν6 ν7
 refine hK22 _ _ <| wp_seq_k fun K50 hK50 => wp_region_lit <| wms 1 h49 rfl fun a51 h51 => ?_; clear h49
 have hl52 : cols.l.length ≤ 140737488355328 := (h51.sh.at 8 rfl).len
 refine wv h51 (r_len (s := cols) (n := cols.l.length) sl_35 rfl rfl (fun w h => (h.at 8 rfl)) rfl) rfl rfl fun a53 h53 => wl_ex (x_makeMaps (n := cols.l.length) h53 sl_82 ti_80 rfl rfl rfl (show 8 * cols.l.length ≤ 140737488355328 ∧ cols.l.length ≤ 140737488355328 from (by omega)) rfl rfl) (wanted_none rfl _) ?_; clear h51
 rintro a54 w54 ⟨v54, h54⟩; clear h53
 refine wms 1 h54 rfl fun a55 h55 => wpList_nil <| hK50 _ _ <| wp_seq_k fun K56 hK56 => wp_seq_k fun K57 hK57 => wp_region_lit <| wms 1 h55 rfl fun a58 h58 => wv h58 (r_len (s := cols) (n := cols.l.length) sl_35 rfl rfl (fun w h => (h.at 9 rfl)) rfl) rfl rfl fun a59 h59 => wms 1 h59 rfl fun a60 h60 => wpList_nil <| hK57 _ _ <| wp_block <| x_loop (fun m a w => ∃ (t1 : Nat) (wl : List Int) (vw : Value) (M : List MP), (t1 ≤ cols.l.length) ∧ (wl = words.l ++ List.replicate (tSp cols.l regs.toNat t1) 0) ∧ (M.length = cols.l.length) ∧ (∀ j, j < t1 → (nth M j).l = spL (nth cols.l j).l (words.l.length + tSp cols.l regs.toNat j) regs.toNat) ∧ St 117 (fun _ => False) W a w [(1, cols.v), (2, .pointer (some ⟨b3, 0, none⟩)), (4, .pointer (some ⟨b4, 0, none⟩)), (5, .pointer (some ⟨b5, 0, none⟩)), (7, .pointer (some ⟨b7006, 0, none⟩)), (8, v54), (39, cols.v), (40, .int .i64 ((cols.l.length : Nat) : Int)), (41, .int .i64 ((t1 : Nat) : Int))] [.big (mapsX 80 v54 M), .blk b7006 25 [(.slice none 0 0), vw, .int .i64 locks, .int .i64 8], .own 3 (⟨vw, wl⟩ : Ls Int), .blk b10 28 [.int .i64 ((checkG (pgOf code words locks regs)).code), .int .i64 ((checkG (pgOf code words locks regs)).thread), .int .i64 ((checkG (pgOf code words locks regs)).at_)], .blk b5 28 [.int .i64 0, .int .i64 0, .int .i64 0], .blk b4 25 [(.slice none 0 0), (.slice none 0 0), .int .i64 0, .int .i64 0], .blk b3 25 [code.v, words.v, .int .i64 locks, .int .i64 regs], .at_ code, .at_ words, .at_ cols] ∧ m = cols.l.length - t1) ⟨_, 0, words.l, s7004.v, List.replicate cols.l.length (⟨none, []⟩ : MP), (by omega), (by simp [tSp]), (by simp), (fun j hj => absurd hj (by omega)), h60.nrm ⟨rfl, rfl, rfl, rfl, rfl, rfl, rfl, rfl, rfl, trivial⟩ [0, 1, 2, 3, 4, 5, 6, 7, 8, 9] (by decide) ⟨rfl, rfl, rfl, rfl, rfl, rfl, rfl, rfl, rfl, rfl, trivial⟩, rfl⟩ ?_; clear h54 h55 h58 h59
 clear h60
 rintro m61 a61 w61 ⟨t1, wl, vw, M, ht, hwl, hML, hMR, h61, hm61⟩
 refine wp_seq_k fun K62 hK62 => wp_region_lit <| wv h61 (r_lssN (p := t1) (q := cols.l.length) rfl rfl rfl) rfl rfl fun a63 h63 => wpList_nil <| hK62 _ _ <| wp_seq_k fun K64 hK64 => x_cond h63 rfl (fun hb65 => ?_) (fun hb65 => ?_); clear h61
 ·have hp65 : t1 < cols.l.length := of_decide_eq_true hb65
  refine wp_skip <| hK64 _ _ <| wp_seq_k fun K66 hK66 => wp_block <| wp_seq_k fun K67 hK67 => wp_region_lit <| wms 1 h63 rfl fun a68 h68 => wv h68 (r_ixN (s := cols) (q := t1) sl_35 ti_23 rfl rfl rfl (fun w h => (h.at 9 rfl)) (show t1 < cols.l.length from (by omega))) rfl rfl fun a69 h69 => wv h69 (r_lde (s := cols) (i := t1) (v := (nth cols.l t1).v) ti_23 rfl rfl rfl (fun w h => (h.at 9 rfl)) (show t1 < cols.l.length from (by omega)) (Nat.le_of_ble_eq_true rfl) rfl) rfl rfl fun a70 h70 => wms 2 h70 rfl fun a71 h71 => wpList_nil <| hK67 _ _ <| wp_seq_k fun K72 hK72 => wp_region_lit ?_; clear h63 h68 h69 h70
  refine wms 2 h71 rfl fun a73 h73 => wl_ex (x_makeZ h73 rfl rfl rfl) (wanted_none rfl _) ?_; clear h71
  rintro a74 w74 ⟨g74, h74⟩; clear h73
  refine wv h74 (r_ixN (s := (⟨v54, pvs M⟩ : Ls RV)) (q := t1) sl_82 ti_80 rfl rfl rfl (fun w h => (h.mapsAt 1 rfl)) (by rw [pvs_len]; exact (show t1 < M.length from (by omega)))) rfl rfl fun a75 h75 => ?_; clear h74
  have h76 := h75.sel (L' := [.big (mapsX 80 v54 M), .mapO (some g74) ([]), .blk b7006 25 [(.slice none 0 0), vw, .int .i64 locks, .int .i64 8], .own 3 (⟨vw, wl⟩ : Ls Int), .blk b10 28 [.int .i64 ((checkG (pgOf code words locks regs)).code), .int .i64 ((checkG (pgOf code words locks regs)).thread), .int .i64 ((checkG (pgOf code words locks regs)).at_)], .blk b5 28 [.int .i64 0, .int .i64 0, .int .i64 0], .blk b4 25 [(.slice none 0 0), (.slice none 0 0), .int .i64 0, .int .i64 0], .blk b3 25 [code.v, words.v, .int .i64 locks, .int .i64 regs], .at_ code, .at_ words, .at_ cols]) [1, 0, 2, 3, 4, 5, 6, 7, 8, 9, 10] (by decide) ⟨rfl, rfl, rfl, rfl, rfl, rfl, rfl, rfl, rfl, rfl, rfl, trivial⟩
  refine wl_ex (x_stMaps (i := t1) h76 ti_80 rfl rfl rfl rfl (show t1 < M.length from (by omega))) (wanted_none rfl _) ?_
  rintro a77 w77 h77
  clear h76
  refine wpList_nil <| hK72 _ _ <| wp_seq_k fun K78 hK78 => wp_region_lit <| wms 1 h77 rfl fun a79 h79 => ?_; clear h77
  have hl80 : ((nth cols.l t1).l).length ≤ 140737488355328 := ((h79.sh.at 9 rfl).nth t1 (show t1 < cols.l.length from (by omega))).len
  refine wv h79 (r_len (s := nth cols.l t1) (n := ((nth cols.l t1).l).length) sl_23 rfl rfl (fun w h => ((h.at 9 rfl).nth t1 (show t1 < cols.l.length from (by omega)))) rfl) rfl rfl fun a81 h81 => wms 1 h81 rfl fun a82 h82 => wpList_nil <| hK78 _ _ <| wp_block ?_; clear h79 h81
  have hcr1 := hcr t1 (by omega)
  have hts := tSp_le (cols := cols.l) (show regs.toNat ≤ 200 by omega) t1
  refine x_loop (fun m a w => ∃ (r1 : Nat) (wl2 : List Int) (vw2 : Value) (M2 : List MP) (gm : Nat), (r1 ≤ regs.toNat) ∧ (wl2 = words.l ++ List.replicate (tSp cols.l regs.toNat t1 + nSp (nth cols.l t1).l r1) 0) ∧ (M2.length = cols.l.length) ∧ (∀ j, j < t1 → (nth M2 j).l = spL (nth cols.l j).l (words.l.length + tSp cols.l regs.toNat j) regs.toNat) ∧ ((nth M2 t1).p = some gm) ∧ ((nth M2 t1).l = spL (nth cols.l t1).l (words.l.length + tSp cols.l regs.toNat t1) r1) ∧ St 117 (fun _ => False) W a w [(1, cols.v), (2, .pointer (some ⟨b3, 0, none⟩)), (4, .pointer (some ⟨b4, 0, none⟩)), (5, .pointer (some ⟨b5, 0, none⟩)), (7, .pointer (some ⟨b7006, 0, none⟩)), (8, v54), (9, .int .i64 ((t1 : Nat) : Int)), (39, cols.v), (40, .int .i64 ((cols.l.length : Nat) : Int)), (41, .int .i64 ((t1 : Nat) : Int)), (50, (nth cols.l t1).v), (51, .int .i64 ((((nth cols.l t1).l).length : Nat) : Int)), (52, .int .i64 ((r1 : Nat) : Int))] [.big (mapsX 80 v54 M2), .blk b7006 25 [(.slice none 0 0), vw2, .int .i64 locks, .int .i64 8], .own 3 (⟨vw2, wl2⟩ : Ls Int), .blk b10 28 [.int .i64 ((checkG (pgOf code words locks regs)).code), .int .i64 ((checkG (pgOf code words locks regs)).thread), .int .i64 ((checkG (pgOf code words locks regs)).at_)], .blk b5 28 [.int .i64 0, .int .i64 0, .int .i64 0], .blk b4 25 [(.slice none 0 0), (.slice none 0 0), .int .i64 0, .int .i64 0], .blk b3 25 [code.v, words.v, .int .i64 locks, .int .i64 regs], .at_ code, .at_ words, .at_ cols] ∧ m = regs.toNat - r1) ⟨_, 0, wl, vw, M.set t1 ⟨(some g74), []⟩, _, (by omega), (by rw [hwl]; rfl), (by rw [List.length_set]; exact hML), (fun j hj => by rw [nth_setP, if_neg (by omega)]; exact hMR j hj), (by rw [nth_setP, if_pos ⟨rfl, by omega⟩]), (by rw [nth_setP, if_pos ⟨rfl, by omega⟩]; rfl), h82.nrm ⟨rfl, rfl, rfl, rfl, rfl, rfl, rfl, rfl, rfl, rfl, rfl, rfl, rfl, trivial⟩ [0, 1, 2, 3, 4, 5, 6, 7, 8, 9] (by decide) ⟨rfl, rfl, rfl, rfl, rfl, rfl, rfl, rfl, rfl, rfl, trivial⟩, rfl⟩ ?_
  clear h82
  rintro m83 a83 w83 ⟨r1, wl2, vw2, M2, gm, hr, hwl2, hML2, hMR2, hgp, hml, h83, hm83⟩
  have hwn2 : wl2.length = words.l.length + (tSp cols.l regs.toNat t1 + nSp (nth cols.l t1).l r1) := by rw [hwl2, List.length_append, List.length_replicate]
  have hnl := nSp_le (nth cols.l t1).l r1
  refine wp_seq_k fun K84 hK84 => wp_region_lit <| wv h83 (r_lssN (p := r1) (q := ((nth cols.l t1).l).length) rfl rfl rfl) rfl rfl fun a85 h85 => wpList_nil <| hK84 _ _ <| wp_seq_k fun K86 hK86 => x_cond h85 rfl (fun hb87 => ?_) (fun hb87 => ?_); clear h83
  ·have hp87 : r1 < ((nth cols.l t1).l).length := of_decide_eq_true hb87
   refine wp_skip <| hK86 _ _ <| wp_seq_k fun K88 hK88 => wp_block <| wp_seq_k fun K89 hK89 => wp_region_lit <| wms 1 h85 rfl fun a90 h90 => wv h90 (r_ixN (s := nth cols.l t1) (q := r1) sl_23 ti_3 rfl rfl rfl (fun w h => ((h.at 9 rfl).nth t1 (show t1 < cols.l.length from (by omega)))) (show r1 < ((nth cols.l t1).l).length from (by omega))) rfl rfl fun a91 h91 => wv h91 (r_lde (s := nth cols.l t1) (i := r1) (v := .int .i64 (nth ((nth cols.l t1).l) r1)) ti_3 rfl rfl rfl (fun w h => ((h.at 9 rfl).nth t1 (show t1 < cols.l.length from (by omega)))) (show r1 < ((nth cols.l t1).l).length from (by omega)) (Nat.le_of_ble_eq_true rfl) rfl) rfl rfl fun a92 h92 => wms 2 h92 rfl fun a93 h93 => wpList_nil <| hK89 _ _ <| wp_seq_k fun K94 hK94 => wp_region_lit ?_; clear h85 h90 h91 h92
   refine wms 1 h93 rfl fun a95 h95 => wv h95 (r_lssI (p := nth ((nth cols.l t1).l) r1) (q := 0) rfl rfl rfl) rfl rfl fun a96 h96 => wpList_nil <| hK94 _ _ ?_; clear h93 h95
   have h97 := h96.openM 0 t1 rfl (show t1 < M2.length from (by omega)) hgp
   clear h96
   refine x_cond h97 rfl (fun hb98 => ?_) (fun hb98 => ?_)
   ·have hp98 : nth ((nth cols.l t1).l) r1 < 0 := of_decide_eq_true hb98
    refine wp_seq_k fun K99 hK99 => x_tail 8 [] (by kernel_rfl) (by kernel_rfl) h97 fun Z100 hZ100 => ?_
    have hq100 := h97.fr
    refine wq_val hq100 (r_move rfl rfl) (wanted_none rfl _) rfl rfl fun a101 hq101 => wq_val hq101 (r_move rfl rfl) (wanted_none rfl _) rfl rfl fun a102 hq102 => wq_val hq102 (r_ixN (s := (⟨v54, pvs M2⟩ : Ls RV)) (q := t1) sl_82 ti_80 rfl rfl rfl (fun w h => (h.mapsHAt 1 rfl)) (by rw [pvs_len]; exact (show t1 < M2.length from (by omega)))) (wanted_none rfl _) rfl rfl fun a103 hq103 => wq_val hq103 (Rn.same (r_lde (s := (⟨v54, pvs M2⟩ : Ls RV)) (i := t1) (v := (nth (pvs M2) t1).v) ti_80 rfl rfl rfl (fun w h => (h.mapsHAt 1 rfl)) (by rw [pvs_len]; exact (show t1 < M2.length from (by omega))) (Nat.le_of_ble_eq_true rfl) rfl) ((nth_pvs (show t1 < M2.length from (by omega))).trans (congrArg Value.map hgp))) (wanted_none rfl _) rfl rfl fun a104 hq104 => wq_val hq104 (r_move rfl rfl) (wanted_none rfl _) rfl rfl fun a105 hq105 => wq_val hq105 (r_fieldB (r := 1) fl_25_1 rfl rfl rfl) (wanted_none rfl _) rfl rfl fun a106 hq106 => wq_val hq106 (r_ldb (i := 2) ti_23 rfl rfl rfl rfl) (wanted_none rfl _) rfl rfl fun a107 hq107 => ?_; clear hq100 hq101 hq102 hq103 hq104 hq105 hq106
    have hl108 : wl2.length ≤ 140737488355328 := (h97.sh.own 3 rfl).len
    refine wq_val hq107 (r_len (s := (⟨vw2, wl2⟩ : Ls Int)) (n := wl2.length) sl_23 rfl rfl (fun w h => (h.own 3 rfl)) rfl) (wanted_none rfl _) rfl rfl fun a109 hq109 => wpQuiet_nil (hZ100 _ fun w110 hw110 => ?_); clear hq107
    have h110 : St 117 (fun _ => False) W a109 w110 _ _ := ⟨hq109, hw110⟩
    clear hq109 hw110 h97
    refine wl_ex (x_updZ (i := 0) (k := ((r1 : Nat) : Int)) (v := ((wl2.length : Nat) : Int)) h110 mz_80 rfl rfl rfl rfl rfl rfl (by rw [hml]; exact spL_none _ _ _)) (wanted_none rfl _) ?_
    rintro a111 w111 h111
    clear h110
    refine wpList_nil <| hK99 _ _ ?_
    have h112 := h111.closeM 0 t1 rfl (show t1 < M2.length from (by omega)) hgp
    clear h111
    refine wp_region_lit <| wv h112 (r_fieldB (r := 1) fl_25_1 rfl rfl rfl) rfl rfl fun a113 h113 => wv h113 (r_ldb (i := 1) ti_23 rfl rfl rfl rfl) rfl rfl fun a114 h114 => wl_ex (x_lit (n := 1) (cs := [.int .i64 0]) ([0] : List Int) h114 sl_23 ti_3 rfl rfl rfl (by decide) rfl (by kernel_rfl) rfl (fun q hq w h => Flat.inner _ _) (fun q hq b hb => (Flat.on _ _ hb).elim) rfl rfl) (wanted_none rfl _) ?_; clear h112 h113
    rintro a115 w115 ⟨v115, h115⟩; clear h114
    refine wl_ex (x_app (r := 3) (rm := 0) (s := (⟨vw2, wl2⟩ : Ls Int)) (m := (⟨v115, [0]⟩ : Ls Int)) h115 sl_23 ti_3 rfl rfl rfl rfl rfl rfl rfl (fun w h => (h.own 0 rfl)) (fun b hb => own_on (h115.sh.ok _ (List.mem_of_getElem? (i := 0) rfl)) hb) (fun q hq b hb => ⟨q, hq, hb⟩) rfl rfl rfl inferInstance (show (wl2.length + ([0]).length) * 8 ≤ 140737488355328 ∧ wl2.length + ([0]).length ≤ 140737488355328 from (by first | omega | (simp only [lens9]; omega))) rfl rfl) (wanted_none rfl _) ?_
    rintro a116 w116 ⟨v116, h116⟩; clear h115
    refine wv h116 (r_fieldB (r := 1) fl_25_1 rfl rfl rfl) rfl rfl fun a117 h117 => wl_ex (x_stb (i := 2) (vs := [v116]) (cs' := [(.slice none 0 0), v116, .int .i64 locks, .int .i64 8]) h117 ti_23 rfl rfl rfl rfl rfl (cells_oneL ((h117.sh.own 3 rfl)).one) rfl (allOne_cons ((h117.sh.own 3 rfl)).one allOne_nil) (Nat.le_of_ble_eq_true rfl) rfl) (wanted_none rfl _) ?_; clear h116
    rintro a118 w118 h118
    clear h117
    refine wpList_nil <| hK88 _ _ <| wp_region_lit <| wv h118 (r_addN (p := r1) (q := 1) rfl rfl rfl (show r1 + 1 < 9223372036854775808 from (by omega))) rfl rfl fun a119 h119 => wms 1 h119 rfl fun a120 h120 => wpList_nil <| x_again ⟨_, ?_, (r1 + 1), wl2 ++ ([0]), v116, M2.set t1 ⟨(nth M2 t1).p, ((nth M2 t1).l) ++ [(((r1 : Nat) : Int), ((wl2.length : Nat) : Int))]⟩, gm, ?_, ?_, ?_, ?_, ?_, ?_, h120.nrm ⟨rfl, rfl, rfl, rfl, rfl, rfl, rfl, rfl, rfl, rfl, rfl, rfl, rfl, trivial⟩ [1, 2, 3, 4, 5, 6, 7, 8, 9, 10] (by decide) ⟨rfl, rfl, rfl, rfl, rfl, rfl, rfl, rfl, rfl, rfl, trivial⟩, rfl⟩; clear h118 h119
    · rw [hm83]; first | omega | (simp only [lens9]; omega)
    · omega
    · first | exact wl_yes hwl2 (by assumption) | exact wl_no hwl2 (by assumption)
    · first | exact hML2 | (rw [List.length_set]; exact hML2)
    · first | exact hMR2 | (intro j hj; rw [nth_setP, if_neg (by omega)]; exact hMR2 j hj)
    · first | exact hgp | (rw [nth_setP, if_pos ⟨rfl, by omega⟩]; exact hgp)
    · first | (rw [spL_no (by assumption)]; exact hml) | (rw [nth_setP, if_pos ⟨rfl, by omega⟩]; show (nth M2 t1).l ++ _ = _; rw [hml, spL_yes (by assumption), hwn2, Nat.add_assoc])
   have hp98 : ¬ (nth ((nth cols.l t1).l) r1 < 0) := of_decide_eq_false hb98
   have h121 := h97.closeM 0 t1 rfl (show t1 < M2.length from (by omega)) hgp
   clear h97
   rw [nth_set_p] at h121
   refine wp_skip <| hK88 _ _ <| wp_region_lit <| wv h121 (r_addN (p := r1) (q := 1) rfl rfl rfl (show r1 + 1 < 9223372036854775808 from (by omega))) rfl rfl fun a122 h122 => wms 1 h122 rfl fun a123 h123 => wpList_nil <| x_again ⟨_, ?_, (r1 + 1), wl2, vw2, M2, gm, ?_, ?_, ?_, ?_, ?_, ?_, h123.nrm ⟨rfl, rfl, rfl, rfl, rfl, rfl, rfl, rfl, rfl, rfl, rfl, rfl, rfl, trivial⟩ [0, 1, 2, 3, 4, 5, 6, 7, 8, 9] (by decide) ⟨rfl, rfl, rfl, rfl, rfl, rfl, rfl, rfl, rfl, rfl, trivial⟩, rfl⟩; clear h121 h122
   · rw [hm83]; first | omega | (simp only [lens9]; omega)
   · omega
   · first | exact wl_yes hwl2 (by assumption) | exact wl_no hwl2 (by assumption)
   · first | exact hML2 | (rw [List.length_set]; exact hML2)
   · first | exact hMR2 | (intro j hj; rw [nth_setP, if_neg (by omega)]; exact hMR2 j hj)
   · first | exact hgp | (rw [nth_setP, if_pos ⟨rfl, by omega⟩]; exact hgp)
   · first | (rw [spL_no (by assumption)]; exact hml) | (rw [nth_setP, if_pos ⟨rfl, by omega⟩]; show (nth M2 t1).l ++ _ = _; rw [hml, spL_yes (by assumption), hwn2, Nat.add_assoc])
  have hp87 : ¬ (r1 < ((nth cols.l t1).l).length) := of_decide_eq_false hb87
  refine wp_exit <| hK66 _ _ <| wp_region_lit <| wv h85 (r_addN (p := t1) (q := 1) rfl rfl rfl (show t1 + 1 < 9223372036854775808 from (by omega))) rfl rfl fun a124 h124 => wms 1 h124 rfl fun a125 h125 => wpList_nil <| x_again ⟨_, ?_, (t1 + 1), wl2, vw2, M2, ?_, ?_, ?_, ?_, h125.nrm ⟨rfl, rfl, rfl, rfl, rfl, rfl, rfl, rfl, rfl, trivial⟩ [0, 1, 2, 3, 4, 5, 6, 7, 8, 9] (by decide) ⟨rfl, rfl, rfl, rfl, rfl, rfl, rfl, rfl, rfl, rfl, trivial⟩, rfl⟩; clear h85 h124
  · rw [hm61]; first | omega | (simp only [lens9]; omega)
  · omega
  · rw [hwl2, show r1 = regs.toNat by omega]; rfl
  · exact hML2
  · exact all_step hMR2 (by rw [hml, show r1 = regs.toNat by omega])
 have hp65 : ¬ (t1 < cols.l.length) := of_decide_eq_false hb65
 refine wp_exit <| hK56 _ _ ?_
 have hwn1 : wl.length = words.l.length + tSp cols.l regs.toNat t1 := by rw [hwl, List.length_append, List.length_replicate]
 rw [show t1 = code.l.length by omega] at hwn1
 refine wp_seq_k fun K126 hK126 => wp_seq_k fun K127 hK127 => wp_region_lit <| wv h63 (r_fieldB (r := 1) fl_25_1 rfl rfl rfl) rfl rfl fun a128 h128 => wv h128 (r_ldb (i := 1) ti_23 rfl rfl rfl rfl) rfl rfl fun a129 h129 => ?_; clear h63 h128
 have hl130 : wl.length ≤ 140737488355328 := (h129.sh.own 2 rfl).len
 refine wv h129 (r_len (s := (⟨vw, wl⟩ : Ls Int)) (n := wl.length) sl_23 rfl rfl (fun w h => (h.own 2 rfl)) rfl) rfl rfl fun a131 h131 => wv h131 (r_gtrN (p := wl.length) (q := 64) rfl rfl rfl) rfl rfl fun a132 h132 => wpList_nil <| hK127 _ _ <| x_cond h132 rfl (fun hb133 => ?_) (fun hb133 => ?_); clear h129 h131
 ·have hp133 : 64 < wl.length := of_decide_eq_true hb133
  exfalso
  omega
 have hp133 : ¬ (64 < wl.length) := of_decide_eq_false hb133
 refine wp_skip <| hK126 _ _ <| wp_seq_k fun K134 hK134 => wp_seq_k fun K135 hK135 => wp_region_lit <| wv h132 (r_fieldB (r := 0) fl_25_0 rfl rfl rfl) rfl rfl fun a136 h136 => wv h136 (r_ldb (i := 6) ti_22 rfl rfl rfl rfl) rfl rfl fun a137 h137 => ?_; clear h132 h136
 have hl138 : code.l.length ≤ 140737488355328 := (h137.sh.at 7 rfl).len
 refine wv h137 (r_len (s := code) (n := code.l.length) sl_22 rfl rfl (fun w h => (h.at 7 rfl)) rfl) rfl rfl fun a139 h139 => wms 1 h139 rfl fun a140 h140 => wpList_nil <| hK135 _ _ <| wp_block ?_; clear h137 h139
 have h142 := h140.nilDeep (α := Ls Ins) 33
 clear h140
 refine x_loop (fun m a w => ∃ (t : Nat) (qs : List (Ls Ins)) (vq : Value), (t ≤ kk) ∧ (qs.map (·.l) = (List.range t).map (fun t => apT (nth code.l t).l (nth cols.l t).l (words.l.length + tSp cols.l regs.toNat t) regs.toNat)) ∧ (qs.length = t) ∧ St 117 (fun _ => False) W a w [(1, cols.v), (4, .pointer (some ⟨b4, 0, none⟩)), (5, .pointer (some ⟨b5, 0, none⟩)), (7, .pointer (some ⟨b7006, 0, none⟩)), (8, v54), (81, code.v), (82, .int .i64 ((code.l.length : Nat) : Int)), (83, .int .i64 ((t : Nat) : Int))] [.big (mapsX 80 v54 M), .blk b7006 25 [vq, vw, .int .i64 locks, .int .i64 8], .own 3 (⟨vw, wl⟩ : Ls Int), .blk b10 28 [.int .i64 ((checkG (pgOf code words locks regs)).code), .int .i64 ((checkG (pgOf code words locks regs)).thread), .int .i64 ((checkG (pgOf code words locks regs)).at_)], .blk b5 28 [.int .i64 0, .int .i64 0, .int .i64 0], .blk b4 25 [(.slice none 0 0), (.slice none 0 0), .int .i64 0, .int .i64 0], .blk b3 25 [code.v, words.v, .int .i64 locks, .int .i64 regs], .at_ code, .at_ words, .at_ cols, .deep 33 (⟨vq, qs⟩ : Ls (Ls Ins))] ∧ m = code.l.length - t) ⟨_, 0, [], (.slice none 0 0), (by omega), (rfl), (rfl), h142.nrm ⟨rfl, rfl, rfl, rfl, rfl, rfl, rfl, rfl, trivial⟩ [1, 2, 3, 4, 5, 6, 7, 8, 9, 10, 0] (by decide) ⟨rfl, rfl, rfl, rfl, rfl, rfl, rfl, rfl, rfl, rfl, rfl, trivial⟩, rfl⟩ ?_
 clear h142
 rintro m141 a141 w141 ⟨t, qs, vq, ht3, hqs, hql, h141, hm141⟩
 refine wp_seq_k fun K143 hK143 => wp_region_lit <| wv h141 (r_lssN (p := t) (q := code.l.length) rfl rfl rfl) rfl rfl fun a144 h144 => wpList_nil <| hK143 _ _ <| wp_seq_k fun K145 hK145 => x_cond h144 rfl (fun hb146 => ?_) (fun hb146 => ?_); clear h141
 ·have hp146 : t < code.l.length := of_decide_eq_true hb146
  refine wp_skip <| hK145 _ _ <| wp_seq_k fun K147 hK147 => wp_block <| wp_seq_k fun K148 hK148 => wp_region_lit <| wms 1 h144 rfl fun a149 h149 => wv h149 (r_ixN (s := code) (q := t) sl_22 ti_33 rfl rfl rfl (fun w h => (h.at 7 rfl)) (show t < code.l.length from (by omega))) rfl rfl fun a150 h150 => wv h150 (r_lde (s := code) (i := t) (v := (nth code.l t).v) ti_33 rfl rfl rfl (fun w h => (h.at 7 rfl)) (show t < code.l.length from (by omega)) (Nat.le_of_ble_eq_true rfl) rfl) rfl rfl fun a151 h151 => wms 2 h151 rfl fun a152 h152 => wpList_nil <| hK148 _ _ ?_; clear h144 h149 h150 h151
  obtain ⟨hl4, hjt⟩ := ok_thread hok t (by omega)
  have hov := okV_of hok t (by omega)
  have hml9 := hMR t (by omega)
  have hcr9 := hcr t (by omega)
  refine wp_seq_k fun K153 hK153 => x_tail 9 [] (by kernel_rfl) (by kernel_rfl) h152 fun Z154 hZ154 => ?_
  have hq154 := h152.fr
  refine wq_val hq154 (r_move rfl rfl) (wanted_none rfl _) rfl rfl fun a155 hq155 => wq_val hq155 (r_move rfl rfl) (wanted_none rfl _) rfl rfl fun a156 hq156 => wq_val hq156 (r_ixN (s := cols) (q := t) sl_35 ti_23 rfl rfl rfl (fun w h => (h.at 9 rfl)) (show t < cols.l.length from (by omega))) (wanted_none rfl _) rfl rfl fun a157 hq157 => wq_val hq157 (r_lde (s := cols) (i := t) (v := (nth cols.l t).v) ti_23 rfl rfl rfl (fun w h => (h.at 9 rfl)) (show t < cols.l.length from (by omega)) (Nat.le_of_ble_eq_true rfl) rfl) (wanted_none rfl _) rfl rfl fun a158 hq158 => wq_val hq158 (r_move rfl rfl) (wanted_none rfl _) rfl rfl fun a159 hq159 => wq_val hq159 (r_move rfl rfl) (wanted_none rfl _) rfl rfl fun a160 hq160 => wq_val hq160 (r_ixN (s := (⟨v54, pvs M⟩ : Ls RV)) (q := t) sl_82 ti_80 rfl rfl rfl (fun w h => (h.mapsAt 0 rfl)) (by rw [pvs_len]; exact (show t < M.length from (by omega)))) (wanted_none rfl _) rfl rfl fun a161 hq161 => wq_val hq161 (Rn.same (r_lde (s := (⟨v54, pvs M⟩ : Ls RV)) (i := t) (v := (nth (pvs M) t).v) ti_80 rfl rfl rfl (fun w h => (h.mapsAt 0 rfl)) (by rw [pvs_len]; exact (show t < M.length from (by omega))) (Nat.le_of_ble_eq_true rfl) rfl) (nth_pvs (show t < M.length from (by omega)))) (wanted_none rfl _) rfl rfl fun a162 hq162 => wq_val hq162 (r_build (cs := [(nth cols.l t).v, .map ((nth M t).p)]) rfl rfl (by obtain ⟨A163, n163, c163, (e163 : (nth cols.l t).v = _)⟩ := (((h152.sh.at 9 rfl).nth t (show t < cols.l.length from (by omega)))).form; rw [e163]; kernel_rfl)) (wanted_none rfl _) rfl rfl fun a164 hq164 => wpQuiet_nil (hZ154 _ fun w165 hw165 => ?_); clear hq154 hq155 hq156 hq157 hq158 hq159 hq160 hq161 hq162
  have h165 : St 117 (fun _ => False) W a164 w165 _ _ := ⟨hq164, hw165⟩
  clear hq164 hw165 h152
  refine wl_ex (x_box (cs := [(nth cols.l t).v, .map ((nth M t).p)]) h165 rfl rfl rfl rfl rfl) (wanted_none rfl _) ?_
  rintro a166 w166 ⟨b166, h166⟩; clear h165
  refine wms 1 h166 rfl fun a167 h167 => wpList_nil <| hK153 _ _ <| wp_seq_k fun K168 hK168 => wp_region_lit <| wms 2 h167 rfl fun a169 h169 => wv h169 (r_makeFunc rfl rfl rfl) rfl rfl fun a170 h170 => wl_ex (x_call h170 bd_50 rfl rfl rfl rfl rfl (moved_c (nth code.l t) 55 [.pointer (some ⟨b166, 0, none⟩)] [] (fun (_ : Nat) (x : Ins) => paintF (nth cols.l t).l (fun r : Int => (getZ r (nth M t).l).getD 0) x) (Asn.ro [.blk b166 85 [(nth cols.l t).v, .map ((nth M t).p)], .at_ (nth cols.l t), .mapO (nth M t).p (nth M t).l]) _ ((h170.sh.at 8 rfl).nth t (show t < code.l.length from (by omega))) (show (nth code.l t).l.length ≤ 5000 by omega) bd_55 (fun _ h => h) (roI (h170.sh.ok _ (List.mem_of_getElem? (i := 0) rfl)) ((h170.sh.at 10 rfl).nth t (show t < cols.l.length from (by omega))) (mapsX_ok h170.sh 1 rfl t (by omega))) (fun w i hE hi => pbecome_c b166 (nth cols.l t) (nth M t).p (nth M t).l _ (nth (nth code.l t).l i) w (roE hE).1 (roE hE).2.1 (ro1 (roE hE).2.2) (hov i hi).1 (hov i hi).2.1 (fun q hq => by have h9 := (hov i hi).2.2.2 _ (nth_mem _ _ hq); omega) (by have h9 := (hov i hi).2.2.1; omega)) (ap_b8 hml9 (by omega) hov) (ap_bok hml9 (by omega) hov hjt))) (wanted_none rfl _) ?_; clear h166 h167 h169
  rintro a171 w171 ⟨_, ⟨s171, rfl, hl171, hs171⟩, hf171⟩
  have h171 := (⟨hf171, h170.sh.call hs171 (by intro A hA b hb; first | (simp at hA; done) | (simp at hA; subst hA; first | exact Flat.noRd hb | exact (hb : False).elim) | (simp at hA; rcases hA with rfl | rfl <;> first | exact Flat.noRd hb | exact (hb : False).elim))⟩ : St 117 (fun _ => False) W a171 w171 _ _)
  clear hf171 hs171
  clear h170
  refine wms 1 h171 rfl fun a172 h172 => wpList_nil <| hK168 _ _ ?_; clear h171
  have hq1 : s171.l = apT (nth code.l t).l (nth cols.l t).l (words.l.length + tSp cols.l regs.toNat t) regs.toNat := hl171.trans (moved_ap2 hml9 (by omega) hov)
  have hq2 := congrArg List.length hq1
  refine wp_seq_k fun K173 hK173 => wp_seq_k fun K174 hK174 => wp_region_lit <| wms 1 h172 rfl fun a175 h175 => ?_; clear h172
  have hl176 : s171.l.length ≤ 140737488355328 := (h175.sh.own 0 rfl).len
  refine wv h175 (r_len (s := s171) (n := s171.l.length) sl_33 rfl rfl (fun w h => (h.own 0 rfl)) rfl) rfl rfl fun a177 h177 => wv h177 (r_gtrN (p := s171.l.length) (q := 400) rfl rfl rfl) rfl rfl fun a178 h178 => wpList_nil <| hK174 _ _ <| x_cond h178 rfl (fun hb179 => ?_) (fun hb179 => ?_); clear h175 h177
  ·have hp179 : 400 < s171.l.length := of_decide_eq_true hb179
   refine wp_seq_k fun K180 hK180 => wp_region_lit <| wv h178 (r_build (cs := [(.slice none 0 0), (.slice none 0 0), .int .i64 0, .int .i64 0]) rfl rfl (by kernel_rfl)) rfl rfl fun a181 h181 => wms 1 h181 rfl fun a182 h182 => wv h182 (r_build (cs := [.int .i64 1, .int .i64 ((t : Nat) : Int), .int .i64 0]) rfl rfl (by kernel_rfl)) rfl rfl fun a183 h183 => wl_ex (x_stb (i := 7) (vs := [(.slice none 0 0), (.slice none 0 0), .int .i64 0, .int .i64 0]) (cs' := [(.slice none 0 0), (.slice none 0 0), .int .i64 0, .int .i64 0]) h183 ti_25 rfl rfl rfl rfl rfl rfl rfl (allOne_cons rfl (allOne_cons rfl (allOne_cons rfl (allOne_cons rfl allOne_nil)))) (Nat.le_of_ble_eq_true rfl) rfl) (wanted_none rfl _) ?_; clear h178 h181 h182
   rintro a184 w184 h184
   clear h183
   refine wl_ex (x_stb (i := 6) (vs := [.int .i64 1, .int .i64 ((t : Nat) : Int), .int .i64 0]) (cs' := [.int .i64 1, .int .i64 ((t : Nat) : Int), .int .i64 0]) h184 ti_28 rfl rfl rfl rfl rfl rfl rfl (allOne_cons rfl (allOne_cons rfl (allOne_cons rfl allOne_nil))) (Nat.le_of_ble_eq_true rfl) rfl) (wanted_none rfl _) ?_
   rintro a185 w185 h185
   clear h184
   refine wpList_nil <| hK180 _ _ ?_
   have h186 : St 117 (fun _ => False) W a185 w185 [(4, .pointer (some ⟨b4, 0, none⟩)), (5, .pointer (some ⟨b5, 0, none⟩))] [.own 32 s171, .blk b166 85 [(nth cols.l t).v, .map ((nth M t).p)], .big (mapsX 80 v54 M), .blk b7006 25 [vq, vw, .int .i64 locks, .int .i64 8], .own 3 (⟨vw, wl⟩ : Ls Int), .blk b10 28 [.int .i64 ((checkG (pgOf code words locks regs)).code), .int .i64 ((checkG (pgOf code words locks regs)).thread), .int .i64 ((checkG (pgOf code words locks regs)).at_)], .blk b5 28 [.int .i64 1, .int .i64 ((t : Nat) : Int), .int .i64 0], .blk b4 25 [(.slice none 0 0), (.slice none 0 0), .int .i64 0, .int .i64 0], .blk b3 25 [code.v, words.v, .int .i64 locks, .int .i64 regs], .at_ code, .at_ words, .at_ cols, .deep 33 (⟨vq, qs⟩ : Ls (Ls Ins))] := h185.nrm ⟨rfl, rfl, trivial⟩ [0, 1, 2, 3, 4, 5, 6, 7, 8, 9, 10, 11, 12] (by decide) ⟨rfl, rfl, rfl, rfl, rfl, rfl, rfl, rfl, rfl, rfl, rfl, rfl, rfl, trivial⟩
   clear h185
   refine wp_ret ?_
   try simp only [Exit.then, Exit.inBlock]
   refine x_ret2c (fn := Try.f19) (t := 4) (t2 := 5) (i := 7) (i2 := 6) ti_25 ti_28 rfl h186 rfl rfl rfl rfl rfl rfl ?_
   have hkt : t = kk := by rcases Nat.lt_or_ge t kk with h9 | h9; (have h8 := hbef t h9; omega); omega
   subst hkt
   exact ⟨rfl, (h186.sh.sel [] (by decide) trivial)⟩
  have hp179 : ¬ (400 < s171.l.length) := of_decide_eq_false hb179
  refine wp_skip <| hK173 _ _ ?_
  have h187 : St 117 (fun _ => False) W a178 w171 [(1, cols.v), (4, .pointer (some ⟨b4, 0, none⟩)), (5, .pointer (some ⟨b5, 0, none⟩)), (7, .pointer (some ⟨b7006, 0, none⟩)), (8, v54), (16, s171.v), (81, code.v), (82, .int .i64 ((code.l.length : Nat) : Int)), (83, .int .i64 ((t : Nat) : Int))] [.own 32 s171, .blk b166 85 [(nth cols.l t).v, .map ((nth M t).p)], .big (mapsX 80 v54 M), .blk b7006 25 [vq, vw, .int .i64 locks, .int .i64 8], .own 3 (⟨vw, wl⟩ : Ls Int), .blk b10 28 [.int .i64 ((checkG (pgOf code words locks regs)).code), .int .i64 ((checkG (pgOf code words locks regs)).thread), .int .i64 ((checkG (pgOf code words locks regs)).at_)], .blk b5 28 [.int .i64 0, .int .i64 0, .int .i64 0], .blk b4 25 [(.slice none 0 0), (.slice none 0 0), .int .i64 0, .int .i64 0], .blk b3 25 [code.v, words.v, .int .i64 locks, .int .i64 regs], .at_ code, .at_ words, .at_ cols, .deep 33 (⟨vq, qs⟩ : Ls (Ls Ins))] := h178.nrm ⟨rfl, rfl, rfl, rfl, rfl, rfl, rfl, rfl, rfl, trivial⟩ [0, 1, 2, 3, 4, 5, 6, 7, 8, 9, 10, 11, 12] (by decide) ⟨rfl, rfl, rfl, rfl, rfl, rfl, rfl, rfl, rfl, rfl, rfl, rfl, rfl, trivial⟩
  clear h178
  refine wp_region_lit <| wv h187 (r_fieldB (r := 0) fl_25_0 rfl rfl rfl) rfl rfl fun a188 h188 => wv h188 (r_ldb (i := 3) ti_22 rfl rfl rfl rfl) rfl rfl fun a189 h189 => wms 1 h189 rfl fun a190 h190 => wl_ex (x_litD (E := 0) (x := s171) h190 sl_22 ti_33 rfl rfl rfl ((h190.sh.own 0 rfl)) (fun b hb => (own_on (h190.sh.ok _ (List.mem_of_getElem? (i := 0) rfl)) hb).elim (fun h => h) (fun h => Flat.noRd h)) (fun b hb => Flat.noRd hb) rfl rfl) (wanted_none rfl _) ?_; clear h187 h188 h189
  rintro a191 w191 ⟨v191, h191⟩; clear h190
  have h192 := h191.sel (L' := [.deep 33 (⟨vq, qs⟩ : Ls (Ls Ins)), .deep 33 (⟨v191, [s171]⟩ : Ls (Ls Ins)), .blk b166 85 [(nth cols.l t).v, .map ((nth M t).p)], .big (mapsX 80 v54 M), .blk b7006 25 [vq, vw, .int .i64 locks, .int .i64 8], .own 3 (⟨vw, wl⟩ : Ls Int), .blk b10 28 [.int .i64 ((checkG (pgOf code words locks regs)).code), .int .i64 ((checkG (pgOf code words locks regs)).thread), .int .i64 ((checkG (pgOf code words locks regs)).at_)], .blk b5 28 [.int .i64 0, .int .i64 0, .int .i64 0], .blk b4 25 [(.slice none 0 0), (.slice none 0 0), .int .i64 0, .int .i64 0], .blk b3 25 [code.v, words.v, .int .i64 locks, .int .i64 regs], .at_ code, .at_ words, .at_ cols]) [12, 0, 1, 2, 3, 4, 5, 6, 7, 8, 9, 10, 11] (by decide) ⟨rfl, rfl, rfl, rfl, rfl, rfl, rfl, rfl, rfl, rfl, rfl, rfl, rfl, trivial⟩
  refine wl_ex (x_appD (s := (⟨vq, qs⟩ : Ls (Ls Ins))) (m := (⟨v191, [s171]⟩ : Ls (Ls Ins))) h192 sl_22 ti_33 rfl rfl rfl rfl rfl rfl rfl inferInstance (show (qs.length + ([s171]).length) * 24 ≤ 140737488355328 ∧ qs.length + ([s171]).length ≤ 140737488355328 from (by first | omega | (simp only [lens9]; omega))) rfl rfl) (wanted_none rfl _) ?_
  rintro a193 w193 ⟨v193, h193⟩; clear h192
  refine wv h193 (r_fieldB (r := 0) fl_25_0 rfl rfl rfl) rfl rfl fun a194 h194 => wl_ex (x_stb (i := 3) (vs := [v193]) (cs' := [v193, vw, .int .i64 locks, .int .i64 8]) h194 ti_22 rfl rfl rfl rfl rfl (cells_oneL ((h194.sh.deep 0 rfl)).one) rfl (allOne_cons ((h194.sh.deep 0 rfl)).one allOne_nil) (Nat.le_of_ble_eq_true rfl) rfl) (wanted_none rfl _) ?_; clear h193
  rintro a195 w195 h195
  clear h194
  refine wpList_nil <| hK147 _ _ <| wp_region_lit <| wv h195 (r_addN (p := t) (q := 1) rfl rfl rfl (show t + 1 < 9223372036854775808 from (by omega))) rfl rfl fun a196 h196 => wms 1 h196 rfl fun a197 h197 => wpList_nil <| x_again ⟨_, ?_, t + 1, qs ++ ([s171]), v193, ?_, ?_, ?_, h197.nrm ⟨rfl, rfl, rfl, rfl, rfl, rfl, rfl, rfl, trivial⟩ [2, 3, 4, 5, 6, 7, 8, 9, 10, 11, 0] (by decide) ⟨rfl, rfl, rfl, rfl, rfl, rfl, rfl, rfl, rfl, rfl, rfl, trivial⟩, rfl⟩; clear h195 h196
  · rw [hm141]; first | omega | (simp only [lens9]; omega)
  · first | omega | (rcases Nat.lt_or_ge t kk with h9 | h9; (omega); (exfalso; have h8 : t = kk := (by omega); rw [h8] at hq2; omega))
  · rw [List.map_append, hqs, List.range_succ, List.map_append]; simp [hq1]
  · simp [hql]
 have hp146 : ¬ (t < code.l.length) := of_decide_eq_false hb146
 exfalso
 omega

set_option maxRecDepth 100000 in
set_option maxHeartbeats 16000000 in
theorem apply_c (code : Ls (Ls Ins)) (words : Ls Int) (locks regs : Int) (cols : Ls (Ls Int)) (f : Nat → Nat → Nat → Bool) (W : World) (hcode : code.At W) (hwords : words.At W) (hcols : cols.At W) (hok : OkPg (pgOf code words locks regs)) (hF : ∀ t, t < code.l.length → ∀ r j, (f t r j = true ↔ LiveI (nth code.l t).l r j)) (hcb : (colsB code.l cols.l f regs.toNat) = false) :
    Rets Try.prog 19 [.agg #[code.v, words.v, .int .i64 locks, .int .i64 regs], cols.v] W (fun v w' => v = .tuple #[.agg #[.slice none 0 0, .slice none 0 0, .int .i64 0, .int .i64 0], (⟨11, 0, 0⟩ : Flt).val] ∧ Sh0 W w' []) := by
 have hz := checkG_ok hok
 obtain ⟨hl1, hl2, hl3, hl4', hl5, hl6, hl7⟩ := ok_len hok
 have hrg := hok.regs
 have hrg1 : (pgOf code words locks regs).regs = regs := rfl
 rw [hrg1] at hrg
 refine x_enter (N := 117) Try.func19 rfl Try.ntmps19 (Nat.le_of_ble_eq_true rfl) fun a1 hf1 => ?_
 have h1 : St 117 (fun _ => False) W a1 W [(0, .agg #[code.v, words.v, .int .i64 locks, .int .i64 regs]), (1, cols.v)] [.at_ code, .at_ words, .at_ cols] := ⟨hf1.sub ⟨rfl, rfl, trivial⟩, Sh0.ext3 hcode hwords hcols⟩
 clear hf1
 refine wp_seq_k fun K2 hK2 => wp_region_lit <| wl_ex (x_box (cs := [code.v, words.v, .int .i64 locks, .int .i64 regs]) h1 rfl rfl rfl rfl rfl) (wanted_none rfl _) ?_
 rintro a3 w3 ⟨b3, h3⟩; clear h1
 refine wl_ex (x_alloc h3 ti_25 rfl rfl rfl) (wanted_none rfl _) ?_
 rintro a4 w4 ⟨b4, h4⟩; clear h3
 refine wl_ex (x_alloc h4 ti_28 rfl rfl rfl) (wanted_none rfl _) ?_
 rintro a5 w5 ⟨b5, h5⟩; clear h4
 refine wpList_nil <| hK2 _ _ <| wp_seq_k fun K6 hK6 => wp_seq_k fun K7 hK7 => wp_region_lit <| wv h5 (r_ldbw (i := 2) (vs := [code.v, words.v, .int .i64 locks, .int .i64 regs]) ti_25 rfl rfl rfl rfl rfl) rfl rfl fun a8 h8 => wl_ex (x_call h8 bd_46 rfl rfl rfl rfl rfl (asmCheck_c (code := code) (words := words) (locks := locks) (regs := regs) (h8.sh.at 3 rfl) (h8.sh.at 4 rfl))) (wanted_none rfl _) ?_; clear h5
 rintro a9 w9 ⟨_, ⟨rfl, hs9⟩, hf9⟩
 have h9 : St 117 (fun _ => False) W a9 w9 _ _ := ⟨hf9, h8.sh.call0 hs9⟩
 clear hf9 hs9
 clear h8
 refine wl_ex (x_alloc h9 ti_28 rfl rfl rfl) (wanted_none rfl _) ?_
 rintro a10 w10 ⟨b10, h10⟩; clear h9
 refine wl_ex (x_stb (i := 0) (vs := [.int .i64 ((checkG (pgOf code words locks regs)).code), .int .i64 ((checkG (pgOf code words locks regs)).thread), .int .i64 ((checkG (pgOf code words locks regs)).at_)]) (cs' := [.int .i64 ((checkG (pgOf code words locks regs)).code), .int .i64 ((checkG (pgOf code words locks regs)).thread), .int .i64 ((checkG (pgOf code words locks regs)).at_)]) h10 ti_28 rfl rfl rfl rfl rfl rfl rfl (allOne_cons rfl (allOne_cons rfl (allOne_cons rfl allOne_nil))) (Nat.le_of_ble_eq_true rfl) rfl) (wanted_none rfl _) ?_
 rintro a11 w11 h11
 clear h10
 refine wpList_nil <| hK7 _ _ <| wp_seq_k fun K12 hK12 => wp_region_lit <| wv h11 (r_fieldB (r := 0) fl_28_0 rfl rfl rfl) rfl rfl fun a13 h13 => wv h13 (r_ldb (i := 0) ti_26 rfl rfl rfl rfl) rfl rfl fun a14 h14 => wv h14 (r_neqI (p := (checkG (pgOf code words locks regs)).code) (q := 0) rfl rfl rfl) rfl rfl fun a15 h15 => wpList_nil <| hK12 _ _ <| x_condF h15 rfl (by rw [hz]; rfl) ?_; clear h11 h13 h14
 refine wp_skip <| hK6 _ _ <| wp_seq_k fun K16 hK16 => wp_seq_k fun K17 hK17 => wp_region_lit <| wv h15 (r_ldbw (i := 3) (vs := [code.v, words.v, .int .i64 locks, .int .i64 regs]) ti_25 rfl rfl rfl rfl rfl) rfl rfl fun a18 h18 => wms 1 h18 rfl fun a19 h19 => wl_ex (x_call h19 bd_54 rfl rfl rfl rfl rfl (is_c code words locks regs cols f _ (h19.sh.at 4 rfl) (h19.sh.at 5 rfl) (h19.sh.at 6 rfl) hok hF)) (wanted_none rfl _) ?_; clear h15 h18
 rintro a20 w20 ⟨_, ⟨rfl, hs20⟩, hf20⟩
 have h20 : St 117 (fun _ => False) W a20 w20 _ _ := ⟨hf20, h19.sh.call0 hs20⟩
 clear hf20 hs20
 clear h19
 refine wv h20 (r_not rfl rfl) rfl rfl fun a21 h21 => wpList_nil <| hK17 _ _ <| x_condT h21 rfl (by rw [hcb]; rfl) ?_; clear h20
 refine wp_seq_k fun K22 hK22 => wp_region_lit <| wv h21 (r_build (cs := [(.slice none 0 0), (.slice none 0 0), .int .i64 0, .int .i64 0]) rfl rfl (by kernel_rfl)) rfl rfl fun a23 h23 => wv h23 (r_build (cs := [.int .i64 11, .int .i64 0, .int .i64 0]) rfl rfl (by kernel_rfl)) rfl rfl fun a24 h24 => wl_ex (x_stb (i := 2) (vs := [(.slice none 0 0), (.slice none 0 0), .int .i64 0, .int .i64 0]) (cs' := [(.slice none 0 0), (.slice none 0 0), .int .i64 0, .int .i64 0]) h24 ti_25 rfl rfl rfl rfl rfl rfl rfl (allOne_cons rfl (allOne_cons rfl (allOne_cons rfl (allOne_cons rfl allOne_nil)))) (Nat.le_of_ble_eq_true rfl) rfl) (wanted_none rfl _) ?_; clear h21 h23
 rintro a25 w25 h25
 clear h24
 refine wl_ex (x_stb (i := 1) (vs := [.int .i64 11, .int .i64 0, .int .i64 0]) (cs' := [.int .i64 11, .int .i64 0, .int .i64 0]) h25 ti_28 rfl rfl rfl rfl rfl rfl rfl (allOne_cons rfl (allOne_cons rfl (allOne_cons rfl allOne_nil))) (Nat.le_of_ble_eq_true rfl) rfl) (wanted_none rfl _) ?_
 rintro a26 w26 h26
 clear h25
 refine wpList_nil <| hK22 _ _ <| wp_ret ?_
 try simp only [Exit.then, Exit.inBlock]
 refine x_ret2c (fn := Try.f19) (t := 4) (t2 := 5) (i := 2) (i2 := 1) ti_25 ti_28 rfl h26 rfl rfl rfl rfl rfl rfl ?_
 exact ⟨rfl, (h26.sh.sel [] (by decide) trivial)⟩

set_option maxRecDepth 100000 in
set_option maxHeartbeats 16000000 in
theorem apply_b (code : Ls (Ls Ins)) (words : Ls Int) (locks regs : Int) (cols : Ls (Ls Int)) (W : World) (hcode : code.At W) (hwords : words.At W) (hcols : cols.At W) (hz : (checkG (pgOf code words locks regs)).code ≠ 0) :
    Rets Try.prog 19 [.agg #[code.v, words.v, .int .i64 locks, .int .i64 regs], cols.v] W (fun v w' => v = .tuple #[.agg #[.slice none 0 0, .slice none 0 0, .int .i64 0, .int .i64 0], (checkG (pgOf code words locks regs)).val] ∧ Sh0 W w' []) := by
 refine x_enter (N := 117) Try.func19 rfl Try.ntmps19 (Nat.le_of_ble_eq_true rfl) fun a1 hf1 => ?_
 have h1 : St 117 (fun _ => False) W a1 W [(0, .agg #[code.v, words.v, .int .i64 locks, .int .i64 regs]), (1, cols.v)] [.at_ code, .at_ words, .at_ cols] := ⟨hf1.sub ⟨rfl, rfl, trivial⟩, Sh0.ext3 hcode hwords hcols⟩
 clear hf1
 refine wp_seq_k fun K2 hK2 => wp_region_lit <| wl_ex (x_box (cs := [code.v, words.v, .int .i64 locks, .int .i64 regs]) h1 rfl rfl rfl rfl rfl) (wanted_none rfl _) ?_
 rintro a3 w3 ⟨b3, h3⟩; clear h1
 refine wl_ex (x_alloc h3 ti_25 rfl rfl rfl) (wanted_none rfl _) ?_
 rintro a4 w4 ⟨b4, h4⟩; clear h3
 refine wl_ex (x_alloc h4 ti_28 rfl rfl rfl) (wanted_none rfl _) ?_
 rintro a5 w5 ⟨b5, h5⟩; clear h4
 refine wpList_nil <| hK2 _ _ <| wp_seq_k fun K6 hK6 => wp_seq_k fun K7 hK7 => wp_region_lit <| wv h5 (r_ldbw (i := 2) (vs := [code.v, words.v, .int .i64 locks, .int .i64 regs]) ti_25 rfl rfl rfl rfl rfl) rfl rfl fun a8 h8 => wl_ex (x_call h8 bd_46 rfl rfl rfl rfl rfl (asmCheck_c (code := code) (words := words) (locks := locks) (regs := regs) (h8.sh.at 3 rfl) (h8.sh.at 4 rfl))) (wanted_none rfl _) ?_; clear h5
 rintro a9 w9 ⟨_, ⟨rfl, hs9⟩, hf9⟩
 have h9 : St 117 (fun _ => False) W a9 w9 _ _ := ⟨hf9, h8.sh.call0 hs9⟩
 clear hf9 hs9
 clear h8
 refine wl_ex (x_alloc h9 ti_28 rfl rfl rfl) (wanted_none rfl _) ?_
 rintro a10 w10 ⟨b10, h10⟩; clear h9
 refine wl_ex (x_stb (i := 0) (vs := [.int .i64 ((checkG (pgOf code words locks regs)).code), .int .i64 ((checkG (pgOf code words locks regs)).thread), .int .i64 ((checkG (pgOf code words locks regs)).at_)]) (cs' := [.int .i64 ((checkG (pgOf code words locks regs)).code), .int .i64 ((checkG (pgOf code words locks regs)).thread), .int .i64 ((checkG (pgOf code words locks regs)).at_)]) h10 ti_28 rfl rfl rfl rfl rfl rfl rfl (allOne_cons rfl (allOne_cons rfl (allOne_cons rfl allOne_nil))) (Nat.le_of_ble_eq_true rfl) rfl) (wanted_none rfl _) ?_
 rintro a11 w11 h11
 clear h10
 refine wpList_nil <| hK7 _ _ <| wp_seq_k fun K12 hK12 => wp_region_lit <| wv h11 (r_fieldB (r := 0) fl_28_0 rfl rfl rfl) rfl rfl fun a13 h13 => wv h13 (r_ldb (i := 0) ti_26 rfl rfl rfl rfl) rfl rfl fun a14 h14 => wv h14 (r_neqI (p := (checkG (pgOf code words locks regs)).code) (q := 0) rfl rfl rfl) rfl rfl fun a15 h15 => wpList_nil <| hK12 _ _ <| x_condT h15 rfl (decide_eq_true hz) <| wp_seq_k fun K16 hK16 => ?_; clear h11 h13 h14
 have h17 : St 117 (fun _ => False) W a15 w11 [(0, .agg #[code.v, words.v, .int .i64 locks, .int .i64 regs]), (1, cols.v), (2, .pointer (some ⟨b3, 0, none⟩)), (4, .pointer (some ⟨b4, 0, none⟩)), (5, .pointer (some ⟨b5, 0, none⟩)), (6, .pointer (some ⟨b10, 0, none⟩)), (17, .agg #[code.v, words.v, .int .i64 locks, .int .i64 regs]), (18, .agg #[.int .i64 ((checkG (pgOf code words locks regs)).code), .int .i64 ((checkG (pgOf code words locks regs)).thread), .int .i64 ((checkG (pgOf code words locks regs)).at_)]), (19, .pointer (some ⟨b10, 0, none⟩)), (20, .int .i64 ((checkG (pgOf code words locks regs)).code)), (21, .bool (decide ((checkG (pgOf code words locks regs)).code ≠ 0)))] [.blk b10 28 [.int .i64 ((checkG (pgOf code words locks regs)).code), .int .i64 ((checkG (pgOf code words locks regs)).thread), .int .i64 ((checkG (pgOf code words locks regs)).at_)], .blk b5 28 [.int .i64 0, .int .i64 0, .int .i64 0], .blk b4 25 [(.slice none 0 0), (.slice none 0 0), .int .i64 0, .int .i64 0], .blk b3 25 [code.v, words.v, .int .i64 locks, .int .i64 regs], .at_ code, .at_ words, .at_ cols] := h15.nrm ⟨rfl, rfl, rfl, rfl, rfl, rfl, rfl, rfl, rfl, rfl, rfl, trivial⟩ [0, 1, 2, 3, 4, 5, 6] (by decide) ⟨rfl, rfl, rfl, rfl, rfl, rfl, rfl, trivial⟩
 clear h15
 refine x_any ((fun Φ Ψ S a w => (S 2 = false ∧ S 3 = false ∧ FrI 117 S Φ Ψ a ∧ Sh (fun _ => False) W w [.blk b10 28 [.int .i64 ((checkG (pgOf code words locks regs)).code), .int .i64 ((checkG (pgOf code words locks regs)).thread), .int .i64 ((checkG (pgOf code words locks regs)).at_)], .blk b5 28 [.int .i64 0, .int .i64 0, .int .i64 0], .blk b4 25 [(.slice none 0 0), (.slice none 0 0), .int .i64 0, .int .i64 0], .blk b3 25 [code.v, words.v, .int .i64 locks, .int .i64 regs], .at_ code, .at_ words, .at_ cols]) ∨ (S 2 = true ∧ S 3 = false ∧ FrI 117 S Φ Ψ a ∧ Sh (fun _ => False) W w [.blk b10 28 [.int .i64 ((checkG (pgOf code words locks regs)).code), .int .i64 ((checkG (pgOf code words locks regs)).thread), .int .i64 ((checkG (pgOf code words locks regs)).at_)], .blk b5 28 [.int .i64 0, .int .i64 0, .int .i64 0], .blk b4 25 [(.slice none 0 0), (.slice none 0 0), .int .i64 0, .int .i64 0], .blk b3 25 [code.v, words.v, .int .i64 locks, .int .i64 regs], .at_ code, .at_ words, .at_ cols]) ∨ (S 2 = true ∧ S 3 = true ∧ FrI 117 S Φ Ψ a ∧ Sh (fun _ => False) W w [.blk b10 28 [.int .i64 ((checkG (pgOf code words locks regs)).code), .int .i64 ((checkG (pgOf code words locks regs)).thread), .int .i64 ((checkG (pgOf code words locks regs)).at_)], .blk b5 28 [.int .i64 ((checkG (pgOf code words locks regs)).code), .int .i64 ((checkG (pgOf code words locks regs)).thread), .int .i64 ((checkG (pgOf code words locks regs)).at_)], .blk b4 25 [(.slice none 0 0), (.slice none 0 0), .int .i64 0, .int .i64 0], .blk b3 25 [code.v, words.v, .int .i64 locks, .int .i64 regs], .at_ code, .at_ words, .at_ cols])) [(0, .agg #[code.v, words.v, .int .i64 locks, .int .i64 regs]), (1, cols.v), (2, .pointer (some ⟨b3, 0, none⟩)), (4, .pointer (some ⟨b4, 0, none⟩)), (5, .pointer (some ⟨b5, 0, none⟩)), (6, .pointer (some ⟨b10, 0, none⟩)), (17, .agg #[code.v, words.v, .int .i64 locks, .int .i64 regs]), (18, .agg #[.int .i64 ((checkG (pgOf code words locks regs)).code), .int .i64 ((checkG (pgOf code words locks regs)).thread), .int .i64 ((checkG (pgOf code words locks regs)).at_)]), (19, .pointer (some ⟨b10, 0, none⟩)), (20, .int .i64 ((checkG (pgOf code words locks regs)).code)), (21, .bool (decide ((checkG (pgOf code words locks regs)).code ≠ 0)))] [(0, 22, .agg #[(.slice none 0 0), (.slice none 0 0), .int .i64 0, .int .i64 0]), (1, 23, .agg #[.int .i64 ((checkG (pgOf code words locks regs)).code), .int .i64 ((checkG (pgOf code words locks regs)).thread), .int .i64 ((checkG (pgOf code words locks regs)).at_)])]) (by kernel_rfl) (by kernel_rfl) (Or.inl (⟨rfl, rfl, FrI.start h17.fr, h17.sh.drew⟩)) ?_ ?_
 ·intro S i o ho hSi hcl hdep a w hI
  clear h17
  rcases i with _ | _ | _ | _ | i
  ·obtain rfl : _ = o := Option.some.inj ho
   rcases hI with ⟨ν2, ν3, φ, ς⟩ | ⟨ν2, _⟩ | ⟨ν2, _⟩
   ·exact sq φ φ.fr0 ς (r_build (cs := [(.slice none 0 0), (.slice none 0 0), .int .i64 0, .int .i64 0]) rfl rfl (by kernel_rfl)) 0 rfl rfl rfl rfl rfl rfl fun a hg => Or.inl (⟨un rfl ν2, un rfl ν3, hg, ς⟩)
   ·exact no_way (cA hcl 2 0 rfl ν2) hSi
   ·exact no_way (cA hcl 2 0 rfl ν2) hSi
  ·obtain rfl : _ = o := Option.some.inj ho
   rcases hI with ⟨ν2, ν3, φ, ς⟩ | ⟨ν2, ν3, φ, ς⟩ | ⟨_, ν3, _⟩
   ·exact sq φ φ.fr0 ς (r_ldbw (i := 0) (vs := [.int .i64 ((checkG (pgOf code words locks regs)).code), .int .i64 ((checkG (pgOf code words locks regs)).thread), .int .i64 ((checkG (pgOf code words locks regs)).at_)]) ti_28 rfl rfl rfl rfl rfl) 1 rfl rfl rfl rfl rfl rfl fun a hg => Or.inl (⟨un rfl ν2, un rfl ν3, hg, ς⟩)
   ·exact sq φ φ.fr0 ς (r_ldbw (i := 0) (vs := [.int .i64 ((checkG (pgOf code words locks regs)).code), .int .i64 ((checkG (pgOf code words locks regs)).thread), .int .i64 ((checkG (pgOf code words locks regs)).at_)]) ti_28 rfl rfl rfl rfl rfl) 1 rfl rfl rfl rfl rfl rfl fun a hg => Or.inr (Or.inl (⟨un rfl ν2, un rfl ν3, hg, ς⟩))
   ·exact no_way (cA hcl 3 1 rfl ν3) hSi
  ·obtain rfl : _ = o := Option.some.inj ho
   have hd0 : S 0 = true := depAt hdep 0 rfl rfl
   rcases hI with ⟨ν2, ν3, φ, ς⟩ | ⟨ν2, _⟩ | ⟨ν2, _⟩
   ·have hs := St.mk (Fr.cons φ.fr0 (φ.at_ 0 0 22 _ rfl hd0)) ς
    refine step_ex (x_stb (i := 2) (vs := [(.slice none 0 0), (.slice none 0 0), .int .i64 0, .int .i64 0]) (cs' := [(.slice none 0 0), (.slice none 0 0), .int .i64 0, .int .i64 0]) hs ti_25 rfl rfl rfl rfl rfl rfl rfl (allOne_cons rfl (allOne_cons rfl (allOne_cons rfl (allOne_cons rfl allOne_nil)))) (Nat.le_of_ble_eq_true rfl) rfl) (wanted_none rfl _) ?_
    rintro a22 w22 h22 ⟨v0, ht22⟩
    exact Or.inr (Or.inl (⟨upd_self _ _, un rfl ν3, φ.noneW hcl hSi [0, 1] (by kernel_rfl) (by kernel_rfl) ht22 h22.fr.defers rfl, (h22.sh.sel (L' := [.blk b10 28 [.int .i64 ((checkG (pgOf code words locks regs)).code), .int .i64 ((checkG (pgOf code words locks regs)).thread), .int .i64 ((checkG (pgOf code words locks regs)).at_)], .blk b5 28 [.int .i64 0, .int .i64 0, .int .i64 0], .blk b4 25 [(.slice none 0 0), (.slice none 0 0), .int .i64 0, .int .i64 0], .blk b3 25 [code.v, words.v, .int .i64 locks, .int .i64 regs], .at_ code, .at_ words, .at_ cols]) [0, 1, 2, 3, 4, 5, 6] (by decide) ⟨rfl, rfl, rfl, rfl, rfl, rfl, rfl, trivial⟩)⟩))
   ·exact no_way ν2 hSi
   ·exact no_way ν2 hSi
  ·obtain rfl : _ = o := Option.some.inj ho
   have hd1 : S 1 = true := depAt hdep 0 rfl rfl
   have hd2 : S 2 = true := depAt hdep 1 rfl rfl
   rcases hI with ⟨ν2, _⟩ | ⟨ν2, ν3, φ, ς⟩ | ⟨_, ν3, _⟩
   ·exact no_way hd2 ν2
   ·have hs := St.mk (Fr.cons φ.fr0 (φ.at_ 1 1 23 _ rfl hd1)) ς
    refine step_ex (x_stb (i := 1) (vs := [.int .i64 ((checkG (pgOf code words locks regs)).code), .int .i64 ((checkG (pgOf code words locks regs)).thread), .int .i64 ((checkG (pgOf code words locks regs)).at_)]) (cs' := [.int .i64 ((checkG (pgOf code words locks regs)).code), .int .i64 ((checkG (pgOf code words locks regs)).thread), .int .i64 ((checkG (pgOf code words locks regs)).at_)]) hs ti_28 rfl rfl rfl rfl rfl rfl rfl (allOne_cons rfl (allOne_cons rfl (allOne_cons rfl allOne_nil))) (Nat.le_of_ble_eq_true rfl) rfl) (wanted_none rfl _) ?_
    rintro a23 w23 h23 ⟨v0, ht23⟩
    exact Or.inr (Or.inr (⟨un rfl ν2, upd_self _ _, φ.noneW hcl hSi [0, 1] (by kernel_rfl) (by kernel_rfl) ht23 h23.fr.defers rfl, (h23.sh.sel (L' := [.blk b10 28 [.int .i64 ((checkG (pgOf code words locks regs)).code), .int .i64 ((checkG (pgOf code words locks regs)).thread), .int .i64 ((checkG (pgOf code words locks regs)).at_)], .blk b5 28 [.int .i64 ((checkG (pgOf code words locks regs)).code), .int .i64 ((checkG (pgOf code words locks regs)).thread), .int .i64 ((checkG (pgOf code words locks regs)).at_)], .blk b4 25 [(.slice none 0 0), (.slice none 0 0), .int .i64 0, .int .i64 0], .blk b3 25 [code.v, words.v, .int .i64 locks, .int .i64 regs], .at_ code, .at_ words, .at_ cols]) [0, 1, 2, 3, 4, 5, 6] (by decide) ⟨rfl, rfl, rfl, rfl, rfl, rfl, rfl, trivial⟩)⟩))
   ·exact no_way ν3 hSi
  · simp at ho
 intro S hall a w hI
 clear h17
 rcases hI with ⟨ν2, ν3, φ, ς⟩ | ⟨ν2, ν3, φ, ς⟩ | ⟨ν2, ν3, φ, ς⟩
 · exact no_way (hall 2 (by decide)) ν2
 · exact no_way (hall 3 (by decide)) ν3
 have h24 : St 117 (fun _ => False) W a w _ [.blk b10 28 [.int .i64 ((checkG (pgOf code words locks regs)).code), .int .i64 ((checkG (pgOf code words locks regs)).thread), .int .i64 ((checkG (pgOf code words locks regs)).at_)], .blk b5 28 [.int .i64 ((checkG (pgOf code words locks regs)).code), .int .i64 ((checkG (pgOf code words locks regs)).thread), .int .i64 ((checkG (pgOf code words locks regs)).at_)], .blk b4 25 [(.slice none 0 0), (.slice none 0 0), .int .i64 0, .int .i64 0], .blk b3 25 [code.v, words.v, .int .i64 locks, .int .i64 regs], .at_ code, .at_ words, .at_ cols] := ⟨φ.fr0, ς⟩
 clear hall φ ς ν2 ν3
 refine hK16 _ _ <| wp_ret ?_
 try simp only [Exit.then, Exit.inBlock]
 refine x_ret2c (fn := Try.f19) (t := 4) (t2 := 5) (i := 2) (i2 := 1) ti_25 ti_28 rfl h24 rfl rfl rfl rfl rfl rfl ?_
 exact ⟨rfl, (h24.sh.sel [] (by decide) trivial)⟩

end Go.Proofs.Ytfpaahkleienoaa
