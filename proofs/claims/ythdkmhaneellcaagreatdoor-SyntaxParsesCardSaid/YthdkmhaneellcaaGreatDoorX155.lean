/-
  The document's parser: a global; a whole text.
-/
import Derived.Test.YthdkmhaneellcaaGreatDoorX154
namespace Go.Proofs.YthdkmhaneellcaaGreatDoor
open Go.RowKit
set_option linter.unusedSimpArgs false
set_option linter.unusedVariables false
set_option maxRecDepth 100000
set_option maxHeartbeats 4000000


theorem r_negI [Defs] {P : Program} {o : Oper} {N : Nat} {K : Nat → Prop} {W : World} {F : List (Nat × Value)} {L : List Asn} {T : TypeId} {x : Operand} {p : Int} (ho : o.op = .unOp .neg T x) (hx : ev F x = some (.int .i64 p)) (hb : -9223372036854775808 ≤ -p ∧ -p < 9223372036854775808) : Rn P o N K W F L (.int .i64 (-p)) := fun a w h => by
  have e : IntKind.i64.wrap (0 - p) = -p := (IntWalk.i64_left _).trans ((IntWalk.wrap64_in _ ⟨by omega, by omega⟩).trans (by omega))
  have e2 := h.fr.ev hx
  unfold execOp; simp only [ho, e2]; simp [Op.unary, go_sem]; simpa using e
section
variable {X : TE} {i d : Nat} {l : List Nd} {x : ByteArray}
theorem taken_at {y : Int} {s' : PS} (h : takeP X x ⟨i, d, l⟩ = .ok (y, s')) : y = atT X i := by
  unfold takeP at h
  split at h
  · rename_i h3; cases h; exact (atT_t (is_lt h3)).symm
  · cases h
end

theorem dGlobal_c (K : Nat → Prop) (g : Nat) (X : TE) (tv nv : Value) (i d : Nat) (nl : List NdL)  (W : World) (hS : Sh K W W [.blk g 52 [tv, .int .i64 X.e, .int .i64 ((i : Nat) : Int), .int .i64 ((d : Nat) : Int), nv, .int .i64 0, .int .i64 0, .int .i64 0], .deep 57 (⟨nv, nl⟩ : Ls NdL), .own 81 (⟨tv, X.T⟩ : Ls Tok)]) (hTl : X.T.length ≤ 4000) (hi : i ≤ X.T.length) (hnl : nl.length ≤ 2 * i) (hTo : ∀ q, q < X.T.length → TokOK (nth X.T q)) :
    Rets Tryz.prog 20 [.pointer (some ⟨g, 0, none⟩)] W (fun v w' => (∃ (a : Int) (i' : Nat) (nv' : Value) (nl' : List NdL), globP X ⟨i, d, nl.map NdL.nd⟩ = .ok (a, ⟨i', d, nl'.map NdL.nd⟩) ∧ v = .int .i64 a ∧ Sh K W w' [.blk g 52 [tv, .int .i64 X.e, .int .i64 ((i' : Nat) : Int), .int .i64 ((d : Nat) : Int), nv', .int .i64 0, .int .i64 0, .int .i64 0], .deep 57 (⟨nv', nl'⟩ : Ls NdL), .own 81 (⟨tv, X.T⟩ : Ls Tok)]) ∨ ∃ (c a dz y : Int) (nv' : Value) (nl' : List NdL), globP X ⟨i, d, nl.map NdL.nd⟩ = .error (c, a) ∧ ¬ c = 0 ∧ v = .int .i64 y ∧ nl'.length ≤ 10000 ∧ Sh K W w' [.blk g 52 [tv, .int .i64 X.e, .int .i64 ((X.T.length : Nat) : Int), .int .i64 dz, nv', .int .i64 c, .int .i64 0, .int .i64 a], .deep 57 (⟨nv', nl'⟩ : Ls NdL), .own 81 (⟨tv, X.T⟩ : Ls Tok)]) := by
 refine gen Tryz.func20 Tryz.ntmps20 hS rfl fun a10 h10 => gG h10<|sG (oM 1 rfl<|.nl)<|sK fun _ k12 => gRn (oM 1 rfl<|.nl)<|gP (fun _ _ h_ => xCl h_ bd_21 rfl (dAt_c g _ _ _ _ _ _ _ i _ (h_.sh.blk 0 rfl) (h_.sh.own 2 rfl))) rfl<|gRn (oM 1 rfl<|.nl)<|nK k12<|sK fun _ k14 => gRn (oM 1 rfl<|.nl)<|gP (fun _ _ h_ => xCl h_ bd_19 rfl (dIs_c g _ _ _ _ _ _ _ i _ (h_.sh.blk 0 rfl) (h_.sh.own 2 rfl) ({ data := #[108, 111, 99, 107] }))) rfl<|gRn (oM 1 rfl<|.nl)<|nK k14<|gK fun _ k16 => sG (oM 1 rfl<|.nl)<|?_; clear h10
 refine gCb rfl (fun hb18 => ?_) fun hb18 => ?_
 ·skip
  have hc19 : isT X i ({ data := #[108, 111, 99, 107] }) = true := (by assumption)
  have hl19 := is_lt hc19
  have ha19 := (atT_t hl19).symm
  refine sK fun _ k20 => gRn (oM 1 rfl<|.nl)<|fun a21 w21 h21 => ?_
  have hp22 := h21.sh.passL (Lp := [_, _, _])
  refine wl_ex (x_call h21 bd_22 rfl rfl rfl rfl rfl (dTake_c _ _ X tv nv i d nl _ hp22 hTl ({ data := #[108, 111, 99, 107] }))) (wanted_none rfl _) ?_
  rintro a23 w23 ⟨_, (⟨y23, hr23, hi23, rfl, hs23⟩ | ⟨c23, e23, dz23, hr23, hcn23, rfl, hs23⟩), hf23⟩
  ·skip
   have hl23 : i < X.T.length := hi23
   have h23 : St _ K W a23 w23 _ [_, _, _] := ⟨hf23, h21.sh.backI (Lp := [_, _, _]) hs23⟩
   clear hf23 hs23 h21 hp22
   refine gG h23<|nK k20<|sK fun _ k24 => gRn (oM 1 rfl<|.nl)<|fun a25 w25 h25 => ?_; clear h23
   have hp26 := h25.sh.passL (Lp := [_, _, _])
   refine wl_ex (x_call h25 bd_41 rfl rfl rfl rfl rfl (dName_c _ _ X tv nv (i + 1) d nl _ hp26 hTl)) (wanted_none rfl _) ?_
   rintro a27 w27 ⟨_, (⟨y27, hr27, hi27, rfl, hs27⟩ | ⟨c27, e27, dz27, hr27, hcn27, rfl, hs27⟩), hf27⟩
   ·skip
    have hl27 : (i + 1) < X.T.length := hi27
    have h27 : St _ K W a27 w27 _ [_, _, _] := ⟨hf27, h25.sh.backI (Lp := [_, _, _]) hs27⟩
    clear hf27 hs27 h25 hp26
    refine gG h27<|gRn (oM 1 rfl<|.nl)<|nK k24<|sK fun _ k28 => gRn (oM 1 rfl<|.nl)<|fun a29 w29 h29 => ?_; clear h27
    have hp30 := h29.sh.passL (Lp := [_, _, _])
    refine wl_ex (x_call h29 bd_22 rfl rfl rfl rfl rfl (dTake_c _ _ X tv nv ((i + 1) + 1) d nl _ hp30 hTl ({ data := #[59] }))) (wanted_none rfl _) ?_
    rintro a31 w31 ⟨_, (⟨y31, hr31, hi31, rfl, hs31⟩ | ⟨c31, e31, dz31, hr31, hcn31, rfl, hs31⟩), hf31⟩
    ·skip
     have hl31 : ((i + 1) + 1) < X.T.length := hi31
     have h31 : St _ K W a31 w31 _ [_, _, _] := ⟨hf31, h29.sh.backI (Lp := [_, _, _]) hs31⟩
     clear hf31 hs31 h29 hp30
     refine gG h31<|nK k28<|sK fun _ k32 => gRn (oM 3 rfl<|oV (r_build (cs := [.int .i64 3, .int .i64 0, .int .i64 (atT X i), .string y27.t, (.slice none 0 0)]) rfl rfl (by kernel_rfl)) rfl<|.nl)<|fun a33 w33 h33 => ?_; clear h31
     have h35 := h33.nil (α := Int) 3
     clear h33
     have h36 := h35.sel (L' := [_, _, _, _]) [1, 2, 3, 0] rfl
     have hp37 := h36.sh.passL (Lp := [_, _, _, _])
     refine wl_ex (x_call h36 bd_24 rfl rfl rfl rfl rfl (dNode_c _ _ X tv nv nl (((i + 1) + 1) + 1) _ _ _ _ 3 0 (atT X i) y27.t (⟨.slice none 0 0, []⟩ : Ls Int) hp37 (by first | omega | (simp only [lens9]; omega)))) (wanted_none rfl _) ?_
     rintro a38 w38 ⟨_, ⟨nv38, rfl, hs38⟩, hf38⟩
     have hm38 : (nl ++ [(⟨3, 0, (atT X i), y27.t, (⟨.slice none 0 0, []⟩ : Ls Int)⟩ : NdL)]).length = nl.length + 1 := (by simp only [lens9])
     have hr38 : putP (⟨3, 0, (atT X i), y27.t, []⟩ : Nd) ⟨(((i + 1) + 1) + 1), d, nl.map NdL.nd⟩ = .ok (((nl.length : Nat) : Int), ⟨(((i + 1) + 1) + 1), d, (nl ++ [(⟨3, 0, (atT X i), y27.t, (⟨.slice none 0 0, []⟩ : Ls Int)⟩ : NdL)]).map NdL.nd⟩) := put_eq (x := (⟨3, 0, (atT X i), y27.t, (⟨.slice none 0 0, []⟩ : Ls Int)⟩ : NdL))
     have h38 : St _ K W a38 w38 _ [_, _, _] := ⟨hf38, h36.sh.backI (Lp := [_, _, _, _]) hs38⟩
     clear hf38 hs38 h36 hp37
     refine gG h38<|gRn (oM 1 rfl<|.nl)<|nK k32<|gR<|uT<|fun a39 w39 h39 => x_ret1 (fn := Tryz.f20) (t := 2) rfl h39 rfl <| .inl ⟨((nl.length : Nat) : Int), (((i + 1) + 1) + 1), nv38, (nl ++ [(⟨3, 0, (atT X i), y27.t, (⟨.slice none 0 0, []⟩ : Ls Int)⟩ : NdL)]), ?_, rfl, h39.sh⟩; clear h38
     exact (by simp only [stepP, andP, ne_lock, isL2, ↓reduceIte, Bool.false_eq_true, eq_self, Nat.add_sub_cancel, List.cons_append, List.nil_append, Bool.or_false, Bool.or_true, Bool.true_or, Bool.false_or, Bool.or_self, ne_3345, globP, badP, hr23, hr27, hr31, hr38, hc19, ha19])
    have h31 : St _ K W a31 w31 _ [_, _, _] := ⟨hf31, h29.sh.backI (Lp := [_, _, _]) hs31⟩
    clear hf31 hs31 h29 hp30
    refine gG h31<|nK k28<|sK fun _ k40 => gRn (oM 3 rfl<|oV (r_build (cs := [.int .i64 3, .int .i64 0, .int .i64 (atT X i), .string y27.t, (.slice none 0 0)]) rfl rfl (by kernel_rfl)) rfl<|.nl)<|fun a41 w41 h41 => ?_; clear h31
    have h43 := h41.nil (α := Int) 3
    clear h41
    have h44 := h43.sel (L' := [_, _, _, _]) [1, 2, 3, 0] rfl
    have hp45 := h44.sh.passL (Lp := [_, _, _, _])
    refine wl_ex (x_call h44 bd_24 rfl rfl rfl rfl rfl (dNode_c _ _ X tv nv nl X.T.length _ _ _ _ 3 0 (atT X i) y27.t (⟨.slice none 0 0, []⟩ : Ls Int) hp45 (by first | omega | (simp only [lens9]; omega)))) (wanted_none rfl _) ?_
    rintro a46 w46 ⟨_, ⟨nv46, rfl, hs46⟩, hf46⟩
    have hm46 : (nl ++ [(⟨3, 0, (atT X i), y27.t, (⟨.slice none 0 0, []⟩ : Ls Int)⟩ : NdL)]).length = nl.length + 1 := (by simp only [lens9])
    have h46 : St _ K W a46 w46 _ [_, _, _] := ⟨hf46, h44.sh.backI (Lp := [_, _, _, _]) hs46⟩
    clear hf46 hs46 h44 hp45
    refine gG h46<|gRn (oM 1 rfl<|.nl)<|nK k40<|gR<|uT<|fun a47 w47 h47 => x_ret1 (fn := Tryz.f20) (t := 2) rfl h47 rfl <| .inr ⟨c31, e31, dz31, ((nl.length : Nat) : Int), nv46, (nl ++ [(⟨3, 0, (atT X i), y27.t, (⟨.slice none 0 0, []⟩ : Ls Int)⟩ : NdL)]), ?_, hcn31, rfl, (by first | omega | (simp only [lens9] at *; omega)), h47.sh⟩; clear h46
    exact (by simp only [stepP, andP, ne_lock, isL2, ↓reduceIte, Bool.false_eq_true, eq_self, Nat.add_sub_cancel, List.cons_append, List.nil_append, Bool.or_false, Bool.or_true, Bool.true_or, Bool.false_or, Bool.or_self, ne_3345, globP, badP, hr23, hr27, hr31, hc19, ha19])
   have h27 : St _ K W a27 w27 _ [_, _, _] := ⟨hf27, h25.sh.backI (Lp := [_, _, _]) hs27⟩
   clear hf27 hs27 h25 hp26
   refine gG h27<|gRn (oM 1 rfl<|.nl)<|nK k24<|sK fun _ k48 => gRn (oM 1 rfl<|.nl)<|fun a49 w49 h49 => ?_; clear h27
   have hp50 := h49.sh.passL (Lp := [_, _, _])
   refine wl_ex (x_call h49 bd_22 rfl rfl rfl rfl rfl (dTake_b _ _ X tv nv nl dz27 c27 e27 _ hp50 hTl hcn27 ({ data := #[59] }))) (wanted_none rfl _) ?_
   rintro a51 w51 ⟨_, ⟨dz51, rfl, hs51⟩, hf51⟩
   have h51 : St _ K W a51 w51 _ [_, _, _] := ⟨hf51, h49.sh.backI (Lp := [_, _, _]) hs51⟩
   clear hf51 hs51 h49 hp50
   refine gG h51<|nK k48<|sK fun _ k52 => gRn (oM 3 rfl<|oV (r_build (cs := [.int .i64 3, .int .i64 0, .int .i64 (atT X i), .string ({ data := #[] }), (.slice none 0 0)]) rfl rfl (by kernel_rfl)) rfl<|.nl)<|fun a53 w53 h53 => ?_; clear h51
   have h55 := h53.nil (α := Int) 3
   clear h53
   have h56 := h55.sel (L' := [_, _, _, _]) [1, 2, 3, 0] rfl
   have hp57 := h56.sh.passL (Lp := [_, _, _, _])
   refine wl_ex (x_call h56 bd_24 rfl rfl rfl rfl rfl (dNode_c _ _ X tv nv nl X.T.length _ _ _ _ 3 0 (atT X i) ({ data := #[] }) (⟨.slice none 0 0, []⟩ : Ls Int) hp57 (by first | omega | (simp only [lens9]; omega)))) (wanted_none rfl _) ?_
   rintro a58 w58 ⟨_, ⟨nv58, rfl, hs58⟩, hf58⟩
   have hm58 : (nl ++ [(⟨3, 0, (atT X i), { data := #[] }, (⟨.slice none 0 0, []⟩ : Ls Int)⟩ : NdL)]).length = nl.length + 1 := (by simp only [lens9])
   have h58 : St _ K W a58 w58 _ [_, _, _] := ⟨hf58, h56.sh.backI (Lp := [_, _, _, _]) hs58⟩
   clear hf58 hs58 h56 hp57
   refine gG h58<|gRn (oM 1 rfl<|.nl)<|nK k52<|gR<|uT<|fun a59 w59 h59 => x_ret1 (fn := Tryz.f20) (t := 2) rfl h59 rfl <| .inr ⟨c27, e27, dz51, ((nl.length : Nat) : Int), nv58, (nl ++ [(⟨3, 0, (atT X i), { data := #[] }, (⟨.slice none 0 0, []⟩ : Ls Int)⟩ : NdL)]), ?_, hcn27, rfl, (by first | omega | (simp only [lens9] at *; omega)), h59.sh⟩; clear h58
   exact (by simp only [stepP, andP, ne_lock, isL2, ↓reduceIte, Bool.false_eq_true, eq_self, Nat.add_sub_cancel, List.cons_append, List.nil_append, Bool.or_false, Bool.or_true, Bool.true_or, Bool.false_or, Bool.or_self, ne_3345, globP, badP, hr23, hr27, hc19, ha19])
  exact absurd (hr23.symm.trans (take_ok (by assumption))) (by simp)
 have hc60 : isT X i ({ data := #[108, 111, 99, 107] }) = false := (by assumption)
 refine gS<|hK k16<|sK fun _ k61 => gRn (oM 1 rfl<|.nl)<|fun a62 w62 h62 => ?_
 have hp63 := h62.sh.passL (Lp := [_, _, _])
 refine wl_ex (x_call h62 bd_22 rfl rfl rfl rfl rfl (dTake_c _ _ X tv nv i d nl _ hp63 hTl ({ data := #[105, 110, 116] }))) (wanted_none rfl _) ?_
 rintro a64 w64 ⟨_, (⟨y64, hr64, hi64, rfl, hs64⟩ | ⟨c64, e64, dz64, hr64, hcn64, rfl, hs64⟩), hf64⟩
 ·skip
  have hl64 : i < X.T.length := hi64
  have h64 : St _ K W a64 w64 _ [_, _, _] := ⟨hf64, h62.sh.backI (Lp := [_, _, _]) hs64⟩
  clear hf64 hs64 h62 hp63
  refine gG h64<|nK k61<|?_; clear h64
  have hya65 := taken_at hr64
  refine sK fun _ k66 => gRn (oM 1 rfl<|.nl)<|fun a67 w67 h67 => ?_
  have hp68 := h67.sh.passL (Lp := [_, _, _])
  refine wl_ex (x_call h67 bd_41 rfl rfl rfl rfl rfl (dName_c _ _ X tv nv (i + 1) d nl _ hp68 hTl)) (wanted_none rfl _) ?_
  rintro a69 w69 ⟨_, (⟨y69, hr69, hi69, rfl, hs69⟩ | ⟨c69, e69, dz69, hr69, hcn69, rfl, hs69⟩), hf69⟩
  ·skip
   have hl69 : (i + 1) < X.T.length := hi69
   have h69 : St _ K W a69 w69 _ [_, _, _] := ⟨hf69, h67.sh.backI (Lp := [_, _, _]) hs69⟩
   clear hf69 hs69 h67 hp68
   refine gG h69<|gRn (oM 1 rfl<|.nl)<|nK k66<|sG (oM 1 rfl<|.nl)<|sK fun _ k71 => gRn (oM 1 rfl<|.nl)<|gP (fun _ _ h_ => xCl h_ bd_19 rfl (dIs_c g _ _ _ _ _ _ _ ((i + 1) + 1) _ (h_.sh.blk 0 rfl) (h_.sh.own 2 rfl) ({ data := #[61] }))) rfl<|gRn (oM 1 rfl<|.nl)<|nK k71<|gK fun _ k73 => sG (oM 1 rfl<|.nl)<|?_; clear h69
   refine gCb rfl (fun hb75 => ?_) fun hb75 => ?_
   ·skip
    have hc76 : isT X ((i + 1) + 1) ({ data := #[61] }) = true := (by assumption)
    have hl76 := is_lt hc76
    refine sK fun _ k77 => gRn (oM 1 rfl<|.nl)<|fun a78 w78 h78 => ?_
    have hp79 := h78.sh.passL (Lp := [_, _, _])
    refine wl_ex (x_call h78 bd_22 rfl rfl rfl rfl rfl (dTake_c _ _ X tv nv ((i + 1) + 1) d nl _ hp79 hTl ({ data := #[61] }))) (wanted_none rfl _) ?_
    rintro a80 w80 ⟨_, (⟨y80, hr80, hi80, rfl, hs80⟩ | ⟨c80, e80, dz80, hr80, hcn80, rfl, hs80⟩), hf80⟩
    ·skip
     have hl80 : ((i + 1) + 1) < X.T.length := hi80
     have h80 : St _ K W a80 w80 _ [_, _, _] := ⟨hf80, h78.sh.backI (Lp := [_, _, _]) hs80⟩
     clear hf80 hs80 h78 hp79
     refine gG h80<|nK k77<|sK fun _ k81 => gRn (oM 1 rfl<|.nl)<|gP (fun _ _ h_ => xCl h_ bd_19 rfl (dIs_c g _ _ _ _ _ _ _ (((i + 1) + 1) + 1) _ (h_.sh.blk 0 rfl) (h_.sh.own 2 rfl) ({ data := #[45] }))) rfl<|gRn (oM 1 rfl<|.nl)<|nK k81<|gK fun _ k83 => sG (oM 1 rfl<|.nl)<|?_; clear h80
     refine gCb rfl (fun hb85 => ?_) fun hb85 => ?_
     ·skip
      have hc86 : isT X (((i + 1) + 1) + 1) ({ data := #[45] }) = true := (by assumption)
      have hl86 := is_lt hc86
      refine gL<|gRn (oM 1 rfl<|.nl)<|fun a87 w87 h87 => ?_
      have hp88 := h87.sh.passL (Lp := [_, _, _])
      refine wl_ex (x_call h87 bd_22 rfl rfl rfl rfl rfl (dTake_c _ _ X tv nv (((i + 1) + 1) + 1) d nl _ hp88 hTl ({ data := #[45] }))) (wanted_none rfl _) ?_
      rintro a89 w89 ⟨_, (⟨y89, hr89, hi89, rfl, hs89⟩ | ⟨c89, e89, dz89, hr89, hcn89, rfl, hs89⟩), hf89⟩
      ·skip
       have hl89 : (((i + 1) + 1) + 1) < X.T.length := hi89
       have h89 : St _ K W a89 w89 _ [_, _, _] := ⟨hf89, h87.sh.backI (Lp := [_, _, _]) hs89⟩
       clear hf89 hs89 h87 hp88
       refine gG h89<|nK k83<|gK fun _ k90 => gK fun _ k91 => fun a93 w93 h93 => x_quiet (by kernel_rfl) (by kernel_rfl) h93 fun _ z94 => qQ h93.fr<|qRn (oM 1 rfl<|onfl 0 fl_52_2 ti_3 rfl rfl<|oM 1 rfl<|onfl 0 fl_52_0 ti_42 rfl rfl<|.nl)<|?_; clear h89
       have hl95 : X.T.length ≤ 140737488355328 := (h93.sh.own 2 rfl).len
       refine qRn (oln (n := X.T.length) sl_42 (aO 2 rfl) rfl<|oltN _ _ rfl<|oM 1 rfl<|.nl)<|?_
       rcases dsp ((((i + 1) + 1) + 1) + 1 < X.T.length) with ⟨hb96, hp96⟩ | ⟨hb96, hp96⟩
       ·skip
        refine qRn (oG hb96 (r_move rfl rfl) rfl<|oG hb96 (r_nil rfl rfl) rfl<|oG hb96 (r_fieldB (r := 0) fl_52_0 rfl rfl rfl) rfl<|oG hb96 (r_ldb (i := 0) ti_42 rfl rfl rfl rfl) rfl<|oG hb96 (r_move rfl rfl) rfl<|oG hb96 (r_nil rfl rfl) rfl<|oG hb96 (r_fieldB (r := 2) fl_52_2 rfl rfl rfl) rfl<|oG hb96 (r_ldb (i := 0) ti_3 rfl rfl rfl rfl) rfl<|oG hb96 (r_ixN (s := (⟨tv, X.T⟩ : Ls Tok)) (q := (((i + 1) + 1) + 1) + 1) sl_42 ti_81 rfl rfl rfl (fun w h => (h.own 2 rfl)) (show (((i + 1) + 1) + 1) + 1 < X.T.length from om9)) rfl<|oG hb96 (r_fieldE (r := 0) fl_81_0 rfl rfl rfl) rfl<|oG hb96 (r_lde (s := (⟨tv, X.T⟩ : Ls Tok)) (i := (((i + 1) + 1) + 1) + 1) (v := .int .i64 ((nth X.T ((((i + 1) + 1) + 1) + 1)).k)) ti_3 rfl rfl rfl (fun w h => (h.own 2 rfl)) (show (((i + 1) + 1) + 1) + 1 < X.T.length from om9) (Nat.le_of_ble_eq_true rfl) rfl) rfl<|oG hb96 (r_eqlI (p := (nth X.T ((((i + 1) + 1) + 1) + 1)).k) (q := 3) rfl rfl rfl) rfl<|opT hb96 rfl<|.nl)<|qN z94<|?_; clear h93
        refine hK k91<|gF [0, 3, 6, 7, 9, 63] rfl<|gcd rfl (fun hb109 hp109 => ?_) fun hb109 hp109 => ?_
        ·skip
         have hc111 : kindT X ((((i + 1) + 1) + 1) + 1) 3 = true := (kindT_e (by assumption)).trans (decide_eq_true (by assumption))
         have hq111 := (hTo _ (kd_lt hc111)).2.2
         refine gK fun _ k112 => rQ (oM 1 rfl<|onfl 0 fl_52_0 ti_42 rfl rfl<|oM 1 rfl<|onfl 0 fl_52_2 ti_3 rfl rfl<|oxN sl_42 ti_81 (aO 2 rfl) _ om9 rfl<|ofE fl_81_1 rfl<|olE (.int .i64 ((nth X.T ((((i + 1) + 1) + 1) + 1)).n)) ti_3 (aO 2 rfl) om9 rfl<|oM 1 rfl<|.nl)<|hK k112<|gL<|gRn (oM 1 rfl<|onfl 0 fl_52_2 ti_3 rfl rfl<|oadN _ 1 om9 rfl<|onf fl_52_2 rfl<|.nl)<|gst 0 ti_3 rfl rfl rfl<|nK k90<|sG (oM 1 rfl<|.nl)<|gcT rfl hb85<|gL<|gRn (oM 1 rfl<|oV (r_negI (p := (nth X.T ((((i + 1) + 1) + 1) + 1)).n) rfl rfl (show -9223372036854775808 ≤ (-((nth X.T ((((i + 1) + 1) + 1) + 1)).n)) ∧ (-((nth X.T ((((i + 1) + 1) + 1) + 1)).n)) < 9223372036854775808 from by omega)) rfl<|oM 1 rfl<|.nl)<|nK k73<|gF [0, 3, 6, 7] rfl<|sK fun _ k115 => gRn (oM 1 rfl<|.nl)<|fun a116 w116 h116 => ?_
         have hp117 := h116.sh.passL (Lp := [_, _, _])
         refine wl_ex (x_call h116 bd_22 rfl rfl rfl rfl rfl (dTake_c _ _ X tv nv (((((i + 1) + 1) + 1) + 1) + 1) d nl _ hp117 hTl ({ data := #[59] }))) (wanted_none rfl _) ?_
         rintro a118 w118 ⟨_, (⟨y118, hr118, hi118, rfl, hs118⟩ | ⟨c118, e118, dz118, hr118, hcn118, rfl, hs118⟩), hf118⟩
         ·skip
          have hl118 : (((((i + 1) + 1) + 1) + 1) + 1) < X.T.length := hi118
          have h118 : St _ K W a118 w118 _ [_, _, _] := ⟨hf118, h116.sh.backI (Lp := [_, _, _]) hs118⟩
          clear hf118 hs118 h116 hp117
          refine gG h118<|nK k115<|sK fun _ k119 => gRn (oM 4 rfl<|oV (r_build (cs := [.int .i64 2, .int .i64 (-((nth X.T ((((i + 1) + 1) + 1) + 1)).n)), .int .i64 (atT X i), .string y69.t, (.slice none 0 0)]) rfl rfl (by kernel_rfl)) rfl<|.nl)<|fun a120 w120 h120 => ?_; clear h118
          have h122 := h120.nil (α := Int) 3
          clear h120
          have h123 := h122.sel (L' := [_, _, _, _]) [1, 2, 3, 0] rfl
          have hp124 := h123.sh.passL (Lp := [_, _, _, _])
          refine wl_ex (x_call h123 bd_24 rfl rfl rfl rfl rfl (dNode_c _ _ X tv nv nl ((((((i + 1) + 1) + 1) + 1) + 1) + 1) _ _ _ _ 2 (-((nth X.T ((((i + 1) + 1) + 1) + 1)).n)) (atT X i) y69.t (⟨.slice none 0 0, []⟩ : Ls Int) hp124 (by first | omega | (simp only [lens9]; omega)))) (wanted_none rfl _) ?_
          rintro a125 w125 ⟨_, ⟨nv125, rfl, hs125⟩, hf125⟩
          have hm125 : (nl ++ [(⟨2, (-((nth X.T ((((i + 1) + 1) + 1) + 1)).n)), (atT X i), y69.t, (⟨.slice none 0 0, []⟩ : Ls Int)⟩ : NdL)]).length = nl.length + 1 := (by simp only [lens9])
          have hr125 : putP (⟨2, (-((nth X.T ((((i + 1) + 1) + 1) + 1)).n)), (atT X i), y69.t, []⟩ : Nd) ⟨((((((i + 1) + 1) + 1) + 1) + 1) + 1), d, nl.map NdL.nd⟩ = .ok (((nl.length : Nat) : Int), ⟨((((((i + 1) + 1) + 1) + 1) + 1) + 1), d, (nl ++ [(⟨2, (-((nth X.T ((((i + 1) + 1) + 1) + 1)).n)), (atT X i), y69.t, (⟨.slice none 0 0, []⟩ : Ls Int)⟩ : NdL)]).map NdL.nd⟩) := put_eq (x := (⟨2, (-((nth X.T ((((i + 1) + 1) + 1) + 1)).n)), (atT X i), y69.t, (⟨.slice none 0 0, []⟩ : Ls Int)⟩ : NdL))
          have h125 : St _ K W a125 w125 _ [_, _, _] := ⟨hf125, h123.sh.backI (Lp := [_, _, _, _]) hs125⟩
          clear hf125 hs125 h123 hp124
          refine gG h125<|gRn (oM 1 rfl<|.nl)<|nK k119<|gR<|fun a126 w126 h126 => x_ret1 (fn := Tryz.f20) (t := 2) rfl h126 rfl <| .inl ⟨((nl.length : Nat) : Int), ((((((i + 1) + 1) + 1) + 1) + 1) + 1), nv125, (nl ++ [(⟨2, (-((nth X.T ((((i + 1) + 1) + 1) + 1)).n)), (atT X i), y69.t, (⟨.slice none 0 0, []⟩ : Ls Int)⟩ : NdL)]), ?_, rfl, h126.sh⟩; clear h125
          exact (by simp only [stepP, andP, ne_lock, isL2, ↓reduceIte, Bool.false_eq_true, eq_self, Nat.add_sub_cancel, List.cons_append, List.nil_append, Bool.or_false, Bool.or_true, Bool.true_or, Bool.false_or, Bool.or_self, ne_3345, globP, badP, hr64, hr69, hr80, hr89, hr118, hr125, hc60, hya65, hc76, hc86, hc111])
         have h118 : St _ K W a118 w118 _ [_, _, _] := ⟨hf118, h116.sh.backI (Lp := [_, _, _]) hs118⟩
         clear hf118 hs118 h116 hp117
         refine gG h118<|nK k115<|sK fun _ k127 => gRn (oM 4 rfl<|oV (r_build (cs := [.int .i64 2, .int .i64 (-((nth X.T ((((i + 1) + 1) + 1) + 1)).n)), .int .i64 (atT X i), .string y69.t, (.slice none 0 0)]) rfl rfl (by kernel_rfl)) rfl<|.nl)<|fun a128 w128 h128 => ?_; clear h118
         have h130 := h128.nil (α := Int) 3
         clear h128
         have h131 := h130.sel (L' := [_, _, _, _]) [1, 2, 3, 0] rfl
         have hp132 := h131.sh.passL (Lp := [_, _, _, _])
         refine wl_ex (x_call h131 bd_24 rfl rfl rfl rfl rfl (dNode_c _ _ X tv nv nl X.T.length _ _ _ _ 2 (-((nth X.T ((((i + 1) + 1) + 1) + 1)).n)) (atT X i) y69.t (⟨.slice none 0 0, []⟩ : Ls Int) hp132 (by first | omega | (simp only [lens9]; omega)))) (wanted_none rfl _) ?_
         rintro a133 w133 ⟨_, ⟨nv133, rfl, hs133⟩, hf133⟩
         have hm133 : (nl ++ [(⟨2, (-((nth X.T ((((i + 1) + 1) + 1) + 1)).n)), (atT X i), y69.t, (⟨.slice none 0 0, []⟩ : Ls Int)⟩ : NdL)]).length = nl.length + 1 := (by simp only [lens9])
         have h133 : St _ K W a133 w133 _ [_, _, _] := ⟨hf133, h131.sh.backI (Lp := [_, _, _, _]) hs133⟩
         clear hf133 hs133 h131 hp132
         refine gG h133<|gRn (oM 1 rfl<|.nl)<|nK k127<|gR<|fun a134 w134 h134 => x_ret1 (fn := Tryz.f20) (t := 2) rfl h134 rfl <| .inr ⟨c118, e118, dz118, ((nl.length : Nat) : Int), nv133, (nl ++ [(⟨2, (-((nth X.T ((((i + 1) + 1) + 1) + 1)).n)), (atT X i), y69.t, (⟨.slice none 0 0, []⟩ : Ls Int)⟩ : NdL)]), ?_, hcn118, rfl, (by first | omega | (simp only [lens9] at *; omega)), h134.sh⟩; clear h133
         exact (by simp only [stepP, andP, ne_lock, isL2, ↓reduceIte, Bool.false_eq_true, eq_self, Nat.add_sub_cancel, List.cons_append, List.nil_append, Bool.or_false, Bool.or_true, Bool.true_or, Bool.false_or, Bool.or_self, ne_3345, globP, badP, hr64, hr69, hr80, hr89, hr118, hc60, hya65, hc76, hc86, hc111])
        have hc136 : kindT X ((((i + 1) + 1) + 1) + 1) 3 = false := (kindT_e (by assumption)).trans (decide_eq_false (by assumption))
        refine gL<|gRn (oM 1 rfl<|.nl)<|fun a137 w137 h137 => ?_
        have hp138 := h137.sh.passL (Lp := [_, _, _])
        refine wl_ex (x_call h137 bd_42 rfl rfl rfl rfl rfl (dFail_c _ _ X tv nv ((((i + 1) + 1) + 1) + 1) d nl _ hp138 hTl 5)) (wanted_none rfl _) ?_
        rintro a139 w139 ⟨_, ⟨rfl, hs139⟩, hf139⟩
        have hcn139 : ¬ (5 : Int) = 0 := (by omega)
        have h139 : St _ K W a139 w139 _ [_, _, _] := ⟨hf139, h137.sh.backI (Lp := [_, _, _]) hs139⟩
        clear hf139 hs139 h137 hp138
        refine gG h139<|nK k90<|sG (oM 1 rfl<|.nl)<|gcT rfl hb85<|gL<|gRn (oM 1 rfl<|oV (r_negI (p := 0) rfl rfl (show -9223372036854775808 ≤ (-0) ∧ (-0) < 9223372036854775808 from by omega)) rfl<|oM 1 rfl<|.nl)<|nK k73<|sK fun _ k141 => gRn (oM 1 rfl<|.nl)<|fun a142 w142 h142 => ?_; clear h139
        have hp143 := h142.sh.passL (Lp := [_, _, _])
        refine wl_ex (x_call h142 bd_22 rfl rfl rfl rfl rfl (dTake_b _ _ X tv nv nl ((d : Nat) : Int) 5 (atT X ((((i + 1) + 1) + 1) + 1)) _ hp143 hTl hcn139 ({ data := #[59] }))) (wanted_none rfl _) ?_
        rintro a144 w144 ⟨_, ⟨dz144, rfl, hs144⟩, hf144⟩
        have h144 : St _ K W a144 w144 _ [_, _, _] := ⟨hf144, h142.sh.backI (Lp := [_, _, _]) hs144⟩
        clear hf144 hs144 h142 hp143
        refine gG h144<|nK k141<|sK fun _ k145 => gRn (oM 4 rfl<|oV (r_build (cs := [.int .i64 2, .int .i64 (-0), .int .i64 (atT X i), .string y69.t, (.slice none 0 0)]) rfl rfl (by kernel_rfl)) rfl<|.nl)<|fun a146 w146 h146 => ?_; clear h144
        have h148 := h146.nil (α := Int) 3
        clear h146
        have h149 := h148.sel (L' := [_, _, _, _]) [1, 2, 3, 0] rfl
        have hp150 := h149.sh.passL (Lp := [_, _, _, _])
        refine wl_ex (x_call h149 bd_24 rfl rfl rfl rfl rfl (dNode_c _ _ X tv nv nl X.T.length _ _ _ _ 2 (-0) (atT X i) y69.t (⟨.slice none 0 0, []⟩ : Ls Int) hp150 (by first | omega | (simp only [lens9]; omega)))) (wanted_none rfl _) ?_
        rintro a151 w151 ⟨_, ⟨nv151, rfl, hs151⟩, hf151⟩
        have hm151 : (nl ++ [(⟨2, (-0), (atT X i), y69.t, (⟨.slice none 0 0, []⟩ : Ls Int)⟩ : NdL)]).length = nl.length + 1 := (by simp only [lens9])
        have h151 : St _ K W a151 w151 _ [_, _, _] := ⟨hf151, h149.sh.backI (Lp := [_, _, _, _]) hs151⟩
        clear hf151 hs151 h149 hp150
        refine gG h151<|gRn (oM 1 rfl<|.nl)<|nK k145<|gR<|fun a152 w152 h152 => x_ret1 (fn := Tryz.f20) (t := 2) rfl h152 rfl <| .inr ⟨5, (atT X ((((i + 1) + 1) + 1) + 1)), dz144, ((nl.length : Nat) : Int), nv151, (nl ++ [(⟨2, (-0), (atT X i), y69.t, (⟨.slice none 0 0, []⟩ : Ls Int)⟩ : NdL)]), ?_, hcn139, rfl, (by first | omega | (simp only [lens9] at *; omega)), h152.sh⟩; clear h151
        exact (by simp only [stepP, andP, ne_lock, isL2, ↓reduceIte, Bool.false_eq_true, eq_self, Nat.add_sub_cancel, List.cons_append, List.nil_append, Bool.or_false, Bool.or_true, Bool.true_or, Bool.false_or, Bool.or_self, ne_3345, globP, badP, hr64, hr69, hr80, hr89, hc60, hya65, hc76, hc86, hc136])
       refine qRn (oKs 12 hb96 rfl rfl<|opF hb96 rfl<|.nl)<|qN z94<|?_; clear h93
       refine hK k91<|gF [0, 3, 6, 7, 9, 63] rfl<|gcF rfl rfl<|?_
       have hc154 : kindT X ((((i + 1) + 1) + 1) + 1) 3 = false := kindT_f (fun h9 => absurd h9.1 (by assumption))
       refine gL<|gRn (oM 1 rfl<|.nl)<|fun a155 w155 h155 => ?_
       have hp156 := h155.sh.passL (Lp := [_, _, _])
       refine wl_ex (x_call h155 bd_42 rfl rfl rfl rfl rfl (dFail_c _ _ X tv nv ((((i + 1) + 1) + 1) + 1) d nl _ hp156 hTl 5)) (wanted_none rfl _) ?_
       rintro a157 w157 ⟨_, ⟨rfl, hs157⟩, hf157⟩
       have hcn157 : ¬ (5 : Int) = 0 := (by omega)
       have h157 : St _ K W a157 w157 _ [_, _, _] := ⟨hf157, h155.sh.backI (Lp := [_, _, _]) hs157⟩
       clear hf157 hs157 h155 hp156
       refine gG h157<|nK k90<|sG (oM 1 rfl<|.nl)<|gcT rfl hb85<|gL<|gRn (oM 1 rfl<|oV (r_negI (p := 0) rfl rfl (show -9223372036854775808 ≤ (-0) ∧ (-0) < 9223372036854775808 from by omega)) rfl<|oM 1 rfl<|.nl)<|nK k73<|sK fun _ k159 => gRn (oM 1 rfl<|.nl)<|fun a160 w160 h160 => ?_; clear h157
       have hp161 := h160.sh.passL (Lp := [_, _, _])
       refine wl_ex (x_call h160 bd_22 rfl rfl rfl rfl rfl (dTake_b _ _ X tv nv nl ((d : Nat) : Int) 5 (atT X ((((i + 1) + 1) + 1) + 1)) _ hp161 hTl hcn157 ({ data := #[59] }))) (wanted_none rfl _) ?_
       rintro a162 w162 ⟨_, ⟨dz162, rfl, hs162⟩, hf162⟩
       have h162 : St _ K W a162 w162 _ [_, _, _] := ⟨hf162, h160.sh.backI (Lp := [_, _, _]) hs162⟩
       clear hf162 hs162 h160 hp161
       refine gG h162<|nK k159<|sK fun _ k163 => gRn (oM 4 rfl<|oV (r_build (cs := [.int .i64 2, .int .i64 (-0), .int .i64 (atT X i), .string y69.t, (.slice none 0 0)]) rfl rfl (by kernel_rfl)) rfl<|.nl)<|fun a164 w164 h164 => ?_; clear h162
       have h166 := h164.nil (α := Int) 3
       clear h164
       have h167 := h166.sel (L' := [_, _, _, _]) [1, 2, 3, 0] rfl
       have hp168 := h167.sh.passL (Lp := [_, _, _, _])
       refine wl_ex (x_call h167 bd_24 rfl rfl rfl rfl rfl (dNode_c _ _ X tv nv nl X.T.length _ _ _ _ 2 (-0) (atT X i) y69.t (⟨.slice none 0 0, []⟩ : Ls Int) hp168 (by first | omega | (simp only [lens9]; omega)))) (wanted_none rfl _) ?_
       rintro a169 w169 ⟨_, ⟨nv169, rfl, hs169⟩, hf169⟩
       have hm169 : (nl ++ [(⟨2, (-0), (atT X i), y69.t, (⟨.slice none 0 0, []⟩ : Ls Int)⟩ : NdL)]).length = nl.length + 1 := (by simp only [lens9])
       have h169 : St _ K W a169 w169 _ [_, _, _] := ⟨hf169, h167.sh.backI (Lp := [_, _, _, _]) hs169⟩
       clear hf169 hs169 h167 hp168
       refine gG h169<|gRn (oM 1 rfl<|.nl)<|nK k163<|gR<|fun a170 w170 h170 => x_ret1 (fn := Tryz.f20) (t := 2) rfl h170 rfl <| .inr ⟨5, (atT X ((((i + 1) + 1) + 1) + 1)), dz162, ((nl.length : Nat) : Int), nv169, (nl ++ [(⟨2, (-0), (atT X i), y69.t, (⟨.slice none 0 0, []⟩ : Ls Int)⟩ : NdL)]), ?_, hcn157, rfl, (by first | omega | (simp only [lens9] at *; omega)), h170.sh⟩; clear h169
       exact (by simp only [stepP, andP, ne_lock, isL2, ↓reduceIte, Bool.false_eq_true, eq_self, Nat.add_sub_cancel, List.cons_append, List.nil_append, Bool.or_false, Bool.or_true, Bool.true_or, Bool.false_or, Bool.or_self, ne_3345, globP, badP, hr64, hr69, hr80, hr89, hc60, hya65, hc76, hc86, hc154])
      exact absurd (hr89.symm.trans (take_ok (by assumption))) (by simp)
     have hc171 : isT X (((i + 1) + 1) + 1) ({ data := #[45] }) = false := (by assumption)
     refine gS<|hK k83<|gK fun _ k172 => gK fun _ k173 => fun a175 w175 h175 => x_quiet (by kernel_rfl) (by kernel_rfl) h175 fun _ z176 => qQ h175.fr<|qRn (oM 1 rfl<|onfl 0 fl_52_2 ti_3 rfl rfl<|oM 1 rfl<|onfl 0 fl_52_0 ti_42 rfl rfl<|.nl)<|?_
     have hl177 : X.T.length ≤ 140737488355328 := (h175.sh.own 2 rfl).len
     refine qRn (oln (n := X.T.length) sl_42 (aO 2 rfl) rfl<|oltN _ _ rfl<|oM 1 rfl<|.nl)<|?_
     rcases dsp (((i + 1) + 1) + 1 < X.T.length) with ⟨hb178, hp178⟩ | ⟨hb178, hp178⟩
     ·skip
      refine qRn (oG hb178 (r_move rfl rfl) rfl<|oG hb178 (r_nil rfl rfl) rfl<|oG hb178 (r_fieldB (r := 0) fl_52_0 rfl rfl rfl) rfl<|oG hb178 (r_ldb (i := 0) ti_42 rfl rfl rfl rfl) rfl<|oG hb178 (r_move rfl rfl) rfl<|oG hb178 (r_nil rfl rfl) rfl<|oG hb178 (r_fieldB (r := 2) fl_52_2 rfl rfl rfl) rfl<|oG hb178 (r_ldb (i := 0) ti_3 rfl rfl rfl rfl) rfl<|oG hb178 (r_ixN (s := (⟨tv, X.T⟩ : Ls Tok)) (q := ((i + 1) + 1) + 1) sl_42 ti_81 rfl rfl rfl (fun w h => (h.own 2 rfl)) (show ((i + 1) + 1) + 1 < X.T.length from om9)) rfl<|oG hb178 (r_fieldE (r := 0) fl_81_0 rfl rfl rfl) rfl<|oG hb178 (r_lde (s := (⟨tv, X.T⟩ : Ls Tok)) (i := ((i + 1) + 1) + 1) (v := .int .i64 ((nth X.T (((i + 1) + 1) + 1)).k)) ti_3 rfl rfl rfl (fun w h => (h.own 2 rfl)) (show ((i + 1) + 1) + 1 < X.T.length from om9) (Nat.le_of_ble_eq_true rfl) rfl) rfl<|oG hb178 (r_eqlI (p := (nth X.T (((i + 1) + 1) + 1)).k) (q := 3) rfl rfl rfl) rfl<|opT hb178 rfl<|.nl)<|qN z176<|?_; clear h175
      refine hK k173<|gF [0, 3, 6, 7, 9, 63] rfl<|gcd rfl (fun hb191 hp191 => ?_) fun hb191 hp191 => ?_
      ·skip
       have hc193 : kindT X (((i + 1) + 1) + 1) 3 = true := (kindT_e (by assumption)).trans (decide_eq_true (by assumption))
       have hq193 := (hTo _ (kd_lt hc193)).2.2
       refine gK fun _ k194 => rQ (oM 1 rfl<|onfl 0 fl_52_0 ti_42 rfl rfl<|oM 1 rfl<|onfl 0 fl_52_2 ti_3 rfl rfl<|oxN sl_42 ti_81 (aO 2 rfl) _ om9 rfl<|ofE fl_81_1 rfl<|olE (.int .i64 ((nth X.T (((i + 1) + 1) + 1)).n)) ti_3 (aO 2 rfl) om9 rfl<|oM 1 rfl<|.nl)<|hK k194<|gL<|gRn (oM 1 rfl<|onfl 0 fl_52_2 ti_3 rfl rfl<|oadN _ 1 om9 rfl<|onf fl_52_2 rfl<|.nl)<|gst 0 ti_3 rfl rfl rfl<|nK k172<|sG (oM 1 rfl<|.nl)<|gcF rfl hb85<|gS<|hK k73<|sK fun _ k197 => gRn (oM 1 rfl<|.nl)<|fun a198 w198 h198 => ?_
       have hp199 := h198.sh.passL (Lp := [_, _, _])
       refine wl_ex (x_call h198 bd_22 rfl rfl rfl rfl rfl (dTake_c _ _ X tv nv ((((i + 1) + 1) + 1) + 1) d nl _ hp199 hTl ({ data := #[59] }))) (wanted_none rfl _) ?_
       rintro a200 w200 ⟨_, (⟨y200, hr200, hi200, rfl, hs200⟩ | ⟨c200, e200, dz200, hr200, hcn200, rfl, hs200⟩), hf200⟩
       ·skip
        have hl200 : ((((i + 1) + 1) + 1) + 1) < X.T.length := hi200
        have h200 : St _ K W a200 w200 _ [_, _, _] := ⟨hf200, h198.sh.backI (Lp := [_, _, _]) hs200⟩
        clear hf200 hs200 h198 hp199
        refine gG h200<|nK k197<|gF [0, 3, 6, 7] rfl<|sK fun _ k201 => gRn (oM 4 rfl<|oV (r_build (cs := [.int .i64 2, .int .i64 ((nth X.T (((i + 1) + 1) + 1)).n), .int .i64 (atT X i), .string y69.t, (.slice none 0 0)]) rfl rfl (by kernel_rfl)) rfl<|.nl)<|fun a202 w202 h202 => ?_; clear h200
        have h204 := h202.nil (α := Int) 3
        clear h202
        have h205 := h204.sel (L' := [_, _, _, _]) [1, 2, 3, 0] rfl
        have hp206 := h205.sh.passL (Lp := [_, _, _, _])
        refine wl_ex (x_call h205 bd_24 rfl rfl rfl rfl rfl (dNode_c _ _ X tv nv nl (((((i + 1) + 1) + 1) + 1) + 1) _ _ _ _ 2 ((nth X.T (((i + 1) + 1) + 1)).n) (atT X i) y69.t (⟨.slice none 0 0, []⟩ : Ls Int) hp206 (by first | omega | (simp only [lens9]; omega)))) (wanted_none rfl _) ?_
        rintro a207 w207 ⟨_, ⟨nv207, rfl, hs207⟩, hf207⟩
        have hm207 : (nl ++ [(⟨2, (nth X.T (((i + 1) + 1) + 1)).n, (atT X i), y69.t, (⟨.slice none 0 0, []⟩ : Ls Int)⟩ : NdL)]).length = nl.length + 1 := (by simp only [lens9])
        have hr207 : putP (⟨2, (nth X.T (((i + 1) + 1) + 1)).n, (atT X i), y69.t, []⟩ : Nd) ⟨(((((i + 1) + 1) + 1) + 1) + 1), d, nl.map NdL.nd⟩ = .ok (((nl.length : Nat) : Int), ⟨(((((i + 1) + 1) + 1) + 1) + 1), d, (nl ++ [(⟨2, (nth X.T (((i + 1) + 1) + 1)).n, (atT X i), y69.t, (⟨.slice none 0 0, []⟩ : Ls Int)⟩ : NdL)]).map NdL.nd⟩) := put_eq (x := (⟨2, (nth X.T (((i + 1) + 1) + 1)).n, (atT X i), y69.t, (⟨.slice none 0 0, []⟩ : Ls Int)⟩ : NdL))
        have h207 : St _ K W a207 w207 _ [_, _, _] := ⟨hf207, h205.sh.backI (Lp := [_, _, _, _]) hs207⟩
        clear hf207 hs207 h205 hp206
        refine gG h207<|gRn (oM 1 rfl<|.nl)<|nK k201<|gR<|fun a208 w208 h208 => x_ret1 (fn := Tryz.f20) (t := 2) rfl h208 rfl <| .inl ⟨((nl.length : Nat) : Int), (((((i + 1) + 1) + 1) + 1) + 1), nv207, (nl ++ [(⟨2, (nth X.T (((i + 1) + 1) + 1)).n, (atT X i), y69.t, (⟨.slice none 0 0, []⟩ : Ls Int)⟩ : NdL)]), ?_, rfl, h208.sh⟩; clear h207
        exact (by simp only [stepP, andP, ne_lock, isL2, ↓reduceIte, Bool.false_eq_true, eq_self, Nat.add_sub_cancel, List.cons_append, List.nil_append, Bool.or_false, Bool.or_true, Bool.true_or, Bool.false_or, Bool.or_self, ne_3345, globP, badP, hr64, hr69, hr80, hr200, hr207, hc60, hya65, hc76, hc171, hc193])
       have h200 : St _ K W a200 w200 _ [_, _, _] := ⟨hf200, h198.sh.backI (Lp := [_, _, _]) hs200⟩
       clear hf200 hs200 h198 hp199
       refine gG h200<|nK k197<|gF [0, 3, 6, 7] rfl<|sK fun _ k209 => gRn (oM 4 rfl<|oV (r_build (cs := [.int .i64 2, .int .i64 ((nth X.T (((i + 1) + 1) + 1)).n), .int .i64 (atT X i), .string y69.t, (.slice none 0 0)]) rfl rfl (by kernel_rfl)) rfl<|.nl)<|fun a210 w210 h210 => ?_; clear h200
       have h212 := h210.nil (α := Int) 3
       clear h210
       have h213 := h212.sel (L' := [_, _, _, _]) [1, 2, 3, 0] rfl
       have hp214 := h213.sh.passL (Lp := [_, _, _, _])
       refine wl_ex (x_call h213 bd_24 rfl rfl rfl rfl rfl (dNode_c _ _ X tv nv nl X.T.length _ _ _ _ 2 ((nth X.T (((i + 1) + 1) + 1)).n) (atT X i) y69.t (⟨.slice none 0 0, []⟩ : Ls Int) hp214 (by first | omega | (simp only [lens9]; omega)))) (wanted_none rfl _) ?_
       rintro a215 w215 ⟨_, ⟨nv215, rfl, hs215⟩, hf215⟩
       have hm215 : (nl ++ [(⟨2, (nth X.T (((i + 1) + 1) + 1)).n, (atT X i), y69.t, (⟨.slice none 0 0, []⟩ : Ls Int)⟩ : NdL)]).length = nl.length + 1 := (by simp only [lens9])
       have h215 : St _ K W a215 w215 _ [_, _, _] := ⟨hf215, h213.sh.backI (Lp := [_, _, _, _]) hs215⟩
       clear hf215 hs215 h213 hp214
       refine gG h215<|gRn (oM 1 rfl<|.nl)<|nK k209<|gR<|fun a216 w216 h216 => x_ret1 (fn := Tryz.f20) (t := 2) rfl h216 rfl <| .inr ⟨c200, e200, dz200, ((nl.length : Nat) : Int), nv215, (nl ++ [(⟨2, (nth X.T (((i + 1) + 1) + 1)).n, (atT X i), y69.t, (⟨.slice none 0 0, []⟩ : Ls Int)⟩ : NdL)]), ?_, hcn200, rfl, (by first | omega | (simp only [lens9] at *; omega)), h216.sh⟩; clear h215
       exact (by simp only [stepP, andP, ne_lock, isL2, ↓reduceIte, Bool.false_eq_true, eq_self, Nat.add_sub_cancel, List.cons_append, List.nil_append, Bool.or_false, Bool.or_true, Bool.true_or, Bool.false_or, Bool.or_self, ne_3345, globP, badP, hr64, hr69, hr80, hr200, hc60, hya65, hc76, hc171, hc193])
      have hc218 : kindT X (((i + 1) + 1) + 1) 3 = false := (kindT_e (by assumption)).trans (decide_eq_false (by assumption))
      refine gL<|gRn (oM 1 rfl<|.nl)<|fun a219 w219 h219 => ?_
      have hp220 := h219.sh.passL (Lp := [_, _, _])
      refine wl_ex (x_call h219 bd_42 rfl rfl rfl rfl rfl (dFail_c _ _ X tv nv (((i + 1) + 1) + 1) d nl _ hp220 hTl 5)) (wanted_none rfl _) ?_
      rintro a221 w221 ⟨_, ⟨rfl, hs221⟩, hf221⟩
      have hcn221 : ¬ (5 : Int) = 0 := (by omega)
      have h221 : St _ K W a221 w221 _ [_, _, _] := ⟨hf221, h219.sh.backI (Lp := [_, _, _]) hs221⟩
      clear hf221 hs221 h219 hp220
      refine gG h221<|nK k172<|sG (oM 1 rfl<|.nl)<|gcF rfl hb85<|gS<|hK k73<|sK fun _ k223 => gRn (oM 1 rfl<|.nl)<|fun a224 w224 h224 => ?_; clear h221
      have hp225 := h224.sh.passL (Lp := [_, _, _])
      refine wl_ex (x_call h224 bd_22 rfl rfl rfl rfl rfl (dTake_b _ _ X tv nv nl ((d : Nat) : Int) 5 (atT X (((i + 1) + 1) + 1)) _ hp225 hTl hcn221 ({ data := #[59] }))) (wanted_none rfl _) ?_
      rintro a226 w226 ⟨_, ⟨dz226, rfl, hs226⟩, hf226⟩
      have h226 : St _ K W a226 w226 _ [_, _, _] := ⟨hf226, h224.sh.backI (Lp := [_, _, _]) hs226⟩
      clear hf226 hs226 h224 hp225
      refine gG h226<|nK k223<|sK fun _ k227 => gRn (oM 4 rfl<|oV (r_build (cs := [.int .i64 2, .int .i64 0, .int .i64 (atT X i), .string y69.t, (.slice none 0 0)]) rfl rfl (by kernel_rfl)) rfl<|.nl)<|fun a228 w228 h228 => ?_; clear h226
      have h230 := h228.nil (α := Int) 3
      clear h228
      have h231 := h230.sel (L' := [_, _, _, _]) [1, 2, 3, 0] rfl
      have hp232 := h231.sh.passL (Lp := [_, _, _, _])
      refine wl_ex (x_call h231 bd_24 rfl rfl rfl rfl rfl (dNode_c _ _ X tv nv nl X.T.length _ _ _ _ 2 0 (atT X i) y69.t (⟨.slice none 0 0, []⟩ : Ls Int) hp232 (by first | omega | (simp only [lens9]; omega)))) (wanted_none rfl _) ?_
      rintro a233 w233 ⟨_, ⟨nv233, rfl, hs233⟩, hf233⟩
      have hm233 : (nl ++ [(⟨2, 0, (atT X i), y69.t, (⟨.slice none 0 0, []⟩ : Ls Int)⟩ : NdL)]).length = nl.length + 1 := (by simp only [lens9])
      have h233 : St _ K W a233 w233 _ [_, _, _] := ⟨hf233, h231.sh.backI (Lp := [_, _, _, _]) hs233⟩
      clear hf233 hs233 h231 hp232
      refine gG h233<|gRn (oM 1 rfl<|.nl)<|nK k227<|gR<|fun a234 w234 h234 => x_ret1 (fn := Tryz.f20) (t := 2) rfl h234 rfl <| .inr ⟨5, (atT X (((i + 1) + 1) + 1)), dz226, ((nl.length : Nat) : Int), nv233, (nl ++ [(⟨2, 0, (atT X i), y69.t, (⟨.slice none 0 0, []⟩ : Ls Int)⟩ : NdL)]), ?_, hcn221, rfl, (by first | omega | (simp only [lens9] at *; omega)), h234.sh⟩; clear h233
      exact (by simp only [stepP, andP, ne_lock, isL2, ↓reduceIte, Bool.false_eq_true, eq_self, Nat.add_sub_cancel, List.cons_append, List.nil_append, Bool.or_false, Bool.or_true, Bool.true_or, Bool.false_or, Bool.or_self, ne_3345, globP, badP, hr64, hr69, hr80, hc60, hya65, hc76, hc171, hc218])
     refine qRn (oKs 12 hb178 rfl rfl<|opF hb178 rfl<|.nl)<|qN z176<|?_; clear h175
     refine hK k173<|gF [0, 3, 6, 7, 9, 63] rfl<|gcF rfl rfl<|?_
     have hc236 : kindT X (((i + 1) + 1) + 1) 3 = false := kindT_f (fun h9 => absurd h9.1 (by assumption))
     refine gL<|gRn (oM 1 rfl<|.nl)<|fun a237 w237 h237 => ?_
     have hp238 := h237.sh.passL (Lp := [_, _, _])
     refine wl_ex (x_call h237 bd_42 rfl rfl rfl rfl rfl (dFail_c _ _ X tv nv (((i + 1) + 1) + 1) d nl _ hp238 hTl 5)) (wanted_none rfl _) ?_
     rintro a239 w239 ⟨_, ⟨rfl, hs239⟩, hf239⟩
     have hcn239 : ¬ (5 : Int) = 0 := (by omega)
     have h239 : St _ K W a239 w239 _ [_, _, _] := ⟨hf239, h237.sh.backI (Lp := [_, _, _]) hs239⟩
     clear hf239 hs239 h237 hp238
     refine gG h239<|nK k172<|sG (oM 1 rfl<|.nl)<|gcF rfl hb85<|gS<|hK k73<|sK fun _ k241 => gRn (oM 1 rfl<|.nl)<|fun a242 w242 h242 => ?_; clear h239
     have hp243 := h242.sh.passL (Lp := [_, _, _])
     refine wl_ex (x_call h242 bd_22 rfl rfl rfl rfl rfl (dTake_b _ _ X tv nv nl ((d : Nat) : Int) 5 (atT X (((i + 1) + 1) + 1)) _ hp243 hTl hcn239 ({ data := #[59] }))) (wanted_none rfl _) ?_
     rintro a244 w244 ⟨_, ⟨dz244, rfl, hs244⟩, hf244⟩
     have h244 : St _ K W a244 w244 _ [_, _, _] := ⟨hf244, h242.sh.backI (Lp := [_, _, _]) hs244⟩
     clear hf244 hs244 h242 hp243
     refine gG h244<|nK k241<|sK fun _ k245 => gRn (oM 4 rfl<|oV (r_build (cs := [.int .i64 2, .int .i64 0, .int .i64 (atT X i), .string y69.t, (.slice none 0 0)]) rfl rfl (by kernel_rfl)) rfl<|.nl)<|fun a246 w246 h246 => ?_; clear h244
     have h248 := h246.nil (α := Int) 3
     clear h246
     have h249 := h248.sel (L' := [_, _, _, _]) [1, 2, 3, 0] rfl
     have hp250 := h249.sh.passL (Lp := [_, _, _, _])
     refine wl_ex (x_call h249 bd_24 rfl rfl rfl rfl rfl (dNode_c _ _ X tv nv nl X.T.length _ _ _ _ 2 0 (atT X i) y69.t (⟨.slice none 0 0, []⟩ : Ls Int) hp250 (by first | omega | (simp only [lens9]; omega)))) (wanted_none rfl _) ?_
     rintro a251 w251 ⟨_, ⟨nv251, rfl, hs251⟩, hf251⟩
     have hm251 : (nl ++ [(⟨2, 0, (atT X i), y69.t, (⟨.slice none 0 0, []⟩ : Ls Int)⟩ : NdL)]).length = nl.length + 1 := (by simp only [lens9])
     have h251 : St _ K W a251 w251 _ [_, _, _] := ⟨hf251, h249.sh.backI (Lp := [_, _, _, _]) hs251⟩
     clear hf251 hs251 h249 hp250
     refine gG h251<|gRn (oM 1 rfl<|.nl)<|nK k245<|gR<|fun a252 w252 h252 => x_ret1 (fn := Tryz.f20) (t := 2) rfl h252 rfl <| .inr ⟨5, (atT X (((i + 1) + 1) + 1)), dz244, ((nl.length : Nat) : Int), nv251, (nl ++ [(⟨2, 0, (atT X i), y69.t, (⟨.slice none 0 0, []⟩ : Ls Int)⟩ : NdL)]), ?_, hcn239, rfl, (by first | omega | (simp only [lens9] at *; omega)), h252.sh⟩; clear h251
     exact (by simp only [stepP, andP, ne_lock, isL2, ↓reduceIte, Bool.false_eq_true, eq_self, Nat.add_sub_cancel, List.cons_append, List.nil_append, Bool.or_false, Bool.or_true, Bool.true_or, Bool.false_or, Bool.or_self, ne_3345, globP, badP, hr64, hr69, hr80, hc60, hya65, hc76, hc171, hc236])
    exact absurd (hr80.symm.trans (take_ok (by assumption))) (by simp)
   have hc253 : isT X ((i + 1) + 1) ({ data := #[61] }) = false := (by assumption)
   refine gS<|hK k73<|sK fun _ k254 => gRn (oM 1 rfl<|.nl)<|fun a255 w255 h255 => ?_
   have hp256 := h255.sh.passL (Lp := [_, _, _])
   refine wl_ex (x_call h255 bd_22 rfl rfl rfl rfl rfl (dTake_c _ _ X tv nv ((i + 1) + 1) d nl _ hp256 hTl ({ data := #[59] }))) (wanted_none rfl _) ?_
   rintro a257 w257 ⟨_, (⟨y257, hr257, hi257, rfl, hs257⟩ | ⟨c257, e257, dz257, hr257, hcn257, rfl, hs257⟩), hf257⟩
   ·skip
    have hl257 : ((i + 1) + 1) < X.T.length := hi257
    have h257 : St _ K W a257 w257 _ [_, _, _] := ⟨hf257, h255.sh.backI (Lp := [_, _, _]) hs257⟩
    clear hf257 hs257 h255 hp256
    refine gG h257<|nK k254<|sK fun _ k258 => gRn (oM 4 rfl<|oV (r_build (cs := [.int .i64 2, .int .i64 0, .int .i64 (atT X i), .string y69.t, (.slice none 0 0)]) rfl rfl (by kernel_rfl)) rfl<|.nl)<|fun a259 w259 h259 => ?_; clear h257
    have h261 := h259.nil (α := Int) 3
    clear h259
    have h262 := h261.sel (L' := [_, _, _, _]) [1, 2, 3, 0] rfl
    have hp263 := h262.sh.passL (Lp := [_, _, _, _])
    refine wl_ex (x_call h262 bd_24 rfl rfl rfl rfl rfl (dNode_c _ _ X tv nv nl (((i + 1) + 1) + 1) _ _ _ _ 2 0 (atT X i) y69.t (⟨.slice none 0 0, []⟩ : Ls Int) hp263 (by first | omega | (simp only [lens9]; omega)))) (wanted_none rfl _) ?_
    rintro a264 w264 ⟨_, ⟨nv264, rfl, hs264⟩, hf264⟩
    have hm264 : (nl ++ [(⟨2, 0, (atT X i), y69.t, (⟨.slice none 0 0, []⟩ : Ls Int)⟩ : NdL)]).length = nl.length + 1 := (by simp only [lens9])
    have hr264 : putP (⟨2, 0, (atT X i), y69.t, []⟩ : Nd) ⟨(((i + 1) + 1) + 1), d, nl.map NdL.nd⟩ = .ok (((nl.length : Nat) : Int), ⟨(((i + 1) + 1) + 1), d, (nl ++ [(⟨2, 0, (atT X i), y69.t, (⟨.slice none 0 0, []⟩ : Ls Int)⟩ : NdL)]).map NdL.nd⟩) := put_eq (x := (⟨2, 0, (atT X i), y69.t, (⟨.slice none 0 0, []⟩ : Ls Int)⟩ : NdL))
    have h264 : St _ K W a264 w264 _ [_, _, _] := ⟨hf264, h262.sh.backI (Lp := [_, _, _, _]) hs264⟩
    clear hf264 hs264 h262 hp263
    refine gG h264<|gRn (oM 1 rfl<|.nl)<|nK k258<|gF [2] rfl<|gR<|fun a265 w265 h265 => x_ret1 (fn := Tryz.f20) (t := 2) rfl h265 rfl <| .inl ⟨((nl.length : Nat) : Int), (((i + 1) + 1) + 1), nv264, (nl ++ [(⟨2, 0, (atT X i), y69.t, (⟨.slice none 0 0, []⟩ : Ls Int)⟩ : NdL)]), ?_, rfl, h265.sh⟩; clear h264
    exact (by simp only [stepP, andP, ne_lock, isL2, ↓reduceIte, Bool.false_eq_true, eq_self, Nat.add_sub_cancel, List.cons_append, List.nil_append, Bool.or_false, Bool.or_true, Bool.true_or, Bool.false_or, Bool.or_self, ne_3345, globP, badP, hr64, hr69, hr257, hr264, hc60, hya65, hc253])
   have h257 : St _ K W a257 w257 _ [_, _, _] := ⟨hf257, h255.sh.backI (Lp := [_, _, _]) hs257⟩
   clear hf257 hs257 h255 hp256
   refine gG h257<|nK k254<|sK fun _ k266 => gRn (oM 4 rfl<|oV (r_build (cs := [.int .i64 2, .int .i64 0, .int .i64 (atT X i), .string y69.t, (.slice none 0 0)]) rfl rfl (by kernel_rfl)) rfl<|.nl)<|fun a267 w267 h267 => ?_; clear h257
   have h269 := h267.nil (α := Int) 3
   clear h267
   have h270 := h269.sel (L' := [_, _, _, _]) [1, 2, 3, 0] rfl
   have hp271 := h270.sh.passL (Lp := [_, _, _, _])
   refine wl_ex (x_call h270 bd_24 rfl rfl rfl rfl rfl (dNode_c _ _ X tv nv nl X.T.length _ _ _ _ 2 0 (atT X i) y69.t (⟨.slice none 0 0, []⟩ : Ls Int) hp271 (by first | omega | (simp only [lens9]; omega)))) (wanted_none rfl _) ?_
   rintro a272 w272 ⟨_, ⟨nv272, rfl, hs272⟩, hf272⟩
   have hm272 : (nl ++ [(⟨2, 0, (atT X i), y69.t, (⟨.slice none 0 0, []⟩ : Ls Int)⟩ : NdL)]).length = nl.length + 1 := (by simp only [lens9])
   have h272 : St _ K W a272 w272 _ [_, _, _] := ⟨hf272, h270.sh.backI (Lp := [_, _, _, _]) hs272⟩
   clear hf272 hs272 h270 hp271
   refine gG h272<|gRn (oM 1 rfl<|.nl)<|nK k266<|gF [2] rfl<|gR<|fun a273 w273 h273 => x_ret1 (fn := Tryz.f20) (t := 2) rfl h273 rfl <| .inr ⟨c257, e257, dz257, ((nl.length : Nat) : Int), nv272, (nl ++ [(⟨2, 0, (atT X i), y69.t, (⟨.slice none 0 0, []⟩ : Ls Int)⟩ : NdL)]), ?_, hcn257, rfl, (by first | omega | (simp only [lens9] at *; omega)), h273.sh⟩; clear h272
   exact (by simp only [stepP, andP, ne_lock, isL2, ↓reduceIte, Bool.false_eq_true, eq_self, Nat.add_sub_cancel, List.cons_append, List.nil_append, Bool.or_false, Bool.or_true, Bool.true_or, Bool.false_or, Bool.or_self, ne_3345, globP, badP, hr64, hr69, hr257, hc60, hya65, hc253])
  have h69 : St _ K W a69 w69 _ [_, _, _] := ⟨hf69, h67.sh.backI (Lp := [_, _, _]) hs69⟩
  clear hf69 hs69 h67 hp68
  refine gG h69<|gRn (oM 1 rfl<|.nl)<|nK k66<|sG (oM 1 rfl<|.nl)<|sK fun _ k275 => gRn (oM 1 rfl<|.nl)<|gP (fun _ _ h_ => xCl h_ bd_19 rfl (dIs_c g _ _ _ _ _ _ _ X.T.length _ (h_.sh.blk 0 rfl) (h_.sh.own 2 rfl) ({ data := #[61] }))) rfl<|gRn (oM 1 rfl<|.nl)<|nK k275<|gK fun _ k277 => sG (oM 1 rfl<|.nl)<|gcF rfl isT_len1<|gS<|hK k277<|sK fun _ k279 => gRn (oM 1 rfl<|.nl)<|fun a280 w280 h280 => ?_; clear h69
  have hp281 := h280.sh.passL (Lp := [_, _, _])
  refine wl_ex (x_call h280 bd_22 rfl rfl rfl rfl rfl (dTake_b _ _ X tv nv nl dz69 c69 e69 _ hp281 hTl hcn69 ({ data := #[59] }))) (wanted_none rfl _) ?_
  rintro a282 w282 ⟨_, ⟨dz282, rfl, hs282⟩, hf282⟩
  have h282 : St _ K W a282 w282 _ [_, _, _] := ⟨hf282, h280.sh.backI (Lp := [_, _, _]) hs282⟩
  clear hf282 hs282 h280 hp281
  refine gG h282<|nK k279<|sK fun _ k283 => gRn (oM 4 rfl<|oV (r_build (cs := [.int .i64 2, .int .i64 0, .int .i64 (atT X i), .string ({ data := #[] }), (.slice none 0 0)]) rfl rfl (by kernel_rfl)) rfl<|.nl)<|fun a284 w284 h284 => ?_; clear h282
  have h286 := h284.nil (α := Int) 3
  clear h284
  have h287 := h286.sel (L' := [_, _, _, _]) [1, 2, 3, 0] rfl
  have hp288 := h287.sh.passL (Lp := [_, _, _, _])
  refine wl_ex (x_call h287 bd_24 rfl rfl rfl rfl rfl (dNode_c _ _ X tv nv nl X.T.length _ _ _ _ 2 0 (atT X i) ({ data := #[] }) (⟨.slice none 0 0, []⟩ : Ls Int) hp288 (by first | omega | (simp only [lens9]; omega)))) (wanted_none rfl _) ?_
  rintro a289 w289 ⟨_, ⟨nv289, rfl, hs289⟩, hf289⟩
  have hm289 : (nl ++ [(⟨2, 0, (atT X i), { data := #[] }, (⟨.slice none 0 0, []⟩ : Ls Int)⟩ : NdL)]).length = nl.length + 1 := (by simp only [lens9])
  have h289 : St _ K W a289 w289 _ [_, _, _] := ⟨hf289, h287.sh.backI (Lp := [_, _, _, _]) hs289⟩
  clear hf289 hs289 h287 hp288
  refine gG h289<|gRn (oM 1 rfl<|.nl)<|nK k283<|gF [2] rfl<|gR<|fun a290 w290 h290 => x_ret1 (fn := Tryz.f20) (t := 2) rfl h290 rfl <| .inr ⟨c69, e69, dz282, ((nl.length : Nat) : Int), nv289, (nl ++ [(⟨2, 0, (atT X i), { data := #[] }, (⟨.slice none 0 0, []⟩ : Ls Int)⟩ : NdL)]), ?_, hcn69, rfl, (by first | omega | (simp only [lens9] at *; omega)), h290.sh⟩; clear h289
  exact (by simp only [stepP, andP, ne_lock, isL2, ↓reduceIte, Bool.false_eq_true, eq_self, Nat.add_sub_cancel, List.cons_append, List.nil_append, Bool.or_false, Bool.or_true, Bool.true_or, Bool.false_or, Bool.or_self, ne_3345, globP, badP, hr64, hr69, hc60, hya65])
 have h64 : St _ K W a64 w64 _ [_, _, _] := ⟨hf64, h62.sh.backI (Lp := [_, _, _]) hs64⟩
 clear hf64 hs64 h62 hp63
 refine gG h64<|nK k61<|sK fun _ k292 => gRn (oM 1 rfl<|.nl)<|fun a293 w293 h293 => ?_; clear h64
 have hp294 := h293.sh.passL (Lp := [_, _, _])
 refine wl_ex (x_call h293 bd_41 rfl rfl rfl rfl rfl (dName_b _ _ X tv nv nl dz64 c64 e64 _ hp294 hTl hcn64)) (wanted_none rfl _) ?_
 rintro a295 w295 ⟨_, ⟨dz295, rfl, hs295⟩, hf295⟩
 have h295 : St _ K W a295 w295 _ [_, _, _] := ⟨hf295, h293.sh.backI (Lp := [_, _, _]) hs295⟩
 clear hf295 hs295 h293 hp294
 refine gG h295<|gRn (oM 1 rfl<|.nl)<|nK k292<|sG (oM 1 rfl<|.nl)<|sK fun _ k297 => gRn (oM 1 rfl<|.nl)<|gP (fun _ _ h_ => xCl h_ bd_19 rfl (dIs_c g _ _ _ _ _ _ _ X.T.length _ (h_.sh.blk 0 rfl) (h_.sh.own 2 rfl) ({ data := #[61] }))) rfl<|gRn (oM 1 rfl<|.nl)<|nK k297<|gK fun _ k299 => sG (oM 1 rfl<|.nl)<|gcF rfl isT_len1<|gS<|hK k299<|sK fun _ k301 => gRn (oM 1 rfl<|.nl)<|fun a302 w302 h302 => ?_; clear h295
 have hp303 := h302.sh.passL (Lp := [_, _, _])
 refine wl_ex (x_call h302 bd_22 rfl rfl rfl rfl rfl (dTake_b _ _ X tv nv nl dz295 c64 e64 _ hp303 hTl hcn64 ({ data := #[59] }))) (wanted_none rfl _) ?_
 rintro a304 w304 ⟨_, ⟨dz304, rfl, hs304⟩, hf304⟩
 have h304 : St _ K W a304 w304 _ [_, _, _] := ⟨hf304, h302.sh.backI (Lp := [_, _, _]) hs304⟩
 clear hf304 hs304 h302 hp303
 refine gG h304<|nK k301<|sK fun _ k305 => gRn (oM 4 rfl<|oV (r_build (cs := [.int .i64 2, .int .i64 0, .int .i64 (atT X i), .string ({ data := #[] }), (.slice none 0 0)]) rfl rfl (by kernel_rfl)) rfl<|.nl)<|fun a306 w306 h306 => ?_; clear h304
 have h308 := h306.nil (α := Int) 3
 clear h306
 have h309 := h308.sel (L' := [_, _, _, _]) [1, 2, 3, 0] rfl
 have hp310 := h309.sh.passL (Lp := [_, _, _, _])
 refine wl_ex (x_call h309 bd_24 rfl rfl rfl rfl rfl (dNode_c _ _ X tv nv nl X.T.length _ _ _ _ 2 0 (atT X i) ({ data := #[] }) (⟨.slice none 0 0, []⟩ : Ls Int) hp310 (by first | omega | (simp only [lens9]; omega)))) (wanted_none rfl _) ?_
 rintro a311 w311 ⟨_, ⟨nv311, rfl, hs311⟩, hf311⟩
 have hm311 : (nl ++ [(⟨2, 0, (atT X i), { data := #[] }, (⟨.slice none 0 0, []⟩ : Ls Int)⟩ : NdL)]).length = nl.length + 1 := (by simp only [lens9])
 have h311 : St _ K W a311 w311 _ [_, _, _] := ⟨hf311, h309.sh.backI (Lp := [_, _, _, _]) hs311⟩
 clear hf311 hs311 h309 hp310
 refine gG h311<|gRn (oM 1 rfl<|.nl)<|nK k305<|gF [2] rfl<|gR<|fun a312 w312 h312 => x_ret1 (fn := Tryz.f20) (t := 2) rfl h312 rfl <| .inr ⟨c64, e64, dz304, ((nl.length : Nat) : Int), nv311, (nl ++ [(⟨2, 0, (atT X i), { data := #[] }, (⟨.slice none 0 0, []⟩ : Ls Int)⟩ : NdL)]), ?_, hcn64, rfl, (by first | omega | (simp only [lens9] at *; omega)), h312.sh⟩; clear h311
 exact (by simp only [stepP, andP, ne_lock, isL2, ↓reduceIte, Bool.false_eq_true, eq_self, Nat.add_sub_cancel, List.cons_append, List.nil_append, Bool.or_false, Bool.or_true, Bool.true_or, Bool.false_or, Bool.or_self, ne_3345, globP, badP, hr64, hc60])

theorem dParse_c (s : ByteArray) (W : World) :
    Rets Tryz.prog 8 [.string s] W (fun v w' => ∃ (u : Ls NdL) (c a : Int), v = .tuple #[u.v, .agg #[.int .i64 c, .int .i64 0, .int .i64 a]] ∧ (u.l.map NdL.nd, c, a) = parseR s ∧ Sh0 W w' [.deep 57 u]) := by
 refine gen Tryz.func8 Tryz.ntmps8 (Sh0.start W : Sh (fun _ => False) W W []) rfl fun a10 h10 => gG h10<|sK fun _ k11 => gRn (oM 1 rfl<|.nl)<|gal ti_25 rfl fun b12 => nK k11<|sK fun _ k13 => gRn (oM 1 rfl<|.nl)<|gC (fun _ _ h_ => xCl h_ bd_18 rfl (rScan_c s _)) rfl<|?_; clear h10
 rintro _ _ w14 ⟨⟨tv, tl⟩, c14, i14, rfl, hu14, hs14⟩
 refine gWk hs14 rfl<|gU<|gRn (oM 1 rfl<|oxt rfl<|oxt rfl<|.nl)<|gal ti_25 rfl fun b15 => gRn (oM 1 rfl<|.nl)<|gsw 0 ti_25 rfl rfl rfl<|nK k13<|gK fun _ k17 => sG (ofB fl_25_0 rfl<|olB 0 ti_23 rfl rfl<|oneI _ _ rfl<|.nl)<|?_; clear hs14
 refine gcd rfl (fun hb19 hp19 => ?_) fun hb19 hp19 => ?_
 ·skip
  refine gK fun _ k20 => rT 2 [] (olw 0 ti_25 rfl rfl<|oM 1 rfl<|.nl)<|gsw 2 ti_25 rfl rfl rfl<|nK k20<|gR<|uT<|fun a22 w22 h22 => x_rettc (fn := Tryz.f8) (t := 3) (u := 2) (i := 2) ti_25 rfl h22 rfl rfl rfl rfl ?_
  have hn9 := h22.sh.nilDeep (α := NdL) 57
  refine ⟨⟨.slice none 0 0, []⟩, c14, ((i14 : Nat) : Int), rfl, ?_, hn9.sel [0] rfl⟩
  exact (parseR_scan hu14 (by assumption)).symm
 have hc9 : c14 = 0 := (by omega)
 have hu9 : (tl, (0 : Int), i14) = scanR s := hc9 ▸ hu14
 have hpr9 := scanR_props hu9.symm
 obtain ⟨X, hXT, hXe⟩ : ∃ X : TE, tl = X.T ∧ ((s.size : Nat) : Int) = X.e := ⟨⟨tl, s.size⟩, rfl, rfl⟩
 subst hXT
 have hX9 : (⟨X.T, ((s.size : Nat) : Int)⟩ : TE) = X := (by rw [hXe])
 have hTl := hpr9.2.2.1
 have hTo : ∀ q, q < X.T.length → TokOK (nth X.T q) := fun q hq => hpr9.2.2.2 _ (nth_mem _ _ hq)
 have ih : ∀ f', f' ≤ 20 * (X.T.length + 1) → AllD X f' := fun f' _ => allD X hTo f'
 refine gS<|hK k17<|sK fun _ k23 => gRn (oM 2 rfl<|oV (r_lenStr (s := s) Tryz.underlying9 rfl rfl) rfl<|oV (r_buildS (cs := [tv, .int .i64 ((s.size : Nat) : Int), .int .i64 0, .int .i64 0, (.slice none 0 0), .int .i64 0, .int .i64 0, .int .i64 0]) rfl rfl (fun w h => by obtain ⟨A24, n24, c24, (e24 : tv = _)⟩ := ((h.own 1 rfl)).form; rw [e24]; kernel_rfl)) rfl<|.nl)<|gbx rfl rfl fun b25 => gRn (oM 1 rfl<|.nl)<|nK k23<|fun a26 w26 h26 => ?_
 have h27 : St _ (fun _ => False) _ _ _ _ [.blk b25 52 [tv, .int .i64 X.e, .int .i64 0, .int .i64 0, (.slice none 0 0), .int .i64 0, .int .i64 0, .int .i64 0], .blk b15 25 [.int .i64 c14, .int .i64 0, .int .i64 ((i14 : Nat) : Int)], .own 81 (⟨tv, X.T⟩ : Ls Tok), .blk b12 25 [.int .i64 0, .int .i64 0, .int .i64 0]] := ⟨h26.fr, (by rw [← hXe]; exact h26.sh)⟩
 clear h26
 have h28 := h27.nilDeep (α := NdL) 57; clear h27
 refine gG h28<|sG (oM 1 rfl<|.nl)<|gK fun _ k30 => gB<|fun a33 w33 h33 => ?_; clear h28
 have h32 := h33.nil (α := Int) 3
 clear h33
 refine x_loop (fun m a w => (∃ (fq2 : Nat) (kv2 : Value) (kl2 : List Int) (i2 : Nat) (nv2 : Value) (nl2 : List NdL), (X.T.length - i2 < fq2 ∧ i2 ≤ X.T.length ∧ nl2.length ≤ 2 * i2 ∧ kl2.length ≤ i2) ∧ (progP X = andP (globsP X fq2 kl2 ⟨i2, 0, nl2.map NdL.nd⟩) (restG X)) ∧ St 123 (fun _ => False) W a w [(0, .string s), (3, .pointer (some ⟨b12, 0, none⟩)), (6, .pointer (some ⟨b25, 0, none⟩)), (7, kv2)] [.deep 57 (⟨nv2, nl2⟩ : Ls NdL), .blk b25 52 [tv, .int .i64 X.e, .int .i64 ((i2 : Nat) : Int), .int .i64 0, nv2, .int .i64 0, .int .i64 0, .int .i64 0], .own 81 (⟨tv, X.T⟩ : Ls Tok), .blk b12 25 [.int .i64 0, .int .i64 0, .int .i64 0], .own 3 (⟨kv2, kl2⟩ : Ls Int)] ∧ m = fq2) ∨ (∃ (cb2 eab2 dzb2 : Int) (nvb2 : Value) (nlb2 : List NdL) (kvb2 : Value) (klb2 : List Int), (progP X = .error (cb2, eab2)) ∧ (¬ cb2 = 0) ∧ (nlb2.length ≤ 1000000) ∧ (klb2.length ≤ 5000) ∧ St 123 (fun _ => False) W a w [(0, .string s), (3, .pointer (some ⟨b12, 0, none⟩)), (6, .pointer (some ⟨b25, 0, none⟩)), (7, kvb2)] [.deep 57 (⟨nvb2, nlb2⟩ : Ls NdL), .blk b25 52 [tv, .int .i64 X.e, .int .i64 ((X.T.length : Nat) : Int), .int .i64 dzb2, nvb2, .int .i64 cb2, .int .i64 0, .int .i64 eab2], .own 81 (⟨tv, X.T⟩ : Ls Tok), .blk b12 25 [.int .i64 0, .int .i64 0, .int .i64 0], .own 3 (⟨kvb2, klb2⟩ : Ls Int)] ∧ m = 0)) ⟨_, Or.inl ⟨(X.T.length + 1), _, _, 0, (.slice none 0 0), [], (⟨by omega, by omega, by simp only [List.length_nil]; omega, by simp only [List.length_nil]; omega⟩), (rfl), h32.nrm ⟨rfl, rfl, rfl, rfl, trivial⟩ [1, 2, 4, 5, 0] rfl, rfl⟩⟩ ?_
 clear h32
 rintro m31 a31 w31 (⟨fq2, kv2, kl2, i2, nv2, nl2, hk2, hrel2, h31, hm31⟩ | ⟨cb2, eab2, dzb2, nvb2, nlb2, kvb2, klb2, hrelb2, hcnb2, hqb2, hklb2, h31, hm31⟩)
 ·skip
  obtain ⟨fz2, rfl⟩ : ∃ fz2, fq2 = fz2 + 1 := ⟨fq2 - 1, by omega⟩
  refine gG h31<|gK fun _ k34 => sG (oM 1 rfl<|onf fl_52_5 rfl<|oV (r_fieldB (r := 5) fl_25_0 rfl rfl rfl) rfl<|olB 1 ti_23 rfl rfl<|oeqN 0 0 rfl<|.nl)<|gcT rfl (by decide)<|gS<|hK k34<|gB<|sK fun _ k36 => gRn (oM 1 rfl<|.nl)<|gP (fun _ _ h_ => xCl h_ bd_19 rfl (dIs_c b25 _ _ _ _ _ _ _ i2 _ (h_.sh.blk 1 rfl) (h_.sh.own 2 rfl) ({ data := #[105, 110, 116] }))) rfl<|gRn (oM 1 rfl<|.nl)<|nK k36<|sK fun _ k38 => gRn (oM 1 rfl<|.nl)<|gP (fun _ _ h_ => xCl h_ bd_19 rfl (dIs_c b25 _ _ _ _ _ _ _ i2 _ (h_.sh.blk 1 rfl) (h_.sh.own 2 rfl) ({ data := #[108, 111, 99, 107] }))) rfl<|gRn (oM 1 rfl<|.nl)<|nK k38<|gK fun _ k40 => sK fun _ k41 => gRn (oM 1 rfl<|ont rfl<|oM 1 rfl<|.nl)<|?_; clear h31
  rcases Bool.eq_false_or_eq_true (!(isT X i2 ({ data := #[105, 110, 116] }))) with hb42 | hb42
  ·have hn42 : isT X i2 ({ data := #[105, 110, 116] }) = false := (Bool.not_eq_true' _).mp hb42
   refine gRn (oG hb42 (r_move rfl rfl) rfl<|oG hb42 (r_not rfl rfl) rfl<|opT hb42 rfl<|.nl)<|nK k41<|gCb rfl (fun hb43 => ?_) fun hb43 => ?_
   ·have hn43 : isT X i2 ({ data := #[108, 111, 99, 107] }) = false := (Bool.not_eq_true' _).mp hb43
    have hc44 : isT X i2 ({ data := #[105, 110, 116] }) = false := (by assumption)
    have hc45 : isT X i2 ({ data := #[105, 110, 116] }) = false := (by assumption)
    have hc46 : isT X i2 ({ data := #[108, 111, 99, 107] }) = false := (by assumption)
    have hc47 : isT X i2 ({ data := #[108, 111, 99, 107] }) = false := (by assumption)
    refine gX<|hK k30<|gK fun _ k48 => gB<|fun a50 w50 h50 => x_loop (fun m a w => (∃ (fq3 : Nat) (kv3 : Value) (kl3 : List Int) (i3 : Nat) (nv3 : Value) (nl3 : List NdL), (X.T.length - i3 < fq3 ∧ i3 ≤ X.T.length ∧ nl3.length ≤ 2 * i3 ∧ kl3.length ≤ i3) ∧ (progP X = andP (thrsP X fq3 kl3 ⟨i3, 0, nl3.map NdL.nd⟩) (restT)) ∧ St 123 (fun _ => False) W a w [(0, .string s), (3, .pointer (some ⟨b12, 0, none⟩)), (6, .pointer (some ⟨b25, 0, none⟩)), (7, kv3)] [.deep 57 (⟨nv3, nl3⟩ : Ls NdL), .blk b25 52 [tv, .int .i64 X.e, .int .i64 ((i3 : Nat) : Int), .int .i64 0, nv3, .int .i64 0, .int .i64 0, .int .i64 0], .own 81 (⟨tv, X.T⟩ : Ls Tok), .blk b12 25 [.int .i64 0, .int .i64 0, .int .i64 0], .own 3 (⟨kv3, kl3⟩ : Ls Int)] ∧ m = fq3) ∨ (∃ (cb3 eab3 dzb3 : Int) (nvb3 : Value) (nlb3 : List NdL) (kvb3 : Value) (klb3 : List Int), (progP X = .error (cb3, eab3)) ∧ (¬ cb3 = 0) ∧ (nlb3.length ≤ 1000000) ∧ (klb3.length ≤ 5000) ∧ St 123 (fun _ => False) W a w [(0, .string s), (3, .pointer (some ⟨b12, 0, none⟩)), (6, .pointer (some ⟨b25, 0, none⟩)), (7, kvb3)] [.deep 57 (⟨nvb3, nlb3⟩ : Ls NdL), .blk b25 52 [tv, .int .i64 X.e, .int .i64 ((X.T.length : Nat) : Int), .int .i64 dzb3, nvb3, .int .i64 cb3, .int .i64 0, .int .i64 eab3], .own 81 (⟨tv, X.T⟩ : Ls Tok), .blk b12 25 [.int .i64 0, .int .i64 0, .int .i64 0], .own 3 (⟨kvb3, klb3⟩ : Ls Int)] ∧ m = 0)) ⟨_, Or.inl ⟨(X.T.length + 1), _, _, i2, nv2, nl2, (⟨by omega, by omega, by omega, by omega⟩), (((hrel2.trans (by simp only [stepP, andP, ne_lock, isL2, ↓reduceIte, Bool.false_eq_true, eq_self, Nat.add_sub_cancel, List.cons_append, List.nil_append, Bool.or_false, Bool.or_true, Bool.true_or, Bool.false_or, Bool.or_self, ne_3345, globsP, restG, hc44, hc45, hc46, hc47])))), h50.nf ⟨rfl, rfl, rfl, rfl, trivial⟩, rfl⟩⟩ ?_
    clear h50
    rintro m49 a49 w49 (⟨fq3, kv3, kl3, i3, nv3, nl3, hk3, hrel3, h49, hm49⟩ | ⟨cb3, eab3, dzb3, nvb3, nlb3, kvb3, klb3, hrelb3, hcnb3, hqb3, hklb3, h49, hm49⟩)
    ·skip
     obtain ⟨fz3, rfl⟩ : ∃ fz3, fq3 = fz3 + 1 := ⟨fq3 - 1, by omega⟩
     refine gG h49<|gK fun _ k51 => gK fun _ k52 => gNl (aO 2 rfl) fun (hl53 : X.T.length ≤ 140737488355328) => rQ (oM 1 rfl<|onf fl_52_5 rfl<|oV (r_fieldB (r := 5) fl_25_0 rfl rfl rfl) rfl<|olB 1 ti_23 rfl rfl<|oeqN 0 0 rfl<|oM 1 rfl<|oG (by decide) (r_move rfl rfl) rfl<|oG (by decide) (r_nil rfl rfl) rfl<|oG (by decide) (r_fieldB (r := 2) fl_52_2 rfl rfl rfl) rfl<|oG (by decide) (r_ldb (i := 1) ti_3 rfl rfl rfl rfl) rfl<|oG (by decide) (r_move rfl rfl) rfl<|oG (by decide) (r_nil rfl rfl) rfl<|oG (by decide) (r_fieldB (r := 0) fl_52_0 rfl rfl rfl) rfl<|oG (by decide) (r_ldb (i := 1) ti_42 rfl rfl rfl rfl) rfl<|oG (by decide) (r_len (s := (⟨tv, X.T⟩ : Ls Tok)) (n := X.T.length) sl_42 rfl rfl (fun w h => (h.own 2 rfl)) rfl) rfl<|oG (by decide) (r_lssN (p := i3) (q := X.T.length) rfl rfl rfl) rfl<|opT (by decide) rfl<|.nl)<|hK k52<|?_; clear h49
     refine gcd rfl (fun hb54 hp54 => ?_) fun hb54 hp54 => ?_
     ·skip
      have hc55 : isT X i2 ({ data := #[105, 110, 116] }) = false := (by assumption)
      have hc56 : isT X i2 ({ data := #[105, 110, 116] }) = false := (by assumption)
      have hc57 : isT X i2 ({ data := #[108, 111, 99, 107] }) = false := (by assumption)
      have hc58 : isT X i2 ({ data := #[108, 111, 99, 107] }) = false := (by assumption)
      have hc59 : i3 < X.T.length := (by assumption)
      refine gS<|hK k51<|gB<|sK fun _ k60 => gRn (oM 1 rfl<|.nl)<|gP (fun _ _ h_ => xCl h_ bd_21 rfl (dAt_c b25 _ _ _ _ _ _ _ i3 _ (h_.sh.blk 1 rfl) (h_.sh.own 2 rfl))) rfl<|gRn (oM 1 rfl<|.nl)<|nK k60<|sK fun _ k62 => gRn (oM 1 rfl<|.nl)<|fun a63 w63 h63 => ?_
      have h64 := h63.sel (L' := [_, _, _, _, _]) [1, 0, 2, 3, 4] rfl
      have hp65 := h64.sh.passL (Lp := [_, _, _])
      refine wl_ex (x_call h64 bd_22 rfl rfl rfl rfl rfl (dTake_c _ _ X tv nv3 i3 0 nl3 _ hp65 hTl ({ data := #[116, 104, 114, 101, 97, 100] }))) (wanted_none rfl _) ?_
      rintro a66 w66 ⟨_, (⟨y66, hr66, hi66, rfl, hs66⟩ | ⟨c66, e66, dz66, hr66, hcn66, rfl, hs66⟩), hf66⟩
      ·skip
       have hl66 : i3 < X.T.length := hi66
       have h66 : St _ (fun _ => False) W a66 w66 _ [_, _, _, _, _] := ⟨hf66, h64.sh.backI (Lp := [_, _, _]) hs66⟩
       clear hf66 hs66 h64 hp65
       refine gG h66<|nK k62<|?_; clear h66
       have hya67 := taken_at hr66
       refine sK fun _ k68 => gRn (oM 1 rfl<|.nl)<|fun a69 w69 h69 => ?_
       have hp70 := h69.sh.passL (Lp := [_, _, _])
       refine wl_ex (x_call h69 bd_23 rfl rfl rfl rfl rfl ((ih (20 * (X.T.length + 1)) (by omega)).bl _ _ tv nv3 (i3 + 1) 0 nl3 _ hp70 hTl (by omega) (by omega) (by first | omega | (simp only [lens9] at *; omega)) (by omega) (show 20 * (X.T.length - (i3 + 1)) + 1 ≤ 20 * (X.T.length + 1) by omega))) (wanted_none rfl _) ?_
       rintro a71 w71 ⟨_, (⟨y71, i71, nv71, nl71, hr71, rfl, hs71⟩ | ⟨c71, e71, dz71, y71, nv71, nl71, hr71, hcn71, rfl, hq971, hs71⟩), hf71⟩
       ·skip
        have hv71 := adv_parse (X := X) (20 * (X.T.length + 1)) .block ⟨(i3 + 1), 0, nl3.map NdL.nd⟩ (fun h => by cases h) _ _ hr71; simp only [minT, dT, qT, List.length_map] at hv71
        have h71 : St _ (fun _ => False) W a71 w71 _ [_, _, _, _, _] := ⟨hf71, h69.sh.backI (Lp := [_, _, _]) hs71⟩
        clear hf71 hs71 h69 hp70
        refine gG h71<|gRn (oM 1 rfl<|.nl)<|nK k68<|gF [0, 3, 6, 7, 11, 12] rfl<|sK fun _ k72 => gRn (oM 3 rfl<|.nl)<|gE1 (fun _ _ h_ => x_lit (n := 1) (cs := [.int .i64 y71]) ([y71] : List Int) h_ sl_30 ti_3 rfl rfl rfl (by decide) rfl (by kernel_rfl) rfl (fun q hq w h => Flat.inner _ _) (fun q hq b hb => (Flat.on _ _ hb).elim) rfl rfl) rfl fun v73 => gRn (oV (r_buildS (cs := [.int .i64 4, .int .i64 0, .int .i64 (atT X i3), .string (⟨#[]⟩), v73]) rfl rfl (fun w h => by obtain ⟨A74, n74, c74, (e74 : v73 = _)⟩ := ((h.own 0 rfl)).form; rw [e74]; kernel_rfl)) rfl<|.nl)<|fun a75 w75 h75 => ?_; clear h71
        have h76 := h75.sel (L' := [_, _, _, _, _, _]) [1, 2, 3, 0, 4, 5] rfl
        have hp77 := h76.sh.passL (Lp := [_, _, _, _])
        refine wl_ex (x_call h76 bd_24 rfl rfl rfl rfl rfl (dNode_c _ _ X tv nv71 nl71 i71 _ _ _ _ 4 0 (atT X i3) (⟨#[]⟩) (⟨v73, [y71]⟩ : Ls Int) hp77 (by first | omega | (simp only [lens9]; omega)))) (wanted_none rfl _) ?_
        rintro a78 w78 ⟨_, ⟨nv78, rfl, hs78⟩, hf78⟩
        have hm78 : (nl71 ++ [(⟨4, 0, (atT X i3), ⟨#[]⟩, (⟨v73, [y71]⟩ : Ls Int)⟩ : NdL)]).length = nl71.length + 1 := (by simp only [lens9])
        have hr78 : putP (⟨4, 0, (atT X i3), ⟨#[]⟩, [y71]⟩ : Nd) ⟨i71, 0, nl71.map NdL.nd⟩ = .ok (((nl71.length : Nat) : Int), ⟨i71, 0, (nl71 ++ [(⟨4, 0, (atT X i3), ⟨#[]⟩, (⟨v73, [y71]⟩ : Ls Int)⟩ : NdL)]).map NdL.nd⟩) := put_eq (x := (⟨4, 0, (atT X i3), ⟨#[]⟩, (⟨v73, [y71]⟩ : Ls Int)⟩ : NdL))
        have h78 : St _ (fun _ => False) W a78 w78 _ [_, _, _, _, _] := ⟨hf78, h76.sh.backI (Lp := [_, _, _, _]) hs78⟩
        clear hf78 hs78 h76 hp77
        refine gG h78<|gRn (oM 1 rfl<|.nl)<|nK k72<|gL<|gRn (oM 2 rfl<|.nl)<|gE1 (fun _ _ h_ => x_lit (n := 1) (cs := [.int .i64 ((nl71.length : Nat) : Int)]) ([((nl71.length : Nat) : Int)] : List Int) h_ sl_30 ti_3 rfl rfl rfl (by decide) rfl (by kernel_rfl) rfl (fun q hq w h => Flat.inner _ _) (fun q hq b hb => (Flat.on _ _ hb).elim) rfl rfl) rfl fun v79 => gE1 (fun _ _ h_ => x_app (r := 5) (rm := 0) (s := (⟨kv3, kl3⟩ : Ls Int)) (m := (⟨v79, [((nl71.length : Nat) : Int)]⟩ : Ls Int)) h_ sl_30 ti_3 rfl rfl rfl rfl rfl rfl rfl (fun w h => (h.own 0 rfl)) (fun b hb => own_on (h_.sh.ok _ (List.mem_of_getElem? (i := 0) rfl)) hb) (fun q hq b hb => ⟨q, hq, hb⟩) rfl rfl rfl inferInstance (show (kl3.length + ([((nl71.length : Nat) : Int)]).length) * 8 ≤ 140737488355328 ∧ kl3.length + ([((nl71.length : Nat) : Int)]).length ≤ 140737488355328 from om9) rfl rfl) rfl fun v80 => gRn (oM 1 rfl<|.nl)<|nN<|fun a81 w81 h81 => ?_; clear h78
        change ∃ _m, _m < _ ∧ _
        refine ⟨_, ?_, Or.inl ⟨fz3, _, _, i71, nv78, (nl71 ++ [(⟨4, 0, (atT X i3), ⟨#[]⟩, (⟨v73, [y71]⟩ : Ls Int)⟩ : NdL)]), ?_, ?_, h81.nrm ⟨rfl, rfl, rfl, rfl, trivial⟩ [2, 1, 3, 4, 5] rfl, rfl⟩⟩
        · rw [hm49]; first | omega | (simp only [lens9]; omega)
        · refine ⟨by omega, by omega, by first | omega | (simp only [lens9]; omega), by simp only [lens9]; omega⟩
        · exact (hrel3.trans (by simp only [stepP, andP, ne_lock, isL2, ↓reduceIte, Bool.false_eq_true, eq_self, Nat.add_sub_cancel, List.cons_append, List.nil_append, Bool.or_false, Bool.or_true, Bool.true_or, Bool.false_or, Bool.or_self, ne_3345, thrsP, restT, hr66, hr71, hr78, hc55, hc56, hc57, hc58, hc59, hya67]))
       have hq71 : nl71.length ≤ 10000 + 10 * (20 * (X.T.length + 1)) := hq971
       have h71 : St _ (fun _ => False) W a71 w71 _ [_, _, _, _, _] := ⟨hf71, h69.sh.backI (Lp := [_, _, _]) hs71⟩
       clear hf71 hs71 h69 hp70
       refine gG h71<|gRn (oM 1 rfl<|.nl)<|nK k68<|gF [0, 3, 6, 7, 11, 12] rfl<|sK fun _ k82 => gRn (oM 3 rfl<|.nl)<|gE1 (fun _ _ h_ => x_lit (n := 1) (cs := [.int .i64 y71]) ([y71] : List Int) h_ sl_30 ti_3 rfl rfl rfl (by decide) rfl (by kernel_rfl) rfl (fun q hq w h => Flat.inner _ _) (fun q hq b hb => (Flat.on _ _ hb).elim) rfl rfl) rfl fun v83 => gRn (oV (r_buildS (cs := [.int .i64 4, .int .i64 0, .int .i64 (atT X i3), .string (⟨#[]⟩), v83]) rfl rfl (fun w h => by obtain ⟨A84, n84, c84, (e84 : v83 = _)⟩ := ((h.own 0 rfl)).form; rw [e84]; kernel_rfl)) rfl<|.nl)<|fun a85 w85 h85 => ?_; clear h71
       have h86 := h85.sel (L' := [_, _, _, _, _, _]) [1, 2, 3, 0, 4, 5] rfl
       have hp87 := h86.sh.passL (Lp := [_, _, _, _])
       refine wl_ex (x_call h86 bd_24 rfl rfl rfl rfl rfl (dNode_c _ _ X tv nv71 nl71 X.T.length _ _ _ _ 4 0 (atT X i3) (⟨#[]⟩) (⟨v83, [y71]⟩ : Ls Int) hp87 (by first | omega | (simp only [lens9]; omega)))) (wanted_none rfl _) ?_
       rintro a88 w88 ⟨_, ⟨nv88, rfl, hs88⟩, hf88⟩
       have hm88 : (nl71 ++ [(⟨4, 0, (atT X i3), ⟨#[]⟩, (⟨v83, [y71]⟩ : Ls Int)⟩ : NdL)]).length = nl71.length + 1 := (by simp only [lens9])
       have h88 : St _ (fun _ => False) W a88 w88 _ [_, _, _, _, _] := ⟨hf88, h86.sh.backI (Lp := [_, _, _, _]) hs88⟩
       clear hf88 hs88 h86 hp87
       refine gG h88<|gRn (oM 1 rfl<|.nl)<|nK k82<|gL<|gRn (oM 2 rfl<|.nl)<|gE1 (fun _ _ h_ => x_lit (n := 1) (cs := [.int .i64 ((nl71.length : Nat) : Int)]) ([((nl71.length : Nat) : Int)] : List Int) h_ sl_30 ti_3 rfl rfl rfl (by decide) rfl (by kernel_rfl) rfl (fun q hq w h => Flat.inner _ _) (fun q hq b hb => (Flat.on _ _ hb).elim) rfl rfl) rfl fun v89 => gE1 (fun _ _ h_ => x_app (r := 5) (rm := 0) (s := (⟨kv3, kl3⟩ : Ls Int)) (m := (⟨v89, [((nl71.length : Nat) : Int)]⟩ : Ls Int)) h_ sl_30 ti_3 rfl rfl rfl rfl rfl rfl rfl (fun w h => (h.own 0 rfl)) (fun b hb => own_on (h_.sh.ok _ (List.mem_of_getElem? (i := 0) rfl)) hb) (fun q hq b hb => ⟨q, hq, hb⟩) rfl rfl rfl inferInstance (show (kl3.length + ([((nl71.length : Nat) : Int)]).length) * 8 ≤ 140737488355328 ∧ kl3.length + ([((nl71.length : Nat) : Int)]).length ≤ 140737488355328 from om9) rfl rfl) rfl fun v90 => gRn (oM 1 rfl<|.nl)<|nN<|fun a91 w91 h91 => ?_; clear h88
       change ∃ _m, _m < _ ∧ _
       refine ⟨_, ?_, Or.inr ⟨c71, e71, dz71, nv88, (nl71 ++ [(⟨4, 0, (atT X i3), ⟨#[]⟩, (⟨v83, [y71]⟩ : Ls Int)⟩ : NdL)]), _, _, ?_, ?_, ?_, ?_, h91.nrm ⟨rfl, rfl, rfl, rfl, trivial⟩ [2, 1, 3, 4, 5] rfl, rfl⟩⟩
       · rw [hm49]; first | omega | (simp only [lens9]; omega)
       · exact (hrel3.trans (by simp only [stepP, andP, ne_lock, isL2, ↓reduceIte, Bool.false_eq_true, eq_self, Nat.add_sub_cancel, List.cons_append, List.nil_append, Bool.or_false, Bool.or_true, Bool.true_or, Bool.false_or, Bool.or_self, ne_3345, thrsP, restT, hr66, hr71, hc55, hc56, hc57, hc58, hc59, hya67]))
       · assumption
       · first | omega | (simp only [lens9] at *; omega)
       · simp only [lens9]; omega
      have h66 : St _ (fun _ => False) W a66 w66 _ [_, _, _, _, _] := ⟨hf66, h64.sh.backI (Lp := [_, _, _]) hs66⟩
      clear hf66 hs66 h64 hp65
      refine gG h66<|nK k62<|sK fun _ k93 => gRn (oM 1 rfl<|.nl)<|fun a94 w94 h94 => ?_; clear h66
      have hp95 := h94.sh.passL (Lp := [_, _, _])
      refine wl_ex (x_call h94 bd_23 rfl rfl rfl rfl rfl ((badBlock _) _ _ tv nv3 nl3 dz66 c66 e66 _ hp95 hTl hcn66 (by first | omega | (simp only [lens9] at *; omega)))) (wanted_none rfl _) ?_
      rintro a96 w96 ⟨_, ⟨dz96, y96, nv96, nl96, rfl, hq996, hs96⟩, hf96⟩
      have hq96 : nl96.length ≤ nl3.length + 1 := hq996
      have h96 : St _ (fun _ => False) W a96 w96 _ [_, _, _, _, _] := ⟨hf96, h94.sh.backI (Lp := [_, _, _]) hs96⟩
      clear hf96 hs96 h94 hp95
      refine gG h96<|gRn (oM 1 rfl<|.nl)<|nK k93<|gF [0, 3, 6, 7, 11, 12] rfl<|sK fun _ k97 => gRn (oM 3 rfl<|.nl)<|gE1 (fun _ _ h_ => x_lit (n := 1) (cs := [.int .i64 y96]) ([y96] : List Int) h_ sl_30 ti_3 rfl rfl rfl (by decide) rfl (by kernel_rfl) rfl (fun q hq w h => Flat.inner _ _) (fun q hq b hb => (Flat.on _ _ hb).elim) rfl rfl) rfl fun v98 => gRn (oV (r_buildS (cs := [.int .i64 4, .int .i64 0, .int .i64 (atT X i3), .string (⟨#[]⟩), v98]) rfl rfl (fun w h => by obtain ⟨A99, n99, c99, (e99 : v98 = _)⟩ := ((h.own 0 rfl)).form; rw [e99]; kernel_rfl)) rfl<|.nl)<|fun a100 w100 h100 => ?_; clear h96
      have h101 := h100.sel (L' := [_, _, _, _, _, _]) [1, 2, 3, 0, 4, 5] rfl
      have hp102 := h101.sh.passL (Lp := [_, _, _, _])
      refine wl_ex (x_call h101 bd_24 rfl rfl rfl rfl rfl (dNode_c _ _ X tv nv96 nl96 X.T.length _ _ _ _ 4 0 (atT X i3) (⟨#[]⟩) (⟨v98, [y96]⟩ : Ls Int) hp102 (by first | omega | (simp only [lens9]; omega)))) (wanted_none rfl _) ?_
      rintro a103 w103 ⟨_, ⟨nv103, rfl, hs103⟩, hf103⟩
      have hm103 : (nl96 ++ [(⟨4, 0, (atT X i3), ⟨#[]⟩, (⟨v98, [y96]⟩ : Ls Int)⟩ : NdL)]).length = nl96.length + 1 := (by simp only [lens9])
      have h103 : St _ (fun _ => False) W a103 w103 _ [_, _, _, _, _] := ⟨hf103, h101.sh.backI (Lp := [_, _, _, _]) hs103⟩
      clear hf103 hs103 h101 hp102
      refine gG h103<|gRn (oM 1 rfl<|.nl)<|nK k97<|gL<|gRn (oM 2 rfl<|.nl)<|gE1 (fun _ _ h_ => x_lit (n := 1) (cs := [.int .i64 ((nl96.length : Nat) : Int)]) ([((nl96.length : Nat) : Int)] : List Int) h_ sl_30 ti_3 rfl rfl rfl (by decide) rfl (by kernel_rfl) rfl (fun q hq w h => Flat.inner _ _) (fun q hq b hb => (Flat.on _ _ hb).elim) rfl rfl) rfl fun v104 => gE1 (fun _ _ h_ => x_app (r := 5) (rm := 0) (s := (⟨kv3, kl3⟩ : Ls Int)) (m := (⟨v104, [((nl96.length : Nat) : Int)]⟩ : Ls Int)) h_ sl_30 ti_3 rfl rfl rfl rfl rfl rfl rfl (fun w h => (h.own 0 rfl)) (fun b hb => own_on (h_.sh.ok _ (List.mem_of_getElem? (i := 0) rfl)) hb) (fun q hq b hb => ⟨q, hq, hb⟩) rfl rfl rfl inferInstance (show (kl3.length + ([((nl96.length : Nat) : Int)]).length) * 8 ≤ 140737488355328 ∧ kl3.length + ([((nl96.length : Nat) : Int)]).length ≤ 140737488355328 from om9) rfl rfl) rfl fun v105 => gRn (oM 1 rfl<|.nl)<|nN<|fun a106 w106 h106 => ?_; clear h103
      change ∃ _m, _m < _ ∧ _
      refine ⟨_, ?_, Or.inr ⟨c66, e66, dz96, nv103, (nl96 ++ [(⟨4, 0, (atT X i3), ⟨#[]⟩, (⟨v98, [y96]⟩ : Ls Int)⟩ : NdL)]), _, _, ?_, ?_, ?_, ?_, h106.nrm ⟨rfl, rfl, rfl, rfl, trivial⟩ [2, 1, 3, 4, 5] rfl, rfl⟩⟩
      · rw [hm49]; first | omega | (simp only [lens9]; omega)
      · exact (hrel3.trans (by simp only [stepP, andP, ne_lock, isL2, ↓reduceIte, Bool.false_eq_true, eq_self, Nat.add_sub_cancel, List.cons_append, List.nil_append, Bool.or_false, Bool.or_true, Bool.true_or, Bool.false_or, Bool.or_self, ne_3345, thrsP, restT, hr66, hc55, hc56, hc57, hc58, hc59]))
      · assumption
      · first | omega | (simp only [lens9] at *; omega)
      · simp only [lens9]; omega
     have hc107 : isT X i2 ({ data := #[105, 110, 116] }) = false := (by assumption)
     have hc108 : isT X i2 ({ data := #[105, 110, 116] }) = false := (by assumption)
     have hc109 : isT X i2 ({ data := #[108, 111, 99, 107] }) = false := (by assumption)
     have hc110 : isT X i2 ({ data := #[108, 111, 99, 107] }) = false := (by assumption)
     have hc111 : ¬i3 < X.T.length := (by assumption)
     refine gX<|hK k48<|sK fun _ k112 => gRn (oM 2 rfl<|oV (r_buildS (cs := [.int .i64 1, .int .i64 0, .int .i64 0, .string (⟨#[]⟩), kv3]) rfl rfl (fun w h => by obtain ⟨A113, n113, c113, (e113 : kv3 = _)⟩ := ((h.own 4 rfl)).form; rw [e113]; kernel_rfl)) rfl<|.nl)<|fun a114 w114 h114 => ?_
     have h115 := h114.sel (L' := [_, _, _, _, _]) [1, 0, 2, 4, 3] rfl
     have hp116 := h115.sh.passL (Lp := [_, _, _, _])
     refine wl_ex (x_call h115 bd_24 rfl rfl rfl rfl rfl (dNode_c _ _ X tv nv3 nl3 i3 _ _ _ _ 1 0 0 (⟨#[]⟩) (⟨kv3, kl3⟩ : Ls Int) hp116 (by first | omega | (simp only [lens9]; omega)))) (wanted_none rfl _) ?_
     rintro a117 w117 ⟨_, ⟨nv117, rfl, hs117⟩, hf117⟩
     have hm117 : (nl3 ++ [(⟨1, 0, 0, ⟨#[]⟩, (⟨kv3, kl3⟩ : Ls Int)⟩ : NdL)]).length = nl3.length + 1 := (by simp only [lens9])
     have hr117 : putP (⟨1, 0, 0, ⟨#[]⟩, kl3⟩ : Nd) ⟨i3, 0, nl3.map NdL.nd⟩ = .ok (((nl3.length : Nat) : Int), ⟨i3, 0, (nl3 ++ [(⟨1, 0, 0, ⟨#[]⟩, (⟨kv3, kl3⟩ : Ls Int)⟩ : NdL)]).map NdL.nd⟩) := put_eq (x := (⟨1, 0, 0, ⟨#[]⟩, (⟨kv3, kl3⟩ : Ls Int)⟩ : NdL))
     have h117 : St _ (fun _ => False) W a117 w117 _ [_, _, _, _] := ⟨hf117, h115.sh.backI (Lp := [_, _, _, _]) hs117⟩
     clear hf117 hs117 h115 hp116
     refine gG h117<|nK k112<|gF [0, 3, 6] rfl<|gK fun _ k118 => sG (oM 1 rfl<|onf fl_52_5 rfl<|oV (r_fieldB (r := 5) fl_25_0 rfl rfl rfl) rfl<|olB 0 ti_23 rfl rfl<|oeqN 0 0 rfl<|oM 1 rfl<|oG (by decide) (r_move rfl rfl) rfl<|oG (by decide) (r_nil rfl rfl) rfl<|oG (by decide) (r_fieldB (r := 4) fl_52_4 rfl rfl rfl) rfl<|oG (by decide) (r_ldb (i := 0) ti_22 rfl rfl rfl rfl) rfl<|oG (by decide) (r_len (s := (⟨nv117, (nl3 ++ [(⟨1, 0, 0, ⟨#[]⟩, (⟨kv3, kl3⟩ : Ls Int)⟩ : NdL)])⟩ : Ls NdL)) (n := (nl3 ++ [(⟨1, 0, 0, ⟨#[]⟩, (⟨kv3, kl3⟩ : Ls Int)⟩ : NdL)]).length) sl_22 rfl rfl (fun w h => (h.deep 1 rfl)) rfl) rfl<|oG (by decide) (r_gtrN (p := (nl3 ++ [(⟨1, 0, 0, ⟨#[]⟩, (⟨kv3, kl3⟩ : Ls Int)⟩ : NdL)]).length) (q := 600) rfl rfl rfl) rfl<|opT (by decide) rfl<|.nl)<|?_; clear h117
     refine gcd rfl (fun hb120 hp120 => ?_) fun hb120 hp120 => ?_
     ·skip
      refine gL<|gRn (oM 2 rfl<|oV (r_lenStr (s := s) Tryz.underlying9 rfl rfl) rfl<|oV (r_build (cs := [.int .i64 10, .int .i64 0, .int .i64 ((s.size : Nat) : Int)]) rfl rfl (by kernel_rfl)) rfl<|onf fl_52_5 rfl<|.nl)<|gsw 0 ti_25 rfl rfl rfl<|nK k118<|gK fun _ k122 => sG (oM 1 rfl<|onf fl_52_5 rfl<|oV (r_fieldB (r := 5) fl_25_0 rfl rfl rfl) rfl<|olB 0 ti_23 rfl rfl<|oneN 10 0 rfl<|.nl)<|gF [3, 6, 113] rfl<|gcT rfl (by decide)<|gK fun _ k124 => rT 5 [] (oM 1 rfl<|onf fl_52_5 rfl<|olw 0 ti_25 rfl rfl<|oM 1 rfl<|.nl)<|gsw 3 ti_25 rfl rfl rfl<|nK k124<|gR<|uT<|fun a126 w126 h126 => x_rettc (fn := Tryz.f8) (t := 3) (u := 2) (i := 3) ti_25 rfl h126 rfl rfl rfl rfl ?_
      have hn9 := h126.sh.nilDeep (α := NdL) 57
      refine ⟨⟨.slice none 0 0, []⟩, 10, ((s.size : Nat) : Int), rfl, ?_, hn9.sel [0] rfl⟩
      exact (parseR_full (a := ((nl3.length : Nat) : Int)) (p := ⟨i3, 0, (nl3 ++ [(⟨1, 0, 0, ⟨#[]⟩, (⟨kv3, kl3⟩ : Ls Int)⟩ : NdL)]).map NdL.nd⟩) hu9 ((congrArg progP hX9).trans (hrel3.trans (by simp only [stepP, andP, ne_lock, isL2, ↓reduceIte, Bool.false_eq_true, eq_self, Nat.add_sub_cancel, List.cons_append, List.nil_append, Bool.or_false, Bool.or_true, Bool.true_or, Bool.false_or, Bool.or_self, ne_3345, thrsP, restT, hr117, hc107, hc108, hc109, hc110, hc111]))) (by show 600 < ((nl3 ++ [(⟨1, 0, 0, ⟨#[]⟩, (⟨kv3, kl3⟩ : Ls Int)⟩ : NdL)]).map NdL.nd).length; rw [List.length_map]; omega)).symm
     refine gS<|hK k118<|gK fun _ k127 => sG (oM 1 rfl<|onf fl_52_5 rfl<|oV (r_fieldB (r := 5) fl_25_0 rfl rfl rfl) rfl<|olB 0 ti_23 rfl rfl<|oneN 0 0 rfl<|.nl)<|gcF rfl (by decide)<|gS<|hK k127<|sK fun _ k129 => gRn (oM 1 rfl<|onfl 0 fl_52_4 ti_22 rfl rfl<|oV (r_build (cs := [.int .i64 0, .int .i64 0, .int .i64 0]) rfl rfl (by kernel_rfl)) rfl<|oM 1 rfl<|.nl)<|gsw 3 ti_25 rfl rfl rfl<|nK k129<|gF [2, 3] rfl<|gR<|fun a131 w131 h131 => x_rettc (fn := Tryz.f8) (t := 3) (u := 2) (i := 3) ti_25 rfl h131 rfl rfl rfl rfl <| ⟨⟨nv117, (nl3 ++ [(⟨1, 0, 0, ⟨#[]⟩, (⟨kv3, kl3⟩ : Ls Int)⟩ : NdL)])⟩, 0, 0, rfl, ?_, (h131.sh.sel [1] rfl)⟩
     exact (parseR_ok (a := ((nl3.length : Nat) : Int)) (p := ⟨i3, 0, (nl3 ++ [(⟨1, 0, 0, ⟨#[]⟩, (⟨kv3, kl3⟩ : Ls Int)⟩ : NdL)]).map NdL.nd⟩) hu9 ((congrArg progP hX9).trans (hrel3.trans (by simp only [stepP, andP, ne_lock, isL2, ↓reduceIte, Bool.false_eq_true, eq_self, Nat.add_sub_cancel, List.cons_append, List.nil_append, Bool.or_false, Bool.or_true, Bool.true_or, Bool.false_or, Bool.or_self, ne_3345, thrsP, restT, hr117, hc107, hc108, hc109, hc110, hc111]))) (by show ¬ 600 < ((nl3 ++ [(⟨1, 0, 0, ⟨#[]⟩, (⟨kv3, kl3⟩ : Ls Int)⟩ : NdL)]).map NdL.nd).length; rw [List.length_map]; omega)).symm
    refine gG h49<|gK fun _ k132 => gK fun _ k133 => rQ (oM 1 rfl<|onf fl_52_5 rfl<|oV (r_fieldB (r := 5) fl_25_0 rfl rfl rfl) rfl<|olB 1 ti_23 rfl rfl<|oeqI _ _ rfl<|oM 1 rfl<|oK (decide_eq_false (by assumption)) rfl<|oK (decide_eq_false (by assumption)) rfl<|oK (decide_eq_false (by assumption)) rfl<|oK (decide_eq_false (by assumption)) rfl<|oK (decide_eq_false (by assumption)) rfl<|oK (decide_eq_false (by assumption)) rfl<|oK (decide_eq_false (by assumption)) rfl<|oK (decide_eq_false (by assumption)) rfl<|oK (decide_eq_false (by assumption)) rfl<|oK (decide_eq_false (by assumption)) rfl<|opF (decide_eq_false (by assumption)) rfl<|.nl)<|hK k133<|gcF rfl rfl<|?_; clear h49
    have hc134 : isT X i2 ({ data := #[105, 110, 116] }) = false := (by assumption)
    have hc135 : isT X i2 ({ data := #[105, 110, 116] }) = false := (by assumption)
    have hc136 : isT X i2 ({ data := #[108, 111, 99, 107] }) = false := (by assumption)
    have hc137 : isT X i2 ({ data := #[108, 111, 99, 107] }) = false := (by assumption)
    refine gX<|hK k48<|sK fun _ k138 => gRn (oM 2 rfl<|oV (r_buildS (cs := [.int .i64 1, .int .i64 0, .int .i64 0, .string (⟨#[]⟩), kvb3]) rfl rfl (fun w h => by obtain ⟨A139, n139, c139, (e139 : kvb3 = _)⟩ := ((h.own 4 rfl)).form; rw [e139]; kernel_rfl)) rfl<|.nl)<|fun a140 w140 h140 => ?_
    have h141 := h140.sel (L' := [_, _, _, _, _]) [1, 0, 2, 4, 3] rfl
    have hp142 := h141.sh.passL (Lp := [_, _, _, _])
    refine wl_ex (x_call h141 bd_24 rfl rfl rfl rfl rfl (dNode_c _ _ X tv nvb3 nlb3 X.T.length _ _ _ _ 1 0 0 (⟨#[]⟩) (⟨kvb3, klb3⟩ : Ls Int) hp142 (by first | omega | (simp only [lens9]; omega)))) (wanted_none rfl _) ?_
    rintro a143 w143 ⟨_, ⟨nv143, rfl, hs143⟩, hf143⟩
    have hm143 : (nlb3 ++ [(⟨1, 0, 0, ⟨#[]⟩, (⟨kvb3, klb3⟩ : Ls Int)⟩ : NdL)]).length = nlb3.length + 1 := (by simp only [lens9])
    have h143 : St _ (fun _ => False) W a143 w143 _ [_, _, _, _] := ⟨hf143, h141.sh.backI (Lp := [_, _, _, _]) hs143⟩
    clear hf143 hs143 h141 hp142
    refine gG h143<|nK k138<|gF [0, 3, 6] rfl<|gK fun _ k144 => sG (oM 1 rfl<|onf fl_52_5 rfl<|oV (r_fieldB (r := 5) fl_25_0 rfl rfl rfl) rfl<|olB 0 ti_23 rfl rfl<|oeqI _ _ rfl<|oM 1 rfl<|oKs 6 (decide_eq_false (by assumption)) rfl rfl<|opF (decide_eq_false (by assumption)) rfl<|.nl)<|gcF rfl rfl<|gS<|hK k144<|gK fun _ k146 => sG (oM 1 rfl<|onf fl_52_5 rfl<|oV (r_fieldB (r := 5) fl_25_0 rfl rfl rfl) rfl<|olB 0 ti_23 rfl rfl<|oneI _ _ rfl<|.nl)<|gcT rfl (decide_eq_true (by assumption))<|gK fun _ k148 => rT 5 [] (oM 1 rfl<|onf fl_52_5 rfl<|olw 0 ti_25 rfl rfl<|oM 1 rfl<|.nl)<|gsw 3 ti_25 rfl rfl rfl<|nK k148<|gF [2, 3] rfl<|gR<|uT<|fun a150 w150 h150 => x_rettc (fn := Tryz.f8) (t := 3) (u := 2) (i := 3) ti_25 rfl h150 rfl rfl rfl rfl ?_; clear h143
    have hn9 := h150.sh.nilDeep (α := NdL) 57
    refine ⟨⟨.slice none 0 0, []⟩, cb3, eab3, rfl, ?_, hn9.sel [0] rfl⟩
    exact (parseR_err hu9 ((congrArg progP hX9).trans hrelb3)).symm
   have hn43 : isT X i2 ({ data := #[108, 111, 99, 107] }) = true := (Bool.not_eq_false' _).mp hb43
   have hc151 : isT X i2 ({ data := #[105, 110, 116] }) = false := (by assumption)
   have hc152 : isT X i2 ({ data := #[105, 110, 116] }) = false := (by assumption)
   have hc153 : isT X i2 ({ data := #[108, 111, 99, 107] }) = true := (by assumption)
   have hl153 := is_lt hc153
   have hc154 : isT X i2 ({ data := #[108, 111, 99, 107] }) = true := (by assumption)
   have hl154 := is_lt hc154
   refine gS<|hK k40<|sK fun _ k155 => gRn (oM 1 rfl<|.nl)<|fun a156 w156 h156 => ?_
   have h157 := h156.sel (L' := [_, _, _, _, _]) [1, 0, 2, 3, 4] rfl
   have hp158 := h157.sh.passL (Lp := [_, _, _])
   refine wl_ex (x_call h157 bd_20 rfl rfl rfl rfl rfl (dGlobal_c _ _ X tv nv2 i2 0 nl2 _ hp158 hTl (by omega) (by first | omega | (simp only [lens9] at *; omega)) hTo)) (wanted_none rfl _) ?_
   rintro a159 w159 ⟨_, (⟨y159, i159, nv159, nl159, hr159, rfl, hs159⟩ | ⟨c159, e159, dz159, y159, nv159, nl159, hr159, hcn159, rfl, hq9159, hs159⟩), hf159⟩
   ·skip
    have hv159 := adv_glob (X := X) (s := ⟨i2, 0, nl2.map NdL.nd⟩) _ _ hr159; simp only [List.length_map] at hv159
    have h159 : St _ (fun _ => False) W a159 w159 _ [_, _, _, _, _] := ⟨hf159, h157.sh.backI (Lp := [_, _, _]) hs159⟩
    clear hf159 hs159 h157 hp158
    refine gG h159<|gRn (oM 1 rfl<|.nl)<|nK k155<|gL<|gRn (oM 2 rfl<|.nl)<|gE1 (fun _ _ h_ => x_lit (n := 1) (cs := [.int .i64 y159]) ([y159] : List Int) h_ sl_30 ti_3 rfl rfl rfl (by decide) rfl (by kernel_rfl) rfl (fun q hq w h => Flat.inner _ _) (fun q hq b hb => (Flat.on _ _ hb).elim) rfl rfl) rfl fun v160 => gE1 (fun _ _ h_ => x_app (r := 5) (rm := 0) (s := (⟨kv2, kl2⟩ : Ls Int)) (m := (⟨v160, [y159]⟩ : Ls Int)) h_ sl_30 ti_3 rfl rfl rfl rfl rfl rfl rfl (fun w h => (h.own 0 rfl)) (fun b hb => own_on (h_.sh.ok _ (List.mem_of_getElem? (i := 0) rfl)) hb) (fun q hq b hb => ⟨q, hq, hb⟩) rfl rfl rfl inferInstance (show (kl2.length + ([y159]).length) * 8 ≤ 140737488355328 ∧ kl2.length + ([y159]).length ≤ 140737488355328 from om9) rfl rfl) rfl fun v161 => gRn (oM 1 rfl<|.nl)<|nN<|fun a162 w162 h162 => ?_; clear h159
    change ∃ _m, _m < _ ∧ _
    refine ⟨_, ?_, Or.inl ⟨fz2, _, _, i159, nv159, nl159, ?_, ?_, h162.nrm ⟨rfl, rfl, rfl, rfl, trivial⟩ [2, 1, 3, 4, 5] rfl, rfl⟩⟩
    · rw [hm31]; first | omega | (simp only [lens9]; omega)
    · refine ⟨by omega, by omega, by first | omega | (simp only [lens9]; omega), by simp only [lens9]; omega⟩
    · exact (hrel2.trans (by simp only [stepP, andP, ne_lock, isL2, ↓reduceIte, Bool.false_eq_true, eq_self, Nat.add_sub_cancel, List.cons_append, List.nil_append, Bool.or_false, Bool.or_true, Bool.true_or, Bool.false_or, Bool.or_self, ne_3345, globsP, restG, hr159, hc151, hc152, hc153, hc154]))
   have hq159 : nl159.length ≤ 10000 := hq9159
   have h159 : St _ (fun _ => False) W a159 w159 _ [_, _, _, _, _] := ⟨hf159, h157.sh.backI (Lp := [_, _, _]) hs159⟩
   clear hf159 hs159 h157 hp158
   refine gG h159<|gRn (oM 1 rfl<|.nl)<|nK k155<|gL<|gRn (oM 2 rfl<|.nl)<|gE1 (fun _ _ h_ => x_lit (n := 1) (cs := [.int .i64 y159]) ([y159] : List Int) h_ sl_30 ti_3 rfl rfl rfl (by decide) rfl (by kernel_rfl) rfl (fun q hq w h => Flat.inner _ _) (fun q hq b hb => (Flat.on _ _ hb).elim) rfl rfl) rfl fun v163 => gE1 (fun _ _ h_ => x_app (r := 5) (rm := 0) (s := (⟨kv2, kl2⟩ : Ls Int)) (m := (⟨v163, [y159]⟩ : Ls Int)) h_ sl_30 ti_3 rfl rfl rfl rfl rfl rfl rfl (fun w h => (h.own 0 rfl)) (fun b hb => own_on (h_.sh.ok _ (List.mem_of_getElem? (i := 0) rfl)) hb) (fun q hq b hb => ⟨q, hq, hb⟩) rfl rfl rfl inferInstance (show (kl2.length + ([y159]).length) * 8 ≤ 140737488355328 ∧ kl2.length + ([y159]).length ≤ 140737488355328 from om9) rfl rfl) rfl fun v164 => gRn (oM 1 rfl<|.nl)<|nN<|fun a165 w165 h165 => ?_; clear h159
   change ∃ _m, _m < _ ∧ _
   refine ⟨_, ?_, Or.inr ⟨c159, e159, dz159, nv159, nl159, _, _, ?_, ?_, ?_, ?_, h165.nrm ⟨rfl, rfl, rfl, rfl, trivial⟩ [2, 1, 3, 4, 5] rfl, rfl⟩⟩
   · rw [hm31]; first | omega | (simp only [lens9]; omega)
   · exact (hrel2.trans (by simp only [stepP, andP, ne_lock, isL2, ↓reduceIte, Bool.false_eq_true, eq_self, Nat.add_sub_cancel, List.cons_append, List.nil_append, Bool.or_false, Bool.or_true, Bool.true_or, Bool.false_or, Bool.or_self, ne_3345, globsP, restG, hr159, hc151, hc152, hc153, hc154]))
   · assumption
   · first | omega | (simp only [lens9] at *; omega)
   · simp only [lens9]; omega
  have hn42 : isT X i2 ({ data := #[105, 110, 116] }) = true := (Bool.not_eq_false' _).mp hb42
  refine gRn (oKs 2 hb42 rfl rfl<|opF hb42 rfl<|.nl)<|nK k41<|gcF rfl rfl<|?_
  have hc166 : isT X i2 ({ data := #[105, 110, 116] }) = true := (by assumption)
  have hl166 := is_lt hc166
  have hc167 : isT X i2 ({ data := #[105, 110, 116] }) = true := (by assumption)
  have hl167 := is_lt hc167
  refine gS<|hK k40<|sK fun _ k168 => gRn (oM 1 rfl<|.nl)<|fun a169 w169 h169 => ?_
  have h170 := h169.sel (L' := [_, _, _, _, _]) [1, 0, 2, 3, 4] rfl
  have hp171 := h170.sh.passL (Lp := [_, _, _])
  refine wl_ex (x_call h170 bd_20 rfl rfl rfl rfl rfl (dGlobal_c _ _ X tv nv2 i2 0 nl2 _ hp171 hTl (by omega) (by first | omega | (simp only [lens9] at *; omega)) hTo)) (wanted_none rfl _) ?_
  rintro a172 w172 ⟨_, (⟨y172, i172, nv172, nl172, hr172, rfl, hs172⟩ | ⟨c172, e172, dz172, y172, nv172, nl172, hr172, hcn172, rfl, hq9172, hs172⟩), hf172⟩
  ·skip
   have hv172 := adv_glob (X := X) (s := ⟨i2, 0, nl2.map NdL.nd⟩) _ _ hr172; simp only [List.length_map] at hv172
   have h172 : St _ (fun _ => False) W a172 w172 _ [_, _, _, _, _] := ⟨hf172, h170.sh.backI (Lp := [_, _, _]) hs172⟩
   clear hf172 hs172 h170 hp171
   refine gG h172<|gRn (oM 1 rfl<|.nl)<|nK k168<|gL<|gRn (oM 2 rfl<|.nl)<|gE1 (fun _ _ h_ => x_lit (n := 1) (cs := [.int .i64 y172]) ([y172] : List Int) h_ sl_30 ti_3 rfl rfl rfl (by decide) rfl (by kernel_rfl) rfl (fun q hq w h => Flat.inner _ _) (fun q hq b hb => (Flat.on _ _ hb).elim) rfl rfl) rfl fun v173 => gE1 (fun _ _ h_ => x_app (r := 5) (rm := 0) (s := (⟨kv2, kl2⟩ : Ls Int)) (m := (⟨v173, [y172]⟩ : Ls Int)) h_ sl_30 ti_3 rfl rfl rfl rfl rfl rfl rfl (fun w h => (h.own 0 rfl)) (fun b hb => own_on (h_.sh.ok _ (List.mem_of_getElem? (i := 0) rfl)) hb) (fun q hq b hb => ⟨q, hq, hb⟩) rfl rfl rfl inferInstance (show (kl2.length + ([y172]).length) * 8 ≤ 140737488355328 ∧ kl2.length + ([y172]).length ≤ 140737488355328 from om9) rfl rfl) rfl fun v174 => gRn (oM 1 rfl<|.nl)<|nN<|fun a175 w175 h175 => ?_; clear h172
   change ∃ _m, _m < _ ∧ _
   refine ⟨_, ?_, Or.inl ⟨fz2, _, _, i172, nv172, nl172, ?_, ?_, h175.nrm ⟨rfl, rfl, rfl, rfl, trivial⟩ [2, 1, 3, 4, 5] rfl, rfl⟩⟩
   · rw [hm31]; first | omega | (simp only [lens9]; omega)
   · refine ⟨by omega, by omega, by first | omega | (simp only [lens9]; omega), by simp only [lens9]; omega⟩
   · exact (hrel2.trans (by simp only [stepP, andP, ne_lock, isL2, ↓reduceIte, Bool.false_eq_true, eq_self, Nat.add_sub_cancel, List.cons_append, List.nil_append, Bool.or_false, Bool.or_true, Bool.true_or, Bool.false_or, Bool.or_self, ne_3345, globsP, restG, hr172, hc166, hc167]))
  have hq172 : nl172.length ≤ 10000 := hq9172
  have h172 : St _ (fun _ => False) W a172 w172 _ [_, _, _, _, _] := ⟨hf172, h170.sh.backI (Lp := [_, _, _]) hs172⟩
  clear hf172 hs172 h170 hp171
  refine gG h172<|gRn (oM 1 rfl<|.nl)<|nK k168<|gL<|gRn (oM 2 rfl<|.nl)<|gE1 (fun _ _ h_ => x_lit (n := 1) (cs := [.int .i64 y172]) ([y172] : List Int) h_ sl_30 ti_3 rfl rfl rfl (by decide) rfl (by kernel_rfl) rfl (fun q hq w h => Flat.inner _ _) (fun q hq b hb => (Flat.on _ _ hb).elim) rfl rfl) rfl fun v176 => gE1 (fun _ _ h_ => x_app (r := 5) (rm := 0) (s := (⟨kv2, kl2⟩ : Ls Int)) (m := (⟨v176, [y172]⟩ : Ls Int)) h_ sl_30 ti_3 rfl rfl rfl rfl rfl rfl rfl (fun w h => (h.own 0 rfl)) (fun b hb => own_on (h_.sh.ok _ (List.mem_of_getElem? (i := 0) rfl)) hb) (fun q hq b hb => ⟨q, hq, hb⟩) rfl rfl rfl inferInstance (show (kl2.length + ([y172]).length) * 8 ≤ 140737488355328 ∧ kl2.length + ([y172]).length ≤ 140737488355328 from om9) rfl rfl) rfl fun v177 => gRn (oM 1 rfl<|.nl)<|nN<|fun a178 w178 h178 => ?_; clear h172
  change ∃ _m, _m < _ ∧ _
  refine ⟨_, ?_, Or.inr ⟨c172, e172, dz172, nv172, nl172, _, _, ?_, ?_, ?_, ?_, h178.nrm ⟨rfl, rfl, rfl, rfl, trivial⟩ [2, 1, 3, 4, 5] rfl, rfl⟩⟩
  · rw [hm31]; first | omega | (simp only [lens9]; omega)
  · exact (hrel2.trans (by simp only [stepP, andP, ne_lock, isL2, ↓reduceIte, Bool.false_eq_true, eq_self, Nat.add_sub_cancel, List.cons_append, List.nil_append, Bool.or_false, Bool.or_true, Bool.true_or, Bool.false_or, Bool.or_self, ne_3345, globsP, restG, hr172, hc166, hc167]))
  · assumption
  · first | omega | (simp only [lens9] at *; omega)
  · simp only [lens9]; omega
 refine gG h31<|gK fun _ k179 => sG (oM 1 rfl<|onf fl_52_5 rfl<|oV (r_fieldB (r := 5) fl_25_0 rfl rfl rfl) rfl<|olB 1 ti_23 rfl rfl<|oeqI _ _ rfl<|.nl)<|gcF rfl (decide_eq_false (by assumption))<|gX<|hK k30<|gK fun _ k181 => gB<|fun a183 w183 h183 => x_loop (fun m a w => St 123 (fun _ => False) W a w [(0, .string s), (3, .pointer (some ⟨b12, 0, none⟩)), (6, .pointer (some ⟨b25, 0, none⟩)), (7, kvb2)] [.deep 57 (⟨nvb2, nlb2⟩ : Ls NdL), .blk b25 52 [tv, .int .i64 X.e, .int .i64 ((X.T.length : Nat) : Int), .int .i64 dzb2, nvb2, .int .i64 cb2, .int .i64 0, .int .i64 eab2], .own 81 (⟨tv, X.T⟩ : Ls Tok), .blk b12 25 [.int .i64 0, .int .i64 0, .int .i64 0], .own 3 (⟨kvb2, klb2⟩ : Ls Int)] ∧ m = 0) ⟨_, h183.nf ⟨rfl, rfl, rfl, rfl, trivial⟩, rfl⟩ ?_; clear h31
 clear h183
 rintro m182 a182 w182 ⟨h182, hm182⟩
 refine gG h182<|gK fun _ k184 => gK fun _ k185 => rQ (oM 1 rfl<|onf fl_52_5 rfl<|oV (r_fieldB (r := 5) fl_25_0 rfl rfl rfl) rfl<|olB 1 ti_23 rfl rfl<|oeqI _ _ rfl<|oM 1 rfl<|oK (decide_eq_false (by assumption)) rfl<|oK (decide_eq_false (by assumption)) rfl<|oK (decide_eq_false (by assumption)) rfl<|oK (decide_eq_false (by assumption)) rfl<|oK (decide_eq_false (by assumption)) rfl<|oK (decide_eq_false (by assumption)) rfl<|oK (decide_eq_false (by assumption)) rfl<|oK (decide_eq_false (by assumption)) rfl<|oK (decide_eq_false (by assumption)) rfl<|oK (decide_eq_false (by assumption)) rfl<|opF (decide_eq_false (by assumption)) rfl<|.nl)<|hK k185<|gcF rfl rfl<|gX<|hK k181<|sK fun _ k186 => gRn (oM 2 rfl<|oV (r_buildS (cs := [.int .i64 1, .int .i64 0, .int .i64 0, .string (⟨#[]⟩), kvb2]) rfl rfl (fun w h => by obtain ⟨A187, n187, c187, (e187 : kvb2 = _)⟩ := ((h.own 4 rfl)).form; rw [e187]; kernel_rfl)) rfl<|.nl)<|fun a188 w188 h188 => ?_; clear h182
 have h189 := h188.sel (L' := [_, _, _, _, _]) [1, 0, 2, 4, 3] rfl
 have hp190 := h189.sh.passL (Lp := [_, _, _, _])
 refine wl_ex (x_call h189 bd_24 rfl rfl rfl rfl rfl (dNode_c _ _ X tv nvb2 nlb2 X.T.length _ _ _ _ 1 0 0 (⟨#[]⟩) (⟨kvb2, klb2⟩ : Ls Int) hp190 (by first | omega | (simp only [lens9]; omega)))) (wanted_none rfl _) ?_
 rintro a191 w191 ⟨_, ⟨nv191, rfl, hs191⟩, hf191⟩
 have hm191 : (nlb2 ++ [(⟨1, 0, 0, ⟨#[]⟩, (⟨kvb2, klb2⟩ : Ls Int)⟩ : NdL)]).length = nlb2.length + 1 := (by simp only [lens9])
 have h191 : St _ (fun _ => False) W a191 w191 _ [_, _, _, _] := ⟨hf191, h189.sh.backI (Lp := [_, _, _, _]) hs191⟩
 clear hf191 hs191 h189 hp190
 refine gG h191<|nK k186<|gF [0, 3, 6] rfl<|gK fun _ k192 => sG (oM 1 rfl<|onf fl_52_5 rfl<|oV (r_fieldB (r := 5) fl_25_0 rfl rfl rfl) rfl<|olB 0 ti_23 rfl rfl<|oeqI _ _ rfl<|oM 1 rfl<|oKs 6 (decide_eq_false (by assumption)) rfl rfl<|opF (decide_eq_false (by assumption)) rfl<|.nl)<|gcF rfl rfl<|gS<|hK k192<|gK fun _ k194 => sG (oM 1 rfl<|onf fl_52_5 rfl<|oV (r_fieldB (r := 5) fl_25_0 rfl rfl rfl) rfl<|olB 0 ti_23 rfl rfl<|oneI _ _ rfl<|.nl)<|gcT rfl (decide_eq_true (by assumption))<|gK fun _ k196 => rT 5 [] (oM 1 rfl<|onf fl_52_5 rfl<|olw 0 ti_25 rfl rfl<|oM 1 rfl<|.nl)<|gsw 3 ti_25 rfl rfl rfl<|nK k196<|gF [2, 3] rfl<|gR<|uT<|fun a198 w198 h198 => x_rettc (fn := Tryz.f8) (t := 3) (u := 2) (i := 3) ti_25 rfl h198 rfl rfl rfl rfl ?_; clear h191
 have hn9 := h198.sh.nilDeep (α := NdL) 57
 refine ⟨⟨.slice none 0 0, []⟩, cb2, eab2, rfl, ?_, hn9.sel [0] rfl⟩
 exact (parseR_err hu9 ((congrArg progP hX9).trans hrelb2)).symm

end Go.Proofs.YthdkmhaneellcaaGreatDoor
