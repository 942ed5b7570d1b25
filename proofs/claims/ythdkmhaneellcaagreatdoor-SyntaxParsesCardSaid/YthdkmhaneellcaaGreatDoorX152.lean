/-
  The parser: a whole program; what is thrown is caught.
-/
import Derived.Test.YthdkmhaneellcaaGreatDoorX151
import Derived.Test.YthdkmhaneellcaaGreatDoorP3
import Derived.Test.YthdkmhaneellcaaGreatDoorX148
namespace Go.Proofs.YthdkmhaneellcaaGreatDoor
open Go.RowKit
set_option linter.unusedSimpArgs false
set_option linter.unusedVariables false
set_option maxRecDepth 100000
set_option maxHeartbeats 4000000


theorem mul_one1 (x : Int) : 1 * x = x := Int.one_mul x
theorem mul_neg1 (x : Int) : (-1) * x = -x := by omega
section
variable {s : ByteArray} {l : List Tok} {i : Nat} {c : Int}
theorem parseR_scan (h : (l, c, i) = scanR s) (hc : ¬ c = 0) : parseR s = ([], c, (i : Int)) := by unfold parseR; rw [← h]; exact if_neg hc
theorem parseR_err {a : Int} (h : (l, 0, i) = scanR s) (hp : progP ⟨l, (s.size : Int)⟩ = .error (c, a)) : parseR s = ([], c, a) := by unfold parseR; rw [← h]; show (match progP ⟨l, (s.size : Int)⟩ with | .error (c, a) => _ | .ok (_, p) => _) = _; rw [hp]
theorem parseR_full {a : Int} {p : PS} (h : (l, 0, i) = scanR s) (hp : progP ⟨l, (s.size : Int)⟩ = .ok (a, p)) (hn : 600 < p.l.length) : parseR s = ([], 10, (s.size : Int)) := by unfold parseR; rw [← h]; show (match progP ⟨l, (s.size : Int)⟩ with | .error (c, a) => _ | .ok (_, p) => _) = _; rw [hp]; exact if_pos hn
theorem parseR_ok {a : Int} {p : PS} (h : (l, 0, i) = scanR s) (hp : progP ⟨l, (s.size : Int)⟩ = .ok (a, p)) (hn : ¬ 600 < p.l.length) : parseR s = (p.l, 0, 0) := by unfold parseR; rw [← h]; show (match progP ⟨l, (s.size : Int)⟩ with | .error (c, a) => _ | .ok (_, p) => _) = _; rw [hp]; exact if_neg hn
end

theorem pGlobal_c (K : Nat → Prop) (g : Nat) (X : TE) (tv nv : Value) (i d : Nat) (nl : List NdL)  (W : World) (hS : Sh K W W [.blk g 49 [tv, .int .i64 X.e, .int .i64 ((i : Nat) : Int), .int .i64 ((d : Nat) : Int), nv], .deep 57 (⟨nv, nl⟩ : Ls NdL), .own 81 (⟨tv, X.T⟩ : Ls Tok)]) (hTl : X.T.length ≤ 4000) (hi : i ≤ X.T.length) (hnl : nl.length ≤ 2 * i) (hTn : ∀ q, q < X.T.length → 0 ≤ (nth X.T q).n ∧ (nth X.T q).n < 1000000000) :
    RetsP Tryz.prog 35 [.pointer (some ⟨g, 0, none⟩)] W (fun v w' => ∃ (a : Int) (i' : Nat) (nv' : Value) (nl' : List NdL), globP X ⟨i, d, nl.map NdL.nd⟩ = .ok (a, ⟨i', d, nl'.map NdL.nd⟩) ∧ v = .int .i64 a ∧ Sh K W w' [.blk g 49 [tv, .int .i64 X.e, .int .i64 ((i' : Nat) : Int), .int .i64 ((d : Nat) : Int), nv'], .deep 57 (⟨nv', nl'⟩ : Ls NdL), .own 81 (⟨tv, X.T⟩ : Ls Tok)]) (fun x w' => ∃ c a : Int, globP X ⟨i, d, nl.map NdL.nd⟩ = .error (c, a) ∧ x = wrongS c a ∧ Sh K W w' []) := by
 refine genP Tryz.func35 Tryz.ntmps35 hS rfl fun a10 h10 => gG h10<|sG (oM 1 rfl<|.nl)<|gK fun _ k12 => sK fun _ k13 => gRn (oM 1 rfl<|.nl)<|gE1 (fun _ _ h_ => x_lit (n := 1) (cs := [.string ({ data := #[108, 111, 99, 107] })]) ([{ data := #[108, 111, 99, 107] }] : List ByteArray) h_ sl_103 ti_9 rfl rfl rfl (by decide) rfl (by kernel_rfl) rfl (fun q hq w h => Flat.inner _ _) (fun q hq b hb => (Flat.on _ _ hb).elim) rfl rfl) rfl fun v14 => gP (fun _ _ h_ => xCl h_ bd_34 rfl (pIs_c g _ _ _ _ i _ (h_.sh.blk 1 rfl) (h_.sh.own 3 rfl) (⟨v14, [{ data := #[108, 111, 99, 107] }]⟩ : Ls ByteArray) (h_.sh.own 0 rfl) (by first | exact Nat.le_of_ble_eq_true rfl | omega))) rfl<|nK k13<|?_; clear h10
 refine gCb rfl (fun hb16 => ?_) fun hb16 => ?_
 ·skip
  have hc17 : isL X i ([{ data := #[108, 111, 99, 107] }]) = true := (by assumption)
  have hl17 := isl_lt hc17
  refine sK fun _ k18 => gRn (oM 1 rfl<|.nl)<|?_
  have hl19 : i < X.T.length := (by first | assumption | exact isl_lt (by assumption) | exact kd_lt (by assumption))
  refine gO [1, 2, 3, 0] rfl<|fun a22 w22 h22 => ?_
  have hp21 := h22.sh.passL (Lp := [_, _, _])
  refine wl_ex (x_call h22 bd_70 rfl rfl rfl rfl rfl (pNext_c _ _ X tv nv i d nl _ hp21 hTl (by first | assumption | exact isl_lt (by assumption) | exact kd_lt (by assumption)))) (wanted_none rfl _) ?_
  rintro a23 w23 ⟨_, ⟨rfl, hs23⟩, hf23⟩
  have h23 : St _ K W a23 w23 _ [_, _, _, _] := ⟨hf23, h22.sh.backI (Lp := [_, _, _]) hs23⟩
  clear hf23 hs23
  clear h22
  refine gG h23<|gRn (oV (r_fieldG (u := .int .i64 ((nth X.T i).a)) rfl rfl (fun w => by kernel_rfl)) rfl<|oM 1 rfl<|.nl)<|nK k18<|sK fun _ k24 => gRn (oM 1 rfl<|.nl)<|fun a25 w25 h25 => ?_; clear h23
  have hp27 := h25.sh.passL (Lp := [_, _, _])
  refine wl_callP h25 bd_71 rfl rfl rfl rfl rfl (wanted_none rfl _) (pName_c _ _ X tv nv (i + 1) d nl _ hp27 hTl) ?_ ?_
  ·rintro x9 w9 ⟨xc, xa, hrx, rfl, hs9⟩
   exact pnF (P := Tryz.prog) (fn := Tryz.f35) h25.fr ⟨xc, xa, (by simp only [andP, isT, lvT, ↓reduceIte, Bool.false_eq_true, eq_self, Nat.add_sub_cancel, List.cons_append, List.nil_append, globP, hrx, hc17]), rfl, ((h25.sh.backI (Lp := [_, _, _]) hs9).sel [] rfl)⟩
  rintro a26 w26 ⟨_, ⟨y26, hr26, hi26, rfl, hs26⟩, hf26⟩
  have hl26 : (i + 1) < X.T.length := hi26
  have h26 : St _ K W a26 w26 _ [_, _, _, _] := ⟨hf26, h25.sh.backI (Lp := [_, _, _]) hs26⟩
  clear hf26 hs26 h25 hp27
  refine gG h26<|gal ti_81 rfl fun b28 => gsw 0 ti_81 rfl rfl rfl<|nK k24<|sK fun _ k30 => gRn (oM 1 rfl<|.nl)<|fun a31 w31 h31 => ?_; clear h26
  have h33 := h31.sel (L' := [_, _, _, _, _]) [1, 2, 3, 0, 4] rfl
  have hp34 := h33.sh.passL (Lp := [_, _, _])
  refine wl_callP h33 bd_36 rfl rfl rfl rfl rfl (wanted_none rfl _) (pTake_c _ _ X tv nv ((i + 1) + 1) d nl _ hp34 hTl ({ data := #[59] })) ?_ ?_
  ·rintro x9 w9 ⟨xc, xa, hrx, rfl, hs9⟩
   exact pnF (P := Tryz.prog) (fn := Tryz.f35) h33.fr ⟨xc, xa, (by simp only [andP, isT, lvT, ↓reduceIte, Bool.false_eq_true, eq_self, Nat.add_sub_cancel, List.cons_append, List.nil_append, globP, hr26, hrx, hc17]), rfl, ((h33.sh.backI (Lp := [_, _, _]) hs9).sel [] rfl)⟩
  rintro a32 w32 ⟨_, ⟨y32, hr32, hi32, rfl, hs32⟩, hf32⟩
  have hl32 : ((i + 1) + 1) < X.T.length := hi32
  have h32 : St _ K W a32 w32 _ [_, _, _, _, _] := ⟨hf32, h33.sh.backI (Lp := [_, _, _]) hs32⟩
  clear hf32 hs32 h33 hp34
  refine gG h32<|nK k30<|sK fun _ k35 => gRn (oM 2 rfl<|ofB fl_81_3 rfl<|olB 3 ti_9 rfl rfl<|.nl)<|fun a38 w38 h38 => ?_; clear h32
  have h37 := h38.nil (α := Int) 3
  clear h38
  have h39 := h37.sel (L' := [_, _, _, _, _, _]) [1, 2, 3, 0, 4, 5] rfl
  have hp40 := h39.sh.passL (Lp := [_, _, _, _])
  refine wl_ex (x_call h39 bd_37 rfl rfl rfl rfl rfl (pPut_c _ _ X tv nv (((i + 1) + 1) + 1) d nl _ 3 ((nth X.T i).a) 0 y26.t (⟨.slice none 0 0, []⟩ : Ls Int) hp40 (by first | omega | (simp only [lens9]; omega)))) (wanted_none rfl _) ?_
  rintro a41 w41 ⟨_, ⟨nv41, rfl, hs41⟩, hf41⟩
  have hr41 : putP (⟨3, 0, (nth X.T i).a, y26.t, []⟩ : Nd) ⟨(((i + 1) + 1) + 1), d, nl.map NdL.nd⟩ = .ok (((nl.length : Nat) : Int), ⟨(((i + 1) + 1) + 1), d, (nl ++ [(⟨3, 0, (nth X.T i).a, y26.t, (⟨.slice none 0 0, []⟩ : Ls Int)⟩ : NdL)]).map NdL.nd⟩) := put_eq (x := (⟨3, 0, (nth X.T i).a, y26.t, (⟨.slice none 0 0, []⟩ : Ls Int)⟩ : NdL))
  have h41 : St _ K W a41 w41 _ [_, _, _, _, _] := ⟨hf41, h39.sh.backI (Lp := [_, _, _, _]) hs41⟩
  clear hf41 hs41
  clear h39
  refine gG h41<|gRn (oM 1 rfl<|.nl)<|nK k35<|gR<|uT<|fun a42 w42 h42 => rP <| x_ret1 (fn := Tryz.f35) (t := 2) rfl h42 rfl <| ⟨((nl.length : Nat) : Int), (((i + 1) + 1) + 1), nv41, (nl ++ [(⟨3, 0, (nth X.T i).a, y26.t, (⟨.slice none 0 0, []⟩ : Ls Int)⟩ : NdL)]), ?_, rfl, (h42.sh.sel [0, 1, 2] rfl)⟩; clear h41
  exact (by simp only [andP, isT, lvT, ↓reduceIte, Bool.false_eq_true, eq_self, Nat.add_sub_cancel, List.cons_append, List.nil_append, globP, hr26, hr32, hr41, hc17, globP])
 have hc43 : isL X i ([{ data := #[108, 111, 99, 107] }]) = false := (by assumption)
 refine gS<|hK k12<|sK fun _ k44 => gRn (oM 1 rfl<|.nl)<|fun a45 w45 h45 => ?_
 have h47 := h45.sel (L' := [_, _, _, _]) [1, 2, 3, 0] rfl
 have hp48 := h47.sh.passL (Lp := [_, _, _])
 refine wl_callP h47 bd_36 rfl rfl rfl rfl rfl (wanted_none rfl _) (pTake_c _ _ X tv nv i d nl _ hp48 hTl ({ data := #[105, 110, 116] })) ?_ ?_
 ·rintro x9 w9 ⟨xc, xa, hrx, rfl, hs9⟩
  exact pnF (P := Tryz.prog) (fn := Tryz.f35) h47.fr ⟨xc, xa, (by simp only [andP, isT, lvT, ↓reduceIte, Bool.false_eq_true, eq_self, Nat.add_sub_cancel, List.cons_append, List.nil_append, globP, hrx, hc43]), rfl, ((h47.sh.backI (Lp := [_, _, _]) hs9).sel [] rfl)⟩
 rintro a46 w46 ⟨_, ⟨y46, hr46, hi46, rfl, hs46⟩, hf46⟩
 have hl46 : i < X.T.length := hi46
 have h46 : St _ K W a46 w46 _ [_, _, _, _] := ⟨hf46, h47.sh.backI (Lp := [_, _, _]) hs46⟩
 clear hf46 hs46 h47 hp48
 refine gG h46<|gRn (oM 1 rfl<|.nl)<|nK k44<|sK fun _ k49 => gRn (oM 1 rfl<|.nl)<|fun a50 w50 h50 => ?_; clear h46
 have hp52 := h50.sh.passL (Lp := [_, _, _])
 refine wl_callP h50 bd_71 rfl rfl rfl rfl rfl (wanted_none rfl _) (pName_c _ _ X tv nv (i + 1) d nl _ hp52 hTl) ?_ ?_
 ·rintro x9 w9 ⟨xc, xa, hrx, rfl, hs9⟩
  exact pnF (P := Tryz.prog) (fn := Tryz.f35) h50.fr ⟨xc, xa, (by simp only [andP, isT, lvT, ↓reduceIte, Bool.false_eq_true, eq_self, Nat.add_sub_cancel, List.cons_append, List.nil_append, globP, hr46, hrx, hc43]), rfl, ((h50.sh.backI (Lp := [_, _, _]) hs9).sel [] rfl)⟩
 rintro a51 w51 ⟨_, ⟨y51, hr51, hi51, rfl, hs51⟩, hf51⟩
 have hl51 : (i + 1) < X.T.length := hi51
 have h51 : St _ K W a51 w51 _ [_, _, _, _] := ⟨hf51, h50.sh.backI (Lp := [_, _, _]) hs51⟩
 clear hf51 hs51 h50 hp52
 refine gG h51<|gal ti_81 rfl fun b53 => gsw 0 ti_81 rfl rfl rfl<|nK k49<|sG (oM 1 rfl<|.nl)<|gK fun _ k56 => sK fun _ k57 => gRn (oM 1 rfl<|.nl)<|gE1 (fun _ _ h_ => x_lit (n := 1) (cs := [.string ({ data := #[61] })]) ([{ data := #[61] }] : List ByteArray) h_ sl_103 ti_9 rfl rfl rfl (by decide) rfl (by kernel_rfl) rfl (fun q hq w h => Flat.inner _ _) (fun q hq b hb => (Flat.on _ _ hb).elim) rfl rfl) rfl fun v58 => gP (fun _ _ h_ => xCl h_ bd_34 rfl (pIs_c g _ _ _ _ ((i + 1) + 1) _ (h_.sh.blk 2 rfl) (h_.sh.own 4 rfl) (⟨v58, [{ data := #[61] }]⟩ : Ls ByteArray) (h_.sh.own 0 rfl) (by first | exact Nat.le_of_ble_eq_true rfl | omega))) rfl<|nK k57<|?_; clear h51
 refine gCb rfl (fun hb60 => ?_) fun hb60 => ?_
 ·skip
  have hc61 : isL X ((i + 1) + 1) ([{ data := #[61] }]) = true := (by assumption)
  have hl61 := isl_lt hc61
  refine sK fun _ k62 => gRn (oM 1 rfl<|.nl)<|?_
  have hl63 : ((i + 1) + 1) < X.T.length := (by first | assumption | exact isl_lt (by assumption) | exact kd_lt (by assumption))
  refine gO [2, 3, 4, 0, 1, 5] rfl<|fun a66 w66 h66 => ?_
  have hp65 := h66.sh.passL (Lp := [_, _, _])
  refine wl_ex (x_call h66 bd_70 rfl rfl rfl rfl rfl (pNext_c _ _ X tv nv ((i + 1) + 1) d nl _ hp65 hTl (by first | assumption | exact isl_lt (by assumption) | exact kd_lt (by assumption)))) (wanted_none rfl _) ?_
  rintro a67 w67 ⟨_, ⟨rfl, hs67⟩, hf67⟩
  have h67 : St _ K W a67 w67 _ [_, _, _, _, _, _] := ⟨hf67, h66.sh.backI (Lp := [_, _, _]) hs67⟩
  clear hf67 hs67
  clear h66
  refine gG h67<|nK k62<|sG (oM 1 rfl<|.nl)<|gK fun _ k69 => sK fun _ k70 => gRn (oM 1 rfl<|.nl)<|gE1 (fun _ _ h_ => x_lit (n := 1) (cs := [.string ({ data := #[45] })]) ([{ data := #[45] }] : List ByteArray) h_ sl_103 ti_9 rfl rfl rfl (by decide) rfl (by kernel_rfl) rfl (fun q hq w h => Flat.inner _ _) (fun q hq b hb => (Flat.on _ _ hb).elim) rfl rfl) rfl fun v71 => gP (fun _ _ h_ => xCl h_ bd_34 rfl (pIs_c g _ _ _ _ (((i + 1) + 1) + 1) _ (h_.sh.blk 1 rfl) (h_.sh.own 3 rfl) (⟨v71, [{ data := #[45] }]⟩ : Ls ByteArray) (h_.sh.own 0 rfl) (by first | exact Nat.le_of_ble_eq_true rfl | omega))) rfl<|nK k70<|?_; clear h67
  refine gCb rfl (fun hb73 => ?_) fun hb73 => ?_
  ·skip
   have hc74 : isL X (((i + 1) + 1) + 1) ([{ data := #[45] }]) = true := (by assumption)
   have hl74 := isl_lt hc74
   refine sK fun _ k75 => gRn (oM 1 rfl<|.nl)<|?_
   have hl76 : (((i + 1) + 1) + 1) < X.T.length := (by first | assumption | exact isl_lt (by assumption) | exact kd_lt (by assumption))
   refine gO [1, 2, 3, 0, 4, 5, 6] rfl<|fun a79 w79 h79 => ?_
   have hp78 := h79.sh.passL (Lp := [_, _, _])
   refine wl_ex (x_call h79 bd_70 rfl rfl rfl rfl rfl (pNext_c _ _ X tv nv (((i + 1) + 1) + 1) d nl _ hp78 hTl (by first | assumption | exact isl_lt (by assumption) | exact kd_lt (by assumption)))) (wanted_none rfl _) ?_
   rintro a80 w80 ⟨_, ⟨rfl, hs80⟩, hf80⟩
   have h80 : St _ K W a80 w80 _ [_, _, _, _, _, _, _] := ⟨hf80, h79.sh.backI (Lp := [_, _, _]) hs80⟩
   clear hf80 hs80
   clear h79
   refine gG h80<|nK k75<|gL<|gRn (oM 1 rfl<|.nl)<|nK k69<|gK fun _ k81 => sK fun _ k82 => gRn (oM 1 rfl<|.nl)<|gP (fun _ _ h_ => xCl h_ bd_72 rfl (pKind_c g _ _ _ _ ((((i + 1) + 1) + 1) + 1) _ (h_.sh.blk 0 rfl) (h_.sh.own 2 rfl) 3)) rfl<|gRn (ont rfl<|.nl)<|nK k82<|?_; clear h80
   refine gCb rfl (fun hb84 => ?_) fun hb84 => ?_
   ·have hn84 : kindT X ((((i + 1) + 1) + 1) + 1) 3 = false := (Bool.not_eq_true' _).mp hb84
    have hc85 : kindT X ((((i + 1) + 1) + 1) + 1) 3 = false := (by assumption)
    refine gL<|gRn (oM 1 rfl<|.nl)<|fun a86 w86 h86 => ?_
    exact wl_callP h86 bd_73 rfl rfl rfl rfl rfl (wanted_none rfl _) (pFail_c g _ _ _ _ ((((i + 1) + 1) + 1) + 1) _ (h86.sh.blk 0 rfl) (h86.sh.own 2 rfl) 5) (fun x9 w9 hx9 => pnF (P := Tryz.prog) (fn := Tryz.f35) h86.fr ⟨5, _, (by simp only [globP, badP, andP, isT, lvT, ↓reduceIte, Bool.false_eq_true, eq_self, Nat.add_sub_cancel, List.cons_append, List.nil_append, hr46, hr51, hc43, hc61, hc74, hc85]), hx9.1, ((h86.sh.call0 hx9.2).sel [] rfl)⟩) (fun _ _ ⟨_, hno, _⟩ => hno.elim)
   have hn84 : kindT X ((((i + 1) + 1) + 1) + 1) 3 = true := (Bool.not_eq_false' _).mp hb84
   have hc88 : kindT X ((((i + 1) + 1) + 1) + 1) 3 = true := (by assumption)
   have hl88 := kd_lt hc88
   refine gS<|hK k81<|?_
   have hq89 := hTn (((((i + 1) + 1) + 1) + 1)) (by assumption)
   refine gL<|gRn (oM 2 rfl<|.nl)<|?_
   have hl90 : ((((i + 1) + 1) + 1) + 1) < X.T.length := (by first | assumption | exact isl_lt (by assumption) | exact kd_lt (by assumption))
   intro a92 w92 h92
   have hp91 := h92.sh.passL (Lp := [_, _, _])
   refine wl_ex (x_call h92 bd_70 rfl rfl rfl rfl rfl (pNext_c _ _ X tv nv ((((i + 1) + 1) + 1) + 1) d nl _ hp91 hTl (by first | assumption | exact isl_lt (by assumption) | exact kd_lt (by assumption)))) (wanted_none rfl _) ?_
   rintro a93 w93 ⟨_, ⟨rfl, hs93⟩, hf93⟩
   have h93 : St _ K W a93 w93 _ [_, _, _, _, _, _, _] := ⟨hf93, h92.sh.backI (Lp := [_, _, _]) hs93⟩
   clear hf93 hs93
   clear h92
   refine gG h93<|gRn (oV (r_fieldG (u := .int .i64 ((nth X.T ((((i + 1) + 1) + 1) + 1)).n)) rfl rfl (fun w => by kernel_rfl)) rfl<|omlI _ _ om9 rfl<|oM 1 rfl<|.nl)<|nK k56<|gF [0, 5, 6, 7] rfl<|fun a94 w94 h94 => ?_; clear h93
   have h95 := h94.same (d := 7) rfl (congrArg (Value.int .i64) (mul_neg1 ((nth X.T ((((i + 1) + 1) + 1) + 1)).n))); clear h94
   refine gG h95<|sK fun _ k96 => gRn (oM 1 rfl<|.nl)<|fun a97 w97 h97 => ?_; clear h95
   have hp99 := h97.sh.passL (Lp := [_, _, _])
   refine wl_callP h97 bd_36 rfl rfl rfl rfl rfl (wanted_none rfl _) (pTake_c _ _ X tv nv (((((i + 1) + 1) + 1) + 1) + 1) d nl _ hp99 hTl ({ data := #[59] })) ?_ ?_
   ·rintro x9 w9 ⟨xc, xa, hrx, rfl, hs9⟩
    exact pnF (P := Tryz.prog) (fn := Tryz.f35) h97.fr ⟨xc, xa, (by simp only [andP, isT, lvT, ↓reduceIte, Bool.false_eq_true, eq_self, Nat.add_sub_cancel, List.cons_append, List.nil_append, globP, hr46, hr51, hrx, hc43, hc61, hc74, hc88]), rfl, ((h97.sh.backI (Lp := [_, _, _]) hs9).sel [] rfl)⟩
   rintro a98 w98 ⟨_, ⟨y98, hr98, hi98, rfl, hs98⟩, hf98⟩
   have hl98 : (((((i + 1) + 1) + 1) + 1) + 1) < X.T.length := hi98
   have h98 : St _ K W a98 w98 _ [_, _, _, _, _, _, _] := ⟨hf98, h97.sh.backI (Lp := [_, _, _]) hs98⟩
   clear hf98 hs98 h97 hp99
   refine gG h98<|nK k96<|sK fun _ k100 => gRn (oM 3 rfl<|ofB fl_81_3 rfl<|olB 5 ti_9 rfl rfl<|.nl)<|fun a103 w103 h103 => ?_; clear h98
   have h102 := h103.nil (α := Int) 3
   clear h103
   have h104 := h102.sel (L' := [_, _, _, _, _, _, _, _]) [1, 2, 3, 0, 4, 5, 6, 7] rfl
   have hp105 := h104.sh.passL (Lp := [_, _, _, _])
   refine wl_ex (x_call h104 bd_37 rfl rfl rfl rfl rfl (pPut_c _ _ X tv nv ((((((i + 1) + 1) + 1) + 1) + 1) + 1) d nl _ 2 y46 (-((nth X.T ((((i + 1) + 1) + 1) + 1)).n)) y51.t (⟨.slice none 0 0, []⟩ : Ls Int) hp105 (by first | omega | (simp only [lens9]; omega)))) (wanted_none rfl _) ?_
   rintro a106 w106 ⟨_, ⟨nv106, rfl, hs106⟩, hf106⟩
   have hr106 : putP (⟨2, (-((nth X.T ((((i + 1) + 1) + 1) + 1)).n)), y46, y51.t, []⟩ : Nd) ⟨((((((i + 1) + 1) + 1) + 1) + 1) + 1), d, nl.map NdL.nd⟩ = .ok (((nl.length : Nat) : Int), ⟨((((((i + 1) + 1) + 1) + 1) + 1) + 1), d, (nl ++ [(⟨2, (-((nth X.T ((((i + 1) + 1) + 1) + 1)).n)), y46, y51.t, (⟨.slice none 0 0, []⟩ : Ls Int)⟩ : NdL)]).map NdL.nd⟩) := put_eq (x := (⟨2, (-((nth X.T ((((i + 1) + 1) + 1) + 1)).n)), y46, y51.t, (⟨.slice none 0 0, []⟩ : Ls Int)⟩ : NdL))
   have h106 : St _ K W a106 w106 _ [_, _, _, _, _, _, _] := ⟨hf106, h104.sh.backI (Lp := [_, _, _, _]) hs106⟩
   clear hf106 hs106
   clear h104
   refine gG h106<|gRn (oM 1 rfl<|.nl)<|nK k100<|gR<|fun a107 w107 h107 => rP <| x_ret1 (fn := Tryz.f35) (t := 2) rfl h107 rfl <| ⟨((nl.length : Nat) : Int), ((((((i + 1) + 1) + 1) + 1) + 1) + 1), nv106, (nl ++ [(⟨2, (-((nth X.T ((((i + 1) + 1) + 1) + 1)).n)), y46, y51.t, (⟨.slice none 0 0, []⟩ : Ls Int)⟩ : NdL)]), ?_, rfl, (h107.sh.sel [0, 1, 2] rfl)⟩; clear h106
   exact (by simp only [andP, isT, lvT, ↓reduceIte, Bool.false_eq_true, eq_self, Nat.add_sub_cancel, List.cons_append, List.nil_append, globP, hr46, hr51, hr98, hr106, hc43, hc61, hc74, hc88, globP])
  have hc108 : isL X (((i + 1) + 1) + 1) ([{ data := #[45] }]) = false := (by assumption)
  refine gS<|hK k69<|gK fun _ k109 => sK fun _ k110 => gRn (oM 1 rfl<|.nl)<|gP (fun _ _ h_ => xCl h_ bd_72 rfl (pKind_c g _ _ _ _ (((i + 1) + 1) + 1) _ (h_.sh.blk 1 rfl) (h_.sh.own 3 rfl) 3)) rfl<|gRn (ont rfl<|.nl)<|nK k110<|gCb rfl (fun hb112 => ?_) fun hb112 => ?_
  ·have hn112 : kindT X (((i + 1) + 1) + 1) 3 = false := (Bool.not_eq_true' _).mp hb112
   have hc113 : kindT X (((i + 1) + 1) + 1) 3 = false := (by assumption)
   refine gL<|gRn (oM 1 rfl<|.nl)<|fun a114 w114 h114 => ?_
   exact wl_callP h114 bd_73 rfl rfl rfl rfl rfl (wanted_none rfl _) (pFail_c g _ _ _ _ (((i + 1) + 1) + 1) _ (h114.sh.blk 1 rfl) (h114.sh.own 3 rfl) 5) (fun x9 w9 hx9 => pnF (P := Tryz.prog) (fn := Tryz.f35) h114.fr ⟨5, _, (by simp only [globP, badP, andP, isT, lvT, ↓reduceIte, Bool.false_eq_true, eq_self, Nat.add_sub_cancel, List.cons_append, List.nil_append, hr46, hr51, hc43, hc61, hc108, hc113]), hx9.1, ((h114.sh.call0 hx9.2).sel [] rfl)⟩) (fun _ _ ⟨_, hno, _⟩ => hno.elim)
  have hn112 : kindT X (((i + 1) + 1) + 1) 3 = true := (Bool.not_eq_false' _).mp hb112
  have hc116 : kindT X (((i + 1) + 1) + 1) 3 = true := (by assumption)
  have hl116 := kd_lt hc116
  refine gS<|hK k109<|?_
  have hq117 := hTn ((((i + 1) + 1) + 1)) (by assumption)
  refine gL<|gRn (oM 2 rfl<|.nl)<|?_
  have hl118 : (((i + 1) + 1) + 1) < X.T.length := (by first | assumption | exact isl_lt (by assumption) | exact kd_lt (by assumption))
  refine gO [1, 2, 3, 0, 4, 5, 6] rfl<|fun a121 w121 h121 => ?_
  have hp120 := h121.sh.passL (Lp := [_, _, _])
  refine wl_ex (x_call h121 bd_70 rfl rfl rfl rfl rfl (pNext_c _ _ X tv nv (((i + 1) + 1) + 1) d nl _ hp120 hTl (by first | assumption | exact isl_lt (by assumption) | exact kd_lt (by assumption)))) (wanted_none rfl _) ?_
  rintro a122 w122 ⟨_, ⟨rfl, hs122⟩, hf122⟩
  have h122 : St _ K W a122 w122 _ [_, _, _, _, _, _, _] := ⟨hf122, h121.sh.backI (Lp := [_, _, _]) hs122⟩
  clear hf122 hs122
  clear h121
  refine gG h122<|gRn (oV (r_fieldG (u := .int .i64 ((nth X.T (((i + 1) + 1) + 1)).n)) rfl rfl (fun w => by kernel_rfl)) rfl<|omlI _ _ om9 rfl<|oM 1 rfl<|.nl)<|nK k56<|gF [0, 5, 6, 7] rfl<|fun a123 w123 h123 => ?_; clear h122
  have h124 := h123.same (d := 7) rfl (congrArg (Value.int .i64) (mul_one1 ((nth X.T (((i + 1) + 1) + 1)).n))); clear h123
  refine gG h124<|sK fun _ k125 => gRn (oM 1 rfl<|.nl)<|fun a126 w126 h126 => ?_; clear h124
  have hp128 := h126.sh.passL (Lp := [_, _, _])
  refine wl_callP h126 bd_36 rfl rfl rfl rfl rfl (wanted_none rfl _) (pTake_c _ _ X tv nv ((((i + 1) + 1) + 1) + 1) d nl _ hp128 hTl ({ data := #[59] })) ?_ ?_
  ·rintro x9 w9 ⟨xc, xa, hrx, rfl, hs9⟩
   exact pnF (P := Tryz.prog) (fn := Tryz.f35) h126.fr ⟨xc, xa, (by simp only [andP, isT, lvT, ↓reduceIte, Bool.false_eq_true, eq_self, Nat.add_sub_cancel, List.cons_append, List.nil_append, globP, hr46, hr51, hrx, hc43, hc61, hc108, hc116]), rfl, ((h126.sh.backI (Lp := [_, _, _]) hs9).sel [] rfl)⟩
  rintro a127 w127 ⟨_, ⟨y127, hr127, hi127, rfl, hs127⟩, hf127⟩
  have hl127 : ((((i + 1) + 1) + 1) + 1) < X.T.length := hi127
  have h127 : St _ K W a127 w127 _ [_, _, _, _, _, _, _] := ⟨hf127, h126.sh.backI (Lp := [_, _, _]) hs127⟩
  clear hf127 hs127 h126 hp128
  refine gG h127<|nK k125<|sK fun _ k129 => gRn (oM 3 rfl<|ofB fl_81_3 rfl<|olB 5 ti_9 rfl rfl<|.nl)<|fun a132 w132 h132 => ?_; clear h127
  have h131 := h132.nil (α := Int) 3
  clear h132
  have h133 := h131.sel (L' := [_, _, _, _, _, _, _, _]) [1, 2, 3, 0, 4, 5, 6, 7] rfl
  have hp134 := h133.sh.passL (Lp := [_, _, _, _])
  refine wl_ex (x_call h133 bd_37 rfl rfl rfl rfl rfl (pPut_c _ _ X tv nv (((((i + 1) + 1) + 1) + 1) + 1) d nl _ 2 y46 ((nth X.T (((i + 1) + 1) + 1)).n) y51.t (⟨.slice none 0 0, []⟩ : Ls Int) hp134 (by first | omega | (simp only [lens9]; omega)))) (wanted_none rfl _) ?_
  rintro a135 w135 ⟨_, ⟨nv135, rfl, hs135⟩, hf135⟩
  have hr135 : putP (⟨2, ((nth X.T (((i + 1) + 1) + 1)).n), y46, y51.t, []⟩ : Nd) ⟨(((((i + 1) + 1) + 1) + 1) + 1), d, nl.map NdL.nd⟩ = .ok (((nl.length : Nat) : Int), ⟨(((((i + 1) + 1) + 1) + 1) + 1), d, (nl ++ [(⟨2, ((nth X.T (((i + 1) + 1) + 1)).n), y46, y51.t, (⟨.slice none 0 0, []⟩ : Ls Int)⟩ : NdL)]).map NdL.nd⟩) := put_eq (x := (⟨2, ((nth X.T (((i + 1) + 1) + 1)).n), y46, y51.t, (⟨.slice none 0 0, []⟩ : Ls Int)⟩ : NdL))
  have h135 : St _ K W a135 w135 _ [_, _, _, _, _, _, _] := ⟨hf135, h133.sh.backI (Lp := [_, _, _, _]) hs135⟩
  clear hf135 hs135
  clear h133
  refine gG h135<|gRn (oM 1 rfl<|.nl)<|nK k129<|gR<|fun a136 w136 h136 => rP <| x_ret1 (fn := Tryz.f35) (t := 2) rfl h136 rfl <| ⟨((nl.length : Nat) : Int), (((((i + 1) + 1) + 1) + 1) + 1), nv135, (nl ++ [(⟨2, ((nth X.T (((i + 1) + 1) + 1)).n), y46, y51.t, (⟨.slice none 0 0, []⟩ : Ls Int)⟩ : NdL)]), ?_, rfl, (h136.sh.sel [0, 1, 2] rfl)⟩; clear h135
  exact (by simp only [andP, isT, lvT, ↓reduceIte, Bool.false_eq_true, eq_self, Nat.add_sub_cancel, List.cons_append, List.nil_append, globP, hr46, hr51, hr127, hr135, hc43, hc61, hc108, hc116, globP])
 have hc137 : isL X ((i + 1) + 1) ([{ data := #[61] }]) = false := (by assumption)
 refine gS<|hK k56<|sK fun _ k138 => gRn (oM 1 rfl<|.nl)<|fun a139 w139 h139 => ?_
 have h141 := h139.sel (L' := [_, _, _, _, _, _]) [2, 3, 4, 0, 1, 5] rfl
 have hp142 := h141.sh.passL (Lp := [_, _, _])
 refine wl_callP h141 bd_36 rfl rfl rfl rfl rfl (wanted_none rfl _) (pTake_c _ _ X tv nv ((i + 1) + 1) d nl _ hp142 hTl ({ data := #[59] })) ?_ ?_
 ·rintro x9 w9 ⟨xc, xa, hrx, rfl, hs9⟩
  exact pnF (P := Tryz.prog) (fn := Tryz.f35) h141.fr ⟨xc, xa, (by simp only [andP, isT, lvT, ↓reduceIte, Bool.false_eq_true, eq_self, Nat.add_sub_cancel, List.cons_append, List.nil_append, globP, hr46, hr51, hrx, hc43, hc137]), rfl, ((h141.sh.backI (Lp := [_, _, _]) hs9).sel [] rfl)⟩
 rintro a140 w140 ⟨_, ⟨y140, hr140, hi140, rfl, hs140⟩, hf140⟩
 have hl140 : ((i + 1) + 1) < X.T.length := hi140
 have h140 : St _ K W a140 w140 _ [_, _, _, _, _, _] := ⟨hf140, h141.sh.backI (Lp := [_, _, _]) hs140⟩
 clear hf140 hs140 h141 hp142
 refine gG h140<|nK k138<|sK fun _ k143 => gRn (oM 3 rfl<|ofB fl_81_3 rfl<|olB 4 ti_9 rfl rfl<|.nl)<|fun a146 w146 h146 => ?_; clear h140
 have h145 := h146.nil (α := Int) 3
 clear h146
 have h147 := h145.sel (L' := [_, _, _, _, _, _, _]) [1, 2, 3, 0, 4, 5, 6] rfl
 have hp148 := h147.sh.passL (Lp := [_, _, _, _])
 refine wl_ex (x_call h147 bd_37 rfl rfl rfl rfl rfl (pPut_c _ _ X tv nv (((i + 1) + 1) + 1) d nl _ 2 y46 0 y51.t (⟨.slice none 0 0, []⟩ : Ls Int) hp148 (by first | omega | (simp only [lens9]; omega)))) (wanted_none rfl _) ?_
 rintro a149 w149 ⟨_, ⟨nv149, rfl, hs149⟩, hf149⟩
 have hr149 : putP (⟨2, 0, y46, y51.t, []⟩ : Nd) ⟨(((i + 1) + 1) + 1), d, nl.map NdL.nd⟩ = .ok (((nl.length : Nat) : Int), ⟨(((i + 1) + 1) + 1), d, (nl ++ [(⟨2, 0, y46, y51.t, (⟨.slice none 0 0, []⟩ : Ls Int)⟩ : NdL)]).map NdL.nd⟩) := put_eq (x := (⟨2, 0, y46, y51.t, (⟨.slice none 0 0, []⟩ : Ls Int)⟩ : NdL))
 have h149 : St _ K W a149 w149 _ [_, _, _, _, _, _] := ⟨hf149, h147.sh.backI (Lp := [_, _, _, _]) hs149⟩
 clear hf149 hs149
 clear h147
 refine gG h149<|gRn (oM 1 rfl<|.nl)<|nK k143<|gR<|fun a150 w150 h150 => rP <| x_ret1 (fn := Tryz.f35) (t := 2) rfl h150 rfl <| ⟨((nl.length : Nat) : Int), (((i + 1) + 1) + 1), nv149, (nl ++ [(⟨2, 0, y46, y51.t, (⟨.slice none 0 0, []⟩ : Ls Int)⟩ : NdL)]), ?_, rfl, (h150.sh.sel [0, 1, 2] rfl)⟩; clear h149
 exact (by simp only [andP, isT, lvT, ↓reduceIte, Bool.false_eq_true, eq_self, Nat.add_sub_cancel, List.cons_append, List.nil_append, globP, hr46, hr51, hr140, hr149, hc43, hc137, globP])

theorem pProgram_c (K : Nat → Prop) (g : Nat) (X : TE) (tv nv : Value)  (W : World) (hS : Sh K W W [.blk g 49 [tv, .int .i64 X.e, .int .i64 0, .int .i64 0, nv], .deep 57 (⟨nv, []⟩ : Ls NdL), .own 81 (⟨tv, X.T⟩ : Ls Tok)]) (hTl : X.T.length ≤ 4000) (hTn : ∀ q, q < X.T.length → 0 ≤ (nth X.T q).n ∧ (nth X.T q).n < 1000000000) :
    RetsP Tryz.prog 17 [.pointer (some ⟨g, 0, none⟩)] W (fun v w' => ∃ (a : Int) (i' : Nat) (nv' : Value) (nl' : List NdL), progP X = .ok (a, ⟨i', 0, nl'.map NdL.nd⟩) ∧ v = .tuple #[] ∧ Sh K W w' [.blk g 49 [tv, .int .i64 X.e, .int .i64 ((i' : Nat) : Int), .int .i64 0, nv'], .deep 57 (⟨nv', nl'⟩ : Ls NdL), .own 81 (⟨tv, X.T⟩ : Ls Tok)]) (fun x w' => ∃ c a : Int, progP X = .error (c, a) ∧ x = wrongS c a ∧ Sh K W w' []) := by
 have ih : ∀ f', f' ≤ 20 * (X.T.length + 1) → AllT X f' := fun f' _ => allT X f'
 refine genP Tryz.func17 Tryz.ntmps17 hS rfl fun a10 h10 => gG h10<|sG (oM 1 rfl<|.nl)<|gK fun _ k12 => gB<|fun a15 w15 h15 => ?_; clear h10
 have h14 := h15.nil (α := Int) 3
 clear h15
 refine x_loop (fun m a w => ∃ (fq2 : Nat) (kv2 : Value) (kl2 : List Int) (i2 : Nat) (nv2 : Value) (nl2 : List NdL), (X.T.length - i2 < fq2 ∧ i2 ≤ X.T.length ∧ nl2.length ≤ 2 * i2 ∧ kl2.length ≤ i2) ∧ (progP X = andP (globsP X fq2 kl2 ⟨i2, 0, nl2.map NdL.nd⟩) (restG X)) ∧ St 36 K W a w [(0, .pointer (some ⟨g, 0, none⟩)), (2, kv2)] [.blk g 49 [tv, .int .i64 X.e, .int .i64 ((i2 : Nat) : Int), .int .i64 0, nv2], .deep 57 (⟨nv2, nl2⟩ : Ls NdL), .own 81 (⟨tv, X.T⟩ : Ls Tok), .own 3 (⟨kv2, kl2⟩ : Ls Int)] ∧ m = fq2) ⟨_, (X.T.length + 1), _, _, 0, nv, [], (⟨by omega, by omega, by simp only [List.length_nil]; omega, by simp only [List.length_nil]; omega⟩), (rfl), h14.nrm ⟨rfl, rfl, trivial⟩ [1, 2, 3, 0] rfl, rfl⟩ ?_
 clear h14
 rintro m13 a13 w13 ⟨fq2, kv2, kl2, i2, nv2, nl2, hk2, hrel2, h13, hm13⟩
 obtain ⟨fz2, rfl⟩ : ∃ fz2, fq2 = fz2 + 1 := ⟨fq2 - 1, by omega⟩
 refine gG h13<|gK fun _ k16 => sK fun _ k17 => gRn (oM 1 rfl<|.nl)<|gE1 (fun _ _ h_ => x_lit (n := 2) (cs := [.string ({ data := #[105, 110, 116] }), .string ({ data := #[108, 111, 99, 107] })]) ([{ data := #[105, 110, 116] }, { data := #[108, 111, 99, 107] }] : List ByteArray) h_ sl_103 ti_9 rfl rfl rfl (by decide) rfl (by kernel_rfl) rfl (fun q hq w h => Flat.inner _ _) (fun q hq b hb => (Flat.on _ _ hb).elim) rfl rfl) rfl fun v18 => gP (fun _ _ h_ => xCl h_ bd_34 rfl (pIs_c g _ _ _ _ i2 _ (h_.sh.blk 1 rfl) (h_.sh.own 3 rfl) (⟨v18, [{ data := #[105, 110, 116] }, { data := #[108, 111, 99, 107] }]⟩ : Ls ByteArray) (h_.sh.own 0 rfl) (by first | exact Nat.le_of_ble_eq_true rfl | omega))) rfl<|nK k17<|?_; clear h13
 refine gCb rfl (fun hb20 => ?_) fun hb20 => ?_
 ·skip
  have hc21 : isL X i2 ([{ data := #[105, 110, 116] }, { data := #[108, 111, 99, 107] }]) = true := (by assumption)
  have hl21 := isl_lt hc21
  refine gS<|hK k16<|gB<|gL<|gRn (oM 2 rfl<|.nl)<|fun a22 w22 h22 => ?_
  have h24 := h22.sel (L' := [_, _, _, _, _]) [1, 2, 3, 0, 4] rfl
  have hp25 := h24.sh.passL (Lp := [_, _, _])
  refine wl_callP h24 bd_35 rfl rfl rfl rfl rfl (wanted_none rfl _) (pGlobal_c _ _ X tv nv2 i2 0 nl2 _ hp25 hTl (by omega) (by first | omega | (simp only [lens9]; omega)) hTn) ?_ ?_
  ·rintro x9 w9 ⟨xc, xa, hrx, rfl, hs9⟩
   exact pnF (P := Tryz.prog) (fn := Tryz.f17) h24.fr ⟨xc, xa, (hrel2.trans (by simp only [andP, isT, lvT, ↓reduceIte, Bool.false_eq_true, eq_self, Nat.add_sub_cancel, List.cons_append, List.nil_append, globsP, restG, hrx, hc21])), rfl, ((h24.sh.backI (Lp := [_, _, _]) hs9).sel [] rfl)⟩
  rintro a23 w23 ⟨_, ⟨y23, i23, nv23, nl23, hr23, rfl, hs23⟩, hf23⟩
  have hv23 := adv_glob (X := X) (s := ⟨i2, 0, nl2.map NdL.nd⟩) _ _ hr23; simp only [List.length_map] at hv23
  have h23 : St _ K W a23 w23 _ [_, _, _, _, _] := ⟨hf23, h24.sh.backI (Lp := [_, _, _]) hs23⟩
  clear hf23 hs23 h24 hp25
  refine gG h23<|gE1 (fun _ _ h_ => x_lit (n := 1) (cs := [.int .i64 y23]) ([y23] : List Int) h_ sl_30 ti_3 rfl rfl rfl (by decide) rfl (by kernel_rfl) rfl (fun q hq w h => Flat.inner _ _) (fun q hq b hb => (Flat.on _ _ hb).elim) rfl rfl) rfl fun v26 => gE1 (fun _ _ h_ => x_app (r := 5) (rm := 0) (s := (⟨kv2, kl2⟩ : Ls Int)) (m := (⟨v26, [y23]⟩ : Ls Int)) h_ sl_30 ti_3 rfl rfl rfl rfl rfl rfl rfl (fun w h => (h.own 0 rfl)) (fun b hb => own_on (h_.sh.ok _ (List.mem_of_getElem? (i := 0) rfl)) hb) (fun q hq b hb => ⟨q, hq, hb⟩) rfl rfl rfl inferInstance (show (kl2.length + ([y23]).length) * 8 ≤ 140737488355328 ∧ kl2.length + ([y23]).length ≤ 140737488355328 from om9) rfl rfl) rfl fun v27 => gRn (oM 1 rfl<|.nl)<|nN<|fun a28 w28 h28 => ?_; clear h23
  change ∃ _m, _m < _ ∧ _
  refine ⟨_, ?_, fz2, _, _, i23, nv23, nl23, ?_, ?_, h28.nrm ⟨rfl, rfl, trivial⟩ [1, 2, 3, 5] rfl, rfl⟩
  · rw [hm13]; first | omega | (simp only [lens9]; omega)
  · refine ⟨by omega, by omega, by first | omega | (simp only [lens9]; omega), by simp only [lens9]; omega⟩
  · exact (hrel2.trans (by simp only [andP, isT, lvT, ↓reduceIte, Bool.false_eq_true, eq_self, Nat.add_sub_cancel, List.cons_append, List.nil_append, globsP, restG, hr23, hc21]))
 have hc29 : isL X i2 ([{ data := #[105, 110, 116] }, { data := #[108, 111, 99, 107] }]) = false := (by assumption)
 refine gX<|hK k12<|gK fun _ k30 => gB<|fun a32 w32 h32 => x_loop (fun m a w => ∃ (fq3 : Nat) (kv3 : Value) (kl3 : List Int) (i3 : Nat) (nv3 : Value) (nl3 : List NdL), (X.T.length - i3 < fq3 ∧ i3 ≤ X.T.length ∧ nl3.length ≤ 2 * i3 ∧ kl3.length ≤ i3) ∧ (progP X = andP (thrsP X fq3 kl3 ⟨i3, 0, nl3.map NdL.nd⟩) (restT)) ∧ St 36 K W a w [(0, .pointer (some ⟨g, 0, none⟩)), (2, kv3)] [.blk g 49 [tv, .int .i64 X.e, .int .i64 ((i3 : Nat) : Int), .int .i64 0, nv3], .deep 57 (⟨nv3, nl3⟩ : Ls NdL), .own 81 (⟨tv, X.T⟩ : Ls Tok), .own 3 (⟨kv3, kl3⟩ : Ls Int)] ∧ m = fq3) ⟨_, (X.T.length + 1), _, _, i2, nv2, nl2, (⟨by omega, by omega, by omega, by omega⟩), (((hrel2.trans (by simp only [andP, isT, lvT, ↓reduceIte, Bool.false_eq_true, eq_self, Nat.add_sub_cancel, List.cons_append, List.nil_append, globsP, restG, hc29])))), h32.nrm ⟨rfl, rfl, trivial⟩ [1, 2, 3, 4] rfl, rfl⟩ ?_
 clear h32
 rintro m31 a31 w31 ⟨fq3, kv3, kl3, i3, nv3, nl3, hk3, hrel3, h31, hm31⟩
 obtain ⟨fz3, rfl⟩ : ∃ fz3, fq3 = fz3 + 1 := ⟨fq3 - 1, by omega⟩
 refine gG h31<|gK fun _ k33 => gK fun _ k34 => gNl (aO 2 rfl) fun (hl35 : X.T.length ≤ 140737488355328) => rQ (oM 1 rfl<|onfl 0 fl_49_2 ti_3 rfl rfl<|oM 1 rfl<|onfl 0 fl_49_0 ti_42 rfl rfl<|oln (n := X.T.length) sl_42 (aO 2 rfl) rfl<|oltN _ _ rfl<|.nl)<|hK k34<|?_; clear h31
 refine gcd rfl (fun hb36 hp36 => ?_) fun hb36 hp36 => ?_
 ·skip
  have hc37 : isL X i2 ([{ data := #[105, 110, 116] }, { data := #[108, 111, 99, 107] }]) = false := (by assumption)
  have hc38 : (i3 < X.T.length) := (by assumption)
  refine gS<|hK k33<|gB<|sK fun _ k39 => gRn (oM 1 rfl<|.nl)<|fun a40 w40 h40 => ?_
  have hp42 := h40.sh.passL (Lp := [_, _, _])
  refine wl_callP h40 bd_36 rfl rfl rfl rfl rfl (wanted_none rfl _) (pTake_c _ _ X tv nv3 i3 0 nl3 _ hp42 hTl ({ data := #[116, 104, 114, 101, 97, 100] })) ?_ ?_
  ·rintro x9 w9 ⟨xc, xa, hrx, rfl, hs9⟩
   exact pnF (P := Tryz.prog) (fn := Tryz.f17) h40.fr ⟨xc, xa, (hrel3.trans (by simp only [andP, isT, lvT, ↓reduceIte, Bool.false_eq_true, eq_self, Nat.add_sub_cancel, List.cons_append, List.nil_append, thrsP, restT, hrx, hc37, hc38])), rfl, ((h40.sh.backI (Lp := [_, _, _]) hs9).sel [] rfl)⟩
  rintro a41 w41 ⟨_, ⟨y41, hr41, hi41, rfl, hs41⟩, hf41⟩
  have hl41 : i3 < X.T.length := hi41
  have h41 : St _ K W a41 w41 _ [_, _, _, _] := ⟨hf41, h40.sh.backI (Lp := [_, _, _]) hs41⟩
  clear hf41 hs41 h40 hp42
  refine gG h41<|gRn (oM 1 rfl<|.nl)<|nK k39<|gL<|gRn (oM 4 rfl<|.nl)<|fun a43 w43 h43 => ?_; clear h41
  have hp45 := h43.sh.passL (Lp := [_, _, _])
  refine wl_callP h43 bd_38 rfl rfl rfl rfl rfl (wanted_none rfl _) ((ih (20 * (X.T.length + 1)) (by omega)).bl _ _ tv nv3 (i3 + 1) 0 nl3 _ hp45 hTl (by omega) (by omega) (by first | omega | (simp only [lens9]; omega)) (show 20 * (X.T.length - (i3 + 1)) + 1 ≤ 20 * (X.T.length + 1) by omega)) ?_ ?_
  ·rintro x9 w9 ⟨xc, xa, hrx, rfl, hs9⟩
   exact pnF (P := Tryz.prog) (fn := Tryz.f17) h43.fr ⟨xc, xa, (hrel3.trans (by simp only [andP, isT, lvT, ↓reduceIte, Bool.false_eq_true, eq_self, Nat.add_sub_cancel, List.cons_append, List.nil_append, thrsP, restT, hr41, hrx, hc37, hc38])), rfl, ((h43.sh.backI (Lp := [_, _, _]) hs9).sel [] rfl)⟩
  rintro a44 w44 ⟨_, ⟨y44, i44, nv44, nl44, hr44, rfl, hs44⟩, hf44⟩
  have hv44 := adv_parse (X := X) (20 * (X.T.length + 1)) .block ⟨(i3 + 1), 0, nl3.map NdL.nd⟩ (fun h => by cases h) _ _ hr44; simp only [minT, dT, qT, List.length_map] at hv44
  have h44 : St _ K W a44 w44 _ [_, _, _, _] := ⟨hf44, h43.sh.backI (Lp := [_, _, _]) hs44⟩
  clear hf44 hs44 h43 hp45
  refine gG h44<|gE1 (fun _ _ h_ => x_lit (n := 1) (cs := [.int .i64 y44]) ([y44] : List Int) h_ sl_30 ti_3 rfl rfl rfl (by decide) rfl (by kernel_rfl) rfl (fun q hq w h => Flat.inner _ _) (fun q hq b hb => (Flat.on _ _ hb).elim) rfl rfl) rfl fun v46 => gO [1, 2, 3, 0, 4] rfl<|fun a52 w52 h52 => ?_; clear h44
  have hp51 := h52.sh.passL (Lp := [_, _, _, _])
  refine wl_ex (x_call h52 bd_37 rfl rfl rfl rfl rfl (pPut_c _ _ X tv nv44 i44 0 nl44 _ 4 y41 0 ({ data := #[] }) (⟨v46, [y44]⟩ : Ls Int) hp51 (by first | omega | (simp only [lens9]; omega)))) (wanted_none rfl _) ?_
  rintro a53 w53 ⟨_, ⟨nv53, rfl, hs53⟩, hf53⟩
  have hr53 : putP (⟨4, 0, y41, { data := #[] }, [y44]⟩ : Nd) ⟨i44, 0, nl44.map NdL.nd⟩ = .ok (((nl44.length : Nat) : Int), ⟨i44, 0, (nl44 ++ [(⟨4, 0, y41, { data := #[] }, (⟨v46, [y44]⟩ : Ls Int)⟩ : NdL)]).map NdL.nd⟩) := put_eq (x := (⟨4, 0, y41, { data := #[] }, (⟨v46, [y44]⟩ : Ls Int)⟩ : NdL))
  have h53 : St _ K W a53 w53 _ [_, _, _, _] := ⟨hf53, h52.sh.backI (Lp := [_, _, _, _]) hs53⟩
  clear hf53 hs53
  clear h52
  refine gG h53<|gE1 (fun _ _ h_ => x_lit (n := 1) (cs := [.int .i64 ((nl44.length : Nat) : Int)]) ([((nl44.length : Nat) : Int)] : List Int) h_ sl_30 ti_3 rfl rfl rfl (by decide) rfl (by kernel_rfl) rfl (fun q hq w h => Flat.inner _ _) (fun q hq b hb => (Flat.on _ _ hb).elim) rfl rfl) rfl fun v54 => gE1 (fun _ _ h_ => x_app (r := 4) (rm := 0) (s := (⟨kv3, kl3⟩ : Ls Int)) (m := (⟨v54, [((nl44.length : Nat) : Int)]⟩ : Ls Int)) h_ sl_30 ti_3 rfl rfl rfl rfl rfl rfl rfl (fun w h => (h.own 0 rfl)) (fun b hb => own_on (h_.sh.ok _ (List.mem_of_getElem? (i := 0) rfl)) hb) (fun q hq b hb => ⟨q, hq, hb⟩) rfl rfl rfl inferInstance (show (kl3.length + ([((nl44.length : Nat) : Int)]).length) * 8 ≤ 140737488355328 ∧ kl3.length + ([((nl44.length : Nat) : Int)]).length ≤ 140737488355328 from om9) rfl rfl) rfl fun v55 => gRn (oM 1 rfl<|.nl)<|nN<|fun a56 w56 h56 => ?_; clear h53
  change ∃ _m, _m < _ ∧ _
  refine ⟨_, ?_, fz3, _, _, i44, nv53, (nl44 ++ [(⟨4, 0, y41, { data := #[] }, (⟨v46, [y44]⟩ : Ls Int)⟩ : NdL)]), ?_, ?_, h56.nrm ⟨rfl, rfl, trivial⟩ [1, 2, 3, 4] rfl, rfl⟩
  · rw [hm31]; first | omega | (simp only [lens9]; omega)
  · refine ⟨by omega, by omega, by first | omega | (simp only [lens9]; omega), by simp only [lens9]; omega⟩
  · exact (hrel3.trans (by simp only [andP, isT, lvT, ↓reduceIte, Bool.false_eq_true, eq_self, Nat.add_sub_cancel, List.cons_append, List.nil_append, thrsP, restT, hr41, hr44, hr53, hc37, hc38]))
 have hc57 : isL X i2 ([{ data := #[105, 110, 116] }, { data := #[108, 111, 99, 107] }]) = false := (by assumption)
 have hc58 : ¬(i3 < X.T.length) := (by assumption)
 refine gX<|hK k30<|gL<|gRn (oM 2 rfl<|.nl)<|fun a62 w62 h62 => ?_
 have hp61 := h62.sh.passL (Lp := [_, _, _, _])
 refine wl_ex (x_call h62 bd_37 rfl rfl rfl rfl rfl (pPut_c _ _ X tv nv3 i3 0 nl3 _ 1 0 0 ({ data := #[] }) (⟨kv3, kl3⟩ : Ls Int) hp61 (by first | omega | (simp only [lens9]; omega)))) (wanted_none rfl _) ?_
 rintro a63 w63 ⟨_, ⟨nv63, rfl, hs63⟩, hf63⟩
 have hr63 : putP (⟨1, 0, 0, { data := #[] }, kl3⟩ : Nd) ⟨i3, 0, nl3.map NdL.nd⟩ = .ok (((nl3.length : Nat) : Int), ⟨i3, 0, (nl3 ++ [(⟨1, 0, 0, { data := #[] }, (⟨kv3, kl3⟩ : Ls Int)⟩ : NdL)]).map NdL.nd⟩) := put_eq (x := (⟨1, 0, 0, { data := #[] }, (⟨kv3, kl3⟩ : Ls Int)⟩ : NdL))
 have h63 : St _ K W a63 w63 _ [_, _, _] := ⟨hf63, h62.sh.backI (Lp := [_, _, _, _]) hs63⟩
 clear hf63 hs63
 clear h62
 refine gG h63<|nN<|fun a64 w64 h64 => ?_; clear h63
 try simp only [Exit.then, Exit.inBlock, if_true]
 refine rP <| x_end0 (fn := Tryz.f17) rfl h64 <| ⟨((nl3.length : Nat) : Int), i3, nv63, (nl3 ++ [(⟨1, 0, 0, { data := #[] }, (⟨kv3, kl3⟩ : Ls Int)⟩ : NdL)]), ?_, rfl, h64.sh⟩
 exact (hrel3.trans (by simp only [andP, isT, lvT, ↓reduceIte, Bool.false_eq_true, eq_self, Nat.add_sub_cancel, List.cons_append, List.nil_append, thrsP, restT, hr63, hc57, hc58, thrsP, restT]))

theorem parseC_p (K : Nat → Prop) (g1 g2 : Nat) (v0 : Value) (y0 y1 y2 : Int) (c : Int) (i : Int) {u9 m9 : FrameMode}  (W : World) (hS : Sh K W W [.blk g1 22 [v0], .blk g2 25 [.int .i64 y0, .int .i64 y1, .int .i64 y2]]) (hm9 : Recv u9 (.iface 46 (.agg #[.int .i64 c, .int .i64 0, .int .i64 (i : Int)])) m9) :
    CallsD Tryz.prog 16 [.pointer (some ⟨g1, 0, none⟩), .pointer (some ⟨g2, 0, none⟩)].toArray u9 W (fun e u' w' => ∃ v, e = .returned v ∧ u' = m9 ∧ (Sh K W w' [.blk g1 22 [.slice none 0 0], .blk g2 25 [.int .i64 c, .int .i64 0, .int .i64 (i : Int)]])) := by
 refine genR hm9 Tryz.func16 Tryz.ntmps16 (hS : Sh K W W [.blk g1 22 [v0], .blk g2 25 [.int .i64 y0, .int .i64 y1, .int .i64 y2]]) rfl rfl rfl rfl rfl fun a10 h10 => gG h10<|gB<|sG (oV (r_eqIfN Tryz.underlying20 rfl rfl) rfl<|.nl)<|gcF rfl rfl<|sG (oV (r_asrtS Tryz.underlying46 rfl rfl) rfl<|oxt rfl<|oxt rfl<|.nl)<|gcT rfl rfl<|sK fun _ k13 => gal ti_46 rfl fun b14 => gsw 0 ti_46 rfl rfl rfl<|nK k13<|rC [2, 3] rfl<|pR [0, 1] rfl (ofB fl_46_0 rfl<|olw 0 ti_25 rfl rfl<|.nl) rfl<|pS (fun _ _ h_ => x_stb (i := 1) (vs := [(.slice none 0 0)]) (cs' := [(.slice none 0 0)]) h_ ti_22 rfl rfl rfl rfl rfl rfl rfl (allOne_cons rfl allOne_nil) (Nat.le_of_ble_eq_true rfl) rfl) rfl<|pR [0, 1] rfl (ofB fl_46_0 rfl<|olw 0 ti_25 rfl rfl<|.nl) rfl<|pS (fun _ _ h_ => x_stb (i := 2) (vs := [.int .i64 c, .int .i64 0, .int .i64 i]) (cs' := [.int .i64 c, .int .i64 0, .int .i64 i]) h_ ti_25 rfl rfl rfl rfl rfl rfl rfl (allOne_cons rfl (allOne_cons rfl (allOne_cons rfl allOne_nil))) (Nat.le_of_ble_eq_true rfl) rfl) rfl<|pE [] rfl (.nl) rfl<|fun a18 w18 h18 => ?_; clear h10
 try simp only [Exit.then, Exit.inBlock, if_true]
 refine x_end0 (fn := Tryz.f16) rfl h18 ?_
 exact (h18.sh.sel [1, 2] rfl)

theorem parseC_n (K : Nat → Prop) (g1 g2 : Nat) (v0 : Value) (y0 y1 y2 : Int) {u9 m9 : FrameMode}  (W : World) (hS : Sh K W W [.blk g1 22 [v0], .blk g2 25 [.int .i64 y0, .int .i64 y1, .int .i64 y2]]) (hm9 : Recv u9 .nilIface m9) :
    CallsD Tryz.prog 16 [.pointer (some ⟨g1, 0, none⟩), .pointer (some ⟨g2, 0, none⟩)].toArray u9 W (fun e u' w' => ∃ v, e = .returned v ∧ u' = m9 ∧ (Sh K W w' [.blk g1 22 [v0], .blk g2 25 [.int .i64 y0, .int .i64 y1, .int .i64 y2]])) := by
 refine genR hm9 Tryz.func16 Tryz.ntmps16 (hS : Sh K W W [.blk g1 22 [v0], .blk g2 25 [.int .i64 y0, .int .i64 y1, .int .i64 y2]]) rfl rfl rfl rfl rfl fun a10 h10 => gG h10<|gB<|sG (oV (r_eqNN Tryz.underlying20 rfl rfl) rfl<|.nl)<|gcT rfl rfl<|gL<|gRn (oM 1 rfl<|.nl)<|nN<|fun a12 w12 h12 => ?_; clear h10
 try simp only [Exit.then, Exit.inBlock, if_true]
 refine x_end0 (fn := Tryz.f16) rfl h12 ?_
 exact h12.sh

theorem parse_c (s : ByteArray) (W : World) :
    Rets Tryz.prog 7 [.string s] W (fun v w' => ∃ (u : Ls NdL) (c a : Int), v = .tuple #[u.v, .agg #[.int .i64 c, .int .i64 0, .int .i64 a]] ∧ (u.l.map NdL.nd, c, a) = parseR s ∧ Sh0 W w' [.deep 57 u]) := by
 refine genD Tryz.func7 Tryz.ntmps7 (Sh0.start W : Sh (fun _ => False) W W []) rfl fun a10 h10 => gG h10<|sK fun _ k11 => gal ti_22 rfl fun b12 => gal ti_25 rfl fun b13 => nK k11<|sK fun _ k14 => gRn (oM 1 rfl<|.nl)<|gC (fun _ _ h_ => xCl h_ bd_15 rfl (scan_c s _)) rfl<|?_; clear h10
 rintro _ _ w15 ⟨u15, c15, i15, rfl, hu15, hs15⟩
 refine gWk hs15 rfl<|gU<|gRn (oM 1 rfl<|oxt rfl<|oxt rfl<|oM 1 rfl<|.nl)<|gsw 1 ti_25 rfl rfl rfl<|nK k14<|gK fun _ k17 => sG (ofB fl_25_0 rfl<|olB 1 ti_23 rfl rfl<|oneI _ _ rfl<|.nl)<|?_; clear hs15
 refine gcd rfl (fun hb19 hp19 => ?_) fun hb19 hp19 => ?_
 ·skip
  refine gK fun _ k20 => rC [1, 2] rfl<|pR [0] rfl (olw 1 ti_25 rfl rfl<|.nl) rfl<|pS (fun _ _ h_ => x_stb (i := 2) (vs := [(.slice none 0 0)]) (cs' := [(.slice none 0 0)]) h_ ti_22 rfl rfl rfl rfl rfl rfl rfl (allOne_cons rfl allOne_nil) (Nat.le_of_ble_eq_true rfl) rfl) rfl<|pR [0] rfl (olw 1 ti_25 rfl rfl<|.nl) rfl<|pS (fun _ _ h_ => x_stb (i := 1) (vs := [.int .i64 c15, .int .i64 0, .int .i64 ((i15 : Nat) : Int)]) (cs' := [.int .i64 c15, .int .i64 0, .int .i64 ((i15 : Nat) : Int)]) h_ ti_25 rfl rfl rfl rfl rfl rfl rfl (allOne_cons rfl (allOne_cons rfl (allOne_cons rfl allOne_nil))) (Nat.le_of_ble_eq_true rfl) rfl) rfl<|pE [] rfl (.nl) rfl<|hK k20<|gR<|uT<|fun a23 w23 h23 => leave0 h23 fun hf8 => ?_
  have hn9 := h23.sh.nilDeep (α := NdL) 57
  refine ⟨_, res_cell2 (i := 2) (i2 := 1) ti_22 ti_25 rfl hf8 h23.sh rfl rfl rfl rfl rfl, _, rfl, ⟨.slice none 0 0, []⟩, _, _, rfl, ?_, hn9.sel [0] rfl⟩
  exact (parseR_scan hu15 (by assumption)).symm
 have hc9 : c15 = 0 := (by omega)
 have hu9 : (u15.l, (0 : Int), i15) = scanR s := hc9 ▸ hu15
 have hpr9 := scanR_props hu9.symm
 have hi9 := hpr9.1
 have hTn9 : ∀ q, q < u15.l.length → 0 ≤ (nth u15.l q).n ∧ (nth u15.l q).n < 1000000000 := fun q hq => ⟨(hpr9.2.2.2 _ (nth_mem _ _ hq)).2.2.1, (hpr9.2.2.2 _ (nth_mem _ _ hq)).2.2.2⟩
 subst hc9
 subst hi9
 refine gS<|hK k17<|sK fun _ k24 => gRn (oV (r_makeFunc rfl rfl rfl) rfl<|.nl)<|fun a25 w25 h25 => wl_defer (us := []) (ws := [.pointer (some ⟨b12, 0, none⟩), .pointer (some ⟨b13, 0, none⟩)]) h25 rfl rfl rfl (wanted_none rfl _) ?_
 letI D9 : Defs := ⟨[⟨.fn (.func 16) #[.pointer (some ⟨b12, 0, none⟩), .pointer (some ⟨b13, 0, none⟩)], #[]⟩]⟩
 intro a26 h26; clear h25
 refine gG h26<|nK k24<|sK fun _ k27 => gRn (oM 2 rfl<|oV (r_lenStr (s := s) Tryz.underlying9 rfl rfl) rfl<|oV (r_buildS (cs := [u15.v, .int .i64 ((s.size : Nat) : Int), .int .i64 0, .int .i64 0, (.slice none 0 0)]) rfl rfl (fun w h => by obtain ⟨A28, n28, c28, (e28 : u15.v = _)⟩ := ((h.own 0 rfl)).form; rw [e28]; kernel_rfl)) rfl<|.nl)<|gbx rfl rfl fun b29 => gRn (oM 1 rfl<|.nl)<|nK k27<|sK fun _ k30 => gRn (oM 1 rfl<|.nl)<|fun a31 w31 h31 => ?_; clear h26
 have h33 := h31.nilDeep (α := NdL) 57; clear h31
 have h34 := h33.sel (L' := [_, _, _, _, _]) [1, 0, 2, 3, 4] rfl
 have hp35 := h34.sh.passL (Lp := [_, _, _])
 refine wl_callP h34 bd_17 rfl rfl rfl rfl rfl (wanted_none rfl _) (pProgram_c _ _ ⟨u15.l, (s.size : Int)⟩ u15.v _ _ hp35 hpr9.2.2.1 hTn9) ?_ ?_
 ·rintro x9 w9 ⟨xc, xa, hrx, rfl, hs9⟩
  have hx9 := (h34.sh.backI (Lp := [_, _, _]) hs9)
  have hy9 : Sh _ W w9 [.blk b12 22 [(.slice none 0 0)], .blk b13 25 [.int .i64 0, .int .i64 0, .int .i64 0]] := hx9.sel [1, 0] rfl
  refine leave_pan (us := []) (ws := [.pointer (some ⟨b12, 0, none⟩), .pointer (some ⟨b13, 0, none⟩)]) h34.fr bd_16 (parseC_p _ _ _ (.slice none 0 0) 0 0 0 xc xa w9 (hy9.passL (Lp := [.blk b12 22 [(.slice none 0 0)], .blk b13 25 [.int .i64 0, .int .i64 0, .int .i64 0]]) (Lr := [])) (.inr ⟨rfl, rfl⟩)) ?_
  rintro v9 w8 hs8 hf8
  have hz9 : Sh _ W w8 _ := hy9.backI (Lp := [.blk b12 22 [(.slice none 0 0)], .blk b13 25 [.int .i64 0, .int .i64 0, .int .i64 0]]) (Lr := []) hs8
  have hn9 := hz9.nilDeep (α := NdL) 57
  refine ⟨_, res_cell2 (i := 0) (i2 := 1) ti_22 ti_25 rfl hf8 hz9 rfl rfl rfl rfl rfl, _, rfl, ⟨.slice none 0 0, []⟩, _, _, rfl, ?_, hn9.sel [0] rfl⟩
  exact (parseR_err hu9 hrx).symm
 rintro a32 w32 ⟨_, ⟨y32, i32, nv32, nl32, hr32, rfl, hs32⟩, hf32⟩
 have hlen32 : (nl32.map NdL.nd).length = nl32.length := List.length_map ..
 have h32 : St _ (fun _ => False) W a32 w32 _ [_, _, _, _, _] := ⟨hf32, h34.sh.backI (Lp := [_, _, _]) hs32⟩
 clear hf32 hs32 h34 hp35
 refine gG h32<|nK k30<|gK fun _ k36 => sK fun _ k37 => gNl (aD 1 rfl) fun (hl38 : nl32.length ≤ 140737488355328) => gRn (oM 1 rfl<|onfl 0 fl_49_4 ti_22 rfl rfl<|oln (n := nl32.length) sl_22 (aD 1 rfl) rfl<|ogtN _ 600 rfl<|.nl)<|nK k37<|?_; clear h32
 refine gcd rfl (fun hb39 hp39 => ?_) fun hb39 hp39 => ?_
 ·skip
  refine sK fun _ k40 => gRn (oM 1 rfl<|oV (r_lenStr (s := s) Tryz.underlying9 rfl rfl) rfl<|oV (r_build (cs := [.int .i64 10, .int .i64 0, .int .i64 ((s.size : Nat) : Int)]) rfl rfl (by kernel_rfl)) rfl<|.nl)<|gst 4 ti_22 rfl rfl rfl<|gsw 3 ti_25 rfl rfl rfl<|nK k40<|gF [2, 3] rfl<|gR<|uT<|fun a43 w43 h43 => ?_
  have h44 := h43.sel (L' := [_, _, _, _, _]) [4, 3, 0, 1, 2] rfl
  refine leave_ret (us := []) (ws := [.pointer (some ⟨b12, 0, none⟩), .pointer (some ⟨b13, 0, none⟩)]) h44 bd_16 (parseC_n _ _ _ (.slice none 0 0) 10 0 ((s.size : Nat) : Int) w43 (h44.sh.passL (Lp := [.blk b12 22 [(.slice none 0 0)], .blk b13 25 [.int .i64 10, .int .i64 0, .int .i64 ((s.size : Nat) : Int)]])) (.inl ⟨rfl, rfl, rfl⟩)) ?_
  rintro v9 w8 hs8 hf8
  have hz9 : Sh _ W w8 _ := h44.sh.backI (Lp := [.blk b12 22 [(.slice none 0 0)], .blk b13 25 [.int .i64 10, .int .i64 0, .int .i64 ((s.size : Nat) : Int)]]) hs8
  have hn9 := hz9.nilDeep (α := NdL) 57
  refine ⟨_, res_cell2 (i := 0) (i2 := 1) ti_22 ti_25 rfl hf8 hz9 rfl rfl rfl rfl rfl, _, rfl, ⟨.slice none 0 0, []⟩, _, _, rfl, ?_, hn9.sel [0] rfl⟩
  exact (parseR_full hu9 hr32 (by show 600 < (nl32.map NdL.nd).length; omega)).symm
 refine gS<|hK k36<|gF [2, 3, 5] rfl<|gK fun _ k45 => rC [5, 6] rfl<|pR [0, 1, 2, 3, 4] rfl (oM 1 rfl<|onfl 0 fl_49_4 ti_22 rfl rfl<|olw 3 ti_25 rfl rfl<|.nl) rfl<|pS (fun _ _ h_ => x_stb (i := 4) (vs := [nv32]) (cs' := [nv32]) h_ ti_22 rfl rfl rfl rfl rfl (cells_oneL ((h_.sh.deep 1 rfl)).one) rfl (allOne_cons ((h_.sh.deep 1 rfl)).one allOne_nil) (Nat.le_of_ble_eq_true rfl) rfl) rfl<|pR [4] rfl (olw 3 ti_25 rfl rfl<|.nl) rfl<|pS (fun _ _ h_ => x_stb (i := 3) (vs := [.int .i64 0, .int .i64 0, .int .i64 0]) (cs' := [.int .i64 0, .int .i64 0, .int .i64 0]) h_ ti_25 rfl rfl rfl rfl rfl rfl rfl (allOne_cons rfl (allOne_cons rfl (allOne_cons rfl allOne_nil))) (Nat.le_of_ble_eq_true rfl) rfl) rfl<|pE [] rfl (.nl) rfl<|hK k45<|gR<|fun a48 w48 h48 => ?_
 have h49 := h48.sel (L' := [_, _, _, _, _]) [4, 3, 0, 1, 2] rfl
 refine leave_ret (us := []) (ws := [.pointer (some ⟨b12, 0, none⟩), .pointer (some ⟨b13, 0, none⟩)]) h49 bd_16 (parseC_n _ _ _ nv32 0 0 0 w48 (h49.sh.passL (Lp := [.blk b12 22 [nv32], .blk b13 25 [.int .i64 0, .int .i64 0, .int .i64 0]])) (.inl ⟨rfl, rfl, rfl⟩)) ?_
 rintro v9 w8 hs8 hf8
 have hz9 : Sh _ W w8 _ := h49.sh.backI (Lp := [.blk b12 22 [nv32], .blk b13 25 [.int .i64 0, .int .i64 0, .int .i64 0]]) hs8
 refine ⟨_, res_cell2 (i := 0) (i2 := 1) ti_22 ti_25 rfl hf8 hz9 rfl rfl rfl rfl rfl, _, rfl, ⟨nv32, nl32⟩, _, _, rfl, ?_, hz9.sel [3] rfl⟩
 exact (parseR_ok hu9 hr32 (by show ¬ 600 < (nl32.map NdL.nd).length; omega)).symm

end Go.Proofs.YthdkmhaneellcaaGreatDoor
