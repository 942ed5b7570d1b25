/-
  What always is one number: the document comes to an order.
-/
import Derived.Test.YtmgikmjmdppfmaaE8
namespace Go.Proofs.Ytmgikmjmdppfmaa
open Go.RowKit
set_option linter.unusedSimpArgs false
set_option linter.unusedVariables false
set_option maxRecDepth 100000
set_option maxHeartbeats 8000000

theorem rlead_c (K : Nat → Prop) (gl R n d : Nat) (gs : Ls Bool) (vm : Value) (M : List (Ls VV)) (more : Bool) (env : Ls VV) (W : World) (hS : Sh K W W [.blk gl 66 [gs.v, vm, .bool more], .own 4 gs, .big (matX (.own 68) 70 vm M), .own 68 env]) (hO : RdO R n gs.l M) (hd : d ≤ n) (he : OkEn R env.l) :
    Rets Try.prog 48 [.pointer (some ⟨gl, 0, none⟩), .int .i64 ((d : Nat) : Int), env.v] W (fun v w' => ∃ (gs' : List Bool) (M' : List (Ls VV)) (mo' : Bool), v = .tuple #[] ∧ RdO R n gs' M' ∧ (absR gs' M', mo') = leadR (absR gs.l M) more d env.l ∧ Sh K W w' [.blk gl 66 [gs.v, vm, .bool mo'], .own 4 (⟨gs.v, gs'⟩ : Ls Bool), .big (matX (.own 68) 70 vm M'), .own 68 env]) := by
 have hgl := hO.gl
 have hml := hO.ml
 refine gen Try.func48 Try.ntmps48 hS rfl fun a10 h10 => x_seq (fun a w => ∃ (gs1 : List Bool) (mo1 : Bool), (gs1 = gs.l.set d true ∧ mo1 = (more || !nth gs.l d)) ∧ St 89 K W a w [(0, .pointer (some ⟨gl, 0, none⟩)), (1, .int .i64 ((d : Nat) : Int)), (2, env.v)] [.blk gl 66 [gs.v, vm, .bool mo1], .own 4 (⟨gs.v, gs1⟩ : Ls Bool), .big (matX (.own 68) 70 vm M), .own 68 env]) ?_ ?_
 ·refine gG h10<|sK fun _ k11 => gNl (aO 1 rfl) fun hl12 => gRn (oM 1 rfl<|onfl 0 fl_66_0 ti_63 rfl rfl<|oM 1 rfl<|oxN sl_63 ti_4 (aO 1 rfl) _ om9 rfl<|olE (.bool (nth gs.l d)) ti_4 (aO 1 rfl) om9 rfl<|ont rfl<|.nl)<|nK k11<|?_; clear h10
  refine gCb rfl (fun hb13 => ?_) fun hb13 => ?_
  ·have hn13 : nth gs.l d = false := (Bool.not_eq_true' _).mp hb13
   refine sK fun _ k14 => gRn (oM 1 rfl<|onfl 0 fl_66_0 ti_63 rfl rfl<|oM 1 rfl<|oxN sl_63 ti_4 (aO 1 rfl) _ om9 rfl<|.nl)<|gte 1 (true : Bool) ti_4 om9 rfl rfl<|nK k14<|gL<|gRn (oM 1 rfl<|onf fl_66_2 rfl<|.nl)<|gst (v := .bool true) 0 ti_4 rfl rfl rfl<|nN<|fun a17 w17 h17 => x_join ⟨gs.l.set d true, true, ?_, h17.nf ⟨rfl, rfl, rfl, trivial⟩⟩
   · first | exact ⟨rfl, by simp [*]⟩ | exact ⟨(set_trueB (by first | assumption | simpa using (by assumption))).symm, by simp [*]⟩
  have hn13 : nth gs.l d = true := (Bool.not_eq_false' _).mp hb13
  refine gS<|fun a18 w18 h18 => x_join ⟨gs.l, more, ?_, h18.nf ⟨rfl, rfl, rfl, trivial⟩⟩
  · first | exact ⟨rfl, by simp [*]⟩ | exact ⟨(set_trueB (by first | assumption | simpa using (by assumption))).symm, by simp [*]⟩
 clear h10
 rintro a19 w19 ⟨gs1, mo1, hg1, h19⟩
 refine gG h19<|sG (oM 1 rfl<|.nl)<|gB<|fun a22 w22 h22 => x_loop (fun m a w => ∃ (r : Nat) (M2 : List (Ls VV)) (mo2 : Bool), (r ≤ env.l.length) ∧ (LdI R d M env.l mo1 r M2 mo2) ∧ St 89 K W a w [(0, .pointer (some ⟨gl, 0, none⟩)), (1, .int .i64 ((d : Nat) : Int)), (2, env.v), (6, .int .i64 ((r : Nat) : Int))] [.blk gl 66 [gs.v, vm, .bool mo2], .own 4 (⟨gs.v, gs1⟩ : Ls Bool), .big (matX (.own 68) 70 vm M2), .own 68 env] ∧ m = env.l.length - r) ⟨_, 0, M, mo1, (by omega), (LdI.start (hO.ok d hd).1), h22.nf ⟨rfl, rfl, rfl, rfl, trivial⟩, rfl⟩ ?_; clear h19
 clear h22
 rintro m21 a21 w21 ⟨r, M2, mo2, hr, hld, h21, hm21⟩
 have hel := he.1
 have hml := hO.ml
 have hm2 := hld.len
 have hrw := hld.row
 refine gG h21<|gK fun _ k23 => sK fun _ k24 => gNl (aO 3 rfl) fun hl25 => gRn (oM 2 rfl<|oln sl_70 (aO 3 rfl) rfl<|oltN _ _ rfl<|.nl)<|nK k24<|?_; clear h21
 refine gcd rfl (fun hb26 hp26 => ?_) fun hb26 hp26 => ?_
 ·skip
  refine gS<|hK k23<|gK fun _ k27 => gB<|gK fun _ k28 => gF [0, 1, 2, 6, 25, 26, 27, 28] rfl<|fun a29 w29 h29 => x_any ((fun Φ Ψ S a w => (S 14 = false ∧ S 15 = false ∧ S 16 = false ∧ FrI 89 S Φ Ψ a ∧ Sh K W w [.blk gl 66 [gs.v, vm, .bool mo2], .own 4 (⟨gs.v, gs1⟩ : Ls Bool), .big (matX (.own 68) 70 vm M2), .own 68 env]) ∨ (S 14 = true ∧ S 15 = false ∧ S 16 = false ∧ FrI 89 S Φ (Ψ ++ [(14, 45, .agg #[.int .i64 ((meetR (nth ((nth M2 d).l) r) (nth env.l r)).s), .int .i64 ((meetR (nth ((nth M2 d).l) r) (nth env.l r)).n)])]) a ∧ Sh K W w [.blk gl 66 [gs.v, vm, .bool mo2], .own 4 (⟨gs.v, gs1⟩ : Ls Bool), .big (matX (.own 68) 70 vm M2), .own 68 env]) ∨ (S 14 = false ∧ S 15 = true ∧ S 16 = false ∧ ∃ (b7015 : Nat), FrI 89 S Φ (Ψ ++ [(15, 7, .pointer (some ⟨b7015, 0, none⟩))]) a ∧ Sh K W w [.blk b7015 68 [.int .i64 0, .int .i64 0], .blk gl 66 [gs.v, vm, .bool mo2], .own 4 (⟨gs.v, gs1⟩ : Ls Bool), .big (matX (.own 68) 70 vm M2), .own 68 env]) ∨ (S 14 = true ∧ S 15 = true ∧ S 16 = false ∧ ∃ (b7015 : Nat), FrI 89 S Φ (Ψ ++ [(14, 45, .agg #[.int .i64 ((meetR (nth ((nth M2 d).l) r) (nth env.l r)).s), .int .i64 ((meetR (nth ((nth M2 d).l) r) (nth env.l r)).n)]), (15, 7, .pointer (some ⟨b7015, 0, none⟩))]) a ∧ Sh K W w [.blk b7015 68 [.int .i64 0, .int .i64 0], .blk gl 66 [gs.v, vm, .bool mo2], .own 4 (⟨gs.v, gs1⟩ : Ls Bool), .big (matX (.own 68) 70 vm M2), .own 68 env]) ∨ (S 14 = true ∧ S 15 = true ∧ S 16 = true ∧ ∃ (b7015 : Nat), FrI 89 S Φ (Ψ ++ [(14, 45, .agg #[.int .i64 ((meetR (nth ((nth M2 d).l) r) (nth env.l r)).s), .int .i64 ((meetR (nth ((nth M2 d).l) r) (nth env.l r)).n)]), (15, 7, .pointer (some ⟨b7015, 0, none⟩))]) a ∧ Sh K W w [.blk b7015 68 [.int .i64 ((meetR (nth ((nth M2 d).l) r) (nth env.l r)).s), .int .i64 ((meetR (nth ((nth M2 d).l) r) (nth env.l r)).n)], .blk gl 66 [gs.v, vm, .bool mo2], .own 4 (⟨gs.v, gs1⟩ : Ls Bool), .big (matX (.own 68) 70 vm M2), .own 68 env])) [(0, .pointer (some ⟨gl, 0, none⟩)), (1, .int .i64 ((d : Nat) : Int)), (2, env.v), (6, .int .i64 ((r : Nat) : Int)), (25, .int .i64 ((r : Nat) : Int)), (26, env.v), (27, .int .i64 ((env.l.length : Nat) : Int)), (28, .bool (decide (r < env.l.length)))] [(0, 31, .pointer (some ⟨gl, 0, none⟩)), (1, 32, .pointer (some ⟨gl, 0, none⟩)), (2, 33, .pointer (some ⟨gl, 1, none⟩)), (3, 34, vm), (4, 35, .int .i64 ((d : Nat) : Int)), (5, 36, .pointer (some (padr vm 1 d 0))), (6, 37, (nth M2 d).v), (7, 38, .int .i64 ((r : Nat) : Int)), (8, 39, .pointer (some (padr ((nth M2 d).v) 2 r 0))), (9, 40, .agg #[.int .i64 ((nth ((nth M2 d).l) r).s), .int .i64 ((nth ((nth M2 d).l) r).n)]), (10, 41, env.v), (11, 42, .int .i64 ((r : Nat) : Int)), (12, 43, .pointer (some (padr env.v 2 r 0))), (13, 44, .agg #[.int .i64 ((nth env.l r).s), .int .i64 ((nth env.l r).n)])]) (by kernel_rfl) (by kernel_rfl) (Or.inl (⟨rfl, rfl, rfl, FrI.start h29.fr, h29.sh.drew⟩)) ?_ ?_
  ·intro S i o ho hSi hcl hdep a w hI
   clear h29
   rcases i with _ | _ | _ | _ | _ | _ | _ | _ | _ | _ | _ | _ | _ | _ | _ | _ | _ | i
   ·obtain rfl : _ = o := Option.some.inj ho
    rcases hI with ⟨ν14, ν15, ν16, φ, ς⟩ | ⟨ν14, _⟩ | ⟨ν14, ν15, ν16, b7015, φ, ς⟩ | ⟨ν14, _⟩ | ⟨ν14, _⟩
    ·exact sq φ φ.fr0 ς (r_move rfl rfl) 0 rfl rfl rfl rfl rfl rfl fun a hg => Or.inl (⟨un rfl ν14, un rfl ν15, un rfl ν16, hg, ς⟩)
    ·exact no_way (cA hcl 14 0 rfl ν14) hSi
    ·exact sq φ φ.fr0 ς (r_move rfl rfl) 0 rfl rfl rfl rfl rfl rfl fun a hg => Or.inr (Or.inr (Or.inl (⟨un rfl ν14, un rfl ν15, un rfl ν16, b7015, hg, ς⟩)))
    ·exact no_way (cA hcl 14 0 rfl ν14) hSi
    ·exact no_way (cA hcl 14 0 rfl ν14) hSi
   ·obtain rfl : _ = o := Option.some.inj ho
    have hd0 : S 0 = true := depAt hdep 0 rfl rfl
    rcases hI with ⟨ν14, ν15, ν16, φ, ς⟩ | ⟨ν14, _⟩ | ⟨ν14, ν15, ν16, b7015, φ, ς⟩ | ⟨ν14, _⟩ | ⟨ν14, _⟩
    ·exact sq φ (Fr.cons φ.fr0 (φ.at_ 0 0 31 _ rfl hd0)) ς (r_nil rfl rfl) 1 rfl rfl rfl rfl rfl rfl fun a hg => Or.inl (⟨un rfl ν14, un rfl ν15, un rfl ν16, hg, ς⟩)
    ·exact no_way (cA hcl 14 1 rfl ν14) hSi
    ·exact sq φ (Fr.cons φ.fr0 (φ.at_ 0 0 31 _ rfl hd0)) ς (r_nil rfl rfl) 1 rfl rfl rfl rfl rfl rfl fun a hg => Or.inr (Or.inr (Or.inl (⟨un rfl ν14, un rfl ν15, un rfl ν16, b7015, hg, ς⟩)))
    ·exact no_way (cA hcl 14 1 rfl ν14) hSi
    ·exact no_way (cA hcl 14 1 rfl ν14) hSi
   ·obtain rfl : _ = o := Option.some.inj ho
    have hd1 : S 1 = true := depAt hdep 0 rfl rfl
    rcases hI with ⟨ν14, ν15, ν16, φ, ς⟩ | ⟨ν14, _⟩ | ⟨ν14, ν15, ν16, b7015, φ, ς⟩ | ⟨ν14, _⟩ | ⟨ν14, _⟩
    ·exact sq φ (Fr.cons φ.fr0 (φ.at_ 1 1 32 _ rfl hd1)) ς (r_fieldB (r := 1) fl_66_1 rfl rfl rfl) 2 rfl rfl rfl rfl rfl rfl fun a hg => Or.inl (⟨un rfl ν14, un rfl ν15, un rfl ν16, hg, ς⟩)
    ·exact no_way (cA hcl 14 2 rfl ν14) hSi
    ·exact sq φ (Fr.cons φ.fr0 (φ.at_ 1 1 32 _ rfl hd1)) ς (r_fieldB (r := 1) fl_66_1 rfl rfl rfl) 2 rfl rfl rfl rfl rfl rfl fun a hg => Or.inr (Or.inr (Or.inl (⟨un rfl ν14, un rfl ν15, un rfl ν16, b7015, hg, ς⟩)))
    ·exact no_way (cA hcl 14 2 rfl ν14) hSi
    ·exact no_way (cA hcl 14 2 rfl ν14) hSi
   ·obtain rfl : _ = o := Option.some.inj ho
    have hd2 : S 2 = true := depAt hdep 0 rfl rfl
    rcases hI with ⟨ν14, ν15, ν16, φ, ς⟩ | ⟨ν14, _⟩ | ⟨ν14, ν15, ν16, b7015, φ, ς⟩ | ⟨ν14, _⟩ | ⟨ν14, _⟩
    ·exact sq φ (Fr.cons φ.fr0 (φ.at_ 2 2 33 _ rfl hd2)) ς (r_ldb (i := 0) ti_64 rfl rfl rfl rfl) 3 rfl rfl rfl rfl rfl rfl fun a hg => Or.inl (⟨un rfl ν14, un rfl ν15, un rfl ν16, hg, ς⟩)
    ·exact no_way (cA hcl 14 3 rfl ν14) hSi
    ·exact sq φ (Fr.cons φ.fr0 (φ.at_ 2 2 33 _ rfl hd2)) ς (r_ldb (i := 1) ti_64 rfl rfl rfl rfl) 3 rfl rfl rfl rfl rfl rfl fun a hg => Or.inr (Or.inr (Or.inl (⟨un rfl ν14, un rfl ν15, un rfl ν16, b7015, hg, ς⟩)))
    ·exact no_way (cA hcl 14 3 rfl ν14) hSi
    ·exact no_way (cA hcl 14 3 rfl ν14) hSi
   ·obtain rfl : _ = o := Option.some.inj ho
    rcases hI with ⟨ν14, ν15, ν16, φ, ς⟩ | ⟨ν14, _⟩ | ⟨ν14, ν15, ν16, b7015, φ, ς⟩ | ⟨ν14, _⟩ | ⟨ν14, _⟩
    ·exact sq φ φ.fr0 ς (r_move rfl rfl) 4 rfl rfl rfl rfl rfl rfl fun a hg => Or.inl (⟨un rfl ν14, un rfl ν15, un rfl ν16, hg, ς⟩)
    ·exact no_way (cA hcl 14 4 rfl ν14) hSi
    ·exact sq φ φ.fr0 ς (r_move rfl rfl) 4 rfl rfl rfl rfl rfl rfl fun a hg => Or.inr (Or.inr (Or.inl (⟨un rfl ν14, un rfl ν15, un rfl ν16, b7015, hg, ς⟩)))
    ·exact no_way (cA hcl 14 4 rfl ν14) hSi
    ·exact no_way (cA hcl 14 4 rfl ν14) hSi
   ·obtain rfl : _ = o := Option.some.inj ho
    have hd3 : S 3 = true := depAt hdep 0 rfl rfl
    have hd4 : S 4 = true := depAt hdep 1 rfl rfl
    rcases hI with ⟨ν14, ν15, ν16, φ, ς⟩ | ⟨ν14, _⟩ | ⟨ν14, ν15, ν16, b7015, φ, ς⟩ | ⟨ν14, _⟩ | ⟨ν14, _⟩
    ·exact sq φ (Fr.cons (Fr.cons φ.fr0 (φ.at_ 3 3 34 _ rfl hd3)) (φ.at_ 4 4 35 _ rfl hd4)) ς (r_ixN (s := (⟨vm, rvs M2⟩ : Ls RV)) (q := d) sl_64 ti_70 rfl rfl rfl (fun w h => (h.matAt 2 rfl)) (by rw [rvs_len]; exact (show d < M2.length from (by omega)))) 5 rfl rfl rfl rfl rfl rfl fun a hg => Or.inl (⟨un rfl ν14, un rfl ν15, un rfl ν16, hg, ς⟩)
    ·exact no_way (cA hcl 14 5 rfl ν14) hSi
    ·exact sq φ (Fr.cons (Fr.cons φ.fr0 (φ.at_ 3 3 34 _ rfl hd3)) (φ.at_ 4 4 35 _ rfl hd4)) ς (r_ixN (s := (⟨vm, rvs M2⟩ : Ls RV)) (q := d) sl_64 ti_70 rfl rfl rfl (fun w h => (h.matAt 3 rfl)) (by rw [rvs_len]; exact (show d < M2.length from (by omega)))) 5 rfl rfl rfl rfl rfl rfl fun a hg => Or.inr (Or.inr (Or.inl (⟨un rfl ν14, un rfl ν15, un rfl ν16, b7015, hg, ς⟩)))
    ·exact no_way (cA hcl 14 5 rfl ν14) hSi
    ·exact no_way (cA hcl 14 5 rfl ν14) hSi
   ·obtain rfl : _ = o := Option.some.inj ho
    have hd5 : S 5 = true := depAt hdep 0 rfl rfl
    rcases hI with ⟨ν14, ν15, ν16, φ, ς⟩ | ⟨ν14, _⟩ | ⟨ν14, ν15, ν16, b7015, φ, ς⟩ | ⟨ν14, _⟩ | ⟨ν14, _⟩
    ·exact sq φ (Fr.cons φ.fr0 (φ.at_ 5 5 36 _ rfl hd5)) ς (Rn.same (r_lde (s := (⟨vm, rvs M2⟩ : Ls RV)) (i := d) (v := (nth (rvs M2) d).v) ti_70 rfl rfl rfl (fun w h => h.matAt 2 rfl) (by rw [rvs_len]; exact (show d < M2.length from (by omega))) (Nat.le_of_ble_eq_true rfl) rfl) (nth_rvs M2 d)) 6 rfl rfl rfl rfl rfl rfl fun a hg => Or.inl (⟨un rfl ν14, un rfl ν15, un rfl ν16, hg, ς⟩)
    ·exact no_way (cA hcl 14 6 rfl ν14) hSi
    ·exact sq φ (Fr.cons φ.fr0 (φ.at_ 5 5 36 _ rfl hd5)) ς (Rn.same (r_lde (s := (⟨vm, rvs M2⟩ : Ls RV)) (i := d) (v := (nth (rvs M2) d).v) ti_70 rfl rfl rfl (fun w h => h.matAt 3 rfl) (by rw [rvs_len]; exact (show d < M2.length from (by omega))) (Nat.le_of_ble_eq_true rfl) rfl) (nth_rvs M2 d)) 6 rfl rfl rfl rfl rfl rfl fun a hg => Or.inr (Or.inr (Or.inl (⟨un rfl ν14, un rfl ν15, un rfl ν16, b7015, hg, ς⟩)))
    ·exact no_way (cA hcl 14 6 rfl ν14) hSi
    ·exact no_way (cA hcl 14 6 rfl ν14) hSi
   ·obtain rfl : _ = o := Option.some.inj ho
    rcases hI with ⟨ν14, ν15, ν16, φ, ς⟩ | ⟨ν14, _⟩ | ⟨ν14, ν15, ν16, b7015, φ, ς⟩ | ⟨ν14, _⟩ | ⟨ν14, _⟩
    ·exact sq φ φ.fr0 ς (r_move rfl rfl) 7 rfl rfl rfl rfl rfl rfl fun a hg => Or.inl (⟨un rfl ν14, un rfl ν15, un rfl ν16, hg, ς⟩)
    ·exact no_way (cA hcl 14 7 rfl ν14) hSi
    ·exact sq φ φ.fr0 ς (r_move rfl rfl) 7 rfl rfl rfl rfl rfl rfl fun a hg => Or.inr (Or.inr (Or.inl (⟨un rfl ν14, un rfl ν15, un rfl ν16, b7015, hg, ς⟩)))
    ·exact no_way (cA hcl 14 7 rfl ν14) hSi
    ·exact no_way (cA hcl 14 7 rfl ν14) hSi
   ·obtain rfl : _ = o := Option.some.inj ho
    have hd6 : S 6 = true := depAt hdep 0 rfl rfl
    have hd7 : S 7 = true := depAt hdep 1 rfl rfl
    rcases hI with ⟨ν14, ν15, ν16, φ, ς⟩ | ⟨ν14, _⟩ | ⟨ν14, ν15, ν16, b7015, φ, ς⟩ | ⟨ν14, _⟩ | ⟨ν14, _⟩
    ·have hs := St.mk (Fr.cons (Fr.cons φ.fr0 (φ.at_ 6 6 37 _ rfl hd6)) (φ.at_ 7 7 38 _ rfl hd7)) ς
     have hl52 : ((nth M2 d).l).length ≤ 140737488355328 := (hs.sh.matRow 2 rfl d (show d < M2.length from (by omega))).len
     exact sq φ (Fr.cons (Fr.cons φ.fr0 (φ.at_ 6 6 37 _ rfl hd6)) (φ.at_ 7 7 38 _ rfl hd7)) ς (r_ixN (s := (nth M2 d)) (q := r) sl_70 ti_68 rfl rfl rfl (fun w h => (h.matRow 2 rfl d (show d < M2.length from (by omega)))) (show r < ((nth M2 d).l).length from (by omega))) 8 rfl rfl rfl rfl rfl rfl fun a hg => Or.inl (⟨un rfl ν14, un rfl ν15, un rfl ν16, hg, ς⟩)
    ·exact no_way (cA hcl 14 8 rfl ν14) hSi
    ·have hs := St.mk (Fr.cons (Fr.cons φ.fr0 (φ.at_ 6 6 37 _ rfl hd6)) (φ.at_ 7 7 38 _ rfl hd7)) ς
     have hl54 : ((nth M2 d).l).length ≤ 140737488355328 := (hs.sh.matRow 3 rfl d (show d < M2.length from (by omega))).len
     exact sq φ (Fr.cons (Fr.cons φ.fr0 (φ.at_ 6 6 37 _ rfl hd6)) (φ.at_ 7 7 38 _ rfl hd7)) ς (r_ixN (s := (nth M2 d)) (q := r) sl_70 ti_68 rfl rfl rfl (fun w h => (h.matRow 3 rfl d (show d < M2.length from (by omega)))) (show r < ((nth M2 d).l).length from (by omega))) 8 rfl rfl rfl rfl rfl rfl fun a hg => Or.inr (Or.inr (Or.inl (⟨un rfl ν14, un rfl ν15, un rfl ν16, b7015, hg, ς⟩)))
    ·exact no_way (cA hcl 14 8 rfl ν14) hSi
    ·exact no_way (cA hcl 14 8 rfl ν14) hSi
   ·obtain rfl : _ = o := Option.some.inj ho
    have hd8 : S 8 = true := depAt hdep 0 rfl rfl
    rcases hI with ⟨ν14, ν15, ν16, φ, ς⟩ | ⟨ν14, _⟩ | ⟨ν14, ν15, ν16, b7015, φ, ς⟩ | ⟨ν14, _⟩ | ⟨ν14, _⟩
    ·exact sq φ (Fr.cons φ.fr0 (φ.at_ 8 8 39 _ rfl hd8)) ς (r_ldew (s := (nth M2 d)) (i := r) (vs := [.int .i64 ((nth ((nth M2 d).l) r).s), .int .i64 ((nth ((nth M2 d).l) r).n)]) ti_68 rfl rfl rfl (fun w h => (h.matRow 2 rfl d (show d < M2.length from (by omega)))) (show r < ((nth M2 d).l).length from (by omega)) (Nat.le_of_ble_eq_true rfl) rfl) 9 rfl rfl rfl rfl rfl rfl fun a hg => Or.inl (⟨un rfl ν14, un rfl ν15, un rfl ν16, hg, ς⟩)
    ·exact no_way (cA hcl 14 9 rfl ν14) hSi
    ·exact sq φ (Fr.cons φ.fr0 (φ.at_ 8 8 39 _ rfl hd8)) ς (r_ldew (s := (nth M2 d)) (i := r) (vs := [.int .i64 ((nth ((nth M2 d).l) r).s), .int .i64 ((nth ((nth M2 d).l) r).n)]) ti_68 rfl rfl rfl (fun w h => (h.matRow 3 rfl d (show d < M2.length from (by omega)))) (show r < ((nth M2 d).l).length from (by omega)) (Nat.le_of_ble_eq_true rfl) rfl) 9 rfl rfl rfl rfl rfl rfl fun a hg => Or.inr (Or.inr (Or.inl (⟨un rfl ν14, un rfl ν15, un rfl ν16, b7015, hg, ς⟩)))
    ·exact no_way (cA hcl 14 9 rfl ν14) hSi
    ·exact no_way (cA hcl 14 9 rfl ν14) hSi
   ·obtain rfl : _ = o := Option.some.inj ho
    rcases hI with ⟨ν14, ν15, ν16, φ, ς⟩ | ⟨ν14, _⟩ | ⟨ν14, ν15, ν16, b7015, φ, ς⟩ | ⟨ν14, _⟩ | ⟨ν14, _⟩
    ·exact sq φ φ.fr0 ς (r_move rfl rfl) 10 rfl rfl rfl rfl rfl rfl fun a hg => Or.inl (⟨un rfl ν14, un rfl ν15, un rfl ν16, hg, ς⟩)
    ·exact no_way (cA hcl 14 10 rfl ν14) hSi
    ·exact sq φ φ.fr0 ς (r_move rfl rfl) 10 rfl rfl rfl rfl rfl rfl fun a hg => Or.inr (Or.inr (Or.inl (⟨un rfl ν14, un rfl ν15, un rfl ν16, b7015, hg, ς⟩)))
    ·exact no_way (cA hcl 14 10 rfl ν14) hSi
    ·exact no_way (cA hcl 14 10 rfl ν14) hSi
   ·obtain rfl : _ = o := Option.some.inj ho
    rcases hI with ⟨ν14, ν15, ν16, φ, ς⟩ | ⟨ν14, _⟩ | ⟨ν14, ν15, ν16, b7015, φ, ς⟩ | ⟨ν14, _⟩ | ⟨ν14, _⟩
    ·exact sq φ φ.fr0 ς (r_move rfl rfl) 11 rfl rfl rfl rfl rfl rfl fun a hg => Or.inl (⟨un rfl ν14, un rfl ν15, un rfl ν16, hg, ς⟩)
    ·exact no_way (cA hcl 14 11 rfl ν14) hSi
    ·exact sq φ φ.fr0 ς (r_move rfl rfl) 11 rfl rfl rfl rfl rfl rfl fun a hg => Or.inr (Or.inr (Or.inl (⟨un rfl ν14, un rfl ν15, un rfl ν16, b7015, hg, ς⟩)))
    ·exact no_way (cA hcl 14 11 rfl ν14) hSi
    ·exact no_way (cA hcl 14 11 rfl ν14) hSi
   ·obtain rfl : _ = o := Option.some.inj ho
    have hd10 : S 10 = true := depAt hdep 0 rfl rfl
    have hd11 : S 11 = true := depAt hdep 1 rfl rfl
    rcases hI with ⟨ν14, ν15, ν16, φ, ς⟩ | ⟨ν14, _⟩ | ⟨ν14, ν15, ν16, b7015, φ, ς⟩ | ⟨ν14, _⟩ | ⟨ν14, _⟩
    ·exact sq φ (Fr.cons (Fr.cons φ.fr0 (φ.at_ 10 10 41 _ rfl hd10)) (φ.at_ 11 11 42 _ rfl hd11)) ς (r_ixN (s := env) (q := r) sl_70 ti_68 rfl rfl rfl (fun w h => (h.own 3 rfl)) (show r < env.l.length from (by omega))) 12 rfl rfl rfl rfl rfl rfl fun a hg => Or.inl (⟨un rfl ν14, un rfl ν15, un rfl ν16, hg, ς⟩)
    ·exact no_way (cA hcl 14 12 rfl ν14) hSi
    ·exact sq φ (Fr.cons (Fr.cons φ.fr0 (φ.at_ 10 10 41 _ rfl hd10)) (φ.at_ 11 11 42 _ rfl hd11)) ς (r_ixN (s := env) (q := r) sl_70 ti_68 rfl rfl rfl (fun w h => (h.own 4 rfl)) (show r < env.l.length from (by omega))) 12 rfl rfl rfl rfl rfl rfl fun a hg => Or.inr (Or.inr (Or.inl (⟨un rfl ν14, un rfl ν15, un rfl ν16, b7015, hg, ς⟩)))
    ·exact no_way (cA hcl 14 12 rfl ν14) hSi
    ·exact no_way (cA hcl 14 12 rfl ν14) hSi
   ·obtain rfl : _ = o := Option.some.inj ho
    have hd12 : S 12 = true := depAt hdep 0 rfl rfl
    rcases hI with ⟨ν14, ν15, ν16, φ, ς⟩ | ⟨ν14, _⟩ | ⟨ν14, ν15, ν16, b7015, φ, ς⟩ | ⟨ν14, _⟩ | ⟨ν14, _⟩
    ·exact sq φ (Fr.cons φ.fr0 (φ.at_ 12 12 43 _ rfl hd12)) ς (r_ldew (s := env) (i := r) (vs := [.int .i64 ((nth env.l r).s), .int .i64 ((nth env.l r).n)]) ti_68 rfl rfl rfl (fun w h => (h.own 3 rfl)) (show r < env.l.length from (by omega)) (Nat.le_of_ble_eq_true rfl) rfl) 13 rfl rfl rfl rfl rfl rfl fun a hg => Or.inl (⟨un rfl ν14, un rfl ν15, un rfl ν16, hg, ς⟩)
    ·exact no_way (cA hcl 14 13 rfl ν14) hSi
    ·exact sq φ (Fr.cons φ.fr0 (φ.at_ 12 12 43 _ rfl hd12)) ς (r_ldew (s := env) (i := r) (vs := [.int .i64 ((nth env.l r).s), .int .i64 ((nth env.l r).n)]) ti_68 rfl rfl rfl (fun w h => (h.own 4 rfl)) (show r < env.l.length from (by omega)) (Nat.le_of_ble_eq_true rfl) rfl) 13 rfl rfl rfl rfl rfl rfl fun a hg => Or.inr (Or.inr (Or.inl (⟨un rfl ν14, un rfl ν15, un rfl ν16, b7015, hg, ς⟩)))
    ·exact no_way (cA hcl 14 13 rfl ν14) hSi
    ·exact no_way (cA hcl 14 13 rfl ν14) hSi
   ·obtain rfl : _ = o := Option.some.inj ho
    have hd9 : S 9 = true := depAt hdep 0 rfl rfl
    have hd13 : S 13 = true := depAt hdep 1 rfl rfl
    rcases hI with ⟨ν14, ν15, ν16, φ, ς⟩ | ⟨ν14, _⟩ | ⟨ν14, ν15, ν16, b7015, φ, ς⟩ | ⟨ν14, _⟩ | ⟨ν14, _⟩
    ·have hs := St.mk (Fr.cons (Fr.cons φ.fr0 (φ.at_ 9 9 40 _ rfl hd9)) (φ.at_ 13 13 44 _ rfl hd13)) ς
     refine step_ex (x_call hs bd_63 rfl rfl rfl rfl rfl (meetR_c (nth ((nth M2 d).l) r) (nth env.l r) _)) (wanted_none rfl _) ?_
     rintro a66 w66 ⟨_, ⟨rfl, hs66⟩, hf66⟩ ⟨v0, ht66⟩
     have h66 : St 89 K W a66 w66 _ _ := ⟨hf66, hs.sh.call0 hs66⟩
     clear hf66 hs66
     exact Or.inr (Or.inl (⟨upd_self _ _, un rfl ν15, un rfl ν16, φ.stepW hcl hSi [0, 1, 2, 3, 4, 5, 6, 7, 8, 9, 10, 11, 12, 13] (by kernel_rfl) (by kernel_rfl) ht66 h66.fr.defers (h66.fr.at_ 45 _ rfl) 14 rfl rfl rfl rfl, (h66.sh.sel [0, 1, 2, 3] rfl)⟩))
    ·exact no_way ν14 hSi
    ·have hs := St.mk (Fr.cons (Fr.cons φ.fr0 (φ.at_ 9 9 40 _ rfl hd9)) (φ.at_ 13 13 44 _ rfl hd13)) ς
     refine step_ex (x_call hs bd_63 rfl rfl rfl rfl rfl (meetR_c (nth ((nth M2 d).l) r) (nth env.l r) _)) (wanted_none rfl _) ?_
     rintro a67 w67 ⟨_, ⟨rfl, hs67⟩, hf67⟩ ⟨v0, ht67⟩
     have h67 : St 89 K W a67 w67 _ _ := ⟨hf67, hs.sh.call0 hs67⟩
     clear hf67 hs67
     exact Or.inr (Or.inr (Or.inr (Or.inl (⟨upd_self _ _, un rfl ν15, un rfl ν16, b7015, φ.stepW hcl hSi [0, 1, 2, 3, 4, 5, 6, 7, 8, 9, 10, 11, 12, 13, 15] (by kernel_rfl) (by kernel_rfl) ht67 h67.fr.defers (h67.fr.at_ 45 _ rfl) 14 rfl rfl rfl rfl, (h67.sh.sel [0, 1, 2, 3, 4] rfl)⟩))))
    ·exact no_way ν14 hSi
    ·exact no_way ν14 hSi
   ·obtain rfl : _ = o := Option.some.inj ho
    rcases hI with ⟨ν14, ν15, ν16, φ, ς⟩ | ⟨ν14, ν15, ν16, φ, ς⟩ | ⟨_, ν15, _⟩ | ⟨_, ν15, _⟩ | ⟨_, ν15, _⟩
    ·have hs := St.mk φ.fr0 ς
     refine step_ex (x_alloc hs ti_68 rfl rfl rfl) (wanted_none rfl _) ?_
     rintro a68 w68 ⟨b68, h68⟩ ⟨v0, ht68⟩
     exact Or.inr (Or.inr (Or.inl (⟨un rfl ν14, upd_self _ _, un rfl ν16, b68, φ.stepW hcl hSi [0, 1, 2, 3, 4, 5, 6, 7, 8, 9, 10, 11, 12, 13] (by kernel_rfl) (by kernel_rfl) ht68 h68.fr.defers (h68.fr.at_ 7 _ rfl) 14 rfl rfl rfl rfl, (h68.sh.sel [0, 1, 2, 3, 4] rfl)⟩)))
    ·have hs := St.mk φ.fr0 ς
     refine step_ex (x_alloc hs ti_68 rfl rfl rfl) (wanted_none rfl _) ?_
     rintro a69 w69 ⟨b69, h69⟩ ⟨v0, ht69⟩
     exact Or.inr (Or.inr (Or.inr (Or.inl (⟨un rfl ν14, upd_self _ _, un rfl ν16, b69, φ.stepW hcl hSi [0, 1, 2, 3, 4, 5, 6, 7, 8, 9, 10, 11, 12, 13, 14] (by kernel_rfl) (by kernel_rfl) ht69 h69.fr.defers (h69.fr.at_ 7 _ rfl) 15 rfl rfl rfl rfl, (h69.sh.sel [0, 1, 2, 3, 4] rfl)⟩))))
    ·exact no_way ν15 hSi
    ·exact no_way ν15 hSi
    ·exact no_way ν15 hSi
   ·obtain rfl : _ = o := Option.some.inj ho
    have hd15 : S 15 = true := depAt hdep 0 rfl rfl
    have hd14 : S 14 = true := depAt hdep 1 rfl rfl
    rcases hI with ⟨ν14, _⟩ | ⟨_, ν15, _⟩ | ⟨ν14, _⟩ | ⟨ν14, ν15, ν16, b7015, φ, ς⟩ | ⟨_, _, ν16, _⟩
    ·exact no_way hd14 ν14
    ·exact no_way hd15 ν15
    ·exact no_way hd14 ν14
    ·have hs := St.mk (Fr.cons (Fr.cons φ.fr0 (φ.at_ 14 14 45 _ rfl hd14)) (φ.at_ 15 15 7 _ rfl hd15)) ς
     refine step_ex (x_stb (i := 0) (vs := [.int .i64 ((meetR (nth ((nth M2 d).l) r) (nth env.l r)).s), .int .i64 ((meetR (nth ((nth M2 d).l) r) (nth env.l r)).n)]) (cs' := [.int .i64 ((meetR (nth ((nth M2 d).l) r) (nth env.l r)).s), .int .i64 ((meetR (nth ((nth M2 d).l) r) (nth env.l r)).n)]) hs ti_68 rfl rfl rfl rfl rfl rfl rfl (allOne_cons rfl (allOne_cons rfl allOne_nil)) (Nat.le_of_ble_eq_true rfl) rfl) (wanted_none rfl _) ?_
     rintro a70 w70 h70 ⟨v0, ht70⟩
     exact Or.inr (Or.inr (Or.inr (Or.inr (⟨un rfl ν14, un rfl ν15, upd_self _ _, b7015, φ.noneW hcl hSi [0, 1, 2, 3, 4, 5, 6, 7, 8, 9, 10, 11, 12, 13, 14, 15] (by kernel_rfl) (by kernel_rfl) ht70 h70.fr.defers rfl, (h70.sh.sel [0, 1, 2, 3, 4] rfl)⟩))))
    ·exact no_way ν16 hSi
   · simp at ho
  intro S hall a w hI
  clear h29
  rcases hI with ⟨ν14, ν15, ν16, φ, ς⟩ | ⟨ν14, ν15, ν16, φ, ς⟩ | ⟨ν14, ν15, ν16, b7015, φ, ς⟩ | ⟨ν14, ν15, ν16, b7015, φ, ς⟩ | ⟨ν14, ν15, ν16, b7015, φ, ς⟩
  · exact no_way (hall 14 (by decide)) ν14
  · exact no_way (hall 15 (by decide)) ν15
  · exact no_way (hall 14 (by decide)) ν14
  · exact no_way (hall 16 (by decide)) ν16
  have h71 : St 89 K W a w _ _ := ⟨(Fr.cons φ.fr0 (φ.at_ 15 15 7 _ rfl (hall 15 (by decide)))), ς⟩
  clear hall φ ς ν14 ν15 ν16
  refine gG h71<|hK k28<|gK fun _ k72 => fun a74 w74 h74 => x_quiet (by kernel_rfl) (by kernel_rfl) h74 fun _ z75 => qQ h74.fr<|qRn (ofB fl_68_0 rfl<|olB 0 ti_3 rfl rfl<|oM 1 rfl<|onfl 1 fl_66_1 ti_64 rfl rfl<|oM 1 rfl<|oxN sl_64 ti_70 (fun w h => (h.matAt 3 rfl)) _ (by rw [rvs_len]; exact (show d < M2.length from (by omega))) rfl<|oV (Rn.same (r_lde (s := (⟨vm, rvs M2⟩ : Ls RV)) (i := d) (v := (nth (rvs M2) d).v) ti_70 rfl rfl rfl (fun w h => h.matAt 3 rfl) (by rw [rvs_len]; exact (show d < M2.length from om9)) (Nat.le_of_ble_eq_true rfl) rfl) (nth_rvs M2 d)) rfl<|oM 1 rfl<|.nl)<|?_; clear h71
  have hl76 : ((nth M2 d).l).length ≤ 140737488355328 := (h74.sh.matRow 3 rfl d (show d < M2.length from (by omega))).len
  refine qRn (oxN sl_70 ti_68 (fun w h => (h.matRow 3 rfl d (show d < M2.length from (by omega)))) _ om9 rfl<|ofE fl_68_0 rfl<|olE (.int .i64 ((nth ((nth M2 d).l) r).s)) ti_3 (fun w h => (h.matRow 3 rfl d (show d < M2.length from (by omega)))) om9 rfl<|oneI _ _ rfl<|oM 1 rfl<|.nl)<|?_
  rcases dsp ((meetR (nth ((nth M2 d).l) r) (nth env.l r)).s ≠ (nth ((nth M2 d).l) r).s) with ⟨hb77, hp77⟩ | ⟨hb77, hp77⟩
  ·skip
   refine qRn (oKs 14 hb77 rfl rfl<|opT hb77 rfl<|.nl)<|qN z75<|?_; clear h74
   refine hK k72<|gF [0, 1, 2, 6, 7, 75] rfl<|gcT rfl rfl<|gK fun _ k79 => rT 10 [] (oM 1 rfl<|onfl 1 fl_66_1 ti_64 rfl rfl<|oM 1 rfl<|oxN sl_64 ti_70 (fun w h => (h.matAt 3 rfl)) _ (by rw [rvs_len]; exact (show d < M2.length from (by omega))) rfl<|oV (Rn.same (r_lde (s := (⟨vm, rvs M2⟩ : Ls RV)) (i := d) (v := (nth (rvs M2) d).v) ti_70 rfl rfl rfl (fun w h => h.matAt 3 rfl) (by rw [rvs_len]; exact (show d < M2.length from om9)) (Nat.le_of_ble_eq_true rfl) rfl) (nth_rvs M2 d)) rfl<|oM 1 rfl<|olw 0 ti_68 rfl rfl<|oxN sl_70 ti_68 (fun w h => (h.matRow 3 rfl d (show d < M2.length from (by omega)))) _ om9 rfl<|.nl)<|gO [3, 0, 1, 2, 4] rfl<|gE (fun _ _ h_ => x_stMatV (i := d) (q := r) (x' := (meetR (nth ((nth M2 d).l) r) (nth env.l r))) h_ ti_68 rfl rfl rfl (show d < M2.length from om9) (show r < (nth M2 d).l.length from om9) rfl) rfl<|nK k79<|gL<|gRn (oM 1 rfl<|onf fl_66_2 rfl<|.nl)<|gst (v := .bool true) 2 ti_4 rfl rfl rfl<|nK k27<|gL<|gRn (oM 1 rfl<|oadN _ 1 om9 rfl<|oM 1 rfl<|.nl)<|nN<|fun a83 w83 h83 => ?_
   refine x_again ⟨_, ?_, (r + 1), M2.set d ⟨(nth M2 d).v, (nth M2 d).l.set r (meetR (nth ((nth M2 d).l) r) (nth env.l r))⟩, true, ?_, ?_, h83.nrm ⟨rfl, rfl, rfl, rfl, trivial⟩ [2, 3, 0, 4] rfl, rfl⟩
   · rw [hm21]; first | omega | (simp only [lens9]; omega)
   · omega
   · first | exact hld.put (by omega) (by omega) (fun h9 => by simp_all) | exact hld.same (by apply VV.ext' <;> omega)
  refine qRn (oG hb77 (r_fieldB (r := 1) fl_68_1 rfl rfl rfl) rfl<|oG hb77 (r_ldb (i := 0) ti_3 rfl rfl rfl rfl) rfl<|oG hb77 (r_move rfl rfl) rfl<|oG hb77 (r_nil rfl rfl) rfl<|oG hb77 (r_fieldB (r := 1) fl_66_1 rfl rfl rfl) rfl<|oG hb77 (r_ldb (i := 1) ti_64 rfl rfl rfl rfl) rfl<|oG hb77 (r_move rfl rfl) rfl<|oG hb77 (r_ixN (s := (⟨vm, rvs M2⟩ : Ls RV)) (q := d) sl_64 ti_70 rfl rfl rfl (fun w h => (h.matAt 3 rfl)) (by rw [rvs_len]; exact (show d < M2.length from om9))) rfl<|oG hb77 (Rn.same (r_lde (s := (⟨vm, rvs M2⟩ : Ls RV)) (i := d) (v := (nth (rvs M2) d).v) ti_70 rfl rfl rfl (fun w h => h.matAt 3 rfl) (by rw [rvs_len]; exact (show d < M2.length from om9)) (Nat.le_of_ble_eq_true rfl) rfl) (nth_rvs M2 d)) rfl<|oG hb77 (r_move rfl rfl) rfl<|oG hb77 (r_ixN (s := (nth M2 d)) (q := r) sl_70 ti_68 rfl rfl rfl (fun w h => (h.matRow 3 rfl d (show d < M2.length from om9))) (show r < ((nth M2 d).l).length from om9)) rfl<|oG hb77 (r_fieldE (r := 1) fl_68_1 rfl rfl rfl) rfl<|oG hb77 (r_lde (s := (nth M2 d)) (i := r) (v := .int .i64 ((nth ((nth M2 d).l) r).n)) ti_3 rfl rfl rfl (fun w h => (h.matRow 3 rfl d (show d < M2.length from om9))) (show r < ((nth M2 d).l).length from om9) (Nat.le_of_ble_eq_true rfl) rfl) rfl<|oG hb77 (r_neqI (p := (meetR (nth ((nth M2 d).l) r) (nth env.l r)).n) (q := (nth ((nth M2 d).l) r).n) rfl rfl rfl) rfl<|opF hb77 rfl<|.nl)<|qN z75<|?_; clear h74
  refine hK k72<|gF [0, 1, 2, 6, 7, 75] rfl<|gcd rfl (fun hb98 hp98 => ?_) fun hb98 hp98 => ?_
  ·skip
   refine gK fun _ k99 => rT 10 [] (oM 1 rfl<|onfl 1 fl_66_1 ti_64 rfl rfl<|oM 1 rfl<|oxN sl_64 ti_70 (fun w h => (h.matAt 3 rfl)) _ (by rw [rvs_len]; exact (show d < M2.length from (by omega))) rfl<|oV (Rn.same (r_lde (s := (⟨vm, rvs M2⟩ : Ls RV)) (i := d) (v := (nth (rvs M2) d).v) ti_70 rfl rfl rfl (fun w h => h.matAt 3 rfl) (by rw [rvs_len]; exact (show d < M2.length from om9)) (Nat.le_of_ble_eq_true rfl) rfl) (nth_rvs M2 d)) rfl<|oM 1 rfl<|olw 0 ti_68 rfl rfl<|oxN sl_70 ti_68 (fun w h => (h.matRow 3 rfl d (show d < M2.length from (by omega)))) _ om9 rfl<|.nl)<|gO [3, 0, 1, 2, 4] rfl<|gE (fun _ _ h_ => x_stMatV (i := d) (q := r) (x' := (meetR (nth ((nth M2 d).l) r) (nth env.l r))) h_ ti_68 rfl rfl rfl (show d < M2.length from om9) (show r < (nth M2 d).l.length from om9) rfl) rfl<|nK k99<|gL<|gRn (oM 1 rfl<|onf fl_66_2 rfl<|.nl)<|gst (v := .bool true) 2 ti_4 rfl rfl rfl<|nK k27<|gL<|gRn (oM 1 rfl<|oadN _ 1 om9 rfl<|oM 1 rfl<|.nl)<|nN<|fun a103 w103 h103 => ?_
   refine x_again ⟨_, ?_, (r + 1), M2.set d ⟨(nth M2 d).v, (nth M2 d).l.set r (meetR (nth ((nth M2 d).l) r) (nth env.l r))⟩, true, ?_, ?_, h103.nrm ⟨rfl, rfl, rfl, rfl, trivial⟩ [2, 3, 0, 4] rfl, rfl⟩
   · rw [hm21]; first | omega | (simp only [lens9]; omega)
   · omega
   · first | exact hld.put (by omega) (by omega) (fun h9 => by simp_all) | exact hld.same (by apply VV.ext' <;> omega)
  refine gS<|hK k27<|gL<|gRn (oM 1 rfl<|oadN _ 1 om9 rfl<|oM 1 rfl<|.nl)<|nN<|fun a104 w104 h104 => x_again ⟨_, ?_, (r + 1), M2, mo2, ?_, ?_, h104.nrm ⟨rfl, rfl, rfl, rfl, trivial⟩ [1, 2, 3, 4] rfl, rfl⟩
  · rw [hm21]; first | omega | (simp only [lens9]; omega)
  · omega
  · first | exact hld.put (by omega) (by omega) (fun h9 => by simp_all) | exact hld.same (by apply VV.ext' <;> omega)
 refine gX<|fun a105 w105 h105 => ?_
 try simp only [Exit.then, Exit.inBlock, if_true]
 refine x_end0 (fn := Try.f48) rfl h105 ?_
 obtain ⟨rfl, rfl⟩ := hg1
 obtain rfl : r = R := by omega
 have h9 := hld.leadR hO hd he
 exact ⟨_, M2, mo2, rfl, h9.1, h9.2, h105.sh⟩

end Go.Proofs.Ytmgikmjmdppfmaa
