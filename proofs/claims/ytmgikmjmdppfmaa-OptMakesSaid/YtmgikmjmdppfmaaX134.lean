/-
  What opt makes of a program is what the document makes.
-/
import Derived.Test.YtmgikmjmdppfmaaX133
import Derived.Test.YtmgikmjmdppfmaaX129
import Derived.Test.YtmgikmjmdppfmaaX6
import Derived.Test.YtmgikmjmdppfmaaC2
namespace Go.Proofs.Ytmgikmjmdppfmaa
open Go.RowKit
set_option linter.unusedSimpArgs false
set_option linter.unusedVariables false
set_option maxRecDepth 100000
set_option maxHeartbeats 4000000


theorem neq_flt (f g : Flt) (w : World) : (binOp .neq 29 f.val g.val).run Try.prog w = .ok (.bool (decide (f ≠ g))) w := by
  obtain ⟨a, b, c⟩ := f
  obtain ⟨a', b', c'⟩ := g
  simp [binOp, Flt.val, Op.equal, Op.maxDepth, go_sem]
  by_cases h1 : a = a' <;> by_cases h2 : b = b' <;> by_cases h3 : c = c' <;> simp [h1, h2, h3]
theorem neq_fltG (x y : Operand) (f g : Flt) (w : World) : (eqGuard .neq 29 x y f.val g.val).run Try.prog w = .ok () w := by
  simp [eqGuard, Flt.val]
  try kernel_rfl

theorem optMakes_v (code : Ls (Ls Ins)) (words : Ls Int) (locks regs : Int) (W : World) (hcode : code.At W) (hwords : words.At W) (hv : vastG (code.l.map (·.l)) words.l = true) :
    Rets Try.prog 3 [.agg #[code.v, words.v, .int .i64 locks, .int .i64 regs]] W (fun v w' => v = .bool true ∧ Sh0 W w' []) := by
 refine gen Try.func3 Try.ntmps3 (Sh0.ext2 hcode hwords : Sh (fun _ => False) W W [.at_ code, .at_ words]) rfl fun a10 h10 => gG h10<|sK fun _ k11 => gbx rfl rfl fun b12 => gRn (oM 1 rfl<|.nl)<|nK k11<|gK fun _ k13 => sK fun _ k14 => gRn (olw 0 ti_25 rfl rfl<|.nl)<|gC (fun _ _ h_ => xCl h_ bd_6 rfl (vast_c (code := code) (words := words) (locks := locks) (regs := regs) (h_.sh.at 1 rfl) (h_.sh.at 2 rfl))) rfl<|?_; clear h10
 rintro _ _ w15 ⟨rfl, hs15⟩
 refine gWk hs15 rfl<|gU<|nK k14<|gcT rfl hv<|sG (oM 1 rfl<|.nl)<|gR<|uT<|fun a17 w17 h17 => ?_; clear hs15
 refine x_ret1 (fn := Try.f3) (t := 2) rfl h17 rfl ?_
 exact ⟨rfl, (h17.sh.sel [] rfl)⟩

theorem optMakes_b (code : Ls (Ls Ins)) (words : Ls Int) (locks regs : Int) (W : World) (hcode : code.At W) (hwords : words.At W) (hv : vastG (code.l.map (·.l)) words.l = false) (hz : (checkG (pgOf code words locks regs)).code ≠ 0) :
    Rets Try.prog 3 [.agg #[code.v, words.v, .int .i64 locks, .int .i64 regs]] W (fun v w' => v = .bool true ∧ Sh0 W w' []) := by
 refine gen Try.func3 Try.ntmps3 (Sh0.ext2 hcode hwords : Sh (fun _ => False) W W [.at_ code, .at_ words]) rfl fun a10 h10 => gG h10<|sK fun _ k11 => gbx rfl rfl fun b12 => gRn (oM 1 rfl<|.nl)<|nK k11<|gK fun _ k13 => sK fun _ k14 => gRn (olw 0 ti_25 rfl rfl<|.nl)<|gC (fun _ _ h_ => xCl h_ bd_6 rfl (vast_c (code := code) (words := words) (locks := locks) (regs := regs) (h_.sh.at 1 rfl) (h_.sh.at 2 rfl))) rfl<|?_; clear h10
 rintro _ _ w15 ⟨rfl, hs15⟩
 refine gWk hs15 rfl<|gU<|nK k14<|gcF rfl hv<|gS<|hK k13<|sK fun _ k16 => gRn (olw 0 ti_25 rfl rfl<|.nl)<|gC (fun _ _ h_ => xCl h_ bd_7 rfl (oConst_b code words locks regs _ (h_.sh.at 1 rfl) (h_.sh.at 2 rfl) hz)) rfl<|?_; clear hs15
 rintro _ _ w17 ⟨rfl, hs17⟩
 refine gWk hs17 rfl<|gU<|gRn (oM 1 rfl<|oxt rfl<|oxt rfl<|.nl)<|gal ti_25 rfl fun b18 => gal ti_29 rfl fun b19 => gE (fun _ _ h_ => x_stb (i := 1) (vs := [(.slice none 0 0), (.slice none 0 0), .int .i64 0, .int .i64 0]) (cs' := [(.slice none 0 0), (.slice none 0 0), .int .i64 0, .int .i64 0]) h_ ti_25 rfl rfl rfl rfl rfl rfl rfl (allOne_cons ((Sh.nilAt (α := Ls Ins) h_.sh)).one (allOne_cons ((Sh.nilAt (α := Int) h_.sh)).one (allOne_cons rfl (allOne_cons rfl allOne_nil)))) (Nat.le_of_ble_eq_true rfl) rfl) rfl<|gsw 0 ti_29 rfl rfl rfl<|nK k16<|sK fun _ k22 => gRn (olw 2 ti_25 rfl rfl<|.nl)<|gC (fun _ _ h_ => xCl h_ bd_8 rfl (oDead_b code words locks regs _ (h_.sh.at 3 rfl) (h_.sh.at 4 rfl) hz)) rfl<|?_; clear hs17
 rintro _ _ w23 ⟨rfl, hs23⟩
 refine gWk hs23 rfl<|gU<|gRn (oM 1 rfl<|oxt rfl<|oxt rfl<|.nl)<|gal ti_25 rfl fun b24 => gal ti_29 rfl fun b25 => gE (fun _ _ h_ => x_stb (i := 1) (vs := [(.slice none 0 0), (.slice none 0 0), .int .i64 0, .int .i64 0]) (cs' := [(.slice none 0 0), (.slice none 0 0), .int .i64 0, .int .i64 0]) h_ ti_25 rfl rfl rfl rfl rfl rfl rfl (allOne_cons ((Sh.nilAt (α := Ls Ins) h_.sh)).one (allOne_cons ((Sh.nilAt (α := Int) h_.sh)).one (allOne_cons rfl (allOne_cons rfl allOne_nil)))) (Nat.le_of_ble_eq_true rfl) rfl) rfl<|gsw 0 ti_29 rfl rfl rfl<|nK k22<|sK fun _ k28 => gRn (olw 4 ti_25 rfl rfl<|.nl)<|gC (fun _ _ h_ => xCl h_ bd_9 rfl (refCheck_c (code := code) (words := words) (locks := locks) (regs := regs) (h_.sh.at 5 rfl) (h_.sh.at 6 rfl))) rfl<|?_; clear hs23
 rintro _ _ w29 ⟨rfl, hs29⟩
 refine gWk hs29 rfl<|gU<|gal ti_29 rfl fun b30 => gsw 0 ti_29 rfl rfl rfl<|nK k28<|gK fun _ k32 => sG (olw 3 ti_29 rfl rfl<|olw 0 ti_29 rfl rfl<|oV (r_neqS rfl rfl rfl (fun w => neq_fltG _ _ ⟨(checkG (pgOf code words locks regs)).code, (checkG (pgOf code words locks regs)).thread, (checkG (pgOf code words locks regs)).at_⟩ ⟨(checkG (pgOf code words locks regs)).code, (checkG (pgOf code words locks regs)).thread, (checkG (pgOf code words locks regs)).at_⟩ w) (fun w => neq_flt ⟨(checkG (pgOf code words locks regs)).code, (checkG (pgOf code words locks regs)).thread, (checkG (pgOf code words locks regs)).at_⟩ ⟨(checkG (pgOf code words locks regs)).code, (checkG (pgOf code words locks regs)).thread, (checkG (pgOf code words locks regs)).at_⟩ w)) rfl<|oM 1 rfl<|oG (decide_eq_false (fun h => h rfl)) (r_ldbw (i := 1) (vs := [.int .i64 ((checkG (pgOf code words locks regs)).code), .int .i64 ((checkG (pgOf code words locks regs)).thread), .int .i64 ((checkG (pgOf code words locks regs)).at_)]) ti_29 rfl rfl rfl rfl rfl) rfl<|oG (decide_eq_false (fun h => h rfl)) (r_ldbw (i := 0) (vs := [.int .i64 ((checkG (pgOf code words locks regs)).code), .int .i64 ((checkG (pgOf code words locks regs)).thread), .int .i64 ((checkG (pgOf code words locks regs)).at_)]) ti_29 rfl rfl rfl rfl rfl) rfl<|oG (decide_eq_false (fun h => h rfl)) (r_neqS rfl rfl rfl (fun w => neq_fltG _ _ ⟨(checkG (pgOf code words locks regs)).code, (checkG (pgOf code words locks regs)).thread, (checkG (pgOf code words locks regs)).at_⟩ ⟨(checkG (pgOf code words locks regs)).code, (checkG (pgOf code words locks regs)).thread, (checkG (pgOf code words locks regs)).at_⟩ w) (fun w => neq_flt ⟨(checkG (pgOf code words locks regs)).code, (checkG (pgOf code words locks regs)).thread, (checkG (pgOf code words locks regs)).at_⟩ ⟨(checkG (pgOf code words locks regs)).code, (checkG (pgOf code words locks regs)).thread, (checkG (pgOf code words locks regs)).at_⟩ w)) rfl<|opF (decide_eq_false (fun h => h rfl)) rfl<|.nl)<|gF [1, 3, 5, 7, 35] rfl<|gcF rfl (decide_eq_false (fun h => h rfl))<|gS<|hK k32<|gK fun _ k34 => sG (ofB fl_29_0 rfl<|olB 0 ti_27 rfl rfl<|oneI _ _ rfl<|.nl)<|gcT rfl (decide_eq_true hz)<|sK fun _ k36 => gRn (olw 4 ti_25 rfl rfl<|.nl)<|gC (fun _ _ h_ => xCl h_ bd_10 rfl (none_c (⟨.slice none 0 0, []⟩ : Ls (Ls Ins)) (⟨.slice none 0 0, []⟩ : Ls Int) 0 0 _ (Sh.nilAt (α := Ls Ins) h_.sh) (Sh.nilAt (α := Int) h_.sh))) rfl<|?_; clear hs29
 rintro _ _ w37 ⟨rfl, hs37⟩
 refine gWk hs37 rfl<|gU<|gRn (oM 1 rfl<|.nl)<|nK k36<|sK fun _ k38 => gRn (olw 2 ti_25 rfl rfl<|.nl)<|gC (fun _ _ h_ => xCl h_ bd_10 rfl (none_c (⟨.slice none 0 0, []⟩ : Ls (Ls Ins)) (⟨.slice none 0 0, []⟩ : Ls Int) 0 0 _ (Sh.nilAt (α := Ls Ins) h_.sh) (Sh.nilAt (α := Int) h_.sh))) rfl<|?_; clear hs37
 rintro _ _ w39 ⟨rfl, hs39⟩
 refine gWk hs39 rfl<|gU<|gRn (oM 1 rfl<|.nl)<|nK k38<|sG (oM 2 rfl<|oG rfl (r_move rfl rfl) rfl<|opT rfl rfl<|oM 1 rfl<|.nl)<|gR<|uT<|fun a41 w41 h41 => ?_; clear hs39
 refine x_ret1 (fn := Try.f3) (t := 2) rfl h41 rfl ?_
 exact ⟨rfl, (h41.sh.sel [] rfl)⟩

theorem optMakes_k (code : Ls (Ls Ins)) (words : Ls Int) (locks regs : Int) (W : World) (hcode : code.At W) (hwords : words.At W) (hv : vastG (code.l.map (·.l)) words.l = false) (hok : OkPg (pgOf code words locks regs)) :
    Rets Try.prog 3 [.agg #[code.v, words.v, .int .i64 locks, .int .i64 regs]] W (fun v w' => v = .bool true ∧ Sh0 W w' []) := by
 have hz := checkG_ok hok
 obtain ⟨hl1, hl2, hl3, hl4', hl5, hl6, hl7⟩ := ok_len hok
 refine gen Try.func3 Try.ntmps3 (Sh0.ext2 hcode hwords : Sh (fun _ => False) W W [.at_ code, .at_ words]) rfl fun a10 h10 => gG h10<|sK fun _ k11 => gbx rfl rfl fun b12 => gRn (oM 1 rfl<|.nl)<|nK k11<|gK fun _ k13 => sK fun _ k14 => gRn (olw 0 ti_25 rfl rfl<|.nl)<|gC (fun _ _ h_ => xCl h_ bd_6 rfl (vast_c (code := code) (words := words) (locks := locks) (regs := regs) (h_.sh.at 1 rfl) (h_.sh.at 2 rfl))) rfl<|?_; clear h10
 rintro _ _ w15 ⟨rfl, hs15⟩
 refine gWk hs15 rfl<|gU<|nK k14<|gcF rfl hv<|gS<|hK k13<|sK fun _ k16 => gRn (olw 0 ti_25 rfl rfl<|.nl)<|gC (fun _ _ h_ => xCl h_ bd_7 rfl (oConst_k code words locks regs _ (h_.sh.at 1 rfl) (h_.sh.at 2 rfl) hok)) rfl<|?_; clear hs15
 rintro _ _ w17 ⟨c17, u17, rfl, hq17, hu17, hs17⟩
 refine gWk hs17 rfl<|fun a17 h17 => ?_; clear hs17
 refine gG h17<|gRn (oM 1 rfl<|oxt rfl<|oxt rfl<|.nl)<|gal ti_25 rfl fun b18 => gal ti_29 rfl fun b19 => gE (fun _ _ h_ => x_stb (i := 1) (vs := [c17.v, u17.v, .int .i64 locks, .int .i64 regs]) (cs' := [c17.v, u17.v, .int .i64 locks, .int .i64 regs]) h_ ti_25 rfl rfl rfl rfl rfl rfl rfl (allOne_cons ((h_.sh.deep 2 rfl)).one (allOne_cons ((h_.sh.own 3 rfl)).one (allOne_cons rfl (allOne_cons rfl allOne_nil)))) (Nat.le_of_ble_eq_true rfl) rfl) rfl<|gsw 0 ti_29 rfl rfl rfl<|nK k16<|sK fun _ k22 => gRn (olw 4 ti_25 rfl rfl<|.nl)<|gC (fun _ _ h_ => xCl h_ bd_8 rfl (oDead_k code words locks regs _ (h_.sh.at 5 rfl) (h_.sh.at 6 rfl) hok)) rfl<|?_; clear h17
 rintro _ _ w23 ⟨c23, u23, rfl, hq23, hu23, hs23⟩
 refine gWk hs23 rfl<|fun a23 h23 => ?_; clear hs23
 refine gG h23<|gRn (oM 1 rfl<|oxt rfl<|oxt rfl<|.nl)<|gal ti_25 rfl fun b24 => gal ti_29 rfl fun b25 => gE (fun _ _ h_ => x_stb (i := 1) (vs := [c23.v, u23.v, .int .i64 locks, .int .i64 regs]) (cs' := [c23.v, u23.v, .int .i64 locks, .int .i64 regs]) h_ ti_25 rfl rfl rfl rfl rfl rfl rfl (allOne_cons ((h_.sh.deep 2 rfl)).one (allOne_cons ((h_.sh.own 3 rfl)).one (allOne_cons rfl (allOne_cons rfl allOne_nil)))) (Nat.le_of_ble_eq_true rfl) rfl) rfl<|gsw 0 ti_29 rfl rfl rfl<|nK k22<|sK fun _ k28 => gRn (olw 8 ti_25 rfl rfl<|.nl)<|gC (fun _ _ h_ => xCl h_ bd_9 rfl (refCheck_c (code := code) (words := words) (locks := locks) (regs := regs) (h_.sh.at 9 rfl) (h_.sh.at 10 rfl))) rfl<|?_; clear h23
 rintro _ _ w29 ⟨rfl, hs29⟩
 refine gWk hs29 rfl<|gU<|gal ti_29 rfl fun b30 => gsw 0 ti_29 rfl rfl rfl<|nK k28<|gK fun _ k32 => sG (olw 5 ti_29 rfl rfl<|olw 0 ti_29 rfl rfl<|oV (r_neqS rfl rfl rfl (fun w => neq_fltG _ _ ⟨0, 0, 0⟩ ⟨(checkG (pgOf code words locks regs)).code, (checkG (pgOf code words locks regs)).thread, (checkG (pgOf code words locks regs)).at_⟩ w) (fun w => neq_flt ⟨0, 0, 0⟩ ⟨(checkG (pgOf code words locks regs)).code, (checkG (pgOf code words locks regs)).thread, (checkG (pgOf code words locks regs)).at_⟩ w)) rfl<|oM 1 rfl<|oG (decide_eq_false (fun h => h (by rw [hz]))) (r_ldbw (i := 1) (vs := [.int .i64 0, .int .i64 0, .int .i64 0]) ti_29 rfl rfl rfl rfl rfl) rfl<|oG (decide_eq_false (fun h => h (by rw [hz]))) (r_ldbw (i := 0) (vs := [.int .i64 ((checkG (pgOf code words locks regs)).code), .int .i64 ((checkG (pgOf code words locks regs)).thread), .int .i64 ((checkG (pgOf code words locks regs)).at_)]) ti_29 rfl rfl rfl rfl rfl) rfl<|oG (decide_eq_false (fun h => h (by rw [hz]))) (r_neqS rfl rfl rfl (fun w => neq_fltG _ _ ⟨0, 0, 0⟩ ⟨(checkG (pgOf code words locks regs)).code, (checkG (pgOf code words locks regs)).thread, (checkG (pgOf code words locks regs)).at_⟩ w) (fun w => neq_flt ⟨0, 0, 0⟩ ⟨(checkG (pgOf code words locks regs)).code, (checkG (pgOf code words locks regs)).thread, (checkG (pgOf code words locks regs)).at_⟩ w)) rfl<|opF (decide_eq_false (fun h => h (by rw [hz]))) rfl<|.nl)<|gF [1, 3, 5, 7, 35] rfl<|gcF rfl (decide_eq_false (fun h => h (by rw [hz])))<|gS<|hK k32<|gK fun _ k34 => sG (ofB fl_29_0 rfl<|olB 0 ti_27 rfl rfl<|oneI _ _ rfl<|.nl)<|gcF rfl (by rw [hz]; rfl)<|gS<|hK k34<|sK fun _ k36 => gRn (olw 9 ti_25 rfl rfl<|.nl)<|gC (fun _ _ h_ => xCl h_ bd_11 rfl (rConst_c code words locks regs _ (h_.sh.at 10 rfl) (h_.sh.at 11 rfl) hok)) rfl<|?_; clear hs29
 rintro _ _ w37 ⟨c37, u37, rfl, hq37, hu37, hs37⟩
 refine gWk hs37 rfl<|fun a37 h37 => ?_; clear hs37
 refine gG h37<|gal ti_25 rfl fun b38 => gE (fun _ _ h_ => x_stb (i := 0) (vs := [c37.v, u37.v, .int .i64 locks, .int .i64 regs]) (cs' := [c37.v, u37.v, .int .i64 locks, .int .i64 regs]) h_ ti_25 rfl rfl rfl rfl rfl rfl rfl (allOne_cons ((h_.sh.deep 1 rfl)).one (allOne_cons ((h_.sh.own 2 rfl)).one (allOne_cons rfl (allOne_cons rfl allOne_nil)))) (Nat.le_of_ble_eq_true rfl) rfl) rfl<|nK k36<|sK fun _ k40 => gRn (olw 12 ti_25 rfl rfl<|.nl)<|gC (fun _ _ h_ => xCl h_ bd_12 rfl (rDead_c code words locks regs _ (h_.sh.at 13 rfl) (h_.sh.at 14 rfl) hok)) rfl<|?_; clear h37
 rintro _ _ w41 ⟨c41, u41, rfl, hq41, hu41, hs41⟩
 refine gWk hs41 rfl<|fun a41 h41 => ?_; clear hs41
 refine gG h41<|gal ti_25 rfl fun b42 => gE (fun _ _ h_ => x_stb (i := 0) (vs := [c41.v, u41.v, .int .i64 locks, .int .i64 regs]) (cs' := [c41.v, u41.v, .int .i64 locks, .int .i64 regs]) h_ ti_25 rfl rfl rfl rfl rfl rfl rfl (allOne_cons ((h_.sh.deep 1 rfl)).one (allOne_cons ((h_.sh.own 2 rfl)).one (allOne_cons rfl (allOne_cons rfl allOne_nil)))) (Nat.le_of_ble_eq_true rfl) rfl) rfl<|nK k40<|sK fun _ k44 => gRn (olw 12 ti_25 rfl rfl<|olw 3 ti_25 rfl rfl<|.nl)<|gC (fun _ _ h_ => xCl h_ bd_13 rfl (same_c c17 u17 locks regs c37 u37 locks regs _ (h_.sh.deep 13 rfl) (h_.sh.own 14 rfl) (h_.sh.deep 4 rfl) (h_.sh.own 5 rfl))) rfl<|?_; clear h41
 rintro _ _ w45 ⟨rfl, hs45⟩
 refine gWk hs45 rfl<|gU<|gRn (oM 1 rfl<|.nl)<|nK k44<|sK fun _ k46 => gRn (olw 8 ti_25 rfl rfl<|olw 0 ti_25 rfl rfl<|.nl)<|gC (fun _ _ h_ => xCl h_ bd_13 rfl (same_c c23 u23 locks regs c41 u41 locks regs _ (h_.sh.deep 9 rfl) (h_.sh.own 10 rfl) (h_.sh.deep 1 rfl) (h_.sh.own 2 rfl))) rfl<|?_; clear hs45
 rintro _ _ w47 ⟨rfl, hs47⟩
 refine gWk hs47 rfl<|gU<|gRn (oM 1 rfl<|.nl)<|nK k46<|sG (oM 2 rfl<|oG (decide_eq_true (pg_eq2 (by simp only [*]) (by simp only [*]))) (r_move rfl rfl) rfl<|opT (decide_eq_true (pg_eq2 (by simp only [*]) (by simp only [*]))) rfl<|oM 1 rfl<|.nl)<|gF [2] rfl<|gR<|fun a49 w49 h49 => ?_; clear hs47
 refine x_ret1 (fn := Try.f3) (t := 2) rfl h49 rfl <| ⟨?_, (h49.sh.sel [] rfl)⟩
 first | rfl | (congr 1; refine decide_eq_true (pg_eq2 ?_ ?_) <;> simp only [*])

theorem optMakes_any (code : Ls (Ls Ins)) (words : Ls Int) (locks regs : Int) (W : World) (hcode : code.At W) (hwords : words.At W) : Rets Try.prog 3 [.agg #[code.v, words.v, .int .i64 locks, .int .i64 regs]] W (fun v w' => v = .bool true ∧ Sh0 W w' []) := by
  cases hv : vastG (code.l.map (·.l)) words.l with
  | true => exact optMakes_v code words locks regs W hcode hwords hv
  | false =>
    by_cases hok : OkPg (pgOf code words locks regs)
    · exact optMakes_k code words locks regs W hcode hwords hv hok
    · exact optMakes_b code words locks regs W hcode hwords hv (fun h => hok (checkG_code_pos.1 h))
end Go.Proofs.Ytmgikmjmdppfmaa
