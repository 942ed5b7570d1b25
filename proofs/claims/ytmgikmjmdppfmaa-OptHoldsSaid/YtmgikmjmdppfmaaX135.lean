/-
  What opt makes of a program comes to the same.
-/
import Derived.Test.YtmgikmjmdppfmaaE6
import Derived.Test.YtmgikmjmdppfmaaX128
import Derived.Test.YtmgikmjmdppfmaaX6
import Derived.Test.YtmgikmjmdppfmaaX23
import Derived.Test.YtmgikmjmdppfmaaW4
import Derived.Test.YtmgikmjmdppfmaaC2
section
namespace Go.Proofs.Ytmgikmjmdppfmaa
open Go.RowKit
set_option linter.unusedSimpArgs false
set_option linter.unusedVariables false
set_option maxRecDepth 100000
set_option maxHeartbeats 8000000

theorem dead11_c (i n b : Nat) (x : Ins) (s : Ls BArr) (f : Nat → Nat → Bool) (W : World) (hb : Blk W b 52 #[s.v]) (hs : s.At W) (hsl : s.l = liveA f n) (hi : i < n) (hn : n ≤ 5000) (ha : x.op ≤ 8 → 0 ≤ x.a ∧ x.a < 200) :
    Rets Try.prog 25 [.int .i64 ((i : Nat) : Int), .agg #[.int .i64 x.op, .int .i64 x.a, .int .i64 x.b, .int .i64 x.c], .pointer (some ⟨b, 0, none⟩)] W (fun v w' => ∃ s : Ls Ins, v = s.v ∧ Sh0 W w' [.own 44 (⟨s.v, deadB f i x⟩ : Ls Ins)]) := by
 have hsn : s.l.length = n + 1 := by rw [hsl]; exact liveA_len f n
 have hlv : x.op ≤ 8 → nth (nth s.l (i + 1)).l x.a.toNat = f x.a.toNat (i + 1) := fun h9 => by have := ha h9; rw [hsl, liveA_nth (by omega)]; exact nth_mapR (by omega)
 refine gen Try.func25 Try.ntmps25 (Sh0.ext (fun A hA => by simp only [List.mem_cons, List.not_mem_nil, or_false] at hA; rcases hA with rfl | rfl; exact hb; exact hs) (fun A hA b hb => by simp only [List.mem_cons, List.not_mem_nil, or_false] at hA; rcases hA with rfl | rfl <;> exact hb) : Sh (fun _ => False) W W [.rblk b 52 [s.v], .at_ s]) rfl fun a10 h10 => gG h10<|sK fun _ k11 => gbx rfl rfl fun b12 => gRn (oM 1 rfl<|.nl)<|nK k11<|gK fun _ k13 => gK fun _ k14 => fun a15 w15 h15 => x_quiet (by kernel_rfl) (by kernel_rfl) h15 fun _ z16 => qQ h15.fr<|qRn (ofB fl_44_0 rfl<|olB 0 ti_3 rfl rfl<|oleI _ _ rfl<|oM 1 rfl<|.nl)<|?_; clear h10
 rcases dsp (x.op ≤ 8) with ⟨hb17, hp17⟩ | ⟨hb17, hp17⟩
 ·skip
  refine qRn (oG hb17 (r_ldbR ti_52 rfl rfl (fun w h => h.rblk 1 rfl) rfl) rfl<|oG hb17 (r_move rfl rfl) rfl<|oG hb17 (r_addN (p := i) (q := 1) rfl rfl rfl (show i + 1 < 9223372036854775808 from om9)) rfl<|oG hb17 (r_fieldB (r := 1) fl_44_1 rfl rfl rfl) rfl<|oG hb17 (r_ldb (i := 0) ti_3 rfl rfl rfl rfl) rfl<|.nl)<|?_
  have hl24 : s.l.length ≤ 140737488355328 := (h15.sh.at 2 rfl).len
  refine qRn (oG hb17 (r_ixN (s := s) (q := i + 1) sl_52 ti_55 rfl rfl rfl (fun w h => (h.at 2 rfl)) (show i + 1 < s.l.length from om9)) rfl<|oG hb17 (r_ixArEI (q := x.a) ar_55 ti_4 rfl rfl rfl rfl (show 0 ≤ x.a ∧ x.a < 200 from om9)) rfl<|oG hb17 (r_lde (s := s) (i := i + 1) (j := x.a.toNat) (v := .bool (nth (nth s.l (i + 1)).l x.a.toNat)) ti_4 rfl rfl rfl (fun w h => (h.at 2 rfl)) (show i + 1 < s.l.length from om9) (show x.a.toNat < 200 from om9) rfl) rfl<|oG hb17 (r_not rfl rfl) rfl<|opT hb17 rfl<|.nl)<|qN z16<|?_; clear h15
  refine hK k14<|gCb rfl (fun hb28 => ?_) fun hb28 => ?_
  ·have hn28 : nth (nth s.l (i + 1)).l x.a.toNat = false := (Bool.not_eq_true' _).mp hb28
   refine sG (oM 1 rfl<|.nl)<|gR<|uT<|fun a30 w30 h30 => x_ret1 (fn := Try.f25) (t := 5) rfl h30 rfl ?_
   have e9 : deadB f i x = [] := by unfold deadB; first | exact if_pos ⟨by omega, (hlv (by omega)).symm.trans (by assumption)⟩ | exact if_neg (fun h9 => by omega) | exact if_neg (fun h9 => absurd ((by assumption : nth (nth s.l (i + 1)).l x.a.toNat = true).symm.trans ((hlv h9.1).trans h9.2)) (by decide))
   refine ⟨⟨.slice none 0 0, []⟩, rfl, ?_⟩
   rw [e9]; exact ((h30.sh.sel [] rfl).nil 44)
  have hn28 : nth (nth s.l (i + 1)).l x.a.toNat = true := (Bool.not_eq_false' _).mp hb28
  refine gS<|hK k13<|sK fun _ k31 => gRn (olw 0 ti_44 rfl rfl<|.nl)<|gE1 (fun _ _ h_ => x_lit (n := 1) (cs := [.int .i64 x.op, .int .i64 x.a, .int .i64 x.b, .int .i64 x.c]) ([x] : List Ins) h_ sl_45 ti_44 rfl rfl rfl (by decide) rfl (by kernel_rfl) rfl (fun q hq w h => Flat.inner _ _) (fun q hq b hb => (Flat.on _ _ hb).elim) rfl rfl) rfl fun v32 => gRn (oM 1 rfl<|.nl)<|nK k31<|gR<|fun a33 w33 h33 => x_ret1 (fn := Try.f25) (t := 5) rfl h33 rfl ?_
  have e9 : deadB f i x = [x] := by unfold deadB; first | exact if_pos ⟨by omega, (hlv (by omega)).symm.trans (by assumption)⟩ | exact if_neg (fun h9 => by omega) | exact if_neg (fun h9 => absurd ((by assumption : nth (nth s.l (i + 1)).l x.a.toNat = true).symm.trans ((hlv h9.1).trans h9.2)) (by decide))
  refine ⟨⟨v32, []⟩, rfl, ?_⟩
  rw [e9]; exact (h33.sh.sel (L' := [_]) [0] rfl)
 refine qRn (oKs 9 hb17 rfl rfl<|opF hb17 rfl<|.nl)<|qN z16<|?_; clear h15
 refine hK k14<|gcF rfl rfl<|gS<|hK k13<|sK fun _ k35 => gRn (olw 0 ti_44 rfl rfl<|.nl)<|gE1 (fun _ _ h_ => x_lit (n := 1) (cs := [.int .i64 x.op, .int .i64 x.a, .int .i64 x.b, .int .i64 x.c]) ([x] : List Ins) h_ sl_45 ti_44 rfl rfl rfl (by decide) rfl (by kernel_rfl) rfl (fun q hq w h => Flat.inner _ _) (fun q hq b hb => (Flat.on _ _ hb).elim) rfl rfl) rfl fun v36 => gRn (oM 1 rfl<|.nl)<|nK k35<|gR<|fun a37 w37 h37 => x_ret1 (fn := Try.f25) (t := 5) rfl h37 rfl ?_
 have e9 : deadB f i x = [x] := by unfold deadB; first | exact if_pos ⟨by omega, (hlv (by omega)).symm.trans (by assumption)⟩ | exact if_neg (fun h9 => by omega) | exact if_neg (fun h9 => absurd ((by assumption : nth (nth s.l (i + 1)).l x.a.toNat = true).symm.trans ((hlv h9.1).trans h9.2)) (by decide))
 refine ⟨⟨v36, []⟩, rfl, ?_⟩
 rw [e9]; exact (h37.sh.sel (L' := [_]) [0] rfl)

theorem dead1_c (x : Ls Ins) (R : Nat) (W : World) (hx : x.At W) (hov : OkV x.l (R : Int)) (hj : JumpsOK x.l) (hcl : x.l.length ≤ 400) (hR : R ≤ 200) :
    Rets Try.prog 23 [x.v] W (fun v w' => ∃ s : Ls Ins, v = s.v ∧ s.l = deadL x.l ∧ Sh0 W w' [.own 44 s]) := by
 refine gen Try.func23 Try.ntmps23 (Sh0.ext1 hx : Sh (fun _ => False) W W [.at_ x]) rfl fun a10 h10 => gG h10<|sG (oM 1 rfl<|.nl)<|sK fun _ k12 => gRn (oM 1 rfl<|.nl)<|fun a14 w14 h14 => wl_ex (x_call h14 bd_24 rfl rfl rfl rfl rfl (sets_c x ((R : Nat) : Int) (liveC x.l) _ (h14.sh.at 0 rfl) (by omega) hj hov (fun r j => liveC_iff x.l r j) (by omega))) (wanted_none rfl _) ?_; clear h10
 rintro a15 w15 ⟨_, ⟨s15, rfl, hsl15, hs15⟩, hf15⟩
 have h15 := (⟨hf15, h14.sh.call hs15 (by intro A hA b hb; first | (simp at hA; done) | (simp at hA; subst hA; first | exact Flat.noRd hb | exact barr_noRd hb | exact (hb : False).elim))⟩ : St 9 (fun _ => False) W a15 w15 _ _)
 clear hf15 hs15
 clear h14
 refine gG h15<|gal ti_52 rfl fun b16 => gsr 0 ti_52 rfl (aO 1 rfl) rfl<|nK k12<|sK fun _ k18 => gRn (oM 1 rfl<|oV (r_makeFunc rfl rfl rfl) rfl<|.nl)<|fun a20 w20 h20 => wl_ex (x_call h20 bd_21 rfl rfl rfl rfl rfl (moved_c x 25 [] [.pointer (some ⟨b16, 0, none⟩)] (deadB (liveC x.l)) (Asn.ro [.blk b16 52 [s15.v], .at_ s15]) _ (h20.sh.at 2 rfl) (show x.l.length ≤ 5000 by omega) bd_25 (fun _ h => h) (fun B hB => by simp only [List.mem_cons, List.not_mem_nil, or_false] at hB; rcases hB with rfl | rfl; exact h20.sh.ok _ (List.mem_of_getElem? (i := 0) rfl); exact h20.sh.own 1 rfl) (fun w i hE hi => dead11_c i x.l.length b16 (nth x.l i) s15 (liveC x.l) w (hE (.blk b16 52 [s15.v]) (by simp)) (hE (.at_ s15) (by simp)) hsl15 hi (by omega) (fun h9 => by have h8 := (hov i hi).2.1 (.inl h9); have h7 := (hov i hi).2.2.1.2; unfold wrG at h7; rw [if_neg (by omega), if_pos (by omega)] at h7; omega)) (fun i hi => Nat.le_trans (deadB_len _ _ _) (by decide)) (deadB_ok hj))) (wanted_none rfl _) ?_; clear h15
 rintro a21 w21 ⟨_, ⟨s21, rfl, hl21, hs21⟩, hf21⟩
 have h21 := (⟨hf21, h20.sh.call hs21 (by intro A hA b hb; first | (simp at hA; done) | (simp at hA; subst hA; first | exact Flat.noRd hb | exact barr_noRd hb | exact (hb : False).elim))⟩ : St 9 (fun _ => False) W a21 w21 _ _)
 clear hf21 hs21
 clear h20
 refine gG h21<|gRn (oM 1 rfl<|.nl)<|nK k18<|gR<|fun a22 w22 h22 => x_ret1 (fn := Try.f23) (t := 2) rfl h22 rfl ?_; clear h21
 exact ⟨s21, rfl, by rw [hl21]; rfl, (h22.sh.sel [0] rfl)⟩

theorem oDead_k (code : Ls (Ls Ins)) (words : Ls Int) (locks regs : Int) (W : World) (hcode : code.At W) (hwords : words.At W) (hok : OkPg (pgOf code words locks regs)) :
    Rets Try.prog 8 [.agg #[code.v, words.v, .int .i64 locks, .int .i64 regs]] W (fun v w' => ∃ (c : Ls (Ls Ins)) (u : Ls Int), v = .tuple #[.agg #[c.v, u.v, .int .i64 locks, .int .i64 regs], .agg #[.int .i64 0, .int .i64 0, .int .i64 0]] ∧ c.l.map (·.l) = (List.range code.l.length).map (fun t => deadL (nth code.l t).l) ∧ u.l = words.l ∧ Sh0 W w' [.deep 45 c, .own 3 u]) := by
 have hz := checkG_ok hok
 obtain ⟨hl1, hl2, hl3, hl4', hl5, hl6, hl7⟩ := ok_len hok
 have hrg := hok.regs
 have hrg1 : ((pgOf code words locks regs)).regs = regs := rfl
 rw [hrg1] at hrg
 refine gen Try.func8 Try.ntmps8 (Sh0.ext2 hcode hwords : Sh (fun _ => False) W W [.at_ code, .at_ words]) rfl fun a10 h10 => gG h10<|sK fun _ k11 => gbx rfl rfl fun b12 => gal ti_25 rfl fun b13 => gal ti_29 rfl fun b14 => nK k11<|gK fun _ k15 => sK fun _ k16 => gRn (olw 2 ti_25 rfl rfl<|.nl)<|gC (fun _ _ h_ => xCl h_ bd_17 rfl (asmCheck_c (code := code) (words := words) (locks := locks) (regs := regs) (h_.sh.at 3 rfl) (h_.sh.at 4 rfl))) rfl<|?_; clear h10
 rintro _ _ w17 ⟨rfl, hs17⟩
 refine gWk hs17 rfl<|gU<|gal ti_29 rfl fun b18 => gsw 0 ti_29 rfl rfl rfl<|nK k16<|sG (ofB fl_29_0 rfl<|olB 0 ti_27 rfl rfl<|oneI _ _ rfl<|.nl)<|gcF rfl (by rw [hz]; rfl)<|gS<|hK k15<|sK fun _ k21 => gRn (olw 3 ti_25 rfl rfl<|.nl)<|gC (fun _ _ h_ => xCl h_ bd_18 rfl (anew_c code words locks regs 23 [] [] deadL Asn.tt _ (h_.sh.at 4 rfl) (h_.sh.at 5 rfl) hok bd_23 (fun _ h => h) trivial (fun w t _ ht hx => dead1_c (nth code.l t) regs.toNat w hx (by rw [Int.toNat_of_nonneg (by omega)]; exact okV_of hok t ht) (ok_thread hok t ht).2 (ok_thread hok t ht).1 (by omega)))) rfl<|?_; clear hs17
 rintro _ _ w22 ⟨c22, u22, rfl, hq22, hu22, hs22⟩
 refine gWk hs22 rfl<|gU<|gRn (oV (r_build (cs := [.int .i64 0, .int .i64 0, .int .i64 0]) rfl rfl (by kernel_rfl)) rfl<|.nl)<|gE (fun _ _ h_ => x_stb (i := 4) (vs := [c22.v, u22.v, .int .i64 locks, .int .i64 regs]) (cs' := [c22.v, u22.v, .int .i64 locks, .int .i64 regs]) h_ ti_25 rfl rfl rfl rfl rfl rfl rfl (allOne_cons ((h_.sh.deep 0 rfl)).one (allOne_cons ((h_.sh.own 1 rfl)).one (allOne_cons rfl (allOne_cons rfl allOne_nil)))) (Nat.le_of_ble_eq_true rfl) rfl) rfl<|gsw 3 ti_29 rfl rfl rfl<|nK k21<|gR<|fun a25 w25 h25 => ?_; clear hs22
 refine x_ret2c (fn := Try.f8) (t := 2) (t2 := 3) (i := 4) (i2 := 3) ti_25 ti_29 rfl h25 rfl rfl rfl rfl rfl rfl ?_
 exact ⟨c22, u22, rfl, hq22, hu22, (h25.sh.sel [0, 1] rfl)⟩

theorem oDead_b (code : Ls (Ls Ins)) (words : Ls Int) (locks regs : Int) (W : World) (hcode : code.At W) (hwords : words.At W) (hz : (checkG (pgOf code words locks regs)).code ≠ 0) :
    Rets Try.prog 8 [.agg #[code.v, words.v, .int .i64 locks, .int .i64 regs]] W (fun v w' => v = .tuple #[.agg #[.slice none 0 0, .slice none 0 0, .int .i64 0, .int .i64 0], (checkG (pgOf code words locks regs)).val] ∧ Sh0 W w' []) := by
 refine gen Try.func8 Try.ntmps8 (Sh0.ext2 hcode hwords : Sh (fun _ => False) W W [.at_ code, .at_ words]) rfl fun a10 h10 => gG h10<|sK fun _ k11 => gbx rfl rfl fun b12 => gal ti_25 rfl fun b13 => gal ti_29 rfl fun b14 => nK k11<|gK fun _ k15 => sK fun _ k16 => gRn (olw 2 ti_25 rfl rfl<|.nl)<|gC (fun _ _ h_ => xCl h_ bd_17 rfl (asmCheck_c (code := code) (words := words) (locks := locks) (regs := regs) (h_.sh.at 3 rfl) (h_.sh.at 4 rfl))) rfl<|?_; clear h10
 rintro _ _ w17 ⟨rfl, hs17⟩
 refine gWk hs17 rfl<|gU<|gal ti_29 rfl fun b18 => gsw 0 ti_29 rfl rfl rfl<|nK k16<|sG (ofB fl_29_0 rfl<|olB 0 ti_27 rfl rfl<|oneI _ _ rfl<|.nl)<|gcT rfl (decide_eq_true hz)<|gK fun _ k21 => rC [2, 3] rfl<|pR [0, 1] rfl (oV (r_build (cs := [(.slice none 0 0), (.slice none 0 0), .int .i64 0, .int .i64 0]) rfl rfl (by kernel_rfl)) rfl<|olw 0 ti_29 rfl rfl<|.nl) rfl<|pS (fun _ _ h_ => x_stb (i := 2) (vs := [(.slice none 0 0), (.slice none 0 0), .int .i64 0, .int .i64 0]) (cs' := [(.slice none 0 0), (.slice none 0 0), .int .i64 0, .int .i64 0]) h_ ti_25 rfl rfl rfl rfl rfl rfl rfl (allOne_cons rfl (allOne_cons rfl (allOne_cons rfl (allOne_cons rfl allOne_nil)))) (Nat.le_of_ble_eq_true rfl) rfl) rfl<|pR [1] rfl (olw 0 ti_29 rfl rfl<|.nl) rfl<|pS (fun _ _ h_ => x_stb (i := 1) (vs := [.int .i64 ((checkG (pgOf code words locks regs)).code), .int .i64 ((checkG (pgOf code words locks regs)).thread), .int .i64 ((checkG (pgOf code words locks regs)).at_)]) (cs' := [.int .i64 ((checkG (pgOf code words locks regs)).code), .int .i64 ((checkG (pgOf code words locks regs)).thread), .int .i64 ((checkG (pgOf code words locks regs)).at_)]) h_ ti_29 rfl rfl rfl rfl rfl rfl rfl (allOne_cons rfl (allOne_cons rfl (allOne_cons rfl allOne_nil))) (Nat.le_of_ble_eq_true rfl) rfl) rfl<|pE [] rfl (.nl) rfl<|hK k21<|gR<|uT<|fun a24 w24 h24 => ?_; clear hs17
 refine x_ret2c (fn := Try.f8) (t := 2) (t2 := 3) (i := 2) (i2 := 1) ti_25 ti_29 rfl h24 rfl rfl rfl rfl rfl rfl ?_
 exact ⟨rfl, (h24.sh.sel [] rfl)⟩

end Go.Proofs.Ytmgikmjmdppfmaa
end
namespace Go.Proofs.Ytmgikmjmdppfmaa
open Go.RowKit
set_option linter.unusedSimpArgs false
set_option linter.unusedVariables false
set_option maxRecDepth 100000
set_option maxHeartbeats 16000000


theorem neq_flt (f g : Flt) (w : World) : (binOp .neq 29 f.val g.val).run Try.prog w = .ok (.bool (decide (f ≠ g))) w := by
  obtain ⟨a, b, c⟩ := f
  obtain ⟨a', b', c'⟩ := g
  simp [binOp, Flt.val, Op.equal, Op.maxDepth, go_sem]
  by_cases h1 : a = a' <;> by_cases h2 : b = b' <;> by_cases h3 : c = c' <;> simp [h1, h2, h3]
theorem neq_fltG (x y : Operand) (f g : Flt) (w : World) : (eqGuard .neq 29 x y f.val g.val).run Try.prog w = .ok () w := by
  simp [eqGuard, Flt.val]
  try kernel_rfl

theorem range_map' {α : Type} (l : List (Ls Ins)) (g : List Ins → α) : (List.range l.length).map (fun t => g (nth l t).l) = (l.map (·.l)).map g := by
  apply List.ext_getElem
  · simp
  · intro i h1 h2
    have hi : i < l.length := by simpa using h1
    simp [nth, List.getD, hi]
section
variable {code c : Ls (Ls Ins)} {words u : Ls Int} {Lk R : Nat}
theorem opt_const (hok : OkPg (pgN code words Lk R)) (hq : c.l.map (·.l) = (List.range code.l.length).map (fun t => constL ((R : Nat) : Int).toNat (nth code.l t).l)) (hu : u.l = words.l) :
    OkPg (pgN c u Lk R) ∧ ∀ (m : Int) o, Outs (pgN code words Lk R) m o ↔ Outs (pgN c u Lk R) m o := by
  have e : pgN c u Lk R = constPg (pgN code words Lk R) := by
    unfold pgN pgOf constPg
    rw [hq, hu, range_map' code.l (constL ((R : Nat) : Int).toNat)]
  rw [e]
  exact ⟨constPg_ok hok, fun m o => const_outs hok m o⟩
theorem opt_dead (hok : OkPg (pgN code words Lk R)) (hq : c.l.map (·.l) = (List.range code.l.length).map (fun t => deadL (nth code.l t).l)) (hu : u.l = words.l) :
    OkPg (pgN c u Lk R) ∧ ∀ (m : Int) o, Outs (pgN code words Lk R) m o ↔ Outs (pgN c u Lk R) m o := by
  have e : pgN c u Lk R = deadPg (pgN code words Lk R) := by
    unfold pgN pgOf deadPg
    rw [hq, hu, range_map' code.l deadL]
  rw [e]
  exact ⟨deadPg_ok hok, fun m o => dead_outs hok m o⟩
end
def mdB : Bool → Int
  | false => 0
  | true => 1

theorem make0_b (code : Ls (Ls Ins)) (words : Ls Int) (Lk R : Nat) (W : World) (hcode : code.At W) (hwords : words.At W) (hok : OkPg (pgN code words Lk R)) :
    Rets Try.prog 14 [.agg #[code.v, words.v, .int .i64 ((Lk : Nat) : Int), .int .i64 ((R : Nat) : Int)], .bool false] W (fun v w' => ∃ (g : Nat) (full : Bool) (sv kv hv bv : Value) (ends : Ls OutL), v = .pointer (some ⟨g, 0, none⟩) ∧ (full = true ↔ Big (pgN code words Lk R) 0) ∧ (full = false → Sorted_ (ends.l.map OutL.out) ∧ ∀ o, o ∈ ends.l.map OutL.out ↔ Outs (pgN code words Lk R) 0 o) ∧ ends.l.length ≤ 70000 ∧ (∀ o ∈ ends.l, ∀ b, Enc.on o b → W.heap.size ≤ b) ∧ Sh0 W w' [.blk g 42 [sv, kv, hv, bv, ends.v, .bool full], .own 77 ends]) := by
 refine gen Try.func14 Try.ntmps14 (Sh0.ext2 hcode hwords : Sh (fun _ => False) W W [.at_ code, .at_ words]) rfl fun a10 h10 => gG h10<|sK fun _ k11 => gbx rfl rfl fun b12 => gRn (oM 1 rfl<|.nl)<|nK k11<|gK fun _ k13 => sG (oM 1 rfl<|.nl)<|gcF rfl rfl<|gS<|hK k13<|sK fun _ k15 => gRn (olw 0 ti_25 rfl rfl<|.nl)<|fun a17 w17 h17 => wl_ex (x_call h17 bd_35 rfl rfl rfl rfl rfl (by_c code words Lk R 0 _ (h17.sh.at 1 rfl) (h17.sh.at 2 rfl) hok)) (wanted_none rfl _) ?_; clear h10
 rintro a18 w18 ⟨_, ⟨g18, fu18, sv18, kv18, hv18, bv18, en18, rfl, hbg18, hby18, hel18, hnw18, hs18⟩, hf18⟩
 have hsz18 := h17.sh.chg.size
 have h18 := (⟨hf18, h17.sh.call hs18 (by intro A hA b hb; simp only [List.mem_cons, List.not_mem_nil, or_false] at hA; rcases hA with rfl | rfl; exact (hb : False).elim; exact .inl (by obtain ⟨i9, hi9, hb9⟩ := hb; exact hnw18 _ (nth_mem _ _ hi9) b hb9))⟩ : St 10 (fun _ => False) W a18 w18 _ _)
 clear hf18 hs18
 clear h17
 refine gG h18<|gRn (oM 1 rfl<|.nl)<|nK k15<|gR<|fun a19 w19 h19 => x_ret1 (fn := Try.f14) (t := 4) rfl h19 rfl ?_; clear h18
 exact ⟨g18, fu18, _, _, _, _, en18, rfl, hbg18, hby18, hel18, (fun o ho b hb => Nat.le_trans hsz18 (hnw18 o ho b hb)), (h19.sh.sel [0, 1] rfl)⟩

theorem make1_b (code : Ls (Ls Ins)) (words : Ls Int) (Lk R : Nat) (W : World) (hcode : code.At W) (hwords : words.At W) (hok : OkPg (pgN code words Lk R)) :
    Rets Try.prog 14 [.agg #[code.v, words.v, .int .i64 ((Lk : Nat) : Int), .int .i64 ((R : Nat) : Int)], .bool true] W (fun v w' => ∃ (g : Nat) (full : Bool) (sv kv hv bv : Value) (ends : Ls OutL), v = .pointer (some ⟨g, 0, none⟩) ∧ (full = true ↔ Big (pgN code words Lk R) 1) ∧ (full = false → Sorted_ (ends.l.map OutL.out) ∧ ∀ o, o ∈ ends.l.map OutL.out ↔ Outs (pgN code words Lk R) 1 o) ∧ ends.l.length ≤ 70000 ∧ (∀ o ∈ ends.l, ∀ b, Enc.on o b → W.heap.size ≤ b) ∧ Sh0 W w' [.blk g 42 [sv, kv, hv, bv, ends.v, .bool full], .own 77 ends]) := by
 refine gen Try.func14 Try.ntmps14 (Sh0.ext2 hcode hwords : Sh (fun _ => False) W W [.at_ code, .at_ words]) rfl fun a10 h10 => gG h10<|sK fun _ k11 => gbx rfl rfl fun b12 => gRn (oM 1 rfl<|.nl)<|nK k11<|gK fun _ k13 => sG (oM 1 rfl<|.nl)<|gcT rfl rfl<|sK fun _ k15 => gRn (olw 0 ti_25 rfl rfl<|.nl)<|fun a17 w17 h17 => wl_ex (x_call h17 bd_35 rfl rfl rfl rfl rfl (by_c code words Lk R 1 _ (h17.sh.at 1 rfl) (h17.sh.at 2 rfl) hok)) (wanted_none rfl _) ?_; clear h10
 rintro a18 w18 ⟨_, ⟨g18, fu18, sv18, kv18, hv18, bv18, en18, rfl, hbg18, hby18, hel18, hnw18, hs18⟩, hf18⟩
 have hsz18 := h17.sh.chg.size
 have h18 := (⟨hf18, h17.sh.call hs18 (by intro A hA b hb; simp only [List.mem_cons, List.not_mem_nil, or_false] at hA; rcases hA with rfl | rfl; exact (hb : False).elim; exact .inl (by obtain ⟨i9, hi9, hb9⟩ := hb; exact hnw18 _ (nth_mem _ _ hi9) b hb9))⟩ : St 10 (fun _ => False) W a18 w18 _ _)
 clear hf18 hs18
 clear h17
 refine gG h18<|gRn (oM 1 rfl<|.nl)<|nK k15<|gR<|uT<|fun a19 w19 h19 => x_ret1 (fn := Try.f14) (t := 4) rfl h19 rfl ?_; clear h18
 exact ⟨g18, fu18, _, _, _, _, en18, rfl, hbg18, hby18, hel18, (fun o ho b hb => Nat.le_trans hsz18 (hnw18 o ho b hb)), (h19.sh.sel [0, 1] rfl)⟩

theorem make_any (code : Ls (Ls Ins)) (words : Ls Int) (Lk R : Nat) (b : Bool) (W : World) (hcode : code.At W) (hwords : words.At W) (hok : OkPg (pgN code words Lk R)) : Rets Try.prog 14 [.agg #[code.v, words.v, .int .i64 ((Lk : Nat) : Int), .int .i64 ((R : Nat) : Int)], .bool b] W (fun v w' => ∃ (g : Nat) (full : Bool) (sv kv hv bv : Value) (ends : Ls OutL), v = .pointer (some ⟨g, 0, none⟩) ∧ (full = false → Sorted_ (ends.l.map OutL.out) ∧ ∀ o, o ∈ ends.l.map OutL.out ↔ Outs (pgN code words Lk R) (mdB b) o) ∧ ends.l.length ≤ 70000 ∧ (∀ o ∈ ends.l, ∀ b, Enc.on o b → W.heap.size ≤ b) ∧ Sh0 W w' [.blk g 42 [sv, kv, hv, bv, ends.v, .bool full], .own 77 ends]) := by
  cases b with
  | false =>
    refine Rets.mono (make0_b code words Lk R W hcode hwords hok) ?_
    rintro v w' ⟨g, fu, sv, kv, hv, bv, en, rfl, _, h⟩
    exact ⟨g, fu, sv, kv, hv, bv, en, rfl, h⟩
  | true =>
    refine Rets.mono (make1_b code words Lk R W hcode hwords hok) ?_
    rintro v w' ⟨g, fu, sv, kv, hv, bv, en, rfl, _, h⟩
    exact ⟨g, fu, sv, kv, hv, bv, en, rfl, h⟩

theorem optHolds_v (code : Ls (Ls Ins)) (words : Ls Int) (locks regs : Int) (W : World) (hcode : code.At W) (hwords : words.At W) (hv : vastG (code.l.map (·.l)) words.l = true) :
    Rets Try.prog 4 [.agg #[code.v, words.v, .int .i64 locks, .int .i64 regs]] W (fun v w' => v = .bool true ∧ Sh0 W w' []) := by
 refine gen Try.func4 Try.ntmps4 (Sh0.ext2 hcode hwords : Sh (fun _ => False) W W [.at_ code, .at_ words]) rfl fun a10 h10 => gG h10<|sK fun _ k11 => gbx rfl rfl fun b12 => gRn (oM 1 rfl<|.nl)<|nK k11<|gK fun _ k13 => sK fun _ k14 => gRn (olw 0 ti_25 rfl rfl<|.nl)<|gC (fun _ _ h_ => xCl h_ bd_6 rfl (vast_c (code := code) (words := words) (locks := locks) (regs := regs) (h_.sh.at 1 rfl) (h_.sh.at 2 rfl))) rfl<|?_; clear h10
 rintro _ _ w15 ⟨rfl, hs15⟩
 refine gWk hs15 rfl<|gU<|nK k14<|gcT rfl hv<|sG (oM 1 rfl<|.nl)<|gR<|uT<|fun a17 w17 h17 => ?_; clear hs15
 refine x_ret1 (fn := Try.f4) (t := 2) rfl h17 rfl ?_
 exact ⟨rfl, (h17.sh.sel [] rfl)⟩

theorem optHolds_k (code : Ls (Ls Ins)) (words : Ls Int) (Lk R : Nat) (W : World) (hcode : code.At W) (hwords : words.At W) (hv : vastG (code.l.map (·.l)) words.l = false) (hok : OkPg (pgN code words Lk R)) :
    Rets Try.prog 4 [.agg #[code.v, words.v, .int .i64 ((Lk : Nat) : Int), .int .i64 ((R : Nat) : Int)]] W (fun v w' => v = .bool true ∧ Sh0 W w' []) := by
 have hz := checkG_ok hok
 obtain ⟨hl1, hl2, hl3, hl4', hl5, hl6, hl7⟩ := ok_lenN hok
 refine gen Try.func4 Try.ntmps4 (Sh0.ext2 hcode hwords : Sh (fun _ => False) W W [.at_ code, .at_ words]) rfl fun a10 h10 => gG h10<|sK fun _ k11 => gbx rfl rfl fun b12 => gRn (oM 1 rfl<|.nl)<|nK k11<|gK fun _ k13 => sK fun _ k14 => gRn (olw 0 ti_25 rfl rfl<|.nl)<|gC (fun _ _ h_ => xCl h_ bd_6 rfl (vast_c (code := code) (words := words) (locks := ((Lk : Nat) : Int)) (regs := ((R : Nat) : Int)) (h_.sh.at 1 rfl) (h_.sh.at 2 rfl))) rfl<|?_; clear h10
 rintro _ _ w15 ⟨rfl, hs15⟩
 refine gWk hs15 rfl<|gU<|nK k14<|gcF rfl hv<|gS<|hK k13<|sK fun _ k16 => gRn (olw 0 ti_25 rfl rfl<|.nl)<|gC (fun _ _ h_ => xCl h_ bd_9 rfl (refCheck_c (code := code) (words := words) (locks := ((Lk : Nat) : Int)) (regs := ((R : Nat) : Int)) (h_.sh.at 1 rfl) (h_.sh.at 2 rfl))) rfl<|?_; clear hs15
 rintro _ _ w17 ⟨rfl, hs17⟩
 refine gWk hs17 rfl<|gU<|gal ti_29 rfl fun b18 => gsw 0 ti_29 rfl rfl rfl<|nK k16<|gK fun _ k20 => sG (oM 1 rfl<|.nl)<|gB<|fun a23 w23 h23 => ?_; clear hs17
 refine x_loop (fun m a w => ∃ (wh : Nat), (wh ≤ 2) ∧ St 80 (fun _ => False) W a w [(1, .pointer (some ⟨b12, 0, none⟩)), (3, .pointer (some ⟨b18, 0, none⟩)), (4, .int .i64 ((wh : Nat) : Int))] [.blk b18 29 [.int .i64 ((checkG (pgOf code words ((Lk : Nat) : Int) ((R : Nat) : Int))).code), .int .i64 ((checkG (pgOf code words ((Lk : Nat) : Int) ((R : Nat) : Int))).thread), .int .i64 ((checkG (pgOf code words ((Lk : Nat) : Int) ((R : Nat) : Int))).at_)], .blk b12 25 [code.v, words.v, .int .i64 ((Lk : Nat) : Int), .int .i64 ((R : Nat) : Int)], .at_ code, .at_ words] ∧ m = 2 - wh) ⟨_, 0, (by omega), h23.nf ⟨rfl, rfl, rfl, trivial⟩, rfl⟩ ?_
 clear h23
 rintro m22 a22 w22 ⟨wh, hwh, h22, hm22⟩
 refine gG h22<|gK fun _ k24 => sG (oM 1 rfl<|oltN _ 2 rfl<|.nl)<|?_; clear h22
 refine gcd rfl (fun hb26 hp26 => ?_) fun hb26 hp26 => ?_
 ·skip
  refine gS<|hK k24<|gK fun _ k27 => gB<|sK fun _ k28 => gRn (olw 1 ti_25 rfl rfl<|.nl)<|gC (fun _ _ h_ => xCl h_ bd_7 rfl (oConst_k code words ((Lk : Nat) : Int) ((R : Nat) : Int) _ (h_.sh.at 2 rfl) (h_.sh.at 3 rfl) hok)) rfl<|?_
  rintro _ _ w29 ⟨c29, u29, rfl, hq29, hu29, hs29⟩
  refine gWk hs29 rfl<|fun a29 h29 => ?_; clear hs29
  refine gG h29<|gRn (oM 1 rfl<|oxt rfl<|oxt rfl<|.nl)<|gal ti_25 rfl fun b30 => gal ti_29 rfl fun b31 => gE (fun _ _ h_ => x_stb (i := 1) (vs := [c29.v, u29.v, .int .i64 ((Lk : Nat) : Int), .int .i64 ((R : Nat) : Int)]) (cs' := [c29.v, u29.v, .int .i64 ((Lk : Nat) : Int), .int .i64 ((R : Nat) : Int)]) h_ ti_25 rfl rfl rfl rfl rfl rfl rfl (allOne_cons ((h_.sh.deep 2 rfl)).one (allOne_cons ((h_.sh.own 3 rfl)).one (allOne_cons rfl (allOne_cons rfl allOne_nil)))) (Nat.le_of_ble_eq_true rfl) rfl) rfl<|gsw 0 ti_29 rfl rfl rfl<|nK k28<|fun a34 w34 h34 => x_seq (fun a w => ∃ (cq : Ls (Ls Ins)) (uq : Ls Int), (OkPg (pgN cq uq Lk R) ∧ ∀ (m : Int) o, Outs (pgN code words Lk R) m o ↔ Outs (pgN cq uq Lk R) m o) ∧ St 80 (fun _ => False) W a w [(1, .pointer (some ⟨b12, 0, none⟩)), (3, .pointer (some ⟨b18, 0, none⟩)), (4, .int .i64 ((wh : Nat) : Int)), (5, .pointer (some ⟨b30, 0, none⟩)), (6, .pointer (some ⟨b31, 0, none⟩))] [.blk b31 29 [.int .i64 0, .int .i64 0, .int .i64 0], .blk b30 25 [cq.v, uq.v, .int .i64 ((Lk : Nat) : Int), .int .i64 ((R : Nat) : Int)], .deep 45 cq, .own 3 uq, .blk b18 29 [.int .i64 ((checkG (pgOf code words ((Lk : Nat) : Int) ((R : Nat) : Int))).code), .int .i64 ((checkG (pgOf code words ((Lk : Nat) : Int) ((R : Nat) : Int))).thread), .int .i64 ((checkG (pgOf code words ((Lk : Nat) : Int) ((R : Nat) : Int))).at_)], .blk b12 25 [code.v, words.v, .int .i64 ((Lk : Nat) : Int), .int .i64 ((R : Nat) : Int)], .at_ code, .at_ words]) ?_ ?_; clear h29
  ·refine gG h34<|sG (oM 1 rfl<|oeqN _ 1 rfl<|.nl)<|?_; clear h34
   refine gcd rfl (fun hb36 hp36 => ?_) fun hb36 hp36 => ?_
   ·skip
    refine gL<|gRn (olw 5 ti_25 rfl rfl<|.nl)<|gC (fun _ _ h_ => xCl h_ bd_8 rfl (oDead_k code words ((Lk : Nat) : Int) ((R : Nat) : Int) _ (h_.sh.at 6 rfl) (h_.sh.at 7 rfl) hok)) rfl<|?_
    rintro _ _ w37 ⟨c37, u37, rfl, hq37, hu37, hs37⟩
    refine gWk hs37 rfl<|fun a37 h37 => ?_; clear hs37
    refine gG h37<|gRn (oM 1 rfl<|oxt rfl<|oxt rfl<|.nl)<|gE (fun _ _ h_ => x_stb (i := 3) (vs := [c37.v, u37.v, .int .i64 ((Lk : Nat) : Int), .int .i64 ((R : Nat) : Int)]) (cs' := [c37.v, u37.v, .int .i64 ((Lk : Nat) : Int), .int .i64 ((R : Nat) : Int)]) h_ ti_25 rfl rfl rfl rfl rfl rfl rfl (allOne_cons ((h_.sh.deep 0 rfl)).one (allOne_cons ((h_.sh.own 1 rfl)).one (allOne_cons rfl (allOne_cons rfl allOne_nil)))) (Nat.le_of_ble_eq_true rfl) rfl) rfl<|gsw 2 ti_29 rfl rfl rfl<|nN<|fun a42 w42 h42 => x_join ⟨c37, u37, ?_, h42.nrm ⟨rfl, rfl, rfl, rfl, rfl, trivial⟩ [2, 3, 0, 1, 6, 7, 8, 9] rfl⟩; clear h37
    · first | exact opt_dead hok (by assumption) (by assumption) | exact opt_const hok (by assumption) (by assumption)
   refine gS<|fun a43 w43 h43 => x_join ⟨c29, u29, ?_, h43.nf ⟨rfl, rfl, rfl, rfl, rfl, trivial⟩⟩
   · first | exact opt_dead hok (by assumption) (by assumption) | exact opt_const hok (by assumption) (by assumption)
  clear h34
  rintro a44 w44 ⟨cq, uq, hhq, h44⟩
  have hzq : checkG (pgOf cq uq ((Lk : Nat) : Int) ((R : Nat) : Int)) = ⟨0, 0, 0⟩ := checkG_ok hhq.1
  refine gG h44<|gK fun _ k45 => sG (olw 0 ti_29 rfl rfl<|olw 4 ti_29 rfl rfl<|oV (r_neqS rfl rfl rfl (fun w => neq_fltG _ _ ⟨0, 0, 0⟩ ⟨(checkG (pgOf code words ((Lk : Nat) : Int) ((R : Nat) : Int))).code, (checkG (pgOf code words ((Lk : Nat) : Int) ((R : Nat) : Int))).thread, (checkG (pgOf code words ((Lk : Nat) : Int) ((R : Nat) : Int))).at_⟩ w) (fun w => neq_flt ⟨0, 0, 0⟩ ⟨(checkG (pgOf code words ((Lk : Nat) : Int) ((R : Nat) : Int))).code, (checkG (pgOf code words ((Lk : Nat) : Int) ((R : Nat) : Int))).thread, (checkG (pgOf code words ((Lk : Nat) : Int) ((R : Nat) : Int))).at_⟩ w)) rfl<|.nl)<|gcF rfl (decide_eq_false (fun h => h (by first | rfl | rw [hz])))<|gS<|hK k45<|gK fun _ k47 => sG (ofB fl_29_0 rfl<|olB 4 ti_27 rfl rfl<|oneI _ _ rfl<|.nl)<|gcF rfl (by rw [show checkG (pgOf code words ((Lk : Nat) : Int) ((R : Nat) : Int)) = ⟨0, 0, 0⟩ from hz]; rfl)<|gS<|hK k47<|sK fun _ k49 => gRn (olw 1 ti_25 rfl rfl<|.nl)<|gC (fun _ _ h_ => xCl h_ bd_9 rfl (refCheck_c (code := cq) (words := uq) (locks := ((Lk : Nat) : Int)) (regs := ((R : Nat) : Int)) (h_.sh.deep 2 rfl) (h_.sh.own 3 rfl))) rfl<|?_; clear h44
  rintro _ _ w50 ⟨rfl, hs50⟩
  refine gWk hs50 rfl<|gU<|gal ti_29 rfl fun b51 => gsw 0 ti_29 rfl rfl rfl<|nK k49<|gK fun _ k53 => sG (ofB fl_29_0 rfl<|olB 0 ti_27 rfl rfl<|oneI _ _ rfl<|.nl)<|gcF rfl (by rw [hzq]; rfl)<|gS<|hK k53<|sG (oM 1 rfl<|.nl)<|gB<|fun a57 w57 h57 => ?_; clear hs50
  refine x_loop (fun m a w => ∃ (md : Nat), (md ≤ 2) ∧ St 80 (fun _ => False) W a w [(1, .pointer (some ⟨b12, 0, none⟩)), (3, .pointer (some ⟨b18, 0, none⟩)), (4, .int .i64 ((wh : Nat) : Int)), (5, .pointer (some ⟨b30, 0, none⟩)), (8, .int .i64 ((md : Nat) : Int))] [.blk b51 29 [.int .i64 ((checkG (pgOf cq uq ((Lk : Nat) : Int) ((R : Nat) : Int))).code), .int .i64 ((checkG (pgOf cq uq ((Lk : Nat) : Int) ((R : Nat) : Int))).thread), .int .i64 ((checkG (pgOf cq uq ((Lk : Nat) : Int) ((R : Nat) : Int))).at_)], .blk b31 29 [.int .i64 0, .int .i64 0, .int .i64 0], .blk b30 25 [cq.v, uq.v, .int .i64 ((Lk : Nat) : Int), .int .i64 ((R : Nat) : Int)], .deep 45 cq, .own 3 uq, .blk b18 29 [.int .i64 ((checkG (pgOf code words ((Lk : Nat) : Int) ((R : Nat) : Int))).code), .int .i64 ((checkG (pgOf code words ((Lk : Nat) : Int) ((R : Nat) : Int))).thread), .int .i64 ((checkG (pgOf code words ((Lk : Nat) : Int) ((R : Nat) : Int))).at_)], .blk b12 25 [code.v, words.v, .int .i64 ((Lk : Nat) : Int), .int .i64 ((R : Nat) : Int)], .at_ code, .at_ words] ∧ m = 2 - md) ⟨_, 0, (by omega), h57.nf ⟨rfl, rfl, rfl, rfl, rfl, trivial⟩, rfl⟩ ?_
  clear h57
  rintro m56 a56 w56 ⟨md, hmd, h56, hm56⟩
  refine gG h56<|gK fun _ k58 => sG (oM 1 rfl<|oltN _ 2 rfl<|.nl)<|?_; clear h56
  refine gcd rfl (fun hb60 hp60 => ?_) fun hb60 hp60 => ?_
  ·skip
   refine gS<|hK k58<|gK fun _ k61 => gB<|sK fun _ k62 => gRn (olw 6 ti_25 rfl rfl<|oM 1 rfl<|oeqN _ 1 rfl<|.nl)<|fun a64 w64 h64 => wl_ex (x_call h64 bd_14 rfl rfl rfl rfl rfl (make_any code words Lk R (decide (md = 1)) _ (h64.sh.at 7 rfl) (h64.sh.at 8 rfl) hok)) (wanted_none rfl _) ?_
   rintro a65 w65 ⟨_, ⟨g65, fu65, sv65, kv65, hv65, bv65, en65, rfl, hby65, hel65, hnw65, hs65⟩, hf65⟩
   have h65 := (⟨hf65, h64.sh.call hs65 (by intro A hA b hb; simp only [List.mem_cons, List.not_mem_nil, or_false] at hA; rcases hA with rfl | rfl; exact (hb : False).elim; exact .inl (by obtain ⟨i9, hi9, hb9⟩ := hb; exact hnw65 _ (nth_mem _ _ hi9) b hb9))⟩ : St 80 (fun _ => False) W a65 w65 _ _)
   clear hf65 hs65
   clear h64
   refine gG h65<|gRn (oM 1 rfl<|.nl)<|nK k62<|sK fun _ k66 => gRn (olw 4 ti_25 rfl rfl<|oM 1 rfl<|oeqN _ 1 rfl<|.nl)<|fun a68 w68 h68 => wl_ex (x_call h68 bd_14 rfl rfl rfl rfl rfl (make_any cq uq Lk R (decide (md = 1)) _ (h68.sh.deep 5 rfl) (h68.sh.own 6 rfl) hhq.1)) (wanted_none rfl _) ?_; clear h65
   rintro a69 w69 ⟨_, ⟨g69, fu69, sv69, kv69, hv69, bv69, en69, rfl, hby69, hel69, hnw69, hs69⟩, hf69⟩
   have h69 := (⟨hf69, h68.sh.call hs69 (by intro A hA b hb; simp only [List.mem_cons, List.not_mem_nil, or_false] at hA; rcases hA with rfl | rfl; exact (hb : False).elim; exact .inl (by obtain ⟨i9, hi9, hb9⟩ := hb; exact hnw69 _ (nth_mem _ _ hi9) b hb9))⟩ : St 80 (fun _ => False) W a69 w69 _ _)
   clear hf69 hs69
   clear h68
   refine gG h69<|gRn (oM 1 rfl<|.nl)<|nK k66<|gK fun _ k70 => fun a71 w71 h71 => x_quiet (by kernel_rfl) (by kernel_rfl) h71 fun _ z72 => qQ h71.fr<|qRn (oM 1 rfl<|onfl 2 fl_42_4 ti_40 rfl rfl<|oM 1 rfl<|onfl 0 fl_42_4 ti_40 rfl rfl<|.nl)<|qP bd_15 rfl (fun w h => (sameO_c en65 en69 _ (h.own 3 rfl) (h.own 1 rfl)))<|qRn (oM 1 rfl<|.nl)<|qN z72<|hK k70<|sK fun _ k73 => gRn (oM 1 rfl<|onfl 2 fl_42_5 ti_4 rfl rfl<|ont rfl<|oM 1 rfl<|.nl)<|?_; clear h69 h71
   rcases Bool.eq_false_or_eq_true (!fu65) with hb74 | hb74
   ·have hn74 : fu65 = false := (Bool.not_eq_true' _).mp hb74
    refine gRn (oG hb74 (r_move rfl rfl) rfl<|oG hb74 (r_nil rfl rfl) rfl<|oG hb74 (r_fieldB (r := 5) fl_42_5 rfl rfl rfl) rfl<|oG hb74 (r_ldb (i := 0) ti_4 rfl rfl rfl rfl) rfl<|oG hb74 (r_not rfl rfl) rfl<|opT hb74 rfl<|oM 1 rfl<|.nl)<|?_
    rcases Bool.eq_false_or_eq_true (!fu69) with hb75 | hb75
    ·have hn75 : fu69 = false := (Bool.not_eq_true' _).mp hb75
     refine gRn (oG hb75 (r_move rfl rfl) rfl<|oG hb75 (r_not rfl rfl) rfl<|opT hb75 rfl<|.nl)<|nK k73<|gF [1, 3, 4, 5, 8, 79] rfl<|gCb rfl (fun hb76 => ?_) fun hb76 => ?_
     ·have hp76 : ¬ (en65.l.map OutL.out = en69.l.map OutL.out) := by simpa using hb76
      exact absurd (same_ends (hby65 (by assumption)).1 (hby65 (by assumption)).2 (hby69 (by assumption)).1 (hby69 (by assumption)).2 (hhq.2 _)) (by assumption)
     have hp76 : en65.l.map OutL.out = en69.l.map OutL.out := by simpa using hb76
     refine gS<|hK k61<|gL<|gRn (oM 1 rfl<|oadN _ 1 om9 rfl<|oM 1 rfl<|.nl)<|nN<|fun a77 w77 h77 => x_again ⟨_, ?_, md + 1, ?_, h77.nrm ⟨rfl, rfl, rfl, rfl, rfl, trivial⟩ [4, 5, 6, 7, 8, 9, 10, 11, 12] rfl, rfl⟩
     · rw [hm56]; first | omega | (simp only [lens9]; omega)
     · omega
    have hn75 : fu69 = true := (Bool.not_eq_false' _).mp hb75
    refine gRn (oKs 2 hb75 rfl rfl<|opF hb75 rfl<|.nl)<|nK k73<|gF [1, 3, 4, 5, 8, 79] rfl<|gcF rfl rfl<|gS<|hK k61<|gL<|gRn (oM 1 rfl<|oadN _ 1 om9 rfl<|oM 1 rfl<|.nl)<|nN<|fun a78 w78 h78 => x_again ⟨_, ?_, md + 1, ?_, h78.nrm ⟨rfl, rfl, rfl, rfl, rfl, trivial⟩ [4, 5, 6, 7, 8, 9, 10, 11, 12] rfl, rfl⟩
    · rw [hm56]; first | omega | (simp only [lens9]; omega)
    · omega
   have hn74 : fu65 = true := (Bool.not_eq_false' _).mp hb74
   refine gRn (oKs 5 hb74 rfl rfl<|opF hb74 rfl<|oM 1 rfl<|oKs 2 rfl rfl rfl<|opF rfl rfl<|.nl)<|nK k73<|gF [1, 3, 4, 5, 8, 79] rfl<|gcF rfl rfl<|gS<|hK k61<|gL<|gRn (oM 1 rfl<|oadN _ 1 om9 rfl<|oM 1 rfl<|.nl)<|nN<|fun a79 w79 h79 => x_again ⟨_, ?_, md + 1, ?_, h79.nrm ⟨rfl, rfl, rfl, rfl, rfl, trivial⟩ [4, 5, 6, 7, 8, 9, 10, 11, 12] rfl, rfl⟩
   · rw [hm56]; first | omega | (simp only [lens9]; omega)
   · omega
  refine gX<|hK k27<|gL<|gRn (oM 1 rfl<|oadN _ 1 om9 rfl<|oM 1 rfl<|.nl)<|nN<|fun a80 w80 h80 => x_again ⟨_, ?_, wh + 1, ?_, h80.nrm ⟨rfl, rfl, rfl, trivial⟩ [5, 6, 7, 8] rfl, rfl⟩
  · rw [hm22]; first | omega | (simp only [lens9]; omega)
  · omega
 refine gX<|hK k20<|sG (oM 1 rfl<|.nl)<|gR<|fun a82 w82 h82 => x_ret1 (fn := Try.f4) (t := 2) rfl h82 rfl ?_
 exact ⟨rfl, (h82.sh.sel [] rfl)⟩

theorem optHolds_b (code : Ls (Ls Ins)) (words : Ls Int) (locks regs : Int) (W : World) (hcode : code.At W) (hwords : words.At W) (hv : vastG (code.l.map (·.l)) words.l = false) (hz : (checkG (pgOf code words locks regs)).code ≠ 0) :
    Rets Try.prog 4 [.agg #[code.v, words.v, .int .i64 locks, .int .i64 regs]] W (fun v w' => v = .bool true ∧ Sh0 W w' []) := by
 refine gen Try.func4 Try.ntmps4 (Sh0.ext2 hcode hwords : Sh (fun _ => False) W W [.at_ code, .at_ words]) rfl fun a10 h10 => gG h10<|sK fun _ k11 => gbx rfl rfl fun b12 => gRn (oM 1 rfl<|.nl)<|nK k11<|gK fun _ k13 => sK fun _ k14 => gRn (olw 0 ti_25 rfl rfl<|.nl)<|gC (fun _ _ h_ => xCl h_ bd_6 rfl (vast_c (code := code) (words := words) (locks := locks) (regs := regs) (h_.sh.at 1 rfl) (h_.sh.at 2 rfl))) rfl<|?_; clear h10
 rintro _ _ w15 ⟨rfl, hs15⟩
 refine gWk hs15 rfl<|gU<|nK k14<|gcF rfl hv<|gS<|hK k13<|sK fun _ k16 => gRn (olw 0 ti_25 rfl rfl<|.nl)<|gC (fun _ _ h_ => xCl h_ bd_9 rfl (refCheck_c (code := code) (words := words) (locks := locks) (regs := regs) (h_.sh.at 1 rfl) (h_.sh.at 2 rfl))) rfl<|?_; clear hs15
 rintro _ _ w17 ⟨rfl, hs17⟩
 refine gWk hs17 rfl<|gU<|gal ti_29 rfl fun b18 => gsw 0 ti_29 rfl rfl rfl<|nK k16<|gK fun _ k20 => sG (oM 1 rfl<|.nl)<|gB<|fun a23 w23 h23 => ?_; clear hs17
 refine x_loop (fun m a w => ∃ (wh : Nat), (wh ≤ 2) ∧ St 80 (fun _ => False) W a w [(1, .pointer (some ⟨b12, 0, none⟩)), (3, .pointer (some ⟨b18, 0, none⟩)), (4, .int .i64 ((wh : Nat) : Int))] [.blk b18 29 [.int .i64 ((checkG (pgOf code words locks regs)).code), .int .i64 ((checkG (pgOf code words locks regs)).thread), .int .i64 ((checkG (pgOf code words locks regs)).at_)], .blk b12 25 [code.v, words.v, .int .i64 locks, .int .i64 regs], .at_ code, .at_ words] ∧ m = 2 - wh) ⟨_, 0, (by omega), h23.nf ⟨rfl, rfl, rfl, trivial⟩, rfl⟩ ?_
 clear h23
 rintro m22 a22 w22 ⟨wh, hwh, h22, hm22⟩
 refine gG h22<|gK fun _ k24 => sG (oM 1 rfl<|oltN _ 2 rfl<|.nl)<|?_; clear h22
 refine gcd rfl (fun hb26 hp26 => ?_) fun hb26 hp26 => ?_
 ·skip
  refine gS<|hK k24<|gK fun _ k27 => gB<|sK fun _ k28 => gRn (olw 1 ti_25 rfl rfl<|.nl)<|gC (fun _ _ h_ => xCl h_ bd_7 rfl (oConst_b code words locks regs _ (h_.sh.at 2 rfl) (h_.sh.at 3 rfl) hz)) rfl<|?_
  rintro _ _ w29 ⟨rfl, hs29⟩
  refine gWk hs29 rfl<|gU<|gRn (oM 1 rfl<|oxt rfl<|oxt rfl<|.nl)<|gal ti_25 rfl fun b30 => gal ti_29 rfl fun b31 => gE (fun _ _ h_ => x_stb (i := 1) (vs := [(.slice none 0 0), (.slice none 0 0), .int .i64 0, .int .i64 0]) (cs' := [(.slice none 0 0), (.slice none 0 0), .int .i64 0, .int .i64 0]) h_ ti_25 rfl rfl rfl rfl rfl rfl rfl (allOne_cons ((Sh.nilAt (α := Ls Ins) h_.sh)).one (allOne_cons ((Sh.nilAt (α := Int) h_.sh)).one (allOne_cons rfl (allOne_cons rfl allOne_nil)))) (Nat.le_of_ble_eq_true rfl) rfl) rfl<|gsw 0 ti_29 rfl rfl rfl<|nK k28<|gK fun _ k34 => sG (oM 1 rfl<|oeqN _ 1 rfl<|.nl)<|?_; clear hs29
  refine gcd rfl (fun hb36 hp36 => ?_) fun hb36 hp36 => ?_
  ·skip
   refine gL<|gRn (olw 3 ti_25 rfl rfl<|.nl)<|gC (fun _ _ h_ => xCl h_ bd_8 rfl (oDead_b code words locks regs _ (h_.sh.at 4 rfl) (h_.sh.at 5 rfl) hz)) rfl<|?_
   rintro _ _ w37 ⟨rfl, hs37⟩
   refine gWk hs37 rfl<|gU<|gRn (oM 1 rfl<|oxt rfl<|oxt rfl<|.nl)<|gE (fun _ _ h_ => x_stb (i := 1) (vs := [(.slice none 0 0), (.slice none 0 0), .int .i64 0, .int .i64 0]) (cs' := [(.slice none 0 0), (.slice none 0 0), .int .i64 0, .int .i64 0]) h_ ti_25 rfl rfl rfl rfl rfl rfl rfl (allOne_cons ((Sh.nilAt (α := Ls Ins) h_.sh)).one (allOne_cons ((Sh.nilAt (α := Int) h_.sh)).one (allOne_cons rfl (allOne_cons rfl allOne_nil)))) (Nat.le_of_ble_eq_true rfl) rfl) rfl<|gsw 0 ti_29 rfl rfl rfl<|nK k34<|gK fun _ k40 => sG (olw 0 ti_29 rfl rfl<|olw 2 ti_29 rfl rfl<|oV (r_neqS rfl rfl rfl (fun w => neq_fltG _ _ ⟨(checkG (pgOf code words locks regs)).code, (checkG (pgOf code words locks regs)).thread, (checkG (pgOf code words locks regs)).at_⟩ ⟨(checkG (pgOf code words locks regs)).code, (checkG (pgOf code words locks regs)).thread, (checkG (pgOf code words locks regs)).at_⟩ w) (fun w => neq_flt ⟨(checkG (pgOf code words locks regs)).code, (checkG (pgOf code words locks regs)).thread, (checkG (pgOf code words locks regs)).at_⟩ ⟨(checkG (pgOf code words locks regs)).code, (checkG (pgOf code words locks regs)).thread, (checkG (pgOf code words locks regs)).at_⟩ w)) rfl<|.nl)<|gcF rfl (decide_eq_false (fun h => h (by first | rfl | rw [hz])))<|gS<|hK k40<|gK fun _ k42 => sG (ofB fl_29_0 rfl<|olB 2 ti_27 rfl rfl<|oneI _ _ rfl<|.nl)<|gcT rfl (decide_eq_true hz)<|gX<|hK k27<|gL<|gRn (oM 1 rfl<|oadN _ 1 om9 rfl<|oM 1 rfl<|.nl)<|nN<|fun a44 w44 h44 => ?_; clear hs37
   refine x_again ⟨_, ?_, wh + 1, ?_, h44.nrm ⟨rfl, rfl, rfl, trivial⟩ [2, 3, 4, 5] rfl, rfl⟩
   · rw [hm22]; first | omega | (simp only [lens9]; omega)
   · omega
  refine gS<|hK k34<|gK fun _ k45 => sG (olw 0 ti_29 rfl rfl<|olw 2 ti_29 rfl rfl<|oV (r_neqS rfl rfl rfl (fun w => neq_fltG _ _ ⟨(checkG (pgOf code words locks regs)).code, (checkG (pgOf code words locks regs)).thread, (checkG (pgOf code words locks regs)).at_⟩ ⟨(checkG (pgOf code words locks regs)).code, (checkG (pgOf code words locks regs)).thread, (checkG (pgOf code words locks regs)).at_⟩ w) (fun w => neq_flt ⟨(checkG (pgOf code words locks regs)).code, (checkG (pgOf code words locks regs)).thread, (checkG (pgOf code words locks regs)).at_⟩ ⟨(checkG (pgOf code words locks regs)).code, (checkG (pgOf code words locks regs)).thread, (checkG (pgOf code words locks regs)).at_⟩ w)) rfl<|.nl)<|gcF rfl (decide_eq_false (fun h => h (by first | rfl | rw [hz])))<|gS<|hK k45<|gK fun _ k47 => sG (ofB fl_29_0 rfl<|olB 2 ti_27 rfl rfl<|oneI _ _ rfl<|.nl)<|gcT rfl (decide_eq_true hz)<|gX<|hK k27<|gL<|gRn (oM 1 rfl<|oadN _ 1 om9 rfl<|oM 1 rfl<|.nl)<|nN<|fun a49 w49 h49 => x_again ⟨_, ?_, wh + 1, ?_, h49.nrm ⟨rfl, rfl, rfl, trivial⟩ [2, 3, 4, 5] rfl, rfl⟩
  · rw [hm22]; first | omega | (simp only [lens9]; omega)
  · omega
 refine gX<|hK k20<|sG (oM 1 rfl<|.nl)<|gR<|fun a51 w51 h51 => x_ret1 (fn := Try.f4) (t := 2) rfl h51 rfl ?_
 exact ⟨rfl, (h51.sh.sel [] rfl)⟩

theorem optHolds_any (code : Ls (Ls Ins)) (words : Ls Int) (locks regs : Int) (W : World) (hcode : code.At W) (hwords : words.At W) : Rets Try.prog 4 [.agg #[code.v, words.v, .int .i64 locks, .int .i64 regs]] W (fun v w' => v = .bool true ∧ Sh0 W w' []) := by
  cases hv : vastG (code.l.map (·.l)) words.l with
  | true => exact optHolds_v code words locks regs W hcode hwords hv
  | false =>
    by_cases hok : OkPg (pgOf code words locks regs)
    · obtain ⟨Lk, rfl⟩ := Int.eq_ofNat_of_zero_le hok.locks.1
      obtain ⟨R, rfl⟩ := Int.eq_ofNat_of_zero_le (show 0 ≤ regs by have := hok.regs.1; have e : (pgOf code words (Lk : Int) regs).regs = regs := rfl; omega)
      exact optHolds_k code words Lk R W hcode hwords hv hok
    · exact optHolds_b code words locks regs W hcode hwords hv (fun h => hok (checkG_code_pos.1 h))
end Go.Proofs.Ytmgikmjmdppfmaa
