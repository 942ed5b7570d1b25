/-
  What nobody needs, taken away: the program.
-/
import Derived.Test.YtmgikmjmdppfmaaE6
import Derived.Test.YtmgikmjmdppfmaaX128
namespace Go.Proofs.Ytmgikmjmdppfmaa
open Go.RowKit
set_option linter.unusedSimpArgs false
set_option linter.unusedVariables false
set_option maxRecDepth 100000
set_option maxHeartbeats 8000000

theorem dead11_c (i n b : Nat) (x : Ins) (s : Ls BArr) (f : Nat → Nat → Bool) (W : World) (hb : Blk W b 52 #[s.v]) (hs : s.At W) (hsl : s.l = liveA f n) (hi : i < n) (hn : n ≤ 5000) (ha : x.op ≤ 8 → 0 ≤ x.a ∧ x.a < 200) :
    Rets Try.prog 25 [.int .i64 ((i : Nat) : Int), .agg #[.int .i64 x.op, .int .i64 x.a, .int .i64 x.b, .int .i64 x.c], .pointer (some ⟨b, 0, none⟩)] W (fun v w' => ∃ s : Ls Ins, v = s.v ∧ Sh0 W w' [.own 44 (⟨s.v, deadB f i x⟩ : Ls Ins)]) := by
 have hsn : s.l.length = n + 1 := by rw [hsl]; exact liveA_len f n
 have hlv : x.op ≤ 8 → nth (nth s.l (i + 1)).l x.a.toNat = f x.a.toNat (i + 1) := fun h9 => by have := ha h9; rw [hsl, liveA_nth (by omega)]; exact nth_mapR (by omega)
 refine gen Try.func25 Try.ntmps25 (Sh0.ext (fun A hA => by simp only [List.mem_cons, List.not_mem_nil, or_false] at hA; rcases hA with rfl | rfl; exact hb; exact hs) (fun A hA b hb => by simp only [List.mem_cons, List.not_mem_nil, or_false] at hA; rcases hA with rfl | rfl <;> exact hb) : Sh (fun _ => False) W W [.rblk b 52 [s.v], .at_ s]) rfl fun a10 h10 => gG h10<|sK fun _ k11 => gbx rfl rfl fun b12 => gRn (oM 1 rfl<|.nl)<|nK k11<|gK fun _ k13 => gK fun _ k14 => fun a15 w15 h15 => x_quiet (by kernel_rfl) (by kernel_rfl) h15 fun _ z16 => qQ h15.fr<|qRn (ofB fl_44_0 rfl<|olB 0 ti_3 rfl rfl<|oleI _ _ rfl<|oM 1 rfl<|.nl)<|?_; clear h10
 rcases dsp (x.op ≤ 8) with ⟨hb17, hp17⟩ | ⟨hb17, hp17⟩
 ·skip
  refine qRn (oG hb17 (r_ldbR ti_52 rfl rfl (fun w h => h.rblk 1 rfl) rfl) rfl<|oG hb17 (r_move rfl rfl) rfl<|oG hb17 (r_addN (p := i) (q := 1) rfl rfl rfl (show i + 1 < 9223372036854775808 from om9)) rfl<|oG hb17 (r_fieldB (r := 1) fl_44_1 rfl rfl rfl) rfl<|oG hb17 (r_ldb (i := 0) ti_3 rfl rfl rfl rfl) rfl<|.nl)<|?_
  have hl24 : s.l.length ≤ 140737488355328 := (h15.sh.at 2 rfl).len
  refine qRn (oG hb17 (r_ixN (s := s) (q := i + 1) sl_52 ti_55 rfl rfl rfl (fun w h => (h.at 2 rfl)) (show i + 1 < s.l.length from om9)) rfl<|oG hb17 (r_ixArEI (q := x.a) ar_55 ti_4 rfl rfl rfl rfl (show 0 ≤ x.a ∧ x.a < 200 from om9)) rfl<|oG hb17 (r_lde (s := s) (i := i + 1) (j := x.a.toNat) (v := .bool (nth (nth s.l (i + 1)).l x.a.toNat)) ti_4 rfl rfl rfl (fun w h => (h.at 2 rfl)) (show i + 1 < s.l.length from om9) (show x.a.toNat < 200 from om9) rfl) rfl<|oG hb17 (r_not rfl rfl) rfl<|opT hb17 rfl<|.nl)<|qN z16<|?_; clear h15
  refine hK k14<|gCb rfl (fun hb28 => ?_) fun hb28 => ?_
  ·have hn28 : nth (nth s.l (i + 1)).l x.a.toNat = false := (Bool.not_eq_true' _).mp hb28
   refine sG (oM 1 rfl<|.nl)<|gR<|uT<|fun a30 w30 h30 => x_ret1 (fn := Try.f25) (t := 5) rfl h30 rfl ?_
   have e9 : deadB f i x = [] := by unfold deadB; first | exact if_pos ⟨by omega, (hlv (by omega)).symm.trans (by assumption)⟩ | exact if_neg (fun h9 => by omega) | exact if_neg (fun h9 => absurd ((by assumption : nth (nth s.l (i + 1)).l x.a.toNat = true).symm.trans ((hlv h9.1).trans h9.2)) (by decide))
   refine ⟨⟨.slice none 0 0, []⟩, rfl, ?_⟩
   rw [e9]; exact ((h30.sh.sel [] rfl).nil 44)
  have hn28 : nth (nth s.l (i + 1)).l x.a.toNat = true := (Bool.not_eq_false' _).mp hb28
  refine gS<|hK k13<|sK fun _ k31 => gRn (olw 0 ti_44 rfl rfl<|.nl)<|gE1 (fun _ _ h_ => x_lit (n := 1) (cs := [.int .i64 x.op, .int .i64 x.a, .int .i64 x.b, .int .i64 x.c]) ([x] : List Ins) h_ sl_45 ti_44 rfl rfl rfl (by decide) rfl (by kernel_rfl) rfl (fun q hq w h => Flat.inner _ _) (fun q hq b hb => (Flat.on _ _ hb).elim) rfl rfl) rfl fun v32 => gRn (oM 1 rfl<|.nl)<|nK k31<|gR<|fun a33 w33 h33 => x_ret1 (fn := Try.f25) (t := 5) rfl h33 rfl ?_
  have e9 : deadB f i x = [x] := by unfold deadB; first | exact if_pos ⟨by omega, (hlv (by omega)).symm.trans (by assumption)⟩ | exact if_neg (fun h9 => by omega) | exact if_neg (fun h9 => absurd ((by assumption : nth (nth s.l (i + 1)).l x.a.toNat = true).symm.trans ((hlv h9.1).trans h9.2)) (by decide))
  refine ⟨⟨v32, []⟩, rfl, ?_⟩
  rw [e9]; exact (h33.sh.sel (L' := [_]) [0] rfl)
 refine qRn (oKs 9 hb17 rfl rfl<|opF hb17 rfl<|.nl)<|qN z16<|?_; clear h15
 refine hK k14<|gcF rfl rfl<|gS<|hK k13<|sK fun _ k35 => gRn (olw 0 ti_44 rfl rfl<|.nl)<|gE1 (fun _ _ h_ => x_lit (n := 1) (cs := [.int .i64 x.op, .int .i64 x.a, .int .i64 x.b, .int .i64 x.c]) ([x] : List Ins) h_ sl_45 ti_44 rfl rfl rfl (by decide) rfl (by kernel_rfl) rfl (fun q hq w h => Flat.inner _ _) (fun q hq b hb => (Flat.on _ _ hb).elim) rfl rfl) rfl fun v36 => gRn (oM 1 rfl<|.nl)<|nK k35<|gR<|fun a37 w37 h37 => x_ret1 (fn := Try.f25) (t := 5) rfl h37 rfl ?_
 have e9 : deadB f i x = [x] := by unfold deadB; first | exact if_pos ⟨by omega, (hlv (by omega)).symm.trans (by assumption)⟩ | exact if_neg (fun h9 => by omega) | exact if_neg (fun h9 => absurd ((by assumption : nth (nth s.l (i + 1)).l x.a.toNat = true).symm.trans ((hlv h9.1).trans h9.2)) (by decide))
 refine ⟨⟨v36, []⟩, rfl, ?_⟩
 rw [e9]; exact (h37.sh.sel (L' := [_]) [0] rfl)

theorem dead1_c (x : Ls Ins) (R : Nat) (W : World) (hx : x.At W) (hov : OkV x.l (R : Int)) (hj : JumpsOK x.l) (hcl : x.l.length ≤ 400) (hR : R ≤ 200) :
    Rets Try.prog 23 [x.v] W (fun v w' => ∃ s : Ls Ins, v = s.v ∧ s.l = deadL x.l ∧ Sh0 W w' [.own 44 s]) := by
 refine gen Try.func23 Try.ntmps23 (Sh0.ext1 hx : Sh (fun _ => False) W W [.at_ x]) rfl fun a10 h10 => gG h10<|sG (oM 1 rfl<|.nl)<|sK fun _ k12 => gRn (oM 1 rfl<|.nl)<|fun a14 w14 h14 => wl_ex (x_call h14 bd_24 rfl rfl rfl rfl rfl (sets_c x ((R : Nat) : Int) (liveC x.l) _ (h14.sh.at 0 rfl) (by omega) hj hov (fun r j => liveC_iff x.l r j) (by omega))) (wanted_none rfl _) ?_; clear h10
 rintro a15 w15 ⟨_, ⟨s15, rfl, hsl15, hs15⟩, hf15⟩
 have h15 := (⟨hf15, h14.sh.call hs15 (by intro A hA b hb; first | (simp at hA; done) | (simp at hA; subst hA; first | exact Flat.noRd hb | exact barr_noRd hb | exact (hb : False).elim))⟩ : St 9 (fun _ => False) W a15 w15 _ _)
 clear hf15 hs15
 clear h14
 refine gG h15<|gal ti_52 rfl fun b16 => gsr 0 ti_52 rfl (aO 1 rfl) rfl<|nK k12<|sK fun _ k18 => gRn (oM 1 rfl<|oV (r_makeFunc rfl rfl rfl) rfl<|.nl)<|fun a20 w20 h20 => wl_ex (x_call h20 bd_21 rfl rfl rfl rfl rfl (moved_c x 25 [] [.pointer (some ⟨b16, 0, none⟩)] (deadB (liveC x.l)) (Asn.ro [.blk b16 52 [s15.v], .at_ s15]) _ (h20.sh.at 2 rfl) (show x.l.length ≤ 5000 by omega) bd_25 (fun _ h => h) (fun B hB => by simp only [List.mem_cons, List.not_mem_nil, or_false] at hB; rcases hB with rfl | rfl; exact h20.sh.ok _ (List.mem_of_getElem? (i := 0) rfl); exact h20.sh.own 1 rfl) (fun w i hE hi => dead11_c i x.l.length b16 (nth x.l i) s15 (liveC x.l) w (hE (.blk b16 52 [s15.v]) (by simp)) (hE (.at_ s15) (by simp)) hsl15 hi (by omega) (fun h9 => by have h8 := (hov i hi).2.1 (.inl h9); have h7 := (hov i hi).2.2.1.2; unfold wrG at h7; rw [if_neg (by omega), if_pos (by omega)] at h7; omega)) (fun i hi => Nat.le_trans (deadB_len _ _ _) (by decide)) (deadB_ok hj))) (wanted_none rfl _) ?_; clear h15
 rintro a21 w21 ⟨_, ⟨s21, rfl, hl21, hs21⟩, hf21⟩
 have h21 := (⟨hf21, h20.sh.call hs21 (by intro A hA b hb; first | (simp at hA; done) | (simp at hA; subst hA; first | exact Flat.noRd hb | exact barr_noRd hb | exact (hb : False).elim))⟩ : St 9 (fun _ => False) W a21 w21 _ _)
 clear hf21 hs21
 clear h20
 refine gG h21<|gRn (oM 1 rfl<|.nl)<|nK k18<|gR<|fun a22 w22 h22 => x_ret1 (fn := Try.f23) (t := 2) rfl h22 rfl ?_; clear h21
 exact ⟨s21, rfl, by rw [hl21]; rfl, (h22.sh.sel [0] rfl)⟩

theorem oDead_k (code : Ls (Ls Ins)) (words : Ls Int) (locks regs : Int) (W : World) (hcode : code.At W) (hwords : words.At W) (hok : OkPg (pgOf code words locks regs)) :
    Rets Try.prog 8 [.agg #[code.v, words.v, .int .i64 locks, .int .i64 regs]] W (fun v w' => ∃ (c : Ls (Ls Ins)) (u : Ls Int), v = .tuple #[.agg #[c.v, u.v, .int .i64 locks, .int .i64 regs], .agg #[.int .i64 0, .int .i64 0, .int .i64 0]] ∧ c.l.map (·.l) = (List.range code.l.length).map (fun t => deadL (nth code.l t).l) ∧ u.l = words.l ∧ Sh0 W w' [.deep 45 c, .own 3 u]) := by
 have hz := checkG_ok hok
 obtain ⟨hl1, hl2, hl3, hl4', hl5, hl6, hl7⟩ := ok_len hok
 have hrg := hok.regs
 have hrg1 : ((pgOf code words locks regs)).regs = regs := rfl
 rw [hrg1] at hrg
 refine gen Try.func8 Try.ntmps8 (Sh0.ext2 hcode hwords : Sh (fun _ => False) W W [.at_ code, .at_ words]) rfl fun a10 h10 => gG h10<|sK fun _ k11 => gbx rfl rfl fun b12 => gal ti_25 rfl fun b13 => gal ti_29 rfl fun b14 => nK k11<|gK fun _ k15 => sK fun _ k16 => gRn (olw 2 ti_25 rfl rfl<|.nl)<|gC (fun _ _ h_ => xCl h_ bd_17 rfl (asmCheck_c (code := code) (words := words) (locks := locks) (regs := regs) (h_.sh.at 3 rfl) (h_.sh.at 4 rfl))) rfl<|?_; clear h10
 rintro _ _ w17 ⟨rfl, hs17⟩
 refine gWk hs17 rfl<|gU<|gal ti_29 rfl fun b18 => gsw 0 ti_29 rfl rfl rfl<|nK k16<|sG (ofB fl_29_0 rfl<|olB 0 ti_27 rfl rfl<|oneI _ _ rfl<|.nl)<|gcF rfl (by rw [hz]; rfl)<|gS<|hK k15<|sK fun _ k21 => gRn (olw 3 ti_25 rfl rfl<|.nl)<|gC (fun _ _ h_ => xCl h_ bd_18 rfl (anew_c code words locks regs 23 [] [] deadL Asn.tt _ (h_.sh.at 4 rfl) (h_.sh.at 5 rfl) hok bd_23 (fun _ h => h) trivial (fun w t _ ht hx => dead1_c (nth code.l t) regs.toNat w hx (by rw [Int.toNat_of_nonneg (by omega)]; exact okV_of hok t ht) (ok_thread hok t ht).2 (ok_thread hok t ht).1 (by omega)))) rfl<|?_; clear hs17
 rintro _ _ w22 ⟨c22, u22, rfl, hq22, hu22, hs22⟩
 refine gWk hs22 rfl<|gU<|gRn (oV (r_build (cs := [.int .i64 0, .int .i64 0, .int .i64 0]) rfl rfl (by kernel_rfl)) rfl<|.nl)<|gE (fun _ _ h_ => x_stb (i := 4) (vs := [c22.v, u22.v, .int .i64 locks, .int .i64 regs]) (cs' := [c22.v, u22.v, .int .i64 locks, .int .i64 regs]) h_ ti_25 rfl rfl rfl rfl rfl rfl rfl (allOne_cons ((h_.sh.deep 0 rfl)).one (allOne_cons ((h_.sh.own 1 rfl)).one (allOne_cons rfl (allOne_cons rfl allOne_nil)))) (Nat.le_of_ble_eq_true rfl) rfl) rfl<|gsw 3 ti_29 rfl rfl rfl<|nK k21<|gR<|fun a25 w25 h25 => ?_; clear hs22
 refine x_ret2c (fn := Try.f8) (t := 2) (t2 := 3) (i := 4) (i2 := 3) ti_25 ti_29 rfl h25 rfl rfl rfl rfl rfl rfl ?_
 exact ⟨c22, u22, rfl, hq22, hu22, (h25.sh.sel [0, 1] rfl)⟩

theorem oDead_b (code : Ls (Ls Ins)) (words : Ls Int) (locks regs : Int) (W : World) (hcode : code.At W) (hwords : words.At W) (hz : (checkG (pgOf code words locks regs)).code ≠ 0) :
    Rets Try.prog 8 [.agg #[code.v, words.v, .int .i64 locks, .int .i64 regs]] W (fun v w' => v = .tuple #[.agg #[.slice none 0 0, .slice none 0 0, .int .i64 0, .int .i64 0], (checkG (pgOf code words locks regs)).val] ∧ Sh0 W w' []) := by
 refine gen Try.func8 Try.ntmps8 (Sh0.ext2 hcode hwords : Sh (fun _ => False) W W [.at_ code, .at_ words]) rfl fun a10 h10 => gG h10<|sK fun _ k11 => gbx rfl rfl fun b12 => gal ti_25 rfl fun b13 => gal ti_29 rfl fun b14 => nK k11<|gK fun _ k15 => sK fun _ k16 => gRn (olw 2 ti_25 rfl rfl<|.nl)<|gC (fun _ _ h_ => xCl h_ bd_17 rfl (asmCheck_c (code := code) (words := words) (locks := locks) (regs := regs) (h_.sh.at 3 rfl) (h_.sh.at 4 rfl))) rfl<|?_; clear h10
 rintro _ _ w17 ⟨rfl, hs17⟩
 refine gWk hs17 rfl<|gU<|gal ti_29 rfl fun b18 => gsw 0 ti_29 rfl rfl rfl<|nK k16<|sG (ofB fl_29_0 rfl<|olB 0 ti_27 rfl rfl<|oneI _ _ rfl<|.nl)<|gcT rfl (decide_eq_true hz)<|gK fun _ k21 => rC [2, 3] rfl<|pR [0, 1] rfl (oV (r_build (cs := [(.slice none 0 0), (.slice none 0 0), .int .i64 0, .int .i64 0]) rfl rfl (by kernel_rfl)) rfl<|olw 0 ti_29 rfl rfl<|.nl) rfl<|pS (fun _ _ h_ => x_stb (i := 2) (vs := [(.slice none 0 0), (.slice none 0 0), .int .i64 0, .int .i64 0]) (cs' := [(.slice none 0 0), (.slice none 0 0), .int .i64 0, .int .i64 0]) h_ ti_25 rfl rfl rfl rfl rfl rfl rfl (allOne_cons rfl (allOne_cons rfl (allOne_cons rfl (allOne_cons rfl allOne_nil)))) (Nat.le_of_ble_eq_true rfl) rfl) rfl<|pR [1] rfl (olw 0 ti_29 rfl rfl<|.nl) rfl<|pS (fun _ _ h_ => x_stb (i := 1) (vs := [.int .i64 ((checkG (pgOf code words locks regs)).code), .int .i64 ((checkG (pgOf code words locks regs)).thread), .int .i64 ((checkG (pgOf code words locks regs)).at_)]) (cs' := [.int .i64 ((checkG (pgOf code words locks regs)).code), .int .i64 ((checkG (pgOf code words locks regs)).thread), .int .i64 ((checkG (pgOf code words locks regs)).at_)]) h_ ti_29 rfl rfl rfl rfl rfl rfl rfl (allOne_cons rfl (allOne_cons rfl (allOne_cons rfl allOne_nil))) (Nat.le_of_ble_eq_true rfl) rfl) rfl<|pE [] rfl (.nl) rfl<|hK k21<|gR<|uT<|fun a24 w24 h24 => ?_; clear hs17
 refine x_ret2c (fn := Try.f8) (t := 2) (t2 := 3) (i := 2) (i2 := 1) ti_25 ti_29 rfl h24 rfl rfl rfl rfl rfl rfl ?_
 exact ⟨rfl, (h24.sh.sel [] rfl)⟩

end Go.Proofs.Ytmgikmjmdppfmaa
