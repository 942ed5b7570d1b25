/-
  The lexer: a fault thrown; a byte looked at; bytes of a kind.
-/
import Derived.Test.YthdkmhaneellcaaGreatDoorX141
namespace Go.Proofs.YthdkmhaneellcaaGreatDoor
open Go.RowKit
set_option linter.unusedSimpArgs false
set_option linter.unusedVariables false
set_option maxRecDepth 100000
set_option maxHeartbeats 1000000


/-- What is thrown for a fault: its code, its place. -/
def wrongV (c : Int) (i : Nat) : Value := .iface 76 (.agg #[.int .i64 c, .int .i64 0, .int .i64 (i : Int)])
theorem stands_f {n : Int} (h : 0 ≤ n) (h2 : standsN n = false) : (n < 32 ∨ 126 < n) ∧ ¬ n = 9 ∧ ¬ n = 10 ∧ ¬ n = 13 := by
  unfold standsN blankN at h2
  simp only [Bool.or_eq_false_iff, Bool.and_eq_false_iff, decide_eq_false_iff_not] at h2
  omega
theorem stands_t {n : Int} (h2 : standsN n = true) : (32 ≤ n ∧ n ≤ 126) ∨ n = 9 ∨ n = 10 ∨ n = 13 := by
  unfold standsN blankN at h2
  simp only [Bool.or_eq_true, Bool.and_eq_true, decide_eq_true_eq] at h2
  omega
theorem stands_ff {n : Int} (h : n < 32 ∨ 126 < n) (h2 : ¬ (n = 9 ∨ n = 10 ∨ n = 13)) : standsN n = false := by
  cases h3 : standsN n
  · rfl
  · exact absurd (stands_t h3) (by omega)
theorem stands_tt {n : Int} (h : 0 ≤ n) (h2 : (32 ≤ n ∧ n ≤ 126) ∨ n = 9 ∨ n = 10 ∨ n = 13) : standsN n = true := by
  cases h3 : standsN n
  · have := stands_f h h3; omega
  · rfl

theorem fail_c (x0 : Value) (c : Int) (k : Nat) (W : World) :
    RetsP Tryz.prog 65 [x0, .int .i64 c, .int .i64 ((k : Nat) : Int)] W (fun v w' => False) (fun x w' => x = wrongV c k ∧ Sh0 W w' []) := by
 refine genP Tryz.func65 Tryz.ntmps65 (Sh0.start W : Sh (fun _ => False) W W []) rfl fun a10 h10 => gG h10<|gL<|gRn (oM 2 rfl<|oV (r_build (cs := [.int .i64 c, .int .i64 0, .int .i64 ((k : Nat) : Int)]) rfl rfl (by kernel_rfl)) rfl<|oV (r_build (cs := [.int .i64 c, .int .i64 0, .int .i64 ((k : Nat) : Int)]) rfl rfl (by kernel_rfl)) rfl<|oV (r_mkIfV rfl rfl (by kernel_rfl)) rfl<|.nl)<|fun a11 w11 h11 => ?_; clear h10
 exact wl_panicI (T := 76) h11 rfl rfl (wanted_none rfl _) (pnP h11 ⟨rfl, (h11.sh.sel [] rfl)⟩)

theorem look_c (g : Nat) (s : ByteArray) (i : Nat) (k : Nat) (W : World) (hS : Blk W g 79 #[.string s, .int .i64 (i : Int)]) (hsz : s.size ≤ 4000) (hk : k < s.size) :
    RetsP Tryz.prog 57 [.pointer (some ⟨g, 0, none⟩), .int .i64 ((k : Nat) : Int)] W (fun v w' => v = .int .u8 (bt s k) ∧ standsN (bt s k) = true ∧ Sh0 W w' []) (fun x w' => x = wrongV 4 k ∧ standsN (bt s k) = false ∧ Sh0 W w' []) := by
 have hbt := bt_range s k
 refine genP Tryz.func57 Tryz.ntmps57 (Sh0.ext (by intro A hA; simp at hA; subst hA; exact hS) (by intro A hA b hb; simp at hA; subst hA; exact hb) : Sh (fun _ => False) W W [.rblk g 79 [.string s, .int .i64 ((i : Nat) : Int)]]) rfl fun a10 h10 => gG h10<|sG (oM 1 rfl<|.nl)<|sG (oM 1 rfl<|onf fl_79_0 rfl<|olR 0 ti_9 rfl rfl<|oM 1 rfl<|oV (r_ixBt (s := s) (q := k) Tryz.underlying9 rfl rfl rfl (show k < s.size from om9)) rfl<|oM 1 rfl<|.nl)<|gK fun _ k13 => sK fun _ k14 => gRn (oM 1 rfl<|oltI _ _ rfl<|oM 1 rfl<|.nl)<|?_; clear h10
 rcases dsp ((bt s k) < 32) with ⟨hb15, hp15⟩ | ⟨hb15, hp15⟩
 ·skip
  refine gRn (oKs 2 hb15 rfl rfl<|opT hb15 rfl<|oM 1 rfl<|oG rfl (r_move rfl rfl) rfl<|oG rfl (r_cvB (n := (bt s k)) Tryz.underlying5 Tryz.underlying21 rfl rfl (show 0 ≤ (bt s k) ∧ (bt s k) < 256 from om9) (by kernel_rfl)) rfl<|.nl)<|fun a16 w16 h16 => wl_ex (x_call h16 bd_99 rfl rfl rfl rfl rfl (cRune_c (bt s k) _ (by omega))) (wanted_yes h16.fr rfl rfl rfl rfl rfl) ?_
  rintro a17 w17 ⟨_, ⟨rfl, hs17⟩, hf17⟩
  have h17 : St 32 (fun _ => False) W a17 w17 _ _ := ⟨hf17, h16.sh.call0 hs17⟩
  clear hf17 hs17
  clear h16
  refine gG h17<|gRn (oG rfl (r_not rfl rfl) rfl<|opT rfl rfl<|oM 1 rfl<|.nl)<|?_; clear h17
  rcases Bool.eq_false_or_eq_true (!(decide ((bt s k) = 9 ∨ (bt s k) = 10 ∨ (bt s k) = 13))) with hb18 | hb18
  ·have hp18 : ¬ ((bt s k) = 9 ∨ (bt s k) = 10 ∨ (bt s k) = 13) := by first | exact of_decide_eq_false ((Bool.not_eq_true' _).mp hb18) | simpa using hb18
   refine gRn (oKs 2 hb18 rfl rfl<|opT hb18 rfl<|.nl)<|nK k14<|gcT rfl rfl<|gL<|gRn (oM 2 rfl<|.nl)<|fun a19 w19 h19 => ?_
   exact wl_callP h19 bd_65 rfl rfl rfl rfl rfl (wanted_none rfl _) (fail_c (.pointer (some ⟨g, 0, none⟩)) 4 k w19) (fun x9 w9 hx9 => pnF (P := Tryz.prog) (fn := Tryz.f57) h19.fr ⟨hx9.1, stands_ff (by omega) (by omega), (h19.sh.call0 hx9.2).sel [] rfl⟩) (fun _ _ ⟨_, hno, _⟩ => hno.elim)
  have hp18 : (bt s k) = 9 ∨ (bt s k) = 10 ∨ (bt s k) = 13 := by first | exact of_decide_eq_true ((Bool.not_eq_false' _).mp hb18) | simpa using hb18
  refine gRn (oG hb18 (r_move rfl rfl) rfl<|oG hb18 (r_geqI (p := (bt s k)) (q := 128) rfl rfl rfl) rfl<|opF hb18 rfl<|.nl)<|nK k14<|gcd rfl (fun hb21 hp21 => ?_) fun hb21 hp21 => ?_
  ·skip
   refine gL<|gRn (oM 2 rfl<|.nl)<|fun a22 w22 h22 => ?_
   exact wl_callP h22 bd_65 rfl rfl rfl rfl rfl (wanted_none rfl _) (fail_c (.pointer (some ⟨g, 0, none⟩)) 4 k w22) (fun x9 w9 hx9 => pnF (P := Tryz.prog) (fn := Tryz.f57) h22.fr ⟨hx9.1, stands_ff (by omega) (by omega), (h22.sh.call0 hx9.2).sel [] rfl⟩) (fun _ _ ⟨_, hno, _⟩ => hno.elim)
  refine gS<|hK k13<|gF [5] rfl<|sG (oM 2 rfl<|.nl)<|gR<|fun a25 w25 h25 => rP <| x_ret1 (fn := Tryz.f57) (t := 4) rfl h25 rfl <| ⟨rfl, ?_, (h25.sh.sel [] rfl)⟩
  exact stands_tt hbt.1 (by omega)
 refine gRn (oG hb15 (r_move rfl rfl) rfl<|oG hb15 (r_gtrI (p := (bt s k)) (q := 126) rfl rfl rfl) rfl<|opF hb15 rfl<|oM 1 rfl<|.nl)<|?_
 rcases dsp (126 < (bt s k)) with ⟨hb26, hp26⟩ | ⟨hb26, hp26⟩
 ·skip
  refine gRn (oG hb26 (r_move rfl rfl) rfl<|oG hb26 (r_cvB (n := (bt s k)) Tryz.underlying5 Tryz.underlying21 rfl rfl (show 0 ≤ (bt s k) ∧ (bt s k) < 256 from om9) (by kernel_rfl)) rfl<|.nl)<|fun a27 w27 h27 => wl_ex (x_call h27 bd_99 rfl rfl rfl rfl rfl (cRune_c (bt s k) _ (by omega))) (wanted_yes h27.fr rfl rfl rfl rfl hb26) ?_
  rintro a28 w28 ⟨_, ⟨rfl, hs28⟩, hf28⟩
  have h28 : St 32 (fun _ => False) W a28 w28 _ _ := ⟨hf28, h27.sh.call0 hs28⟩
  clear hf28 hs28
  clear h27
  refine gG h28<|gRn (oG hb26 (r_not rfl rfl) rfl<|opT hb26 rfl<|oM 1 rfl<|.nl)<|?_; clear h28
  rcases Bool.eq_false_or_eq_true (!(decide ((bt s k) = 9 ∨ (bt s k) = 10 ∨ (bt s k) = 13))) with hb29 | hb29
  ·have hp29 : ¬ ((bt s k) = 9 ∨ (bt s k) = 10 ∨ (bt s k) = 13) := by first | exact of_decide_eq_false ((Bool.not_eq_true' _).mp hb29) | simpa using hb29
   refine gRn (oKs 2 hb29 rfl rfl<|opT hb29 rfl<|.nl)<|nK k14<|gcT rfl rfl<|gL<|gRn (oM 2 rfl<|.nl)<|fun a30 w30 h30 => ?_
   exact wl_callP h30 bd_65 rfl rfl rfl rfl rfl (wanted_none rfl _) (fail_c (.pointer (some ⟨g, 0, none⟩)) 4 k w30) (fun x9 w9 hx9 => pnF (P := Tryz.prog) (fn := Tryz.f57) h30.fr ⟨hx9.1, stands_ff (by omega) (by omega), (h30.sh.call0 hx9.2).sel [] rfl⟩) (fun _ _ ⟨_, hno, _⟩ => hno.elim)
  have hp29 : (bt s k) = 9 ∨ (bt s k) = 10 ∨ (bt s k) = 13 := by first | exact of_decide_eq_true ((Bool.not_eq_false' _).mp hb29) | simpa using hb29
  refine gRn (oG hb29 (r_move rfl rfl) rfl<|oG hb29 (r_geqI (p := (bt s k)) (q := 128) rfl rfl rfl) rfl<|opF hb29 rfl<|.nl)<|nK k14<|gcd rfl (fun hb32 hp32 => ?_) fun hb32 hp32 => ?_
  ·skip
   refine gL<|gRn (oM 2 rfl<|.nl)<|fun a33 w33 h33 => ?_
   exact wl_callP h33 bd_65 rfl rfl rfl rfl rfl (wanted_none rfl _) (fail_c (.pointer (some ⟨g, 0, none⟩)) 4 k w33) (fun x9 w9 hx9 => pnF (P := Tryz.prog) (fn := Tryz.f57) h33.fr ⟨hx9.1, stands_ff (by omega) (by omega), (h33.sh.call0 hx9.2).sel [] rfl⟩) (fun _ _ ⟨_, hno, _⟩ => hno.elim)
  refine gS<|hK k13<|gF [5] rfl<|sG (oM 2 rfl<|.nl)<|gR<|fun a36 w36 h36 => rP <| x_ret1 (fn := Tryz.f57) (t := 4) rfl h36 rfl <| ⟨rfl, ?_, (h36.sh.sel [] rfl)⟩
  exact stands_tt hbt.1 (by omega)
 refine gRn (oKs 4 hb26 rfl rfl<|opF hb26 rfl<|oM 1 rfl<|oG rfl (r_move rfl rfl) rfl<|oG rfl (r_geqI (p := (bt s k)) (q := 128) rfl rfl rfl) rfl<|opF rfl rfl<|.nl)<|nK k14<|gcd rfl (fun hb37 hp37 => ?_) fun hb37 hp37 => ?_
 ·skip
  refine gL<|gRn (oM 2 rfl<|.nl)<|fun a38 w38 h38 => ?_
  exact wl_callP h38 bd_65 rfl rfl rfl rfl rfl (wanted_none rfl _) (fail_c (.pointer (some ⟨g, 0, none⟩)) 4 k w38) (fun x9 w9 hx9 => pnF (P := Tryz.prog) (fn := Tryz.f57) h38.fr ⟨hx9.1, stands_ff (by omega) (by omega), (h38.sh.call0 hx9.2).sel [] rfl⟩) (fun _ _ ⟨_, hno, _⟩ => hno.elim)
 refine gS<|hK k13<|gF [5] rfl<|sG (oM 2 rfl<|.nl)<|gR<|fun a41 w41 h41 => rP <| x_ret1 (fn := Tryz.f57) (t := 4) rfl h41 rfl <| ⟨rfl, ?_, (h41.sh.sel [] rfl)⟩
 exact stands_tt hbt.1 (by omega)

theorem while_c (g : Nat) (s : ByteArray) (i : Nat) (k : Nat) (bf : FuncId) (p : Int → Bool)  (W : World) (hS : Blk W g 79 #[.string s, .int .i64 (i : Int)]) (hsz : s.size ≤ 4000) (hk : k ≤ s.size) (hbd : bodyI Tryz.prog bf = true) (hcf : ∀ (w : World) (n : Int), 0 ≤ n ∧ n < 256 → Rets Tryz.prog bf [.int .u8 n] w (fun v w' => v = .bool (p n) ∧ Sh0 w w' [])) :
    Rets Tryz.prog 60 [.pointer (some ⟨g, 0, none⟩), .int .i64 ((k : Nat) : Int), .func (.func bf) #[] #[]] W (fun v w' => v = .int .i64 ((runS p s k : Nat) : Int) ∧ Sh0 W w' []) := by
 refine gen Tryz.func60 Tryz.ntmps60 (Sh0.ext (by intro A hA; simp at hA; subst hA; exact hS) (by intro A hA b hb; simp at hA; subst hA; exact hb) : Sh (fun _ => False) W W [.rblk g 79 [.string s, .int .i64 ((i : Nat) : Int)]]) rfl fun a10 h10 => gG h10<|sG (oM 1 rfl<|.nl)<|gK fun _ k12 => gB<|fun a14 w14 h14 => x_loop (fun m a w => ∃ (q : Nat), (q ≤ s.size) ∧ (runS p s q = runS p s k) ∧ St 27 (fun _ => False) W a w [(0, .pointer (some ⟨g, 0, none⟩)), (1, .int .i64 ((q : Nat) : Int)), (2, .func (.func bf) #[] #[])] [.rblk g 79 [.string s, .int .i64 ((i : Nat) : Int)]] ∧ m = s.size - q) ⟨_, k, (by omega), (rfl), h14.nf ⟨rfl, rfl, rfl, trivial⟩, rfl⟩ ?_; clear h10
 clear h14
 rintro m13 a13 w13 ⟨q, hq, hr, h13, hm13⟩
 have hbt := bt_range s q
 refine gG h13<|gK fun _ k15 => sK fun _ k16 => gRn (oM 2 rfl<|onf fl_79_0 rfl<|olR 0 ti_9 rfl rfl<|oV (r_lenStr (s := s) Tryz.underlying9 rfl rfl) rfl<|oltN _ _ rfl<|oM 1 rfl<|.nl)<|?_; clear h13
 rcases dsp (q < s.size) with ⟨hb17, hp17⟩ | ⟨hb17, hp17⟩
 ·skip
  refine gRn (oG hb17 (r_move rfl rfl) rfl<|oG hb17 (r_move rfl rfl) rfl<|oG hb17 (r_nil rfl rfl) rfl<|oG hb17 (r_fieldB (r := 0) fl_79_0 rfl rfl rfl) rfl<|oG hb17 (r_ldbR ti_9 rfl rfl (fun w h => h.rblk 0 rfl) rfl) rfl<|oG hb17 (r_move rfl rfl) rfl<|oG hb17 (r_ixBt (s := s) (q := q) Tryz.underlying9 rfl rfl rfl (show q < s.size from om9)) rfl<|.nl)<|fun a18 w18 h18 => wl_ex (x_call h18 hbd rfl rfl rfl rfl rfl (hcf _ (bt s q) (by omega))) (wanted_yes h18.fr rfl rfl rfl rfl hb17) ?_
  rintro a19 w19 ⟨_, ⟨rfl, hs19⟩, hf19⟩
  have h19 : St 27 (fun _ => False) W a19 w19 _ _ := ⟨hf19, h18.sh.call0 hs19⟩
  clear hf19 hs19
  clear h18
  refine gG h19<|gRn (opT hb17 rfl<|.nl)<|nK k16<|?_; clear h19
  refine gCb rfl (fun hb20 => ?_) fun hb20 => ?_
  ·skip
   refine gS<|hK k15<|gB<|gL<|gRn (oM 1 rfl<|oadN _ 1 om9 rfl<|oM 1 rfl<|.nl)<|nN<|fun a21 w21 h21 => ?_
   change ∃ _m, _m < _ ∧ _
   refine ⟨_, ?_, q + 1, ?_, ?_, h21.nf ⟨rfl, rfl, rfl, trivial⟩, rfl⟩
   · rw [hm13]; first | omega | (simp only [lens9]; omega)
   · omega
   · exact (show runS p s q = runS p s (q + 1) by rw [runS_eq (i := q) (by omega), if_pos (by assumption)]).symm.trans hr
  refine gX<|hK k12<|sG (oM 2 rfl<|.nl)<|gR<|fun a23 w23 h23 => x_ret1 (fn := Tryz.f60) (t := 6) rfl h23 rfl ?_
  have e9 : runS p s q = q := by first | exact runS_end (by omega) | rw [runS_eq (by omega), if_neg (by simp only [*]; decide)]
  exact ⟨by rw [← hr, e9], (h23.sh.sel [] rfl)⟩
 refine gRn (oKs 8 hb17 rfl rfl<|opF hb17 rfl<|.nl)<|nK k16<|gcF rfl rfl<|gX<|hK k12<|sG (oM 2 rfl<|.nl)<|gR<|fun a25 w25 h25 => x_ret1 (fn := Tryz.f60) (t := 6) rfl h25 rfl ?_
 have e9 : runS p s q = q := by first | exact runS_end (by omega) | rw [runS_eq (by omega), if_neg (by simp only [*]; decide)]
 exact ⟨by rw [← hr, e9], (h25.sh.sel [] rfl)⟩

theorem tok1_c (n : Int) (W : World) :
    Rets Tryz.prog 61 [.int .u8 n] W (fun v w' => v = .bool (wordN n) ∧ Sh0 W w' []) := by
 refine gen Tryz.func61 Tryz.ntmps61 (Sh0.start W : Sh (fun _ => False) W W []) rfl fun a10 h10 => gG h10<|sG (oM 1 rfl<|.nl)<|sK fun _ k12 => gRn (oM 1 rfl<|.nl)<|gP (fun _ _ h_ => xCl h_ bd_59 rfl (letter_c n _)) rfl<|gRn (oM 1 rfl<|.nl)<|?_; clear h10
 rcases Bool.eq_false_or_eq_true (letterN n) with hb14 | hb14
 ·skip
  refine gRn (oKs 2 hb14 rfl rfl<|opT hb14 rfl<|oM 1 rfl<|.nl)<|nK k12<|gR<|fun a15 w15 h15 => x_ret1 (fn := Tryz.f61) (t := 2) rfl h15 rfl <| ⟨congrArg Value.bool ?_, (h15.sh.sel [] rfl)⟩
  unfold wordN; simp only [*]; rfl
 refine gRn (oG hb14 (r_move rfl rfl) rfl<|.nl)<|fun a16 w16 h16 => wl_ex (x_call h16 bd_62 rfl rfl rfl rfl rfl (digit_c n _)) (wanted_yes h16.fr rfl rfl rfl rfl hb14) ?_
 rintro a17 w17 ⟨_, ⟨rfl, hs17⟩, hf17⟩
 have h17 : St 9 (fun _ => False) W a17 w17 _ _ := ⟨hf17, h16.sh.call0 hs17⟩
 clear hf17 hs17
 clear h16
 refine gG h17<|gRn (opF hb14 rfl<|oM 1 rfl<|.nl)<|nK k12<|gR<|fun a18 w18 h18 => x_ret1 (fn := Tryz.f61) (t := 2) rfl h18 rfl <| ⟨congrArg Value.bool ?_, (h18.sh.sel [] rfl)⟩; clear h17
 unfold wordN; simp only [*]; rfl

theorem tok2_c (g : Nat) (s : ByteArray) (i : Nat) (b1 b2 k : Nat) (x : ByteArray)  (W : World) (h1 : Blk W b1 77 #[.pointer (some ⟨g, 0, none⟩)]) (h2 : Blk W b2 3 #[.int .i64 (k : Int)]) (hS : Blk W g 79 #[.string s, .int .i64 (i : Int)]) (hsz : s.size ≤ 4000) (hk : k ≤ s.size) :
    Rets Tryz.prog 69 [.string x, .pointer (some ⟨b1, 0, none⟩), .pointer (some ⟨b2, 0, none⟩)] W (fun v w' => v = .bool (hasP (s.extract k s.size) x) ∧ Sh0 W w' []) := by
 refine gen Tryz.func69 Tryz.ntmps69 (Sh0.ext (by intro A hA; simp only [List.mem_cons, List.not_mem_nil, or_false] at hA; rcases hA with rfl | rfl | rfl; exact h1; exact h2; exact hS) (by intro A hA b hb; simp only [List.mem_cons, List.not_mem_nil, or_false] at hA; rcases hA with rfl | rfl | rfl <;> exact hb) : Sh (fun _ => False) W W [.rblk b1 77 [.pointer (some ⟨g, 0, none⟩)], .rblk b2 3 [.int .i64 ((k : Nat) : Int)], .rblk g 79 [.string s, .int .i64 ((i : Nat) : Int)]]) rfl fun a10 h10 => gG h10<|sG (oM 1 rfl<|.nl)<|gK fun _ k12 => fun a13 w13 h13 => x_quiet (by kernel_rfl) (by kernel_rfl) h13 fun _ z14 => qQ h13.fr<|qRn (olR 0 ti_77 rfl rfl<|onf fl_79_0 rfl<|olR 2 ti_9 rfl rfl<|olR 1 ti_3 rfl rfl<|oV (r_slSl (s := s) (p := k) Tryz.underlying9 rfl rfl rfl (show k ≤ s.size from om9)) rfl<|oM 1 rfl<|.nl)<|qP bd_58 rfl (fun w h => (hasPrefix_c (s.extract k s.size) x _))<|qRn (oM 1 rfl<|.nl)<|qN z14<|hK k12<|gR<|fun a15 w15 h15 => x_ret1 (fn := Tryz.f69) (t := 4) rfl h15 rfl ?_; clear h10 h13
 exact ⟨rfl, (h15.sh.sel [] rfl)⟩

end Go.Proofs.YthdkmhaneellcaaGreatDoor
