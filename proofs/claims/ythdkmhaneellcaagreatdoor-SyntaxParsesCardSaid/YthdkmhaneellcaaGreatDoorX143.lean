/-
  The lexer passes over blanks and notes.
-/
import Derived.Test.YthdkmhaneellcaaGreatDoorX142
import Derived.Test.YthdkmhaneellcaaGreatDoorQ1
namespace Go.Proofs.YthdkmhaneellcaaGreatDoor
open Go.RowKit
set_option linter.unusedSimpArgs false
set_option linter.unusedVariables false
set_option maxRecDepth 100000
set_option maxHeartbeats 1000000


theorem note_c (s : ByteArray) (k : Nat) (w : World) : Rets Tryz.prog 58 [.string (s.extract k s.size), .string ⟨#[47, 47]⟩] w (fun v w' => v = .bool (decide (k + 1 < s.size ∧ bt s k = 47 ∧ bt s (k + 1) = 47)) ∧ Sh0 w w' []) := by
  have h := hasPrefix_c (s.extract k s.size) ⟨#[47, 47]⟩ w
  rw [show hasP (s.extract k s.size) ⟨#[47, 47]⟩ = decide (k + 1 < s.size ∧ bt s k = 47 ∧ bt s (k + 1) = 47) from hasP2 s k 47 47] at h
  exact h
section
variable {s : ByteArray} {k : Nat}
theorem blank_t {n : Int} (h : n = 32 ∨ n = 9 ∨ n = 13 ∨ n = 10) : blankN n = true := by
  unfold blankN; simp only [Bool.or_eq_true, decide_eq_true_eq]; omega
theorem blank_f {n : Int} (h : ¬ (n = 32 ∨ n = 9 ∨ n = 13 ∨ n = 10)) : blankN n = false := by
  unfold blankN; simp only [Bool.or_eq_false_iff, decide_eq_false_iff_not]; omega
theorem skip_bad {n : Bool} (h : k < s.size) (hs : standsN (bt s k) = false) : skipS s n k = (k, true) := by rw [skipS_eq h, if_pos hs]
theorem skip_bl (h : k < s.size) (hs : standsN (bt s k) = true) (hb : bt s k = 32 ∨ bt s k = 9 ∨ bt s k = 13 ∨ bt s k = 10) : skipS s false (k + 1) = skipS s false k := by
  rw [skipS_eq h, if_neg (by rw [hs]; decide), if_neg (by decide), if_pos (blank_t hb)]
theorem skip_note (hs : standsN (bt s k) = true) (hb : k + 1 < s.size ∧ bt s k = 47 ∧ bt s (k + 1) = 47) : skipS s true k = skipS s false k := by
  have h : k < s.size := by omega
  rw [skipS_eq (note := false) h, if_neg (by rw [hs]; decide), if_neg (by decide), if_neg (by rw [blank_f (by omega)]; decide), if_pos hb, skipS_eq h, if_neg (by rw [hs]; decide), if_pos rfl, show (!decide (bt s k = 10)) = true by rw [hb.2.1]; decide]
theorem skip_stop (h : k < s.size) (hs : standsN (bt s k) = true) (hb : ¬ (bt s k = 32 ∨ bt s k = 9 ∨ bt s k = 13 ∨ bt s k = 10)) (h2 : ¬ (k + 1 < s.size ∧ bt s k = 47 ∧ bt s (k + 1) = 47)) : skipS s false k = (k, false) := by
  rw [skipS_eq h, if_neg (by rw [hs]; decide), if_neg (by decide), if_neg (by rw [blank_f hb]; decide), if_neg h2]
theorem skip_on (h : k < s.size) (hs : standsN (bt s k) = true) (hb : ¬ bt s k = 10) : skipS s true (k + 1) = skipS s true k := by
  rw [skipS_eq h, if_neg (by rw [hs]; decide), if_pos rfl, show (!decide (bt s k = 10)) = true by rw [decide_eq_false hb]; rfl]
theorem skip_out (hk : k ≤ s.size) (h : ¬ k < s.size ∨ bt s k = 10) : skipS s false k = skipS s true k := by
  by_cases h2 : k < s.size
  · exact (skip_nl h2 (h.resolve_left (fun h3 => h3 h2))).symm
  · rw [skipS_end (by omega), skipS_end (by omega)]
end

theorem blank_c (K : Nat → Prop) (g : Nat) (s : ByteArray) (i : Nat)  (W : World) (hS : Sh K W W [.blk g 79 [.string s, .int .i64 (i : Int)]]) (hsz : s.size ≤ 4000) (hi : i ≤ s.size) :
    RetsP Tryz.prog 32 [.pointer (some ⟨g, 0, none⟩)] W (fun v w' => v = .tuple #[] ∧ (skipS s false i).2 = false ∧ Sh K W w' [.blk g 79 [.string s, .int .i64 ((skipS s false i).1 : Int)]]) (fun x w' => x = wrongV 4 (skipS s false i).1 ∧ (skipS s false i).2 = true ∧ ∃ k : Int, Sh K W w' [.blk g 79 [.string s, .int .i64 k]]) := by
 refine genP Tryz.func32 Tryz.ntmps32 hS rfl fun a10 h10 => gG h10<|gB<|fun a12 w12 h12 => x_loop (fun m a w => ∃ (k : Nat), (k ≤ s.size) ∧ (skipS s false k = skipS s false i) ∧ St 78 K W a w [(0, .pointer (some ⟨g, 0, none⟩))] [.blk g 79 [.string s, .int .i64 ((k : Nat) : Int)]] ∧ m = s.size - k) ⟨_, i, (hi), (rfl), h12.nf ⟨rfl, trivial⟩, rfl⟩ ?_; clear h10
 clear h12
 rintro m11 a11 w11 ⟨k, hk, hr, h11, hm11⟩
 refine gG h11<|gK fun _ k13 => gK fun _ k14 => rQ (oM 1 rfl<|onfl 0 fl_79_1 ti_3 rfl rfl<|oM 1 rfl<|onfl 0 fl_79_0 ti_9 rfl rfl<|oV (r_lenStr (s := s) Tryz.underlying9 rfl rfl) rfl<|oltN _ _ rfl<|.nl)<|hK k14<|?_; clear h11
 refine gcd rfl (fun hb15 hp15 => ?_) fun hb15 hp15 => ?_
 ·skip
  refine gS<|hK k13<|gB<|sK fun _ k16 => gRn (oM 2 rfl<|onfl 0 fl_79_1 ti_3 rfl rfl<|.nl)<|fun a17 w17 h17 => wl_callP h17 bd_57 rfl rfl rfl rfl rfl (wanted_none rfl _) (look_c _ _ _ k _ (h17.sh.blk 0 rfl) hsz (by omega)) (fun x9 w9 hx9 => pnF (P := Tryz.prog) (fn := Tryz.f32) h17.fr (by have hx8 : skipS s false i = (k, true) := hr.symm.trans (skip_bad (by omega) hx9.2.1); rw [hx8]; exact ⟨hx9.1, rfl, ⟨_, h17.sh.call0 hx9.2.2⟩⟩)) ?_
  rintro a18 w18 ⟨_, ⟨rfl, hst18, hs18⟩, hf18⟩
  have h18 : St 78 K W a18 w18 _ _ := ⟨hf18, h17.sh.call0 hs18⟩; clear hf18 hs18
  have hbt18 := bt_range s k
  clear h17
  refine gG h18<|gRn (oM 1 rfl<|.nl)<|nK k16<|gB<|sK fun _ k19 => gRn (oM 1 rfl<|oeqI _ _ rfl<|oM 1 rfl<|.nl)<|?_; clear h18
  rcases dsp ((bt s k) = 32) with ⟨hb20, hp20⟩ | ⟨hb20, hp20⟩
  ·skip
   refine gRn (oKs 2 hb20 rfl rfl<|opT hb20 rfl<|oM 1 rfl<|oKs 2 rfl rfl rfl<|opT rfl rfl<|oM 1 rfl<|oKs 2 rfl rfl rfl<|opT rfl rfl<|oM 1 rfl<|.nl)<|nK k19<|gF [0, 19] rfl<|gcT rfl rfl<|gL<|gRn (oM 1 rfl<|onfl 0 fl_79_1 ti_3 rfl rfl<|oadN _ 1 om9 rfl<|onf fl_79_1 rfl<|.nl)<|gst 0 ti_3 rfl rfl rfl<|nN<|fun a22 w22 h22 => ?_
   change ∃ _m, _m < _ ∧ _
   try (have hne : k2 ≠ k := by rintro rfl; have := hz rfl; omega)
   refine ⟨_, ?_, k + 1, ?_, ?_, h22.nf ⟨rfl, trivial⟩, rfl⟩
   · rw [hm11]; first | omega | (simp only [lens9]; omega)
   · omega
   · first | exact (skip_bl (by omega) (by assumption) (by omega)).trans hr | exact (skip_out (by omega) (by omega)).trans hr2
  refine gRn (oG hb20 (r_move rfl rfl) rfl<|oG hb20 (r_eqlI (p := (bt s k)) (q := 9) rfl rfl rfl) rfl<|opF hb20 rfl<|oM 1 rfl<|.nl)<|?_
  rcases dsp ((bt s k) = 9) with ⟨hb23, hp23⟩ | ⟨hb23, hp23⟩
  ·skip
   refine gRn (oKs 2 hb23 rfl rfl<|opT hb23 rfl<|oM 1 rfl<|oKs 2 rfl rfl rfl<|opT rfl rfl<|oM 1 rfl<|.nl)<|nK k19<|gF [0, 19] rfl<|gcT rfl rfl<|gL<|gRn (oM 1 rfl<|onfl 0 fl_79_1 ti_3 rfl rfl<|oadN _ 1 om9 rfl<|onf fl_79_1 rfl<|.nl)<|gst 0 ti_3 rfl rfl rfl<|nN<|fun a25 w25 h25 => ?_
   change ∃ _m, _m < _ ∧ _
   try (have hne : k2 ≠ k := by rintro rfl; have := hz rfl; omega)
   refine ⟨_, ?_, k + 1, ?_, ?_, h25.nf ⟨rfl, trivial⟩, rfl⟩
   · rw [hm11]; first | omega | (simp only [lens9]; omega)
   · omega
   · first | exact (skip_bl (by omega) (by assumption) (by omega)).trans hr | exact (skip_out (by omega) (by omega)).trans hr2
  refine gRn (oG hb23 (r_move rfl rfl) rfl<|oG hb23 (r_eqlI (p := (bt s k)) (q := 13) rfl rfl rfl) rfl<|opF hb23 rfl<|oM 1 rfl<|.nl)<|?_
  rcases dsp ((bt s k) = 13) with ⟨hb26, hp26⟩ | ⟨hb26, hp26⟩
  ·skip
   refine gRn (oKs 2 hb26 rfl rfl<|opT hb26 rfl<|oM 1 rfl<|.nl)<|nK k19<|gF [0, 19] rfl<|gcT rfl rfl<|gL<|gRn (oM 1 rfl<|onfl 0 fl_79_1 ti_3 rfl rfl<|oadN _ 1 om9 rfl<|onf fl_79_1 rfl<|.nl)<|gst 0 ti_3 rfl rfl rfl<|nN<|fun a28 w28 h28 => ?_
   change ∃ _m, _m < _ ∧ _
   try (have hne : k2 ≠ k := by rintro rfl; have := hz rfl; omega)
   refine ⟨_, ?_, k + 1, ?_, ?_, h28.nf ⟨rfl, trivial⟩, rfl⟩
   · rw [hm11]; first | omega | (simp only [lens9]; omega)
   · omega
   · first | exact (skip_bl (by omega) (by assumption) (by omega)).trans hr | exact (skip_out (by omega) (by omega)).trans hr2
  refine gRn (oG hb26 (r_move rfl rfl) rfl<|oG hb26 (r_eqlI (p := (bt s k)) (q := 10) rfl rfl rfl) rfl<|opF hb26 rfl<|oM 1 rfl<|.nl)<|nK k19<|gF [0, 19] rfl<|gcd rfl (fun hb29 hp29 => ?_) fun hb29 hp29 => ?_
  ·skip
   refine gL<|gRn (oM 1 rfl<|onfl 0 fl_79_1 ti_3 rfl rfl<|oadN _ 1 om9 rfl<|onf fl_79_1 rfl<|.nl)<|gst 0 ti_3 rfl rfl rfl<|nN<|fun a31 w31 h31 => ?_
   change ∃ _m, _m < _ ∧ _
   try (have hne : k2 ≠ k := by rintro rfl; have := hz rfl; omega)
   refine ⟨_, ?_, k + 1, ?_, ?_, h31.nf ⟨rfl, trivial⟩, rfl⟩
   · rw [hm11]; first | omega | (simp only [lens9]; omega)
   · omega
   · first | exact (skip_bl (by omega) (by assumption) (by omega)).trans hr | exact (skip_out (by omega) (by omega)).trans hr2
  refine gK fun _ k32 => fun a33 w33 h33 => x_quiet (by kernel_rfl) (by kernel_rfl) h33 fun _ z34 => qQ h33.fr<|qRn (oM 1 rfl<|onfl 0 fl_79_0 ti_9 rfl rfl<|oM 1 rfl<|onfl 0 fl_79_1 ti_3 rfl rfl<|oV (r_slSl (s := s) (p := k) Tryz.underlying9 rfl rfl rfl (show k ≤ s.size from om9)) rfl<|.nl)<|qP bd_58 rfl (fun w h => (note_c s k _))<|qRn (oM 1 rfl<|.nl)<|qN z34<|hK k32<|?_; clear h33
  refine gcd rfl (fun hb35 hp35 => ?_) fun hb35 hp35 => ?_
  ·skip
   refine gB<|fun a37 w37 h37 => x_loop (fun m a w => ∃ (k2 : Nat), (k ≤ k2 ∧ k2 ≤ s.size) ∧ (k2 = k → bt s k = 47) ∧ (skipS s true k2 = skipS s false i) ∧ St 78 K W a w [(0, .pointer (some ⟨g, 0, none⟩))] [.blk g 79 [.string s, .int .i64 ((k2 : Nat) : Int)]] ∧ m = s.size - k2) ⟨_, k, (by omega), (fun _ => (by omega)), ((skip_note (by assumption) (by assumption)).trans hr), h37.nf ⟨rfl, trivial⟩, rfl⟩ ?_
   clear h37
   rintro m36 a36 w36 ⟨k2, hk2, hz, hr2, h36, hm36⟩
   refine gG h36<|gK fun _ k38 => gK fun _ k39 => ?_; clear h36
   rcases dsp (k2 < s.size) with ⟨hb40, hp40⟩ | ⟨hb40, hp40⟩
   ·skip
    refine rTP 16 (oM 1 rfl<|onfl 0 fl_79_1 ti_3 rfl rfl<|oM 1 rfl<|onfl 0 fl_79_0 ti_9 rfl rfl<|oV (r_lenStr (s := s) Tryz.underlying9 rfl rfl) rfl<|oltN _ _ rfl<|oM 1 rfl<|oG hb40 (r_move rfl rfl) rfl<|oG hb40 (r_move rfl rfl) rfl<|oG hb40 (r_nil rfl rfl) rfl<|oG hb40 (r_fieldB (r := 1) fl_79_1 rfl rfl rfl) rfl<|oG hb40 (r_ldb (i := 0) ti_3 rfl rfl rfl rfl) rfl<|.nl)<|fun a41 w41 h41 => wl_callP h41 bd_57 rfl rfl rfl rfl rfl (wanted_yes h41.fr rfl rfl rfl rfl hb40) (look_c _ _ _ k2 _ (h41.sh.blk 0 rfl) hsz (by omega)) (fun x9 w9 hx9 => pnF (P := Tryz.prog) (fn := Tryz.f32) h41.fr (by have hx8 : skipS s false i = (k2, true) := hr2.symm.trans (skip_bad (by omega) hx9.2.1); rw [hx8]; exact ⟨hx9.1, rfl, ⟨_, h41.sh.call0 hx9.2.2⟩⟩)) ?_
    rintro a42 w42 ⟨_, ⟨rfl, hst42, hs42⟩, hf42⟩
    have h42 : St 78 K W a42 w42 _ _ := ⟨hf42, h41.sh.call0 hs42⟩; clear hf42 hs42
    have hbt42 := bt_range s k2
    clear h41
    refine gG h42<|gRn (oG hb40 (r_neqI (p := (bt s k2)) (q := 10) rfl rfl rfl) rfl<|opT hb40 rfl<|.nl)<|nK k39<|?_; clear h42
    refine gcd rfl (fun hb43 hp43 => ?_) fun hb43 hp43 => ?_
    ·skip
     refine gS<|hK k38<|gB<|gL<|gRn (oM 1 rfl<|onfl 0 fl_79_1 ti_3 rfl rfl<|oadN _ 1 om9 rfl<|onf fl_79_1 rfl<|.nl)<|gst 0 ti_3 rfl rfl rfl<|nN<|fun a45 w45 h45 => ?_
     change ∃ _m, _m < _ ∧ _
     refine ⟨_, ?_, k2 + 1, ?_, ?_, ?_, h45.nf ⟨rfl, trivial⟩, rfl⟩
     · rw [hm36]; first | omega | (simp only [lens9]; omega)
     · omega
     · intro; omega
     · exact (skip_on (by omega) (by assumption) (by omega)).trans hr2
    refine gX<|fun a46 w46 h46 => ?_
    change ∃ _m, _m < _ ∧ _
    try (have hne : k2 ≠ k := by rintro rfl; have := hz rfl; omega)
    refine ⟨_, ?_, k2, ?_, ?_, h46.nf ⟨rfl, trivial⟩, rfl⟩
    · rw [hm11]; first | omega | (simp only [lens9]; omega)
    · omega
    · first | exact (skip_bl (by omega) (by assumption) (by omega)).trans hr | exact (skip_out (by omega) (by omega)).trans hr2
   refine rTP 16 (oM 1 rfl<|onfl 0 fl_79_1 ti_3 rfl rfl<|oM 1 rfl<|onfl 0 fl_79_0 ti_9 rfl rfl<|oV (r_lenStr (s := s) Tryz.underlying9 rfl rfl) rfl<|oltN _ _ rfl<|oM 1 rfl<|oK hb40 rfl<|oK hb40 rfl<|oK hb40 rfl<|oK hb40 rfl<|oK hb40 rfl<|.nl)<|gRn (oKs 2 hb40 rfl rfl<|opF hb40 rfl<|.nl)<|nK k39<|gcF rfl rfl<|gX<|fun a47 w47 h47 => ?_
   change ∃ _m, _m < _ ∧ _
   try (have hne : k2 ≠ k := by rintro rfl; have := hz rfl; omega)
   refine ⟨_, ?_, k2, ?_, ?_, h47.nf ⟨rfl, trivial⟩, rfl⟩
   · rw [hm11]; first | omega | (simp only [lens9]; omega)
   · omega
   · first | exact (skip_bl (by omega) (by assumption) (by omega)).trans hr | exact (skip_out (by omega) (by omega)).trans hr2
  refine gR<|uB<|uB<|uT<|uB<|fun a48 w48 h48 => rP <| x_ret0 (fn := Tryz.f32) rfl h48 ?_
  have e9 : skipS s false i = (k, false) := hr.symm.trans (by first | exact skipS_end (by omega) | exact skip_stop (by omega) (by assumption) (by omega) (by assumption))
  rw [e9]
  exact ⟨rfl, rfl, h48.sh⟩
 refine gX<|fun a49 w49 h49 => ?_
 try simp only [Exit.then, Exit.inBlock, if_true]
 refine rP <| x_end0 (fn := Tryz.f32) rfl h49 ?_
 have e9 : skipS s false i = (k, false) := hr.symm.trans (by first | exact skipS_end (by omega) | exact skip_stop (by omega) (by assumption) (by omega) (by assumption))
 rw [e9]
 exact ⟨rfl, rfl, h49.sh⟩

end Go.Proofs.YthdkmhaneellcaaGreatDoor
