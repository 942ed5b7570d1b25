/-
  The token at a place, or its fault.
-/
import Derived.Test.YthdkmhaneellcaaGreatDoorX144
import Derived.Test.YthdkmhaneellcaaGreatDoorQ2
namespace Go.Proofs.YthdkmhaneellcaaGreatDoor
open Go.RowKit
set_option linter.unusedSimpArgs false
set_option linter.unusedVariables false
set_option maxRecDepth 100000
set_option maxHeartbeats 4000000


section
variable {s : ByteArray} {i : Nat}
theorem roE3 {A B C : Asn} {w : World} (h : (Asn.ro [A, B, C]).ok w) : A.ok w ∧ B.ok w ∧ C.ok w := ⟨h _ (by simp), h _ (by simp), h _ (by simp)⟩
theorem roI3 {A B C : Asn} {w : World} (h1 : A.ok w) (h2 : B.ok w) (h3 : C.ok w) : (Asn.ro [A, B, C]).ok w := by
  intro D hD
  simp only [List.mem_cons, List.not_mem_nil, or_false] at hD
  rcases hD with rfl | rfl | rfl
  · exact h1
  · exact h2
  · exact h3
theorem size_ext {e : Nat} (h : e ≤ s.size) : (s.extract i e).size = e - i := by rw [ByteArray.size_extract]; omega
theorem run_gt {p : Int → Bool} (hi : i < s.size) (h : p (bt s i) = true) : i + 1 ≤ runS p s i := by
  rw [runS_eq hi, if_pos h]
  exact (runS_ge (by omega)).1
theorem one_word (h : letterN (bt s i) = true) (h2 : inS wordL (s.extract i (runS wordN s i)) = true) : oneF s i = some (⟨2, 0, i, s.extract i (runS wordN s i)⟩, runS wordN s i) := by
  unfold oneF
  rw [if_pos h]
  exact if_pos h2
theorem one_name (hi : i < s.size) (h : letterN (bt s i) = true) (h2 : inS wordL (s.extract i (runS wordN s i)) = false) (h3 : ¬ 12 < (s.extract i (runS wordN s i)).size) : oneF s i = some (⟨1, 0, i, s.extract i (runS wordN s i)⟩, runS wordN s i) := by
  rw [size_ext (runS_ge (by omega)).2] at h3
  unfold oneF
  rw [if_pos h]
  exact (if_neg (by unfold isWord; unfold inS at h2; rw [h2]; decide)).trans (if_neg h3)
theorem one_long (hi : i < s.size) (h : letterN (bt s i) = true) (h2 : inS wordL (s.extract i (runS wordN s i)) = false) (h3 : 12 < (s.extract i (runS wordN s i)).size) : oneF s i = none := by
  rw [size_ext (runS_ge (by omega)).2] at h3
  unfold oneF
  rw [if_pos h]
  exact (if_neg (by unfold isWord; unfold inS at h2; rw [h2]; decide)).trans (if_pos h3)
theorem one_num (hi : i < s.size) (h : letterN (bt s i) = false) (hd : digitN (bt s i) = true) (h3 : ¬ (9 < (s.extract i (runS digitN s i)).size ∨ (1 < (s.extract i (runS digitN s i)).size ∧ bt s i = 48))) : oneF s i = some (⟨3, numF s i (runS digitN s i - i), i, s.extract i (runS digitN s i)⟩, runS digitN s i) := by
  rw [size_ext (runS_ge (by omega)).2] at h3
  unfold oneF
  rw [if_neg (by rw [h]; decide), if_pos hd]
  exact if_neg h3
theorem one_nnum (hi : i < s.size) (h : letterN (bt s i) = false) (hd : digitN (bt s i) = true) (h3 : 9 < (s.extract i (runS digitN s i)).size ∨ (1 < (s.extract i (runS digitN s i)).size ∧ bt s i = 48)) : oneF s i = none := by
  rw [size_ext (runS_ge (by omega)).2] at h3
  unfold oneF
  rw [if_neg (by rw [h]; decide), if_pos hd]
  exact if_pos h3
theorem one_sign {j : Nat} (h : letterN (bt s i) = false) (hd : digitN (bt s i) = false) (hj : j < signL.length) (hp : hasP (s.extract i s.size) (nth signL j) = true) (h0 : ∀ y ∈ signL.take j, hasP (s.extract i s.size) y = false) : oneF s i = some (⟨4, 0, i, nth signL j⟩, i + (nth signL j).size) := by
  have e1 := sign_some hj hp h0
  have e2 := (hasP_ext hp).1
  have e3 : 0 < (nth signL j).size := by
    have key : ∀ j, j < 19 → 0 < (nth signL j).size := by decide
    exact key j hj
  unfold oneF
  rw [if_neg (by rw [h]; decide), if_neg (by rw [hd]; decide), if_neg (by omega), e1, e2]
theorem one_nsign (hi : i < s.size) (h : letterN (bt s i) = false) (hd : digitN (bt s i) = false) (h0 : ∀ y ∈ signL, hasP (s.extract i s.size) y = false) : oneF s i = none := by
  unfold oneF
  rw [if_neg (by rw [h]; decide), if_neg (by rw [hd]; decide), if_pos (sign_none hi h0)]
theorem atoi_run (hi : i < s.size) (hd : digitN (bt s i) = true) : Lib.atoi (s.extract i (runS digitN s i)).data.toList = some (numF s i (runS digitN s i - i)) := by
  have h1 := run_gt (p := digitN) hi hd
  have h2 := (runS_ge (p := digitN) (s := s) (i := i) (by omega)).2
  have h := atoi_num (s := s) (i := i) (n := runS digitN s i - i) (by omega) (by omega) fun q hq => run_all (s.size - i) i (i + q) (by omega) (show i + q < runS digitN s i by omega)
  rwa [show i + (runS digitN s i - i) = runS digitN s i by omega] at h
end

theorem token_c (K : Nat → Prop) (g : Nat) (s : ByteArray) (i : Nat)  (W : World) (hS : Sh K W W [.blk g 79 [.string s, .int .i64 (i : Int)]]) (hsz : s.size ≤ 4000) (hi : i < s.size) :
    RetsP Tryz.prog 33 [.pointer (some ⟨g, 0, none⟩)] W (fun v w' => ∃ t e, oneF s i = some (t, e) ∧ v = t.val ∧ Sh K W w' [.blk g 79 [.string s, .int .i64 ((e : Nat) : Int)]]) (fun x w' => oneF s i = none ∧ x = wrongV 5 i ∧ ∃ k : Int, Sh K W w' [.blk g 79 [.string s, .int .i64 k]]) := by
 have hbt := bt_range s i
 have hw1 := runS_ge (p := wordN) (Nat.le_of_lt hi)
 have hw2 := runS_ge (p := digitN) (Nat.le_of_lt hi)
 have hz1 := size_ext (i := i) hw1.2
 have hz2 := size_ext (i := i) hw2.2
 refine genP Tryz.func33 Tryz.ntmps33 hS rfl fun a10 h10 => gG h10<|sK fun _ k11 => gbx rfl rfl fun b12 => gal ti_81 rfl fun b13 => nK k11<|gK fun _ k14 => rC [13, 14] rfl<|pR [0, 1, 2, 3, 4, 5, 6, 7, 8, 9, 10, 11, 12] rfl (olB 1 ti_77 rfl rfl<|onfl 2 fl_79_1 ti_3 rfl rfl<|olB 1 ti_77 rfl rfl<|onfl 2 fl_79_0 ti_9 rfl rfl<|olB 1 ti_77 rfl rfl<|onfl 2 fl_79_1 ti_3 rfl rfl<|oV (r_ixBt (s := s) (q := i) Tryz.underlying9 rfl rfl rfl (show i < s.size from om9)) rfl<|.nl) rfl<|pX (fun _ _ h_ => x_alloc h_ ti_3 rfl rfl rfl) rfl fun b15 => pR [0, 1, 2, 3, 4, 5, 6, 7, 8, 9, 10, 11, 12] rfl (olB 2 ti_77 rfl rfl<|onfl 3 fl_79_1 ti_3 rfl rfl<|olB 2 ti_77 rfl rfl<|onfl 3 fl_79_0 ti_9 rfl rfl<|olB 2 ti_77 rfl rfl<|onfl 3 fl_79_1 ti_3 rfl rfl<|oV (r_ixBt (s := s) (q := i) Tryz.underlying9 rfl rfl rfl (show i < s.size from om9)) rfl<|.nl) rfl<|pS (fun _ _ h_ => x_stb (i := 0) (vs := [.int .i64 ((i : Nat) : Int)]) (cs' := [.int .i64 ((i : Nat) : Int)]) h_ ti_3 rfl rfl rfl rfl rfl rfl rfl (allOne_cons rfl allOne_nil) (Nat.le_of_ble_eq_true rfl) rfl) rfl<|pE [4, 5, 6, 7, 8, 9, 10, 11, 12, 15] rfl (olB 2 ti_77 rfl rfl<|onfl 3 fl_79_0 ti_9 rfl rfl<|olB 2 ti_77 rfl rfl<|onfl 3 fl_79_1 ti_3 rfl rfl<|oV (r_ixBt (s := s) (q := i) Tryz.underlying9 rfl rfl rfl (show i < s.size from om9)) rfl<|oM 1 rfl<|.nl) rfl<|hK k14<|sK fun _ k17 => gRn (olB 0 ti_3 rfl rfl<|oV (r_build (cs := [.int .i64 0, .int .i64 0, .int .i64 ((i : Nat) : Int), .string (⟨#[]⟩)]) rfl rfl (by kernel_rfl)) rfl<|.nl)<|gal ti_81 rfl fun b18 => gsw 0 ti_81 rfl rfl rfl<|nK k17<|gK fun _ k20 => gB<|sK fun _ k21 => gRn (oM 1 rfl<|.nl)<|gP (fun _ _ h_ => xCl h_ bd_59 rfl (letter_c (bt s i) _)) rfl<|gRn (oM 1 rfl<|.nl)<|nK k21<|?_; clear h10
 refine gCb rfl (fun hb23 => ?_) fun hb23 => ?_
 ·skip
  refine gK fun _ k24 => fun a25 w25 h25 => x_tail 6 [] (by kernel_rfl) (by kernel_rfl) h25 fun _ z26 => qQ h25.fr<|qRn (olB 3 ti_77 rfl rfl<|olB 3 ti_77 rfl rfl<|olB 1 ti_3 rfl rfl<|.nl)<|qP bd_60 rfl (fun w h => (while_c g s i i 61 wordN _ (h.blk 4 rfl) hsz (by omega) bd_61 (fun w n _ => tok1_c n w)))<|qRn (onf fl_79_1 rfl<|.nl)<|qN z26<|gst 4 ti_3 rfl rfl rfl<|nK k24<|gF [1, 2, 3, 5] rfl<|gK fun _ k28 => rC [11, 13] rfl<|pR [0, 1, 2, 3, 4, 5, 6, 7, 8, 9, 10] rfl (olB 3 ti_77 rfl rfl<|onfl 4 fl_79_0 ti_9 rfl rfl<|olB 1 ti_3 rfl rfl<|olB 3 ti_77 rfl rfl<|onfl 4 fl_79_1 ti_3 rfl rfl<|oV (r_slS (s := s) (p := i) (q := (runS wordN s i)) Tryz.underlying9 rfl rfl rfl rfl (show i ≤ (runS wordN s i) from om9) (show (runS wordN s i) ≤ s.size from om9)) rfl<|ofB fl_81_0 rfl<|.nl) rfl<|pS (fun _ _ h_ => x_stb (i := 0) (vs := [.int .i64 1]) (cs' := [.int .i64 1, .int .i64 0, .int .i64 ((i : Nat) : Int), .string (⟨#[]⟩)]) h_ ti_3 rfl rfl rfl rfl rfl rfl rfl (allOne_cons rfl allOne_nil) (Nat.le_of_ble_eq_true rfl) rfl) rfl<|pR [0, 1, 2, 3, 4, 5, 6, 7, 8, 9, 12] rfl (olB 3 ti_77 rfl rfl<|onfl 4 fl_79_0 ti_9 rfl rfl<|olB 1 ti_3 rfl rfl<|olB 3 ti_77 rfl rfl<|onfl 4 fl_79_1 ti_3 rfl rfl<|oV (r_slS (s := s) (p := i) (q := (runS wordN s i)) Tryz.underlying9 rfl rfl rfl rfl (show i ≤ (runS wordN s i) from om9) (show (runS wordN s i) ≤ s.size from om9)) rfl<|ofB fl_81_3 rfl<|.nl) rfl<|pS (fun _ _ h_ => x_stb (i := 0) (vs := [.string (s.extract i (runS wordN s i))]) (cs' := [.int .i64 1, .int .i64 0, .int .i64 ((i : Nat) : Int), .string (s.extract i (runS wordN s i))]) h_ ti_9 rfl rfl rfl rfl rfl rfl rfl (allOne_cons rfl allOne_nil) (Nat.le_of_ble_eq_true rfl) rfl) rfl<|pE [] rfl (.nl) rfl<|hK k28<|gK fun _ k31 => rC [0, 3] rfl<|pR [1, 2] rfl (ofB fl_81_3 rfl<|olB 0 ti_9 rfl rfl<|.nl) rfl<|pC (fun _ _ h_ => xCl h_ bd_64 rfl (words_c _)) rfl<|?_; clear h25
  rintro _ _ w32 ⟨v32, rfl, hs32⟩
  refine pWk hs32 rfl<|pR [1, 2] rfl (ofB fl_81_3 rfl<|olB 1 ti_9 rfl rfl<|.nl) rfl<|pP (fun _ _ h_ => xCl h_ bd_63 rfl (sContains_c (⟨v32, wordL⟩ : Ls ByteArray) (s.extract i (runS wordN s i)) _ (h_.sh.own 0 rfl) (Nat.le_of_ble_eq_true rfl))) rfl<|pE [] rfl (.nl) rfl<|hK k31<|?_; clear hs32
  refine gCb rfl (fun hb34 => ?_) fun hb34 => ?_
  ·skip
   refine gL<|gRn (ofB fl_81_0 rfl<|.nl)<|gst 1 ti_3 rfl rfl rfl<|nK k20<|sK fun _ k36 => gRn (olw 1 ti_81 rfl rfl<|.nl)<|gsw 3 ti_81 rfl rfl rfl<|nK k36<|gR<|fun a38 w38 h38 => rP <| x_ret1c (fn := Tryz.f33) (t := 2) (i := 3) ti_81 rfl h38 rfl rfl rfl <| ⟨⟨2, 0, ((i : Nat) : Int), s.extract i (runS wordN s i)⟩, (runS wordN s i), ?_, rfl, (h38.sh.sel [5] rfl)⟩
   exact one_word (by assumption) (by assumption)
  refine sG (ofB fl_81_3 rfl<|olB 1 ti_9 rfl rfl<|oV (r_lenStr (s := (s.extract i (runS wordN s i))) Tryz.underlying9 rfl rfl) rfl<|ogtN _ 12 rfl<|.nl)<|gcd rfl (fun hb40 hp40 => ?_) fun hb40 hp40 => ?_
  ·skip
   refine gL<|gRn (olB 4 ti_77 rfl rfl<|olB 2 ti_3 rfl rfl<|.nl)<|fun a41 w41 h41 => ?_
   exact wl_callP h41 bd_65 rfl rfl rfl rfl rfl (wanted_none rfl _) (fail_c (.pointer (some ⟨g, 0, none⟩)) 5 i w41) (fun x9 w9 hx9 => pnF (P := Tryz.prog) (fn := Tryz.f33) h41.fr ⟨(one_long hi (by assumption) (by assumption) (by omega)), hx9.1, _, ((h41.sh.call0 hx9.2).sel (L' := [_]) [5] rfl)⟩) (fun _ _ ⟨_, hno, _⟩ => hno.elim)
  refine gS<|hK k20<|sK fun _ k43 => gRn (olw 1 ti_81 rfl rfl<|.nl)<|gsw 3 ti_81 rfl rfl rfl<|nK k43<|gF [2] rfl<|gR<|fun a45 w45 h45 => rP <| x_ret1c (fn := Tryz.f33) (t := 2) (i := 3) ti_81 rfl h45 rfl rfl rfl <| ⟨⟨1, 0, ((i : Nat) : Int), s.extract i (runS wordN s i)⟩, (runS wordN s i), ?_, rfl, (h45.sh.sel [5] rfl)⟩
  exact one_name hi (by assumption) (by assumption) (by omega)
 refine sK fun _ k46 => gRn (oM 1 rfl<|.nl)<|gP (fun _ _ h_ => xCl h_ bd_62 rfl (digit_c (bt s i) _)) rfl<|gRn (oM 1 rfl<|.nl)<|nK k46<|gCb rfl (fun hb48 => ?_) fun hb48 => ?_
 ·skip
  refine gK fun _ k49 => fun a50 w50 h50 => x_tail 6 [] (by kernel_rfl) (by kernel_rfl) h50 fun _ z51 => qQ h50.fr<|qRn (olB 3 ti_77 rfl rfl<|olB 3 ti_77 rfl rfl<|olB 1 ti_3 rfl rfl<|.nl)<|qP bd_60 rfl (fun w h => (while_c g s i i 62 digitN _ (h.blk 4 rfl) hsz (by omega) bd_62 (fun w n _ => digit_c n w)))<|qRn (onf fl_79_1 rfl<|.nl)<|qN z51<|gst 4 ti_3 rfl rfl rfl<|nK k49<|gF [1, 2, 3, 4, 5] rfl<|gK fun _ k53 => rC [11, 13] rfl<|pR [0, 1, 2, 3, 4, 5, 6, 7, 8, 9, 10] rfl (olB 3 ti_77 rfl rfl<|onfl 4 fl_79_0 ti_9 rfl rfl<|olB 1 ti_3 rfl rfl<|olB 3 ti_77 rfl rfl<|onfl 4 fl_79_1 ti_3 rfl rfl<|oV (r_slS (s := s) (p := i) (q := (runS digitN s i)) Tryz.underlying9 rfl rfl rfl rfl (show i ≤ (runS digitN s i) from om9) (show (runS digitN s i) ≤ s.size from om9)) rfl<|ofB fl_81_0 rfl<|.nl) rfl<|pS (fun _ _ h_ => x_stb (i := 0) (vs := [.int .i64 3]) (cs' := [.int .i64 3, .int .i64 0, .int .i64 ((i : Nat) : Int), .string (⟨#[]⟩)]) h_ ti_3 rfl rfl rfl rfl rfl rfl rfl (allOne_cons rfl allOne_nil) (Nat.le_of_ble_eq_true rfl) rfl) rfl<|pR [0, 1, 2, 3, 4, 5, 6, 7, 8, 9, 12] rfl (olB 3 ti_77 rfl rfl<|onfl 4 fl_79_0 ti_9 rfl rfl<|olB 1 ti_3 rfl rfl<|olB 3 ti_77 rfl rfl<|onfl 4 fl_79_1 ti_3 rfl rfl<|oV (r_slS (s := s) (p := i) (q := (runS digitN s i)) Tryz.underlying9 rfl rfl rfl rfl (show i ≤ (runS digitN s i) from om9) (show (runS digitN s i) ≤ s.size from om9)) rfl<|ofB fl_81_3 rfl<|.nl) rfl<|pS (fun _ _ h_ => x_stb (i := 0) (vs := [.string (s.extract i (runS digitN s i))]) (cs' := [.int .i64 3, .int .i64 0, .int .i64 ((i : Nat) : Int), .string (s.extract i (runS digitN s i))]) h_ ti_9 rfl rfl rfl rfl rfl rfl rfl (allOne_cons rfl allOne_nil) (Nat.le_of_ble_eq_true rfl) rfl) rfl<|pE [] rfl (.nl) rfl<|hK k53<|gK fun _ k56 => sK fun _ k57 => gRn (ofB fl_81_3 rfl<|olB 0 ti_9 rfl rfl<|oV (r_lenStr (s := (s.extract i (runS digitN s i))) Tryz.underlying9 rfl rfl) rfl<|ogtN _ 9 rfl<|oM 1 rfl<|.nl)<|?_; clear h50
  rcases dsp (9 < (s.extract i (runS digitN s i)).size) with ⟨hb58, hp58⟩ | ⟨hb58, hp58⟩
  ·skip
   refine gRn (oKs 5 hb58 rfl rfl<|oK2 rfl<|oK2 rfl<|oK hb58 rfl<|opT hb58 rfl<|.nl)<|nK k57<|gF [1, 2, 3, 5, 117] rfl<|gcT rfl rfl<|gL<|gRn (olB 3 ti_77 rfl rfl<|olB 1 ti_3 rfl rfl<|.nl)<|fun a59 w59 h59 => ?_
   exact wl_callP h59 bd_65 rfl rfl rfl rfl rfl (wanted_none rfl _) (fail_c (.pointer (some ⟨g, 0, none⟩)) 5 i w59) (fun x9 w9 hx9 => pnF (P := Tryz.prog) (fn := Tryz.f33) h59.fr ⟨(one_nnum hi (by assumption) (by assumption) (by omega)), hx9.1, _, ((h59.sh.call0 hx9.2).sel (L' := [_]) [4] rfl)⟩) (fun _ _ ⟨_, hno, _⟩ => hno.elim)
  refine gRn (oG hb58 (r_fieldB (r := 3) fl_81_3 rfl rfl rfl) rfl<|oG hb58 (r_ldb (i := 0) ti_9 rfl rfl rfl rfl) rfl<|oG hb58 (r_lenStr (s := (s.extract i (runS digitN s i))) Tryz.underlying9 rfl rfl) rfl<|oG hb58 (r_gtrN (p := (s.extract i (runS digitN s i)).size) (q := 1) rfl rfl rfl) rfl<|oG hb58 (r_move rfl rfl) rfl<|.nl)<|?_
  rcases dsp (1 < (s.extract i (runS digitN s i)).size) with ⟨hb61, hp61⟩ | ⟨hb61, hp61⟩
  ·skip
   refine gRn (oG hb61 (r_move rfl rfl) rfl<|oG hb61 (r_eqlI (p := (bt s i)) (q := 48) rfl rfl rfl) rfl<|oG hb58 (r_pickT rfl rfl hb61 rfl) rfl<|opF hb58 rfl<|.nl)<|nK k57<|gF [1, 2, 3, 5, 117] rfl<|gcd rfl (fun hb62 hp62 => ?_) fun hb62 hp62 => ?_
   ·skip
    refine gL<|gRn (olB 3 ti_77 rfl rfl<|olB 1 ti_3 rfl rfl<|.nl)<|fun a63 w63 h63 => ?_
    exact wl_callP h63 bd_65 rfl rfl rfl rfl rfl (wanted_none rfl _) (fail_c (.pointer (some ⟨g, 0, none⟩)) 5 i w63) (fun x9 w9 hx9 => pnF (P := Tryz.prog) (fn := Tryz.f33) h63.fr ⟨(one_nnum hi (by assumption) (by assumption) (by omega)), hx9.1, _, ((h63.sh.call0 hx9.2).sel (L' := [_]) [4] rfl)⟩) (fun _ _ ⟨_, hno, _⟩ => hno.elim)
   refine gS<|hK k56<|gL<|gRn (ofB fl_81_3 rfl<|olB 0 ti_9 rfl rfl<|.nl)<|gP (fun _ _ h_ => xCl h_ bd_66 rfl (atoi_c (by omega) (atoi_run hi (by assumption)) _)) rfl<|gRn (oM 1 rfl<|oxt rfl<|oxt rfl<|ofB fl_81_1 rfl<|.nl)<|gst 0 ti_3 rfl rfl rfl<|nK k20<|sK fun _ k67 => gRn (olw 0 ti_81 rfl rfl<|.nl)<|gsw 2 ti_81 rfl rfl rfl<|nK k67<|gR<|fun a69 w69 h69 => rP <| x_ret1c (fn := Tryz.f33) (t := 2) (i := 2) ti_81 rfl h69 rfl rfl rfl <| ⟨⟨3, (numF s i (runS digitN s i - i)), ((i : Nat) : Int), s.extract i (runS digitN s i)⟩, (runS digitN s i), ?_, rfl, (h69.sh.sel [4] rfl)⟩
   exact one_num hi (by assumption) (by assumption) (by omega)
  refine gRn (oKs 2 hb61 rfl rfl<|oG hb58 (r_pickF rfl rfl hb61 rfl) rfl<|opF hb58 rfl<|.nl)<|nK k57<|gF [1, 2, 3, 5, 117] rfl<|gcF rfl rfl<|gS<|hK k56<|gL<|gRn (ofB fl_81_3 rfl<|olB 0 ti_9 rfl rfl<|.nl)<|gP (fun _ _ h_ => xCl h_ bd_66 rfl (atoi_c (by omega) (atoi_run hi (by assumption)) _)) rfl<|gRn (oM 1 rfl<|oxt rfl<|oxt rfl<|ofB fl_81_1 rfl<|.nl)<|gst 0 ti_3 rfl rfl rfl<|nK k20<|sK fun _ k72 => gRn (olw 0 ti_81 rfl rfl<|.nl)<|gsw 2 ti_81 rfl rfl rfl<|nK k72<|gR<|fun a74 w74 h74 => rP <| x_ret1c (fn := Tryz.f33) (t := 2) (i := 2) ti_81 rfl h74 rfl rfl rfl <| ⟨⟨3, (numF s i (runS digitN s i - i)), ((i : Nat) : Int), s.extract i (runS digitN s i)⟩, (runS digitN s i), ?_, rfl, (h74.sh.sel [4] rfl)⟩
  exact one_num hi (by assumption) (by assumption) (by omega)
 refine sK fun _ k75 => gC (fun _ _ h_ => xCl h_ bd_67 rfl (signs_c _)) rfl<|?_
 rintro _ _ w76 ⟨v76, rfl, hs76⟩
 refine gWk hs76 rfl<|gU<|gRn (oM 1 rfl<|.nl)<|nK k75<|gF [1, 2, 3, 5, 6] rfl<|sK fun _ k77 => gRn (oM 1 rfl<|oV (r_makeFunc rfl rfl rfl) rfl<|.nl)<|gC (fun _ _ h_ => xCl h_ bd_68 rfl (sIndexF_c (⟨v76, signL⟩ : Ls ByteArray) 69 [] [.pointer (some ⟨b12, 0, none⟩), .pointer (some ⟨b15, 0, none⟩)] (Asn.ro [.blk b12 77 [.pointer (some ⟨g, 0, none⟩)], .blk b15 3 [.int .i64 ((i : Nat) : Int)], .blk g 79 [.string s, .int .i64 ((i : Nat) : Int)]]) (fun x => hasP (s.extract i s.size) x) _ (h_.sh.own 0 rfl) (Nat.le_of_ble_eq_true rfl) bd_69 (fun _ h => h) (roI3 (h_.sh.ok _ (List.mem_of_getElem? (i := 4) rfl)) (h_.sh.ok _ (List.mem_of_getElem? (i := 2) rfl)) (h_.sh.ok _ (List.mem_of_getElem? (i := 5) rfl))) (fun w y hw => tok2_c _ _ _ _ _ _ y w (roE3 hw).1 (roE3 hw).2.1 (roE3 hw).2.2 hsz (by omega)))) rfl<|?_; clear hs76
 rintro _ _ w78 ⟨r78, rfl, hr78, hs78⟩
 refine gWk hs78 rfl<|gU<|gRn (oM 1 rfl<|.nl)<|nK k77<|gK fun _ k79 => sG (oM 1 rfl<|oltI _ _ rfl<|.nl)<|?_; clear hs78
 refine gcd rfl (fun hb81 hp81 => ?_) fun hb81 hp81 => ?_
 ·skip
  have hnone : ∀ y ∈ signL, hasP (s.extract i s.size) y = false := by rcases hr78 with ⟨_, h9⟩ | ⟨j9, h8, _⟩; exact h9; exact absurd h8 (by omega)
  refine gL<|gRn (olB 4 ti_77 rfl rfl<|olB 2 ti_3 rfl rfl<|.nl)<|fun a82 w82 h82 => ?_
  exact wl_callP h82 bd_65 rfl rfl rfl rfl rfl (wanted_none rfl _) (fail_c (.pointer (some ⟨g, 0, none⟩)) 5 i w82) (fun x9 w9 hx9 => pnF (P := Tryz.prog) (fn := Tryz.f33) h82.fr ⟨(one_nsign hi (by assumption) (by assumption) hnone), hx9.1, _, ((h82.sh.call0 hx9.2).sel (L' := [_]) [5] rfl)⟩) (fun _ _ ⟨_, hno, _⟩ => hno.elim)
 refine gS<|hK k79<|?_
 obtain ⟨j, hrj, hj, hpj, hj0⟩ : ∃ j : Nat, r78 = (j : Int) ∧ j < signL.length ∧ hasP (s.extract i s.size) (nth signL j) = true ∧ ∀ y ∈ signL.take j, hasP (s.extract i s.size) y = false := by rcases hr78 with ⟨h9, _⟩ | h9; exact absurd h9 (by omega); exact h9
 subst hrj
 have hpe := (hasP_ext hpj).2; have hjl : (nth signL j).size ≤ 2 := by have key : ∀ j, j < 19 → (nth signL j).size ≤ 2 := (by decide); exact key j hj
 refine gK fun _ k84 => gNl (aO 0 rfl) fun (hl85 : signL.length ≤ 140737488355328) => rC [5, 7] rfl<|pR [0, 1, 2, 3, 4] rfl (oM 2 rfl<|oxN sl_103 ti_9 (aO 0 rfl) _ om9 rfl<|olE (.string (nth signL j)) ti_9 (aO 0 rfl) om9 rfl<|ofB fl_81_0 rfl<|.nl) rfl<|pS (fun _ _ h_ => x_stb (i := 1) (vs := [.int .i64 4]) (cs' := [.int .i64 4, .int .i64 0, .int .i64 ((i : Nat) : Int), .string (⟨#[]⟩)]) h_ ti_3 rfl rfl rfl rfl rfl rfl rfl (allOne_cons rfl allOne_nil) (Nat.le_of_ble_eq_true rfl) rfl) rfl<|pR [0, 1, 2, 3, 6] rfl (oM 2 rfl<|oxN sl_103 ti_9 (aO 0 rfl) _ om9 rfl<|olE (.string (nth signL j)) ti_9 (aO 0 rfl) om9 rfl<|ofB fl_81_3 rfl<|.nl) rfl<|pS (fun _ _ h_ => x_stb (i := 1) (vs := [.string (nth signL j)]) (cs' := [.int .i64 4, .int .i64 0, .int .i64 ((i : Nat) : Int), .string (nth signL j)]) h_ ti_9 rfl rfl rfl rfl rfl rfl rfl (allOne_cons rfl allOne_nil) (Nat.le_of_ble_eq_true rfl) rfl) rfl<|pE [] rfl (.nl) rfl<|hK k84<|rT 12 [] (olB 4 ti_77 rfl rfl<|onfl 5 fl_79_1 ti_3 rfl rfl<|oM 2 rfl<|oxN sl_103 ti_9 (aO 0 rfl) _ om9 rfl<|olE (.string (nth signL j)) ti_9 (aO 0 rfl) om9 rfl<|oV (r_lenStr (s := (nth signL j)) Tryz.underlying9 rfl rfl) rfl<|oadN _ _ om9 rfl<|onf fl_79_1 rfl<|.nl)<|gst 5 ti_3 rfl rfl rfl<|nK k20<|gF [2, 5] rfl<|sK fun _ k89 => gRn (olw 1 ti_81 rfl rfl<|.nl)<|gsw 3 ti_81 rfl rfl rfl<|nK k89<|gR<|fun a91 w91 h91 => rP <| x_ret1c (fn := Tryz.f33) (t := 2) (i := 3) ti_81 rfl h91 rfl rfl rfl <| ⟨⟨4, 0, ((i : Nat) : Int), nth signL j⟩, i + ((nth signL j).size), ?_, rfl, (h91.sh.sel [5] rfl)⟩
 exact one_sign (by assumption) (by assumption) hj hpj hj0

end Go.Proofs.YthdkmhaneellcaaGreatDoor
