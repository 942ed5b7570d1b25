/-
  Contracts of functions of this program and of the references, each walked once.
-/
import Derived.Test.YtmgikmjmdppfmaaX15
import Derived.Test.YtmgikmjmdppfmaaS8
section
namespace Go.Proofs.Ytmgikmjmdppfmaa
open Go.RowKit
set_option linter.unusedSimpArgs false
set_option linter.unusedVariables false
set_option maxRecDepth 100000
set_option maxHeartbeats 1000000


theorem findsL_some {l : List Wt} {words : List Int} {w : Int} {i : Nat} (hi : i < l.length) (h1 : (nth l i).lock = false) (h2 : (nth l i).wh = w) (ha : ∀ j, i < j → j < l.length → ¬ ((nth l j).lock = false ∧ (nth l j).wh = w)) : findsL l words w = (nth l i).what := by
  have e : l.reverse.find? (fun x => !x.lock && decide (x.wh = w)) = some (nth l i) := by
    have hs : l = l.take i ++ nth l i :: l.drop (i + 1) := by
      have := List.take_append_drop i l
      rw [List.drop_eq_getElem_cons hi] at this
      rw [show nth l i = l[i] from by simp [nth, hi]]
      exact this.symm
    rw [hs, List.reverse_append, List.reverse_cons, List.find?_append, List.find?_append]
    have hn : (l.drop (i + 1)).reverse.find? (fun x => !x.lock && decide (x.wh = w)) = none := by
      rw [List.find?_eq_none]
      intro x hx
      rw [List.mem_reverse] at hx
      obtain ⟨k, hk, rfl⟩ := List.mem_iff_getElem.1 hx
      have hk2 : i + 1 + k < l.length := by simpa [Nat.lt_sub_iff_add_lt, Nat.add_comm] using hk
      have := ha (i + 1 + k) (by omega) hk2
      rw [show nth l (i + 1 + k) = (l.drop (i + 1))[k] from by simp [nth, hk2]] at this
      intro hc
      simp only [Bool.and_eq_true, Bool.not_eq_true', decide_eq_true_eq] at hc
      exact this hc
    rw [← hs, hn]
    simp [h1, h2]
  unfold findsL
  rw [e]
theorem findsL_none {l : List Wt} {words : List Int} {w : Int} (ha : ∀ j, j < l.length → ¬ ((nth l j).lock = false ∧ (nth l j).wh = w)) : findsL l words w = nth words w.toNat := by
  have e : l.reverse.find? (fun x => !x.lock && decide (x.wh = w)) = none := by
    rw [List.find?_eq_none]
    intro x hx
    rw [List.mem_reverse] at hx
    obtain ⟨k, hk, rfl⟩ := List.mem_iff_getElem.1 hx
    have := ha k hk
    rw [show nth l k = l[k] from by simp [nth, hk]] at this
    intro hc
    simp only [Bool.and_eq_true, Bool.not_eq_true', decide_eq_true_eq] at hc
    exact this hc
  unfold findsL
  rw [e]

theorem finds_c (g t : Nat) (word : Int) (thr : Ls ThV) (words : Ls Int) (wait : Ls Wt) (cv pw : Value) (locks regs mode : Int) (ov pv : Value) (fell : Bool) (W : World) (hB : Blk W g 112 #[cv, pw, .int .i64 locks, .int .i64 regs, .int .i64 mode, thr.v, words.v, ov, pv, .bool fell]) (h_thr : thr.At W) (h_words : words.At W) (h_wait : wait.At W) (ht : t < thr.l.length) (hwv : (nth thr.l t).wv = wait.v) (hwo : 0 ≤ word ∧ word < words.l.length) :
    Rets Try.prog 73 [.pointer (some ⟨g, 0, none⟩), .int .i64 ((t : Nat) : Int), .int .i64 word] W (fun v w' => v = .int .i64 (findsL wait.l words.l word) ∧ Sh0 W w' []) := by
 refine gen Try.func73 Try.ntmps73 (Sh0.ext (by intro A hA; simp at hA; rcases hA with rfl | rfl | rfl | rfl; exact hB; exact h_thr; exact h_words; exact h_wait) (by intro A hA b hb; simp at hA; rcases hA with rfl | rfl | rfl | rfl <;> exact hb) : Sh (fun _ => False) W W [.rblk g 112 [cv, pw, .int .i64 locks, .int .i64 regs, .int .i64 mode, thr.v, words.v, ov, pv, .bool fell], .at_ thr, .at_ words, .at_ wait]) rfl fun a10 h10 => gG h10<|sG (oM 1 rfl<|.nl)<|sK fun _ k12 => gNl (aA 1 rfl) fun hl13 => gRn (oM 1 rfl<|onf fl_112_2 rfl<|olR 0 ti_110 rfl rfl<|oM 1 rfl<|oxN sl_110 ti_121 (aA 1 rfl) _ om9 rfl<|ofE fl_121_2 rfl<|oV (Rn.same (r_lde (s := thr) (i := t) (v := ((nth thr.l t).wv)) ti_119 rfl rfl rfl (fun w h => (h.at 1 rfl)) (show t < thr.l.length from om9) (Nat.le_of_ble_eq_true rfl) rfl) hwv) rfl<|oM 1 rfl<|.nl)<|nK k12<|gK fun _ k14 => sK fun _ k15 => gNl (aA 3 rfl) fun hl16 => gRn (oM 1 rfl<|oln sl_119 (aA 3 rfl) rfl<|osbI _ _ om9 rfl<|oM 1 rfl<|.nl)<|nK k15<|gB<|fun a18 w18 h18 => x_loop (fun m a w => ∃ (i : Int), (-1 ≤ i ∧ i < wait.l.length) ∧ (∀ j : Nat, i < j → j < wait.l.length → ¬ ((nth wait.l j).lock = false ∧ (nth wait.l j).wh = word)) ∧ St 51 (fun _ => False) W a w [(0, .pointer (some ⟨g, 0, none⟩)), (2, .int .i64 word), (7, wait.v), (8, .int .i64 i)] [.rblk g 112 [cv, pw, .int .i64 locks, .int .i64 regs, .int .i64 mode, thr.v, words.v, ov, pv, .bool fell], .at_ thr, .at_ words, .at_ wait] ∧ m = (i + 1).toNat) ⟨_, ((wait.l.length : Nat) : Int) - 1, (by omega), (fun j hj hj2 => absurd hj (by omega)), h18.nf ⟨rfl, rfl, rfl, rfl, trivial⟩, rfl⟩ ?_; clear h10
 clear h18
 rintro m17 a17 w17 ⟨i, hi, hall, h17, hm17⟩
 refine gG h17<|gK fun _ k19 => sG (oM 1 rfl<|ogeI _ _ rfl<|.nl)<|?_; clear h17
 refine gcd rfl (fun hb21 hp21 => ?_) fun hb21 hp21 => ?_
 ·skip
  refine gS<|hK k19<|gK fun _ k22 => gB<|sK fun _ k23 => gRn (oM 2 rfl<|oxI sl_119 ti_130 (aA 3 rfl) om9 rfl<|ofE fl_130_0 rfl<|olE (.bool ((nth wait.l i.toNat).lock)) ti_4 (aA 3 rfl) om9 rfl<|ont rfl<|oM 1 rfl<|.nl)<|?_
  rcases Bool.eq_false_or_eq_true (!((nth wait.l i.toNat).lock)) with hb24 | hb24
  ·have hn24 : (nth wait.l i.toNat).lock = false := (Bool.not_eq_true' _).mp hb24
   refine gRn (oG hb24 (r_move rfl rfl) rfl<|oG hb24 (r_move rfl rfl) rfl<|oG hb24 (r_ixI (s := wait) (q := i) sl_119 ti_130 rfl rfl rfl (fun w h => (h.at 3 rfl)) (show 0 ≤ i ∧ i < wait.l.length from om9)) rfl<|oG hb24 (r_fieldE (r := 1) fl_130_1 rfl rfl rfl) rfl<|oG hb24 (r_lde (s := wait) (i := i.toNat) (v := .int .i64 ((nth wait.l i.toNat).wh)) ti_3 rfl rfl rfl (fun w h => (h.at 3 rfl)) (show i.toNat < wait.l.length from om9) (Nat.le_of_ble_eq_true rfl) rfl) rfl<|oG hb24 (r_move rfl rfl) rfl<|oG hb24 (r_eqlI (p := (nth wait.l i.toNat).wh) (q := word) rfl rfl rfl) rfl<|opT hb24 rfl<|.nl)<|nK k23<|gcd rfl (fun hb25 hp25 => ?_) fun hb25 hp25 => ?_
   ·skip
    refine sG (oM 2 rfl<|oxI sl_119 ti_130 (aA 3 rfl) om9 rfl<|ofE fl_130_2 rfl<|olI ti_3 (aA 3 rfl) om9 rfl<|oM 1 rfl<|.nl)<|gF [6] rfl<|gR<|uB<|uT<|uT<|uB<|uT<|fun a27 w27 h27 => x_ret1 (fn := Try.f73) (t := 6) rfl h27 rfl <| ⟨?_, (h27.sh.sel [] rfl)⟩
    congr 1
    first | exact (findsL_some (i := i.toNat) (by omega) (by assumption) (by omega) (fun j hj hj2 => hall j (by omega) hj2)).symm | exact (findsL_none (fun j hj => hall j (by omega) hj)).symm
   refine gS<|hK k22<|gL<|gRn (oM 1 rfl<|osbI _ _ om9 rfl<|oM 1 rfl<|.nl)<|nN<|fun a28 w28 h28 => x_again ⟨_, ?_, i - 1, ?_, ?_, h28.nf ⟨rfl, rfl, rfl, rfl, trivial⟩, rfl⟩
   · rw [hm17]; first | omega | (simp only [lens9]; omega)
   · omega
   · intro j hj hj2; by_cases h9 : i < j; (exact hall j h9 hj2); obtain rfl : j = i.toNat := (by omega); first | (rintro ⟨h8, _⟩; exact absurd (h8.symm.trans (show _ = true by assumption)) (by decide)) | (rintro ⟨_, h8⟩; omega)
  have hn24 : (nth wait.l i.toNat).lock = true := (Bool.not_eq_false' _).mp hb24
  refine gRn (oKs 7 hb24 rfl rfl<|opF hb24 rfl<|.nl)<|nK k23<|gcF rfl rfl<|gS<|hK k22<|gL<|gRn (oM 1 rfl<|osbI _ _ om9 rfl<|oM 1 rfl<|.nl)<|nN<|fun a29 w29 h29 => x_again ⟨_, ?_, i - 1, ?_, ?_, h29.nf ⟨rfl, rfl, rfl, rfl, trivial⟩, rfl⟩
  · rw [hm17]; first | omega | (simp only [lens9]; omega)
  · omega
  · intro j hj hj2; by_cases h9 : i < j; (exact hall j h9 hj2); obtain rfl : j = i.toNat := (by omega); first | (rintro ⟨h8, _⟩; exact absurd (h8.symm.trans (show _ = true by assumption)) (by decide)) | (rintro ⟨_, h8⟩; omega)
 refine gX<|hK k14<|sK fun _ k30 => gNl (aA 2 rfl) fun hl31 => gRn (oM 1 rfl<|onf fl_112_3 rfl<|olR 0 ti_23 rfl rfl<|oM 1 rfl<|oxI sl_23 ti_3 (aA 2 rfl) om9 rfl<|olI ti_3 (aA 2 rfl) om9 rfl<|oM 1 rfl<|.nl)<|nK k30<|gR<|fun a32 w32 h32 => x_ret1 (fn := Try.f73) (t := 6) rfl h32 rfl <| ⟨?_, (h32.sh.sel [] rfl)⟩
 congr 1
 first | exact (findsL_some (i := i.toNat) (by omega) (by assumption) (by omega) (fun j hj hj2 => hall j (by omega) hj2)).symm | exact (findsL_none (fun j hj => hall j (by omega) hj)).symm

end Go.Proofs.Ytmgikmjmdppfmaa
end
namespace Go.Proofs.Ytmgikmjmdppfmaa
open Go.RowKit
set_option linter.unusedSimpArgs false
set_option linter.unusedVariables false
set_option maxRecDepth 100000
set_option maxHeartbeats 4000000


theorem set_same {l : List ThV} {t : Nat} {v : Value} (h : t < l.length) (e : (nth l t).wv = v) : l.set t { nth l t with wv := v } = l := by
  subst e
  refine ext_nth _ _ (by simp) fun i hi => ?_
  rw [nth_set]
  split
  · rename_i hh; rw [← hh.1]
  · rfl

theorem done_c (K : Nat → Prop) (g : Nat) (x : Wt) (words owner : Ls Int) (cv pw : Value) (locks regs mode : Int) (tv pv : Value) (fell : Bool) (W : World) (hS : Sh K W W [.blk g 112 [cv, pw, .int .i64 locks, .int .i64 regs, .int .i64 mode, tv, words.v, owner.v, pv, .bool fell], .own 3 words, .own 3 owner]) (hx : if x.lock = true then 0 ≤ x.wh ∧ x.wh < owner.l.length else 0 ≤ x.wh ∧ x.wh < words.l.length) :
    Rets Try.prog 71 [.pointer (some ⟨g, 0, none⟩), .agg #[.bool x.lock, .int .i64 x.wh, .int .i64 x.what]] W (fun v w' => v = .tuple #[] ∧ Sh K W w' [.blk g 112 [cv, pw, .int .i64 locks, .int .i64 regs, .int .i64 mode, tv, words.v, owner.v, pv, .bool fell], .own 3 (⟨words.v, if x.lock = true then words.l else words.l.set x.wh.toNat x.what⟩ : Ls Int), .own 3 (⟨owner.v, if x.lock = true then owner.l.set x.wh.toNat (-1) else owner.l⟩ : Ls Int)]) := by
 refine gen Try.func71 Try.ntmps71 hS rfl fun a10 h10 => gG h10<|sK fun _ k11 => gbx rfl rfl fun b12 => nK k11<|sG (ofB fl_130_0 rfl<|olB 0 ti_4 rfl rfl<|.nl)<|?_; clear h10
 refine gCb rfl (fun hb14 => ?_) fun hb14 => ?_
 ·skip
  rw [if_pos (by assumption)] at hx
  rw [if_pos (by assumption), if_pos (by assumption)]
  refine gNl (aO 3 rfl) fun hl15 => rT 7 [] (oM 1 rfl<|onfl 1 fl_112_4 ti_23 rfl rfl<|ofB fl_130_1 rfl<|olB 0 ti_3 rfl rfl<|oxI sl_23 ti_3 (aO 3 rfl) om9 rfl<|.nl)<|gte 3 ((-1) : Int) ti_3 om9 rfl rfl<|nN<|fun a17 w17 h17 => ?_
  try simp only [Exit.then, Exit.inBlock, if_true]
  refine x_end0 (fn := Try.f71) rfl h17 ?_
  exact ⟨rfl, (h17.sh.sel [1, 2, 3] rfl)⟩
 rw [if_neg (by rw [show x.lock = false by assumption]; decide)] at hx
 rw [if_neg (by rw [show x.lock = false by assumption]; decide), if_neg (by rw [show x.lock = false by assumption]; decide)]
 refine gNl (aO 2 rfl) fun hl18 => rT 9 [] (oM 1 rfl<|onfl 1 fl_112_3 ti_23 rfl rfl<|ofB fl_130_1 rfl<|olB 0 ti_3 rfl rfl<|ofB fl_130_2 rfl<|olB 0 ti_3 rfl rfl<|oxI sl_23 ti_3 (aO 2 rfl) om9 rfl<|.nl)<|gte 2 (x.what : Int) ti_3 om9 rfl rfl<|nN<|fun a20 w20 h20 => ?_
 try simp only [Exit.then, Exit.inBlock, if_true]
 refine x_end0 (fn := Try.f71) rfl h20 ?_
 exact ⟨rfl, (h20.sh.sel [1, 2, 3] rfl)⟩

theorem word_c (K : Nat → Prop) (g : Nat) (n : Int) (words : Ls Int) (cv pw : Value) (locks regs mode : Int) (tv ov pv : Value) (fell : Bool) (W : World) (hS : Sh K W W [.blk g 112 [cv, pw, .int .i64 locks, .int .i64 regs, .int .i64 mode, tv, words.v, ov, pv, .bool fell], .own 3 words]) :
    Rets Try.prog 75 [.pointer (some ⟨g, 0, none⟩), .int .i64 n] W (fun v w' => v = .bool (decide (0 ≤ n ∧ n < (words.l.length : Int))) ∧ Sh K W w' [.blk g 112 [cv, pw, .int .i64 locks, .int .i64 regs, .int .i64 mode, tv, words.v, ov, pv, .bool (fell || !decide (0 ≤ n ∧ n < (words.l.length : Int)))], .own 3 words]) := by
 refine gen Try.func75 Try.ntmps75 hS rfl fun a10 h10 => gG h10<|sG (oM 1 rfl<|.nl)<|gK fun _ k12 => sK fun _ k13 => gRn (oM 1 rfl<|oltI _ _ rfl<|oM 1 rfl<|.nl)<|?_; clear h10
 rcases dsp (n < 0) with ⟨hb14, hp14⟩ | ⟨hb14, hp14⟩
 ·skip
  refine gRn (oKs 7 hb14 rfl rfl<|opT hb14 rfl<|.nl)<|nK k13<|gcT rfl rfl<|sK fun _ k15 => gRn (oM 1 rfl<|onf fl_112_6 rfl<|.nl)<|gst (v := .bool true) 0 ti_4 rfl rfl rfl<|nK k15<|sG (oM 1 rfl<|.nl)<|gR<|uT<|fun a18 w18 h18 => x_ret1 (fn := Try.f75) (t := 4) rfl h18 rfl ?_
  first | (have e9 : decide (0 ≤ n ∧ n < (words.l.length : Int)) = true := decide_eq_true (by omega)) | (have e9 : decide (0 ≤ n ∧ n < (words.l.length : Int)) = false := decide_eq_false (by omega))
  rw [e9]
  refine ⟨rfl, ?_⟩
  first | (simp only [Bool.not_true, Bool.or_false]; exact h18.sh) | (simp only [Bool.not_false, Bool.or_true]; exact h18.sh)
 refine gNl (aO 1 rfl) fun hl19 => gRn (oG hb14 (r_move rfl rfl) rfl<|oG hb14 (r_move rfl rfl) rfl<|oG hb14 (r_nil rfl rfl) rfl<|oG hb14 (r_fieldB (r := 6) fl_112_3 rfl rfl rfl) rfl<|oG hb14 (r_ldb (i := 0) ti_23 rfl rfl rfl rfl) rfl<|oG hb14 (r_len (s := words) (n := words.l.length) sl_23 rfl rfl (fun w h => (h.own 1 rfl)) rfl) rfl<|oG hb14 (r_geqI (p := n) (q := ((words.l.length : Nat) : Int)) rfl rfl rfl) rfl<|opF hb14 rfl<|.nl)<|nK k13<|gcd rfl (fun hb20 hp20 => ?_) fun hb20 hp20 => ?_
 ·skip
  refine sK fun _ k21 => gRn (oM 1 rfl<|onf fl_112_6 rfl<|.nl)<|gst (v := .bool true) 0 ti_4 rfl rfl rfl<|nK k21<|sG (oM 1 rfl<|.nl)<|gR<|uT<|fun a24 w24 h24 => x_ret1 (fn := Try.f75) (t := 4) rfl h24 rfl ?_
  first | (have e9 : decide (0 ≤ n ∧ n < (words.l.length : Int)) = true := decide_eq_true (by omega)) | (have e9 : decide (0 ≤ n ∧ n < (words.l.length : Int)) = false := decide_eq_false (by omega))
  rw [e9]
  refine ⟨rfl, ?_⟩
  first | (simp only [Bool.not_true, Bool.or_false]; exact h24.sh) | (simp only [Bool.not_false, Bool.or_true]; exact h24.sh)
 refine gS<|hK k12<|sG (oM 1 rfl<|.nl)<|gR<|fun a26 w26 h26 => x_ret1 (fn := Try.f75) (t := 4) rfl h26 rfl ?_
 first | (have e9 : decide (0 ≤ n ∧ n < (words.l.length : Int)) = true := decide_eq_true (by omega)) | (have e9 : decide (0 ≤ n ∧ n < (words.l.length : Int)) = false := decide_eq_false (by omega))
 rw [e9]
 refine ⟨rfl, ?_⟩
 first | (simp only [Bool.not_true, Bool.or_false]; exact h26.sh) | (simp only [Bool.not_false, Bool.or_true]; exact h26.sh)

theorem store_c (K : Nat → Prop) (g t : Nat) (x : Wt) (thr : Ls ThV) (wait : Ls Wt) (words owner : Ls Int) (cv pw : Value) (locks regs mode : Int) (pv : Value) (fell : Bool) (W : World) (hS : Sh K W W [.blk g 112 [cv, pw, .int .i64 locks, .int .i64 regs, .int .i64 mode, thr.v, words.v, owner.v, pv, .bool fell], .own 121 thr, .own 130 wait, .own 3 words, .own 3 owner]) (hx : if x.lock = true then 0 ≤ x.wh ∧ x.wh < owner.l.length else 0 ≤ x.wh ∧ x.wh < words.l.length) (ht : t < thr.l.length) (hwv : (nth thr.l t).wv = wait.v) (hwl : wait.l.length ≤ 100) :
    Rets Try.prog 74 [.pointer (some ⟨g, 0, none⟩), .int .i64 ((t : Nat) : Int), .agg #[.bool x.lock, .int .i64 x.wh, .int .i64 x.what]] W (fun v w' => v = .tuple #[] ∧ ∃ (wait' : Ls Wt) (words' owner' : Ls Int), (if 0 < mode then wait'.l = wait.l ++ [x] ∧ words' = words ∧ owner' = owner else wait' = wait ∧ words' = (⟨words.v, if x.lock = true then words.l else words.l.set x.wh.toNat x.what⟩ : Ls Int) ∧ owner' = (⟨owner.v, if x.lock = true then owner.l.set x.wh.toNat (-1) else owner.l⟩ : Ls Int)) ∧ Sh K W w' [.blk g 112 [cv, pw, .int .i64 locks, .int .i64 regs, .int .i64 mode, thr.v, words'.v, owner'.v, pv, .bool fell], .own 121 (⟨thr.v, thr.l.set t { nth thr.l t with wv := wait'.v }⟩ : Ls ThV), .own 130 wait', .own 3 words', .own 3 owner']) := by
 refine gen Try.func74 Try.ntmps74 hS rfl fun a10 h10 => gG h10<|sK fun _ k11 => gbx rfl rfl fun b12 => nK k11<|sG (oM 1 rfl<|onfl 1 fl_112_1 ti_3 rfl rfl<|ogtI _ _ rfl<|.nl)<|?_; clear h10
 refine gcd rfl (fun hb14 hp14 => ?_) fun hb14 hp14 => ?_
 ·skip
  refine gNl (aO 2 rfl) fun hl15 => rC [14, 15, 18] rfl<|pR [0, 1, 2, 3, 4, 5, 6, 7, 8, 9, 10, 11, 12, 13] rfl (oM 1 rfl<|onfl 1 fl_112_2 ti_110 rfl rfl<|oM 2 rfl<|onfl 1 fl_112_2 ti_110 rfl rfl<|oM 1 rfl<|oxN sl_110 ti_121 (aO 2 rfl) _ om9 rfl<|ofE fl_121_2 rfl<|oV (Rn.same (r_lde (s := thr) (i := t) (v := ((nth thr.l t).wv)) ti_119 rfl rfl rfl (fun w h => (h.own 2 rfl)) (show t < thr.l.length from om9) (Nat.le_of_ble_eq_true rfl) rfl) hwv) rfl<|olw 0 ti_130 rfl rfl<|.nl) rfl<|pX (fun _ _ h_ => x_lit (n := 1) (cs := [.bool x.lock, .int .i64 x.wh, .int .i64 x.what]) ([x] : List Wt) h_ sl_119 ti_130 rfl rfl rfl (by decide) rfl (by kernel_rfl) rfl (fun q hq w h => Flat.inner _ _) (fun q hq b hb => (Flat.on _ _ hb).elim) rfl rfl) rfl fun v16 => pR [0, 1, 2, 3, 4, 5, 6, 7, 8, 9, 10, 11, 12] rfl (oM 1 rfl<|onfl 2 fl_112_2 ti_110 rfl rfl<|oM 2 rfl<|onfl 2 fl_112_2 ti_110 rfl rfl<|oM 1 rfl<|oxN sl_110 ti_121 (aO 3 rfl) _ om9 rfl<|ofE fl_121_2 rfl<|oV (Rn.same (r_lde (s := thr) (i := t) (v := ((nth thr.l t).wv)) ti_119 rfl rfl rfl (fun w h => (h.own 3 rfl)) (show t < thr.l.length from om9) (Nat.le_of_ble_eq_true rfl) rfl) hwv) rfl<|.nl) rfl<|pX (fun _ _ h_ => x_app (r := 4) (rm := 0) (s := wait) (m := (⟨v16, [x]⟩ : Ls Wt)) h_ sl_119 ti_130 rfl rfl rfl rfl rfl rfl rfl (fun w h => (h.own 0 rfl)) (fun b hb => own_on (h_.sh.ok _ (List.mem_of_getElem? (i := 0) rfl)) hb) (fun q hq b hb => ⟨q, hq, hb⟩) rfl rfl rfl inferInstance (show (wait.l.length + ([x]).length) * 24 ≤ 140737488355328 ∧ wait.l.length + ([x]).length ≤ 140737488355328 from om9) rfl rfl) rfl fun v17 => pR [0, 1, 2, 3, 4, 16, 17] rfl (oM 1 rfl<|onfl 2 fl_112_2 ti_110 rfl rfl<|oM 1 rfl<|oxN sl_110 ti_121 (aO 3 rfl) _ om9 rfl<|ofE fl_121_2 rfl<|.nl) rfl<|pS (fun _ _ h_ => x_ste (r := 3) (i := t) (j := 2) (x' := ({ nth thr.l t with wv := v17 } : ThV)) h_ ti_119 rfl rfl rfl rfl rfl (show t < thr.l.length from om9) (Nat.le_of_ble_eq_true rfl) rfl (cells_oneL ((h_.sh.own 4 rfl)).one) ((h_.sh.own 4 rfl)).one (by intro q hq; rcases q with _ | _ | _ | q <;> first | rfl | omega) (fun w h => Flat.inner _ _) (fun b hb => (Flat.on _ _ hb).elim)) rfl<|pE [] rfl (.nl) rfl<|fun a19 w19 h19 => ?_
  try simp only [Exit.then, Exit.inBlock, if_true]
  refine x_end0 (fn := Try.f74) rfl h19 <| ⟨rfl, ⟨v17, wait.l ++ ([x])⟩, words, owner, ?_⟩
  first | (rw [if_pos (by omega)]; exact ⟨⟨rfl, rfl, rfl⟩, (h19.sh.sel (L' := [_, _, _, _, _]) [2, 3, 4, 5, 6] rfl)⟩) | (rw [if_neg (by omega)]; refine ⟨⟨rfl, rfl, rfl⟩, ?_⟩; rw [set_same (by omega) hwv]; exact (h19.sh.sel (L' := [_, _, _, _, _]) [2, 3, 4, 5, 6] rfl))
 refine gL<|gRn (oM 1 rfl<|olw 0 ti_130 rfl rfl<|.nl)<|gO [1, 4, 5, 0, 2, 3] rfl<|gM 3 rfl (fun _ _ h_ => xCl h_ bd_71 rfl (done_c _ _ x words owner _ _ _ _ _ _ _ _ _ (pKl 3 h_ rfl) hx)) rfl<|?_
 rintro _ _ w22 ⟨rfl, hs22⟩
 refine gBk hs22 rfl<|gU<|nN<|fun a23 w23 h23 => ?_; clear hs22
 try simp only [Exit.then, Exit.inBlock, if_true]
 refine x_end0 (fn := Try.f74) rfl h23 <| ⟨rfl, wait, ⟨words.v, if x.lock = true then words.l else words.l.set x.wh.toNat x.what⟩, ⟨owner.v, if x.lock = true then owner.l.set x.wh.toNat (-1) else owner.l⟩, ?_⟩
 first | (rw [if_pos (by omega)]; exact ⟨⟨rfl, rfl, rfl⟩, (h23.sh.sel (L' := [_, _, _, _, _]) [0, 4, 5, 1, 2] rfl)⟩) | (rw [if_neg (by omega)]; refine ⟨⟨rfl, rfl, rfl⟩, ?_⟩; rw [set_same (by omega) hwv]; exact (h23.sh.sel (L' := [_, _, _, _, _]) [0, 4, 5, 1, 2] rfl))

end Go.Proofs.Ytmgikmjmdppfmaa
