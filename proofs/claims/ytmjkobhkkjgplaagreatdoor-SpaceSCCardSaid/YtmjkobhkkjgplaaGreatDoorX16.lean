/-
  Contracts of functions of this program and of the references, each walked once.
-/
import Derived.Test.YtmjkobhkkjgplaaGreatDoorX15
import Derived.Test.YtmjkobhkkjgplaaGreatDoorS8
namespace Go.Proofs.YtmjkobhkkjgplaaGreatDoor
open Go.RowKit
set_option linter.unusedSimpArgs false
set_option linter.unusedVariables false
set_option maxRecDepth 100000
set_option maxHeartbeats 1000000


theorem findsL_some {l : List Wt} {words : List Int} {w : Int} {i : Nat} (hi : i < l.length) (h1 : (nth l i).lock = false) (h2 : (nth l i).wh = w) (ha : ∀ j, i < j → j < l.length → ¬ ((nth l j).lock = false ∧ (nth l j).wh = w)) : findsL l words w = (nth l i).what := by
  have e : l.reverse.find? (fun x => !x.lock && decide (x.wh = w)) = some (nth l i) := by
    have hs : l = l.take i ++ nth l i :: l.drop (i + 1) := by
      have := List.take_append_drop i l
      rw [List.drop_eq_getElem_cons hi] at this
      rw [show nth l i = l[i] from by simp [nth, hi]]
      exact this.symm
    rw [hs, List.reverse_append, List.reverse_cons, List.find?_append, List.find?_append]
    have hn : (l.drop (i + 1)).reverse.find? (fun x => !x.lock && decide (x.wh = w)) = none := by
      rw [List.find?_eq_none]
      intro x hx
      rw [List.mem_reverse] at hx
      obtain ⟨k, hk, rfl⟩ := List.mem_iff_getElem.1 hx
      have hk2 : i + 1 + k < l.length := by simpa [Nat.lt_sub_iff_add_lt, Nat.add_comm] using hk
      have := ha (i + 1 + k) (by omega) hk2
      rw [show nth l (i + 1 + k) = (l.drop (i + 1))[k] from by simp [nth, hk2]] at this
      intro hc
      simp only [Bool.and_eq_true, Bool.not_eq_true', decide_eq_true_eq] at hc
      exact this hc
    rw [← hs, hn]
    simp [h1, h2]
  unfold findsL
  rw [e]
theorem findsL_none {l : List Wt} {words : List Int} {w : Int} (ha : ∀ j, j < l.length → ¬ ((nth l j).lock = false ∧ (nth l j).wh = w)) : findsL l words w = nth words w.toNat := by
  have e : l.reverse.find? (fun x => !x.lock && decide (x.wh = w)) = none := by
    rw [List.find?_eq_none]
    intro x hx
    rw [List.mem_reverse] at hx
    obtain ⟨k, hk, rfl⟩ := List.mem_iff_getElem.1 hx
    have := ha k hk
    rw [show nth l k = l[k] from by simp [nth, hk]] at this
    intro hc
    simp only [Bool.and_eq_true, Bool.not_eq_true', decide_eq_true_eq] at hc
    exact this hc
  unfold findsL
  rw [e]

theorem finds_c (g t : Nat) (word : Int) (thr : Ls ThV) (words : Ls Int) (wait : Ls Wt) (cv pw : Value) (locks regs mode : Int) (ov pv : Value) (fell : Bool) (W : World) (hB : Blk W g 111 #[cv, pw, .int .i64 locks, .int .i64 regs, .int .i64 mode, thr.v, words.v, ov, pv, .bool fell]) (h_thr : thr.At W) (h_words : words.At W) (h_wait : wait.At W) (ht : t < thr.l.length) (hwv : (nth thr.l t).wv = wait.v) (hwo : 0 ≤ word ∧ word < words.l.length) :
    Rets Tryz.prog 114 [.pointer (some ⟨g, 0, none⟩), .int .i64 ((t : Nat) : Int), .int .i64 word] W (fun v w' => v = .int .i64 (findsL wait.l words.l word) ∧ Sh0 W w' []) := by
 refine gen Tryz.func114 Tryz.ntmps114 (Sh0.ext (by intro A hA; simp at hA; rcases hA with rfl | rfl | rfl | rfl; exact hB; exact h_thr; exact h_words; exact h_wait) (by intro A hA b hb; simp at hA; rcases hA with rfl | rfl | rfl | rfl <;> exact hb) : Sh (fun _ => False) W W [.rblk g 111 [cv, pw, .int .i64 locks, .int .i64 regs, .int .i64 mode, thr.v, words.v, ov, pv, .bool fell], .at_ thr, .at_ words, .at_ wait]) rfl fun a10 h10 => gG h10<|sG (oM 1 rfl<|.nl)<|sK fun _ k12 => gNl (aA 1 rfl) fun hl13 => gRn (oM 1 rfl<|onf fl_111_2 rfl<|olR 0 ti_109 rfl rfl<|oM 1 rfl<|oxN sl_109 ti_119 (aA 1 rfl) _ om9 rfl<|ofE fl_119_2 rfl<|oV (Rn.same (r_lde (s := thr) (i := t) (v := ((nth thr.l t).wv)) ti_117 rfl rfl rfl (fun w h => (h.at 1 rfl)) (show t < thr.l.length from om9) (Nat.le_of_ble_eq_true rfl) rfl) hwv) rfl<|oM 1 rfl<|.nl)<|nK k12<|gK fun _ k14 => sK fun _ k15 => gNl (aA 3 rfl) fun hl16 => gRn (oM 1 rfl<|oln sl_117 (aA 3 rfl) rfl<|osbI _ _ om9 rfl<|oM 1 rfl<|.nl)<|nK k15<|gB<|fun a18 w18 h18 => x_loop (fun m a w => ∃ (i : Int), (-1 ≤ i ∧ i < wait.l.length) ∧ (∀ j : Nat, i < j → j < wait.l.length → ¬ ((nth wait.l j).lock = false ∧ (nth wait.l j).wh = word)) ∧ St 51 (fun _ => False) W a w [(0, .pointer (some ⟨g, 0, none⟩)), (2, .int .i64 word), (7, wait.v), (8, .int .i64 i)] [.rblk g 111 [cv, pw, .int .i64 locks, .int .i64 regs, .int .i64 mode, thr.v, words.v, ov, pv, .bool fell], .at_ thr, .at_ words, .at_ wait] ∧ m = (i + 1).toNat) ⟨_, ((wait.l.length : Nat) : Int) - 1, (by omega), (fun j hj hj2 => absurd hj (by omega)), h18.nf ⟨rfl, rfl, rfl, rfl, trivial⟩, rfl⟩ ?_; clear h10
 clear h18
 rintro m17 a17 w17 ⟨i, hi, hall, h17, hm17⟩
 refine gG h17<|gK fun _ k19 => sG (oM 1 rfl<|ogeI _ _ rfl<|.nl)<|?_; clear h17
 refine gcd rfl (fun hb21 hp21 => ?_) fun hb21 hp21 => ?_
 ·skip
  refine gS<|hK k19<|gK fun _ k22 => gB<|sK fun _ k23 => gRn (oM 2 rfl<|oxI sl_117 ti_167 (aA 3 rfl) om9 rfl<|ofE fl_167_0 rfl<|olE (.bool ((nth wait.l i.toNat).lock)) ti_4 (aA 3 rfl) om9 rfl<|ont rfl<|oM 1 rfl<|.nl)<|?_
  rcases Bool.eq_false_or_eq_true (!((nth wait.l i.toNat).lock)) with hb24 | hb24
  ·have hn24 : (nth wait.l i.toNat).lock = false := (Bool.not_eq_true' _).mp hb24
   refine gRn (oG hb24 (r_move rfl rfl) rfl<|oG hb24 (r_move rfl rfl) rfl<|oG hb24 (r_ixI (s := wait) (q := i) sl_117 ti_167 rfl rfl rfl (fun w h => (h.at 3 rfl)) (show 0 ≤ i ∧ i < wait.l.length from om9)) rfl<|oG hb24 (r_fieldE (r := 1) fl_167_1 rfl rfl rfl) rfl<|oG hb24 (r_lde (s := wait) (i := i.toNat) (v := .int .i64 ((nth wait.l i.toNat).wh)) ti_3 rfl rfl rfl (fun w h => (h.at 3 rfl)) (show i.toNat < wait.l.length from om9) (Nat.le_of_ble_eq_true rfl) rfl) rfl<|oG hb24 (r_move rfl rfl) rfl<|oG hb24 (r_eqlI (p := (nth wait.l i.toNat).wh) (q := word) rfl rfl rfl) rfl<|opT hb24 rfl<|.nl)<|nK k23<|gcd rfl (fun hb25 hp25 => ?_) fun hb25 hp25 => ?_
   ·skip
    refine sG (oM 2 rfl<|oxI sl_117 ti_167 (aA 3 rfl) om9 rfl<|ofE fl_167_2 rfl<|olI ti_3 (aA 3 rfl) om9 rfl<|oM 1 rfl<|.nl)<|gF [6] rfl<|gR<|fun a27 w27 h27 => ?_
    try simp only [Exit.then, Exit.inBlock]
    refine x_ret1 (fn := Tryz.f114) (t := 6) rfl h27 rfl <| ⟨?_, (h27.sh.sel [] rfl)⟩
    congr 1
    first | exact (findsL_some (i := i.toNat) (by omega) (by assumption) (by omega) (fun j hj hj2 => hall j (by omega) hj2)).symm | exact (findsL_none (fun j hj => hall j (by omega) hj)).symm
   refine gS<|hK k22<|gL<|gRn (oM 1 rfl<|osbI _ _ om9 rfl<|oM 1 rfl<|.nl)<|nN<|fun a28 w28 h28 => x_again ⟨_, ?_, i - 1, ?_, ?_, h28.nf ⟨rfl, rfl, rfl, rfl, trivial⟩, rfl⟩
   · rw [hm17]; first | omega | (simp only [lens9]; omega)
   · omega
   · intro j hj hj2; by_cases h9 : i < j; (exact hall j h9 hj2); obtain rfl : j = i.toNat := (by omega); first | (rintro ⟨h8, _⟩; exact absurd (h8.symm.trans (show _ = true by assumption)) (by decide)) | (rintro ⟨_, h8⟩; omega)
  have hn24 : (nth wait.l i.toNat).lock = true := (Bool.not_eq_false' _).mp hb24
  refine gRn (oKs 7 hb24 rfl rfl<|opF hb24 rfl<|.nl)<|nK k23<|gcF rfl rfl<|gS<|hK k22<|gL<|gRn (oM 1 rfl<|osbI _ _ om9 rfl<|oM 1 rfl<|.nl)<|nN<|fun a29 w29 h29 => x_again ⟨_, ?_, i - 1, ?_, ?_, h29.nf ⟨rfl, rfl, rfl, rfl, trivial⟩, rfl⟩
  · rw [hm17]; first | omega | (simp only [lens9]; omega)
  · omega
  · intro j hj hj2; by_cases h9 : i < j; (exact hall j h9 hj2); obtain rfl : j = i.toNat := (by omega); first | (rintro ⟨h8, _⟩; exact absurd (h8.symm.trans (show _ = true by assumption)) (by decide)) | (rintro ⟨_, h8⟩; omega)
 refine gX<|hK k14<|sK fun _ k30 => gNl (aA 2 rfl) fun hl31 => gRn (oM 1 rfl<|onf fl_111_3 rfl<|olR 0 ti_23 rfl rfl<|oM 1 rfl<|oxI sl_23 ti_3 (aA 2 rfl) om9 rfl<|olI ti_3 (aA 2 rfl) om9 rfl<|oM 1 rfl<|.nl)<|nK k30<|gR<|fun a32 w32 h32 => ?_
 try simp only [Exit.then, Exit.inBlock]
 refine x_ret1 (fn := Tryz.f114) (t := 6) rfl h32 rfl <| ⟨?_, (h32.sh.sel [] rfl)⟩
 congr 1
 first | exact (findsL_some (i := i.toNat) (by omega) (by assumption) (by omega) (fun j hj hj2 => hall j (by omega) hj2)).symm | exact (findsL_none (fun j hj => hall j (by omega) hj)).symm

end Go.Proofs.YtmjkobhkkjgplaaGreatDoor
