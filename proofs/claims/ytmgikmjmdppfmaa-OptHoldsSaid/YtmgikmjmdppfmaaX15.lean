/-
  Contracts of functions of this program and of the references, each walked once.
-/
import Derived.Test.YtmgikmjmdppfmaaX1
import Derived.Test.YtmgikmjmdppfmaaX2
import Derived.Test.YtmgikmjmdppfmaaS7
namespace Go.Proofs.Ytmgikmjmdppfmaa
open Go.RowKit
set_option linter.unusedSimpArgs false
set_option linter.unusedVariables false
set_option maxRecDepth 100000
set_option maxHeartbeats 2000000


theorem and_t' {p : Prop} [Decidable p] {b c : Bool} (h : p) (e : b = c) : b = (decide p && c) := by rw [decide_eq_true h, e]; rfl
theorem and_f' {p : Prop} [Decidable p] {c : Bool} (h : ¬ p) : false = (decide p && c) := by rw [decide_eq_false h]; rfl
def ableT (code : Ls (Ls Ins)) (thr : Ls ThL) (owner : List Int) (t : Nat) : Bool := decide ((nth thr.l t).pc < ((nth code.l t).l.length : Int)) && ableL owner (nth thr.l t).wait.l.length (nextIns (nth code.l t).l (nth thr.l t).pc)
def mayT (mode : Int) (thr : Ls ThL) (t k : Nat) : List Int := ((List.range k).filter (mayK mode (nth thr.l t).wait.l)).map fun k => ((8 * t + k + 1 : Nat) : Int)
def moveT (mode : Int) (code : Ls (Ls Ins)) (thr : Ls ThL) (owner : List Int) (t : Nat) : List Int := (if ableT code thr owner t = true then [((8 * t : Nat) : Int)] else []) ++ mayT mode thr t (nth thr.l t).wait.l.length
theorem mayT_len (mode : Int) (thr : Ls ThL) (t k : Nat) : (mayT mode thr t k).length ≤ k := by
  unfold mayT
  rw [List.length_map]
  exact Nat.le_trans (List.length_filter_le _ _) (by simp)
theorem mayT_t {mode : Int} {thr : Ls ThL} {t k : Nat} (h : mayK mode (nth thr.l t).wait.l k = true) : mayT mode thr t (k + 1) = mayT mode thr t k ++ [((8 * t + k + 1 : Nat) : Int)] := by
  unfold mayT; rw [List.range_succ, List.filter_append, List.map_append]; simp [h]
theorem mayT_f {mode : Int} {thr : Ls ThL} {t k : Nat} (h : mayK mode (nth thr.l t).wait.l k = false) : mayT mode thr t (k + 1) = mayT mode thr t k := by
  unfold mayT; rw [List.range_succ, List.filter_append, List.map_append]; simp [h]
def movesL (mode : Int) (code : Ls (Ls Ins)) (thr : Ls ThL) (owner : List Int) (n : Nat) : List Int := (List.range n).flatMap (moveT mode code thr owner)
theorem movesL_succ (mode : Int) (code : Ls (Ls Ins)) (thr : Ls ThL) (owner : List Int) (n : Nat) : movesL mode code thr owner (n + 1) = movesL mode code thr owner n ++ moveT mode code thr owner n := by simp [movesL, List.range_succ]
def endT (code : Ls (Ls Ins)) (thr : Ls ThL) (t : Nat) : Bool := decide (¬ (nth thr.l t).pc < ((nth code.l t).l.length : Int)) && decide ((nth thr.l t).wait.l.length = 0)
def endedL (code : Ls (Ls Ins)) (thr : Ls ThL) : Bool := (List.range code.l.length).all (endT code thr)
theorem endT_t {code : Ls (Ls Ins)} {thr : Ls ThL} {t : Nat} (h : ¬ (nth thr.l t).pc < ((nth code.l t).l.length : Int)) (h2 : (nth thr.l t).wait.l.length = 0) : endT code thr t = true := by unfold endT; rw [decide_eq_true h, decide_eq_true h2]; rfl
theorem endedL_t {code : Ls (Ls Ins)} {thr : Ls ThL} (h : ∀ j, j < code.l.length → endT code thr j = true) : endedL code thr = true := by
  unfold endedL; rw [List.all_eq_true]; intro j hj; exact h j (by simpa using hj)
theorem endedL_f {code : Ls (Ls Ins)} {thr : Ls ThL} {t : Nat} (ht : t < code.l.length) (h : (nth thr.l t).pc < ((nth code.l t).l.length : Int) ∨ ¬ (nth thr.l t).wait.l.length = 0) : endedL code thr = false := by
  unfold endedL; rw [List.all_eq_false]
  refine ⟨t, by simpa using ht, ?_⟩
  unfold endT
  rcases h with h | h
  · rw [decide_eq_false (by omega)]; simp
  · rw [decide_eq_false h]; simp
theorem mayK_t0 {m : Int} {l : List Wt} {k : Nat} (h : k = 0) : mayK m l k = true := by unfold mayK; simp [h]
theorem mayK_f1 {m : Int} {l : List Wt} {k : Nat} (h : k ≠ 0) (h2 : m = 1 ∨ (nth l k).lock = true) : mayK m l k = false := by unfold mayK; rcases h2 with h2 | h2 <;> simp [h, h2]
theorem mayK_f2 {m : Int} {l : List Wt} {k : Nat} (h : k ≠ 0) (i : Nat) (hi : i < k) (h2 : (nth l i).lock = true ∨ (nth l i).wh = (nth l k).wh) : mayK m l k = false := by
  have e : (List.range k).all (fun i => !((nth l i).lock || decide ((nth l i).wh = (nth l k).wh))) = false := by
    rw [List.all_eq_false]
    exact ⟨i, by simpa using hi, by rcases h2 with h2 | h2 <;> simp [h2]⟩
  unfold mayK
  rw [e]
  simp [h]
theorem mayK_t {m : Int} {l : List Wt} {k : Nat} (h : m ≠ 1) (h2 : (nth l k).lock = false) (ha : ∀ j, j < k → (nth l j).lock = false ∧ (nth l j).wh ≠ (nth l k).wh) : mayK m l k = true := by
  have e : (List.range k).all (fun i => !((nth l i).lock || decide ((nth l i).wh = (nth l k).wh))) = true := by
    rw [List.all_eq_true]
    intro j hj
    obtain ⟨h3, h4⟩ := ha j (by simpa using hj)
    simp [h3, h4]
  unfold mayK
  rw [e]
  simp [h, h2]

theorem bit_c (b : Bool) (W : World) :
    Rets Try.prog 72 [.bool b] W (fun v w' => v = .int .i64 (bit b) ∧ Sh0 W w' []) := by
 refine gen Try.func72 Try.ntmps72 (Sh0.start _ : Sh (fun _ => False) W W []) rfl fun a10 h10 => gG h10<|sG (oM 1 rfl<|.nl)<|gK fun _ k12 => sG (oM 1 rfl<|.nl)<|?_; clear h10
 refine gCb rfl (fun hb14 => ?_) fun hb14 => ?_
 ·skip
  refine sG (oM 1 rfl<|.nl)<|gR<|uT<|fun a16 w16 h16 => x_ret1 (fn := Try.f72) (t := 2) rfl h16 rfl <| ⟨?_, (h16.sh.sel [] rfl)⟩
  first | (rw [show b = true by assumption]; rfl) | (rw [show b = false by assumption]; rfl)
 refine gS<|hK k12<|sG (oM 1 rfl<|.nl)<|gR<|fun a18 w18 h18 => x_ret1 (fn := Try.f72) (t := 2) rfl h18 rfl <| ⟨?_, (h18.sh.sel [] rfl)⟩
 first | (rw [show b = true by assumption]; rfl) | (rw [show b = false by assumption]; rfl)

theorem may_c (g : Nat) (l : Ls Wt) (k : Nat) (cv : Value) (pw : Value) (locks : Int) (regs : Int) (mode : Int) (tv : Value) (uv : Value) (ov : Value) (pv : Value) (fell : Bool) (W : World) (hB : Blk W g 112 #[cv, pw, .int .i64 locks, .int .i64 regs, .int .i64 mode, tv, uv, ov, pv, .bool fell]) (h_l : l.At W) (hk : k < l.l.length) :
    Rets Try.prog 69 [.pointer (some ⟨g, 0, none⟩), l.v, .int .i64 ((k : Nat) : Int)] W (fun v w' => v = .bool (mayK mode l.l k) ∧ Sh0 W w' []) := by
 refine gen Try.func69 Try.ntmps69 (Sh0.ext (by intro A hA; simp at hA; rcases hA with rfl | rfl; exact hB; exact h_l) (by intro A hA b hb; simp at hA; rcases hA with rfl | rfl <;> exact hb) : Sh (fun _ => False) W W [.rblk g 112 [cv, pw, .int .i64 locks, .int .i64 regs, .int .i64 mode, tv, uv, ov, pv, .bool fell], .at_ l]) rfl fun a10 h10 => gG h10<|sG (oM 1 rfl<|.nl)<|gK fun _ k12 => sG (oM 1 rfl<|oeqN _ 0 rfl<|.nl)<|?_; clear h10
 refine gcd rfl (fun hb14 hp14 => ?_) fun hb14 hp14 => ?_
 ·skip
  refine sG (oM 1 rfl<|.nl)<|gR<|uT<|fun a16 w16 h16 => x_ret1 (fn := Try.f69) (t := 6) rfl h16 rfl <| ⟨?_, (h16.sh.sel [] rfl)⟩
  congr 1
  first | exact (mayK_t0 (by omega)).symm | exact (mayK_f1 (by omega) (by first | exact .inl (by omega) | exact .inr (by assumption))).symm | exact (mayK_f2 (by omega) i (by omega) (by first | exact .inl (by assumption) | exact .inr (by omega))).symm | exact (mayK_t (by omega) (by assumption) (fun j hj => hall j (by omega))).symm
 refine gS<|hK k12<|gK fun _ k17 => sK fun _ k18 => gRn (oM 1 rfl<|onf fl_112_1 rfl<|olR 0 ti_3 rfl rfl<|oeqI _ _ rfl<|oM 1 rfl<|.nl)<|?_
 rcases dsp (mode = 1) with ⟨hb19, hp19⟩ | ⟨hb19, hp19⟩
 ·skip
  refine gRn (oKs 5 hb19 rfl rfl<|opT hb19 rfl<|.nl)<|nK k18<|gcT rfl rfl<|sG (oM 1 rfl<|.nl)<|gR<|uT<|fun a21 w21 h21 => x_ret1 (fn := Try.f69) (t := 6) rfl h21 rfl <| ⟨?_, (h21.sh.sel [] rfl)⟩
  congr 1
  first | exact (mayK_t0 (by omega)).symm | exact (mayK_f1 (by omega) (by first | exact .inl (by omega) | exact .inr (by assumption))).symm | exact (mayK_f2 (by omega) i (by omega) (by first | exact .inl (by assumption) | exact .inr (by omega))).symm | exact (mayK_t (by omega) (by assumption) (fun j hj => hall j (by omega))).symm
 refine gNl (aA 1 rfl) fun hl22 => gRn (oG hb19 (r_move rfl rfl) rfl<|oG hb19 (r_move rfl rfl) rfl<|oG hb19 (r_ixN (s := l) (q := k) sl_119 ti_130 rfl rfl rfl (fun w h => (h.at 1 rfl)) (show k < l.l.length from om9)) rfl<|oG hb19 (r_fieldE (r := 0) fl_130_0 rfl rfl rfl) rfl<|oG hb19 (r_lde (s := l) (i := k) (v := .bool ((nth l.l k).lock)) ti_4 rfl rfl rfl (fun w h => (h.at 1 rfl)) (show k < l.l.length from om9) (Nat.le_of_ble_eq_true rfl) rfl) rfl<|opF hb19 rfl<|.nl)<|nK k18<|gCb rfl (fun hb23 => ?_) fun hb23 => ?_
 ·skip
  refine sG (oM 1 rfl<|.nl)<|gR<|uT<|fun a25 w25 h25 => x_ret1 (fn := Try.f69) (t := 6) rfl h25 rfl <| ⟨?_, (h25.sh.sel [] rfl)⟩
  congr 1
  first | exact (mayK_t0 (by omega)).symm | exact (mayK_f1 (by omega) (by first | exact .inl (by omega) | exact .inr (by assumption))).symm | exact (mayK_f2 (by omega) i (by omega) (by first | exact .inl (by assumption) | exact .inr (by omega))).symm | exact (mayK_t (by omega) (by assumption) (fun j hj => hall j (by omega))).symm
 refine gS<|hK k17<|gK fun _ k26 => sG (oM 1 rfl<|.nl)<|gB<|fun a29 w29 h29 => x_loop (fun m a w => ∃ (i : Nat), (i ≤ k) ∧ (∀ j, j < i → (nth l.l j).lock = false ∧ (nth l.l j).wh ≠ (nth l.l k).wh) ∧ St 45 (fun _ => False) W a w [(1, l.v), (2, .int .i64 ((k : Nat) : Int)), (7, .int .i64 ((i : Nat) : Int))] [.rblk g 112 [cv, pw, .int .i64 locks, .int .i64 regs, .int .i64 mode, tv, uv, ov, pv, .bool fell], .at_ l] ∧ m = k - i) ⟨_, 0, (by omega), (fun j hj => absurd hj (by omega)), h29.nf ⟨rfl, rfl, rfl, trivial⟩, rfl⟩ ?_
 clear h29
 rintro m28 a28 w28 ⟨i, hi, hall, h28, hm28⟩
 refine gG h28<|gK fun _ k30 => sG (oM 2 rfl<|oltN _ _ rfl<|.nl)<|?_; clear h28
 refine gcd rfl (fun hb32 hp32 => ?_) fun hb32 hp32 => ?_
 ·skip
  refine gS<|hK k30<|gK fun _ k33 => gB<|gK fun _ k34 => fun a35 w35 h35 => x_quiet (by kernel_rfl) (by kernel_rfl) h35 fun _ z36 => qQ h35.fr<|qRn (oM 2 rfl<|oxN sl_119 ti_130 (aA 1 rfl) _ om9 rfl<|ofE fl_130_0 rfl<|olE (.bool ((nth l.l i).lock)) ti_4 (aA 1 rfl) om9 rfl<|oM 1 rfl<|.nl)<|?_
  rcases Bool.eq_false_or_eq_true ((nth l.l i).lock) with hb37 | hb37
  ·skip
   refine qRn (oKs 11 hb37 rfl rfl<|opT hb37 rfl<|.nl)<|qN z36<|?_; clear h35
   refine hK k34<|gcT rfl rfl<|sG (oM 1 rfl<|.nl)<|gF [6] rfl<|gR<|uB<|uT<|uT<|uB<|uT<|fun a40 w40 h40 => x_ret1 (fn := Try.f69) (t := 6) rfl h40 rfl <| ⟨?_, (h40.sh.sel [] rfl)⟩
   congr 1
   first | exact (mayK_t0 (by omega)).symm | exact (mayK_f1 (by omega) (by first | exact .inl (by omega) | exact .inr (by assumption))).symm | exact (mayK_f2 (by omega) i (by omega) (by first | exact .inl (by assumption) | exact .inr (by omega))).symm | exact (mayK_t (by omega) (by assumption) (fun j hj => hall j (by omega))).symm
  refine qRn (oG hb37 (r_move rfl rfl) rfl<|oG hb37 (r_move rfl rfl) rfl<|oG hb37 (r_ixN (s := l) (q := i) sl_119 ti_130 rfl rfl rfl (fun w h => (h.at 1 rfl)) (show i < l.l.length from om9)) rfl<|oG hb37 (r_fieldE (r := 1) fl_130_1 rfl rfl rfl) rfl<|oG hb37 (r_lde (s := l) (i := i) (v := .int .i64 ((nth l.l i).wh)) ti_3 rfl rfl rfl (fun w h => (h.at 1 rfl)) (show i < l.l.length from om9) (Nat.le_of_ble_eq_true rfl) rfl) rfl<|oG hb37 (r_move rfl rfl) rfl<|oG hb37 (r_move rfl rfl) rfl<|oG hb37 (r_ixN (s := l) (q := k) sl_119 ti_130 rfl rfl rfl (fun w h => (h.at 1 rfl)) (show k < l.l.length from om9)) rfl<|oG hb37 (r_fieldE (r := 1) fl_130_1 rfl rfl rfl) rfl<|oG hb37 (r_lde (s := l) (i := k) (v := .int .i64 ((nth l.l k).wh)) ti_3 rfl rfl rfl (fun w h => (h.at 1 rfl)) (show k < l.l.length from om9) (Nat.le_of_ble_eq_true rfl) rfl) rfl<|oG hb37 (r_eqlI (p := (nth l.l i).wh) (q := (nth l.l k).wh) rfl rfl rfl) rfl<|opF hb37 rfl<|.nl)<|qN z36<|?_; clear h35
  refine hK k34<|gcd rfl (fun hb52 hp52 => ?_) fun hb52 hp52 => ?_
  ·skip
   refine sG (oM 1 rfl<|.nl)<|gF [6] rfl<|gR<|uB<|uT<|uT<|uB<|uT<|fun a54 w54 h54 => x_ret1 (fn := Try.f69) (t := 6) rfl h54 rfl <| ⟨?_, (h54.sh.sel [] rfl)⟩
   congr 1
   first | exact (mayK_t0 (by omega)).symm | exact (mayK_f1 (by omega) (by first | exact .inl (by omega) | exact .inr (by assumption))).symm | exact (mayK_f2 (by omega) i (by omega) (by first | exact .inl (by assumption) | exact .inr (by omega))).symm | exact (mayK_t (by omega) (by assumption) (fun j hj => hall j (by omega))).symm
  refine gS<|hK k33<|gL<|gRn (oM 1 rfl<|oadN _ 1 om9 rfl<|oM 1 rfl<|.nl)<|nN<|fun a55 w55 h55 => x_again ⟨_, ?_, i + 1, ?_, ?_, h55.nf ⟨rfl, rfl, rfl, trivial⟩, rfl⟩
  · rw [hm28]; first | omega | (simp only [lens9]; omega)
  · omega
  · intro j hj; rcases Nat.lt_or_ge j i with h | h; (exact hall j h); obtain rfl : j = i := (by omega); exact ⟨by assumption, by omega⟩
 refine gX<|hK k26<|sG (oM 1 rfl<|.nl)<|gR<|fun a57 w57 h57 => x_ret1 (fn := Try.f69) (t := 6) rfl h57 rfl <| ⟨?_, (h57.sh.sel [] rfl)⟩
 congr 1
 first | exact (mayK_t0 (by omega)).symm | exact (mayK_f1 (by omega) (by first | exact .inl (by omega) | exact .inr (by assumption))).symm | exact (mayK_f2 (by omega) i (by omega) (by first | exact .inl (by assumption) | exact .inr (by omega))).symm | exact (mayK_t (by omega) (by assumption) (fun j hj => hall j (by omega))).symm

theorem next_c (g t : Nat) (code : Ls (Ls Ins)) (thr : Ls ThV) (pw : Value) (locks : Int) (regs : Int) (mode : Int) (uv : Value) (ov : Value) (pv : Value) (fell : Bool) (W : World) (hB : Blk W g 112 #[code.v, pw, .int .i64 locks, .int .i64 regs, .int .i64 mode, thr.v, uv, ov, pv, .bool fell]) (h_code : code.At W) (h_thr : thr.At W) (ht : t < code.l.length) (ht2 : t < thr.l.length) (hpc : 0 ≤ (nth thr.l t).pc) :
    Rets Try.prog 67 [.pointer (some ⟨g, 0, none⟩), .int .i64 ((t : Nat) : Int)] W (fun v w' => v = .tuple #[(nextIns (nth code.l t).l (nth thr.l t).pc).val, .bool (decide ((nth thr.l t).pc < ((nth code.l t).l.length : Int)))] ∧ Sh0 W w' []) := by
 refine gen Try.func67 Try.ntmps67 (Sh0.ext (by intro A hA; simp at hA; rcases hA with rfl | rfl | rfl; exact hB; exact h_code; exact h_thr) (by intro A hA b hb; simp at hA; rcases hA with rfl | rfl | rfl <;> exact hb) : Sh (fun _ => False) W W [.rblk g 112 [code.v, pw, .int .i64 locks, .int .i64 regs, .int .i64 mode, thr.v, uv, ov, pv, .bool fell], .at_ code, .at_ thr]) rfl fun a10 h10 => gG h10<|sK fun _ k11 => gal ti_44 rfl fun b12 => gRn (oM 1 rfl<|.nl)<|nK k11<|sK fun _ k13 => gNl (aA 2 rfl) fun hl14 => gRn (oM 1 rfl<|onf fl_112_0 rfl<|ofB fl_25_0 rfl<|olR 1 ti_22 rfl rfl<|oM 1 rfl<|oxN sl_22 ti_45 (aA 2 rfl) _ om9 rfl<|olE ((nth code.l t).v) ti_45 (aA 2 rfl) om9 rfl<|oM 1 rfl<|.nl)<|nK k13<|sK fun _ k15 => gNl (aA 3 rfl) fun hl16 => gRn (oM 1 rfl<|onf fl_112_2 rfl<|olR 1 ti_110 rfl rfl<|oM 1 rfl<|oxN sl_110 ti_121 (aA 3 rfl) _ om9 rfl<|ofE fl_121_0 rfl<|olI ti_3 (aA 3 rfl) om9 rfl<|oM 1 rfl<|.nl)<|nK k15<|gK fun _ k17 => sK fun _ k18 => gNl (fun w h => ((h.at 2 rfl).nth t (show t < code.l.length from (by omega)))) fun (hl19 : ((nth code.l t).l).length ≤ 140737488355328) => gRn (oM 2 rfl<|oln (n := ((nth code.l t).l).length) sl_45 (fun w h => ((h.at 2 rfl).nth t (show t < code.l.length from (by omega)))) rfl<|ogeI _ _ rfl<|.nl)<|nK k18<|?_; clear h10
 refine gcd rfl (fun hb20 hp20 => ?_) fun hb20 hp20 => ?_
 ·skip
  refine sK fun _ k21 => gRn (oV (r_build (cs := [.int .i64 0, .int .i64 0, .int .i64 0, .int .i64 0]) rfl rfl (by kernel_rfl)) rfl<|.nl)<|gsw 0 ti_44 rfl rfl rfl<|gRn (oM 1 rfl<|.nl)<|nK k21<|gF [4, 5] rfl<|gR<|uT<|fun a23 w23 h23 => x_retct (fn := Try.f67) (t := 4) (u := 5) (i := 0) ti_44 rfl h23 rfl rfl rfl rfl <| ⟨?_, (h23.sh.sel [] rfl)⟩
  first | (rw [nextIns_t (by omega), decide_eq_true (by omega)]; rfl) | (rw [nextIns_f (by omega), decide_eq_false (by omega)]; rfl)
 refine gS<|hK k17<|gF [4, 6, 7] rfl<|sK fun _ k24 => gRn (oM 2 rfl<|oxI sl_45 ti_44 (fun w h => ((h.at 2 rfl).nth t (show t < code.l.length from (by omega)))) om9 rfl<|olw2 [.int .i64 ((nth ((nth code.l t).l) (((nth thr.l t).pc).toNat)).op), .int .i64 ((nth ((nth code.l t).l) (((nth thr.l t).pc).toNat)).a), .int .i64 ((nth ((nth code.l t).l) (((nth thr.l t).pc).toNat)).b), .int .i64 ((nth ((nth code.l t).l) (((nth thr.l t).pc).toNat)).c)] ti_44 (fun w h => ((h.at 2 rfl).nth t (show t < code.l.length from (by omega)))) om9 rfl<|.nl)<|gsw 0 ti_44 rfl rfl rfl<|gRn (oM 1 rfl<|.nl)<|nK k24<|gR<|fun a26 w26 h26 => x_retct (fn := Try.f67) (t := 4) (u := 5) (i := 0) ti_44 rfl h26 rfl rfl rfl rfl <| ⟨?_, (h26.sh.sel [] rfl)⟩
 first | (rw [nextIns_t (by omega), decide_eq_true (by omega)]; rfl) | (rw [nextIns_f (by omega), decide_eq_false (by omega)]; rfl)

theorem able_c (g t : Nat) (code : Ls (Ls Ins)) (thr : Ls ThL) (owner : Ls Int) (pw : Value) (locks : Int) (regs : Int) (mode : Int) (uv : Value) (pv : Value) (fell : Bool) (W : World) (hB : Blk W g 112 #[code.v, pw, .int .i64 locks, .int .i64 regs, .int .i64 mode, thr.v, uv, owner.v, pv, .bool fell]) (h_code : code.At W) (h_thr : thr.At W) (h_owner : owner.At W) (ht : t < code.l.length) (htl : thr.l.length = code.l.length) (hpc : ∀ t, t < code.l.length → 0 ≤ (nth thr.l t).pc) (hlk : ∀ i, i < (nth code.l t).l.length → (nth (nth code.l t).l i).op = 17 → 0 ≤ (nth (nth code.l t).l i).a ∧ (nth (nth code.l t).l i).a < owner.l.length) :
    Rets Try.prog 68 [.pointer (some ⟨g, 0, none⟩), .int .i64 ((t : Nat) : Int)] W (fun v w' => v = .bool (decide ((nth thr.l t).pc < ((nth code.l t).l.length : Int)) && ableL owner.l (nth thr.l t).wait.l.length (nextIns (nth code.l t).l (nth thr.l t).pc)) ∧ Sh0 W w' []) := by
 refine gen Try.func68 Try.ntmps68 (Sh0.ext (by intro A hA; simp at hA; rcases hA with rfl | rfl | rfl | rfl; exact hB; exact h_code; exact h_thr; exact h_owner) (by intro A hA b hb; simp at hA; rcases hA with rfl | rfl | rfl | rfl <;> exact hb) : Sh (fun _ => False) W W [.rblk g 112 [code.v, pw, .int .i64 locks, .int .i64 regs, .int .i64 mode, thr.v, uv, owner.v, pv, .bool fell], .at_ code, .at_ thr, .at_ owner]) rfl fun a10 h10 => gG h10<|sG (oM 1 rfl<|.nl)<|sK fun _ k12 => gRn (oM 2 rfl<|.nl)<|fun a14 w14 h14 => wl_ex (x_call h14 bd_67 rfl rfl rfl rfl rfl (next_c g t code ⟨thr.v, thr.l.map ThL.toV⟩ _ _ _ _ _ _ _ _ _ (h14.sh.rblk 0 rfl) (h14.sh.at 1 rfl) (ThL.atV (h14.sh.at 2 rfl)) (by first | omega | (simp only [lens9]; omega)) (by simp; omega) (by rw [nth_map' _ _ _ (by omega)]; exact hpc t (by omega)))) (wanted_none rfl _) ?_; clear h10
 rintro a15 w15 ⟨_, ⟨hv15, hs15⟩, hf15⟩
 rw [nth_map' _ _ _ (show t < thr.l.length from (by omega)), show (ThL.toV (nth thr.l t)).pc = (nth thr.l t).pc from rfl] at hv15
 subst hv15
 have h15 : St 53 (fun _ => False) W a15 w15 _ _ := ⟨hf15, h14.sh.call0 hs15⟩
 clear hf15 hs15
 clear h14
 refine gG h15<|gRn (oM 1 rfl<|oxt rfl<|oxt rfl<|.nl)<|gal ti_44 rfl fun b16 => gsw 0 ti_44 rfl rfl rfl<|gRn (oM 1 rfl<|.nl)<|nK k12<|gK fun _ k18 => sG (oM 1 rfl<|ont rfl<|.nl)<|?_; clear h15
 refine gCb rfl (fun hb20 => ?_) fun hb20 => ?_
 ·have hp20 : ¬ ((nth thr.l t).pc < ((nth code.l t).l.length : Int)) := by simpa using hb20
  refine sG (oM 1 rfl<|.nl)<|gR<|uT<|fun a22 w22 h22 => x_ret1 (fn := Try.f68) (t := 4) rfl h22 rfl <| ⟨?_, (h22.sh.sel [] rfl)⟩
  congr 1
  first | exact and_f' (by omega) | (refine and_t' (by omega) ?_; unfold ableL; first | (rw [if_pos (by omega)]; done) | (rw [if_neg (by omega), if_pos (by omega)]; done) | (rw [if_neg (by omega), if_neg (by omega), if_pos (by omega)]; first | exact and_f' (by omega) | exact and_t' (by omega) rfl) | (rw [if_neg (by omega), if_neg (by omega), if_neg (by omega)]))
 have hp20 : (nth thr.l t).pc < ((nth code.l t).l.length : Int) := by simpa using hb20
 refine gS<|hK k18<|?_
 have hpc0 := hpc t (by omega)
 have hnx := nextIns_t (c := (nth code.l t).l) (pc := (nth thr.l t).pc) (by omega)
 have hlk2 := hlk (nth thr.l t).pc.toNat (by omega)
 rw [← hnx] at hlk2
 refine sK fun _ k23 => gNl (aA 3 rfl) fun hl24 => gNl (fun w h => ((h.at 3 rfl).inner t (show t < thr.l.length from (by omega))).2) fun (hl25 : (((nth thr.l t).wait).l).length ≤ 140737488355328) => gRn (oM 1 rfl<|onf fl_112_2 rfl<|olR 1 ti_110 rfl rfl<|oM 1 rfl<|oxN sl_110 ti_121 (aA 3 rfl) _ om9 rfl<|ofE fl_121_2 rfl<|olE (((nth thr.l t).wait).v) ti_119 (aA 3 rfl) om9 rfl<|oln (n := (((nth thr.l t).wait).l).length) sl_119 (fun w h => ((h.at 3 rfl).inner t (show t < thr.l.length from (by omega))).2) rfl<|oM 1 rfl<|.nl)<|nK k23<|gK fun _ k26 => sG (ofB fl_44_0 rfl<|olB 0 ti_3 rfl rfl<|.nl)<|gB<|gK fun _ k28 => sG (oeqI _ _ rfl<|oM 1 rfl<|.nl)<|gcd rfl (fun hb30 hp30 => ?_) fun hb30 hp30 => ?_
 ·skip
  refine gS<|hK k28<|gcT rfl hb30<|sG (oM 1 rfl<|oltN _ 3 rfl<|oM 1 rfl<|.nl)<|gF [4] rfl<|gR<|uB<|uT<|fun a32 w32 h32 => x_ret1 (fn := Try.f68) (t := 4) rfl h32 rfl <| ⟨?_, (h32.sh.sel [] rfl)⟩
  congr 1
  first | exact and_f' (by omega) | (refine and_t' (by omega) ?_; unfold ableL; first | (rw [if_pos (by omega)]; done) | (rw [if_neg (by omega), if_pos (by omega)]; done) | (rw [if_neg (by omega), if_neg (by omega), if_pos (by omega)]; first | exact and_f' (by omega) | exact and_t' (by omega) rfl) | (rw [if_neg (by omega), if_neg (by omega), if_neg (by omega)]))
 refine sG (oeqI _ _ rfl<|oM 1 rfl<|.nl)<|gF [0, 5, 7, 26, 27] rfl<|gcd rfl (fun hb34 hp34 => ?_) fun hb34 hp34 => ?_
 ·skip
  refine gS<|hK k28<|gcT rfl hb34<|sG (oM 1 rfl<|oltN _ 3 rfl<|oM 1 rfl<|.nl)<|gR<|uB<|uT<|fun a36 w36 h36 => x_ret1 (fn := Try.f68) (t := 4) rfl h36 rfl <| ⟨?_, (h36.sh.sel [] rfl)⟩
  congr 1
  first | exact and_f' (by omega) | (refine and_t' (by omega) ?_; unfold ableL; first | (rw [if_pos (by omega)]; done) | (rw [if_neg (by omega), if_pos (by omega)]; done) | (rw [if_neg (by omega), if_neg (by omega), if_pos (by omega)]; first | exact and_f' (by omega) | exact and_t' (by omega) rfl) | (rw [if_neg (by omega), if_neg (by omega), if_neg (by omega)]))
 refine gL<|gRn (oeqI _ _ rfl<|oM 1 rfl<|.nl)<|nK k28<|gcd rfl (fun hb37 hp37 => ?_) fun hb37 hp37 => ?_
 ·skip
  refine sG (oM 1 rfl<|oltN _ 3 rfl<|oM 1 rfl<|.nl)<|gR<|uB<|uT<|fun a39 w39 h39 => x_ret1 (fn := Try.f68) (t := 4) rfl h39 rfl <| ⟨?_, (h39.sh.sel [] rfl)⟩
  congr 1
  first | exact and_f' (by omega) | (refine and_t' (by omega) ?_; unfold ableL; first | (rw [if_pos (by omega)]; done) | (rw [if_neg (by omega), if_pos (by omega)]; done) | (rw [if_neg (by omega), if_neg (by omega), if_pos (by omega)]; first | exact and_f' (by omega) | exact and_t' (by omega) rfl) | (rw [if_neg (by omega), if_neg (by omega), if_neg (by omega)]))
 refine gK fun _ k40 => sG (oeqI _ _ rfl<|oM 1 rfl<|.nl)<|gcd rfl (fun hb42 hp42 => ?_) fun hb42 hp42 => ?_
 ·skip
  refine gS<|hK k40<|gcT rfl hb42<|sG (oM 1 rfl<|oeqN _ 0 rfl<|oM 1 rfl<|.nl)<|gR<|uB<|uT<|fun a44 w44 h44 => x_ret1 (fn := Try.f68) (t := 4) rfl h44 rfl <| ⟨?_, (h44.sh.sel [] rfl)⟩
  congr 1
  first | exact and_f' (by omega) | (refine and_t' (by omega) ?_; unfold ableL; first | (rw [if_pos (by omega)]; done) | (rw [if_neg (by omega), if_pos (by omega)]; done) | (rw [if_neg (by omega), if_neg (by omega), if_pos (by omega)]; first | exact and_f' (by omega) | exact and_t' (by omega) rfl) | (rw [if_neg (by omega), if_neg (by omega), if_neg (by omega)]))
 refine gL<|gRn (oeqI _ _ rfl<|oM 1 rfl<|.nl)<|nK k40<|gcd rfl (fun hb45 hp45 => ?_) fun hb45 hp45 => ?_
 ·skip
  refine sG (oM 1 rfl<|oeqN _ 0 rfl<|oM 1 rfl<|.nl)<|gR<|uB<|uT<|fun a47 w47 h47 => x_ret1 (fn := Try.f68) (t := 4) rfl h47 rfl <| ⟨?_, (h47.sh.sel [] rfl)⟩
  congr 1
  first | exact and_f' (by omega) | (refine and_t' (by omega) ?_; unfold ableL; first | (rw [if_pos (by omega)]; done) | (rw [if_neg (by omega), if_pos (by omega)]; done) | (rw [if_neg (by omega), if_neg (by omega), if_pos (by omega)]; first | exact and_f' (by omega) | exact and_t' (by omega) rfl) | (rw [if_neg (by omega), if_neg (by omega), if_neg (by omega)]))
 refine sG (oeqI _ _ rfl<|oM 1 rfl<|.nl)<|gcd rfl (fun hb49 hp49 => ?_) fun hb49 hp49 => ?_
 ·skip
  refine gK fun _ k50 => fun a51 w51 h51 => x_quiet (by kernel_rfl) (by kernel_rfl) h51 fun _ z52 => qQ h51.fr<|qRn (oM 1 rfl<|oeqN _ 0 rfl<|oM 1 rfl<|.nl)<|?_
  rcases dsp ((((nth thr.l t).wait).l).length = 0) with ⟨hb53, hp53⟩ | ⟨hb53, hp53⟩
  ·skip
   refine qRn (oG hb53 (r_move rfl rfl) rfl<|oG hb53 (r_nil rfl rfl) rfl<|oG hb53 (r_fieldB (r := 7) fl_112_4 rfl rfl rfl) rfl<|oG hb53 (r_ldbR ti_23 rfl rfl (fun w h => h.rblk 1 rfl) rfl) rfl<|oG hb53 (r_fieldB (r := 1) fl_44_1 rfl rfl rfl) rfl<|oG hb53 (r_ldb (i := 0) ti_3 rfl rfl rfl rfl) rfl<|.nl)<|?_
   have hl61 : owner.l.length ≤ 140737488355328 := (h51.sh.at 4 rfl).len
   refine qRn (oG hb53 (r_ixI (s := owner) (q := (nextIns (nth code.l t).l (nth thr.l t).pc).a) sl_23 ti_3 rfl rfl rfl (fun w h => (h.at 4 rfl)) (show 0 ≤ (nextIns (nth code.l t).l (nth thr.l t).pc).a ∧ (nextIns (nth code.l t).l (nth thr.l t).pc).a < owner.l.length from om9)) rfl<|oG hb53 (r_lde (s := owner) (i := ((nextIns (nth code.l t).l (nth thr.l t).pc).a).toNat) (v := .int .i64 (nth owner.l (((nextIns (nth code.l t).l (nth thr.l t).pc).a).toNat))) ti_3 rfl rfl rfl (fun w h => (h.at 4 rfl)) (show ((nextIns (nth code.l t).l (nth thr.l t).pc).a).toNat < owner.l.length from om9) (Nat.le_of_ble_eq_true rfl) rfl) rfl<|oG hb53 (r_eqlI (p := nth owner.l (((nextIns (nth code.l t).l (nth thr.l t).pc).a).toNat)) (q := (-1)) rfl rfl rfl) rfl<|opT hb53 rfl<|oM 1 rfl<|.nl)<|qN z52<|?_; clear h51
   refine hK k50<|gF [4] rfl<|gR<|uB<|uT<|fun a64 w64 h64 => x_ret1 (fn := Try.f68) (t := 4) rfl h64 rfl <| ⟨?_, (h64.sh.sel [] rfl)⟩
   congr 1
   first | exact and_f' (by omega) | (refine and_t' (by omega) ?_; unfold ableL; first | (rw [if_pos (by omega)]; done) | (rw [if_neg (by omega), if_pos (by omega)]; done) | (rw [if_neg (by omega), if_neg (by omega), if_pos (by omega)]; first | exact and_f' (by omega) | exact and_t' (by omega) rfl) | (rw [if_neg (by omega), if_neg (by omega), if_neg (by omega)]))
  refine qRn (oKs 9 hb53 rfl rfl<|opF hb53 rfl<|oM 1 rfl<|.nl)<|qN z52<|?_; clear h51
  refine hK k50<|gF [4] rfl<|gR<|uB<|uT<|fun a66 w66 h66 => x_ret1 (fn := Try.f68) (t := 4) rfl h66 rfl <| ⟨?_, (h66.sh.sel [] rfl)⟩
  congr 1
  first | exact and_f' (by omega) | (refine and_t' (by omega) ?_; unfold ableL; first | (rw [if_pos (by omega)]; done) | (rw [if_neg (by omega), if_pos (by omega)]; done) | (rw [if_neg (by omega), if_neg (by omega), if_pos (by omega)]; first | exact and_f' (by omega) | exact and_t' (by omega) rfl) | (rw [if_neg (by omega), if_neg (by omega), if_neg (by omega)]))
 refine gS<|hK k26<|sG (oM 1 rfl<|.nl)<|gR<|fun a68 w68 h68 => x_ret1 (fn := Try.f68) (t := 4) rfl h68 rfl <| ⟨?_, (h68.sh.sel [] rfl)⟩
 congr 1
 first | exact and_f' (by omega) | (refine and_t' (by omega) ?_; unfold ableL; first | (rw [if_pos (by omega)]; done) | (rw [if_neg (by omega), if_pos (by omega)]; done) | (rw [if_neg (by omega), if_neg (by omega), if_pos (by omega)]; first | exact and_f' (by omega) | exact and_t' (by omega) rfl) | (rw [if_neg (by omega), if_neg (by omega), if_neg (by omega)]))

theorem moves_c (g : Nat) (code : Ls (Ls Ins)) (thr : Ls ThL) (owner : Ls Int) (pw : Value) (locks : Int) (regs : Int) (mode : Int) (uv : Value) (pv : Value) (fell : Bool) (W : World) (hB : Blk W g 112 #[code.v, pw, .int .i64 locks, .int .i64 regs, .int .i64 mode, thr.v, uv, owner.v, pv, .bool fell]) (h_code : code.At W) (h_thr : thr.At W) (h_owner : owner.At W) (hcl : code.l.length ≤ 4) (htl : thr.l.length = code.l.length) (hpc : ∀ t, t < code.l.length → 0 ≤ (nth thr.l t).pc) (hlk : ∀ t, t < code.l.length → ∀ i, i < (nth code.l t).l.length → (nth (nth code.l t).l i).op = 17 → 0 ≤ (nth (nth code.l t).l i).a ∧ (nth (nth code.l t).l i).a < owner.l.length) (hw : ∀ t, t < code.l.length → (nth thr.l t).wait.l.length ≤ 3) :
    Rets Try.prog 54 [.pointer (some ⟨g, 0, none⟩)] W (fun v w' => ∃ s : Ls Int, v = s.v ∧ s.l = movesL mode code thr owner.l code.l.length ∧ Sh0 W w' [.own 3 s]) := by
 refine gen Try.func54 Try.ntmps54 (Sh0.ext (by intro A hA; simp at hA; rcases hA with rfl | rfl | rfl | rfl; exact hB; exact h_code; exact h_thr; exact h_owner) (by intro A hA b hb; simp at hA; rcases hA with rfl | rfl | rfl | rfl <;> exact hb) : Sh (fun _ => False) W W [.rblk g 112 [code.v, pw, .int .i64 locks, .int .i64 regs, .int .i64 mode, thr.v, uv, owner.v, pv, .bool fell], .at_ code, .at_ thr, .at_ owner]) rfl fun a10 h10 => gG h10<|sG (oM 1 rfl<|.nl)<|sG (oM 1 rfl<|.nl)<|gK fun _ k13 => sG (oM 1 rfl<|.nl)<|gB<|fun a17 w17 h17 => ?_; clear h10
 have h16 := h17.nil (α := Int) 3
 clear h17
 refine x_loop (fun m a w => ∃ (t : Nat) (ml : List Int) (vm : Value), (t ≤ thr.l.length) ∧ (ml = movesL mode code thr owner.l t) ∧ (ml.length ≤ 4 * t) ∧ St 60 (fun _ => False) W a w [(0, .pointer (some ⟨g, 0, none⟩)), (3, vm), (4, .int .i64 ((t : Nat) : Int))] [.rblk g 112 [code.v, pw, .int .i64 locks, .int .i64 regs, .int .i64 mode, thr.v, uv, owner.v, pv, .bool fell], .at_ code, .at_ thr, .at_ owner, .own 3 (⟨vm, ml⟩ : Ls Int)] ∧ m = thr.l.length - t) ⟨_, 0, [], (.slice none 0 0), (by omega), (rfl), (by simp), h16.nrm ⟨rfl, rfl, rfl, trivial⟩ [1, 2, 3, 4, 0] rfl, rfl⟩ ?_
 clear h16
 rintro m15 a15 w15 ⟨t, ml, vm, ht, hml, hmn, h15, hm15⟩
 refine gG h15<|gK fun _ k18 => sK fun _ k19 => gNl (aA 2 rfl) fun hl20 => gRn (oM 2 rfl<|onf fl_112_2 rfl<|olR 0 ti_110 rfl rfl<|oln sl_110 (aA 2 rfl) rfl<|oltN _ _ rfl<|.nl)<|nK k19<|?_; clear h15
 refine gcd rfl (fun hb21 hp21 => ?_) fun hb21 hp21 => ?_
 ·skip
  refine gS<|hK k18<|gK fun _ k22 => gB<|sK fun _ k23 => gRn (oM 2 rfl<|.nl)<|gC (fun _ _ h_ => xCl h_ bd_68 rfl (able_c g t code thr owner _ _ _ _ _ _ _ _ (h_.sh.rblk 0 rfl) (h_.sh.at 1 rfl) (h_.sh.at 2 rfl) (h_.sh.at 3 rfl) (by omega) htl hpc (hlk t (by omega)))) rfl<|?_
  rintro _ _ w24 ⟨rfl, hs24⟩
  refine gWk hs24 rfl<|gU<|gRn (oM 1 rfl<|.nl)<|nK k23<|gK fun _ k25 => sG (oM 1 rfl<|.nl)<|?_; clear hs24
  refine gCb rfl (fun hb27 => ?_) fun hb27 => ?_
  ·skip
   refine gL<|gRn (oM 2 rfl<|omlN 8 _ om9 rfl<|.nl)<|gE1 (fun _ _ h_ => x_lit (n := 1) (cs := [.int .i64 ((8 * t : Nat) : Int)]) ([((8 * t : Nat) : Int)] : List Int) h_ sl_23 ti_3 rfl rfl rfl (by decide) rfl (by kernel_rfl) rfl (fun q hq w h => Flat.inner _ _) (fun q hq b hb => (Flat.on _ _ hb).elim) rfl rfl) rfl fun v28 => gE1 (fun _ _ h_ => x_app (r := 5) (rm := 0) (s := (⟨vm, ml⟩ : Ls Int)) (m := (⟨v28, [((8 * t : Nat) : Int)]⟩ : Ls Int)) h_ sl_23 ti_3 rfl rfl rfl rfl rfl rfl rfl (fun w h => (h.own 0 rfl)) (fun b hb => own_on (h_.sh.ok _ (List.mem_of_getElem? (i := 0) rfl)) hb) (fun q hq b hb => ⟨q, hq, hb⟩) rfl rfl rfl inferInstance (show (ml.length + ([((8 * t : Nat) : Int)]).length) * 8 ≤ 140737488355328 ∧ ml.length + ([((8 * t : Nat) : Int)]).length ≤ 140737488355328 from om9) rfl rfl) rfl fun v29 => gRn (oM 1 rfl<|.nl)<|nK k25<|sG (oM 1 rfl<|.nl)<|gB<|?_
   have hwt := hw t (by omega)
   intro a32 w32 h32
   refine x_loop (fun m a w => ∃ (k : Nat) (ml2 : List Int) (vm2 : Value), (k ≤ (nth thr.l t).wait.l.length) ∧ (ml2 = ml ++ ((if ableT code thr owner.l t = true then [((8 * t : Nat) : Int)] else []) ++ mayT mode thr t k)) ∧ (ml2.length ≤ 4 * t + 1 + k) ∧ St 60 (fun _ => False) W a w [(0, .pointer (some ⟨g, 0, none⟩)), (3, vm2), (4, .int .i64 ((t : Nat) : Int)), (6, .int .i64 ((k : Nat) : Int))] [.own 3 (⟨v28, [((8 * t : Nat) : Int)]⟩ : Ls Int), .rblk g 112 [code.v, pw, .int .i64 locks, .int .i64 regs, .int .i64 mode, thr.v, uv, owner.v, pv, .bool fell], .at_ code, .at_ thr, .at_ owner, .own 3 (⟨vm2, ml2⟩ : Ls Int)] ∧ m = (nth thr.l t).wait.l.length - k) ⟨_, 0, ml ++ ([((8 * t : Nat) : Int)]), v29, (by omega), (by first | (rw [if_pos (by assumption)]; simp [mayT]) | (rw [if_neg (by rw [show ableT code thr owner.l t = false by assumption]; decide)]; simp [mayT])), (by simp; omega), h32.nf ⟨rfl, rfl, rfl, rfl, trivial⟩, rfl⟩ ?_
   clear h32
   rintro m31 a31 w31 ⟨k, ml2, vm2, hk, hml2, hmn2, h31, hm31⟩
   refine gG h31<|gK fun _ k33 => sK fun _ k34 => gNl (fun w h => ((h.at 3 rfl).inner t (show t < thr.l.length from (by omega))).2) fun (hl35 : (((nth thr.l t).wait).l).length ≤ 140737488355328) => gRn (oM 2 rfl<|onf fl_112_2 rfl<|olR 1 ti_110 rfl rfl<|oM 1 rfl<|oxN sl_110 ti_121 (aA 3 rfl) _ om9 rfl<|ofE fl_121_2 rfl<|olE (((nth thr.l t).wait).v) ti_119 (aA 3 rfl) om9 rfl<|oln (n := (((nth thr.l t).wait).l).length) sl_119 (fun w h => ((h.at 3 rfl).inner t (show t < thr.l.length from (by omega))).2) rfl<|oltN _ _ rfl<|.nl)<|nK k34<|?_; clear h31
   refine gcd rfl (fun hb36 hp36 => ?_) fun hb36 hp36 => ?_
   ·skip
    refine gS<|hK k33<|gK fun _ k37 => gB<|sK fun _ k38 => gRn (oM 2 rfl<|onf fl_112_2 rfl<|olR 1 ti_110 rfl rfl<|oM 1 rfl<|oxN sl_110 ti_121 (aA 3 rfl) _ om9 rfl<|ofE fl_121_2 rfl<|olE (((nth thr.l t).wait).v) ti_119 (aA 3 rfl) om9 rfl<|oM 1 rfl<|.nl)<|gC (fun _ _ h_ => xCl h_ bd_69 rfl (may_c g ((nth thr.l t).wait) k _ _ _ _ _ _ _ _ _ _ _ (h_.sh.rblk 1 rfl) ((h_.sh.at 3 rfl).inner t (show t < thr.l.length from (by omega))).2 (by omega))) rfl<|?_
    rintro _ _ w39 ⟨rfl, hs39⟩
    refine gWk hs39 rfl<|gU<|gRn (oM 1 rfl<|.nl)<|nK k38<|sG (oM 1 rfl<|.nl)<|gF [0, 3, 4, 6, 50] rfl<|?_; clear hs39
    refine gCb rfl (fun hb41 => ?_) fun hb41 => ?_
    ·skip
     refine gL<|gRn (oM 2 rfl<|omlN 8 _ om9 rfl<|oM 1 rfl<|oadN _ _ om9 rfl<|oadN _ 1 om9 rfl<|.nl)<|gE1 (fun _ _ h_ => x_lit (n := 1) (cs := [.int .i64 ((((8 * t) + k) + 1 : Nat) : Int)]) ([((((8 * t) + k) + 1 : Nat) : Int)] : List Int) h_ sl_23 ti_3 rfl rfl rfl (by decide) rfl (by kernel_rfl) rfl (fun q hq w h => Flat.inner _ _) (fun q hq b hb => (Flat.on _ _ hb).elim) rfl rfl) rfl fun v42 => gE1 (fun _ _ h_ => x_app (r := 6) (rm := 0) (s := (⟨vm2, ml2⟩ : Ls Int)) (m := (⟨v42, [((((8 * t) + k) + 1 : Nat) : Int)]⟩ : Ls Int)) h_ sl_23 ti_3 rfl rfl rfl rfl rfl rfl rfl (fun w h => (h.own 0 rfl)) (fun b hb => own_on (h_.sh.ok _ (List.mem_of_getElem? (i := 0) rfl)) hb) (fun q hq b hb => ⟨q, hq, hb⟩) rfl rfl rfl inferInstance (show (ml2.length + ([((((8 * t) + k) + 1 : Nat) : Int)]).length) * 8 ≤ 140737488355328 ∧ ml2.length + ([((((8 * t) + k) + 1 : Nat) : Int)]).length ≤ 140737488355328 from om9) rfl rfl) rfl fun v43 => gRn (oM 1 rfl<|.nl)<|nK k37<|gL<|gRn (oM 1 rfl<|oadN _ 1 om9 rfl<|oM 1 rfl<|.nl)<|nN<|fun a44 w44 h44 => x_again ⟨_, ?_, k + 1, ml2 ++ ([((((8 * t) + k) + 1 : Nat) : Int)]), v43, ?_, ?_, ?_, h44.nrm ⟨rfl, rfl, rfl, rfl, trivial⟩ [1, 2, 3, 4, 5, 6] rfl, rfl⟩
     · rw [hm31]; first | omega | (simp only [lens9]; omega)
     · omega
     · first | (rw [mayT_t (by assumption), hml2]; simp only [List.append_assoc]) | (rw [mayT_f (by assumption), hml2])
     · first | omega | (simp; omega)
    refine gS<|hK k37<|gL<|gRn (oM 1 rfl<|oadN _ 1 om9 rfl<|oM 1 rfl<|.nl)<|nN<|fun a45 w45 h45 => x_again ⟨_, ?_, k + 1, ml2, vm2, ?_, ?_, ?_, h45.nf ⟨rfl, rfl, rfl, rfl, trivial⟩, rfl⟩
    · rw [hm31]; first | omega | (simp only [lens9]; omega)
    · omega
    · first | (rw [mayT_t (by assumption), hml2]; simp only [List.append_assoc]) | (rw [mayT_f (by assumption), hml2])
    · first | omega | (simp; omega)
   refine gX<|hK k22<|gL<|gRn (oM 1 rfl<|oadN _ 1 om9 rfl<|oM 1 rfl<|.nl)<|nN<|fun a46 w46 h46 => x_again ⟨_, ?_, t + 1, ml2, vm2, ?_, ?_, ?_, h46.nrm ⟨rfl, rfl, rfl, trivial⟩ [1, 2, 3, 4, 5] rfl, rfl⟩
   · rw [hm15]; first | omega | (simp only [lens9]; omega)
   · omega
   · rw [movesL_succ, ← hml, hml2, moveT, show k = (nth thr.l t).wait.l.length by omega]
   · omega
  refine gS<|hK k25<|sG (oM 1 rfl<|.nl)<|gB<|?_
  have hwt := hw t (by omega)
  intro a49 w49 h49
  refine x_loop (fun m a w => ∃ (k : Nat) (ml2 : List Int) (vm2 : Value), (k ≤ (nth thr.l t).wait.l.length) ∧ (ml2 = ml ++ ((if ableT code thr owner.l t = true then [((8 * t : Nat) : Int)] else []) ++ mayT mode thr t k)) ∧ (ml2.length ≤ 4 * t + 1 + k) ∧ St 60 (fun _ => False) W a w [(0, .pointer (some ⟨g, 0, none⟩)), (3, vm2), (4, .int .i64 ((t : Nat) : Int)), (6, .int .i64 ((k : Nat) : Int))] [.rblk g 112 [code.v, pw, .int .i64 locks, .int .i64 regs, .int .i64 mode, thr.v, uv, owner.v, pv, .bool fell], .at_ code, .at_ thr, .at_ owner, .own 3 (⟨vm2, ml2⟩ : Ls Int)] ∧ m = (nth thr.l t).wait.l.length - k) ⟨_, 0, ml, vm, (by omega), (by first | (rw [if_pos (by assumption)]; simp [mayT]) | (rw [if_neg (by rw [show ableT code thr owner.l t = false by assumption]; decide)]; simp [mayT])), (by simp; omega), h49.nf ⟨rfl, rfl, rfl, rfl, trivial⟩, rfl⟩ ?_
  clear h49
  rintro m48 a48 w48 ⟨k, ml2, vm2, hk, hml2, hmn2, h48, hm48⟩
  refine gG h48<|gK fun _ k50 => sK fun _ k51 => gNl (fun w h => ((h.at 2 rfl).inner t (show t < thr.l.length from (by omega))).2) fun (hl52 : (((nth thr.l t).wait).l).length ≤ 140737488355328) => gRn (oM 2 rfl<|onf fl_112_2 rfl<|olR 0 ti_110 rfl rfl<|oM 1 rfl<|oxN sl_110 ti_121 (aA 2 rfl) _ om9 rfl<|ofE fl_121_2 rfl<|olE (((nth thr.l t).wait).v) ti_119 (aA 2 rfl) om9 rfl<|oln (n := (((nth thr.l t).wait).l).length) sl_119 (fun w h => ((h.at 2 rfl).inner t (show t < thr.l.length from (by omega))).2) rfl<|oltN _ _ rfl<|.nl)<|nK k51<|?_; clear h48
  refine gcd rfl (fun hb53 hp53 => ?_) fun hb53 hp53 => ?_
  ·skip
   refine gS<|hK k50<|gK fun _ k54 => gB<|sK fun _ k55 => gRn (oM 2 rfl<|onf fl_112_2 rfl<|olR 0 ti_110 rfl rfl<|oM 1 rfl<|oxN sl_110 ti_121 (aA 2 rfl) _ om9 rfl<|ofE fl_121_2 rfl<|olE (((nth thr.l t).wait).v) ti_119 (aA 2 rfl) om9 rfl<|oM 1 rfl<|.nl)<|gC (fun _ _ h_ => xCl h_ bd_69 rfl (may_c g ((nth thr.l t).wait) k _ _ _ _ _ _ _ _ _ _ _ (h_.sh.rblk 0 rfl) ((h_.sh.at 2 rfl).inner t (show t < thr.l.length from (by omega))).2 (by omega))) rfl<|?_
   rintro _ _ w56 ⟨rfl, hs56⟩
   refine gWk hs56 rfl<|gU<|gRn (oM 1 rfl<|.nl)<|nK k55<|sG (oM 1 rfl<|.nl)<|gF [0, 3, 4, 6, 50] rfl<|?_; clear hs56
   refine gCb rfl (fun hb58 => ?_) fun hb58 => ?_
   ·skip
    refine gL<|gRn (oM 2 rfl<|omlN 8 _ om9 rfl<|oM 1 rfl<|oadN _ _ om9 rfl<|oadN _ 1 om9 rfl<|.nl)<|gE1 (fun _ _ h_ => x_lit (n := 1) (cs := [.int .i64 ((((8 * t) + k) + 1 : Nat) : Int)]) ([((((8 * t) + k) + 1 : Nat) : Int)] : List Int) h_ sl_23 ti_3 rfl rfl rfl (by decide) rfl (by kernel_rfl) rfl (fun q hq w h => Flat.inner _ _) (fun q hq b hb => (Flat.on _ _ hb).elim) rfl rfl) rfl fun v59 => gE1 (fun _ _ h_ => x_app (r := 5) (rm := 0) (s := (⟨vm2, ml2⟩ : Ls Int)) (m := (⟨v59, [((((8 * t) + k) + 1 : Nat) : Int)]⟩ : Ls Int)) h_ sl_23 ti_3 rfl rfl rfl rfl rfl rfl rfl (fun w h => (h.own 0 rfl)) (fun b hb => own_on (h_.sh.ok _ (List.mem_of_getElem? (i := 0) rfl)) hb) (fun q hq b hb => ⟨q, hq, hb⟩) rfl rfl rfl inferInstance (show (ml2.length + ([((((8 * t) + k) + 1 : Nat) : Int)]).length) * 8 ≤ 140737488355328 ∧ ml2.length + ([((((8 * t) + k) + 1 : Nat) : Int)]).length ≤ 140737488355328 from om9) rfl rfl) rfl fun v60 => gRn (oM 1 rfl<|.nl)<|nK k54<|gL<|gRn (oM 1 rfl<|oadN _ 1 om9 rfl<|oM 1 rfl<|.nl)<|nN<|fun a61 w61 h61 => x_again ⟨_, ?_, k + 1, ml2 ++ ([((((8 * t) + k) + 1 : Nat) : Int)]), v60, ?_, ?_, ?_, h61.nrm ⟨rfl, rfl, rfl, rfl, trivial⟩ [1, 2, 3, 4, 5] rfl, rfl⟩
    · rw [hm48]; first | omega | (simp only [lens9]; omega)
    · omega
    · first | (rw [mayT_t (by assumption), hml2]; simp only [List.append_assoc]) | (rw [mayT_f (by assumption), hml2])
    · first | omega | (simp; omega)
   refine gS<|hK k54<|gL<|gRn (oM 1 rfl<|oadN _ 1 om9 rfl<|oM 1 rfl<|.nl)<|nN<|fun a62 w62 h62 => x_again ⟨_, ?_, k + 1, ml2, vm2, ?_, ?_, ?_, h62.nf ⟨rfl, rfl, rfl, rfl, trivial⟩, rfl⟩
   · rw [hm48]; first | omega | (simp only [lens9]; omega)
   · omega
   · first | (rw [mayT_t (by assumption), hml2]; simp only [List.append_assoc]) | (rw [mayT_f (by assumption), hml2])
   · first | omega | (simp; omega)
  refine gX<|hK k22<|gL<|gRn (oM 1 rfl<|oadN _ 1 om9 rfl<|oM 1 rfl<|.nl)<|nN<|fun a63 w63 h63 => x_again ⟨_, ?_, t + 1, ml2, vm2, ?_, ?_, ?_, h63.nf ⟨rfl, rfl, rfl, trivial⟩, rfl⟩
  · rw [hm15]; first | omega | (simp only [lens9]; omega)
  · omega
  · rw [movesL_succ, ← hml, hml2, moveT, show k = (nth thr.l t).wait.l.length by omega]
  · omega
 refine gX<|hK k13<|sG (oM 2 rfl<|.nl)<|gR<|fun a65 w65 h65 => x_ret1 (fn := Try.f54) (t := 2) rfl h65 rfl <| ⟨⟨vm, ml⟩, rfl, ?_, (h65.sh.sel [4] rfl)⟩
 rw [← show t = code.l.length by omega]; exact hml

theorem ended_c (g : Nat) (code : Ls (Ls Ins)) (thr : Ls ThL) (pw : Value) (locks : Int) (regs : Int) (mode : Int) (uv : Value) (ov : Value) (pv : Value) (fell : Bool) (W : World) (hB : Blk W g 112 #[code.v, pw, .int .i64 locks, .int .i64 regs, .int .i64 mode, thr.v, uv, ov, pv, .bool fell]) (h_code : code.At W) (h_thr : thr.At W) (hcl : code.l.length ≤ 4) (htl : thr.l.length = code.l.length) (hpc : ∀ t, t < code.l.length → 0 ≤ (nth thr.l t).pc) :
    Rets Try.prog 53 [.pointer (some ⟨g, 0, none⟩)] W (fun v w' => v = .bool (endedL code thr) ∧ Sh0 W w' []) := by
 refine gen Try.func53 Try.ntmps53 (Sh0.ext (by intro A hA; simp at hA; rcases hA with rfl | rfl | rfl; exact hB; exact h_code; exact h_thr) (by intro A hA b hb; simp at hA; rcases hA with rfl | rfl | rfl <;> exact hb) : Sh (fun _ => False) W W [.rblk g 112 [code.v, pw, .int .i64 locks, .int .i64 regs, .int .i64 mode, thr.v, uv, ov, pv, .bool fell], .at_ code, .at_ thr]) rfl fun a10 h10 => gG h10<|sG (oM 1 rfl<|.nl)<|gK fun _ k12 => sG (oM 1 rfl<|.nl)<|gB<|fun a15 w15 h15 => x_loop (fun m a w => ∃ (t : Nat), (t ≤ thr.l.length) ∧ (∀ j, j < t → endT code thr j = true) ∧ St 34 (fun _ => False) W a w [(0, .pointer (some ⟨g, 0, none⟩)), (3, .int .i64 ((t : Nat) : Int))] [.rblk g 112 [code.v, pw, .int .i64 locks, .int .i64 regs, .int .i64 mode, thr.v, uv, ov, pv, .bool fell], .at_ code, .at_ thr] ∧ m = thr.l.length - t) ⟨_, 0, (by omega), (fun j hj => absurd hj (by omega)), h15.nf ⟨rfl, rfl, trivial⟩, rfl⟩ ?_; clear h10
 clear h15
 rintro m14 a14 w14 ⟨t, ht, hall, h14, hm14⟩
 refine gG h14<|gK fun _ k16 => sK fun _ k17 => gNl (aA 2 rfl) fun hl18 => gRn (oM 2 rfl<|onf fl_112_2 rfl<|olR 0 ti_110 rfl rfl<|oln sl_110 (aA 2 rfl) rfl<|oltN _ _ rfl<|.nl)<|nK k17<|?_; clear h14
 refine gcd rfl (fun hb19 hp19 => ?_) fun hb19 hp19 => ?_
 ·skip
  refine gS<|hK k16<|gK fun _ k20 => gB<|sK fun _ k21 => gRn (oM 2 rfl<|.nl)<|fun a23 w23 h23 => wl_ex (x_call h23 bd_67 rfl rfl rfl rfl rfl (next_c g t code ⟨thr.v, thr.l.map ThL.toV⟩ _ _ _ _ _ _ _ _ _ (h23.sh.rblk 0 rfl) (h23.sh.at 1 rfl) (ThL.atV (h23.sh.at 2 rfl)) (by first | omega | (simp only [lens9]; omega)) (by simp; omega) (by rw [nth_map' _ _ _ (by omega)]; exact hpc t (by omega)))) (wanted_none rfl _) ?_
  rintro a24 w24 ⟨_, ⟨hv24, hs24⟩, hf24⟩
  rw [nth_map' _ _ _ (show t < thr.l.length from (by omega)), show (ThL.toV (nth thr.l t)).pc = (nth thr.l t).pc from rfl] at hv24
  subst hv24
  have h24 : St 34 (fun _ => False) W a24 w24 _ _ := ⟨hf24, h23.sh.call0 hs24⟩
  clear hf24 hs24
  clear h23
  refine gG h24<|gRn (oM 1 rfl<|oxt rfl<|oxt rfl<|.nl)<|gal ti_44 rfl fun b25 => gsw 0 ti_44 rfl rfl rfl<|gRn (oM 1 rfl<|.nl)<|nK k21<|sK fun _ k27 => gRn (oM 2 rfl<|.nl)<|?_; clear h24
  rcases dsp ((nth thr.l t).pc < ((nth code.l t).l.length : Int)) with ⟨hb28, hp28⟩ | ⟨hb28, hp28⟩
  ·skip
   refine gRn (oKs 10 hb28 rfl rfl<|opT hb28 rfl<|.nl)<|nK k27<|gF [0, 3, 33] rfl<|gcT rfl rfl<|sG (oM 1 rfl<|.nl)<|gR<|uB<|uT<|uT<|uB<|uT<|fun a30 w30 h30 => x_ret1 (fn := Try.f53) (t := 2) rfl h30 rfl <| ⟨?_, (h30.sh.sel [] rfl)⟩
   congr 1
   first | exact (endedL_t (fun j hj => hall j (by omega))).symm | exact (endedL_f (t := t) (by omega) (by omega)).symm
  refine gNl (fun w h => ((h.at 3 rfl).inner t (show t < thr.l.length from (by omega))).2) fun (hl31 : (((nth thr.l t).wait).l).length ≤ 140737488355328) => gRn (oG hb28 (r_move rfl rfl) rfl<|oG hb28 (r_nil rfl rfl) rfl<|oG hb28 (r_fieldB (r := 5) fl_112_2 rfl rfl rfl) rfl<|oG hb28 (r_ldbR ti_110 rfl rfl (fun w h => h.rblk 1 rfl) rfl) rfl<|oG hb28 (r_move rfl rfl) rfl<|oG hb28 (r_ixN (s := thr) (q := t) sl_110 ti_121 rfl rfl rfl (fun w h => (h.at 3 rfl)) (show t < thr.l.length from om9)) rfl<|oG hb28 (r_fieldE (r := 2) fl_121_2 rfl rfl rfl) rfl<|oG hb28 (r_lde (s := thr) (i := t) (v := ((nth thr.l t).wait).v) ti_119 rfl rfl rfl (fun w h => (h.at 3 rfl)) (show t < thr.l.length from om9) (Nat.le_of_ble_eq_true rfl) rfl) rfl<|oG hb28 (r_len (s := (nth thr.l t).wait) (n := (((nth thr.l t).wait).l).length) sl_119 rfl rfl (fun w h => ((h.at 3 rfl).inner t (show t < thr.l.length from om9)).2) rfl) rfl<|oG hb28 (r_gtrN (p := (((nth thr.l t).wait).l).length) (q := 0) rfl rfl rfl) rfl<|opF hb28 rfl<|.nl)<|nK k27<|gF [0, 3, 33] rfl<|gcd rfl (fun hb32 hp32 => ?_) fun hb32 hp32 => ?_
  ·skip
   refine sG (oM 1 rfl<|.nl)<|gR<|uB<|uT<|uT<|uB<|uT<|fun a34 w34 h34 => x_ret1 (fn := Try.f53) (t := 2) rfl h34 rfl <| ⟨?_, (h34.sh.sel [] rfl)⟩
   congr 1
   first | exact (endedL_t (fun j hj => hall j (by omega))).symm | exact (endedL_f (t := t) (by omega) (by omega)).symm
  refine gS<|hK k20<|gL<|gRn (oM 1 rfl<|oadN _ 1 om9 rfl<|oM 1 rfl<|.nl)<|nN<|fun a35 w35 h35 => x_again ⟨_, ?_, t + 1, ?_, ?_, h35.nrm ⟨rfl, rfl, trivial⟩ [1, 2, 3] rfl, rfl⟩
  · rw [hm14]; first | omega | (simp only [lens9]; omega)
  · omega
  · intro j hj; rcases Nat.lt_or_ge j t with h | h; (exact hall j h); obtain rfl : j = t := (by omega); exact endT_t (by omega) (by omega)
 refine gX<|hK k12<|sG (oM 1 rfl<|.nl)<|gR<|fun a37 w37 h37 => x_ret1 (fn := Try.f53) (t := 2) rfl h37 rfl <| ⟨?_, (h37.sh.sel [] rfl)⟩
 congr 1
 first | exact (endedL_t (fun j hj => hall j (by omega))).symm | exact (endedL_f (t := t) (by omega) (by omega)).symm

end Go.Proofs.Ytmgikmjmdppfmaa
