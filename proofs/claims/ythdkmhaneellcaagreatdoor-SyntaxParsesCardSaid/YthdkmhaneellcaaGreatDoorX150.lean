/-
  The parser: a token looked at, taken; a node put.
-/
import Derived.Test.YthdkmhaneellcaaGreatDoorS63
import Derived.Test.YthdkmhaneellcaaGreatDoorS64
import Derived.Test.YthdkmhaneellcaaGreatDoorX146
namespace Go.Proofs.YthdkmhaneellcaaGreatDoor
open Go.RowKit
set_option linter.unusedSimpArgs false
set_option linter.unusedVariables false
set_option maxRecDepth 100000
set_option maxHeartbeats 1000000


/-- What is thrown for a fault: its code, its place. -/
def wrongS (c a : Int) : Value := .iface 46 (.agg #[.int .i64 c, .int .i64 0, .int .i64 a])
section
variable {X : TE} {i d : Nat} {x : ByteArray} {l : List Nd} {tx : List ByteArray}
theorem atT_t (h : i < X.T.length) : atT X i = (nth X.T i).a := by unfold atT; rw [if_pos h]
theorem atT_f (h : ¬ i < X.T.length) : atT X i = X.e := by unfold atT; rw [if_neg h]
theorem kindT_f {k : Int} (h : ¬ (i < X.T.length ∧ (nth X.T i).k = k)) : kindT X i k = false := by
  unfold kindT
  cases hb : (decide (i < X.T.length) && decide ((nth X.T i).k = k))
  · rfl
  · rw [Bool.and_eq_true, decide_eq_true_eq, decide_eq_true_eq] at hb; exact absurd hb h
theorem kindT_e {k : Int} (h : i < X.T.length) : kindT X i k = decide ((nth X.T i).k = k) := by unfold kindT; rw [decide_eq_true h, Bool.true_and]
theorem isL_t (h : i < X.T.length) (h2 : (nth X.T i).k = 2 ∨ (nth X.T i).k = 4) : isL X i tx = inS tx (nth X.T i).t := by
  unfold isL
  rw [decide_eq_true h, Bool.true_and, show (decide ((nth X.T i).k = 2) || decide ((nth X.T i).k = 4)) = true by rcases h2 with h2 | h2 <;> simp [h2], Bool.true_and]
theorem isL_f (h : ¬ (i < X.T.length ∧ ((nth X.T i).k = 2 ∨ (nth X.T i).k = 4))) : isL X i tx = false := by
  unfold isL
  cases hb : (decide (i < X.T.length) && (decide ((nth X.T i).k = 2) || decide ((nth X.T i).k = 4)))
  · rw [← Bool.and_assoc, hb, Bool.false_and]
  · rw [Bool.and_eq_true, Bool.or_eq_true, decide_eq_true_eq, decide_eq_true_eq, decide_eq_true_eq] at hb; exact absurd hb h
theorem take_ok (h : isT X i x = true) : takeP X x ⟨i, d, l⟩ = .ok ((nth X.T i).a, ⟨i + 1, d, l⟩) := by unfold takeP; rw [if_pos h]
theorem take_no (h : isT X i x = false) : takeP X x ⟨i, d, l⟩ = .error (5, atT X i) := by unfold takeP; rw [if_neg (by rw [h]; decide)]; rfl
theorem name_ok (h : kindT X i 1 = true) : nameP X ⟨i, d, l⟩ = .ok (nth X.T i, ⟨i + 1, d, l⟩) := by unfold nameP; rw [if_pos h]
theorem name_no (h : kindT X i 1 = false) : nameP X ⟨i, d, l⟩ = .error (5, atT X i) := by unfold nameP; rw [if_neg (by rw [h]; decide)]; rfl
theorem open_deep (h : isT X i x = true) (hd : d = 20) : openP X x ⟨i, d, l⟩ = .error (6, atT X i) := by unfold openP; rw [if_pos ⟨h, hd⟩]; rfl
theorem open_ok {a : Int} (hd : ¬ (isT X i x = true ∧ d = 20)) (h : takeP X x ⟨i, d, l⟩ = .ok (a, ⟨i + 1, d, l⟩)) : openP X x ⟨i, d, l⟩ = .ok (a, ⟨i + 1, d + 1, l⟩) := by unfold openP; rw [if_neg hd, h]
theorem open_no {c a : Int} (hd : ¬ (isT X i x = true ∧ d = 20)) (h : takeP X x ⟨i, d, l⟩ = .error (c, a)) : openP X x ⟨i, d, l⟩ = .error (c, a) := by unfold openP; rw [if_neg hd, h]
theorem shut_ok {a : Int} (h : takeP X x ⟨i, d, l⟩ = .ok (a, ⟨i + 1, d, l⟩)) : shutP X x ⟨i, d, l⟩ = .ok (a, ⟨i + 1, d - 1, l⟩) := by unfold shutP; rw [h]
theorem shut_no {c a : Int} (h : takeP X x ⟨i, d, l⟩ = .error (c, a)) : shutP X x ⟨i, d, l⟩ = .error (c, a) := by unfold shutP; rw [h]
theorem put_eq {i d : Nat} {nl : List NdL} {x : NdL} : putP x.nd ⟨i, d, nl.map NdL.nd⟩ = .ok ((nl.length : Int), ⟨i, d, (nl ++ [x]).map NdL.nd⟩) := by unfold putP; simp only [List.map_append, List.map_cons, List.map_nil, List.length_map]
theorem open_d20 {a : Int} {s' : PS} (h : openP X x ⟨i, d, l⟩ = .ok (a, s')) (hd : d ≤ 20 := by omega) : d < 20 := by
  unfold openP at h
  split at h
  · cases h
  · rename_i h2
    cases hr : takeP X x ⟨i, d, l⟩ with
    | error e => rw [hr] at h; cases h
    | ok y =>
      unfold takeP at hr
      split at hr
      · rename_i h3; have : ¬ d = 20 := fun e => h2 ⟨h3, e⟩; omega
      · cases hr
end

theorem pAt_c (g : Nat) (X : TE) (tv dv v4 : Value) (i : Nat)  (W : World) (hB : Blk W g 49 #[tv, .int .i64 X.e, .int .i64 (i : Int), dv, v4]) (hT : (⟨tv, X.T⟩ : Ls Tok).At W) :
    Rets Tryz.prog 104 [.pointer (some ⟨g, 0, none⟩)] W (fun v w' => v = .int .i64 (atT X i) ∧ Sh0 W w' []) := by
 refine gen Tryz.func104 Tryz.ntmps104 (Sh0.ext (by intro A hA; simp only [List.mem_cons, List.not_mem_nil, or_false] at hA; rcases hA with rfl | rfl; exact hB; exact hT) (by intro A hA b hb; simp only [List.mem_cons, List.not_mem_nil, or_false] at hA; rcases hA with rfl | rfl <;> exact hb) : Sh (fun _ => False) W W [.rblk g 49 [tv, .int .i64 X.e, .int .i64 ((i : Nat) : Int), dv, v4], .at_ (⟨tv, X.T⟩ : Ls Tok)]) rfl fun a10 h10 => gG h10<|sG (oM 1 rfl<|.nl)<|gK fun _ k12 => gK fun _ k13 => gNl (aA 1 rfl) fun (hl14 : X.T.length ≤ 140737488355328) => rQ (oM 1 rfl<|onf fl_49_2 rfl<|olR 0 ti_3 rfl rfl<|oM 1 rfl<|onf fl_49_0 rfl<|olR 0 ti_42 rfl rfl<|oln (n := X.T.length) sl_42 (aA 1 rfl) rfl<|oltN _ _ rfl<|.nl)<|hK k13<|?_; clear h10
 refine gcd rfl (fun hb15 hp15 => ?_) fun hb15 hp15 => ?_
 ·skip
  refine gK fun _ k16 => rQ (oM 1 rfl<|onf fl_49_0 rfl<|olR 0 ti_42 rfl rfl<|oM 1 rfl<|onf fl_49_2 rfl<|olR 0 ti_3 rfl rfl<|oxN sl_42 ti_81 (aA 1 rfl) _ om9 rfl<|ofE fl_81_2 rfl<|olE (.int .i64 ((nth X.T i).a)) ti_3 (aA 1 rfl) om9 rfl<|oM 1 rfl<|.nl)<|hK k16<|gR<|uT<|fun a17 w17 h17 => x_ret1 (fn := Tryz.f104) (t := 2) rfl h17 rfl ?_
  exact ⟨congrArg (Value.int .i64) (atT_t (by assumption)).symm, (h17.sh.sel [] rfl)⟩
 refine gS<|hK k12<|sG (oM 1 rfl<|onf fl_49_1 rfl<|olR 0 ti_3 rfl rfl<|oM 1 rfl<|.nl)<|gR<|fun a19 w19 h19 => x_ret1 (fn := Tryz.f104) (t := 2) rfl h19 rfl ?_
 exact ⟨congrArg (Value.int .i64) (atT_f (by assumption)).symm, (h19.sh.sel [] rfl)⟩

theorem pKind_c (g : Nat) (X : TE) (tv dv v4 : Value) (i : Nat)  (W : World) (hB : Blk W g 49 #[tv, .int .i64 X.e, .int .i64 (i : Int), dv, v4]) (hT : (⟨tv, X.T⟩ : Ls Tok).At W) (k : Int) :
    Rets Tryz.prog 72 [.pointer (some ⟨g, 0, none⟩), .int .i64 k] W (fun v w' => v = .bool (kindT X i k) ∧ Sh0 W w' []) := by
 refine gen Tryz.func72 Tryz.ntmps72 (Sh0.ext (by intro A hA; simp only [List.mem_cons, List.not_mem_nil, or_false] at hA; rcases hA with rfl | rfl; exact hB; exact hT) (by intro A hA b hb; simp only [List.mem_cons, List.not_mem_nil, or_false] at hA; rcases hA with rfl | rfl <;> exact hb) : Sh (fun _ => False) W W [.rblk g 49 [tv, .int .i64 X.e, .int .i64 ((i : Nat) : Int), dv, v4], .at_ (⟨tv, X.T⟩ : Ls Tok)]) rfl fun a10 h10 => gG h10<|sG (oM 1 rfl<|.nl)<|gK fun _ k12 => fun a14 w14 h14 => x_quiet (by kernel_rfl) (by kernel_rfl) h14 fun _ z15 => qQ h14.fr<|qRn (oM 1 rfl<|onf fl_49_2 rfl<|olR 0 ti_3 rfl rfl<|oM 1 rfl<|onf fl_49_0 rfl<|olR 0 ti_42 rfl rfl<|.nl)<|?_; clear h10
 have hl16 : X.T.length ≤ 140737488355328 := (h14.sh.at 1 rfl).len
 refine qRn (oln (n := X.T.length) sl_42 (aA 1 rfl) rfl<|oltN _ _ rfl<|oM 1 rfl<|.nl)<|?_
 rcases dsp (i < X.T.length) with ⟨hb17, hp17⟩ | ⟨hb17, hp17⟩
 ·skip
  refine qRn (oG hb17 (r_move rfl rfl) rfl<|oG hb17 (r_nil rfl rfl) rfl<|oG hb17 (r_fieldB (r := 0) fl_49_0 rfl rfl rfl) rfl<|oG hb17 (r_ldbR ti_42 rfl rfl (fun w h => h.rblk 0 rfl) rfl) rfl<|oG hb17 (r_move rfl rfl) rfl<|oG hb17 (r_nil rfl rfl) rfl<|oG hb17 (r_fieldB (r := 2) fl_49_2 rfl rfl rfl) rfl<|oG hb17 (r_ldbR ti_3 rfl rfl (fun w h => h.rblk 0 rfl) rfl) rfl<|oG hb17 (r_ixN (s := (⟨tv, X.T⟩ : Ls Tok)) (q := i) sl_42 ti_81 rfl rfl rfl (fun w h => (h.at 1 rfl)) (show i < X.T.length from om9)) rfl<|oG hb17 (r_fieldE (r := 0) fl_81_0 rfl rfl rfl) rfl<|oG hb17 (r_lde (s := (⟨tv, X.T⟩ : Ls Tok)) (i := i) (v := .int .i64 ((nth X.T i).k)) ti_3 rfl rfl rfl (fun w h => (h.at 1 rfl)) (show i < X.T.length from om9) (Nat.le_of_ble_eq_true rfl) rfl) rfl<|oG hb17 (r_move rfl rfl) rfl<|oG hb17 (r_eqlI (p := (nth X.T i).k) (q := k) rfl rfl rfl) rfl<|opT hb17 rfl<|oM 1 rfl<|.nl)<|qN z15<|?_; clear h14
  refine hK k12<|gF [4] rfl<|gR<|fun a31 w31 h31 => x_ret1 (fn := Tryz.f72) (t := 4) rfl h31 rfl <| ⟨congrArg Value.bool ?_, (h31.sh.sel [] rfl)⟩
  exact (kindT_e (by assumption)).symm
 refine qRn (oKs 13 hb17 rfl rfl<|opF hb17 rfl<|oM 1 rfl<|.nl)<|qN z15<|?_; clear h14
 refine hK k12<|gF [4] rfl<|gR<|fun a33 w33 h33 => x_ret1 (fn := Tryz.f72) (t := 4) rfl h33 rfl <| ⟨congrArg Value.bool ?_, (h33.sh.sel [] rfl)⟩
 exact (kindT_f (fun h9 => absurd h9.1 (by assumption))).symm

theorem pIs_c (g : Nat) (X : TE) (tv dv v4 : Value) (i : Nat)  (W : World) (hB : Blk W g 49 #[tv, .int .i64 X.e, .int .i64 (i : Int), dv, v4]) (hT : (⟨tv, X.T⟩ : Ls Tok).At W) (tx : Ls ByteArray) (hX : tx.At W) (hlen : tx.l.length ≤ 1000) :
    Rets Tryz.prog 34 [.pointer (some ⟨g, 0, none⟩), tx.v] W (fun v w' => v = .bool (isL X i tx.l) ∧ Sh0 W w' []) := by
 refine gen Tryz.func34 Tryz.ntmps34 (Sh0.ext (by intro A hA; simp only [List.mem_cons, List.not_mem_nil, or_false] at hA; rcases hA with rfl | rfl | rfl; exact hB; exact hT; exact hX) (by intro A hA b hb; simp only [List.mem_cons, List.not_mem_nil, or_false] at hA; rcases hA with rfl | rfl | rfl <;> exact hb) : Sh (fun _ => False) W W [.rblk g 49 [tv, .int .i64 X.e, .int .i64 ((i : Nat) : Int), dv, v4], .at_ (⟨tv, X.T⟩ : Ls Tok), .at_ tx]) rfl fun a10 h10 => gG h10<|sG (oM 1 rfl<|.nl)<|gK fun _ k12 => fun a14 w14 h14 => x_quiet (by kernel_rfl) (by kernel_rfl) h14 fun _ z15 => qQ h14.fr<|qRn (oM 1 rfl<|onf fl_49_2 rfl<|olR 0 ti_3 rfl rfl<|oM 1 rfl<|onf fl_49_0 rfl<|olR 0 ti_42 rfl rfl<|.nl)<|?_; clear h10
 have hl16 : X.T.length ≤ 140737488355328 := (h14.sh.at 1 rfl).len
 refine qRn (oln (n := X.T.length) sl_42 (aA 1 rfl) rfl<|oltN _ _ rfl<|oM 1 rfl<|.nl)<|?_
 rcases dsp (i < X.T.length) with ⟨hb17, hp17⟩ | ⟨hb17, hp17⟩
 ·skip
  refine qRn (oG hb17 (r_move rfl rfl) rfl<|oG hb17 (r_nil rfl rfl) rfl<|oG hb17 (r_fieldB (r := 0) fl_49_0 rfl rfl rfl) rfl<|oG hb17 (r_ldbR ti_42 rfl rfl (fun w h => h.rblk 0 rfl) rfl) rfl<|oG hb17 (r_move rfl rfl) rfl<|oG hb17 (r_nil rfl rfl) rfl<|oG hb17 (r_fieldB (r := 2) fl_49_2 rfl rfl rfl) rfl<|oG hb17 (r_ldbR ti_3 rfl rfl (fun w h => h.rblk 0 rfl) rfl) rfl<|oG hb17 (r_ixN (s := (⟨tv, X.T⟩ : Ls Tok)) (q := i) sl_42 ti_81 rfl rfl rfl (fun w h => (h.at 1 rfl)) (show i < X.T.length from om9)) rfl<|oG hb17 (r_fieldE (r := 0) fl_81_0 rfl rfl rfl) rfl<|oG hb17 (r_lde (s := (⟨tv, X.T⟩ : Ls Tok)) (i := i) (v := .int .i64 ((nth X.T i).k)) ti_3 rfl rfl rfl (fun w h => (h.at 1 rfl)) (show i < X.T.length from om9) (Nat.le_of_ble_eq_true rfl) rfl) rfl<|oG hb17 (r_eqlI (p := (nth X.T i).k) (q := 2) rfl rfl rfl) rfl<|oG hb17 (r_move rfl rfl) rfl<|.nl)<|?_
  rcases dsp ((nth X.T i).k = 2) with ⟨hb31, hp31⟩ | ⟨hb31, hp31⟩
  ·skip
   refine qRn (oKs 12 hb31 rfl rfl<|oG hb17 (r_pickT rfl rfl hb31 rfl) rfl<|opT hb17 rfl<|oM 1 rfl<|oG rfl (r_move rfl rfl) rfl<|oG rfl (r_move rfl rfl) rfl<|oG rfl (r_nil rfl rfl) rfl<|oG rfl (r_fieldB (r := 0) fl_49_0 rfl rfl rfl) rfl<|oG rfl (r_ldbR ti_42 rfl rfl (fun w h => h.rblk 0 rfl) rfl) rfl<|oG rfl (r_move rfl rfl) rfl<|oG rfl (r_nil rfl rfl) rfl<|oG rfl (r_fieldB (r := 2) fl_49_2 rfl rfl rfl) rfl<|oG rfl (r_ldbR ti_3 rfl rfl (fun w h => h.rblk 0 rfl) rfl) rfl<|oG rfl (r_ixN (s := (⟨tv, X.T⟩ : Ls Tok)) (q := i) sl_42 ti_81 rfl rfl rfl (fun w h => (h.at 1 rfl)) (show i < X.T.length from om9)) rfl<|oG rfl (r_fieldE (r := 3) fl_81_3 rfl rfl rfl) rfl<|oG rfl (r_lde (s := (⟨tv, X.T⟩ : Ls Tok)) (i := i) (v := .string ((nth X.T i).t)) ti_9 rfl rfl rfl (fun w h => (h.at 1 rfl)) (show i < X.T.length from om9) (Nat.le_of_ble_eq_true rfl) rfl) rfl<|.nl)<|qPg rfl bd_63 rfl (fun w h => (sContains_c tx ((nth X.T i).t) _ (h.at 2 rfl) hlen))<|qRn (opT rfl rfl<|oM 1 rfl<|.nl)<|qN z15<|?_; clear h14
   refine hK k12<|gF [4] rfl<|gR<|fun a47 w47 h47 => x_ret1 (fn := Tryz.f34) (t := 4) rfl h47 rfl <| ⟨congrArg Value.bool ?_, (h47.sh.sel [] rfl)⟩
   exact (isL_t (by assumption) (by omega)).symm
  refine qRn (oG hb31 (r_move rfl rfl) rfl<|oG hb31 (r_nil rfl rfl) rfl<|oG hb31 (r_fieldB (r := 0) fl_49_0 rfl rfl rfl) rfl<|oG hb31 (r_ldbR ti_42 rfl rfl (fun w h => h.rblk 0 rfl) rfl) rfl<|oG hb31 (r_move rfl rfl) rfl<|oG hb31 (r_nil rfl rfl) rfl<|oG hb31 (r_fieldB (r := 2) fl_49_2 rfl rfl rfl) rfl<|oG hb31 (r_ldbR ti_3 rfl rfl (fun w h => h.rblk 0 rfl) rfl) rfl<|oG hb31 (r_ixN (s := (⟨tv, X.T⟩ : Ls Tok)) (q := i) sl_42 ti_81 rfl rfl rfl (fun w h => (h.at 1 rfl)) (show i < X.T.length from om9)) rfl<|oG hb31 (r_fieldE (r := 0) fl_81_0 rfl rfl rfl) rfl<|oG hb31 (r_lde (s := (⟨tv, X.T⟩ : Ls Tok)) (i := i) (v := .int .i64 ((nth X.T i).k)) ti_3 rfl rfl rfl (fun w h => (h.at 1 rfl)) (show i < X.T.length from om9) (Nat.le_of_ble_eq_true rfl) rfl) rfl<|oG hb31 (r_eqlI (p := (nth X.T i).k) (q := 4) rfl rfl rfl) rfl<|oG hb17 (r_pickF rfl rfl hb31 rfl) rfl<|opT hb17 rfl<|oM 1 rfl<|.nl)<|?_
  rcases dsp ((nth X.T i).k = 4) with ⟨hb61, hp61⟩ | ⟨hb61, hp61⟩
  ·skip
   refine qRn (oG hb61 (r_move rfl rfl) rfl<|oG hb61 (r_move rfl rfl) rfl<|oG hb61 (r_nil rfl rfl) rfl<|oG hb61 (r_fieldB (r := 0) fl_49_0 rfl rfl rfl) rfl<|oG hb61 (r_ldbR ti_42 rfl rfl (fun w h => h.rblk 0 rfl) rfl) rfl<|oG hb61 (r_move rfl rfl) rfl<|oG hb61 (r_nil rfl rfl) rfl<|oG hb61 (r_fieldB (r := 2) fl_49_2 rfl rfl rfl) rfl<|oG hb61 (r_ldbR ti_3 rfl rfl (fun w h => h.rblk 0 rfl) rfl) rfl<|oG hb61 (r_ixN (s := (⟨tv, X.T⟩ : Ls Tok)) (q := i) sl_42 ti_81 rfl rfl rfl (fun w h => (h.at 1 rfl)) (show i < X.T.length from om9)) rfl<|oG hb61 (r_fieldE (r := 3) fl_81_3 rfl rfl rfl) rfl<|oG hb61 (r_lde (s := (⟨tv, X.T⟩ : Ls Tok)) (i := i) (v := .string ((nth X.T i).t)) ti_9 rfl rfl rfl (fun w h => (h.at 1 rfl)) (show i < X.T.length from om9) (Nat.le_of_ble_eq_true rfl) rfl) rfl<|.nl)<|qPg hb61 bd_63 rfl (fun w h => (sContains_c tx ((nth X.T i).t) _ (h.at 2 rfl) hlen))<|qRn (opT hb61 rfl<|oM 1 rfl<|.nl)<|qN z15<|?_; clear h14
   refine hK k12<|gF [4] rfl<|gR<|fun a75 w75 h75 => x_ret1 (fn := Tryz.f34) (t := 4) rfl h75 rfl <| ⟨congrArg Value.bool ?_, (h75.sh.sel [] rfl)⟩
   exact (isL_t (by assumption) (by omega)).symm
  refine qRn (oKs 13 hb61 rfl rfl<|opF hb61 rfl<|oM 1 rfl<|.nl)<|qN z15<|?_; clear h14
  refine hK k12<|gF [4] rfl<|gR<|fun a77 w77 h77 => x_ret1 (fn := Tryz.f34) (t := 4) rfl h77 rfl <| ⟨congrArg Value.bool ?_, (h77.sh.sel [] rfl)⟩
  exact (isL_f (by omega)).symm
 refine qRn (oKs 13 hb17 rfl rfl<|oK2 rfl<|oK2 rfl<|oK2 rfl<|oK2 rfl<|oK2 rfl<|oK2 rfl<|oK2 rfl<|oK2 rfl<|oK2 rfl<|oK2 rfl<|oK2 rfl<|oK2 rfl<|oK hb17 rfl<|opF hb17 rfl<|oM 1 rfl<|oKs 13 rfl rfl rfl<|opF rfl rfl<|oM 1 rfl<|.nl)<|qN z15<|?_; clear h14
 refine hK k12<|gF [4] rfl<|gR<|fun a93 w93 h93 => x_ret1 (fn := Tryz.f34) (t := 4) rfl h93 rfl <| ⟨congrArg Value.bool ?_, (h93.sh.sel [] rfl)⟩
 exact (isL_f (by omega)).symm

theorem pFail_c (g : Nat) (X : TE) (tv dv v4 : Value) (i : Nat)  (W : World) (hB : Blk W g 49 #[tv, .int .i64 X.e, .int .i64 (i : Int), dv, v4]) (hT : (⟨tv, X.T⟩ : Ls Tok).At W) (c : Int) :
    RetsP Tryz.prog 73 [.pointer (some ⟨g, 0, none⟩), .int .i64 c] W (fun v w' => False) (fun x w' => x = wrongS c (atT X i) ∧ Sh0 W w' []) := by
 refine genP Tryz.func73 Tryz.ntmps73 (Sh0.ext (by intro A hA; simp only [List.mem_cons, List.not_mem_nil, or_false] at hA; rcases hA with rfl | rfl; exact hB; exact hT) (by intro A hA b hb; simp only [List.mem_cons, List.not_mem_nil, or_false] at hA; rcases hA with rfl | rfl <;> exact hb) : Sh (fun _ => False) W W [.rblk g 49 [tv, .int .i64 X.e, .int .i64 ((i : Nat) : Int), dv, v4], .at_ (⟨tv, X.T⟩ : Ls Tok)]) rfl fun a10 h10 => gG h10<|gL<|gRn (oM 2 rfl<|.nl)<|gP (fun _ _ h_ => xCl h_ bd_104 rfl (pAt_c g _ _ _ _ i _ (h_.sh.rblk 0 rfl) (h_.sh.at 1 rfl))) rfl<|gRn (oV (r_build (cs := [.int .i64 c, .int .i64 0, .int .i64 (atT X i)]) rfl rfl (by kernel_rfl)) rfl<|oV (r_build (cs := [.int .i64 c, .int .i64 0, .int .i64 (atT X i)]) rfl rfl (by kernel_rfl)) rfl<|oV (r_mkIfV rfl rfl (by kernel_rfl)) rfl<|.nl)<|fun a12 w12 h12 => ?_; clear h10
 exact wl_panicI (T := 46) h12 rfl rfl (wanted_none rfl _) (pnP h12 ⟨rfl, (h12.sh.sel [] rfl)⟩)

theorem pNext_c (K : Nat → Prop) (g : Nat) (X : TE) (tv nv : Value) (i d : Nat) (nl : List NdL)  (W : World) (hS : Sh K W W [.blk g 49 [tv, .int .i64 X.e, .int .i64 ((i : Nat) : Int), .int .i64 ((d : Nat) : Int), nv], .deep 57 (⟨nv, nl⟩ : Ls NdL), .own 81 (⟨tv, X.T⟩ : Ls Tok)]) (hTl : X.T.length ≤ 4000) (hi : i < X.T.length) :
    Rets Tryz.prog 70 [.pointer (some ⟨g, 0, none⟩)] W (fun v w' => v = (nth X.T i).val ∧ Sh K W w' [.blk g 49 [tv, .int .i64 X.e, .int .i64 ((i + 1 : Nat) : Int), .int .i64 ((d : Nat) : Int), nv], .deep 57 (⟨nv, nl⟩ : Ls NdL), .own 81 (⟨tv, X.T⟩ : Ls Tok)]) := by
 refine gen Tryz.func70 Tryz.ntmps70 hS rfl fun a10 h10 => gG h10<|sK fun _ k11 => gal ti_81 rfl fun b12 => nK k11<|sK fun _ k13 => gRn (oM 1 rfl<|onfl 1 fl_49_2 ti_3 rfl rfl<|oadN _ 1 om9 rfl<|onf fl_49_2 rfl<|.nl)<|gst 1 ti_3 rfl rfl rfl<|nK k13<|gK fun _ k15 => gNl (aO 3 rfl) fun (hl16 : X.T.length ≤ 140737488355328) => rT 11 [] (oM 1 rfl<|onfl 1 fl_49_0 ti_42 rfl rfl<|oM 1 rfl<|onfl 1 fl_49_2 ti_3 rfl rfl<|osbN _ 1 om9 rfl<|oxN sl_42 ti_81 (aO 3 rfl) _ om9 rfl<|olw2 [.int .i64 ((nth X.T ((i + 1) - 1)).k), .int .i64 ((nth X.T ((i + 1) - 1)).n), .int .i64 ((nth X.T ((i + 1) - 1)).a), .string ((nth X.T ((i + 1) - 1)).t)] ti_81 (aO 3 rfl) om9 rfl<|.nl)<|gsw 0 ti_81 rfl rfl rfl<|nK k15<|gR<|fun a18 w18 h18 => x_ret1c (fn := Tryz.f70) (t := 2) (i := 0) ti_81 rfl h18 rfl rfl rfl ?_; clear h10
 exact ⟨rfl, (h18.sh.sel [1, 2, 3] rfl)⟩

theorem pTake_c (K : Nat → Prop) (g : Nat) (X : TE) (tv nv : Value) (i d : Nat) (nl : List NdL)  (W : World) (hS : Sh K W W [.blk g 49 [tv, .int .i64 X.e, .int .i64 ((i : Nat) : Int), .int .i64 ((d : Nat) : Int), nv], .deep 57 (⟨nv, nl⟩ : Ls NdL), .own 81 (⟨tv, X.T⟩ : Ls Tok)]) (hTl : X.T.length ≤ 4000) (xs : ByteArray) :
    RetsP Tryz.prog 36 [.pointer (some ⟨g, 0, none⟩), .string xs] W (fun v w' => ∃ a : Int, takeP X xs ⟨i, d, nl.map NdL.nd⟩ = .ok (a, ⟨i + 1, d, nl.map NdL.nd⟩) ∧ i < X.T.length ∧ v = .int .i64 a ∧ Sh K W w' [.blk g 49 [tv, .int .i64 X.e, .int .i64 ((i + 1 : Nat) : Int), .int .i64 ((d : Nat) : Int), nv], .deep 57 (⟨nv, nl⟩ : Ls NdL), .own 81 (⟨tv, X.T⟩ : Ls Tok)]) (fun x w' => ∃ c a : Int, takeP X xs ⟨i, d, nl.map NdL.nd⟩ = .error (c, a) ∧ x = wrongS c a ∧ Sh K W w' []) := by
 refine genP Tryz.func36 Tryz.ntmps36 hS rfl fun a10 h10 => gG h10<|sG (oM 1 rfl<|.nl)<|gK fun _ k12 => sK fun _ k13 => gRn (oM 2 rfl<|.nl)<|gE1 (fun _ _ h_ => x_lit (n := 1) (cs := [.string xs]) ([xs] : List ByteArray) h_ sl_103 ti_9 rfl rfl rfl (by decide) rfl (by kernel_rfl) rfl (fun q hq w h => Flat.inner _ _) (fun q hq b hb => (Flat.on _ _ hb).elim) rfl rfl) rfl fun v14 => gP (fun _ _ h_ => xCl h_ bd_34 rfl (pIs_c g _ _ _ _ i _ (h_.sh.blk 1 rfl) (h_.sh.own 3 rfl) (⟨v14, [xs]⟩ : Ls ByteArray) (h_.sh.own 0 rfl) (by first | exact Nat.le_of_ble_eq_true rfl | omega))) rfl<|gRn (ont rfl<|.nl)<|nK k13<|?_; clear h10
 refine gCb rfl (fun hb16 => ?_) fun hb16 => ?_
 ·have hn16 : isL X i ([xs]) = false := (Bool.not_eq_true' _).mp hb16
  refine gL<|gRn (oM 1 rfl<|.nl)<|fun a17 w17 h17 => ?_
  exact wl_callP h17 bd_73 rfl rfl rfl rfl rfl (wanted_none rfl _) (pFail_c g _ _ _ _ i _ (h17.sh.blk 1 rfl) (h17.sh.own 3 rfl) 5) (fun x9 w9 hx9 => pnF (P := Tryz.prog) (fn := Tryz.f36) h17.fr ⟨5, _, take_no (by assumption), hx9.1, ((h17.sh.call0 hx9.2).sel [] rfl)⟩) (fun _ _ ⟨_, hno, _⟩ => hno.elim)
 have hn16 : isL X i ([xs]) = true := (Bool.not_eq_false' _).mp hb16
 refine gS<|hK k12<|sK fun _ k19 => gRn (oM 1 rfl<|.nl)<|?_
 have hl20 : i < X.T.length := (by first | assumption | exact isl_lt (by assumption) | exact kd_lt (by assumption))
 refine gO [1, 2, 3, 0] rfl<|fun a23 w23 h23 => ?_
 have hp22 := h23.sh.passL (Lp := [_, _, _])
 refine wl_ex (x_call h23 bd_70 rfl rfl rfl rfl rfl (pNext_c _ _ X tv nv i d nl _ hp22 hTl (by first | assumption | exact isl_lt (by assumption) | exact kd_lt (by assumption)))) (wanted_none rfl _) ?_
 rintro a24 w24 ⟨_, ⟨rfl, hs24⟩, hf24⟩
 have h24 : St _ K W a24 w24 _ [_, _, _, _] := ⟨hf24, h23.sh.backI (Lp := [_, _, _]) hs24⟩
 clear hf24 hs24
 clear h23
 refine gG h24<|gRn (oV (r_fieldG (u := .int .i64 ((nth X.T i).a)) rfl rfl (fun w => by kernel_rfl)) rfl<|oM 1 rfl<|.nl)<|nK k19<|gR<|fun a25 w25 h25 => rP <| x_ret1 (fn := Tryz.f36) (t := 4) rfl h25 rfl ?_; clear h24
 exact ⟨_, take_ok (by assumption), isl_lt (by assumption), rfl, (h25.sh.sel [0, 1, 2] rfl)⟩

theorem pName_c (K : Nat → Prop) (g : Nat) (X : TE) (tv nv : Value) (i d : Nat) (nl : List NdL)  (W : World) (hS : Sh K W W [.blk g 49 [tv, .int .i64 X.e, .int .i64 ((i : Nat) : Int), .int .i64 ((d : Nat) : Int), nv], .deep 57 (⟨nv, nl⟩ : Ls NdL), .own 81 (⟨tv, X.T⟩ : Ls Tok)]) (hTl : X.T.length ≤ 4000) :
    RetsP Tryz.prog 71 [.pointer (some ⟨g, 0, none⟩)] W (fun v w' => ∃ a : Tok, nameP X ⟨i, d, nl.map NdL.nd⟩ = .ok (a, ⟨i + 1, d, nl.map NdL.nd⟩) ∧ i < X.T.length ∧ v = a.val ∧ Sh K W w' [.blk g 49 [tv, .int .i64 X.e, .int .i64 ((i + 1 : Nat) : Int), .int .i64 ((d : Nat) : Int), nv], .deep 57 (⟨nv, nl⟩ : Ls NdL), .own 81 (⟨tv, X.T⟩ : Ls Tok)]) (fun x w' => ∃ c a : Int, nameP X ⟨i, d, nl.map NdL.nd⟩ = .error (c, a) ∧ x = wrongS c a ∧ Sh K W w' []) := by
 refine genP Tryz.func71 Tryz.ntmps71 hS rfl fun a10 h10 => gG h10<|sK fun _ k11 => gal ti_81 rfl fun b12 => nK k11<|gK fun _ k13 => sK fun _ k14 => gRn (oM 1 rfl<|.nl)<|gP (fun _ _ h_ => xCl h_ bd_72 rfl (pKind_c g _ _ _ _ i _ (h_.sh.blk 1 rfl) (h_.sh.own 3 rfl) 1)) rfl<|gRn (ont rfl<|.nl)<|nK k14<|?_; clear h10
 refine gCb rfl (fun hb16 => ?_) fun hb16 => ?_
 ·have hn16 : kindT X i 1 = false := (Bool.not_eq_true' _).mp hb16
  refine gL<|gRn (oM 1 rfl<|.nl)<|fun a17 w17 h17 => ?_
  exact wl_callP h17 bd_73 rfl rfl rfl rfl rfl (wanted_none rfl _) (pFail_c g _ _ _ _ i _ (h17.sh.blk 1 rfl) (h17.sh.own 3 rfl) 5) (fun x9 w9 hx9 => pnF (P := Tryz.prog) (fn := Tryz.f71) h17.fr ⟨5, _, name_no (by assumption), hx9.1, ((h17.sh.call0 hx9.2).sel [] rfl)⟩) (fun _ _ ⟨_, hno, _⟩ => hno.elim)
 have hn16 : kindT X i 1 = true := (Bool.not_eq_false' _).mp hb16
 refine gS<|hK k13<|sK fun _ k19 => gRn (oM 1 rfl<|.nl)<|?_
 have hl20 : i < X.T.length := (by first | assumption | exact isl_lt (by assumption) | exact kd_lt (by assumption))
 refine gO [1, 2, 3, 0] rfl<|fun a23 w23 h23 => ?_
 have hp22 := h23.sh.passL (Lp := [_, _, _])
 refine wl_ex (x_call h23 bd_70 rfl rfl rfl rfl rfl (pNext_c _ _ X tv nv i d nl _ hp22 hTl (by first | assumption | exact isl_lt (by assumption) | exact kd_lt (by assumption)))) (wanted_none rfl _) ?_
 rintro a24 w24 ⟨_, ⟨rfl, hs24⟩, hf24⟩
 have h24 : St _ K W a24 w24 _ [_, _, _, _] := ⟨hf24, h23.sh.backI (Lp := [_, _, _]) hs24⟩
 clear hf24 hs24
 clear h23
 refine gG h24<|gsw 3 ti_81 rfl rfl rfl<|nK k19<|gR<|fun a26 w26 h26 => rP <| x_ret1c (fn := Tryz.f71) (t := 2) (i := 3) ti_81 rfl h26 rfl rfl rfl ?_; clear h24
 exact ⟨_, name_ok (by assumption), kd_lt (by assumption), rfl, (h26.sh.sel [0, 1, 2] rfl)⟩

theorem pOpen_c (K : Nat → Prop) (g : Nat) (X : TE) (tv nv : Value) (i d : Nat) (nl : List NdL)  (W : World) (hS : Sh K W W [.blk g 49 [tv, .int .i64 X.e, .int .i64 ((i : Nat) : Int), .int .i64 ((d : Nat) : Int), nv], .deep 57 (⟨nv, nl⟩ : Ls NdL), .own 81 (⟨tv, X.T⟩ : Ls Tok)]) (hTl : X.T.length ≤ 4000) (hd : d ≤ 20) (xs : ByteArray) :
    RetsP Tryz.prog 74 [.pointer (some ⟨g, 0, none⟩), .string xs] W (fun v w' => ∃ a : Int, openP X xs ⟨i, d, nl.map NdL.nd⟩ = .ok (a, ⟨i + 1, d + 1, nl.map NdL.nd⟩) ∧ i < X.T.length ∧ v = .int .i64 a ∧ Sh K W w' [.blk g 49 [tv, .int .i64 X.e, .int .i64 ((i + 1 : Nat) : Int), .int .i64 ((d + 1 : Nat) : Int), nv], .deep 57 (⟨nv, nl⟩ : Ls NdL), .own 81 (⟨tv, X.T⟩ : Ls Tok)]) (fun x w' => ∃ c a : Int, openP X xs ⟨i, d, nl.map NdL.nd⟩ = .error (c, a) ∧ x = wrongS c a ∧ Sh K W w' []) := by
 refine genP Tryz.func74 Tryz.ntmps74 hS rfl fun a10 h10 => gG h10<|sG (oM 1 rfl<|.nl)<|gK fun _ k12 => sK fun _ k13 => gRn (oM 2 rfl<|.nl)<|gE1 (fun _ _ h_ => x_lit (n := 1) (cs := [.string xs]) ([xs] : List ByteArray) h_ sl_103 ti_9 rfl rfl rfl (by decide) rfl (by kernel_rfl) rfl (fun q hq w h => Flat.inner _ _) (fun q hq b hb => (Flat.on _ _ hb).elim) rfl rfl) rfl fun v14 => gP (fun _ _ h_ => xCl h_ bd_34 rfl (pIs_c g _ _ _ _ i _ (h_.sh.blk 1 rfl) (h_.sh.own 3 rfl) (⟨v14, [xs]⟩ : Ls ByteArray) (h_.sh.own 0 rfl) (by first | exact Nat.le_of_ble_eq_true rfl | omega))) rfl<|gRn (oM 1 rfl<|.nl)<|?_; clear h10
 rcases Bool.eq_false_or_eq_true (isL X i ([xs])) with hb16 | hb16
 ·skip
  refine gRn (oG hb16 (r_move rfl rfl) rfl<|oG hb16 (r_nil rfl rfl) rfl<|oG hb16 (r_fieldB (r := 3) fl_49_3 rfl rfl rfl) rfl<|oG hb16 (r_ldb (i := 1) ti_3 rfl rfl rfl rfl) rfl<|oG hb16 (r_eqlN (p := d) (q := 20) rfl rfl rfl) rfl<|opT hb16 rfl<|.nl)<|nK k13<|gcd rfl (fun hb17 hp17 => ?_) fun hb17 hp17 => ?_
  ·skip
   refine gL<|gRn (oM 1 rfl<|.nl)<|fun a18 w18 h18 => ?_
   exact wl_callP h18 bd_73 rfl rfl rfl rfl rfl (wanted_none rfl _) (pFail_c g _ _ _ _ i _ (h18.sh.blk 1 rfl) (h18.sh.own 3 rfl) 6) (fun x9 w9 hx9 => pnF (P := Tryz.prog) (fn := Tryz.f74) h18.fr ⟨6, _, open_deep (by assumption) (by assumption), hx9.1, ((h18.sh.call0 hx9.2).sel [] rfl)⟩) (fun _ _ ⟨_, hno, _⟩ => hno.elim)
  refine gS<|hK k12<|sK fun _ k20 => gRn (oM 2 rfl<|.nl)<|fun a21 w21 h21 => ?_
  have h23 := h21.sel (L' := [_, _, _, _]) [1, 2, 3, 0] rfl
  have hp24 := h23.sh.passL (Lp := [_, _, _])
  refine wl_callP h23 bd_36 rfl rfl rfl rfl rfl (wanted_none rfl _) (pTake_c _ _ X tv nv i d nl _ hp24 hTl xs) ?_ ?_
  ·rintro x9 w9 ⟨xc, xa, hrx, rfl, hs9⟩
   exact pnF (P := Tryz.prog) (fn := Tryz.f74) h23.fr ⟨xc, xa, open_no (by first | exact fun h9 => absurd h9.2 (by assumption) | exact fun h9 => by have := h9.1; simp_all [isT]) hrx, rfl, ((h23.sh.backI (Lp := [_, _, _]) hs9).sel [] rfl)⟩
  rintro a22 w22 ⟨_, ⟨y22, hr22, hi22, rfl, hs22⟩, hf22⟩
  have hl22 : i < X.T.length := hi22
  have h22 : St _ K W a22 w22 _ [_, _, _, _] := ⟨hf22, h23.sh.backI (Lp := [_, _, _]) hs22⟩
  clear hf22 hs22 h23 hp24
  refine gG h22<|gRn (oM 1 rfl<|.nl)<|nK k20<|sK fun _ k25 => gRn (oM 1 rfl<|onfl 0 fl_49_3 ti_3 rfl rfl<|oadN _ 1 om9 rfl<|onf fl_49_3 rfl<|.nl)<|gst 0 ti_3 rfl rfl rfl<|nK k25<|gF [5] rfl<|sG (oM 2 rfl<|.nl)<|gR<|fun a28 w28 h28 => rP <| x_ret1 (fn := Tryz.f74) (t := 4) rfl h28 rfl ?_; clear h22
  exact ⟨_, open_ok (by first | exact fun h9 => absurd h9.2 (by assumption) | exact fun h9 => by have := h9.1; simp_all [isT]) hr22, (by assumption), rfl, (h28.sh.sel [0, 1, 2] rfl)⟩
 refine gRn (oKs 5 hb16 rfl rfl<|opF hb16 rfl<|.nl)<|nK k13<|gcF rfl rfl<|gS<|hK k12<|sK fun _ k29 => gRn (oM 2 rfl<|.nl)<|fun a30 w30 h30 => ?_
 have h32 := h30.sel (L' := [_, _, _, _]) [1, 2, 3, 0] rfl
 have hp33 := h32.sh.passL (Lp := [_, _, _])
 refine wl_callP h32 bd_36 rfl rfl rfl rfl rfl (wanted_none rfl _) (pTake_c _ _ X tv nv i d nl _ hp33 hTl xs) ?_ ?_
 ·rintro x9 w9 ⟨xc, xa, hrx, rfl, hs9⟩
  exact pnF (P := Tryz.prog) (fn := Tryz.f74) h32.fr ⟨xc, xa, open_no (by first | exact fun h9 => absurd h9.2 (by assumption) | exact fun h9 => by have := h9.1; simp_all [isT]) hrx, rfl, ((h32.sh.backI (Lp := [_, _, _]) hs9).sel [] rfl)⟩
 rintro a31 w31 ⟨_, ⟨y31, hr31, hi31, rfl, hs31⟩, hf31⟩
 have hl31 : i < X.T.length := hi31
 have h31 : St _ K W a31 w31 _ [_, _, _, _] := ⟨hf31, h32.sh.backI (Lp := [_, _, _]) hs31⟩
 clear hf31 hs31 h32 hp33
 refine gG h31<|gRn (oM 1 rfl<|.nl)<|nK k29<|sK fun _ k34 => gRn (oM 1 rfl<|onfl 0 fl_49_3 ti_3 rfl rfl<|oadN _ 1 om9 rfl<|onf fl_49_3 rfl<|.nl)<|gst 0 ti_3 rfl rfl rfl<|nK k34<|gF [5] rfl<|sG (oM 2 rfl<|.nl)<|gR<|fun a37 w37 h37 => rP <| x_ret1 (fn := Tryz.f74) (t := 4) rfl h37 rfl ?_; clear h31
 exact ⟨_, open_ok (by first | exact fun h9 => absurd h9.2 (by assumption) | exact fun h9 => by have := h9.1; simp_all [isT]) hr31, (by assumption), rfl, (h37.sh.sel [0, 1, 2] rfl)⟩

theorem pShut_c (K : Nat → Prop) (g : Nat) (X : TE) (tv nv : Value) (i d : Nat) (nl : List NdL)  (W : World) (hS : Sh K W W [.blk g 49 [tv, .int .i64 X.e, .int .i64 ((i : Nat) : Int), .int .i64 ((d : Nat) : Int), nv], .deep 57 (⟨nv, nl⟩ : Ls NdL), .own 81 (⟨tv, X.T⟩ : Ls Tok)]) (hTl : X.T.length ≤ 4000) (hd1 : 1 ≤ d ∧ d ≤ 20) (xs : ByteArray) :
    RetsP Tryz.prog 76 [.pointer (some ⟨g, 0, none⟩), .string xs] W (fun v w' => ∃ a : Int, shutP X xs ⟨i, d, nl.map NdL.nd⟩ = .ok (a, ⟨i + 1, d - 1, nl.map NdL.nd⟩) ∧ i < X.T.length ∧ v = .tuple #[] ∧ Sh K W w' [.blk g 49 [tv, .int .i64 X.e, .int .i64 ((i + 1 : Nat) : Int), .int .i64 ((d - 1 : Nat) : Int), nv], .deep 57 (⟨nv, nl⟩ : Ls NdL), .own 81 (⟨tv, X.T⟩ : Ls Tok)]) (fun x w' => ∃ c a : Int, shutP X xs ⟨i, d, nl.map NdL.nd⟩ = .error (c, a) ∧ x = wrongS c a ∧ Sh K W w' []) := by
 refine genP Tryz.func76 Tryz.ntmps76 hS rfl fun a10 h10 => gG h10<|sK fun _ k11 => gRn (oM 2 rfl<|.nl)<|fun a12 w12 h12 => ?_; clear h10
 have hp14 := h12.sh.passL (Lp := [_, _, _])
 refine wl_callP h12 bd_36 rfl rfl rfl rfl rfl (wanted_none rfl _) (pTake_c _ _ X tv nv i d nl _ hp14 hTl xs) ?_ ?_
 ·rintro x9 w9 ⟨xc, xa, hrx, rfl, hs9⟩
  exact pnF (P := Tryz.prog) (fn := Tryz.f76) h12.fr ⟨xc, xa, shut_no hrx, rfl, ((h12.sh.backI (Lp := [_, _, _]) hs9).sel [] rfl)⟩
 rintro a13 w13 ⟨_, ⟨y13, hr13, hi13, rfl, hs13⟩, hf13⟩
 have hl13 : i < X.T.length := hi13
 have h13 : St _ K W a13 w13 _ [_, _, _] := ⟨hf13, h12.sh.backI (Lp := [_, _, _]) hs13⟩
 clear hf13 hs13 h12 hp14
 refine gG h13<|nK k11<|gL<|gRn (oM 1 rfl<|onfl 0 fl_49_3 ti_3 rfl rfl<|osbN _ 1 om9 rfl<|onf fl_49_3 rfl<|.nl)<|gst 0 ti_3 rfl rfl rfl<|nN<|fun a16 w16 h16 => ?_; clear h13
 try simp only [Exit.then, Exit.inBlock, if_true]
 refine rP <| x_end0 (fn := Tryz.f76) rfl h16 ?_
 exact ⟨_, shut_ok hr13, (by assumption), rfl, h16.sh⟩

theorem pPut_c (K : Nat → Prop) (g : Nat) (X : TE) (tv nv : Value) (i d : Nat) (nl : List NdL)  (W : World) (k : Int) (a : Int) (m : Int) (s : ByteArray) (kd : Ls Int) (hS : Sh K W W [.blk g 49 [tv, .int .i64 X.e, .int .i64 ((i : Nat) : Int), .int .i64 ((d : Nat) : Int), nv], .deep 57 (⟨nv, nl⟩ : Ls NdL), .own 81 (⟨tv, X.T⟩ : Ls Tok), .own 3 kd]) (hnl : nl.length ≤ 100000) :
    Rets Tryz.prog 37 [.pointer (some ⟨g, 0, none⟩), .int .i64 k, .int .i64 a, .int .i64 m, .string s, kd.v] W (fun v w' => ∃ nv' : Value, v = .int .i64 ((nl.length : Nat) : Int) ∧ Sh K W w' [.blk g 49 [tv, .int .i64 X.e, .int .i64 ((i : Nat) : Int), .int .i64 ((d : Nat) : Int), nv'], .deep 57 (⟨nv', nl ++ [⟨k, m, a, s, kd⟩]⟩ : Ls NdL), .own 81 (⟨tv, X.T⟩ : Ls Tok)]) := by
 refine gen Tryz.func37 Tryz.ntmps37 hS rfl fun a10 h10 => gG h10<|sG (oM 1 rfl<|.nl)<|sK fun _ k12 => gRn (oM 2 rfl<|onfl 0 fl_49_4 ti_22 rfl rfl<|oM 5 rfl<|oV (r_buildS (cs := [.int .i64 k, .int .i64 m, .int .i64 a, .string s, kd.v]) rfl rfl (fun w h => by obtain ⟨A13, n13, c13, (e13 : kd.v = _)⟩ := ((h.own 3 rfl)).form; rw [e13]; kernel_rfl)) rfl<|.nl)<|gO [3, 0, 1, 2] rfl<|gE1 (fun _ _ h_ => x_litN (cs := [.int .i64 k, .int .i64 m, .int .i64 a, .string s, kd.v]) (⟨k, m, a, s, kd⟩ : NdL) h_ sl_22 ti_57 rfl rfl (by decide) rfl (by obtain ⟨A15, n15, c15, (e15 : kd.v = _)⟩ := ((h_.sh.own 0 rfl)).form; rw [e15]; kernel_rfl) rfl (h_.sh.own 0 rfl) (own_fp (h_.sh.ok _ (List.mem_of_getElem? (i := 0) rfl))) rfl rfl) rfl fun v16 => gO [2, 0, 1, 3] rfl<|gE1 (fun _ _ h_ => x_appD (s := (⟨nv, nl⟩ : Ls NdL)) (m := (⟨v16, [(⟨k, m, a, s, kd⟩ : NdL)]⟩ : Ls NdL)) h_ sl_22 ti_57 rfl rfl rfl rfl rfl rfl rfl inferInstance (show (nl.length + ([(⟨k, m, a, s, kd⟩ : NdL)]).length) * 64 ≤ 140737488355328 ∧ nl.length + ([(⟨k, m, a, s, kd⟩ : NdL)]).length ≤ 140737488355328 from (by simp only [List.length_cons, List.length_nil]; omega)) rfl rfl) rfl fun v18 => gRn (onf fl_49_4 rfl<|.nl)<|gsr 1 ti_22 rfl (aD 0 rfl) rfl<|nK k12<|sG (oM 1 rfl<|onfl 1 fl_49_4 ti_22 rfl rfl<|oln (n := (nl ++ ([(⟨k, m, a, s, kd⟩ : NdL)])).length) sl_22 (aD 0 rfl) rfl<|osbN _ 1 (show 1 ≤ (nl ++ ([(⟨k, m, a, s, kd⟩ : NdL)])).length ∧ (nl ++ ([(⟨k, m, a, s, kd⟩ : NdL)])).length < 9223372036854775808 from om9) rfl<|oM 1 rfl<|.nl)<|gF [12] rfl<|gR<|fun a21 w21 h21 => x_ret1 (fn := Tryz.f37) (t := 12) rfl h21 rfl <| ⟨_, ?_, (h21.sh.sel [1, 0, 2] rfl)⟩; clear h10
 congr 1; simp only [lens9]; omega

end Go.Proofs.YthdkmhaneellcaaGreatDoor
