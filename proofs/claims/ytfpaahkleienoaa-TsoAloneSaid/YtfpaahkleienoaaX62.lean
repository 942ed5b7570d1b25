/-
  The machine of the program, over any memory: orders, what can be done, moves, ends, words.
-/
import Derived.Test.YtfpaahkleienoaaM2
import Derived.Test.YtfpaahkleienoaaS26
import Derived.Test.YtfpaahkleienoaaX3
namespace Go.Proofs.Ytfpaahkleienoaa
open Go.RowKit
set_option linter.unusedSimpArgs false
set_option linter.unusedVariables false


theorem ti_129 : tyI Try.prog 129 = some (false, 1, 16, [.nilIface]) := by kernel_rfl
theorem dec_neg {x : Int} (h : -1 ≤ x) : decide (x < 0) = decide (x = -1) := decide_eq_decide.2 ⟨fun h9 => by omega, fun h9 => by omega⟩
def movF (m : Int) (code : Ls (Ls Ins)) (thr : List ThQ) (q : List (List Wt)) (owner : List Int) (t : Nat) : List Mv := mvsV m (nth code.l t).l t ⟨(nth thr t).pc, [], nth q t, [], owner, [], false⟩
def movesF (m : Int) (code : Ls (Ls Ins)) (thr : List ThQ) (q : List (List Wt)) (owner : List Int) (n : Nat) : List Mv := (List.range n).flatMap (movF m code thr q owner)
theorem movesF_succ (m : Int) (code : Ls (Ls Ins)) (thr : List ThQ) (q : List (List Wt)) (owner : List Int) (n : Nat) : movesF m code thr q owner (n + 1) = movesF m code thr q owner n ++ movF m code thr q owner n := by simp [movesF, List.range_succ]
def ableF (code : Ls (Ls Ins)) (thr : List ThQ) (q : List (List Wt)) (owner : List Int) (t : Nat) : Bool := decide ((nth thr t).pc < ((nth code.l t).l.length : Int)) && ableL owner (nth q t).length (nextIns (nth code.l t).l (nth thr t).pc)
theorem movF_eq {m : Int} {code : Ls (Ls Ins)} {thr : List ThQ} {q : List (List Wt)} {owner rl : List Int} {t : Nat} (hr : rl = ((List.range (nth q t).length).filter (mayK m (nth q t))).map (fun k => ((k : Nat) : Int))) :
    movF m code thr q owner t = (if ableF code thr q owner t = true then [⟨(t : Int), -1⟩] else []) ++ rl.map (fun x => (⟨(t : Int), x⟩ : Mv)) := by
  rw [hr, List.map_map]; rfl
theorem movF_len {m : Int} {code : Ls (Ls Ins)} {thr : List ThQ} {q : List (List Wt)} {owner : List Int} {t : Nat} : (movF m code thr q owner t).length ≤ 1 + (nth q t).length := by
  unfold movF mvsV
  rw [List.length_append, List.length_map]
  have h1 : ∀ c : Bool, (if c = true then [(⟨(t : Int), -1⟩ : Mv)] else []).length ≤ 1 := fun c => by cases c <;> simp
  have h2 : ((List.range (nth q t).length).filter (mayK m (nth q t))).length ≤ (nth q t).length := Nat.le_trans (List.length_filter_le _ _) (by simp)
  have h3 := h1 (ableV (nth code.l t).l ⟨(nth thr t).pc, [], nth q t, [], owner, [], false⟩)
  show _ + ((List.range (nth q t).length).filter (mayK m (nth q t))).length ≤ _
  omega
def endF2 (code : Ls (Ls Ins)) (thr : List ThQ) (q : List (List Wt)) (t : Nat) : Bool := decide (¬ (nth thr t).pc < ((nth code.l t).l.length : Int)) && decide ((nth q t).length = 0)
def endedF (code : Ls (Ls Ins)) (thr : List ThQ) (q : List (List Wt)) : Bool := (List.range code.l.length).all (endF2 code thr q)
theorem endF2_t {code : Ls (Ls Ins)} {thr : List ThQ} {q : List (List Wt)} {t : Nat} (h : ¬ (nth thr t).pc < ((nth code.l t).l.length : Int)) (h2 : (nth q t).length = 0) : endF2 code thr q t = true := by unfold endF2; rw [decide_eq_true h, decide_eq_true h2]; rfl
theorem endedF_t {code : Ls (Ls Ins)} {thr : List ThQ} {q : List (List Wt)} (h : ∀ j, j < code.l.length → endF2 code thr q j = true) : endedF code thr q = true := by
  unfold endedF; rw [List.all_eq_true]; intro j hj; exact h j (by simpa using hj)
theorem endedF_f {code : Ls (Ls Ins)} {thr : List ThQ} {q : List (List Wt)} {t : Nat} (ht : t < code.l.length) (h : (nth thr t).pc < ((nth code.l t).l.length : Int) ∨ ¬ (nth q t).length = 0) : endedF code thr q = false := by
  unfold endedF; rw [List.all_eq_false]
  refine ⟨t, by simpa using ht, ?_⟩
  unfold endF2
  rcases h with h | h
  · rw [decide_eq_false (by omega)]; simp
  · rw [decide_eq_false h]; simp

set_option maxRecDepth 100000 in
set_option maxHeartbeats 1000000 in
theorem pnext_c (M : MemS) (g gp : Nat) (code : Ls (Ls Ins)) (thr : Ls ThQ) (words owner : Ls Int) (q : M.σ) (pw pv : Value) (locks nregs : Int) (fell : Bool) (t : Nat) (W : World) (hM : MemI Try.prog 205 3 M) (hB : Blk W g 197 #[.iface M.T (.pointer (some M.u)), .pointer (some ⟨gp, 0, none⟩), thr.v, pv, .bool fell]) (hP : Blk W gp 25 #[code.v, pw, .int .i64 locks, .int .i64 nregs]) (h_code : code.At W) (h_thr : thr.At W) (hR : MemRd 205 M W words owner q) (ht : t < code.l.length) (ht2 : t < thr.l.length) (hpc : 0 ≤ (nth thr.l t).pc ∧ (nth thr.l t).pc ≤ (nth code.l t).l.length) :
    Rets Try.prog 151 [.pointer (some ⟨g, 0, none⟩), .int .i64 ((t : Nat) : Int)] W (fun v w' => v = .tuple #[(nextIns (nth code.l t).l (nth thr.l t).pc).val, .bool (decide ((nth thr.l t).pc < ((nth code.l t).l.length : Int)))] ∧ Sh0 W w' []) := by
 refine x_enter (N := 47) Try.func151 rfl Try.ntmps151 (Nat.le_of_ble_eq_true rfl) fun a1 hf1 => ?_
 have h1 : St 47 (fun _ => False) W a1 W [(0, .pointer (some ⟨g, 0, none⟩)), (1, .int .i64 ((t : Nat) : Int))] [.rblk g 197 [.iface M.T (.pointer (some M.u)), .pointer (some ⟨gp, 0, none⟩), thr.v, pv, .bool fell], .rblk gp 25 [code.v, pw, .int .i64 locks, .int .i64 nregs], .at_ code, .at_ thr, .rblk M.g0 205 [words.v, owner.v], .at_ words, .at_ owner, .ro [M.X q]] := ⟨hf1.sub ⟨rfl, rfl, trivial⟩, Sh0.ext (by intro A hA; simp only [List.mem_cons, List.not_mem_nil, or_false] at hA; rcases hA with rfl | rfl | rfl | rfl | rfl | rfl | rfl | rfl; exact hB; exact hP; exact h_code; exact h_thr; exact hR.blk; exact hR.wa; exact hR.oa; exact (fun A hA => by obtain rfl := List.mem_singleton.1 hA; exact hR.x)) (by intro A hA b hb; simp only [List.mem_cons, List.not_mem_nil, or_false] at hA; rcases hA with rfl | rfl | rfl | rfl | rfl | rfl | rfl | rfl <;> exact hb)⟩
 clear hf1
 refine wp_seq_k fun K2 hK2 => wp_region_lit <| wl_ex (x_alloc h1 ti_32 rfl rfl rfl) (wanted_none rfl _) ?_
 rintro a3 w3 ⟨b3, h3⟩; clear h1
 refine wms 1 h3 rfl fun a4 h4 => wpList_nil <| hK2 _ _ <| wp_seq_k fun K5 hK5 => wp_seq_k fun K6 hK6 => x_quiet (by kernel_rfl) (by kernel_rfl) h4 fun Z7 hZ7 => ?_; clear h3
 have hq7 := h4.fr
 refine wq_val hq7 (r_move rfl rfl) (wanted_none rfl _) rfl rfl fun a8 hq8 => wq_val hq8 (r_nil rfl rfl) (wanted_none rfl _) rfl rfl fun a9 hq9 => wq_val hq9 (r_fieldB (r := 2) fl_197_2 rfl rfl rfl) (wanted_none rfl _) rfl rfl fun a10 hq10 => wq_val hq10 (r_ldbR ti_195 rfl rfl (fun w h => h.rblk 1 rfl) rfl) (wanted_none rfl _) rfl rfl fun a11 hq11 => wq_val hq11 (r_move rfl rfl) (wanted_none rfl _) rfl rfl fun a12 hq12 => ?_; clear hq7 hq8 hq9 hq10 hq11
 have hl13 : thr.l.length ≤ 140737488355328 := (h4.sh.at 4 rfl).len
 refine wq_val hq12 (r_ixN (s := thr) (q := t) sl_195 ti_234 rfl rfl rfl (fun w h => (h.at 4 rfl)) (show t < thr.l.length from (by omega))) (wanted_none rfl _) rfl rfl fun a14 hq14 => wq_val hq14 (r_fieldE (r := 0) fl_234_0 rfl rfl rfl) (wanted_none rfl _) rfl rfl fun a15 hq15 => wq_val hq15 (r_lde (s := thr) (i := t) (v := .int .i64 ((nth thr.l t).pc)) ti_3 rfl rfl rfl (fun w h => (h.at 4 rfl)) (show t < thr.l.length from (by omega)) (Nat.le_of_ble_eq_true rfl) rfl) (wanted_none rfl _) rfl rfl fun a16 hq16 => wq_val hq16 (r_move rfl rfl) (wanted_none rfl _) rfl rfl fun a17 hq17 => wq_val hq17 (r_nil rfl rfl) (wanted_none rfl _) rfl rfl fun a18 hq18 => wq_val hq18 (r_fieldB (r := 1) fl_197_1 rfl rfl rfl) (wanted_none rfl _) rfl rfl fun a19 hq19 => wq_val hq19 (r_ldbR ti_194 rfl rfl (fun w h => h.rblk 1 rfl) rfl) (wanted_none rfl _) rfl rfl fun a20 hq20 => wq_val hq20 (r_nil rfl rfl) (wanted_none rfl _) rfl rfl fun a21 hq21 => wq_val hq21 (r_fieldB (r := 0) fl_25_0 rfl rfl rfl) (wanted_none rfl _) rfl rfl fun a22 hq22 => wq_val hq22 (r_ldbR ti_22 rfl rfl (fun w h => h.rblk 2 rfl) rfl) (wanted_none rfl _) rfl rfl fun a23 hq23 => wq_val hq23 (r_move rfl rfl) (wanted_none rfl _) rfl rfl fun a24 hq24 => ?_; clear hq12 hq14 hq15 hq16 hq17 hq18 hq19 hq20 hq21 hq22 hq23
 have hl25 : code.l.length ≤ 140737488355328 := (h4.sh.at 3 rfl).len
 refine wq_val hq24 (r_ixN (s := code) (q := t) sl_22 ti_33 rfl rfl rfl (fun w h => (h.at 3 rfl)) (show t < code.l.length from (by omega))) (wanted_none rfl _) rfl rfl fun a26 hq26 => wq_val hq26 (r_lde (s := code) (i := t) (v := (nth code.l t).v) ti_33 rfl rfl rfl (fun w h => (h.at 3 rfl)) (show t < code.l.length from (by omega)) (Nat.le_of_ble_eq_true rfl) rfl) (wanted_none rfl _) rfl rfl fun a27 hq27 => ?_; clear hq24 hq26
 have hl28 : ((nth code.l t).l).length ≤ 140737488355328 := ((h4.sh.at 3 rfl).nth t (show t < code.l.length from (by omega))).len
 refine wq_val hq27 (r_len (s := nth code.l t) (n := ((nth code.l t).l).length) sl_33 rfl rfl (fun w h => ((h.at 3 rfl).nth t (show t < code.l.length from (by omega)))) rfl) (wanted_none rfl _) rfl rfl fun a29 hq29 => wq_val hq29 (r_eqlI (p := (nth thr.l t).pc) (q := ((((nth code.l t).l).length : Nat) : Int)) rfl rfl rfl) (wanted_none rfl _) rfl rfl fun a30 hq30 => wpQuiet_nil (hZ7 _ fun w31 hw31 => ?_); clear hq27 hq29
 have h31 : St 47 (fun _ => False) W a30 w31 _ _ := ⟨hq30, hw31⟩
 clear hq30 hw31 h4
 refine hK6 _ _ <| x_cond h31 rfl (fun hb32 => ?_) (fun hb32 => ?_)
 ·have hp32 : (nth thr.l t).pc = ((((nth code.l t).l).length : Nat) : Int) := of_decide_eq_true hb32
  refine wp_seq_k fun K33 hK33 => wp_region_lit <| wv h31 (r_build (cs := [.int .i64 0, .int .i64 0, .int .i64 0, .int .i64 0]) rfl rfl (by kernel_rfl)) rfl rfl fun a34 h34 => wl_ex (x_stb (i := 0) (vs := [.int .i64 0, .int .i64 0, .int .i64 0, .int .i64 0]) (cs' := [.int .i64 0, .int .i64 0, .int .i64 0, .int .i64 0]) h34 ti_32 rfl rfl rfl rfl rfl rfl rfl (allOne_cons rfl (allOne_cons rfl (allOne_cons rfl (allOne_cons rfl allOne_nil)))) (Nat.le_of_ble_eq_true rfl) rfl) (wanted_none rfl _) ?_; clear h31
  rintro a35 w35 h35
  clear h34
  refine wms 1 h35 rfl fun a36 h36 => wpList_nil <| hK33 _ _ ?_; clear h35
  have h37 : St 47 (fun _ => False) W a36 w35 [(4, .pointer (some ⟨b3, 0, none⟩)), (5, .bool false)] [.blk b3 32 [.int .i64 0, .int .i64 0, .int .i64 0, .int .i64 0], .rblk g 197 [.iface M.T (.pointer (some M.u)), .pointer (some ⟨gp, 0, none⟩), thr.v, pv, .bool fell], .rblk gp 25 [code.v, pw, .int .i64 locks, .int .i64 nregs], .at_ code, .at_ thr, .rblk M.g0 205 [words.v, owner.v], .at_ words, .at_ owner, .ro [M.X q]] := h36.nrm ⟨rfl, rfl, trivial⟩ [0, 1, 2, 3, 4, 5, 6, 7, 8] (by decide) ⟨rfl, rfl, rfl, rfl, rfl, rfl, rfl, rfl, rfl, trivial⟩
  clear h36
  refine wp_ret ?_
  try simp only [Exit.then, Exit.inBlock]
  refine x_retct (fn := Try.f151) (t := 4) (u := 5) (i := 0) ti_32 rfl h37 rfl rfl rfl rfl <| ⟨?_, (h37.sh.sel [] (by decide) trivial)⟩
  first | (rw [nextIns_t (by omega), decide_eq_true (by omega)]; rfl) | (rw [nextIns_f (by omega), decide_eq_false (by omega)]; rfl)
 have hp32 : ¬ ((nth thr.l t).pc = ((((nth code.l t).l).length : Nat) : Int)) := of_decide_eq_false hb32
 refine wp_skip <| hK5 _ _ <| wp_seq_k fun K38 hK38 => x_tail 20 [] (by kernel_rfl) (by kernel_rfl) h31 fun Z39 hZ39 => ?_
 have hq39 := h31.fr
 refine wq_val hq39 (r_move rfl rfl) (wanted_none rfl _) rfl rfl fun a40 hq40 => wq_val hq40 (r_nil rfl rfl) (wanted_none rfl _) rfl rfl fun a41 hq41 => wq_val hq41 (r_fieldB (r := 1) fl_197_1 rfl rfl rfl) (wanted_none rfl _) rfl rfl fun a42 hq42 => wq_val hq42 (r_ldbR ti_194 rfl rfl (fun w h => h.rblk 1 rfl) rfl) (wanted_none rfl _) rfl rfl fun a43 hq43 => wq_val hq43 (r_nil rfl rfl) (wanted_none rfl _) rfl rfl fun a44 hq44 => wq_val hq44 (r_fieldB (r := 0) fl_25_0 rfl rfl rfl) (wanted_none rfl _) rfl rfl fun a45 hq45 => wq_val hq45 (r_ldbR ti_22 rfl rfl (fun w h => h.rblk 2 rfl) rfl) (wanted_none rfl _) rfl rfl fun a46 hq46 => wq_val hq46 (r_move rfl rfl) (wanted_none rfl _) rfl rfl fun a47 hq47 => wq_val hq47 (r_ixN (s := code) (q := t) sl_22 ti_33 rfl rfl rfl (fun w h => (h.at 3 rfl)) (show t < code.l.length from (by omega))) (wanted_none rfl _) rfl rfl fun a48 hq48 => wq_val hq48 (r_lde (s := code) (i := t) (v := (nth code.l t).v) ti_33 rfl rfl rfl (fun w h => (h.at 3 rfl)) (show t < code.l.length from (by omega)) (Nat.le_of_ble_eq_true rfl) rfl) (wanted_none rfl _) rfl rfl fun a49 hq49 => wq_val hq49 (r_move rfl rfl) (wanted_none rfl _) rfl rfl fun a50 hq50 => wq_val hq50 (r_nil rfl rfl) (wanted_none rfl _) rfl rfl fun a51 hq51 => wq_val hq51 (r_fieldB (r := 2) fl_197_2 rfl rfl rfl) (wanted_none rfl _) rfl rfl fun a52 hq52 => wq_val hq52 (r_ldbR ti_195 rfl rfl (fun w h => h.rblk 1 rfl) rfl) (wanted_none rfl _) rfl rfl fun a53 hq53 => ?_; clear hq39 hq40 hq41 hq42 hq43 hq44 hq45 hq46 hq47 hq48 hq49 hq50 hq51 hq52
 refine wq_val hq53 (r_move rfl rfl) (wanted_none rfl _) rfl rfl fun a54 hq54 => wq_val hq54 (r_ixN (s := thr) (q := t) sl_195 ti_234 rfl rfl rfl (fun w h => (h.at 4 rfl)) (show t < thr.l.length from (by omega))) (wanted_none rfl _) rfl rfl fun a55 hq55 => wq_val hq55 (r_fieldE (r := 0) fl_234_0 rfl rfl rfl) (wanted_none rfl _) rfl rfl fun a56 hq56 => wq_val hq56 (r_lde (s := thr) (i := t) (v := .int .i64 ((nth thr.l t).pc)) ti_3 rfl rfl rfl (fun w h => (h.at 4 rfl)) (show t < thr.l.length from (by omega)) (Nat.le_of_ble_eq_true rfl) rfl) (wanted_none rfl _) rfl rfl fun a57 hq57 => wq_val hq57 (r_ixI (s := nth code.l t) (q := (nth thr.l t).pc) sl_33 ti_32 rfl rfl rfl (fun w h => ((h.at 3 rfl).nth t (show t < code.l.length from (by omega)))) (show 0 ≤ (nth thr.l t).pc ∧ (nth thr.l t).pc < ((nth code.l t).l).length from (by omega))) (wanted_none rfl _) rfl rfl fun a58 hq58 => wq_val hq58 (r_ldew (s := nth code.l t) (i := ((nth thr.l t).pc).toNat) (vs := [.int .i64 ((nth ((nth code.l t).l) (((nth thr.l t).pc).toNat)).op), .int .i64 ((nth ((nth code.l t).l) (((nth thr.l t).pc).toNat)).a), .int .i64 ((nth ((nth code.l t).l) (((nth thr.l t).pc).toNat)).b), .int .i64 ((nth ((nth code.l t).l) (((nth thr.l t).pc).toNat)).c)]) ti_32 rfl rfl rfl (fun w h => ((h.at 3 rfl).nth t (show t < code.l.length from (by omega)))) (show ((nth thr.l t).pc).toNat < ((nth code.l t).l).length from (by omega)) (Nat.le_of_ble_eq_true rfl) rfl) (wanted_none rfl _) rfl rfl fun a59 hq59 => wpQuiet_nil (hZ39 _ fun w60 hw60 => ?_); clear hq53 hq54 hq55 hq56 hq57 hq58
 have h60 : St 47 (fun _ => False) W a59 w60 _ _ := ⟨hq59, hw60⟩
 clear hq59 hw60 h31
 refine wl_ex (x_stb (i := 0) (vs := [.int .i64 ((nth ((nth code.l t).l) (((nth thr.l t).pc).toNat)).op), .int .i64 ((nth ((nth code.l t).l) (((nth thr.l t).pc).toNat)).a), .int .i64 ((nth ((nth code.l t).l) (((nth thr.l t).pc).toNat)).b), .int .i64 ((nth ((nth code.l t).l) (((nth thr.l t).pc).toNat)).c)]) (cs' := [.int .i64 ((nth ((nth code.l t).l) (((nth thr.l t).pc).toNat)).op), .int .i64 ((nth ((nth code.l t).l) (((nth thr.l t).pc).toNat)).a), .int .i64 ((nth ((nth code.l t).l) (((nth thr.l t).pc).toNat)).b), .int .i64 ((nth ((nth code.l t).l) (((nth thr.l t).pc).toNat)).c)]) h60 ti_32 rfl rfl rfl rfl rfl rfl rfl (allOne_cons rfl (allOne_cons rfl (allOne_cons rfl (allOne_cons rfl allOne_nil)))) (Nat.le_of_ble_eq_true rfl) rfl) (wanted_none rfl _) ?_
 rintro a61 w61 h61
 clear h60
 refine wms 1 h61 rfl fun a62 h62 => wpList_nil <| hK38 _ _ ?_; clear h61
 have h63 : St 47 (fun _ => False) W a62 w61 [(4, .pointer (some ⟨b3, 0, none⟩)), (5, .bool true)] [.blk b3 32 [.int .i64 ((nth ((nth code.l t).l) (((nth thr.l t).pc).toNat)).op), .int .i64 ((nth ((nth code.l t).l) (((nth thr.l t).pc).toNat)).a), .int .i64 ((nth ((nth code.l t).l) (((nth thr.l t).pc).toNat)).b), .int .i64 ((nth ((nth code.l t).l) (((nth thr.l t).pc).toNat)).c)], .rblk g 197 [.iface M.T (.pointer (some M.u)), .pointer (some ⟨gp, 0, none⟩), thr.v, pv, .bool fell], .rblk gp 25 [code.v, pw, .int .i64 locks, .int .i64 nregs], .at_ code, .at_ thr, .rblk M.g0 205 [words.v, owner.v], .at_ words, .at_ owner, .ro [M.X q]] := h62.nrm ⟨rfl, rfl, trivial⟩ [0, 1, 2, 3, 4, 5, 6, 7, 8] (by decide) ⟨rfl, rfl, rfl, rfl, rfl, rfl, rfl, rfl, rfl, trivial⟩
 clear h62
 refine wp_ret ?_
 try simp only [Exit.then, Exit.inBlock]
 refine x_retct (fn := Try.f151) (t := 4) (u := 5) (i := 0) ti_32 rfl h63 rfl rfl rfl rfl <| ⟨?_, (h63.sh.sel [] (by decide) trivial)⟩
 first | (rw [nextIns_t (by omega), decide_eq_true (by omega)]; rfl) | (rw [nextIns_f (by omega), decide_eq_false (by omega)]; rfl)

set_option maxRecDepth 100000 in
set_option maxHeartbeats 2000000 in
theorem pable_c (M : MemS) (g gp : Nat) (code : Ls (Ls Ins)) (thr : Ls ThQ) (words owner : Ls Int) (q : M.σ) (pw pv : Value) (locks nregs : Int) (fell : Bool) (t : Nat) (W : World) (hM : MemI Try.prog 205 3 M) (hB : Blk W g 197 #[.iface M.T (.pointer (some M.u)), .pointer (some ⟨gp, 0, none⟩), thr.v, pv, .bool fell]) (hP : Blk W gp 25 #[code.v, pw, .int .i64 locks, .int .i64 nregs]) (h_code : code.At W) (h_thr : thr.At W) (hR : MemRd 205 M W words owner q) (hql : (M.qs q).length = code.l.length) (hw3 : ∀ t, t < code.l.length → (nth (M.qs q) t).length ≤ 3) (htl : thr.l.length = code.l.length) (hpc : ∀ t, t < code.l.length → 0 ≤ (nth thr.l t).pc ∧ (nth thr.l t).pc ≤ (nth code.l t).l.length) (hlk : ∀ t, t < code.l.length → ∀ i, i < (nth code.l t).l.length → (nth (nth code.l t).l i).op = 17 → 0 ≤ (nth (nth code.l t).l i).a ∧ (nth (nth code.l t).l i).a < owner.l.length) (hge : ∀ v ∈ owner.l, -1 ≤ v) (ht : t < code.l.length) :
    Rets Try.prog 150 [.pointer (some ⟨g, 0, none⟩), .int .i64 ((t : Nat) : Int)] W (fun v w' => v = .bool (ableF code thr.l (M.qs q) owner.l t) ∧ Sh0 W w' []) := by
 have hpct := hpc t (by omega)
 refine x_enter (N := 54) Try.func150 rfl Try.ntmps150 (Nat.le_of_ble_eq_true rfl) fun a1 hf1 => ?_
 have h1 : St 54 (fun _ => False) W a1 W [(0, .pointer (some ⟨g, 0, none⟩)), (1, .int .i64 ((t : Nat) : Int))] [.rblk g 197 [.iface M.T (.pointer (some M.u)), .pointer (some ⟨gp, 0, none⟩), thr.v, pv, .bool fell], .rblk gp 25 [code.v, pw, .int .i64 locks, .int .i64 nregs], .at_ code, .at_ thr, .rblk M.g0 205 [words.v, owner.v], .at_ words, .at_ owner, .ro [M.X q]] := ⟨hf1.sub ⟨rfl, rfl, trivial⟩, Sh0.ext (by intro A hA; simp only [List.mem_cons, List.not_mem_nil, or_false] at hA; rcases hA with rfl | rfl | rfl | rfl | rfl | rfl | rfl | rfl; exact hB; exact hP; exact h_code; exact h_thr; exact hR.blk; exact hR.wa; exact hR.oa; exact (fun A hA => by obtain rfl := List.mem_singleton.1 hA; exact hR.x)) (by intro A hA b hb; simp only [List.mem_cons, List.not_mem_nil, or_false] at hA; rcases hA with rfl | rfl | rfl | rfl | rfl | rfl | rfl | rfl <;> exact hb)⟩
 clear hf1
 refine wp_seq_k fun K2 hK2 => wp_region_lit <| wms 1 h1 rfl fun a3 h3 => wpList_nil <| hK2 _ _ <| wp_seq_k fun K4 hK4 => wp_region_lit <| wms 2 h3 rfl fun a5 h5 => wl_ex (x_call h5 bd_151 rfl rfl rfl rfl rfl (pnext_c M g gp code thr words owner q _ _ _ _ _ t _ hM (h5.sh.rblk 0 rfl) (h5.sh.rblk 1 rfl) (h5.sh.at 2 rfl) (h5.sh.at 3 rfl) ⟨h5.sh.rblk 4 rfl, h5.sh.at 5 rfl, h5.sh.at 6 rfl, (h5.sh.ok _ (List.mem_of_getElem? (i := 7) rfl)) _ (List.mem_singleton.2 rfl)⟩ (by omega) (by omega) (by omega))) (wanted_none rfl _) ?_; clear h1 h3
 rintro a6 w6 ⟨_, ⟨hv6, hs6⟩, hf6⟩
 subst hv6
 have h6 : St 54 (fun _ => False) W a6 w6 _ _ := ⟨hf6, h5.sh.call0 hs6⟩
 clear hf6 hs6
 clear h5
 refine wms 1 h6 rfl fun a7 h7 => wv h7 (r_extract rfl rfl rfl) rfl rfl fun a8 h8 => wv h8 (r_extract rfl rfl rfl) rfl rfl fun a9 h9 => wl_ex (x_alloc h9 ti_32 rfl rfl rfl) (wanted_none rfl _) ?_; clear h6 h7 h8
 rintro a10 w10 ⟨b10, h10⟩; clear h9
 refine wl_ex (x_stb (i := 0) (vs := [.int .i64 ((nextIns (nth code.l t).l (nth thr.l t).pc).op), .int .i64 ((nextIns (nth code.l t).l (nth thr.l t).pc).a), .int .i64 ((nextIns (nth code.l t).l (nth thr.l t).pc).b), .int .i64 ((nextIns (nth code.l t).l (nth thr.l t).pc).c)]) (cs' := [.int .i64 ((nextIns (nth code.l t).l (nth thr.l t).pc).op), .int .i64 ((nextIns (nth code.l t).l (nth thr.l t).pc).a), .int .i64 ((nextIns (nth code.l t).l (nth thr.l t).pc).b), .int .i64 ((nextIns (nth code.l t).l (nth thr.l t).pc).c)]) h10 ti_32 rfl rfl rfl rfl rfl rfl rfl (allOne_cons rfl (allOne_cons rfl (allOne_cons rfl (allOne_cons rfl allOne_nil)))) (Nat.le_of_ble_eq_true rfl) rfl) (wanted_none rfl _) ?_
 rintro a11 w11 h11
 clear h10
 refine wms 1 h11 rfl fun a12 h12 => wpList_nil <| hK4 _ _ <| wp_seq_k fun K13 hK13 => wp_seq_k fun K14 hK14 => wp_region_lit <| wms 1 h12 rfl fun a15 h15 => wv h15 (r_not rfl rfl) rfl rfl fun a16 h16 => wpList_nil <| hK14 _ _ <| x_cond h16 rfl (fun hb17 => ?_) (fun hb17 => ?_); clear h11 h12 h15
 ·have hp17 : ¬ ((nth thr.l t).pc < ((nth code.l t).l.length : Int)) := by simpa using hb17
  refine wp_seq_k fun K18 hK18 => wp_region_lit <| wms 1 h16 rfl fun a19 h19 => wpList_nil <| hK18 _ _ <| wp_ret ?_; clear h16
  try simp only [Exit.then, Exit.inBlock]
  refine x_ret1 (fn := Try.f150) (t := 4) rfl h19 rfl <| ⟨?_, (h19.sh.sel [] (by decide) trivial)⟩
  congr 1
  unfold ableF
  first | exact and_f' (by omega) | (refine and_t' (by omega) ?_; unfold ableL; first | (rw [if_pos (by omega)]; done) | (rw [if_neg (by omega), if_pos (by omega)]; done) | (rw [if_neg (by omega), if_neg (by omega), if_pos (by omega)]; first | exact and_f' (by omega) | exact and_t' (by omega) (dec_neg hge2)) | (rw [if_neg (by omega), if_neg (by omega), if_neg (by omega)]))
 have hp17 : (nth thr.l t).pc < ((nth code.l t).l.length : Int) := by simpa using hb17
 refine wp_skip <| hK13 _ _ ?_
 have hnx := nextIns_t (c := (nth code.l t).l) (pc := (nth thr.l t).pc) (by omega)
 have hlk2 := hlk t ht (nth thr.l t).pc.toNat (by omega)
 rw [← hnx] at hlk2
 refine wp_seq_k fun K20 hK20 => wp_region_lit <| wms 1 h16 rfl fun a21 h21 => wv h21 (r_nil rfl rfl) rfl rfl fun a22 h22 => wv h22 (r_fieldB (r := 0) fl_197_0 rfl rfl rfl) rfl rfl fun a23 h23 => wv h23 (r_ldbR ti_129 rfl rfl (fun w h => h.rblk 1 rfl) rfl) rfl rfl fun a24 h24 => wms 1 h24 rfl fun a25 h25 => wl_ex (x_inv2 h25 rfl rfl rfl rfl rfl (hM.waits _ words owner q t ⟨h25.sh.rblk 5 rfl, h25.sh.at 6 rfl, h25.sh.at 7 rfl, (h25.sh.ok _ (List.mem_of_getElem? (i := 8) rfl)) _ (List.mem_singleton.2 rfl)⟩ (by omega) (hw3 t (by omega)))) (wanted_none rfl _) ?_; clear h16 h21 h22 h23 h24
 rintro a26 w26 ⟨_, ⟨rfl, hs26⟩, hf26⟩
 have h26 : St 54 (fun _ => False) W a26 w26 _ _ := ⟨hf26, h25.sh.call0 hs26⟩
 clear hf26 hs26
 clear h25
 refine wms 1 h26 rfl fun a27 h27 => wpList_nil <| hK20 _ _ <| wp_seq_k fun K28 hK28 => wp_seq_k fun K29 hK29 => wp_region_lit <| wv h27 (r_fieldB (r := 0) fl_32_0 rfl rfl rfl) rfl rfl fun a30 h30 => wv h30 (r_ldb (i := 0) ti_3 rfl rfl rfl rfl) rfl rfl fun a31 h31 => wpList_nil <| hK29 _ _ <| wp_block <| wp_seq_k fun K32 hK32 => wp_seq_k fun K33 hK33 => wp_region_lit ?_; clear h26 h27 h30
 refine wv h31 (r_eqlI (p := (nextIns (nth code.l t).l (nth thr.l t).pc).op) (q := 9) rfl rfl rfl) rfl rfl fun a34 h34 => wms 1 h34 rfl fun a35 h35 => wpList_nil <| hK33 _ _ <| x_cond h35 rfl (fun hb36 => ?_) (fun hb36 => ?_); clear h31 h34
 ·have hp36 : (nextIns (nth code.l t).l (nth thr.l t).pc).op = 9 := of_decide_eq_true hb36
  refine wp_skip <| hK32 _ _ <| x_condT h35 rfl hb36 <| wp_seq_k fun K37 hK37 => wp_region_lit <| wms 1 h35 rfl fun a38 h38 => wv h38 (r_lssN (p := (nth (M.qs q) t).length) (q := 3) rfl rfl rfl) rfl rfl fun a39 h39 => wms 1 h39 rfl fun a40 h40 => wpList_nil <| hK37 _ _ ?_; clear h35 h38 h39
  have h41 : St 54 (fun _ => False) W a40 w26 [(4, .bool (decide ((nth (M.qs q) t).length < 3)))] [.blk b10 32 [.int .i64 ((nextIns (nth code.l t).l (nth thr.l t).pc).op), .int .i64 ((nextIns (nth code.l t).l (nth thr.l t).pc).a), .int .i64 ((nextIns (nth code.l t).l (nth thr.l t).pc).b), .int .i64 ((nextIns (nth code.l t).l (nth thr.l t).pc).c)], .rblk g 197 [.iface M.T (.pointer (some M.u)), .pointer (some ⟨gp, 0, none⟩), thr.v, pv, .bool fell], .rblk gp 25 [code.v, pw, .int .i64 locks, .int .i64 nregs], .at_ code, .at_ thr, .rblk M.g0 205 [words.v, owner.v], .at_ words, .at_ owner, .ro [M.X q]] := h40.nrm ⟨rfl, trivial⟩ [0, 1, 2, 3, 4, 5, 6, 7, 8] (by decide) ⟨rfl, rfl, rfl, rfl, rfl, rfl, rfl, rfl, rfl, trivial⟩
  clear h40
  refine wp_ret ?_
  try simp only [Exit.then, Exit.inBlock]
  refine x_ret1 (fn := Try.f150) (t := 4) rfl h41 rfl <| ⟨?_, (h41.sh.sel [] (by decide) trivial)⟩
  congr 1
  unfold ableF
  first | exact and_f' (by omega) | (refine and_t' (by omega) ?_; unfold ableL; first | (rw [if_pos (by omega)]; done) | (rw [if_neg (by omega), if_pos (by omega)]; done) | (rw [if_neg (by omega), if_neg (by omega), if_pos (by omega)]; first | exact and_f' (by omega) | exact and_t' (by omega) (dec_neg hge2)) | (rw [if_neg (by omega), if_neg (by omega), if_neg (by omega)]))
 have hp36 : ¬ ((nextIns (nth code.l t).l (nth thr.l t).pc).op = 9) := of_decide_eq_false hb36
 refine wp_seq_k fun K42 hK42 => wp_region_lit <| wv h35 (r_eqlI (p := (nextIns (nth code.l t).l (nth thr.l t).pc).op) (q := 11) rfl rfl rfl) rfl rfl fun a43 h43 => wms 1 h43 rfl fun a44 h44 => wpList_nil <| hK42 _ _ <| x_cond h44 rfl (fun hb45 => ?_) (fun hb45 => ?_); clear h35 h43
 ·have hp45 : (nextIns (nth code.l t).l (nth thr.l t).pc).op = 11 := of_decide_eq_true hb45
  refine wp_skip <| hK32 _ _ <| x_condT h44 rfl hb45 <| wp_seq_k fun K46 hK46 => wp_region_lit <| wms 1 h44 rfl fun a47 h47 => wv h47 (r_lssN (p := (nth (M.qs q) t).length) (q := 3) rfl rfl rfl) rfl rfl fun a48 h48 => wms 1 h48 rfl fun a49 h49 => wpList_nil <| hK46 _ _ ?_; clear h44 h47 h48
  have h50 : St 54 (fun _ => False) W a49 w26 [(4, .bool (decide ((nth (M.qs q) t).length < 3)))] [.blk b10 32 [.int .i64 ((nextIns (nth code.l t).l (nth thr.l t).pc).op), .int .i64 ((nextIns (nth code.l t).l (nth thr.l t).pc).a), .int .i64 ((nextIns (nth code.l t).l (nth thr.l t).pc).b), .int .i64 ((nextIns (nth code.l t).l (nth thr.l t).pc).c)], .rblk g 197 [.iface M.T (.pointer (some M.u)), .pointer (some ⟨gp, 0, none⟩), thr.v, pv, .bool fell], .rblk gp 25 [code.v, pw, .int .i64 locks, .int .i64 nregs], .at_ code, .at_ thr, .rblk M.g0 205 [words.v, owner.v], .at_ words, .at_ owner, .ro [M.X q]] := h49.nrm ⟨rfl, trivial⟩ [0, 1, 2, 3, 4, 5, 6, 7, 8] (by decide) ⟨rfl, rfl, rfl, rfl, rfl, rfl, rfl, rfl, rfl, trivial⟩
  clear h49
  refine wp_ret ?_
  try simp only [Exit.then, Exit.inBlock]
  refine x_ret1 (fn := Try.f150) (t := 4) rfl h50 rfl <| ⟨?_, (h50.sh.sel [] (by decide) trivial)⟩
  congr 1
  unfold ableF
  first | exact and_f' (by omega) | (refine and_t' (by omega) ?_; unfold ableL; first | (rw [if_pos (by omega)]; done) | (rw [if_neg (by omega), if_pos (by omega)]; done) | (rw [if_neg (by omega), if_neg (by omega), if_pos (by omega)]; first | exact and_f' (by omega) | exact and_t' (by omega) (dec_neg hge2)) | (rw [if_neg (by omega), if_neg (by omega), if_neg (by omega)]))
 have hp45 : ¬ ((nextIns (nth code.l t).l (nth thr.l t).pc).op = 11) := of_decide_eq_false hb45
 refine wp_region_lit <| wv h44 (r_eqlI (p := (nextIns (nth code.l t).l (nth thr.l t).pc).op) (q := 18) rfl rfl rfl) rfl rfl fun a51 h51 => wms 1 h51 rfl fun a52 h52 => wpList_nil <| hK32 _ _ <| x_cond h52 rfl (fun hb53 => ?_) (fun hb53 => ?_); clear h44 h51
 ·have hp53 : (nextIns (nth code.l t).l (nth thr.l t).pc).op = 18 := of_decide_eq_true hb53
  refine wp_seq_k fun K54 hK54 => wp_region_lit <| wms 1 h52 rfl fun a55 h55 => wv h55 (r_lssN (p := (nth (M.qs q) t).length) (q := 3) rfl rfl rfl) rfl rfl fun a56 h56 => wms 1 h56 rfl fun a57 h57 => wpList_nil <| hK54 _ _ ?_; clear h52 h55 h56
  have h58 : St 54 (fun _ => False) W a57 w26 [(4, .bool (decide ((nth (M.qs q) t).length < 3)))] [.blk b10 32 [.int .i64 ((nextIns (nth code.l t).l (nth thr.l t).pc).op), .int .i64 ((nextIns (nth code.l t).l (nth thr.l t).pc).a), .int .i64 ((nextIns (nth code.l t).l (nth thr.l t).pc).b), .int .i64 ((nextIns (nth code.l t).l (nth thr.l t).pc).c)], .rblk g 197 [.iface M.T (.pointer (some M.u)), .pointer (some ⟨gp, 0, none⟩), thr.v, pv, .bool fell], .rblk gp 25 [code.v, pw, .int .i64 locks, .int .i64 nregs], .at_ code, .at_ thr, .rblk M.g0 205 [words.v, owner.v], .at_ words, .at_ owner, .ro [M.X q]] := h57.nrm ⟨rfl, trivial⟩ [0, 1, 2, 3, 4, 5, 6, 7, 8] (by decide) ⟨rfl, rfl, rfl, rfl, rfl, rfl, rfl, rfl, rfl, trivial⟩
  clear h57
  refine wp_ret ?_
  try simp only [Exit.then, Exit.inBlock]
  refine x_ret1 (fn := Try.f150) (t := 4) rfl h58 rfl <| ⟨?_, (h58.sh.sel [] (by decide) trivial)⟩
  congr 1
  unfold ableF
  first | exact and_f' (by omega) | (refine and_t' (by omega) ?_; unfold ableL; first | (rw [if_pos (by omega)]; done) | (rw [if_neg (by omega), if_pos (by omega)]; done) | (rw [if_neg (by omega), if_neg (by omega), if_pos (by omega)]; first | exact and_f' (by omega) | exact and_t' (by omega) (dec_neg hge2)) | (rw [if_neg (by omega), if_neg (by omega), if_neg (by omega)]))
 have hp53 : ¬ ((nextIns (nth code.l t).l (nth thr.l t).pc).op = 18) := of_decide_eq_false hb53
 refine wp_seq_k fun K59 hK59 => wp_seq_k fun K60 hK60 => wp_region_lit <| wv h52 (r_eqlI (p := (nextIns (nth code.l t).l (nth thr.l t).pc).op) (q := 12) rfl rfl rfl) rfl rfl fun a61 h61 => wms 1 h61 rfl fun a62 h62 => wpList_nil <| hK60 _ _ ?_; clear h52 h61
 have h63 : St 54 (fun _ => False) W a62 w26 [(0, .pointer (some ⟨g, 0, none⟩)), (5, .pointer (some ⟨b10, 0, none⟩)), (7, .int .i64 (((nth (M.qs q) t).length : Nat) : Int)), (23, .int .i64 ((nextIns (nth code.l t).l (nth thr.l t).pc).op)), (30, .bool (decide ((nextIns (nth code.l t).l (nth thr.l t).pc).op = 12)))] [.blk b10 32 [.int .i64 ((nextIns (nth code.l t).l (nth thr.l t).pc).op), .int .i64 ((nextIns (nth code.l t).l (nth thr.l t).pc).a), .int .i64 ((nextIns (nth code.l t).l (nth thr.l t).pc).b), .int .i64 ((nextIns (nth code.l t).l (nth thr.l t).pc).c)], .rblk g 197 [.iface M.T (.pointer (some M.u)), .pointer (some ⟨gp, 0, none⟩), thr.v, pv, .bool fell], .rblk gp 25 [code.v, pw, .int .i64 locks, .int .i64 nregs], .at_ code, .at_ thr, .rblk M.g0 205 [words.v, owner.v], .at_ words, .at_ owner, .ro [M.X q]] := h62.nrm ⟨rfl, rfl, rfl, rfl, rfl, trivial⟩ [0, 1, 2, 3, 4, 5, 6, 7, 8] (by decide) ⟨rfl, rfl, rfl, rfl, rfl, rfl, rfl, rfl, rfl, trivial⟩
 clear h62
 refine x_cond h63 rfl (fun hb64 => ?_) (fun hb64 => ?_)
 ·have hp64 : (nextIns (nth code.l t).l (nth thr.l t).pc).op = 12 := of_decide_eq_true hb64
  refine wp_skip <| hK59 _ _ <| x_condT h63 rfl hb64 <| wp_seq_k fun K65 hK65 => wp_region_lit <| wms 1 h63 rfl fun a66 h66 => wv h66 (r_eqlN (p := (nth (M.qs q) t).length) (q := 0) rfl rfl rfl) rfl rfl fun a67 h67 => wms 1 h67 rfl fun a68 h68 => wpList_nil <| hK65 _ _ <| wp_ret ?_; clear h63 h66 h67
  try simp only [Exit.then, Exit.inBlock]
  refine x_ret1 (fn := Try.f150) (t := 4) rfl h68 rfl <| ⟨?_, (h68.sh.sel [] (by decide) trivial)⟩
  congr 1
  unfold ableF
  first | exact and_f' (by omega) | (refine and_t' (by omega) ?_; unfold ableL; first | (rw [if_pos (by omega)]; done) | (rw [if_neg (by omega), if_pos (by omega)]; done) | (rw [if_neg (by omega), if_neg (by omega), if_pos (by omega)]; first | exact and_f' (by omega) | exact and_t' (by omega) (dec_neg hge2)) | (rw [if_neg (by omega), if_neg (by omega), if_neg (by omega)]))
 have hp64 : ¬ ((nextIns (nth code.l t).l (nth thr.l t).pc).op = 12) := of_decide_eq_false hb64
 refine wp_region_lit <| wv h63 (r_eqlI (p := (nextIns (nth code.l t).l (nth thr.l t).pc).op) (q := 13) rfl rfl rfl) rfl rfl fun a69 h69 => wms 1 h69 rfl fun a70 h70 => wpList_nil <| hK59 _ _ <| x_cond h70 rfl (fun hb71 => ?_) (fun hb71 => ?_); clear h63 h69
 ·have hp71 : (nextIns (nth code.l t).l (nth thr.l t).pc).op = 13 := of_decide_eq_true hb71
  refine wp_seq_k fun K72 hK72 => wp_region_lit <| wms 1 h70 rfl fun a73 h73 => wv h73 (r_eqlN (p := (nth (M.qs q) t).length) (q := 0) rfl rfl rfl) rfl rfl fun a74 h74 => wms 1 h74 rfl fun a75 h75 => wpList_nil <| hK72 _ _ <| wp_ret ?_; clear h70 h73 h74
  try simp only [Exit.then, Exit.inBlock]
  refine x_ret1 (fn := Try.f150) (t := 4) rfl h75 rfl <| ⟨?_, (h75.sh.sel [] (by decide) trivial)⟩
  congr 1
  unfold ableF
  first | exact and_f' (by omega) | (refine and_t' (by omega) ?_; unfold ableL; first | (rw [if_pos (by omega)]; done) | (rw [if_neg (by omega), if_pos (by omega)]; done) | (rw [if_neg (by omega), if_neg (by omega), if_pos (by omega)]; first | exact and_f' (by omega) | exact and_t' (by omega) (dec_neg hge2)) | (rw [if_neg (by omega), if_neg (by omega), if_neg (by omega)]))
 have hp71 : ¬ ((nextIns (nth code.l t).l (nth thr.l t).pc).op = 13) := of_decide_eq_false hb71
 refine wp_seq_k fun K76 hK76 => wp_region_lit <| wv h70 (r_eqlI (p := (nextIns (nth code.l t).l (nth thr.l t).pc).op) (q := 17) rfl rfl rfl) rfl rfl fun a77 h77 => wms 1 h77 rfl fun a78 h78 => wpList_nil <| hK76 _ _ <| x_cond h78 rfl (fun hb79 => ?_) (fun hb79 => ?_); clear h70 h77
 ·have hp79 : (nextIns (nth code.l t).l (nth thr.l t).pc).op = 17 := of_decide_eq_true hb79
  have hlk3 := hlk2 (by assumption)
  have hge2 := hge _ (nth_mem owner.l (nextIns (nth code.l t).l (nth thr.l t).pc).a.toNat (by omega))
  refine wp_seq_k fun K80 hK80 => x_quiet (by kernel_rfl) (by kernel_rfl) h78 fun Z81 hZ81 => ?_
  have hq81 := h78.fr
  refine wq_val hq81 (r_move rfl rfl) (wanted_none rfl _) rfl rfl fun a82 hq82 => wq_val hq82 (r_eqlN (p := (nth (M.qs q) t).length) (q := 0) rfl rfl rfl) (wanted_none rfl _) rfl rfl fun a83 hq83 => wq_val hq83 (r_move rfl rfl) (wanted_none rfl _) rfl rfl fun a84 hq84 => ?_; clear hq81 hq82 hq83
  rcases Bool.eq_false_or_eq_true (decide ((nth (M.qs q) t).length = 0)) with hb85 | hb85
  ·have hp85 : (nth (M.qs q) t).length = 0 := of_decide_eq_true hb85
   refine wq_val hq84 (r_move rfl rfl) (wanted_yes hq84 rfl rfl rfl rfl hb85) rfl rfl fun a87 hq87 => wq_val hq87 (r_nil rfl rfl) (wanted_yes hq87 rfl rfl rfl rfl hb85) rfl rfl fun a89 hq89 => wq_val hq89 (r_fieldB (r := 0) fl_197_0 rfl rfl rfl) (wanted_yes hq89 rfl rfl rfl rfl hb85) rfl rfl fun a91 hq91 => wq_val hq91 (r_ldbR ti_129 rfl rfl (fun w h => h.rblk 1 rfl) rfl) (wanted_yes hq91 rfl rfl rfl rfl hb85) rfl rfl fun a93 hq93 => wq_inv hq93 rfl rfl rfl (wanted_yes hq93 rfl rfl rfl rfl hb85) rfl rfl (fun w h => (hM.base _ words owner q ⟨h.rblk 5 rfl, h.at 6 rfl, h.at 7 rfl, (h.ok _ (List.mem_of_getElem? (i := 8) rfl)) _ (List.mem_singleton.2 rfl)⟩)) fun a95 hq95 => wq_val hq95 (r_nil rfl rfl) (wanted_yes hq95 rfl rfl rfl rfl hb85) rfl rfl fun a97 hq97 => wq_val hq97 (r_fieldB (r := 1) fl_205_1 rfl rfl rfl) (wanted_yes hq97 rfl rfl rfl rfl hb85) rfl rfl fun a99 hq99 => wq_val hq99 (r_ldbR ti_23 rfl rfl (fun w h => h.rblk 5 rfl) rfl) (wanted_yes hq99 rfl rfl rfl rfl hb85) rfl rfl fun a101 hq101 => wq_val hq101 (r_fieldB (r := 1) fl_32_1 rfl rfl rfl) (wanted_yes hq101 rfl rfl rfl rfl hb85) rfl rfl fun a103 hq103 => wq_val hq103 (r_ldb (i := 0) ti_3 rfl rfl rfl rfl) (wanted_yes hq103 rfl rfl rfl rfl hb85) rfl rfl fun a105 hq105 => ?_; clear hq84 hq87 hq89 hq91 hq93 hq95 hq97 hq99 hq101 hq103
   have hl107 : owner.l.length ≤ 140737488355328 := (h78.sh.at 7 rfl).len
   refine wq_val hq105 (r_ixI (s := owner) (q := (nextIns (nth code.l t).l (nth thr.l t).pc).a) sl_23 ti_3 rfl rfl rfl (fun w h => (h.at 7 rfl)) (show 0 ≤ (nextIns (nth code.l t).l (nth thr.l t).pc).a ∧ (nextIns (nth code.l t).l (nth thr.l t).pc).a < owner.l.length from (by omega))) (wanted_yes hq105 rfl rfl rfl rfl hb85) rfl rfl fun a108 hq108 => wq_val hq108 (r_lde (s := owner) (i := ((nextIns (nth code.l t).l (nth thr.l t).pc).a).toNat) (v := .int .i64 (nth owner.l (((nextIns (nth code.l t).l (nth thr.l t).pc).a).toNat))) ti_3 rfl rfl rfl (fun w h => (h.at 7 rfl)) (show ((nextIns (nth code.l t).l (nth thr.l t).pc).a).toNat < owner.l.length from (by omega)) (Nat.le_of_ble_eq_true rfl) rfl) (wanted_yes hq108 rfl rfl rfl rfl hb85) rfl rfl fun a110 hq110 => wq_val hq110 (r_lssI (p := nth owner.l (((nextIns (nth code.l t).l (nth thr.l t).pc).a).toNat)) (q := 0) rfl rfl rfl) (wanted_yes hq110 rfl rfl rfl rfl hb85) rfl rfl fun a112 hq112 => wq_val hq112 (r_pickT rfl rfl hb85 rfl) (wanted_none rfl _) rfl rfl fun a113 hq113 => wq_val hq113 (r_assign rfl rfl) (wanted_none rfl _) rfl rfl fun a114 hq114 => wpQuiet_nil (hZ81 _ fun w115 hw115 => ?_); clear hq105 hq108 hq110 hq112 hq113
   have h115 : St 54 (fun _ => False) W a114 w115 _ _ := ⟨hq114, hw115⟩
   clear hq114 hw115 h78
   refine hK80 _ _ ?_
   have h116 : St 54 (fun _ => False) W a114 w115 [(4, .bool (decide (nth owner.l (((nextIns (nth code.l t).l (nth thr.l t).pc).a).toNat) < 0)))] [.blk b10 32 [.int .i64 ((nextIns (nth code.l t).l (nth thr.l t).pc).op), .int .i64 ((nextIns (nth code.l t).l (nth thr.l t).pc).a), .int .i64 ((nextIns (nth code.l t).l (nth thr.l t).pc).b), .int .i64 ((nextIns (nth code.l t).l (nth thr.l t).pc).c)], .rblk g 197 [.iface M.T (.pointer (some M.u)), .pointer (some ⟨gp, 0, none⟩), thr.v, pv, .bool fell], .rblk gp 25 [code.v, pw, .int .i64 locks, .int .i64 nregs], .at_ code, .at_ thr, .rblk M.g0 205 [words.v, owner.v], .at_ words, .at_ owner, .ro [M.X q]] := h115.nrm ⟨rfl, trivial⟩ [0, 1, 2, 3, 4, 5, 6, 7, 8] (by decide) ⟨rfl, rfl, rfl, rfl, rfl, rfl, rfl, rfl, rfl, trivial⟩
   clear h115
   refine wp_ret ?_
   try simp only [Exit.then, Exit.inBlock]
   refine x_ret1 (fn := Try.f150) (t := 4) rfl h116 rfl <| ⟨?_, (h116.sh.sel [] (by decide) trivial)⟩
   congr 1
   unfold ableF
   first | exact and_f' (by omega) | (refine and_t' (by omega) ?_; unfold ableL; first | (rw [if_pos (by omega)]; done) | (rw [if_neg (by omega), if_pos (by omega)]; done) | (rw [if_neg (by omega), if_neg (by omega), if_pos (by omega)]; first | exact and_f' (by omega) | exact and_t' (by omega) (dec_neg hge2)) | (rw [if_neg (by omega), if_neg (by omega), if_neg (by omega)]))
  have hp85 : ¬ ((nth (M.qs q) t).length = 0) := of_decide_eq_false hb85
  refine wq_skip hq84 (wanted_no hq84 rfl rfl rfl rfl hb85) rfl rfl fun a117 hq117 => wq_skip hq117 (wanted_no hq117 rfl rfl rfl rfl hb85) rfl rfl fun a118 hq118 => wq_skip hq118 (wanted_no hq118 rfl rfl rfl rfl hb85) rfl rfl fun a119 hq119 => wq_skip hq119 (wanted_no hq119 rfl rfl rfl rfl hb85) rfl rfl fun a120 hq120 => wq_skip hq120 (wanted_no hq120 rfl rfl rfl rfl hb85) rfl rfl fun a121 hq121 => wq_skip hq121 (wanted_no hq121 rfl rfl rfl rfl hb85) rfl rfl fun a122 hq122 => wq_skip hq122 (wanted_no hq122 rfl rfl rfl rfl hb85) rfl rfl fun a123 hq123 => wq_skip hq123 (wanted_no hq123 rfl rfl rfl rfl hb85) rfl rfl fun a124 hq124 => wq_skip hq124 (wanted_no hq124 rfl rfl rfl rfl hb85) rfl rfl fun a125 hq125 => wq_skip hq125 (wanted_no hq125 rfl rfl rfl rfl hb85) rfl rfl fun a126 hq126 => wq_skip hq126 (wanted_no hq126 rfl rfl rfl rfl hb85) rfl rfl fun a127 hq127 => wq_skip hq127 (wanted_no hq127 rfl rfl rfl rfl hb85) rfl rfl fun a128 hq128 => wq_skip hq128 (wanted_no hq128 rfl rfl rfl rfl hb85) rfl rfl fun a129 hq129 => wq_val hq129 (r_pickF rfl rfl hb85 rfl) (wanted_none rfl _) rfl rfl fun a130 hq130 => ?_; clear hq84 hq117 hq118 hq119 hq120 hq121 hq122 hq123 hq124 hq125 hq126 hq127 hq128 hq129
  refine wq_val hq130 (r_assign rfl rfl) (wanted_none rfl _) rfl rfl fun a131 hq131 => wpQuiet_nil (hZ81 _ fun w132 hw132 => ?_); clear hq130
  have h132 : St 54 (fun _ => False) W a131 w132 _ _ := ⟨hq131, hw132⟩
  clear hq131 hw132 h78
  refine hK80 _ _ ?_
  have h133 : St 54 (fun _ => False) W a131 w132 [(4, .bool false)] [.blk b10 32 [.int .i64 ((nextIns (nth code.l t).l (nth thr.l t).pc).op), .int .i64 ((nextIns (nth code.l t).l (nth thr.l t).pc).a), .int .i64 ((nextIns (nth code.l t).l (nth thr.l t).pc).b), .int .i64 ((nextIns (nth code.l t).l (nth thr.l t).pc).c)], .rblk g 197 [.iface M.T (.pointer (some M.u)), .pointer (some ⟨gp, 0, none⟩), thr.v, pv, .bool fell], .rblk gp 25 [code.v, pw, .int .i64 locks, .int .i64 nregs], .at_ code, .at_ thr, .rblk M.g0 205 [words.v, owner.v], .at_ words, .at_ owner, .ro [M.X q]] := h132.nrm ⟨rfl, trivial⟩ [0, 1, 2, 3, 4, 5, 6, 7, 8] (by decide) ⟨rfl, rfl, rfl, rfl, rfl, rfl, rfl, rfl, rfl, trivial⟩
  clear h132
  refine wp_ret ?_
  try simp only [Exit.then, Exit.inBlock]
  refine x_ret1 (fn := Try.f150) (t := 4) rfl h133 rfl <| ⟨?_, (h133.sh.sel [] (by decide) trivial)⟩
  congr 1
  unfold ableF
  first | exact and_f' (by omega) | (refine and_t' (by omega) ?_; unfold ableL; first | (rw [if_pos (by omega)]; done) | (rw [if_neg (by omega), if_pos (by omega)]; done) | (rw [if_neg (by omega), if_neg (by omega), if_pos (by omega)]; first | exact and_f' (by omega) | exact and_t' (by omega) (dec_neg hge2)) | (rw [if_neg (by omega), if_neg (by omega), if_neg (by omega)]))
 have hp79 : ¬ ((nextIns (nth code.l t).l (nth thr.l t).pc).op = 17) := of_decide_eq_false hb79
 refine wp_skip <| hK28 _ _ <| wp_seq_k fun K134 hK134 => wp_region_lit <| wms 1 h78 rfl fun a135 h135 => wpList_nil <| hK134 _ _ <| wp_ret ?_; clear h78
 try simp only [Exit.then, Exit.inBlock]
 refine x_ret1 (fn := Try.f150) (t := 4) rfl h135 rfl <| ⟨?_, (h135.sh.sel [] (by decide) trivial)⟩
 congr 1
 unfold ableF
 first | exact and_f' (by omega) | (refine and_t' (by omega) ?_; unfold ableL; first | (rw [if_pos (by omega)]; done) | (rw [if_neg (by omega), if_pos (by omega)]; done) | (rw [if_neg (by omega), if_neg (by omega), if_pos (by omega)]; first | exact and_f' (by omega) | exact and_t' (by omega) (dec_neg hge2)) | (rw [if_neg (by omega), if_neg (by omega), if_neg (by omega)]))

set_option maxRecDepth 100000 in
set_option maxHeartbeats 2000000 in
theorem pmoves_c (M : MemS) (g gp : Nat) (code : Ls (Ls Ins)) (thr : Ls ThQ) (words owner : Ls Int) (q : M.σ) (pw pv : Value) (locks nregs : Int) (fell : Bool) (W : World) (hM : MemI Try.prog 205 3 M) (hB : Blk W g 197 #[.iface M.T (.pointer (some M.u)), .pointer (some ⟨gp, 0, none⟩), thr.v, pv, .bool fell]) (hP : Blk W gp 25 #[code.v, pw, .int .i64 locks, .int .i64 nregs]) (h_code : code.At W) (h_thr : thr.At W) (hR : MemRd 205 M W words owner q) (hql : (M.qs q).length = code.l.length) (hw3 : ∀ t, t < code.l.length → (nth (M.qs q) t).length ≤ 3) (htl : thr.l.length = code.l.length) (hpc : ∀ t, t < code.l.length → 0 ≤ (nth thr.l t).pc ∧ (nth thr.l t).pc ≤ (nth code.l t).l.length) (hlk : ∀ t, t < code.l.length → ∀ i, i < (nth code.l t).l.length → (nth (nth code.l t).l i).op = 17 → 0 ≤ (nth (nth code.l t).l i).a ∧ (nth (nth code.l t).l i).a < owner.l.length) (hge : ∀ v ∈ owner.l, -1 ≤ v) (hcl : code.l.length ≤ 4) :
    Rets Try.prog 122 [.pointer (some ⟨g, 0, none⟩)] W (fun v w' => ∃ s : Ls Mv, v = s.v ∧ s.l = movesF M.m code thr.l (M.qs q) owner.l code.l.length ∧ Sh0 W w' [.own 203 s]) := by
 refine x_enter (N := 43) Try.func122 rfl Try.ntmps122 (Nat.le_of_ble_eq_true rfl) fun a1 hf1 => ?_
 have h1 : St 43 (fun _ => False) W a1 W [(0, .pointer (some ⟨g, 0, none⟩))] [.rblk g 197 [.iface M.T (.pointer (some M.u)), .pointer (some ⟨gp, 0, none⟩), thr.v, pv, .bool fell], .rblk gp 25 [code.v, pw, .int .i64 locks, .int .i64 nregs], .at_ code, .at_ thr, .rblk M.g0 205 [words.v, owner.v], .at_ words, .at_ owner, .ro [M.X q]] := ⟨hf1.sub ⟨rfl, trivial⟩, Sh0.ext (by intro A hA; simp only [List.mem_cons, List.not_mem_nil, or_false] at hA; rcases hA with rfl | rfl | rfl | rfl | rfl | rfl | rfl | rfl; exact hB; exact hP; exact h_code; exact h_thr; exact hR.blk; exact hR.wa; exact hR.oa; exact (fun A hA => by obtain rfl := List.mem_singleton.1 hA; exact hR.x)) (by intro A hA b hb; simp only [List.mem_cons, List.not_mem_nil, or_false] at hA; rcases hA with rfl | rfl | rfl | rfl | rfl | rfl | rfl | rfl <;> exact hb)⟩
 clear hf1
 refine wp_seq_k fun K2 hK2 => wp_region_lit <| wms 1 h1 rfl fun a3 h3 => wpList_nil <| hK2 _ _ <| wp_seq_k fun K4 hK4 => wp_region_lit <| wms 1 h3 rfl fun a5 h5 => wpList_nil <| hK4 _ _ <| wp_seq_k fun K6 hK6 => wp_seq_k fun K7 hK7 => wp_region_lit <| wms 1 h5 rfl fun a8 h8 => ?_; clear h1 h3 h5
 refine wv h8 (r_nil rfl rfl) rfl rfl fun a9 h9 => wv h9 (r_fieldB (r := 2) fl_197_2 rfl rfl rfl) rfl rfl fun a10 h10 => wv h10 (r_ldbR ti_195 rfl rfl (fun w h => h.rblk 0 rfl) rfl) rfl rfl fun a11 h11 => ?_; clear h8 h9 h10
 have hl12 : thr.l.length ≤ 140737488355328 := (h11.sh.at 3 rfl).len
 refine wv h11 (r_len (s := thr) (n := thr.l.length) sl_195 rfl rfl (fun w h => (h.at 3 rfl)) rfl) rfl rfl fun a13 h13 => wms 1 h13 rfl fun a14 h14 => wpList_nil <| hK7 _ _ <| wp_block ?_; clear h11 h13
 have h16 := h14.nil (α := Mv) 203
 clear h14
 refine x_loop (fun m a w => ∃ (t : Nat) (ml : List Mv) (vm : Value), (t ≤ thr.l.length) ∧ (ml = movesF M.m code thr.l (M.qs q) owner.l t) ∧ (ml.length ≤ 4 * t) ∧ St 43 (fun _ => False) W a w [(0, .pointer (some ⟨g, 0, none⟩)), (3, vm), (11, .int .i64 ((thr.l.length : Nat) : Int)), (12, .int .i64 ((t : Nat) : Int))] [.rblk g 197 [.iface M.T (.pointer (some M.u)), .pointer (some ⟨gp, 0, none⟩), thr.v, pv, .bool fell], .rblk gp 25 [code.v, pw, .int .i64 locks, .int .i64 nregs], .at_ code, .at_ thr, .rblk M.g0 205 [words.v, owner.v], .at_ words, .at_ owner, .ro [M.X q], .own 203 (⟨vm, ml⟩ : Ls Mv)] ∧ m = thr.l.length - t) ⟨_, 0, [], (.slice none 0 0), (by omega), (rfl), (by simp), h16.nrm ⟨rfl, rfl, rfl, rfl, trivial⟩ [1, 2, 3, 4, 5, 6, 7, 8, 0] (by decide) ⟨rfl, rfl, rfl, rfl, rfl, rfl, rfl, rfl, rfl, trivial⟩, rfl⟩ ?_
 clear h16
 rintro m15 a15 w15 ⟨t, ml, vm, ht, hml, hmn, h15, hm15⟩
 refine wp_seq_k fun K17 hK17 => wp_region_lit <| wv h15 (r_lssN (p := t) (q := thr.l.length) rfl rfl rfl) rfl rfl fun a18 h18 => wpList_nil <| hK17 _ _ <| wp_seq_k fun K19 hK19 => x_cond h18 rfl (fun hb20 => ?_) (fun hb20 => ?_); clear h15
 ·have hp20 : t < thr.l.length := of_decide_eq_true hb20
  refine wp_skip <| hK19 _ _ <| wp_seq_k fun K21 hK21 => wp_block <| wp_seq_k fun K22 hK22 => wp_region_lit <| wms 2 h18 rfl fun a23 h23 => wpList_nil <| hK22 _ _ <| wp_seq_k fun K24 hK24 => wp_seq_k fun K25 hK25 => wp_region_lit <| wms 2 h23 rfl fun a26 h26 => wl_ex (x_call h26 bd_150 rfl rfl rfl rfl rfl (pable_c M g gp code thr words owner q _ _ _ _ _ t _ hM (h26.sh.rblk 0 rfl) (h26.sh.rblk 1 rfl) (h26.sh.at 2 rfl) (h26.sh.at 3 rfl) ⟨h26.sh.rblk 4 rfl, h26.sh.at 5 rfl, h26.sh.at 6 rfl, (h26.sh.ok _ (List.mem_of_getElem? (i := 7) rfl)) _ (List.mem_singleton.2 rfl)⟩ hql hw3 htl hpc hlk hge (by omega))) (wanted_none rfl _) ?_; clear h18 h23
  rintro a27 w27 ⟨_, ⟨rfl, hs27⟩, hf27⟩
  have h27 : St 43 (fun _ => False) W a27 w27 _ _ := ⟨hf27, h26.sh.call0 hs27⟩
  clear hf27 hs27
  clear h26
  refine wpList_nil <| hK25 _ _ <| x_cond h27 rfl (fun hb28 => ?_) (fun hb28 => ?_)
  ·skip
   refine wp_region_lit <| wms 2 h27 rfl fun a29 h29 => wv h29 (r_build (cs := [.int .i64 ((t : Nat) : Int), .int .i64 (-1)]) rfl rfl (by kernel_rfl)) rfl rfl fun a30 h30 => wl_ex (x_lit (n := 1) (cs := [.int .i64 ((t : Nat) : Int), .int .i64 (-1)]) ([(⟨((t : Nat) : Int), (-1)⟩ : Mv)] : List Mv) h30 sl_199 ti_203 rfl rfl rfl (by decide) rfl (by kernel_rfl) rfl (fun q hq w h => Flat.inner _ _) (fun q hq b hb => (Flat.on _ _ hb).elim) rfl rfl) (wanted_none rfl _) ?_; clear h27 h29
   rintro a31 w31 ⟨v31, h31⟩; clear h30
   refine wl_ex (x_app (r := 9) (rm := 0) (s := (⟨vm, ml⟩ : Ls Mv)) (m := (⟨v31, [(⟨((t : Nat) : Int), (-1)⟩ : Mv)]⟩ : Ls Mv)) h31 sl_199 ti_203 rfl rfl rfl rfl rfl rfl rfl (fun w h => (h.own 0 rfl)) (fun b hb => own_on (h31.sh.ok _ (List.mem_of_getElem? (i := 0) rfl)) hb) (fun q hq b hb => ⟨q, hq, hb⟩) rfl rfl rfl inferInstance (show (ml.length + ([(⟨((t : Nat) : Int), (-1)⟩ : Mv)]).length) * 16 ≤ 140737488355328 ∧ ml.length + ([(⟨((t : Nat) : Int), (-1)⟩ : Mv)]).length ≤ 140737488355328 from (by first | omega | (simp only [lens9]; omega))) rfl rfl) (wanted_none rfl _) ?_
   rintro a32 w32 ⟨v32, h32⟩; clear h31
   refine wms 1 h32 rfl fun a33 h33 => wpList_nil <| hK24 _ _ <| wp_seq_k fun K34 hK34 => wp_region_lit <| wms 1 h33 rfl fun a35 h35 => wv h35 (r_nil rfl rfl) rfl rfl fun a36 h36 => wv h36 (r_fieldB (r := 0) fl_197_0 rfl rfl rfl) rfl rfl fun a37 h37 => wv h37 (r_ldbR ti_129 rfl rfl (fun w h => h.rblk 1 rfl) rfl) rfl rfl fun a38 h38 => wms 1 h38 rfl fun a39 h39 => wl_ex (x_inv2 h39 rfl rfl rfl rfl rfl (hM.ready _ words owner q t ⟨h39.sh.rblk 5 rfl, h39.sh.at 6 rfl, h39.sh.at 7 rfl, (h39.sh.ok _ (List.mem_of_getElem? (i := 8) rfl)) _ (List.mem_singleton.2 rfl)⟩ (by omega) (hw3 t (by omega)))) (wanted_none rfl _) ?_; clear h32 h33 h35 h36 h37 h38
   rintro a40 w40 ⟨_, ⟨rl, rfl, hrl, hs40⟩, hf40⟩
   have h40 := (⟨hf40, h39.sh.call hs40 (by intro A hA b hb; first | (simp at hA; done) | (simp at hA; subst hA; first | exact Flat.noRd hb | exact (hb : False).elim) | (simp at hA; rcases hA with rfl | rfl <;> first | exact Flat.noRd hb | exact (hb : False).elim))⟩ : St 43 (fun _ => False) W a40 w40 _ _)
   clear hf40 hs40
   clear h39
   have hl41 : rl.l.length ≤ 140737488355328 := (h40.sh.own 0 rfl).len
   refine wv h40 (r_len (s := rl) (n := rl.l.length) sl_23 rfl rfl (fun w h => (h.own 0 rfl)) rfl) rfl rfl fun a42 h42 => wms 1 h42 rfl fun a43 h43 => wpList_nil <| hK34 _ _ <| wp_block ?_; clear h40 h42
   have hwt := hw3 t (by omega)
   have hrn : rl.l.length ≤ 3 := by rw [hrl, List.length_map]; exact Nat.le_trans (List.length_filter_le _ _) (by simpa using hwt)
   refine x_loop (fun m a w => ∃ (k : Nat) (ml2 : List Mv) (vm2 : Value), (k ≤ rl.l.length) ∧ (ml2 = ml ++ ((if ableF code thr.l (M.qs q) owner.l t = true then [⟨(t : Int), -1⟩] else []) ++ (rl.l.take k).map (fun x => (⟨(t : Int), x⟩ : Mv)))) ∧ (ml2.length ≤ 4 * t + 1 + k) ∧ St 43 (fun _ => False) W a w [(0, .pointer (some ⟨g, 0, none⟩)), (3, vm2), (4, .int .i64 ((t : Nat) : Int)), (11, .int .i64 ((thr.l.length : Nat) : Int)), (12, .int .i64 ((t : Nat) : Int)), (28, rl.v), (29, .int .i64 ((rl.l.length : Nat) : Int)), (30, .int .i64 ((k : Nat) : Int))] [.own 3 rl, .own 203 (⟨v31, [(⟨((t : Nat) : Int), (-1)⟩ : Mv)]⟩ : Ls Mv), .rblk g 197 [.iface M.T (.pointer (some M.u)), .pointer (some ⟨gp, 0, none⟩), thr.v, pv, .bool fell], .rblk gp 25 [code.v, pw, .int .i64 locks, .int .i64 nregs], .at_ code, .at_ thr, .rblk M.g0 205 [words.v, owner.v], .at_ words, .at_ owner, .ro [M.X q], .own 203 (⟨vm2, ml2⟩ : Ls Mv)] ∧ m = rl.l.length - k) ⟨_, 0, ml ++ ([(⟨((t : Nat) : Int), (-1)⟩ : Mv)]), v32, (by omega), (by first | (rw [if_pos (by assumption)]; simp) | (rw [if_neg (by rw [show ableF code thr.l (M.qs q) owner.l t = false by assumption]; decide)]; simp)), (by simp; omega), h43.nrm ⟨rfl, rfl, rfl, rfl, rfl, rfl, rfl, rfl, trivial⟩ [0, 1, 2, 3, 4, 5, 6, 7, 8, 9, 10] (by decide) ⟨rfl, rfl, rfl, rfl, rfl, rfl, rfl, rfl, rfl, rfl, rfl, trivial⟩, rfl⟩ ?_
   clear h43
   rintro m44 a44 w44 ⟨k, ml2, vm2, hk, hml2, hmn2, h44, hm44⟩
   refine wp_seq_k fun K45 hK45 => wp_region_lit <| wv h44 (r_lssN (p := k) (q := rl.l.length) rfl rfl rfl) rfl rfl fun a46 h46 => wpList_nil <| hK45 _ _ <| wp_seq_k fun K47 hK47 => x_cond h46 rfl (fun hb48 => ?_) (fun hb48 => ?_); clear h44
   ·have hp48 : k < rl.l.length := of_decide_eq_true hb48
    refine wp_skip <| hK47 _ _ <| wp_seq_k fun K49 hK49 => wp_block <| wp_seq_k fun K50 hK50 => wp_region_lit <| wv h46 (r_ixN (s := rl) (q := k) sl_23 ti_3 rfl rfl rfl (fun w h => (h.own 0 rfl)) (show k < rl.l.length from (by omega))) rfl rfl fun a51 h51 => wv h51 (r_lde (s := rl) (i := k) (v := .int .i64 (nth rl.l k)) ti_3 rfl rfl rfl (fun w h => (h.own 0 rfl)) (show k < rl.l.length from (by omega)) (Nat.le_of_ble_eq_true rfl) rfl) rfl rfl fun a52 h52 => wms 1 h52 rfl fun a53 h53 => wpList_nil <| hK50 _ _ <| wp_region_lit <| wms 3 h53 rfl fun a54 h54 => wv h54 (r_build (cs := [.int .i64 ((t : Nat) : Int), .int .i64 (nth rl.l k)]) rfl rfl (by kernel_rfl)) rfl rfl fun a55 h55 => ?_; clear h46 h51 h52 h53 h54
    refine wl_ex (x_lit (n := 1) (cs := [.int .i64 ((t : Nat) : Int), .int .i64 (nth rl.l k)]) ([(⟨((t : Nat) : Int), nth rl.l k⟩ : Mv)] : List Mv) h55 sl_199 ti_203 rfl rfl rfl (by decide) rfl (by kernel_rfl) rfl (fun q hq w h => Flat.inner _ _) (fun q hq b hb => (Flat.on _ _ hb).elim) rfl rfl) (wanted_none rfl _) ?_
    rintro a56 w56 ⟨v56, h56⟩; clear h55
    refine wl_ex (x_app (r := 11) (rm := 0) (s := (⟨vm2, ml2⟩ : Ls Mv)) (m := (⟨v56, [(⟨((t : Nat) : Int), nth rl.l k⟩ : Mv)]⟩ : Ls Mv)) h56 sl_199 ti_203 rfl rfl rfl rfl rfl rfl rfl (fun w h => (h.own 0 rfl)) (fun b hb => own_on (h56.sh.ok _ (List.mem_of_getElem? (i := 0) rfl)) hb) (fun q hq b hb => ⟨q, hq, hb⟩) rfl rfl rfl inferInstance (show (ml2.length + ([(⟨((t : Nat) : Int), nth rl.l k⟩ : Mv)]).length) * 16 ≤ 140737488355328 ∧ ml2.length + ([(⟨((t : Nat) : Int), nth rl.l k⟩ : Mv)]).length ≤ 140737488355328 from (by first | omega | (simp only [lens9]; omega))) rfl rfl) (wanted_none rfl _) ?_
    rintro a57 w57 ⟨v57, h57⟩; clear h56
    refine wms 1 h57 rfl fun a58 h58 => wpList_nil <| hK49 _ _ <| wp_region_lit <| wv h58 (r_addN (p := k) (q := 1) rfl rfl rfl (show k + 1 < 9223372036854775808 from (by omega))) rfl rfl fun a59 h59 => wms 1 h59 rfl fun a60 h60 => wpList_nil <| x_again ⟨_, ?_, k + 1, ml2 ++ ([(⟨((t : Nat) : Int), nth rl.l k⟩ : Mv)]), v57, ?_, ?_, ?_, h60.nrm ⟨rfl, rfl, rfl, rfl, rfl, rfl, rfl, rfl, trivial⟩ [1, 2, 3, 4, 5, 6, 7, 8, 9, 10, 11] (by decide) ⟨rfl, rfl, rfl, rfl, rfl, rfl, rfl, rfl, rfl, rfl, rfl, trivial⟩, rfl⟩; clear h57 h58 h59
    · rw [hm44]; first | omega | (simp only [lens9]; omega)
    · omega
    · rw [take_succ_nth _ _ (by omega), List.map_append, hml2]; simp only [List.append_assoc, List.map_cons, List.map_nil]
    · first | omega | (simp; omega)
   have hp48 : ¬ (k < rl.l.length) := of_decide_eq_false hb48
   refine wp_exit <| hK21 _ _ <| wp_region_lit <| wv h46 (r_addN (p := t) (q := 1) rfl rfl rfl (show t + 1 < 9223372036854775808 from (by omega))) rfl rfl fun a61 h61 => wms 1 h61 rfl fun a62 h62 => wpList_nil <| x_again ⟨_, ?_, t + 1, ml2, vm2, ?_, ?_, ?_, h62.nrm ⟨rfl, rfl, rfl, rfl, trivial⟩ [2, 3, 4, 5, 6, 7, 8, 9, 10] (by decide) ⟨rfl, rfl, rfl, rfl, rfl, rfl, rfl, rfl, rfl, trivial⟩, rfl⟩; clear h46 h61
   · rw [hm15]; first | omega | (simp only [lens9]; omega)
   · omega
   · rw [movesF_succ, ← hml, movF_eq hrl, hml2, List.take_of_length_le (by omega)]
   · omega
  refine wp_skip <| hK24 _ _ <| wp_seq_k fun K63 hK63 => wp_region_lit <| wms 1 h27 rfl fun a64 h64 => wv h64 (r_nil rfl rfl) rfl rfl fun a65 h65 => wv h65 (r_fieldB (r := 0) fl_197_0 rfl rfl rfl) rfl rfl fun a66 h66 => wv h66 (r_ldbR ti_129 rfl rfl (fun w h => h.rblk 0 rfl) rfl) rfl rfl fun a67 h67 => wms 1 h67 rfl fun a68 h68 => wl_ex (x_inv2 h68 rfl rfl rfl rfl rfl (hM.ready _ words owner q t ⟨h68.sh.rblk 4 rfl, h68.sh.at 5 rfl, h68.sh.at 6 rfl, (h68.sh.ok _ (List.mem_of_getElem? (i := 7) rfl)) _ (List.mem_singleton.2 rfl)⟩ (by omega) (hw3 t (by omega)))) (wanted_none rfl _) ?_; clear h27 h64 h65 h66 h67
  rintro a69 w69 ⟨_, ⟨rl, rfl, hrl, hs69⟩, hf69⟩
  have h69 := (⟨hf69, h68.sh.call hs69 (by intro A hA b hb; first | (simp at hA; done) | (simp at hA; subst hA; first | exact Flat.noRd hb | exact (hb : False).elim) | (simp at hA; rcases hA with rfl | rfl <;> first | exact Flat.noRd hb | exact (hb : False).elim))⟩ : St 43 (fun _ => False) W a69 w69 _ _)
  clear hf69 hs69
  clear h68
  have hl70 : rl.l.length ≤ 140737488355328 := (h69.sh.own 0 rfl).len
  refine wv h69 (r_len (s := rl) (n := rl.l.length) sl_23 rfl rfl (fun w h => (h.own 0 rfl)) rfl) rfl rfl fun a71 h71 => wms 1 h71 rfl fun a72 h72 => wpList_nil <| hK63 _ _ <| wp_block ?_; clear h69 h71
  have hwt := hw3 t (by omega)
  have hrn : rl.l.length ≤ 3 := by rw [hrl, List.length_map]; exact Nat.le_trans (List.length_filter_le _ _) (by simpa using hwt)
  refine x_loop (fun m a w => ∃ (k : Nat) (ml2 : List Mv) (vm2 : Value), (k ≤ rl.l.length) ∧ (ml2 = ml ++ ((if ableF code thr.l (M.qs q) owner.l t = true then [⟨(t : Int), -1⟩] else []) ++ (rl.l.take k).map (fun x => (⟨(t : Int), x⟩ : Mv)))) ∧ (ml2.length ≤ 4 * t + 1 + k) ∧ St 43 (fun _ => False) W a w [(0, .pointer (some ⟨g, 0, none⟩)), (3, vm2), (4, .int .i64 ((t : Nat) : Int)), (11, .int .i64 ((thr.l.length : Nat) : Int)), (12, .int .i64 ((t : Nat) : Int)), (28, rl.v), (29, .int .i64 ((rl.l.length : Nat) : Int)), (30, .int .i64 ((k : Nat) : Int))] [.own 3 rl, .rblk g 197 [.iface M.T (.pointer (some M.u)), .pointer (some ⟨gp, 0, none⟩), thr.v, pv, .bool fell], .rblk gp 25 [code.v, pw, .int .i64 locks, .int .i64 nregs], .at_ code, .at_ thr, .rblk M.g0 205 [words.v, owner.v], .at_ words, .at_ owner, .ro [M.X q], .own 203 (⟨vm2, ml2⟩ : Ls Mv)] ∧ m = rl.l.length - k) ⟨_, 0, ml, vm, (by omega), (by first | (rw [if_pos (by assumption)]; simp) | (rw [if_neg (by rw [show ableF code thr.l (M.qs q) owner.l t = false by assumption]; decide)]; simp)), (by simp; omega), h72.nrm ⟨rfl, rfl, rfl, rfl, rfl, rfl, rfl, rfl, trivial⟩ [0, 1, 2, 3, 4, 5, 6, 7, 8, 9] (by decide) ⟨rfl, rfl, rfl, rfl, rfl, rfl, rfl, rfl, rfl, rfl, trivial⟩, rfl⟩ ?_
  clear h72
  rintro m73 a73 w73 ⟨k, ml2, vm2, hk, hml2, hmn2, h73, hm73⟩
  refine wp_seq_k fun K74 hK74 => wp_region_lit <| wv h73 (r_lssN (p := k) (q := rl.l.length) rfl rfl rfl) rfl rfl fun a75 h75 => wpList_nil <| hK74 _ _ <| wp_seq_k fun K76 hK76 => x_cond h75 rfl (fun hb77 => ?_) (fun hb77 => ?_); clear h73
  ·have hp77 : k < rl.l.length := of_decide_eq_true hb77
   refine wp_skip <| hK76 _ _ <| wp_seq_k fun K78 hK78 => wp_block <| wp_seq_k fun K79 hK79 => wp_region_lit <| wv h75 (r_ixN (s := rl) (q := k) sl_23 ti_3 rfl rfl rfl (fun w h => (h.own 0 rfl)) (show k < rl.l.length from (by omega))) rfl rfl fun a80 h80 => wv h80 (r_lde (s := rl) (i := k) (v := .int .i64 (nth rl.l k)) ti_3 rfl rfl rfl (fun w h => (h.own 0 rfl)) (show k < rl.l.length from (by omega)) (Nat.le_of_ble_eq_true rfl) rfl) rfl rfl fun a81 h81 => wms 1 h81 rfl fun a82 h82 => wpList_nil <| hK79 _ _ <| wp_region_lit <| wms 3 h82 rfl fun a83 h83 => wv h83 (r_build (cs := [.int .i64 ((t : Nat) : Int), .int .i64 (nth rl.l k)]) rfl rfl (by kernel_rfl)) rfl rfl fun a84 h84 => ?_; clear h75 h80 h81 h82 h83
   refine wl_ex (x_lit (n := 1) (cs := [.int .i64 ((t : Nat) : Int), .int .i64 (nth rl.l k)]) ([(⟨((t : Nat) : Int), nth rl.l k⟩ : Mv)] : List Mv) h84 sl_199 ti_203 rfl rfl rfl (by decide) rfl (by kernel_rfl) rfl (fun q hq w h => Flat.inner _ _) (fun q hq b hb => (Flat.on _ _ hb).elim) rfl rfl) (wanted_none rfl _) ?_
   rintro a85 w85 ⟨v85, h85⟩; clear h84
   refine wl_ex (x_app (r := 10) (rm := 0) (s := (⟨vm2, ml2⟩ : Ls Mv)) (m := (⟨v85, [(⟨((t : Nat) : Int), nth rl.l k⟩ : Mv)]⟩ : Ls Mv)) h85 sl_199 ti_203 rfl rfl rfl rfl rfl rfl rfl (fun w h => (h.own 0 rfl)) (fun b hb => own_on (h85.sh.ok _ (List.mem_of_getElem? (i := 0) rfl)) hb) (fun q hq b hb => ⟨q, hq, hb⟩) rfl rfl rfl inferInstance (show (ml2.length + ([(⟨((t : Nat) : Int), nth rl.l k⟩ : Mv)]).length) * 16 ≤ 140737488355328 ∧ ml2.length + ([(⟨((t : Nat) : Int), nth rl.l k⟩ : Mv)]).length ≤ 140737488355328 from (by first | omega | (simp only [lens9]; omega))) rfl rfl) (wanted_none rfl _) ?_
   rintro a86 w86 ⟨v86, h86⟩; clear h85
   refine wms 1 h86 rfl fun a87 h87 => wpList_nil <| hK78 _ _ <| wp_region_lit <| wv h87 (r_addN (p := k) (q := 1) rfl rfl rfl (show k + 1 < 9223372036854775808 from (by omega))) rfl rfl fun a88 h88 => wms 1 h88 rfl fun a89 h89 => wpList_nil <| x_again ⟨_, ?_, k + 1, ml2 ++ ([(⟨((t : Nat) : Int), nth rl.l k⟩ : Mv)]), v86, ?_, ?_, ?_, h89.nrm ⟨rfl, rfl, rfl, rfl, rfl, rfl, rfl, rfl, trivial⟩ [1, 2, 3, 4, 5, 6, 7, 8, 9, 10] (by decide) ⟨rfl, rfl, rfl, rfl, rfl, rfl, rfl, rfl, rfl, rfl, trivial⟩, rfl⟩; clear h86 h87 h88
   · rw [hm73]; first | omega | (simp only [lens9]; omega)
   · omega
   · rw [take_succ_nth _ _ (by omega), List.map_append, hml2]; simp only [List.append_assoc, List.map_cons, List.map_nil]
   · first | omega | (simp; omega)
  have hp77 : ¬ (k < rl.l.length) := of_decide_eq_false hb77
  refine wp_exit <| hK21 _ _ <| wp_region_lit <| wv h75 (r_addN (p := t) (q := 1) rfl rfl rfl (show t + 1 < 9223372036854775808 from (by omega))) rfl rfl fun a90 h90 => wms 1 h90 rfl fun a91 h91 => wpList_nil <| x_again ⟨_, ?_, t + 1, ml2, vm2, ?_, ?_, ?_, h91.nrm ⟨rfl, rfl, rfl, rfl, trivial⟩ [1, 2, 3, 4, 5, 6, 7, 8, 9] (by decide) ⟨rfl, rfl, rfl, rfl, rfl, rfl, rfl, rfl, rfl, trivial⟩, rfl⟩; clear h75 h90
  · rw [hm15]; first | omega | (simp only [lens9]; omega)
  · omega
  · rw [movesF_succ, ← hml, movF_eq hrl, hml2, List.take_of_length_le (by omega)]
  · omega
 have hp20 : ¬ (t < thr.l.length) := of_decide_eq_false hb20
 refine wp_exit <| hK6 _ _ <| wp_seq_k fun K92 hK92 => wp_region_lit <| wms 2 h18 rfl fun a93 h93 => wpList_nil <| hK92 _ _ <| wp_ret ?_; clear h18
 try simp only [Exit.then, Exit.inBlock]
 refine x_ret1 (fn := Try.f122) (t := 2) rfl h93 rfl <| ⟨⟨vm, ml⟩, rfl, ?_, (h93.sh.sel (L' := [.own 203 (⟨vm, ml⟩ : Ls Mv)]) [8] (by decide) ⟨rfl, trivial⟩)⟩
 rw [← show t = code.l.length by omega]; exact hml

set_option maxRecDepth 100000 in
set_option maxHeartbeats 2000000 in
theorem pended_c (M : MemS) (g gp : Nat) (code : Ls (Ls Ins)) (thr : Ls ThQ) (words owner : Ls Int) (q : M.σ) (pw pv : Value) (locks nregs : Int) (fell : Bool) (W : World) (hM : MemI Try.prog 205 3 M) (hB : Blk W g 197 #[.iface M.T (.pointer (some M.u)), .pointer (some ⟨gp, 0, none⟩), thr.v, pv, .bool fell]) (hP : Blk W gp 25 #[code.v, pw, .int .i64 locks, .int .i64 nregs]) (h_code : code.At W) (h_thr : thr.At W) (hR : MemRd 205 M W words owner q) (hql : (M.qs q).length = code.l.length) (hw3 : ∀ t, t < code.l.length → (nth (M.qs q) t).length ≤ 3) (htl : thr.l.length = code.l.length) (hpc : ∀ t, t < code.l.length → 0 ≤ (nth thr.l t).pc ∧ (nth thr.l t).pc ≤ (nth code.l t).l.length) (hcl : code.l.length ≤ 4) :
    Rets Try.prog 123 [.pointer (some ⟨g, 0, none⟩)] W (fun v w' => v = .bool (endedF code thr.l (M.qs q)) ∧ Sh0 W w' []) := by
 refine x_enter (N := 31) Try.func123 rfl Try.ntmps123 (Nat.le_of_ble_eq_true rfl) fun a1 hf1 => ?_
 have h1 : St 31 (fun _ => False) W a1 W [(0, .pointer (some ⟨g, 0, none⟩))] [.rblk g 197 [.iface M.T (.pointer (some M.u)), .pointer (some ⟨gp, 0, none⟩), thr.v, pv, .bool fell], .rblk gp 25 [code.v, pw, .int .i64 locks, .int .i64 nregs], .at_ code, .at_ thr, .rblk M.g0 205 [words.v, owner.v], .at_ words, .at_ owner, .ro [M.X q]] := ⟨hf1.sub ⟨rfl, trivial⟩, Sh0.ext (by intro A hA; simp only [List.mem_cons, List.not_mem_nil, or_false] at hA; rcases hA with rfl | rfl | rfl | rfl | rfl | rfl | rfl | rfl; exact hB; exact hP; exact h_code; exact h_thr; exact hR.blk; exact hR.wa; exact hR.oa; exact (fun A hA => by obtain rfl := List.mem_singleton.1 hA; exact hR.x)) (by intro A hA b hb; simp only [List.mem_cons, List.not_mem_nil, or_false] at hA; rcases hA with rfl | rfl | rfl | rfl | rfl | rfl | rfl | rfl <;> exact hb)⟩
 clear hf1
 refine wp_seq_k fun K2 hK2 => wp_region_lit <| wms 1 h1 rfl fun a3 h3 => wpList_nil <| hK2 _ _ <| wp_seq_k fun K4 hK4 => wp_seq_k fun K5 hK5 => wp_region_lit <| wms 1 h3 rfl fun a6 h6 => wv h6 (r_nil rfl rfl) rfl rfl fun a7 h7 => wv h7 (r_fieldB (r := 2) fl_197_2 rfl rfl rfl) rfl rfl fun a8 h8 => wv h8 (r_ldbR ti_195 rfl rfl (fun w h => h.rblk 0 rfl) rfl) rfl rfl fun a9 h9 => ?_; clear h1 h3 h6 h7 h8
 have hl10 : thr.l.length ≤ 140737488355328 := (h9.sh.at 3 rfl).len
 refine wv h9 (r_len (s := thr) (n := thr.l.length) sl_195 rfl rfl (fun w h => (h.at 3 rfl)) rfl) rfl rfl fun a11 h11 => wms 1 h11 rfl fun a12 h12 => wpList_nil <| hK5 _ _ <| wp_block <| x_loop (fun m a w => ∃ (t : Nat), (t ≤ thr.l.length) ∧ (∀ j, j < t → endF2 code thr.l (M.qs q) j = true) ∧ St 31 (fun _ => False) W a w [(0, .pointer (some ⟨g, 0, none⟩)), (10, .int .i64 ((thr.l.length : Nat) : Int)), (11, .int .i64 ((t : Nat) : Int))] [.rblk g 197 [.iface M.T (.pointer (some M.u)), .pointer (some ⟨gp, 0, none⟩), thr.v, pv, .bool fell], .rblk gp 25 [code.v, pw, .int .i64 locks, .int .i64 nregs], .at_ code, .at_ thr, .rblk M.g0 205 [words.v, owner.v], .at_ words, .at_ owner, .ro [M.X q]] ∧ m = thr.l.length - t) ⟨_, 0, (by omega), (fun j hj => absurd hj (by omega)), h12.nrm ⟨rfl, rfl, rfl, trivial⟩ [0, 1, 2, 3, 4, 5, 6, 7] (by decide) ⟨rfl, rfl, rfl, rfl, rfl, rfl, rfl, rfl, trivial⟩, rfl⟩ ?_; clear h9 h11
 clear h12
 rintro m13 a13 w13 ⟨t, ht, hall, h13, hm13⟩
 refine wp_seq_k fun K14 hK14 => wp_region_lit <| wv h13 (r_lssN (p := t) (q := thr.l.length) rfl rfl rfl) rfl rfl fun a15 h15 => wpList_nil <| hK14 _ _ <| wp_seq_k fun K16 hK16 => x_cond h15 rfl (fun hb17 => ?_) (fun hb17 => ?_); clear h13
 ·have hp17 : t < thr.l.length := of_decide_eq_true hb17
  refine wp_skip <| hK16 _ _ <| wp_seq_k fun K18 hK18 => wp_block <| wp_seq_k fun K19 hK19 => wp_region_lit <| wms 2 h15 rfl fun a20 h20 => wpList_nil <| hK19 _ _ ?_; clear h15
  have hpct := hpc t (by omega)
  refine wp_seq_k fun K21 hK21 => wp_region_lit <| wms 2 h20 rfl fun a22 h22 => wl_ex (x_call h22 bd_151 rfl rfl rfl rfl rfl (pnext_c M g gp code thr words owner q _ _ _ _ _ t _ hM (h22.sh.rblk 0 rfl) (h22.sh.rblk 1 rfl) (h22.sh.at 2 rfl) (h22.sh.at 3 rfl) ⟨h22.sh.rblk 4 rfl, h22.sh.at 5 rfl, h22.sh.at 6 rfl, (h22.sh.ok _ (List.mem_of_getElem? (i := 7) rfl)) _ (List.mem_singleton.2 rfl)⟩ (by omega) (by omega) (by omega))) (wanted_none rfl _) ?_; clear h20
  rintro a23 w23 ⟨_, ⟨hv23, hs23⟩, hf23⟩
  subst hv23
  have h23 : St 31 (fun _ => False) W a23 w23 _ _ := ⟨hf23, h22.sh.call0 hs23⟩
  clear hf23 hs23
  clear h22
  refine wms 1 h23 rfl fun a24 h24 => wv h24 (r_extract rfl rfl rfl) rfl rfl fun a25 h25 => wv h25 (r_extract rfl rfl rfl) rfl rfl fun a26 h26 => wl_ex (x_alloc h26 ti_32 rfl rfl rfl) (wanted_none rfl _) ?_; clear h23 h24 h25
  rintro a27 w27 ⟨b27, h27⟩; clear h26
  refine wl_ex (x_stb (i := 0) (vs := [.int .i64 ((nextIns (nth code.l t).l (nth thr.l t).pc).op), .int .i64 ((nextIns (nth code.l t).l (nth thr.l t).pc).a), .int .i64 ((nextIns (nth code.l t).l (nth thr.l t).pc).b), .int .i64 ((nextIns (nth code.l t).l (nth thr.l t).pc).c)]) (cs' := [.int .i64 ((nextIns (nth code.l t).l (nth thr.l t).pc).op), .int .i64 ((nextIns (nth code.l t).l (nth thr.l t).pc).a), .int .i64 ((nextIns (nth code.l t).l (nth thr.l t).pc).b), .int .i64 ((nextIns (nth code.l t).l (nth thr.l t).pc).c)]) h27 ti_32 rfl rfl rfl rfl rfl rfl rfl (allOne_cons rfl (allOne_cons rfl (allOne_cons rfl (allOne_cons rfl allOne_nil)))) (Nat.le_of_ble_eq_true rfl) rfl) (wanted_none rfl _) ?_
  rintro a28 w28 h28
  clear h27
  refine wms 1 h28 rfl fun a29 h29 => wpList_nil <| hK21 _ _ <| wp_seq_k fun K30 hK30 => wp_region_lit <| wms 2 h29 rfl fun a31 h31 => ?_; clear h28 h29
  rcases Bool.eq_false_or_eq_true (decide ((nth thr.l t).pc < ((nth code.l t).l.length : Int))) with hb32 | hb32
  ·have hp32 : (nth thr.l t).pc < ((nth code.l t).l.length : Int) := of_decide_eq_true hb32
   refine wl_skip h31 (wanted_no h31.fr rfl rfl rfl rfl hb32) rfl rfl fun a33 h33 => wl_skip h33 (wanted_no h33.fr rfl rfl rfl rfl hb32) rfl rfl fun a34 h34 => wl_skip h34 (wanted_no h34.fr rfl rfl rfl rfl hb32) rfl rfl fun a35 h35 => wl_skip h35 (wanted_no h35.fr rfl rfl rfl rfl hb32) rfl rfl fun a36 h36 => wl_skip h36 (wanted_no h36.fr rfl rfl rfl rfl hb32) rfl rfl fun a37 h37 => wl_skip h37 (wanted_no h37.fr rfl rfl rfl rfl hb32) rfl rfl fun a38 h38 => wl_skip h38 (wanted_no h38.fr rfl rfl rfl rfl hb32) rfl rfl fun a39 h39 => wv h39 (r_pickT rfl rfl hb32 rfl) rfl rfl fun a40 h40 => wpList_nil <| hK30 _ _ <| x_condT h40 rfl rfl <| wp_seq_k fun K41 hK41 => wp_region_lit <| wms 1 h40 rfl fun a42 h42 => ?_; clear h31 h33 h34 h35 h36 h37 h38 h39 h40
   refine wpList_nil <| hK41 _ _ ?_
   have h43 : St 31 (fun _ => False) W a42 w28 [(2, .bool false)] [.blk b27 32 [.int .i64 ((nextIns (nth code.l t).l (nth thr.l t).pc).op), .int .i64 ((nextIns (nth code.l t).l (nth thr.l t).pc).a), .int .i64 ((nextIns (nth code.l t).l (nth thr.l t).pc).b), .int .i64 ((nextIns (nth code.l t).l (nth thr.l t).pc).c)], .rblk g 197 [.iface M.T (.pointer (some M.u)), .pointer (some ⟨gp, 0, none⟩), thr.v, pv, .bool fell], .rblk gp 25 [code.v, pw, .int .i64 locks, .int .i64 nregs], .at_ code, .at_ thr, .rblk M.g0 205 [words.v, owner.v], .at_ words, .at_ owner, .ro [M.X q]] := h42.nrm ⟨rfl, trivial⟩ [0, 1, 2, 3, 4, 5, 6, 7, 8] (by decide) ⟨rfl, rfl, rfl, rfl, rfl, rfl, rfl, rfl, rfl, trivial⟩
   clear h42
   refine wp_ret ?_
   try simp only [Exit.then, Exit.inBlock]
   refine x_ret1 (fn := Try.f123) (t := 2) rfl h43 rfl <| ⟨?_, (h43.sh.sel [] (by decide) trivial)⟩
   congr 1
   first | exact (endedF_t (fun j hj => hall j (by omega))).symm | exact (endedF_f (t := t) (by omega) (by first | exact .inl (by omega) | exact .inr (by omega))).symm
  have hp32 : ¬ ((nth thr.l t).pc < ((nth code.l t).l.length : Int)) := of_decide_eq_false hb32
  refine wl_val h31 (r_move rfl rfl) (wanted_yes h31.fr rfl rfl rfl rfl hb32) rfl rfl fun a44 h44 => wl_val h44 (r_nil rfl rfl) (wanted_yes h44.fr rfl rfl rfl rfl hb32) rfl rfl fun a45 h45 => wl_val h45 (r_fieldB (r := 0) fl_197_0 rfl rfl rfl) (wanted_yes h45.fr rfl rfl rfl rfl hb32) rfl rfl fun a46 h46 => wl_val h46 (r_ldbR ti_129 rfl rfl (fun w h => h.rblk 1 rfl) rfl) (wanted_yes h46.fr rfl rfl rfl rfl hb32) rfl rfl fun a47 h47 => wl_val h47 (r_move rfl rfl) (wanted_yes h47.fr rfl rfl rfl rfl hb32) rfl rfl fun a48 h48 => wl_ex (x_inv2 h48 rfl rfl rfl rfl rfl (hM.waits _ words owner q t ⟨h48.sh.rblk 5 rfl, h48.sh.at 6 rfl, h48.sh.at 7 rfl, (h48.sh.ok _ (List.mem_of_getElem? (i := 8) rfl)) _ (List.mem_singleton.2 rfl)⟩ (by omega) (hw3 t (by omega)))) (wanted_yes h48.fr rfl rfl rfl rfl hb32) ?_; clear h31 h44 h45 h46 h47
  rintro a49 w49 ⟨_, ⟨rfl, hs49⟩, hf49⟩
  have h49 : St 31 (fun _ => False) W a49 w49 _ _ := ⟨hf49, h48.sh.call0 hs49⟩
  clear hf49 hs49
  clear h48
  refine wl_val h49 (r_gtrN (p := (nth (M.qs q) t).length) (q := 0) rfl rfl rfl) (wanted_yes h49.fr rfl rfl rfl rfl hb32) rfl rfl fun a50 h50 => wv h50 (r_pickF rfl rfl hb32 rfl) rfl rfl fun a51 h51 => wpList_nil <| hK30 _ _ <| x_cond h51 rfl (fun hb52 => ?_) (fun hb52 => ?_); clear h49 h50
  ·have hp52 : 0 < (nth (M.qs q) t).length := of_decide_eq_true hb52
   refine wp_seq_k fun K53 hK53 => wp_region_lit <| wms 1 h51 rfl fun a54 h54 => wpList_nil <| hK53 _ _ ?_; clear h51
   have h55 : St 31 (fun _ => False) W a54 w49 [(2, .bool false)] [.blk b27 32 [.int .i64 ((nextIns (nth code.l t).l (nth thr.l t).pc).op), .int .i64 ((nextIns (nth code.l t).l (nth thr.l t).pc).a), .int .i64 ((nextIns (nth code.l t).l (nth thr.l t).pc).b), .int .i64 ((nextIns (nth code.l t).l (nth thr.l t).pc).c)], .rblk g 197 [.iface M.T (.pointer (some M.u)), .pointer (some ⟨gp, 0, none⟩), thr.v, pv, .bool fell], .rblk gp 25 [code.v, pw, .int .i64 locks, .int .i64 nregs], .at_ code, .at_ thr, .rblk M.g0 205 [words.v, owner.v], .at_ words, .at_ owner, .ro [M.X q]] := h54.nrm ⟨rfl, trivial⟩ [0, 1, 2, 3, 4, 5, 6, 7, 8] (by decide) ⟨rfl, rfl, rfl, rfl, rfl, rfl, rfl, rfl, rfl, trivial⟩
   clear h54
   refine wp_ret ?_
   try simp only [Exit.then, Exit.inBlock]
   refine x_ret1 (fn := Try.f123) (t := 2) rfl h55 rfl <| ⟨?_, (h55.sh.sel [] (by decide) trivial)⟩
   congr 1
   first | exact (endedF_t (fun j hj => hall j (by omega))).symm | exact (endedF_f (t := t) (by omega) (by first | exact .inl (by omega) | exact .inr (by omega))).symm
  have hp52 : ¬ (0 < (nth (M.qs q) t).length) := of_decide_eq_false hb52
  refine wp_skip <| hK18 _ _ <| wp_region_lit <| wv h51 (r_addN (p := t) (q := 1) rfl rfl rfl (show t + 1 < 9223372036854775808 from (by omega))) rfl rfl fun a56 h56 => wms 1 h56 rfl fun a57 h57 => wpList_nil <| x_again ⟨_, ?_, t + 1, ?_, ?_, h57.nrm ⟨rfl, rfl, rfl, trivial⟩ [1, 2, 3, 4, 5, 6, 7, 8] (by decide) ⟨rfl, rfl, rfl, rfl, rfl, rfl, rfl, rfl, trivial⟩, rfl⟩; clear h51 h56
  · rw [hm13]; first | omega | (simp only [lens9]; omega)
  · omega
  · intro j hj; rcases Nat.lt_or_ge j t with h9 | h9; (exact hall j h9); obtain rfl : j = t := (by omega); exact endF2_t (by omega) (by omega)
 have hp17 : ¬ (t < thr.l.length) := of_decide_eq_false hb17
 refine wp_exit <| hK4 _ _ <| wp_seq_k fun K58 hK58 => wp_region_lit <| wms 1 h15 rfl fun a59 h59 => wpList_nil <| hK58 _ _ <| wp_ret ?_; clear h15
 try simp only [Exit.then, Exit.inBlock]
 refine x_ret1 (fn := Try.f123) (t := 2) rfl h59 rfl <| ⟨?_, (h59.sh.sel [] (by decide) trivial)⟩
 congr 1
 first | exact (endedF_t (fun j hj => hall j (by omega))).symm | exact (endedF_f (t := t) (by omega) (by first | exact .inl (by omega) | exact .inr (by omega))).symm

set_option maxRecDepth 100000 in
set_option maxHeartbeats 1000000 in
theorem pbit_c (b : Bool) (W : World) :
    Rets Try.prog 152 [.bool b] W (fun v w' => v = .int .i64 (bit b) ∧ Sh0 W w' []) := by
 refine x_enter (N := 4) Try.func152 rfl Try.ntmps152 (Nat.le_of_ble_eq_true rfl) fun a1 hf1 => ?_
 have h1 : St 4 (fun _ => False) W a1 W [(0, .bool b)] [] := ⟨hf1.sub ⟨rfl, trivial⟩, Sh0.start _⟩
 clear hf1
 refine wp_seq_k fun K2 hK2 => wp_region_lit <| wms 1 h1 rfl fun a3 h3 => wpList_nil <| hK2 _ _ <| wp_seq_k fun K4 hK4 => wp_seq_k fun K5 hK5 => wp_region_lit <| wms 1 h3 rfl fun a6 h6 => wpList_nil <| hK5 _ _ <| x_cond h6 rfl (fun hb7 => ?_) (fun hb7 => ?_); clear h1 h3
 ·skip
  refine wp_seq_k fun K8 hK8 => wp_region_lit <| wms 1 h6 rfl fun a9 h9 => wpList_nil <| hK8 _ _ <| wp_ret ?_; clear h6
  try simp only [Exit.then, Exit.inBlock]
  refine x_ret1 (fn := Try.f152) (t := 2) rfl h9 rfl <| ⟨?_, (h9.sh.sel [] (by decide) trivial)⟩
  first | (rw [show b = true by assumption]; rfl) | (rw [show b = false by assumption]; rfl)
 refine wp_skip <| hK4 _ _ <| wp_seq_k fun K10 hK10 => wp_region_lit <| wms 1 h6 rfl fun a11 h11 => wpList_nil <| hK10 _ _ <| wp_ret ?_; clear h6
 try simp only [Exit.then, Exit.inBlock]
 refine x_ret1 (fn := Try.f152) (t := 2) rfl h11 rfl <| ⟨?_, (h11.sh.sel [] (by decide) trivial)⟩
 first | (rw [show b = true by assumption]; rfl) | (rw [show b = false by assumption]; rfl)

set_option maxRecDepth 100000 in
set_option maxHeartbeats 1000000 in
theorem pwords_c (M : MemS) (g gp : Nat) (code : Ls (Ls Ins)) (thr : Ls ThQ) (words owner : Ls Int) (q : M.σ) (pw pv : Value) (locks nregs : Int) (fell : Bool) (W : World) (hM : MemI Try.prog 205 3 M) (hB : Blk W g 197 #[.iface M.T (.pointer (some M.u)), .pointer (some ⟨gp, 0, none⟩), thr.v, pv, .bool fell]) (hP : Blk W gp 25 #[code.v, pw, .int .i64 locks, .int .i64 nregs]) (h_code : code.At W) (h_thr : thr.At W) (hR : MemRd 205 M W words owner q) (hwn : words.l.length ≤ 100000) :
    Rets Try.prog 121 [.pointer (some ⟨g, 0, none⟩)] W (fun v w' => ∃ s : Ls Int, v = s.v ∧ s.l = words.l ∧ Sh0 W w' [.own 3 s]) := by
 refine x_enter (N := 12) Try.func121 rfl Try.ntmps121 (Nat.le_of_ble_eq_true rfl) fun a1 hf1 => ?_
 have h1 : St 12 (fun _ => False) W a1 W [(0, .pointer (some ⟨g, 0, none⟩))] [.rblk g 197 [.iface M.T (.pointer (some M.u)), .pointer (some ⟨gp, 0, none⟩), thr.v, pv, .bool fell], .rblk gp 25 [code.v, pw, .int .i64 locks, .int .i64 nregs], .at_ code, .at_ thr, .rblk M.g0 205 [words.v, owner.v], .at_ words, .at_ owner, .ro [M.X q]] := ⟨hf1.sub ⟨rfl, trivial⟩, Sh0.ext (by intro A hA; simp only [List.mem_cons, List.not_mem_nil, or_false] at hA; rcases hA with rfl | rfl | rfl | rfl | rfl | rfl | rfl | rfl; exact hB; exact hP; exact h_code; exact h_thr; exact hR.blk; exact hR.wa; exact hR.oa; exact (fun A hA => by obtain rfl := List.mem_singleton.1 hA; exact hR.x)) (by intro A hA b hb; simp only [List.mem_cons, List.not_mem_nil, or_false] at hA; rcases hA with rfl | rfl | rfl | rfl | rfl | rfl | rfl | rfl <;> exact hb)⟩
 clear hf1
 refine wp_seq_k fun K2 hK2 => wp_region_lit <| wms 1 h1 rfl fun a3 h3 => wpList_nil <| hK2 _ _ <| wp_seq_k fun K4 hK4 => wp_region_lit <| wms 1 h3 rfl fun a5 h5 => wv h5 (r_nil rfl rfl) rfl rfl fun a6 h6 => wv h6 (r_fieldB (r := 0) fl_197_0 rfl rfl rfl) rfl rfl fun a7 h7 => wv h7 (r_ldbR ti_129 rfl rfl (fun w h => h.rblk 0 rfl) rfl) rfl rfl fun a8 h8 => wl_ex (x_inv2 h8 rfl rfl rfl rfl rfl (hM.base _ words owner q ⟨h8.sh.rblk 4 rfl, h8.sh.at 5 rfl, h8.sh.at 6 rfl, (h8.sh.ok _ (List.mem_of_getElem? (i := 7) rfl)) _ (List.mem_singleton.2 rfl)⟩)) (wanted_none rfl _) ?_; clear h1 h3 h5 h6 h7
 rintro a9 w9 ⟨_, ⟨rfl, hs9⟩, hf9⟩
 have h9 : St 12 (fun _ => False) W a9 w9 _ _ := ⟨hf9, h8.sh.call0 hs9⟩
 clear hf9 hs9
 clear h8
 refine wv h9 (r_nil rfl rfl) rfl rfl fun a10 h10 => wv h10 (r_fieldB (r := 0) fl_205_0 rfl rfl rfl) rfl rfl fun a11 h11 => wv h11 (r_ldbR ti_23 rfl rfl (fun w h => h.rblk 4 rfl) rfl) rfl rfl fun a12 h12 => wl_ex (x_call h12 bd_47 rfl rfl rfl rfl rfl (cloneI_c words _ (h12.sh.at 5 rfl) (by first | omega | (simp only [lens9]; omega)))) (wanted_none rfl _) ?_; clear h9 h10 h11
 rintro a13 w13 ⟨_, ⟨s13, rfl, hs13⟩, hf13⟩
 have h13 := (⟨hf13, h12.sh.call hs13 (by intro A hA b hb; first | (simp at hA; done) | (simp at hA; subst hA; first | exact Flat.noRd hb | exact (hb : False).elim) | (simp at hA; rcases hA with rfl | rfl <;> first | exact Flat.noRd hb | exact (hb : False).elim))⟩ : St 12 (fun _ => False) W a13 w13 _ _)
 clear hf13 hs13
 clear h12
 refine wms 1 h13 rfl fun a14 h14 => wpList_nil <| hK4 _ _ <| wp_ret ?_; clear h13
 try simp only [Exit.then, Exit.inBlock]
 refine x_ret1 (fn := Try.f121) (t := 2) rfl h14 rfl ?_
 exact ⟨⟨s13.v, words.l⟩, rfl, rfl, (h14.sh.sel (L' := [.own 3 (⟨s13.v, words.l⟩ : Ls Int)]) [0] (by decide) ⟨rfl, trivial⟩)⟩

theorem pbit_t {b : Bool} (h : b = true) (W : World) : Rets Try.prog 152 [.bool b] W (fun v w' => v = .int .i64 1 ∧ Sh0 W w' []) := by subst h; exact pbit_c true W
theorem pbit_f {b : Bool} (h : b = false) (W : World) : Rets Try.prog 152 [.bool b] W (fun v w' => v = .int .i64 0 ∧ Sh0 W w' []) := by subst h; exact pbit_c false W

end Go.Proofs.Ytfpaahkleienoaa
