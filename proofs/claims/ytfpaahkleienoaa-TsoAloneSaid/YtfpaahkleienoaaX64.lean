/-
  Runs of the program, over any memory: the first state, a move of a whole state, a run by a script.
-/
import Derived.Test.YtfpaahkleienoaaX63
import Derived.Test.YtfpaahkleienoaaM3
namespace Go.Proofs.Ytfpaahkleienoaa
open Go.RowKit
set_option linter.unusedSimpArgs false
set_option linter.unusedVariables false


theorem ok_lenP {code : Ls (Ls Ins)} {words : Ls Int} {Lk R : Nat} (h : OkPg (pgN code words Lk R)) : 1 ≤ code.l.length ∧ code.l.length ≤ 4 ∧ words.l.length ≤ 64 ∧ Lk ≤ 4 ∧ R ≤ 200 := by
  have h1 := h.code
  have h2 := h.words
  have h3 := h.locks
  have h4 := h.regs
  simp only [pgN, pgOf, List.length_map] at h1 h2 h3 h4
  omega
theorem ok_clen {code : Ls (Ls Ins)} {words : Ls Int} {Lk R : Nat} (h : OkPg (pgN code words Lk R)) : ∀ t, t < code.l.length → (nth code.l t).l.length ≤ 400 := fun t ht => by
  have h9 := h.len t (by rw [pgN_len]; exact ht)
  rwa [pgN_code ht] at h9
theorem St.toR {N : Nat} {K : Nat → Prop} {W w : World} {a : Act} {F : List (Nat × Value)} {L : List Asn} (i : Nat) {g : Nat} {E : TypeId} {cs : List Value} (h : St N K W a w F L) (hi : L[i]? = some (.blk g E cs)) : St N K W a w F (L.set i (.rblk g E cs)) :=
  ⟨h.fr, h.sh.put hi (Chg.refl _ _) (h.sh.blk i hi) (fun b hb => hb.elim) (fun b hb => .inl hb) (fun b hb => hb.elim)⟩
/-- A state of the program that a call may turn. -/
def pstA (M : MemS) (g gp : Nat) (pc : List Value) (vt : Value) (rows : List ThR) (prints words owner : Ls Int) (q : M.σ) (fell : Bool) (code : Ls (Ls Ins)) : List Asn :=
  [.blk g 197 [.iface M.T (.pointer (some M.u)), .pointer (some ⟨gp, 0, none⟩), vt, prints.v, .bool fell], .rblk gp 25 pc, .own 234 (⟨vt, rows.map ThR.toQ⟩ : Ls ThQ), .big (regA 3 rows), .own 3 prints, .blk M.g0 205 [words.v, owner.v], .own 3 words, .own 3 owner, M.X q, .at_ code]
theorem pdo_full (K : Nat → Prop) (M : MemS) (g gp : Nat) (code : Ls (Ls Ins)) (vt : Value) (rows : List ThR) (prints words owner : Ls Int) (q : M.σ) (pw : Value) (locks nregs : Int) (fell : Bool) (t k : Nat) (W : World) (hM : MemI Try.prog 205 3 M)
    (hS : Sh K W W (pstA M g gp [code.v, pw, .int .i64 locks, .int .i64 nregs] vt rows prints words owner q fell code)) (hn : t < rows.length) (h1000 : t ≤ 1000) (hqn : t < (M.qs q).length) (hwl : (nth (M.qs q) t).length ≤ 3) (hwh0 : ∀ x ∈ nth (M.qs q) t, x.lock = true → x.what = 0) (hge : ∀ v ∈ owner.l, -1 ≤ v) (htc : t < code.l.length)
    (hpcr : 0 ≤ (nth rows t).pc ∧ (nth rows t).pc ≤ (nth code.l t).l.length) (hpcl : (nth code.l t).l.length ≤ 1000000) (hmk : mvOK M.m (nth code.l t).l ⟨(nth rows t).pc, (nth rows t).regs.l, nth (M.qs q) t, words.l, owner.l, prints.l, fell⟩ k = true) (hpl : prints.l.length ≤ 100000000)
    (hwt : ∀ j, j < (nth (M.qs q) t).length → WtOk (nth (nth (M.qs q) t) j) words owner) (hio : k = 0 → InsR (nth rows t).regs.l.length words.l.length owner.l.length (nextIns (nth code.l t).l (nth rows t).pc)) :
    Rets Try.prog 124 [.pointer (some ⟨g, 0, none⟩), .agg #[.int .i64 ((t : Nat) : Int), .int .i64 (((k : Nat) : Int) - 1)]] W (fun v w' => v = .tuple #[] ∧ ∃ (rows' : List ThR) (words' owner' prints' : Ls Int) (q' : M.σ) (fell' : Bool) (x : ThR) (y : TS),
      y = doT M.m t (nth code.l t).l k ⟨(nth rows t).pc, (nth rows t).regs.l, nth (M.qs q) t, words.l, owner.l, prints.l, fell⟩ ∧ rows' = rows.set t x ∧ x.pc = y.pc ∧ x.regs.l = y.regs ∧ M.qs q' = (M.qs q).set t y.wait ∧ words'.l = y.words ∧ owner'.l = y.owner ∧ prints'.l = y.prints ∧ fell' = y.fell ∧
      Sh K W w' (pstA M g gp [code.v, pw, .int .i64 locks, .int .i64 nregs] vt rows' prints' words' owner' q' fell' code)) := by
  have h1 : Sh K W W (.big (regA 3 rows) :: [.blk g 197 [.iface M.T (.pointer (some M.u)), .pointer (some ⟨gp, 0, none⟩), vt, prints.v, .bool fell], .rblk gp 25 [code.v, pw, .int .i64 locks, .int .i64 nregs], .own 234 (⟨vt, rows.map ThR.toQ⟩ : Ls ThQ), .own 3 prints, .blk M.g0 205 [words.v, owner.v], .own 3 words, .own 3 owner, M.X q, .at_ code]) :=
    hS.sel [3, 0, 1, 2, 4, 5, 6, 7, 8, 9] (by decide) ⟨rfl, rfl, rfl, rfl, rfl, rfl, rfl, rfl, rfl, rfl, trivial⟩
  have h2 := h1.openR t hn
  have h3 : Sh K W W ([.blk g 197 [.iface M.T (.pointer (some M.u)), .pointer (some ⟨gp, 0, none⟩), vt, prints.v, .bool fell], .rblk gp 25 [code.v, pw, .int .i64 locks, .int .i64 nregs], .own 234 (⟨vt, rows.map ThR.toQ⟩ : Ls ThQ), .own 3 (nth rows t).regs, .own 3 prints, .blk M.g0 205 [words.v, owner.v], .own 3 words, .own 3 owner, M.X q, .at_ code] ++ [.big (regA 3 (rows.eraseIdx t))]) :=
    h2.sel (L' := [.blk g 197 [.iface M.T (.pointer (some M.u)), .pointer (some ⟨gp, 0, none⟩), vt, prints.v, .bool fell], .rblk gp 25 [code.v, pw, .int .i64 locks, .int .i64 nregs], .own 234 (⟨vt, rows.map ThR.toQ⟩ : Ls ThQ), .own 3 (nth rows t).regs, .own 3 prints, .blk M.g0 205 [words.v, owner.v], .own 3 words, .own 3 owner, M.X q, .at_ code, .big (regA 3 (rows.eraseIdx t))]) [2, 3, 4, 0, 5, 6, 7, 8, 9, 10, 1] (by decide) ⟨rfl, rfl, rfl, rfl, rfl, rfl, rfl, rfl, rfl, rfl, rfl, trivial⟩
  have hnt : nth (rows.map ThR.toQ) t = (nth rows t).toQ := toQ_at hn
  refine Rets.mono (pdo_c _ M g gp code (⟨vt, rows.map ThR.toQ⟩ : Ls ThQ) (nth rows t).regs prints words owner q pw locks nregs fell t k W hM h3.passL (by simpa using hn) h1000 (by rw [hnt]; rfl) hqn hwl hwh0 hge htc (by rw [hnt]; exact hpcr) hpcl (by rw [hnt]; exact hmk) hpl hwt (by rw [hnt]; exact hio)) ?_
  rintro v w' ⟨rfl, regs', words', owner', prints', q', wt, pc', fell', hq, hy, hs⟩
  have h4 := h3.backL hs (by intro A hA b hb; simp only [List.mem_cons, List.not_mem_nil, or_false] at hA; rcases hA with rfl | rfl | rfl | rfl | rfl | rfl | rfl | rfl | rfl | rfl <;> first | exact (hb : False).elim | exact Flat.noRd hb | exact rdX hM hb | exact .inl ⟨_, List.mem_of_getElem? (i := 1) rfl, .inr hb⟩ | exact .inl ⟨_, List.mem_of_getElem? (i := 9) rfl, .inr hb⟩)
  have h5 := h4.sel (L' := .own 3 regs' :: .big (regA 3 (rows.eraseIdx t)) :: [.blk g 197 [.iface M.T (.pointer (some M.u)), .pointer (some ⟨gp, 0, none⟩), vt, prints'.v, .bool fell'], .rblk gp 25 [code.v, pw, .int .i64 locks, .int .i64 nregs], .own 234 (⟨vt, (rows.map ThR.toQ).set t ⟨pc', regs'.v⟩⟩ : Ls ThQ), .own 3 prints', .blk M.g0 205 [words'.v, owner'.v], .own 3 words', .own 3 owner', M.X q', .at_ code]) [3, 10, 0, 1, 2, 4, 5, 6, 7, 8, 9] (by decide) ⟨rfl, rfl, rfl, rfl, rfl, rfl, rfl, rfl, rfl, rfl, rfl, trivial⟩
  have h6 := Sh.closeR (x := ⟨pc', regs'⟩) t hn h5
  rw [show (rows.map ThR.toQ).set t ⟨pc', regs'.v⟩ = (rows.set t ⟨pc', regs'⟩).map ThR.toQ by rw [List.map_set]; rfl] at h6
  have h7 := h6.sel (L' := pstA M g gp [code.v, pw, .int .i64 locks, .int .i64 nregs] vt (rows.set t ⟨pc', regs'⟩) prints' words' owner' q' fell' code) [1, 2, 3, 0, 4, 5, 6, 7, 8, 9] (by decide) ⟨rfl, rfl, rfl, rfl, rfl, rfl, rfl, rfl, rfl, rfl, trivial⟩
  rw [hnt] at hy
  exact ⟨rfl, rows.set t ⟨pc', regs'⟩, words', owner', prints', q', fell', ⟨pc', regs'⟩, (⟨pc', regs'.l, wt, words'.l, owner'.l, prints'.l, fell'⟩ : TS), hy, rfl, rfl, rfl, hq, rfl, rfl, rfl, rfl, h7⟩

set_option maxRecDepth 100000 in
set_option maxHeartbeats 4000000 in
theorem pbegin_c (M : MemS) (gp : Nat) (code : Ls (Ls Ins)) (pw : Value) (Lk R : Nat) (W : World) (hP : Blk W gp 25 #[code.v, pw, .int .i64 ((Lk : Nat) : Int), .int .i64 ((R : Nat) : Int)]) (hcode : code.At W) (hcl : code.l.length ≤ 4) (hR : R ≤ 200) :
    Rets Try.prog 119 [.pointer (some ⟨gp, 0, none⟩), .iface M.T (.pointer (some M.u))] W (fun v w' => ∃ (g : Nat) (rows : List ThR) (vt : Value), v = .pointer (some ⟨g, 0, none⟩) ∧ rows.map ThR.th = List.replicate code.l.length ⟨0, List.replicate R 0, []⟩ ∧ Sh0 W w' [.blk g 197 [.iface M.T (.pointer (some M.u)), .pointer (some ⟨gp, 0, none⟩), vt, .slice none 0 0, .bool false], .own 234 (⟨vt, rows.map ThR.toQ⟩ : Ls ThQ), .big (regA 3 rows), .own 3 (⟨.slice none 0 0, []⟩ : Ls Int)]) := by
 refine x_enter (N := 34) Try.func119 rfl Try.ntmps119 (Nat.le_of_ble_eq_true rfl) fun a1 hf1 => ?_
 have h1 : St 34 (fun _ => False) W a1 W [(0, .pointer (some ⟨gp, 0, none⟩)), (1, .iface M.T (.pointer (some M.u)))] [.rblk gp 25 [code.v, pw, .int .i64 ((Lk : Nat) : Int), .int .i64 ((R : Nat) : Int)], .at_ code] := ⟨hf1.sub ⟨rfl, rfl, trivial⟩, Sh0.ext (by intro A hA; simp only [List.mem_cons, List.not_mem_nil, or_false] at hA; rcases hA with rfl | rfl; exact hP; exact hcode) (by intro A hA b hb; simp only [List.mem_cons, List.not_mem_nil, or_false] at hA; rcases hA with rfl | rfl <;> exact hb)⟩
 clear hf1
 refine wp_seq_k fun K2 hK2 => wp_region_lit <| wms 1 h1 rfl fun a3 h3 => wpList_nil <| hK2 _ _ <| wp_seq_k fun K4 hK4 => wp_region_lit <| wms 2 h3 rfl fun a5 h5 => wv h5 (r_build (cs := [.iface M.T (.pointer (some M.u)), .pointer (some ⟨gp, 0, none⟩), (.slice none 0 0), (.slice none 0 0), .bool false]) rfl rfl (by kernel_rfl)) rfl rfl fun a6 h6 => wl_ex (x_box (cs := [.iface M.T (.pointer (some M.u)), .pointer (some ⟨gp, 0, none⟩), (.slice none 0 0), (.slice none 0 0), .bool false]) h6 rfl rfl rfl rfl rfl) (wanted_none rfl _) ?_; clear h1 h3 h5
 rintro a7 w7 ⟨b7, h7⟩; clear h6
 refine wms 1 h7 rfl fun a8 h8 => wpList_nil <| hK4 _ _ <| wp_seq_k fun K9 hK9 => wp_seq_k fun K10 hK10 => wp_region_lit <| wms 1 h8 rfl fun a11 h11 => wv h11 (r_nil rfl rfl) rfl rfl fun a12 h12 => wv h12 (r_fieldB (r := 0) fl_25_0 rfl rfl rfl) rfl rfl fun a13 h13 => wv h13 (r_ldbR ti_22 rfl rfl (fun w h => h.rblk 1 rfl) rfl) rfl rfl fun a14 h14 => ?_; clear h7 h8 h11 h12 h13
 have hl15 : code.l.length ≤ 140737488355328 := (h14.sh.at 2 rfl).len
 refine wv h14 (r_len (s := code) (n := code.l.length) sl_22 rfl rfl (fun w h => (h.at 2 rfl)) rfl) rfl rfl fun a16 h16 => wms 1 h16 rfl fun a17 h17 => wpList_nil <| hK10 _ _ <| wp_block ?_; clear h14 h16
 have h19 := h17.nil (α := ThQ) 234
 clear h17
 have h20 := h19.bigR0 3
 clear h19
 refine x_loop (fun m a w => ∃ (i : Nat) (rows : List ThR) (vt : Value), (i ≤ code.l.length) ∧ (rows.length = i) ∧ (rows.map ThR.th = List.replicate i ⟨0, List.replicate R 0, []⟩) ∧ St 34 (fun _ => False) W a w [(0, .pointer (some ⟨gp, 0, none⟩)), (5, .pointer (some ⟨b7, 0, none⟩)), (14, .int .i64 ((code.l.length : Nat) : Int)), (15, .int .i64 ((i : Nat) : Int))] [.blk b7 197 [.iface M.T (.pointer (some M.u)), .pointer (some ⟨gp, 0, none⟩), vt, (.slice none 0 0), .bool false], .rblk gp 25 [code.v, pw, .int .i64 ((Lk : Nat) : Int), .int .i64 ((R : Nat) : Int)], .at_ code, .own 234 (⟨vt, rows.map ThR.toQ⟩ : Ls ThQ), .big (regA 3 rows)] ∧ m = code.l.length - i) ⟨_, 0, [], _, (by omega), (rfl), (rfl), h20.nrm ⟨rfl, rfl, rfl, rfl, trivial⟩ [2, 3, 4, 1, 0] (by decide) ⟨rfl, rfl, rfl, rfl, rfl, trivial⟩, rfl⟩ ?_
 clear h20
 rintro m18 a18 w18 ⟨i, rows, vt, hi, hrl, hrw, h18, hm18⟩
 refine wp_seq_k fun K21 hK21 => wp_region_lit <| wv h18 (r_lssN (p := i) (q := code.l.length) rfl rfl rfl) rfl rfl fun a22 h22 => wpList_nil <| hK21 _ _ <| wp_seq_k fun K23 hK23 => x_cond h22 rfl (fun hb24 => ?_) (fun hb24 => ?_); clear h18
 ·have hp24 : i < code.l.length := of_decide_eq_true hb24
  refine wp_skip <| hK23 _ _ <| wp_seq_k fun K25 hK25 => wp_block ?_
  have h26 : St 34 (fun _ => False) W a22 w18 [(0, .pointer (some ⟨gp, 0, none⟩)), (5, .pointer (some ⟨b7, 0, none⟩)), (14, .int .i64 ((code.l.length : Nat) : Int)), (15, .int .i64 ((i : Nat) : Int)), (16, .bool (decide (i < code.l.length)))] [.blk b7 197 [.iface M.T (.pointer (some M.u)), .pointer (some ⟨gp, 0, none⟩), vt, (.slice none 0 0), .bool false], .rblk gp 25 [code.v, pw, .int .i64 ((Lk : Nat) : Int), .int .i64 ((R : Nat) : Int)], .at_ code, .own 234 (⟨vt, rows.map ThR.toQ⟩ : Ls ThQ), .big (regA 3 rows)] := h22.nrm ⟨rfl, rfl, rfl, rfl, rfl, trivial⟩ [0, 1, 2, 3, 4] (by decide) ⟨rfl, rfl, rfl, rfl, rfl, trivial⟩
  clear h22
  refine x_any ((fun Φ Ψ S a w => (S 9 = false ∧ S 11 = false ∧ S 12 = false ∧ S 15 = false ∧ FrI 34 S Φ Ψ a ∧ Sh (fun _ => False) W w [.blk b7 197 [.iface M.T (.pointer (some M.u)), .pointer (some ⟨gp, 0, none⟩), vt, (.slice none 0 0), .bool false], .rblk gp 25 [code.v, pw, .int .i64 ((Lk : Nat) : Int), .int .i64 ((R : Nat) : Int)], .at_ code, .own 234 (⟨vt, rows.map ThR.toQ⟩ : Ls ThQ), .big (regA 3 rows)]) ∨ (S 9 = true ∧ S 11 = false ∧ S 12 = false ∧ S 15 = false ∧ ∃ (v7009 : Value), FrI 34 S Φ (Ψ ++ [(9, 26, v7009), (10, 27, .agg #[.int .i64 0, v7009])]) a ∧ Sh (fun _ => False) W w [.own 3 (⟨v7009, List.replicate R 0⟩ : Ls Int), .blk b7 197 [.iface M.T (.pointer (some M.u)), .pointer (some ⟨gp, 0, none⟩), vt, (.slice none 0 0), .bool false], .rblk gp 25 [code.v, pw, .int .i64 ((Lk : Nat) : Int), .int .i64 ((R : Nat) : Int)], .at_ code, .own 234 (⟨vt, rows.map ThR.toQ⟩ : Ls ThQ), .big (regA 3 rows)]) ∨ (S 9 = true ∧ S 11 = true ∧ S 12 = false ∧ S 15 = false ∧ ∃ (v7009 : Value) (v7011 : Value), FrI 34 S Φ (Ψ ++ [(9, 26, v7009), (10, 27, .agg #[.int .i64 0, v7009]), (11, 28, v7011)]) a ∧ Sh (fun _ => False) W w [.own 234 (⟨v7011, [(⟨0, v7009⟩ : ThQ)]⟩ : Ls ThQ), .own 3 (⟨v7009, List.replicate R 0⟩ : Ls Int), .blk b7 197 [.iface M.T (.pointer (some M.u)), .pointer (some ⟨gp, 0, none⟩), vt, (.slice none 0 0), .bool false], .rblk gp 25 [code.v, pw, .int .i64 ((Lk : Nat) : Int), .int .i64 ((R : Nat) : Int)], .at_ code, .own 234 (⟨vt, rows.map ThR.toQ⟩ : Ls ThQ), .big (regA 3 rows)]) ∨ (S 9 = true ∧ S 11 = true ∧ S 12 = true ∧ S 15 = false ∧ ∃ (v7009 : Value) (v7011 : Value) (v7012 : Value), FrI 34 S Φ (Ψ ++ [(9, 26, v7009), (10, 27, .agg #[.int .i64 0, v7009]), (11, 28, v7011), (12, 29, v7012), (13, 30, .pointer (some ⟨b7, 0, none⟩)), (14, 31, .pointer (some ⟨b7, 2, none⟩))]) a ∧ Sh (fun _ => False) W w [.own 234 (⟨v7011, [(⟨0, v7009⟩ : ThQ)]⟩ : Ls ThQ), .own 3 (⟨v7009, List.replicate R 0⟩ : Ls Int), .blk b7 197 [.iface M.T (.pointer (some M.u)), .pointer (some ⟨gp, 0, none⟩), vt, (.slice none 0 0), .bool false], .rblk gp 25 [code.v, pw, .int .i64 ((Lk : Nat) : Int), .int .i64 ((R : Nat) : Int)], .at_ code, .own 234 (⟨v7012, (rows.map ThR.toQ) ++ ([(⟨0, v7009⟩ : ThQ)])⟩ : Ls ThQ), .big (regA 3 rows)]) ∨ (S 9 = true ∧ S 11 = true ∧ S 12 = true ∧ S 15 = true ∧ ∃ (v7009 : Value) (v7011 : Value) (v7012 : Value), FrI 34 S Φ (Ψ ++ [(9, 26, v7009), (10, 27, .agg #[.int .i64 0, v7009]), (11, 28, v7011), (12, 29, v7012), (13, 30, .pointer (some ⟨b7, 0, none⟩)), (14, 31, .pointer (some ⟨b7, 2, none⟩))]) a ∧ Sh (fun _ => False) W w [.own 234 (⟨v7011, [(⟨0, v7009⟩ : ThQ)]⟩ : Ls ThQ), .own 3 (⟨v7009, List.replicate R 0⟩ : Ls Int), .blk b7 197 [.iface M.T (.pointer (some M.u)), .pointer (some ⟨gp, 0, none⟩), v7012, (.slice none 0 0), .bool false], .rblk gp 25 [code.v, pw, .int .i64 ((Lk : Nat) : Int), .int .i64 ((R : Nat) : Int)], .at_ code, .own 234 (⟨v7012, (rows.map ThR.toQ) ++ ([(⟨0, v7009⟩ : ThQ)])⟩ : Ls ThQ), .big (regA 3 rows)])) [(0, .pointer (some ⟨gp, 0, none⟩)), (5, .pointer (some ⟨b7, 0, none⟩)), (14, .int .i64 ((code.l.length : Nat) : Int)), (15, .int .i64 ((i : Nat) : Int)), (16, .bool (decide (i < code.l.length)))] [(0, 17, .pointer (some ⟨b7, 0, none⟩)), (1, 18, .pointer (some ⟨b7, 0, none⟩)), (2, 19, .pointer (some ⟨b7, 0, none⟩)), (3, 20, .pointer (some ⟨b7, 2, none⟩)), (4, 21, vt), (5, 22, .pointer (some ⟨gp, 0, none⟩)), (6, 23, .pointer (some ⟨gp, 0, none⟩)), (7, 24, .pointer (some ⟨gp, 3, none⟩)), (8, 25, .int .i64 ((R : Nat) : Int))]) (by kernel_rfl) (by kernel_rfl) (Or.inl (⟨rfl, rfl, rfl, rfl, FrI.start h26.fr, h26.sh.drew⟩)) ?_ ?_
  ·intro S i o ho hSi hcl hdep a w hI
   clear h26
   rcases i with _ | _ | _ | _ | _ | _ | _ | _ | _ | _ | _ | _ | _ | _ | _ | _ | i
   ·obtain rfl : _ = o := Option.some.inj ho
    rcases hI with ⟨ν9, ν11, ν12, ν15, φ, ς⟩ | ⟨ν9, ν11, ν12, ν15, v7009, φ, ς⟩ | ⟨ν9, ν11, ν12, ν15, v7009, v7011, φ, ς⟩ | ⟨ν9, ν11, ν12, ν15, v7009, v7011, v7012, φ, ς⟩ | ⟨_, _, _, ν15, _⟩
    ·exact sq φ φ.fr0 ς (r_move rfl rfl) 0 rfl rfl rfl rfl rfl rfl fun a hg => Or.inl (⟨un rfl ν9, un rfl ν11, un rfl ν12, un rfl ν15, hg, ς⟩)
    ·exact sq φ φ.fr0 ς (r_move rfl rfl) 0 rfl rfl rfl rfl rfl rfl fun a hg => Or.inr (Or.inl (⟨un rfl ν9, un rfl ν11, un rfl ν12, un rfl ν15, v7009, hg, ς⟩))
    ·exact sq φ φ.fr0 ς (r_move rfl rfl) 0 rfl rfl rfl rfl rfl rfl fun a hg => Or.inr (Or.inr (Or.inl (⟨un rfl ν9, un rfl ν11, un rfl ν12, un rfl ν15, v7009, v7011, hg, ς⟩)))
    ·exact sq φ φ.fr0 ς (r_move rfl rfl) 0 rfl rfl rfl rfl rfl rfl fun a hg => Or.inr (Or.inr (Or.inr (Or.inl (⟨un rfl ν9, un rfl ν11, un rfl ν12, un rfl ν15, v7009, v7011, v7012, hg, ς⟩))))
    ·exact no_way (cA hcl 15 0 rfl ν15) hSi
   ·obtain rfl : _ = o := Option.some.inj ho
    rcases hI with ⟨ν9, ν11, ν12, ν15, φ, ς⟩ | ⟨ν9, ν11, ν12, ν15, v7009, φ, ς⟩ | ⟨ν9, ν11, ν12, ν15, v7009, v7011, φ, ς⟩ | ⟨_, _, ν12, _⟩ | ⟨_, _, ν12, _⟩
    ·exact sq φ φ.fr0 ς (r_move rfl rfl) 1 rfl rfl rfl rfl rfl rfl fun a hg => Or.inl (⟨un rfl ν9, un rfl ν11, un rfl ν12, un rfl ν15, hg, ς⟩)
    ·exact sq φ φ.fr0 ς (r_move rfl rfl) 1 rfl rfl rfl rfl rfl rfl fun a hg => Or.inr (Or.inl (⟨un rfl ν9, un rfl ν11, un rfl ν12, un rfl ν15, v7009, hg, ς⟩))
    ·exact sq φ φ.fr0 ς (r_move rfl rfl) 1 rfl rfl rfl rfl rfl rfl fun a hg => Or.inr (Or.inr (Or.inl (⟨un rfl ν9, un rfl ν11, un rfl ν12, un rfl ν15, v7009, v7011, hg, ς⟩)))
    ·exact no_way (cA hcl 12 1 rfl ν12) hSi
    ·exact no_way (cA hcl 12 1 rfl ν12) hSi
   ·obtain rfl : _ = o := Option.some.inj ho
    have hd1 : S 1 = true := depAt hdep 0 rfl rfl
    rcases hI with ⟨ν9, ν11, ν12, ν15, φ, ς⟩ | ⟨ν9, ν11, ν12, ν15, v7009, φ, ς⟩ | ⟨ν9, ν11, ν12, ν15, v7009, v7011, φ, ς⟩ | ⟨_, _, ν12, _⟩ | ⟨_, _, ν12, _⟩
    ·exact sq φ (Fr.cons φ.fr0 (φ.at_ 1 1 18 _ rfl hd1)) ς (r_nil rfl rfl) 2 rfl rfl rfl rfl rfl rfl fun a hg => Or.inl (⟨un rfl ν9, un rfl ν11, un rfl ν12, un rfl ν15, hg, ς⟩)
    ·exact sq φ (Fr.cons φ.fr0 (φ.at_ 1 1 18 _ rfl hd1)) ς (r_nil rfl rfl) 2 rfl rfl rfl rfl rfl rfl fun a hg => Or.inr (Or.inl (⟨un rfl ν9, un rfl ν11, un rfl ν12, un rfl ν15, v7009, hg, ς⟩))
    ·exact sq φ (Fr.cons φ.fr0 (φ.at_ 1 1 18 _ rfl hd1)) ς (r_nil rfl rfl) 2 rfl rfl rfl rfl rfl rfl fun a hg => Or.inr (Or.inr (Or.inl (⟨un rfl ν9, un rfl ν11, un rfl ν12, un rfl ν15, v7009, v7011, hg, ς⟩)))
    ·exact no_way (cA hcl 12 2 rfl ν12) hSi
    ·exact no_way (cA hcl 12 2 rfl ν12) hSi
   ·obtain rfl : _ = o := Option.some.inj ho
    have hd2 : S 2 = true := depAt hdep 0 rfl rfl
    rcases hI with ⟨ν9, ν11, ν12, ν15, φ, ς⟩ | ⟨ν9, ν11, ν12, ν15, v7009, φ, ς⟩ | ⟨ν9, ν11, ν12, ν15, v7009, v7011, φ, ς⟩ | ⟨_, _, ν12, _⟩ | ⟨_, _, ν12, _⟩
    ·exact sq φ (Fr.cons φ.fr0 (φ.at_ 2 2 19 _ rfl hd2)) ς (r_fieldB (r := 2) fl_197_2 rfl rfl rfl) 3 rfl rfl rfl rfl rfl rfl fun a hg => Or.inl (⟨un rfl ν9, un rfl ν11, un rfl ν12, un rfl ν15, hg, ς⟩)
    ·exact sq φ (Fr.cons φ.fr0 (φ.at_ 2 2 19 _ rfl hd2)) ς (r_fieldB (r := 2) fl_197_2 rfl rfl rfl) 3 rfl rfl rfl rfl rfl rfl fun a hg => Or.inr (Or.inl (⟨un rfl ν9, un rfl ν11, un rfl ν12, un rfl ν15, v7009, hg, ς⟩))
    ·exact sq φ (Fr.cons φ.fr0 (φ.at_ 2 2 19 _ rfl hd2)) ς (r_fieldB (r := 2) fl_197_2 rfl rfl rfl) 3 rfl rfl rfl rfl rfl rfl fun a hg => Or.inr (Or.inr (Or.inl (⟨un rfl ν9, un rfl ν11, un rfl ν12, un rfl ν15, v7009, v7011, hg, ς⟩)))
    ·exact no_way (cA hcl 12 3 rfl ν12) hSi
    ·exact no_way (cA hcl 12 3 rfl ν12) hSi
   ·obtain rfl : _ = o := Option.some.inj ho
    have hd3 : S 3 = true := depAt hdep 0 rfl rfl
    rcases hI with ⟨ν9, ν11, ν12, ν15, φ, ς⟩ | ⟨ν9, ν11, ν12, ν15, v7009, φ, ς⟩ | ⟨ν9, ν11, ν12, ν15, v7009, v7011, φ, ς⟩ | ⟨_, _, ν12, _⟩ | ⟨_, _, ν12, _⟩
    ·exact sq φ (Fr.cons φ.fr0 (φ.at_ 3 3 20 _ rfl hd3)) ς (r_ldb (i := 0) ti_195 rfl rfl rfl rfl) 4 rfl rfl rfl rfl rfl rfl fun a hg => Or.inl (⟨un rfl ν9, un rfl ν11, un rfl ν12, un rfl ν15, hg, ς⟩)
    ·exact sq φ (Fr.cons φ.fr0 (φ.at_ 3 3 20 _ rfl hd3)) ς (r_ldb (i := 1) ti_195 rfl rfl rfl rfl) 4 rfl rfl rfl rfl rfl rfl fun a hg => Or.inr (Or.inl (⟨un rfl ν9, un rfl ν11, un rfl ν12, un rfl ν15, v7009, hg, ς⟩))
    ·exact sq φ (Fr.cons φ.fr0 (φ.at_ 3 3 20 _ rfl hd3)) ς (r_ldb (i := 2) ti_195 rfl rfl rfl rfl) 4 rfl rfl rfl rfl rfl rfl fun a hg => Or.inr (Or.inr (Or.inl (⟨un rfl ν9, un rfl ν11, un rfl ν12, un rfl ν15, v7009, v7011, hg, ς⟩)))
    ·exact no_way (cA hcl 12 4 rfl ν12) hSi
    ·exact no_way (cA hcl 12 4 rfl ν12) hSi
   ·obtain rfl : _ = o := Option.some.inj ho
    rcases hI with ⟨ν9, ν11, ν12, ν15, φ, ς⟩ | ⟨ν9, _⟩ | ⟨ν9, _⟩ | ⟨ν9, _⟩ | ⟨ν9, _⟩
    ·exact sq φ φ.fr0 ς (r_move rfl rfl) 5 rfl rfl rfl rfl rfl rfl fun a hg => Or.inl (⟨un rfl ν9, un rfl ν11, un rfl ν12, un rfl ν15, hg, ς⟩)
    ·exact no_way (cA hcl 9 5 rfl ν9) hSi
    ·exact no_way (cA hcl 9 5 rfl ν9) hSi
    ·exact no_way (cA hcl 9 5 rfl ν9) hSi
    ·exact no_way (cA hcl 9 5 rfl ν9) hSi
   ·obtain rfl : _ = o := Option.some.inj ho
    have hd5 : S 5 = true := depAt hdep 0 rfl rfl
    rcases hI with ⟨ν9, ν11, ν12, ν15, φ, ς⟩ | ⟨ν9, _⟩ | ⟨ν9, _⟩ | ⟨ν9, _⟩ | ⟨ν9, _⟩
    ·exact sq φ (Fr.cons φ.fr0 (φ.at_ 5 5 22 _ rfl hd5)) ς (r_nil rfl rfl) 6 rfl rfl rfl rfl rfl rfl fun a hg => Or.inl (⟨un rfl ν9, un rfl ν11, un rfl ν12, un rfl ν15, hg, ς⟩)
    ·exact no_way (cA hcl 9 6 rfl ν9) hSi
    ·exact no_way (cA hcl 9 6 rfl ν9) hSi
    ·exact no_way (cA hcl 9 6 rfl ν9) hSi
    ·exact no_way (cA hcl 9 6 rfl ν9) hSi
   ·obtain rfl : _ = o := Option.some.inj ho
    have hd6 : S 6 = true := depAt hdep 0 rfl rfl
    rcases hI with ⟨ν9, ν11, ν12, ν15, φ, ς⟩ | ⟨ν9, _⟩ | ⟨ν9, _⟩ | ⟨ν9, _⟩ | ⟨ν9, _⟩
    ·exact sq φ (Fr.cons φ.fr0 (φ.at_ 6 6 23 _ rfl hd6)) ς (r_fieldB (r := 3) fl_25_3 rfl rfl rfl) 7 rfl rfl rfl rfl rfl rfl fun a hg => Or.inl (⟨un rfl ν9, un rfl ν11, un rfl ν12, un rfl ν15, hg, ς⟩)
    ·exact no_way (cA hcl 9 7 rfl ν9) hSi
    ·exact no_way (cA hcl 9 7 rfl ν9) hSi
    ·exact no_way (cA hcl 9 7 rfl ν9) hSi
    ·exact no_way (cA hcl 9 7 rfl ν9) hSi
   ·obtain rfl : _ = o := Option.some.inj ho
    have hd7 : S 7 = true := depAt hdep 0 rfl rfl
    rcases hI with ⟨ν9, ν11, ν12, ν15, φ, ς⟩ | ⟨ν9, _⟩ | ⟨ν9, _⟩ | ⟨ν9, _⟩ | ⟨ν9, _⟩
    ·exact sq φ (Fr.cons φ.fr0 (φ.at_ 7 7 24 _ rfl hd7)) ς (r_ldbR ti_3 rfl rfl (fun w h => h.rblk 1 rfl) rfl) 8 rfl rfl rfl rfl rfl rfl fun a hg => Or.inl (⟨un rfl ν9, un rfl ν11, un rfl ν12, un rfl ν15, hg, ς⟩)
    ·exact no_way (cA hcl 9 8 rfl ν9) hSi
    ·exact no_way (cA hcl 9 8 rfl ν9) hSi
    ·exact no_way (cA hcl 9 8 rfl ν9) hSi
    ·exact no_way (cA hcl 9 8 rfl ν9) hSi
   ·obtain rfl : _ = o := Option.some.inj ho
    have hd8 : S 8 = true := depAt hdep 0 rfl rfl
    rcases hI with ⟨ν9, ν11, ν12, ν15, φ, ς⟩ | ⟨ν9, _⟩ | ⟨ν9, _⟩ | ⟨ν9, _⟩ | ⟨ν9, _⟩
    ·have hs := St.mk (Fr.cons φ.fr0 (φ.at_ 8 8 25 _ rfl hd8)) ς
     refine step_ex (x_make (n := R) (0 : Int) hs sl_23 ti_3 rfl rfl rfl rfl rfl (show 8 * R ≤ 140737488355328 ∧ R ≤ 140737488355328 from (by omega)) (fun w => Flat.inner _ _) (fun b => Flat.on _ _) rfl rfl) (wanted_none rfl _) ?_
     rintro a52 w52 ⟨v52, h52⟩ ⟨v0, ht52⟩
     exact Or.inr (Or.inl (⟨upd_self _ _, un rfl ν11, un rfl ν12, un rfl ν15, v52, φ.stepW hcl hSi [0, 1, 2, 3, 4, 5, 6, 7, 8] (by kernel_rfl) (by kernel_rfl) ht52 h52.fr.defers (h52.fr.at_ 26 _ rfl) 9 rfl rfl rfl rfl, (h52.sh.sel (L' := [.own 3 (⟨v52, List.replicate R 0⟩ : Ls Int), .blk b7 197 [.iface M.T (.pointer (some M.u)), .pointer (some ⟨gp, 0, none⟩), vt, (.slice none 0 0), .bool false], .rblk gp 25 [code.v, pw, .int .i64 ((Lk : Nat) : Int), .int .i64 ((R : Nat) : Int)], .at_ code, .own 234 (⟨vt, rows.map ThR.toQ⟩ : Ls ThQ), .big (regA 3 rows)]) [0, 1, 2, 3, 4, 5] (by decide) ⟨rfl, rfl, rfl, rfl, rfl, rfl, trivial⟩)⟩))
    ·exact no_way ν9 hSi
    ·exact no_way ν9 hSi
    ·exact no_way ν9 hSi
    ·exact no_way ν9 hSi
   ·obtain rfl : _ = o := Option.some.inj ho
    have hd9 : S 9 = true := depAt hdep 0 rfl rfl
    rcases hI with ⟨ν9, _⟩ | ⟨ν9, ν11, ν12, ν15, v7009, φ, ς⟩ | ⟨_, ν11, _⟩ | ⟨_, ν11, _⟩ | ⟨_, ν11, _⟩
    ·exact no_way hd9 ν9
    ·have hs := St.mk (Fr.cons φ.fr0 (φ.at_ 9 9 26 _ rfl hd9)) ς
     exact sq φ (Fr.cons φ.fr0 (φ.at_ 9 9 26 _ rfl hd9)) ς (r_build (cs := [.int .i64 0, v7009]) rfl rfl (by obtain ⟨A53, n53, c53, (e53 : v7009 = _)⟩ := ((hs.sh.own 0 rfl)).form; rw [e53]; kernel_rfl)) 10 rfl rfl rfl rfl rfl rfl fun a hg => Or.inr (Or.inl (⟨un rfl ν9, un rfl ν11, un rfl ν12, un rfl ν15, v7009, hg, ς⟩))
    ·exact no_way (cA hcl 11 10 rfl ν11) hSi
    ·exact no_way (cA hcl 11 10 rfl ν11) hSi
    ·exact no_way (cA hcl 11 10 rfl ν11) hSi
   ·obtain rfl : _ = o := Option.some.inj ho
    have hd10 : S 10 = true := depAt hdep 0 rfl rfl
    rcases hI with ⟨ν9, _⟩ | ⟨ν9, ν11, ν12, ν15, v7009, φ, ς⟩ | ⟨_, ν11, _⟩ | ⟨_, ν11, _⟩ | ⟨_, ν11, _⟩
    ·exact no_way (cA hcl 10 9 rfl hd10) ν9
    ·have hs := St.mk (Fr.cons φ.fr0 (φ.at_ 10 10 27 _ rfl hd10)) ς
     refine step_ex (x_lit (n := 1) (cs := [.int .i64 0, v7009]) ([(⟨0, v7009⟩ : ThQ)] : List ThQ) hs sl_195 ti_234 rfl rfl rfl (by decide) rfl (by kernel_rfl) rfl (fun q hq w h => Flat.inner _ _) (fun q hq b hb => (Flat.on _ _ hb).elim) rfl rfl) (wanted_none rfl _) ?_
     rintro a55 w55 ⟨v55, h55⟩ ⟨v0, ht55⟩
     exact Or.inr (Or.inr (Or.inl (⟨un rfl ν9, upd_self _ _, un rfl ν12, un rfl ν15, v7009, v55, φ.stepW hcl hSi [0, 1, 2, 3, 4, 5, 6, 7, 8, 9, 10] (by kernel_rfl) (by kernel_rfl) ht55 h55.fr.defers (h55.fr.at_ 28 _ rfl) 11 rfl rfl rfl rfl, (h55.sh.sel (L' := [.own 234 (⟨v55, [(⟨0, v7009⟩ : ThQ)]⟩ : Ls ThQ), .own 3 (⟨v7009, List.replicate R 0⟩ : Ls Int), .blk b7 197 [.iface M.T (.pointer (some M.u)), .pointer (some ⟨gp, 0, none⟩), vt, (.slice none 0 0), .bool false], .rblk gp 25 [code.v, pw, .int .i64 ((Lk : Nat) : Int), .int .i64 ((R : Nat) : Int)], .at_ code, .own 234 (⟨vt, rows.map ThR.toQ⟩ : Ls ThQ), .big (regA 3 rows)]) [0, 1, 2, 3, 4, 5, 6] (by decide) ⟨rfl, rfl, rfl, rfl, rfl, rfl, rfl, trivial⟩)⟩)))
    ·exact no_way ν11 hSi
    ·exact no_way ν11 hSi
    ·exact no_way ν11 hSi
   ·obtain rfl : _ = o := Option.some.inj ho
    have hd4 : S 4 = true := depAt hdep 0 rfl rfl
    have hd11 : S 11 = true := depAt hdep 1 rfl rfl
    rcases hI with ⟨ν9, _⟩ | ⟨_, ν11, _⟩ | ⟨ν9, ν11, ν12, ν15, v7009, v7011, φ, ς⟩ | ⟨_, _, ν12, _⟩ | ⟨_, _, ν12, _⟩
    ·exact no_way (cA hcl 11 9 rfl hd11) ν9
    ·exact no_way hd11 ν11
    ·have hs := St.mk (Fr.cons (Fr.cons φ.fr0 (φ.at_ 4 4 21 _ rfl hd4)) (φ.at_ 11 11 28 _ rfl hd11)) ς
     refine step_ex (x_app1 (r := 5) (rm := 0) (s := (⟨vt, rows.map ThR.toQ⟩ : Ls ThQ)) (m := (⟨v7011, [(⟨0, v7009⟩ : ThQ)]⟩ : Ls ThQ)) hs sl_195 ti_234 rfl rfl rfl rfl rfl rfl rfl (fun w h => (h.own 0 rfl)) (fun b hb => own_on (hs.sh.ok _ (List.mem_of_getElem? (i := 0) rfl)) hb) (fun q hq b hb => ⟨q, hq, hb⟩) rfl rfl rfl (fun w h q hq j hj => by obtain rfl : q = 0 := (by simpa using hq); rcases j with _ | _ | j; exact rfl; exact ((h.own 1 rfl)).one; exact absurd hj (by show ¬ (j + 2 < 2); omega)) (show ((rows.map ThR.toQ).length + ([(⟨0, v7009⟩ : ThQ)]).length) * 32 ≤ 140737488355328 ∧ (rows.map ThR.toQ).length + ([(⟨0, v7009⟩ : ThQ)]).length ≤ 140737488355328 from (by first | omega | (simp only [lens9]; omega))) rfl rfl) (wanted_none rfl _) ?_
     rintro a56 w56 ⟨v56, h56⟩ ⟨v0, ht56⟩
     exact Or.inr (Or.inr (Or.inr (Or.inl (⟨un rfl ν9, un rfl ν11, upd_self _ _, un rfl ν15, v7009, v7011, v56, φ.stepW hcl hSi [0, 1, 2, 3, 4, 5, 6, 7, 8, 9, 10, 11] (by kernel_rfl) (by kernel_rfl) ht56 h56.fr.defers (h56.fr.at_ 29 _ rfl) 12 rfl rfl rfl rfl, (h56.sh.sel (L' := [.own 234 (⟨v7011, [(⟨0, v7009⟩ : ThQ)]⟩ : Ls ThQ), .own 3 (⟨v7009, List.replicate R 0⟩ : Ls Int), .blk b7 197 [.iface M.T (.pointer (some M.u)), .pointer (some ⟨gp, 0, none⟩), vt, (.slice none 0 0), .bool false], .rblk gp 25 [code.v, pw, .int .i64 ((Lk : Nat) : Int), .int .i64 ((R : Nat) : Int)], .at_ code, .own 234 (⟨v56, (rows.map ThR.toQ) ++ ([(⟨0, v7009⟩ : ThQ)])⟩ : Ls ThQ), .big (regA 3 rows)]) [0, 1, 2, 3, 4, 5, 6] (by decide) ⟨rfl, rfl, rfl, rfl, rfl, rfl, rfl, trivial⟩)⟩))))
    ·exact no_way ν12 hSi
    ·exact no_way ν12 hSi
   ·obtain rfl : _ = o := Option.some.inj ho
    have hd0 : S 0 = true := depAt hdep 0 rfl rfl
    have hd9 : S 9 = true := depAt hdep 10 rfl rfl
    have hd11 : S 11 = true := depAt hdep 12 rfl rfl
    have hd12 : S 12 = true := depAt hdep 13 rfl rfl
    rcases hI with ⟨ν9, _⟩ | ⟨_, ν11, _⟩ | ⟨_, _, ν12, _⟩ | ⟨ν9, ν11, ν12, ν15, v7009, v7011, v7012, φ, ς⟩ | ⟨_, _, _, ν15, _⟩
    ·exact no_way hd9 ν9
    ·exact no_way hd11 ν11
    ·exact no_way hd12 ν12
    ·exact sq φ (Fr.cons φ.fr0 (φ.at_ 0 0 17 _ rfl hd0)) ς (r_nil rfl rfl) 13 rfl rfl rfl rfl rfl rfl fun a hg => Or.inr (Or.inr (Or.inr (Or.inl (⟨un rfl ν9, un rfl ν11, un rfl ν12, un rfl ν15, v7009, v7011, v7012, hg, ς⟩))))
    ·exact no_way (cA hcl 15 13 rfl ν15) hSi
   ·obtain rfl : _ = o := Option.some.inj ho
    have hd13 : S 13 = true := depAt hdep 0 rfl rfl
    have hd9 : S 9 = true := depAt hdep 10 rfl rfl
    have hd11 : S 11 = true := depAt hdep 12 rfl rfl
    have hd12 : S 12 = true := depAt hdep 13 rfl rfl
    rcases hI with ⟨ν9, _⟩ | ⟨_, ν11, _⟩ | ⟨_, _, ν12, _⟩ | ⟨ν9, ν11, ν12, ν15, v7009, v7011, v7012, φ, ς⟩ | ⟨_, _, _, ν15, _⟩
    ·exact no_way hd9 ν9
    ·exact no_way hd11 ν11
    ·exact no_way hd12 ν12
    ·exact sq φ (Fr.cons φ.fr0 (φ.at_ 13 13 30 _ rfl hd13)) ς (r_fieldB (r := 2) fl_197_2 rfl rfl rfl) 14 rfl rfl rfl rfl rfl rfl fun a hg => Or.inr (Or.inr (Or.inr (Or.inl (⟨un rfl ν9, un rfl ν11, un rfl ν12, un rfl ν15, v7009, v7011, v7012, hg, ς⟩))))
    ·exact no_way (cA hcl 15 14 rfl ν15) hSi
   ·obtain rfl : _ = o := Option.some.inj ho
    have hd14 : S 14 = true := depAt hdep 0 rfl rfl
    have hd12 : S 12 = true := depAt hdep 1 rfl rfl
    have hd9 : S 9 = true := depAt hdep 12 rfl rfl
    have hd11 : S 11 = true := depAt hdep 14 rfl rfl
    rcases hI with ⟨ν9, _⟩ | ⟨_, ν11, _⟩ | ⟨_, _, ν12, _⟩ | ⟨ν9, ν11, ν12, ν15, v7009, v7011, v7012, φ, ς⟩ | ⟨_, _, _, ν15, _⟩
    ·exact no_way hd9 ν9
    ·exact no_way hd11 ν11
    ·exact no_way hd12 ν12
    ·have hs := St.mk (Fr.cons (Fr.cons φ.fr0 (φ.at_ 12 12 29 _ rfl hd12)) (φ.at_ 14 14 31 _ rfl hd14)) ς
     refine step_ex (x_stb (i := 2) (vs := [v7012]) (cs' := [.iface M.T (.pointer (some M.u)), .pointer (some ⟨gp, 0, none⟩), v7012, (.slice none 0 0), .bool false]) hs ti_195 rfl rfl rfl rfl rfl (cells_oneL ((hs.sh.own 5 rfl)).one) rfl (allOne_cons ((hs.sh.own 5 rfl)).one allOne_nil) (Nat.le_of_ble_eq_true rfl) rfl) (wanted_none rfl _) ?_
     rintro a59 w59 h59 ⟨v0, ht59⟩
     exact Or.inr (Or.inr (Or.inr (Or.inr (⟨un rfl ν9, un rfl ν11, un rfl ν12, upd_self _ _, v7009, v7011, v7012, φ.noneW hcl hSi [0, 1, 2, 3, 4, 5, 6, 7, 8, 9, 10, 11, 12, 13, 14] (by kernel_rfl) (by kernel_rfl) ht59 h59.fr.defers rfl, (h59.sh.sel (L' := [.own 234 (⟨v7011, [(⟨0, v7009⟩ : ThQ)]⟩ : Ls ThQ), .own 3 (⟨v7009, List.replicate R 0⟩ : Ls Int), .blk b7 197 [.iface M.T (.pointer (some M.u)), .pointer (some ⟨gp, 0, none⟩), v7012, (.slice none 0 0), .bool false], .rblk gp 25 [code.v, pw, .int .i64 ((Lk : Nat) : Int), .int .i64 ((R : Nat) : Int)], .at_ code, .own 234 (⟨v7012, (rows.map ThR.toQ) ++ ([(⟨0, v7009⟩ : ThQ)])⟩ : Ls ThQ), .big (regA 3 rows)]) [0, 1, 2, 3, 4, 5, 6] (by decide) ⟨rfl, rfl, rfl, rfl, rfl, rfl, rfl, trivial⟩)⟩))))
    ·exact no_way ν15 hSi
   · simp at ho
  intro S hall a w hI
  clear h26
  rcases hI with ⟨ν9, ν11, ν12, ν15, φ, ς⟩ | ⟨ν9, ν11, ν12, ν15, v7009, φ, ς⟩ | ⟨ν9, ν11, ν12, ν15, v7009, v7011, φ, ς⟩ | ⟨ν9, ν11, ν12, ν15, v7009, v7011, v7012, φ, ς⟩ | ⟨ν9, ν11, ν12, ν15, v7009, v7011, v7012, φ, ς⟩
  · exact no_way (hall 9 (by decide)) ν9
  · exact no_way (hall 11 (by decide)) ν11
  · exact no_way (hall 12 (by decide)) ν12
  · exact no_way (hall 15 (by decide)) ν15
  have h60 : St 34 (fun _ => False) W a w _ [.own 234 (⟨v7011, [(⟨0, v7009⟩ : ThQ)]⟩ : Ls ThQ), .own 3 (⟨v7009, List.replicate R 0⟩ : Ls Int), .blk b7 197 [.iface M.T (.pointer (some M.u)), .pointer (some ⟨gp, 0, none⟩), v7012, (.slice none 0 0), .bool false], .rblk gp 25 [code.v, pw, .int .i64 ((Lk : Nat) : Int), .int .i64 ((R : Nat) : Int)], .at_ code, .own 234 (⟨v7012, (rows.map ThR.toQ) ++ ([(⟨0, v7009⟩ : ThQ)])⟩ : Ls ThQ), .big (regA 3 rows)] := ⟨φ.fr0, ς⟩
  clear hall φ ς ν9 ν11 ν12 ν15
  refine hK25 _ _ <| wp_region_lit <| wv h60 (r_addN (p := i) (q := 1) rfl rfl rfl (show i + 1 < 9223372036854775808 from (by omega))) rfl rfl fun a61 h61 => wms 1 h61 rfl fun a62 h62 => wpList_nil ?_; clear h60 h61
  have h63 := h62.sel (L' := [.own 3 (⟨v7009, List.replicate R 0⟩ : Ls Int), .big (regA 3 rows), .own 234 (⟨v7011, [(⟨0, v7009⟩ : ThQ)]⟩ : Ls ThQ), .blk b7 197 [.iface M.T (.pointer (some M.u)), .pointer (some ⟨gp, 0, none⟩), v7012, (.slice none 0 0), .bool false], .rblk gp 25 [code.v, pw, .int .i64 ((Lk : Nat) : Int), .int .i64 ((R : Nat) : Int)], .at_ code, .own 234 (⟨v7012, (rows.map ThR.toQ) ++ ([(⟨0, v7009⟩ : ThQ)])⟩ : Ls ThQ)]) [1, 6, 0, 2, 3, 4, 5] (by decide) ⟨rfl, rfl, rfl, rfl, rfl, rfl, rfl, trivial⟩
  have h64 := h63.foldR (x := (⟨0, (⟨v7009, List.replicate R 0⟩ : Ls Int)⟩ : ThR))
  clear h63
  have h65 := h64.relist (i := 5) (l' := (rows ++ [(⟨0, (⟨v7009, List.replicate R 0⟩ : Ls Int)⟩ : ThR)]).map ThR.toQ) rfl (by simp [ThR.toQ])
  clear h64
  refine x_again ⟨_, ?_, (i + 1), (rows ++ [(⟨0, (⟨v7009, List.replicate R 0⟩ : Ls Int)⟩ : ThR)]), v7012, ?_, ?_, ?_, h65.nrm ⟨rfl, rfl, rfl, rfl, trivial⟩ [2, 3, 4, 5, 0] (by decide) ⟨rfl, rfl, rfl, rfl, rfl, trivial⟩, rfl⟩
  · rw [hm18]; first | omega | (simp only [lens9]; omega)
  · omega
  · simp [hrl]
  · rw [List.map_append, hrw, List.replicate_succ']; rfl
 have hp24 : ¬ (i < code.l.length) := of_decide_eq_false hb24
 refine wp_exit <| hK9 _ _ <| wp_seq_k fun K66 hK66 => wp_region_lit <| wms 2 h22 rfl fun a67 h67 => wpList_nil <| hK66 _ _ <| wp_ret ?_; clear h22
 try simp only [Exit.then, Exit.inBlock]
 refine x_ret1 (fn := Try.f119) (t := 4) rfl h67 rfl ?_
 have h68 := h67.nil (α := Int) 3
 clear h67
 refine ⟨b7, rows, vt, rfl, ?_, (h68.sh.sel (L' := [.blk b7 197 [.iface M.T (.pointer (some M.u)), .pointer (some ⟨gp, 0, none⟩), vt, (.slice none 0 0), .bool false], .own 234 (⟨vt, rows.map ThR.toQ⟩ : Ls ThQ), .big (regA 3 rows), .own 3 (⟨.slice none 0 0, []⟩ : Ls Int)]) [1, 4, 5, 0] (by decide) ⟨rfl, rfl, rfl, rfl, trivial⟩)⟩
 rw [hrw, show i = code.l.length by omega]

set_option maxRecDepth 100000 in
set_option maxHeartbeats 4000000 in
theorem pend_c (M : MemS) (g gp : Nat) (code : Ls (Ls Ins)) (thr : Ls ThQ) (words owner : Ls Int) (q : M.σ) (pw : Value) (locks nregs : Int) (fell : Bool) (prints : Ls Int) (stt : Int) (kk : Nat) {gs gk : Nat} (W : World) (hM : MemI Try.prog 205 3 M) (hB : Blk W g 197 #[.iface M.T (.pointer (some M.u)), .pointer (some ⟨gp, 0, none⟩), thr.v, prints.v, .bool fell]) (hP : Blk W gp 25 #[code.v, pw, .int .i64 locks, .int .i64 nregs]) (h_code : code.At W) (h_thr : thr.At W) (hR : MemRd 205 M W words owner q) (h_prints : prints.At W) (hS1 : Blk W gs 192 #[.pointer (some ⟨g, 0, none⟩)]) (hK1 : Blk W gk 3 #[.int .i64 ((kk : Nat) : Int)]) (hwn : words.l.length ≤ 100000) :
    Rets Try.prog 120 [.int .i64 stt, .pointer (some ⟨gs, 0, none⟩), .pointer (some ⟨gk, 0, none⟩)] W (fun v w' => ∃ s : Ls Int, v = .agg #[prints.v, .int .i64 stt, s.v, .int .i64 ((kk : Nat) : Int)] ∧ s.l = words.l ∧ Sh0 W w' [.own 3 s]) := by
 refine x_enter (N := 14) Try.func120 rfl Try.ntmps120 (Nat.le_of_ble_eq_true rfl) fun a1 hf1 => ?_
 have h1 : St 14 (fun _ => False) W a1 W [(0, .int .i64 stt), (1, .pointer (some ⟨gs, 0, none⟩)), (2, .pointer (some ⟨gk, 0, none⟩))] [.rblk g 197 [.iface M.T (.pointer (some M.u)), .pointer (some ⟨gp, 0, none⟩), thr.v, prints.v, .bool fell], .rblk gp 25 [code.v, pw, .int .i64 locks, .int .i64 nregs], .at_ code, .at_ thr, .rblk M.g0 205 [words.v, owner.v], .at_ words, .at_ owner, .ro [M.X q], .at_ prints, .rblk gs 192 [.pointer (some ⟨g, 0, none⟩)], .rblk gk 3 [.int .i64 ((kk : Nat) : Int)]] := ⟨hf1.sub ⟨rfl, rfl, rfl, trivial⟩, Sh0.ext (by intro A hA; simp only [List.mem_cons, List.not_mem_nil, or_false] at hA; rcases hA with rfl | rfl | rfl | rfl | rfl | rfl | rfl | rfl | rfl | rfl | rfl; exact hB; exact hP; exact h_code; exact h_thr; exact hR.blk; exact hR.wa; exact hR.oa; exact (fun A hA => by obtain rfl := List.mem_singleton.1 hA; exact hR.x); exact h_prints; exact hS1; exact hK1) (by intro A hA b hb; simp only [List.mem_cons, List.not_mem_nil, or_false] at hA; rcases hA with rfl | rfl | rfl | rfl | rfl | rfl | rfl | rfl | rfl | rfl | rfl <;> exact hb)⟩
 clear hf1
 refine wp_seq_k fun K2 hK2 => wp_region_lit <| wl_ex (x_alloc h1 ti_49 rfl rfl rfl) (wanted_none rfl _) ?_
 rintro a3 w3 ⟨b3, h3⟩; clear h1
 refine wpList_nil <| hK2 _ _ <| wp_seq_k fun K4 hK4 => ?_
 have h5 : St 14 (fun _ => False) W a3 w3 [(0, .int .i64 stt), (1, .pointer (some ⟨gs, 0, none⟩)), (2, .pointer (some ⟨gk, 0, none⟩)), (4, .pointer (some ⟨b3, 0, none⟩))] [.blk b3 49 [(.slice none 0 0), .int .i64 0, (.slice none 0 0), .int .i64 0], .rblk g 197 [.iface M.T (.pointer (some M.u)), .pointer (some ⟨gp, 0, none⟩), thr.v, prints.v, .bool fell], .rblk gp 25 [code.v, pw, .int .i64 locks, .int .i64 nregs], .at_ code, .at_ thr, .rblk M.g0 205 [words.v, owner.v], .at_ words, .at_ owner, .ro [M.X q], .at_ prints, .rblk gs 192 [.pointer (some ⟨g, 0, none⟩)], .rblk gk 3 [.int .i64 ((kk : Nat) : Int)]] := h3.nrm ⟨rfl, rfl, rfl, rfl, trivial⟩ [0, 1, 2, 3, 4, 5, 6, 7, 8, 9, 10, 11] (by decide) ⟨rfl, rfl, rfl, rfl, rfl, rfl, rfl, rfl, rfl, rfl, rfl, rfl, trivial⟩
 clear h3
 refine x_any ((fun Φ Ψ S a w => (S 6 = false ∧ S 9 = false ∧ FrI 14 S Φ Ψ a ∧ Sh (fun _ => False) W w [.blk b3 49 [(.slice none 0 0), .int .i64 0, (.slice none 0 0), .int .i64 0], .rblk g 197 [.iface M.T (.pointer (some M.u)), .pointer (some ⟨gp, 0, none⟩), thr.v, prints.v, .bool fell], .rblk gp 25 [code.v, pw, .int .i64 locks, .int .i64 nregs], .at_ code, .at_ thr, .rblk M.g0 205 [words.v, owner.v], .at_ words, .at_ owner, .ro [M.X q], .at_ prints, .rblk gs 192 [.pointer (some ⟨g, 0, none⟩)], .rblk gk 3 [.int .i64 ((kk : Nat) : Int)]]) ∨ (S 6 = true ∧ S 9 = false ∧ ∃ (s7006 : Ls Int), (s7006.l = words.l) ∧ FrI 14 S Φ (Ψ ++ [(6, 11, s7006.v), (8, 13, .agg #[prints.v, .int .i64 stt, s7006.v, .int .i64 ((kk : Nat) : Int)])]) a ∧ Sh (fun _ => False) W w [.own 3 s7006, .blk b3 49 [(.slice none 0 0), .int .i64 0, (.slice none 0 0), .int .i64 0], .rblk g 197 [.iface M.T (.pointer (some M.u)), .pointer (some ⟨gp, 0, none⟩), thr.v, prints.v, .bool fell], .rblk gp 25 [code.v, pw, .int .i64 locks, .int .i64 nregs], .at_ code, .at_ thr, .rblk M.g0 205 [words.v, owner.v], .at_ words, .at_ owner, .ro [M.X q], .at_ prints, .rblk gs 192 [.pointer (some ⟨g, 0, none⟩)], .rblk gk 3 [.int .i64 ((kk : Nat) : Int)]]) ∨ (S 6 = true ∧ S 9 = true ∧ ∃ (s7006 : Ls Int), (s7006.l = words.l) ∧ FrI 14 S Φ (Ψ ++ [(6, 11, s7006.v), (8, 13, .agg #[prints.v, .int .i64 stt, s7006.v, .int .i64 ((kk : Nat) : Int)])]) a ∧ Sh (fun _ => False) W w [.own 3 s7006, .blk b3 49 [prints.v, .int .i64 stt, s7006.v, .int .i64 ((kk : Nat) : Int)], .rblk g 197 [.iface M.T (.pointer (some M.u)), .pointer (some ⟨gp, 0, none⟩), thr.v, prints.v, .bool fell], .rblk gp 25 [code.v, pw, .int .i64 locks, .int .i64 nregs], .at_ code, .at_ thr, .rblk M.g0 205 [words.v, owner.v], .at_ words, .at_ owner, .ro [M.X q], .at_ prints, .rblk gs 192 [.pointer (some ⟨g, 0, none⟩)], .rblk gk 3 [.int .i64 ((kk : Nat) : Int)]])) [(0, .int .i64 stt), (1, .pointer (some ⟨gs, 0, none⟩)), (2, .pointer (some ⟨gk, 0, none⟩)), (4, .pointer (some ⟨b3, 0, none⟩))] [(0, 5, .pointer (some ⟨g, 0, none⟩)), (1, 6, .pointer (some ⟨g, 0, none⟩)), (2, 7, .pointer (some ⟨g, 3, none⟩)), (3, 8, prints.v), (4, 9, .int .i64 stt), (5, 10, .pointer (some ⟨g, 0, none⟩)), (7, 12, .int .i64 ((kk : Nat) : Int))]) (by kernel_rfl) (by kernel_rfl) (Or.inl (⟨rfl, rfl, FrI.start h5.fr, h5.sh.drew⟩)) ?_ ?_
 ·intro S i o ho hSi hcl hdep a w hI
  clear h5
  rcases i with _ | _ | _ | _ | _ | _ | _ | _ | _ | _ | i
  ·obtain rfl : _ = o := Option.some.inj ho
   rcases hI with ⟨ν6, ν9, φ, ς⟩ | ⟨ν6, ν9, s7006, hwl7006, φ, ς⟩ | ⟨_, ν9, _⟩
   ·exact sq φ φ.fr0 ς (r_ldbR ti_192 rfl rfl (fun w h => h.rblk 10 rfl) rfl) 0 rfl rfl rfl rfl rfl rfl fun a hg => Or.inl (⟨un rfl ν6, un rfl ν9, hg, ς⟩)
   ·exact sq φ φ.fr0 ς (r_ldbR ti_192 rfl rfl (fun w h => h.rblk 11 rfl) rfl) 0 rfl rfl rfl rfl rfl rfl fun a hg => Or.inr (Or.inl (⟨un rfl ν6, un rfl ν9, s7006, hwl7006, hg, ς⟩))
   ·exact no_way (cA hcl 9 0 rfl ν9) hSi
  ·obtain rfl : _ = o := Option.some.inj ho
   have hd0 : S 0 = true := depAt hdep 0 rfl rfl
   rcases hI with ⟨ν6, ν9, φ, ς⟩ | ⟨ν6, ν9, s7006, hwl7006, φ, ς⟩ | ⟨_, ν9, _⟩
   ·exact sq φ (Fr.cons φ.fr0 (φ.at_ 0 0 5 _ rfl hd0)) ς (r_nil rfl rfl) 1 rfl rfl rfl rfl rfl rfl fun a hg => Or.inl (⟨un rfl ν6, un rfl ν9, hg, ς⟩)
   ·exact sq φ (Fr.cons φ.fr0 (φ.at_ 0 0 5 _ rfl hd0)) ς (r_nil rfl rfl) 1 rfl rfl rfl rfl rfl rfl fun a hg => Or.inr (Or.inl (⟨un rfl ν6, un rfl ν9, s7006, hwl7006, hg, ς⟩))
   ·exact no_way (cA hcl 9 1 rfl ν9) hSi
  ·obtain rfl : _ = o := Option.some.inj ho
   have hd1 : S 1 = true := depAt hdep 0 rfl rfl
   rcases hI with ⟨ν6, ν9, φ, ς⟩ | ⟨ν6, ν9, s7006, hwl7006, φ, ς⟩ | ⟨_, ν9, _⟩
   ·exact sq φ (Fr.cons φ.fr0 (φ.at_ 1 1 6 _ rfl hd1)) ς (r_fieldB (r := 3) fl_197_3 rfl rfl rfl) 2 rfl rfl rfl rfl rfl rfl fun a hg => Or.inl (⟨un rfl ν6, un rfl ν9, hg, ς⟩)
   ·exact sq φ (Fr.cons φ.fr0 (φ.at_ 1 1 6 _ rfl hd1)) ς (r_fieldB (r := 3) fl_197_3 rfl rfl rfl) 2 rfl rfl rfl rfl rfl rfl fun a hg => Or.inr (Or.inl (⟨un rfl ν6, un rfl ν9, s7006, hwl7006, hg, ς⟩))
   ·exact no_way (cA hcl 9 2 rfl ν9) hSi
  ·obtain rfl : _ = o := Option.some.inj ho
   have hd2 : S 2 = true := depAt hdep 0 rfl rfl
   rcases hI with ⟨ν6, ν9, φ, ς⟩ | ⟨ν6, ν9, s7006, hwl7006, φ, ς⟩ | ⟨_, ν9, _⟩
   ·exact sq φ (Fr.cons φ.fr0 (φ.at_ 2 2 7 _ rfl hd2)) ς (r_ldbR ti_23 rfl rfl (fun w h => h.rblk 1 rfl) rfl) 3 rfl rfl rfl rfl rfl rfl fun a hg => Or.inl (⟨un rfl ν6, un rfl ν9, hg, ς⟩)
   ·exact sq φ (Fr.cons φ.fr0 (φ.at_ 2 2 7 _ rfl hd2)) ς (r_ldbR ti_23 rfl rfl (fun w h => h.rblk 2 rfl) rfl) 3 rfl rfl rfl rfl rfl rfl fun a hg => Or.inr (Or.inl (⟨un rfl ν6, un rfl ν9, s7006, hwl7006, hg, ς⟩))
   ·exact no_way (cA hcl 9 3 rfl ν9) hSi
  ·obtain rfl : _ = o := Option.some.inj ho
   rcases hI with ⟨ν6, ν9, φ, ς⟩ | ⟨ν6, ν9, s7006, hwl7006, φ, ς⟩ | ⟨_, ν9, _⟩
   ·exact sq φ φ.fr0 ς (r_move rfl rfl) 4 rfl rfl rfl rfl rfl rfl fun a hg => Or.inl (⟨un rfl ν6, un rfl ν9, hg, ς⟩)
   ·exact sq φ φ.fr0 ς (r_move rfl rfl) 4 rfl rfl rfl rfl rfl rfl fun a hg => Or.inr (Or.inl (⟨un rfl ν6, un rfl ν9, s7006, hwl7006, hg, ς⟩))
   ·exact no_way (cA hcl 9 4 rfl ν9) hSi
  ·obtain rfl : _ = o := Option.some.inj ho
   rcases hI with ⟨ν6, ν9, φ, ς⟩ | ⟨ν6, _⟩ | ⟨ν6, _⟩
   ·exact sq φ φ.fr0 ς (r_ldbR ti_192 rfl rfl (fun w h => h.rblk 10 rfl) rfl) 5 rfl rfl rfl rfl rfl rfl fun a hg => Or.inl (⟨un rfl ν6, un rfl ν9, hg, ς⟩)
   ·exact no_way (cA hcl 6 5 rfl ν6) hSi
   ·exact no_way (cA hcl 6 5 rfl ν6) hSi
  ·obtain rfl : _ = o := Option.some.inj ho
   have hd5 : S 5 = true := depAt hdep 0 rfl rfl
   rcases hI with ⟨ν6, ν9, φ, ς⟩ | ⟨ν6, _⟩ | ⟨ν6, _⟩
   ·have hs := St.mk (Fr.cons φ.fr0 (φ.at_ 5 5 10 _ rfl hd5)) ς
    refine step_ex (x_call hs bd_121 rfl rfl rfl rfl rfl (pwords_c M g gp code thr words owner q _ _ _ _ _ _ hM (hs.sh.rblk 1 rfl) (hs.sh.rblk 2 rfl) (hs.sh.at 3 rfl) (hs.sh.at 4 rfl) ⟨hs.sh.rblk 5 rfl, hs.sh.at 6 rfl, hs.sh.at 7 rfl, (hs.sh.ok _ (List.mem_of_getElem? (i := 8) rfl)) _ (List.mem_singleton.2 rfl)⟩ hwn)) (wanted_none rfl _) ?_
    rintro a22 w22 ⟨_, ⟨s22, rfl, hwl22, hs22⟩, hf22⟩ ⟨v0, ht22⟩
    have h22 := (⟨hf22, hs.sh.call hs22 (by intro A hA b hb; first | (simp at hA; done) | (simp at hA; subst hA; first | exact Flat.noRd hb | exact (hb : False).elim) | (simp at hA; rcases hA with rfl | rfl <;> first | exact Flat.noRd hb | exact (hb : False).elim))⟩ : St 14 (fun _ => False) W a22 w22 _ _)
    clear hf22 hs22
    exact Or.inr (Or.inl (⟨upd_self _ _, un rfl ν9, s22, hwl22, φ.stepW hcl hSi [0, 1, 2, 3, 4, 5, 6] (by kernel_rfl) (by kernel_rfl) ht22 h22.fr.defers (h22.fr.at_ 11 _ rfl) 7 rfl rfl rfl rfl, (h22.sh.sel (L' := [.own 3 s22, .blk b3 49 [(.slice none 0 0), .int .i64 0, (.slice none 0 0), .int .i64 0], .rblk g 197 [.iface M.T (.pointer (some M.u)), .pointer (some ⟨gp, 0, none⟩), thr.v, prints.v, .bool fell], .rblk gp 25 [code.v, pw, .int .i64 locks, .int .i64 nregs], .at_ code, .at_ thr, .rblk M.g0 205 [words.v, owner.v], .at_ words, .at_ owner, .ro [M.X q], .at_ prints, .rblk gs 192 [.pointer (some ⟨g, 0, none⟩)], .rblk gk 3 [.int .i64 ((kk : Nat) : Int)]]) [0, 1, 2, 3, 4, 5, 6, 7, 8, 9, 10, 11, 12] (by decide) ⟨rfl, rfl, rfl, rfl, rfl, rfl, rfl, rfl, rfl, rfl, rfl, rfl, rfl, trivial⟩)⟩))
   ·exact no_way ν6 hSi
   ·exact no_way ν6 hSi
  ·obtain rfl : _ = o := Option.some.inj ho
   rcases hI with ⟨ν6, ν9, φ, ς⟩ | ⟨ν6, ν9, s7006, hwl7006, φ, ς⟩ | ⟨_, ν9, _⟩
   ·exact sq φ φ.fr0 ς (r_ldbR ti_3 rfl rfl (fun w h => h.rblk 11 rfl) rfl) 6 rfl rfl rfl rfl rfl rfl fun a hg => Or.inl (⟨un rfl ν6, un rfl ν9, hg, ς⟩)
   ·exact sq φ φ.fr0 ς (r_ldbR ti_3 rfl rfl (fun w h => h.rblk 12 rfl) rfl) 6 rfl rfl rfl rfl rfl rfl fun a hg => Or.inr (Or.inl (⟨un rfl ν6, un rfl ν9, s7006, hwl7006, hg, ς⟩))
   ·exact no_way (cA hcl 9 7 rfl ν9) hSi
  ·obtain rfl : _ = o := Option.some.inj ho
   have hd3 : S 3 = true := depAt hdep 0 rfl rfl
   have hd4 : S 4 = true := depAt hdep 1 rfl rfl
   have hd6 : S 6 = true := depAt hdep 2 rfl rfl
   have hd7 : S 7 = true := depAt hdep 3 rfl rfl
   rcases hI with ⟨ν6, _⟩ | ⟨ν6, ν9, s7006, hwl7006, φ, ς⟩ | ⟨_, ν9, _⟩
   ·exact no_way hd6 ν6
   ·have hs := St.mk (Fr.cons (Fr.cons (Fr.cons (Fr.cons φ.fr0 (φ.at_ 3 3 8 _ rfl hd3)) (φ.at_ 4 4 9 _ rfl hd4)) (φ.at_ 7 6 11 _ rfl hd6)) (φ.at_ 6 7 12 _ rfl hd7)) ς
    exact sq φ (Fr.cons (Fr.cons (Fr.cons (Fr.cons φ.fr0 (φ.at_ 3 3 8 _ rfl hd3)) (φ.at_ 4 4 9 _ rfl hd4)) (φ.at_ 7 6 11 _ rfl hd6)) (φ.at_ 6 7 12 _ rfl hd7)) ς (r_build (cs := [prints.v, .int .i64 stt, s7006.v, .int .i64 ((kk : Nat) : Int)]) rfl rfl (by obtain ⟨A26, n26, c26, (e26 : s7006.v = _)⟩ := ((hs.sh.own 0 rfl)).form; rw [e26]; obtain ⟨A25, n25, c25, (e25 : prints.v = _)⟩ := ((hs.sh.at 10 rfl)).form; rw [e25]; kernel_rfl)) 8 rfl rfl rfl rfl rfl rfl fun a hg => Or.inr (Or.inl (⟨un rfl ν6, un rfl ν9, s7006, hwl7006, hg, ς⟩))
   ·exact no_way (cA hcl 9 8 rfl ν9) hSi
  ·obtain rfl : _ = o := Option.some.inj ho
   have hd8 : S 8 = true := depAt hdep 0 rfl rfl
   have hd6 : S 6 = true := depAt hdep 1 rfl rfl
   rcases hI with ⟨ν6, _⟩ | ⟨ν6, ν9, s7006, hwl7006, φ, ς⟩ | ⟨_, ν9, _⟩
   ·exact no_way hd6 ν6
   ·have hs := St.mk (Fr.cons φ.fr0 (φ.at_ 8 8 13 _ rfl hd8)) ς
    refine step_ex (x_stb (i := 1) (vs := [prints.v, .int .i64 stt, s7006.v, .int .i64 ((kk : Nat) : Int)]) (cs' := [prints.v, .int .i64 stt, s7006.v, .int .i64 ((kk : Nat) : Int)]) hs ti_49 rfl rfl rfl rfl rfl rfl rfl (allOne_cons ((hs.sh.at 10 rfl)).one (allOne_cons rfl (allOne_cons ((hs.sh.own 0 rfl)).one (allOne_cons rfl allOne_nil)))) (Nat.le_of_ble_eq_true rfl) rfl) (wanted_none rfl _) ?_
    rintro a28 w28 h28 ⟨v0, ht28⟩
    exact Or.inr (Or.inr (⟨un rfl ν6, upd_self _ _, s7006, hwl7006, φ.noneW hcl hSi [0, 1, 2, 3, 4, 5, 6, 7, 8] (by kernel_rfl) (by kernel_rfl) ht28 h28.fr.defers rfl, (h28.sh.sel (L' := [.own 3 s7006, .blk b3 49 [prints.v, .int .i64 stt, s7006.v, .int .i64 ((kk : Nat) : Int)], .rblk g 197 [.iface M.T (.pointer (some M.u)), .pointer (some ⟨gp, 0, none⟩), thr.v, prints.v, .bool fell], .rblk gp 25 [code.v, pw, .int .i64 locks, .int .i64 nregs], .at_ code, .at_ thr, .rblk M.g0 205 [words.v, owner.v], .at_ words, .at_ owner, .ro [M.X q], .at_ prints, .rblk gs 192 [.pointer (some ⟨g, 0, none⟩)], .rblk gk 3 [.int .i64 ((kk : Nat) : Int)]]) [0, 1, 2, 3, 4, 5, 6, 7, 8, 9, 10, 11, 12] (by decide) ⟨rfl, rfl, rfl, rfl, rfl, rfl, rfl, rfl, rfl, rfl, rfl, rfl, rfl, trivial⟩)⟩))
   ·exact no_way ν9 hSi
  · simp at ho
 intro S hall a w hI
 clear h5
 rcases hI with ⟨ν6, ν9, φ, ς⟩ | ⟨ν6, ν9, s7006, hwl7006, φ, ς⟩ | ⟨ν6, ν9, s7006, hwl7006, φ, ς⟩
 · exact no_way (hall 6 (by decide)) ν6
 · exact no_way (hall 9 (by decide)) ν9
 have h29 : St 14 (fun _ => False) W a w _ [.own 3 s7006, .blk b3 49 [prints.v, .int .i64 stt, s7006.v, .int .i64 ((kk : Nat) : Int)], .rblk g 197 [.iface M.T (.pointer (some M.u)), .pointer (some ⟨gp, 0, none⟩), thr.v, prints.v, .bool fell], .rblk gp 25 [code.v, pw, .int .i64 locks, .int .i64 nregs], .at_ code, .at_ thr, .rblk M.g0 205 [words.v, owner.v], .at_ words, .at_ owner, .ro [M.X q], .at_ prints, .rblk gs 192 [.pointer (some ⟨g, 0, none⟩)], .rblk gk 3 [.int .i64 ((kk : Nat) : Int)]] := ⟨φ.fr0, ς⟩
 clear hall φ ς ν6 ν9
 refine hK4 _ _ <| wp_ret ?_
 try simp only [Exit.then, Exit.inBlock]
 refine x_ret1c (fn := Try.f120) (t := 4) (i := 1) ti_49 rfl h29 rfl rfl rfl ?_
 exact ⟨s7006, rfl, hwl7006, (h29.sh.sel (L' := [.own 3 s7006]) [0] (by decide) ⟨rfl, trivial⟩)⟩

set_option maxRecDepth 100000 in
set_option maxHeartbeats 20000000 in
theorem pgo_c (K : Nat → Prop) (M : MemS) (code : Ls (Ls Ins)) (words0 script words owner : Ls Int) (q : M.σ) (pw : Value) (Lk R : Nat) (W : World) (hM : MemI Try.prog 205 3 M) (hS : Sh K W W [.blk M.g0 205 [words.v, owner.v], .own 3 words, .own 3 owner, M.X q, .at_ code, .at_ script]) (hok : OkPg (pgN code words0 Lk R)) (hq0 : M.qs q = List.replicate code.l.length []) (hw0 : words.l = words0.l) (ho0 : owner.l = List.replicate Lk (-1)) :
    Rets Try.prog 75 [.agg #[code.v, pw, .int .i64 ((Lk : Nat) : Int), .int .i64 ((R : Nat) : Int)], .iface M.T (.pointer (some M.u)), script.v] W (fun v w' => ∃ (pr wd : Ls Int) (st_ : Int) (steps : Nat), v = .agg #[pr.v, .int .i64 st_, wd.v, .int .i64 ((steps : Nat) : Int)] ∧ runM (pgN code words0 Lk R) M.m script.l = ⟨st_, steps, wd.l, pr.l⟩ ∧ Sh K W w' [.own 3 pr, .own 3 wd]) := by
 obtain ⟨hl1, hcl, hwn, hlk0, hR2⟩ := ok_lenP hok
 have hcln := ok_clen hok
 refine x_enter (N := 69) Try.func75 rfl Try.ntmps75 (Nat.le_of_ble_eq_true rfl) fun a1 hf1 => ?_
 have h1 : St 69 K W a1 W [(0, .agg #[code.v, pw, .int .i64 ((Lk : Nat) : Int), .int .i64 ((R : Nat) : Int)]), (1, .iface M.T (.pointer (some M.u))), (2, script.v)] [.blk M.g0 205 [words.v, owner.v], .own 3 words, .own 3 owner, M.X q, .at_ code, .at_ script] := ⟨hf1.sub ⟨rfl, rfl, rfl, trivial⟩, hS⟩
 clear hf1
 refine wp_seq_k fun K2 hK2 => wp_region_lit <| wl_ex (x_box (cs := [code.v, pw, .int .i64 ((Lk : Nat) : Int), .int .i64 ((R : Nat) : Int)]) h1 rfl rfl rfl rfl rfl) (wanted_none rfl _) ?_
 rintro a3 w3 ⟨b3, h3⟩; clear h1
 refine wl_ex (x_alloc h3 ti_49 rfl rfl rfl) (wanted_none rfl _) ?_
 rintro a4 w4 ⟨b4, h4⟩; clear h3
 refine wpList_nil <| hK2 _ _ ?_
 have h5 := h4.toR 1 rfl
 clear h4
 refine wp_seq_k fun K6 hK6 => wp_region_lit <| wms 1 h5 rfl fun a7 h7 => wl_ex (x_call h7 bd_119 rfl rfl rfl rfl rfl (pbegin_c M b3 code _ Lk R _ (h7.sh.rblk 1 rfl) (h7.sh.at 6 rfl) hcl hR2)) (wanted_none rfl _) ?_; clear h5
 rintro a8 w8 ⟨_, ⟨g8, rows8, vt8, rfl, hrw8, hs8⟩, hf8⟩
 have hgx0 : GoX code words0 Lk R M.m script.l 0 0 rows8 (M.qs q) words.l owner.l [] := GoX.start hrw8 hq0 hw0 ho0
 have h8 := (⟨hf8, h7.sh.call hs8 (by intro A hA b hb; simp only [List.mem_cons, List.not_mem_nil, or_false] at hA; first | (subst hA; exact Flat.noRd hb) | (rcases hA with rfl | rfl | rfl | rfl <;> first | exact (hb : False).elim | exact Flat.noRd hb | exact regNoRd hb))⟩ : St 69 K W a8 w8 _ _)
 clear hf8 hs8
 clear h7
 refine wl_ex (x_alloc h8 ti_192 rfl rfl rfl) (wanted_none rfl _) ?_
 rintro a9 w9 ⟨b9, h9⟩; clear h8
 refine wl_ex (x_stb (i := 0) (vs := [.pointer (some ⟨g8, 0, none⟩)]) (cs' := [.pointer (some ⟨g8, 0, none⟩)]) h9 ti_192 rfl rfl rfl rfl rfl rfl rfl (allOne_cons rfl allOne_nil) (Nat.le_of_ble_eq_true rfl) rfl) (wanted_none rfl _) ?_
 rintro a10 w10 h10
 clear h9
 refine wpList_nil <| hK6 _ _ <| wp_seq_k fun K11 hK11 => wp_region_lit <| wl_ex (x_alloc h10 ti_3 rfl rfl rfl) (wanted_none rfl _) ?_
 rintro a12 w12 ⟨b12, h12⟩; clear h10
 refine wl_ex (x_stb (i := 0) (vs := [.int .i64 0]) (cs' := [.int .i64 0]) h12 ti_3 rfl rfl rfl rfl rfl rfl rfl (allOne_cons rfl allOne_nil) (Nat.le_of_ble_eq_true rfl) rfl) (wanted_none rfl _) ?_
 rintro a13 w13 h13
 clear h12
 refine wpList_nil <| hK11 _ _ <| wp_seq_k fun K14 hK14 => wp_region_lit <| wv h13 (r_makeFunc rfl rfl rfl) rfl rfl fun a15 h15 => wms 1 h15 rfl fun a16 h16 => wpList_nil <| hK14 _ _ <| wp_block <| x_loop (fun m a w => ∃ (k nx : Nat) (rws : List ThR) (ww oo pr : Ls Int) (qq : M.σ) (sc : Ls Int), (GoX code words0 Lk R M.m script.l nx k rws (M.qs qq) ww.l oo.l pr.l) ∧ (k ≤ 5000) ∧ (sc.l = script.l.drop nx) ∧ St 69 K W a w [(2, sc.v), (6, .pointer (some ⟨b4, 0, none⟩)), (7, .pointer (some ⟨b9, 0, none⟩)), (8, .pointer (some ⟨b12, 0, none⟩)), (9, .func (.func 120) #[] #[.pointer (some ⟨b9, 0, none⟩), .pointer (some ⟨b12, 0, none⟩)])] [.blk b12 3 [.int .i64 ((k : Nat) : Int)], .blk b9 192 [.pointer (some ⟨g8, 0, none⟩)], .blk g8 197 [.iface M.T (.pointer (some M.u)), .pointer (some ⟨b3, 0, none⟩), vt8, pr.v, .bool false], .own 234 (⟨vt8, rws.map ThR.toQ⟩ : Ls ThQ), .big (regA 3 rws), .own 3 pr, .blk b4 49 [(.slice none 0 0), .int .i64 0, (.slice none 0 0), .int .i64 0], .rblk b3 25 [code.v, pw, .int .i64 ((Lk : Nat) : Int), .int .i64 ((R : Nat) : Int)], .blk M.g0 205 [ww.v, oo.v], .own 3 ww, .own 3 oo, M.X qq, .at_ code, .at_ sc] ∧ m = 5000 - k) ⟨_, 0, 0, rows8, words, owner, (⟨.slice none 0 0, []⟩ : Ls Int), q, script, (hgx0), (by omega), (rfl), h16.nrm ⟨rfl, rfl, rfl, rfl, rfl, trivial⟩ [0, 1, 2, 3, 4, 5, 6, 7, 8, 9, 10, 11, 12, 13] (by decide) ⟨rfl, rfl, rfl, rfl, rfl, rfl, rfl, rfl, rfl, rfl, rfl, rfl, rfl, rfl, trivial⟩, rfl⟩ ?_; clear h13 h15
 clear h16
 rintro m17 a17 w17 ⟨k, nx, rws, ww, oo, pr, qq, sc, hgx, hk, hsc, h17, hm17⟩
 obtain ⟨hrl, hpc, hw3, hlk, hge, hwl, hol, hreg, hwt, hwh0⟩ := hgx.facts hok
 have hql := hgx.ql
 have hpr := hgx.go.pr
 change pr.l.length ≤ 2 * k at hpr
 have hscl : sc.l.length = script.l.length - nx := by rw [hsc, List.length_drop]
 refine wp_block <| wp_seq_k fun K18 hK18 => wp_region_lit <| wv h17 (r_ldb (i := 1) ti_192 rfl rfl rfl rfl) rfl rfl fun a19 h19 => wl_ex (x_call h19 bd_122 rfl rfl rfl rfl rfl (pmoves_c M g8 b3 code (⟨vt8, rws.map ThR.toQ⟩ : Ls ThQ) ww oo qq _ _ _ _ _ _ hM (h19.sh.blk 2 rfl) (h19.sh.rblk 7 rfl) (h19.sh.at 12 rfl) (h19.sh.own 3 rfl) ⟨h19.sh.blk 8 rfl, h19.sh.own 9 rfl, h19.sh.own 10 rfl, h19.sh.ok _ (List.mem_of_getElem? (i := 11) rfl)⟩ hql hw3 (by show (rws.map ThR.toQ).length = _; rw [List.length_map]; exact hrl) hpc hlk hge hcl)) (wanted_none rfl _) ?_; clear h17
 rintro a20 w20 ⟨_, ⟨ml, rfl, hml, hs20⟩, hf20⟩
 have hmll : ml.l.length ≤ 16 := by rw [hml]; exact Nat.le_trans (GoX.len hcl hw3 _ (Nat.le_refl _)) (by omega)
 have h20 := (⟨hf20, h19.sh.call hs20 (by intro A hA b hb; simp only [List.mem_cons, List.not_mem_nil, or_false] at hA; first | (subst hA; exact Flat.noRd hb) | (rcases hA with rfl | rfl | rfl | rfl <;> first | exact (hb : False).elim | exact Flat.noRd hb | exact regNoRd hb))⟩ : St 69 K W a20 w20 _ _)
 clear hf20 hs20
 clear h19
 refine wms 1 h20 rfl fun a21 h21 => wpList_nil <| hK18 _ _ <| wp_seq_k fun K22 hK22 => wp_block <| wp_seq_k fun K23 hK23 => wp_region_lit <| wv h21 (r_ldb (i := 2) ti_192 rfl rfl rfl rfl) rfl rfl fun a24 h24 => wl_ex (x_call h24 bd_123 rfl rfl rfl rfl rfl (pended_c M g8 b3 code (⟨vt8, rws.map ThR.toQ⟩ : Ls ThQ) ww oo qq _ _ _ _ _ _ hM (h24.sh.blk 3 rfl) (h24.sh.rblk 8 rfl) (h24.sh.at 13 rfl) (h24.sh.own 4 rfl) ⟨h24.sh.blk 9 rfl, h24.sh.own 10 rfl, h24.sh.own 11 rfl, h24.sh.ok _ (List.mem_of_getElem? (i := 12) rfl)⟩ hql hw3 (by show (rws.map ThR.toQ).length = _; rw [List.length_map]; exact hrl) hpc hcl)) (wanted_none rfl _) ?_; clear h20 h21
 rintro a25 w25 ⟨_, ⟨rfl, hs25⟩, hf25⟩
 have h25 : St 69 K W a25 w25 _ _ := ⟨hf25, h24.sh.call0 hs25⟩
 clear hf25 hs25
 clear h24
 refine wms 1 h25 rfl fun a26 h26 => wpList_nil <| hK23 _ _ <| x_cond h26 rfl (fun hb27 => ?_) (fun hb27 => ?_); clear h25
 ·skip
  have hT := hgx.ended hb27
  refine wp_seq_k fun K28 hK28 => wp_region_lit <| wms 1 h26 rfl fun a29 h29 => wl_ex (x_call h29 bd_120 rfl rfl rfl rfl rfl (pend_c M g8 b3 code (⟨vt8, rws.map ThR.toQ⟩ : Ls ThQ) ww oo qq _ _ _ false pr 0 k _ hM (h29.sh.blk 3 rfl) (h29.sh.rblk 8 rfl) (h29.sh.at 13 rfl) (h29.sh.own 4 rfl) ⟨h29.sh.blk 9 rfl, h29.sh.own 10 rfl, h29.sh.own 11 rfl, h29.sh.ok _ (List.mem_of_getElem? (i := 12) rfl)⟩ (h29.sh.own 6 rfl) (h29.sh.blk 2 rfl) (h29.sh.blk 1 rfl) (by first | omega | (simp only [lens9]; omega)))) (wanted_none rfl _) ?_; clear h26
  rintro a30 w30 ⟨_, ⟨s30, rfl, hwl30, hs30⟩, hf30⟩
  have h30 := (⟨hf30, h29.sh.call hs30 (by intro A hA b hb; simp only [List.mem_cons, List.not_mem_nil, or_false] at hA; first | (subst hA; exact Flat.noRd hb) | (rcases hA with rfl | rfl | rfl | rfl <;> first | exact (hb : False).elim | exact Flat.noRd hb | exact regNoRd hb))⟩ : St 69 K W a30 w30 _ _)
  clear hf30 hs30
  clear h29
  refine wl_ex (x_stb (i := 8) (vs := [pr.v, .int .i64 0, s30.v, .int .i64 ((k : Nat) : Int)]) (cs' := [pr.v, .int .i64 0, s30.v, .int .i64 ((k : Nat) : Int)]) h30 ti_49 rfl rfl rfl rfl rfl rfl rfl (allOne_cons ((h30.sh.own 7 rfl)).one (allOne_cons rfl (allOne_cons ((h30.sh.own 0 rfl)).one (allOne_cons rfl allOne_nil)))) (Nat.le_of_ble_eq_true rfl) rfl) (wanted_none rfl _) ?_
  rintro a31 w31 h31
  clear h30
  refine wpList_nil <| hK28 _ _ <| wp_ret ?_
  try simp only [Exit.then, Exit.inBlock]
  refine x_ret1c (fn := Try.f75) (t := 6) (i := 8) ti_49 rfl h31 rfl rfl rfl ?_
  exact ⟨pr, s30, _, _, rfl, hT.trans (by rw [hwl30]), (h31.sh.sel (L' := [.own 3 pr, .own 3 s30]) [7, 0] (by decide) ⟨rfl, rfl, trivial⟩)⟩
 refine wp_seq_k fun K32 hK32 => wp_region_lit <| wms 1 h26 rfl fun a33 h33 => ?_; clear h26
 have hl34 : ml.l.length ≤ 140737488355328 := (h33.sh.own 0 rfl).len
 refine wv h33 (r_len (s := ml) (n := ml.l.length) sl_199 rfl rfl (fun w h => (h.own 0 rfl)) rfl) rfl rfl fun a35 h35 => wv h35 (r_eqlN (p := ml.l.length) (q := 0) rfl rfl rfl) rfl rfl fun a36 h36 => wms 1 h36 rfl fun a37 h37 => wpList_nil <| hK32 _ _ <| x_cond h37 rfl (fun hb38 => ?_) (fun hb38 => ?_); clear h33 h35 h36
 ·have hp38 : ml.l.length = 0 := of_decide_eq_true hb38
  have hT := hgx.stuck hb27 (by rw [← hml]; omega)
  refine wp_seq_k fun K39 hK39 => wp_region_lit <| wms 1 h37 rfl fun a40 h40 => wl_ex (x_call h40 bd_120 rfl rfl rfl rfl rfl (pend_c M g8 b3 code (⟨vt8, rws.map ThR.toQ⟩ : Ls ThQ) ww oo qq _ _ _ false pr 2 k _ hM (h40.sh.blk 3 rfl) (h40.sh.rblk 8 rfl) (h40.sh.at 13 rfl) (h40.sh.own 4 rfl) ⟨h40.sh.blk 9 rfl, h40.sh.own 10 rfl, h40.sh.own 11 rfl, h40.sh.ok _ (List.mem_of_getElem? (i := 12) rfl)⟩ (h40.sh.own 6 rfl) (h40.sh.blk 2 rfl) (h40.sh.blk 1 rfl) (by first | omega | (simp only [lens9]; omega)))) (wanted_none rfl _) ?_; clear h37
  rintro a41 w41 ⟨_, ⟨s41, rfl, hwl41, hs41⟩, hf41⟩
  have h41 := (⟨hf41, h40.sh.call hs41 (by intro A hA b hb; simp only [List.mem_cons, List.not_mem_nil, or_false] at hA; first | (subst hA; exact Flat.noRd hb) | (rcases hA with rfl | rfl | rfl | rfl <;> first | exact (hb : False).elim | exact Flat.noRd hb | exact regNoRd hb))⟩ : St 69 K W a41 w41 _ _)
  clear hf41 hs41
  clear h40
  refine wl_ex (x_stb (i := 8) (vs := [pr.v, .int .i64 2, s41.v, .int .i64 ((k : Nat) : Int)]) (cs' := [pr.v, .int .i64 2, s41.v, .int .i64 ((k : Nat) : Int)]) h41 ti_49 rfl rfl rfl rfl rfl rfl rfl (allOne_cons ((h41.sh.own 7 rfl)).one (allOne_cons rfl (allOne_cons ((h41.sh.own 0 rfl)).one (allOne_cons rfl allOne_nil)))) (Nat.le_of_ble_eq_true rfl) rfl) (wanted_none rfl _) ?_
  rintro a42 w42 h42
  clear h41
  refine wpList_nil <| hK39 _ _ <| wp_ret ?_
  try simp only [Exit.then, Exit.inBlock]
  refine x_ret1c (fn := Try.f75) (t := 6) (i := 8) ti_49 rfl h42 rfl rfl rfl ?_
  exact ⟨pr, s41, _, _, rfl, hT.trans (by rw [hwl41]), (h42.sh.sel (L' := [.own 3 pr, .own 3 s41]) [7, 0] (by decide) ⟨rfl, rfl, trivial⟩)⟩
 have hp38 : ¬ (ml.l.length = 0) := of_decide_eq_false hb38
 refine wp_seq_k fun K43 hK43 => wp_region_lit <| wv h37 (r_ldb (i := 1) ti_3 rfl rfl rfl rfl) rfl rfl fun a44 h44 => wv h44 (r_eqlN (p := k) (q := 5000) rfl rfl rfl) rfl rfl fun a45 h45 => wms 1 h45 rfl fun a46 h46 => wpList_nil <| hK43 _ _ <| x_cond h46 rfl (fun hb47 => ?_) (fun hb47 => ?_); clear h37 h44 h45
 ·have hp47 : k = 5000 := of_decide_eq_true hb47
  have hT := hgx.out hb27 (by rw [← hml]; omega) (by omega)
  refine wp_seq_k fun K48 hK48 => wp_region_lit <| wms 1 h46 rfl fun a49 h49 => wl_ex (x_call h49 bd_120 rfl rfl rfl rfl rfl (pend_c M g8 b3 code (⟨vt8, rws.map ThR.toQ⟩ : Ls ThQ) ww oo qq _ _ _ false pr 3 k _ hM (h49.sh.blk 3 rfl) (h49.sh.rblk 8 rfl) (h49.sh.at 13 rfl) (h49.sh.own 4 rfl) ⟨h49.sh.blk 9 rfl, h49.sh.own 10 rfl, h49.sh.own 11 rfl, h49.sh.ok _ (List.mem_of_getElem? (i := 12) rfl)⟩ (h49.sh.own 6 rfl) (h49.sh.blk 2 rfl) (h49.sh.blk 1 rfl) (by first | omega | (simp only [lens9]; omega)))) (wanted_none rfl _) ?_; clear h46
  rintro a50 w50 ⟨_, ⟨s50, rfl, hwl50, hs50⟩, hf50⟩
  have h50 := (⟨hf50, h49.sh.call hs50 (by intro A hA b hb; simp only [List.mem_cons, List.not_mem_nil, or_false] at hA; first | (subst hA; exact Flat.noRd hb) | (rcases hA with rfl | rfl | rfl | rfl <;> first | exact (hb : False).elim | exact Flat.noRd hb | exact regNoRd hb))⟩ : St 69 K W a50 w50 _ _)
  clear hf50 hs50
  clear h49
  refine wl_ex (x_stb (i := 8) (vs := [pr.v, .int .i64 3, s50.v, .int .i64 ((k : Nat) : Int)]) (cs' := [pr.v, .int .i64 3, s50.v, .int .i64 ((k : Nat) : Int)]) h50 ti_49 rfl rfl rfl rfl rfl rfl rfl (allOne_cons ((h50.sh.own 7 rfl)).one (allOne_cons rfl (allOne_cons ((h50.sh.own 0 rfl)).one (allOne_cons rfl allOne_nil)))) (Nat.le_of_ble_eq_true rfl) rfl) (wanted_none rfl _) ?_
  rintro a51 w51 h51
  clear h50
  refine wpList_nil <| hK48 _ _ <| wp_ret ?_
  try simp only [Exit.then, Exit.inBlock]
  refine x_ret1c (fn := Try.f75) (t := 6) (i := 8) ti_49 rfl h51 rfl rfl rfl ?_
  exact ⟨pr, s50, _, _, rfl, hT.trans (by rw [hwl50]), (h51.sh.sel (L' := [.own 3 pr, .own 3 s50]) [7, 0] (by decide) ⟨rfl, rfl, trivial⟩)⟩
 have hp47 : ¬ (k = 5000) := of_decide_eq_false hb47
 refine wp_skip <| hK22 _ _ <| wp_seq_k fun K52 hK52 => wp_region_lit <| wms 1 h46 rfl fun a53 h53 => wpList_nil <| hK52 _ _ <| x_seq (fun a w => ∃ (kk : Nat) (sc2 : Ls Int) (nx2 : Nat), (kk = pickM script.l nx ml.l.length) ∧ (nx2 = nextM script.l nx ml.l.length) ∧ (sc2.l = script.l.drop nx2) ∧ St 69 K W a w [(2, sc2.v), (6, .pointer (some ⟨b4, 0, none⟩)), (7, .pointer (some ⟨b9, 0, none⟩)), (8, .pointer (some ⟨b12, 0, none⟩)), (9, .func (.func 120) #[] #[.pointer (some ⟨b9, 0, none⟩), .pointer (some ⟨b12, 0, none⟩)]), (10, ml.v), (11, .int .i64 ((kk : Nat) : Int))] [.own 203 ml, .blk b12 3 [.int .i64 ((k : Nat) : Int)], .blk b9 192 [.pointer (some ⟨g8, 0, none⟩)], .blk g8 197 [.iface M.T (.pointer (some M.u)), .pointer (some ⟨b3, 0, none⟩), vt8, pr.v, .bool false], .own 234 (⟨vt8, rws.map ThR.toQ⟩ : Ls ThQ), .big (regA 3 rws), .own 3 pr, .blk b4 49 [(.slice none 0 0), .int .i64 0, (.slice none 0 0), .int .i64 0], .rblk b3 25 [code.v, pw, .int .i64 ((Lk : Nat) : Int), .int .i64 ((R : Nat) : Int)], .blk M.g0 205 [ww.v, oo.v], .own 3 ww, .own 3 oo, M.X qq, .at_ code, .at_ sc2]) ?_ ?_; clear h46
 ·refine wp_seq_k fun K54 hK54 => ?_
  refine wp_region_lit <| wms 1 h53 rfl fun a55 h55 => wv h55 (r_len (s := ml) (n := ml.l.length) sl_199 rfl rfl (fun w h => (h.own 0 rfl)) rfl) rfl rfl fun a56 h56 => wv h56 (r_gtrN (p := ml.l.length) (q := 1) rfl rfl rfl) rfl rfl fun a57 h57 => wms 1 h57 rfl fun a58 h58 => ?_; clear h53 h55 h56 h57
  rcases Bool.eq_false_or_eq_true (decide (1 < ml.l.length)) with hb59 | hb59
  ·have hp59 : 1 < ml.l.length := of_decide_eq_true hb59
   refine wl_val h58 (r_move rfl rfl) (wanted_yes h58.fr rfl rfl rfl rfl hb59) rfl rfl fun a60 h60 => ?_; clear h58
   have hl61 : sc.l.length ≤ 140737488355328 := (h60.sh.at 14 rfl).len
   refine wl_val h60 (r_len (s := sc) (n := sc.l.length) sl_23 rfl rfl (fun w h => (h.at 14 rfl)) rfl) (wanted_yes h60.fr rfl rfl rfl rfl hb59) rfl rfl fun a62 h62 => wl_val h62 (r_gtrN (p := sc.l.length) (q := 0) rfl rfl rfl) (wanted_yes h62.fr rfl rfl rfl rfl hb59) rfl rfl fun a63 h63 => wv h63 (r_pickT rfl rfl hb59 rfl) rfl rfl fun a64 h64 => wpList_nil <| hK54 _ _ <| x_cond h64 rfl (fun hb65 => ?_) (fun hb65 => ?_); clear h60 h62 h63
   ·have hp65 : 0 < sc.l.length := of_decide_eq_true hb65
    have htm := tmod_in (nth sc.l 0) (q := ml.l.length) (by omega)
    have hz0 : nth sc.l 0 = nth script.l nx := by rw [hsc, nth_drop0]; rfl
    have hpo := pick_of (script := script.l) (nx := nx) (l := ml.l.length) (by omega) (by omega)
    rw [← hz0] at hpo
    have htp := tmod_pick (z := nth sc.l 0) (q := ml.l.length) (by omega)
    have hkz := hpo.1.trans htp.2.2.symm
    refine wp_seq_k fun K66 hK66 => wp_region_lit <| wms 1 h64 rfl fun a67 h67 => wv h67 (r_ixN (s := sc) (q := 0) sl_23 ti_3 rfl rfl rfl (fun w h => (h.at 14 rfl)) (show 0 < sc.l.length from (by omega))) rfl rfl fun a68 h68 => wv h68 (r_lde (s := sc) (i := 0) (v := .int .i64 (nth sc.l 0)) ti_3 rfl rfl rfl (fun w h => (h.at 14 rfl)) (show 0 < sc.l.length from (by omega)) (Nat.le_of_ble_eq_true rfl) rfl) rfl rfl fun a69 h69 => wms 1 h69 rfl fun a70 h70 => wv h70 (r_len (s := ml) (n := ml.l.length) sl_199 rfl rfl (fun w h => (h.own 0 rfl)) rfl) rfl rfl fun a71 h71 => wv h71 (r_remI (p := nth sc.l 0) (q := ml.l.length) rfl rfl rfl (show 0 < ml.l.length ∧ ml.l.length < 9223372036854775808 from (by omega))) rfl rfl fun a72 h72 => wms 1 h72 rfl fun a73 h73 => wv h73 (r_len (s := ml) (n := ml.l.length) sl_199 rfl rfl (fun w h => (h.own 0 rfl)) rfl) rfl rfl fun a74 h74 => wv h74 (r_addI (p := Int.tmod (nth sc.l 0) ((ml.l.length : Nat) : Int)) (q := ((ml.l.length : Nat) : Int)) rfl rfl rfl (show -9223372036854775808 ≤ (Int.tmod (nth sc.l 0) ((ml.l.length : Nat) : Int)) + ((ml.l.length : Nat) : Int) ∧ (Int.tmod (nth sc.l 0) ((ml.l.length : Nat) : Int)) + ((ml.l.length : Nat) : Int) < 9223372036854775808 from (by omega))) rfl rfl fun a75 h75 => wms 1 h75 rfl fun a76 h76 => wv h76 (r_len (s := ml) (n := ml.l.length) sl_199 rfl rfl (fun w h => (h.own 0 rfl)) rfl) rfl rfl fun a77 h77 => wv h77 (r_remI (p := (Int.tmod (nth sc.l 0) ((ml.l.length : Nat) : Int)) + ((ml.l.length : Nat) : Int)) (q := ml.l.length) rfl rfl rfl (show 0 < ml.l.length ∧ ml.l.length < 9223372036854775808 from (by omega))) rfl rfl fun a78 h78 => ?_; clear h64 h67 h68 h69 h70 h71 h72 h73 h74 h75 h76 h77
    refine wms 1 h78 rfl fun a79 h79 => wpList_nil <| hK66 _ _ ?_; clear h78
    have h80 : St 69 K W a79 w25 [(2, sc.v), (6, .pointer (some ⟨b4, 0, none⟩)), (7, .pointer (some ⟨b9, 0, none⟩)), (8, .pointer (some ⟨b12, 0, none⟩)), (9, .func (.func 120) #[] #[.pointer (some ⟨b9, 0, none⟩), .pointer (some ⟨b12, 0, none⟩)]), (10, ml.v), (11, .int .i64 (Int.tmod ((Int.tmod (nth sc.l 0) ((ml.l.length : Nat) : Int)) + ((ml.l.length : Nat) : Int)) ((ml.l.length : Nat) : Int)))] [.own 203 ml, .blk b12 3 [.int .i64 ((k : Nat) : Int)], .blk b9 192 [.pointer (some ⟨g8, 0, none⟩)], .blk g8 197 [.iface M.T (.pointer (some M.u)), .pointer (some ⟨b3, 0, none⟩), vt8, pr.v, .bool false], .own 234 (⟨vt8, rws.map ThR.toQ⟩ : Ls ThQ), .big (regA 3 rws), .own 3 pr, .blk b4 49 [(.slice none 0 0), .int .i64 0, (.slice none 0 0), .int .i64 0], .rblk b3 25 [code.v, pw, .int .i64 ((Lk : Nat) : Int), .int .i64 ((R : Nat) : Int)], .blk M.g0 205 [ww.v, oo.v], .own 3 ww, .own 3 oo, M.X qq, .at_ code, .at_ sc] := h79.nrm ⟨rfl, rfl, rfl, rfl, rfl, rfl, rfl, trivial⟩ [0, 1, 2, 3, 4, 5, 6, 7, 8, 9, 10, 11, 12, 13, 14] (by decide) ⟨rfl, rfl, rfl, rfl, rfl, rfl, rfl, rfl, rfl, rfl, rfl, rfl, rfl, rfl, rfl, trivial⟩
    clear h79
    refine wp_region_lit <| wms 1 h80 rfl fun a81 h81 => wv h81 (r_slL (s := sc) (k := 1) sl_23 ti_3 rfl rfl rfl (fun w h => (h.at 14 rfl)) (show 1 ≤ sc.l.length from (by omega))) rfl rfl fun a82 h82 => wms 1 h82 rfl fun a83 h83 => wpList_nil ?_; clear h80 h81 h82
    have h84 := h83.cast (d := 11) (e := Int.tmod ((Int.tmod (nth sc.l 0) ((ml.l.length : Nat) : Int)) + ((ml.l.length : Nat) : Int)) ((ml.l.length : Nat) : Int)) rfl (show 0 ≤ Int.tmod ((Int.tmod (nth sc.l 0) ((ml.l.length : Nat) : Int)) + ((ml.l.length : Nat) : Int)) ((ml.l.length : Nat) : Int) from (by omega))
    clear h83
    have h85 := h84.atDrop 14 rfl 1 (by omega)
    clear h84
    refine x_join ⟨(Int.tmod ((Int.tmod (nth sc.l 0) ((ml.l.length : Nat) : Int)) + ((ml.l.length : Nat) : Int)) ((ml.l.length : Nat) : Int)).toNat, (⟨vdrop sc.v 1 1, sc.l.drop 1⟩ : Ls Int), (nx + 1), ?_, ?_, ?_, h85.nrm ⟨rfl, rfl, rfl, rfl, rfl, rfl, rfl, trivial⟩ [0, 1, 2, 3, 4, 5, 6, 7, 8, 9, 10, 11, 12, 13, 14] (by decide) ⟨rfl, rfl, rfl, rfl, rfl, rfl, rfl, rfl, rfl, rfl, rfl, rfl, rfl, rfl, rfl, trivial⟩⟩
    · first | exact (pick_no (by omega)).1.symm | omega
    · first | exact (pick_no (by omega)).2.symm | exact hpo.2.symm
    · first | exact hsc | (show sc.l.drop 1 = _; rw [hsc, List.drop_drop])
   have hp65 : ¬ (0 < sc.l.length) := of_decide_eq_false hb65
   refine wp_skip <| x_join ⟨0, sc, nx, ?_, ?_, ?_, h64.nrm ⟨rfl, rfl, rfl, rfl, rfl, rfl, rfl, trivial⟩ [0, 1, 2, 3, 4, 5, 6, 7, 8, 9, 10, 11, 12, 13, 14] (by decide) ⟨rfl, rfl, rfl, rfl, rfl, rfl, rfl, rfl, rfl, rfl, rfl, rfl, rfl, rfl, rfl, trivial⟩⟩
   · first | exact (pick_no (by omega)).1.symm | omega
   · first | exact (pick_no (by omega)).2.symm | exact hpo.2.symm
   · first | exact hsc | (show sc.l.drop 1 = _; rw [hsc, List.drop_drop])
  have hp59 : ¬ (1 < ml.l.length) := of_decide_eq_false hb59
  refine wl_skip h58 (wanted_no h58.fr rfl rfl rfl rfl hb59) rfl rfl fun a86 h86 => wl_skip h86 (wanted_no h86.fr rfl rfl rfl rfl hb59) rfl rfl fun a87 h87 => wl_skip h87 (wanted_no h87.fr rfl rfl rfl rfl hb59) rfl rfl fun a88 h88 => wv h88 (r_pickF rfl rfl hb59 rfl) rfl rfl fun a89 h89 => wpList_nil <| hK54 _ _ <| x_condF h89 rfl rfl <| wp_skip <| x_join ⟨0, sc, nx, ?_, ?_, ?_, h89.nrm ⟨rfl, rfl, rfl, rfl, rfl, rfl, rfl, trivial⟩ [0, 1, 2, 3, 4, 5, 6, 7, 8, 9, 10, 11, 12, 13, 14] (by decide) ⟨rfl, rfl, rfl, rfl, rfl, rfl, rfl, rfl, rfl, rfl, rfl, rfl, rfl, rfl, rfl, trivial⟩⟩; clear h58 h86 h87 h88
  · first | exact (pick_no (by omega)).1.symm | omega
  · first | exact (pick_no (by omega)).2.symm | exact hpo.2.symm
  · first | exact hsc | (show sc.l.drop 1 = _; rw [hsc, List.drop_drop])
 clear h53
 rintro a90 w90 ⟨kk, sc2, nx2, hkk, hnx2, hsc2, h90⟩
 have hkl : kk < ml.l.length := by rw [hkk]; exact pick_lt _ _ (by omega)
 obtain ⟨t, j, htt, hmv, hj8, hmk, hmm⟩ := hgx.pick hml (by omega) hw3
 rw [← hkk] at hmk
 have htr : t < rws.length := by rw [hrl]; exact htt
 have hio9 : j = 0 → InsR (nth rws t).regs.l.length ww.l.length oo.l.length (nextIns (nth code.l t).l (nth rws t).pc) := fun hj0 => by rw [hreg t htt, hwl, hol]; have h9 := hpc t htt; rw [toQ_at htr] at h9; exact insR_N hok htt h9.1 (able_of hmv hj0).1
 refine wp_seq_k fun K91 hK91 => x_tail 5 [] (by kernel_rfl) (by kernel_rfl) h90 fun Z92 hZ92 => ?_
 have hq92 := h90.fr
 refine wq_val hq92 (r_ldb (i := 2) ti_192 rfl rfl rfl rfl) (wanted_none rfl _) rfl rfl fun a93 hq93 => wq_val hq93 (r_move rfl rfl) (wanted_none rfl _) rfl rfl fun a94 hq94 => wq_val hq94 (r_move rfl rfl) (wanted_none rfl _) rfl rfl fun a95 hq95 => wq_val hq95 (r_ixN (s := ml) (q := kk) sl_199 ti_203 rfl rfl rfl (fun w h => (h.own 0 rfl)) (show kk < ml.l.length from (by omega))) (wanted_none rfl _) rfl rfl fun a96 hq96 => wq_val hq96 (r_ldew (s := ml) (i := kk) (vs := [.int .i64 ((nth ml.l kk).th), .int .i64 ((nth ml.l kk).st)]) ti_203 rfl rfl rfl (fun w h => (h.own 0 rfl)) (show kk < ml.l.length from (by omega)) (Nat.le_of_ble_eq_true rfl) rfl) (wanted_none rfl _) rfl rfl fun a97 hq97 => wpQuiet_nil (hZ92 _ fun w98 hw98 => ?_); clear hq92 hq93 hq94 hq95 hq96
 have h98 : St 69 K W a97 w98 _ _ := ⟨hq97, hw98⟩
 clear hq97 hw98 h90
 have h99 := h98.same (d := 59) (v' := .agg #[.int .i64 ((t : Nat) : Int), .int .i64 (((j : Nat) : Int) - 1)]) rfl (by rw [hmk])
 clear h98
 have h100 := h99.sel (L' := [.blk g8 197 [.iface M.T (.pointer (some M.u)), .pointer (some ⟨b3, 0, none⟩), vt8, pr.v, .bool false], .rblk b3 25 [code.v, pw, .int .i64 ((Lk : Nat) : Int), .int .i64 ((R : Nat) : Int)], .own 234 (⟨vt8, rws.map ThR.toQ⟩ : Ls ThQ), .big (regA 3 rws), .own 3 pr, .blk M.g0 205 [ww.v, oo.v], .own 3 ww, .own 3 oo, M.X qq, .at_ code, .own 203 ml, .blk b12 3 [.int .i64 ((k : Nat) : Int)], .blk b9 192 [.pointer (some ⟨g8, 0, none⟩)], .blk b4 49 [(.slice none 0 0), .int .i64 0, (.slice none 0 0), .int .i64 0], .at_ sc2]) [3, 8, 4, 5, 6, 9, 10, 11, 12, 13, 0, 1, 2, 7, 14] (by decide) ⟨rfl, rfl, rfl, rfl, rfl, rfl, rfl, rfl, rfl, rfl, rfl, rfl, rfl, rfl, rfl, trivial⟩
 have hp101 := h100.sh.passL (Lp := [.blk g8 197 [.iface M.T (.pointer (some M.u)), .pointer (some ⟨b3, 0, none⟩), vt8, pr.v, .bool false], .rblk b3 25 [code.v, pw, .int .i64 ((Lk : Nat) : Int), .int .i64 ((R : Nat) : Int)], .own 234 (⟨vt8, rws.map ThR.toQ⟩ : Ls ThQ), .big (regA 3 rws), .own 3 pr, .blk M.g0 205 [ww.v, oo.v], .own 3 ww, .own 3 oo, M.X qq, .at_ code])
 refine wl_ex (x_call h100 bd_124 rfl rfl rfl rfl rfl (pdo_full _ M g8 b3 code vt8 rws pr ww oo qq _ _ _ false t j _ hM hp101 htr (by omega) (by rw [hql]; exact htt) (hw3 t htt) (hwh0 t htt) hge htt (by have h9 := hpc t htt; rw [toQ_at htr] at h9; exact h9) (by have h9 := hcln t htt; omega) hmv (by omega) (hwt t htt) hio9)) (wanted_none rfl _) ?_
 rintro a102 w102 ⟨_, ⟨rfl, rows102, words102, owner102, prints102, q102, fell102, x102, y102, hy102, hrw102, hxp102, hxr102, hqq102, hyw102, hyo102, hyp102, hyf102, hs102⟩, hf102⟩
 change Sh _ _ _ [.blk g8 197 [.iface M.T (.pointer (some M.u)), .pointer (some ⟨b3, 0, none⟩), vt8, prints102.v, .bool fell102], .rblk b3 25 [code.v, pw, .int .i64 ((Lk : Nat) : Int), .int .i64 ((R : Nat) : Int)], .own 234 (⟨vt8, rows102.map ThR.toQ⟩ : Ls ThQ), .big (regA 3 rows102), .own 3 prints102, .blk M.g0 205 [words102.v, owner102.v], .own 3 words102, .own 3 owner102, M.X q102, .at_ code] at hs102
 have h102 : St 69 K W a102 w102 _ [.blk g8 197 [.iface M.T (.pointer (some M.u)), .pointer (some ⟨b3, 0, none⟩), vt8, prints102.v, .bool fell102], .rblk b3 25 [code.v, pw, .int .i64 ((Lk : Nat) : Int), .int .i64 ((R : Nat) : Int)], .own 234 (⟨vt8, rows102.map ThR.toQ⟩ : Ls ThQ), .big (regA 3 rows102), .own 3 prints102, .blk M.g0 205 [words102.v, owner102.v], .own 3 words102, .own 3 owner102, M.X q102, .at_ code, .own 203 ml, .blk b12 3 [.int .i64 ((k : Nat) : Int)], .blk b9 192 [.pointer (some ⟨g8, 0, none⟩)], .blk b4 49 [(.slice none 0 0), .int .i64 0, (.slice none 0 0), .int .i64 0], .at_ sc2] := ⟨hf102, h100.sh.backL (Lp := [.blk g8 197 [.iface M.T (.pointer (some M.u)), .pointer (some ⟨b3, 0, none⟩), vt8, pr.v, .bool false], .rblk b3 25 [code.v, pw, .int .i64 ((Lk : Nat) : Int), .int .i64 ((R : Nat) : Int)], .own 234 (⟨vt8, rws.map ThR.toQ⟩ : Ls ThQ), .big (regA 3 rws), .own 3 pr, .blk M.g0 205 [ww.v, oo.v], .own 3 ww, .own 3 oo, M.X qq, .at_ code]) hs102 (by intro A hA b hb; simp only [List.mem_cons, List.not_mem_nil, or_false] at hA; rcases hA with rfl | rfl | rfl | rfl | rfl | rfl | rfl | rfl | rfl | rfl <;> first | exact (hb : False).elim | exact Flat.noRd hb | exact .inl ⟨_, List.mem_cons_self .., .inr hb⟩ | exact rdX hM hb | exact regNoRd hb | exact .inl ⟨_, List.mem_of_getElem? (i := 1) rfl, .inr hb⟩ | exact .inl ⟨_, List.mem_of_getElem? (i := 9) rfl, .inr hb⟩ | exact .inl ⟨_, by simp, .inr hb⟩)⟩
 clear hf102 hs102
 clear h100
 refine wpList_nil <| hK91 _ _ ?_
 obtain ⟨hn1, hn2⟩ := hgx.next hb27 (congrArg List.length hml) (by omega) (by omega) htt hj8 hmv hmm hy102 hxp102 hxr102
 have hwl9 := hgx.next_len hok htt hmv hy102
 rw [← hyw102] at hwl9
 rw [← hyf102] at hn1 hn2
 rw [← hyw102, ← hyp102] at hn1 hn2
 rw [← hrw102, ← hqq102, ← hyo102, ← hnx2] at hn2
 refine wp_seq_k fun K103 hK103 => wp_region_lit <| wv h102 (r_ldb (i := 11) ti_3 rfl rfl rfl rfl) rfl rfl fun a104 h104 => wv h104 (r_addN (p := k) (q := 1) rfl rfl rfl (show k + 1 < 9223372036854775808 from (by omega))) rfl rfl fun a105 h105 => wl_ex (x_stb (i := 11) (vs := [.int .i64 ((k + 1 : Nat) : Int)]) (cs' := [.int .i64 ((k + 1 : Nat) : Int)]) h105 ti_3 rfl rfl rfl rfl rfl rfl rfl (allOne_cons rfl allOne_nil) (Nat.le_of_ble_eq_true rfl) rfl) (wanted_none rfl _) ?_; clear h102 h104
 rintro a106 w106 h106
 clear h105
 refine wpList_nil <| hK103 _ _ <| wp_seq_k fun K107 hK107 => wp_region_lit <| wv h106 (r_ldb (i := 12) ti_192 rfl rfl rfl rfl) rfl rfl fun a108 h108 => wv h108 (r_nil rfl rfl) rfl rfl fun a109 h109 => wv h109 (r_fieldB (r := 4) fl_197_4 rfl rfl rfl) rfl rfl fun a110 h110 => wv h110 (r_ldb (i := 0) ti_4 rfl rfl rfl rfl) rfl rfl fun a111 h111 => wpList_nil <| hK107 _ _ <| x_cond h111 rfl (fun hb112 => ?_) (fun hb112 => ?_); clear h106 h108 h109 h110
 ·skip
  have hT := hn1 hb112
  refine wp_seq_k fun K113 hK113 => wp_region_lit <| wms 1 h111 rfl fun a114 h114 => wl_ex (x_call h114 bd_120 rfl rfl rfl rfl rfl (pend_c M g8 b3 code (⟨vt8, rows102.map ThR.toQ⟩ : Ls ThQ) words102 owner102 q102 _ _ _ fell102 prints102 1 (k + 1) _ hM (h114.sh.blk 0 rfl) (h114.sh.rblk 1 rfl) (h114.sh.at 9 rfl) (h114.sh.own 2 rfl) ⟨h114.sh.blk 5 rfl, h114.sh.own 6 rfl, h114.sh.own 7 rfl, h114.sh.ok _ (List.mem_of_getElem? (i := 8) rfl)⟩ (h114.sh.own 4 rfl) (h114.sh.blk 12 rfl) (h114.sh.blk 11 rfl) (by first | omega | (simp only [lens9]; omega)))) (wanted_none rfl _) ?_; clear h111
  rintro a115 w115 ⟨_, ⟨s115, rfl, hwl115, hs115⟩, hf115⟩
  have h115 := (⟨hf115, h114.sh.call hs115 (by intro A hA b hb; simp only [List.mem_cons, List.not_mem_nil, or_false] at hA; first | (subst hA; exact Flat.noRd hb) | (rcases hA with rfl | rfl | rfl | rfl <;> first | exact (hb : False).elim | exact Flat.noRd hb | exact regNoRd hb))⟩ : St 69 K W a115 w115 _ _)
  clear hf115 hs115
  clear h114
  refine wl_ex (x_stb (i := 14) (vs := [prints102.v, .int .i64 1, s115.v, .int .i64 ((k + 1 : Nat) : Int)]) (cs' := [prints102.v, .int .i64 1, s115.v, .int .i64 ((k + 1 : Nat) : Int)]) h115 ti_49 rfl rfl rfl rfl rfl rfl rfl (allOne_cons ((h115.sh.own 5 rfl)).one (allOne_cons rfl (allOne_cons ((h115.sh.own 0 rfl)).one (allOne_cons rfl allOne_nil)))) (Nat.le_of_ble_eq_true rfl) rfl) (wanted_none rfl _) ?_
  rintro a116 w116 h116
  clear h115
  refine wpList_nil <| hK113 _ _ <| wp_ret ?_
  try simp only [Exit.then, Exit.inBlock]
  refine x_ret1c (fn := Try.f75) (t := 6) (i := 14) ti_49 rfl h116 rfl rfl rfl ?_
  exact ⟨prints102, s115, _, _, rfl, hT.trans (by rw [hwl115]), (h116.sh.sel (L' := [.own 3 prints102, .own 3 s115]) [5, 0] (by decide) ⟨rfl, rfl, trivial⟩)⟩
 have hgx9 := hn2 hb112
 rw [hb112] at h111
 refine wp_skip ?_
 change ∃ _m, _m < _ ∧ _
 refine ⟨_, ?_, (k + 1), nx2, rows102, words102, owner102, prints102, q102, sc2, ?_, ?_, ?_, h111.nrm ⟨rfl, rfl, rfl, rfl, rfl, trivial⟩ [11, 12, 0, 2, 3, 4, 13, 1, 5, 6, 7, 8, 9, 14] (by decide) ⟨rfl, rfl, rfl, rfl, rfl, rfl, rfl, rfl, rfl, rfl, rfl, rfl, rfl, rfl, trivial⟩, rfl⟩
 · rw [hm17]; first | omega | (simp only [lens9]; omega)
 · exact hgx9
 · omega
 · exact hsc2

end Go.Proofs.Ytfpaahkleienoaa
