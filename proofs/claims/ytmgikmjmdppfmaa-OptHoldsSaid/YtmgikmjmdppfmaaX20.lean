/-
  Contracts of functions of this program and of the references, each walked once.
-/
import Derived.Test.YtmgikmjmdppfmaaX19
import Derived.Test.YtmgikmjmdppfmaaS10
namespace Go.Proofs.Ytmgikmjmdppfmaa
open Go.RowKit
set_option linter.unusedSimpArgs false
set_option linter.unusedVariables false


/-- A state that a call may turn, with all its threads. -/
def stA (g : Nat) (hd : List Value) (vt : Value) (rows : List ThL) (words owner prints : Ls Int) (fell : Bool) : List Asn :=
  [.blk g 112 (hd ++ [vt, words.v, owner.v, prints.v, .bool fell]), .own 121 (⟨vt, rows.map ThL.toV⟩ : Ls ThV), .big (rowsA 3 130 rows), .own 3 words, .own 3 owner, .own 3 prints]
theorem do_full (K : Nat → Prop) (g mv : Nat) (code : Ls (Ls Ins)) (vt : Value) (rows : List ThL) (words owner prints : Ls Int) (pw : Value) (locks nregs mode : Int) (fell : Bool) (W : World)
    (hS : Sh K W W (stA g [code.v, pw, .int .i64 locks, .int .i64 nregs, .int .i64 mode] vt rows words owner prints fell ++ [.at_ code]))
    (hn : mv / 8 < rows.length) (htc : mv / 8 < code.l.length) (hmv : mv < 1000000) (hpc : 0 ≤ (nth rows (mv / 8)).pc ∧ (nth rows (mv / 8)).pc < 1000000) (hwl : (nth rows (mv / 8)).wait.l.length ≤ 3) (hkw : mv % 8 ≤ (nth rows (mv / 8)).wait.l.length) (hpl : prints.l.length ≤ 100000000) (hol : owner.l.length ≤ 100)
    (hwt : ∀ j, j < (nth rows (mv / 8)).wait.l.length → if (nth (nth rows (mv / 8)).wait.l j).lock = true then 0 ≤ (nth (nth rows (mv / 8)).wait.l j).wh ∧ (nth (nth rows (mv / 8)).wait.l j).wh < owner.l.length else 0 ≤ (nth (nth rows (mv / 8)).wait.l j).wh ∧ (nth (nth rows (mv / 8)).wait.l j).wh < words.l.length)
    (hio : mv % 8 = 0 → InsR (nth rows (mv / 8)).regs.l.length words.l.length owner.l.length (nextIns (nth code.l (mv / 8)).l (nth rows (mv / 8)).pc)) :
    Rets Try.prog 57 [.pointer (some ⟨g, 0, none⟩), .int .i64 ((mv : Nat) : Int)] W (fun v w' => v = .tuple #[] ∧ ∃ (rows' : List ThL) (words' owner' prints' : Ls Int) (fell' : Bool) (y : TS),
      y = doT mode (mv / 8) (nth code.l (mv / 8)).l (mv % 8) ⟨(nth rows (mv / 8)).pc, (nth rows (mv / 8)).regs.l, (nth rows (mv / 8)).wait.l, words.l, owner.l, prints.l, fell⟩ ∧ rows'.map ThL.th = (rows.map ThL.th).set (mv / 8) ⟨y.pc, y.regs, y.wait⟩ ∧ words'.l = y.words ∧ owner'.l = y.owner ∧ prints'.l = y.prints ∧ fell' = y.fell ∧
      Sh K W w' (stA g [code.v, pw, .int .i64 locks, .int .i64 nregs, .int .i64 mode] vt rows' words' owner' prints' fell' ++ [.at_ code])) := by
  have h1 := hS.perm (L' := .big (rowsA 3 130 rows) :: [.blk g 112 [code.v, pw, .int .i64 locks, .int .i64 nregs, .int .i64 mode, vt, words.v, owner.v, prints.v, .bool fell], .own 121 (⟨vt, rows.map ThL.toV⟩ : Ls ThV), .own 3 words, .own 3 owner, .own 3 prints, .at_ code]) ((List.Perm.swap _ _ _).cons _ |>.trans (List.Perm.swap _ _ _))
  have h2 := h1.openAt _ hn
  have h3 : Sh K W W ([.blk g 112 [code.v, pw, .int .i64 locks, .int .i64 nregs, .int .i64 mode, vt, words.v, owner.v, prints.v, .bool fell], .own 121 (⟨vt, rows.map ThL.toV⟩ : Ls ThV), .own 3 (nth rows (mv / 8)).regs, .own 130 (nth rows (mv / 8)).wait, .own 3 words, .own 3 owner, .own 3 prints, .at_ code] ++ [.big (rowsA 3 130 (rows.eraseIdx (mv / 8)))]) := h2.sel (L' := [.blk g 112 [code.v, pw, .int .i64 locks, .int .i64 nregs, .int .i64 mode, vt, words.v, owner.v, prints.v, .bool fell], .own 121 (⟨vt, rows.map ThL.toV⟩ : Ls ThV), .own 3 (nth rows (mv / 8)).regs, .own 130 (nth rows (mv / 8)).wait, .own 3 words, .own 3 owner, .own 3 prints, .at_ code, .big (rowsA 3 130 (rows.eraseIdx (mv / 8)))]) [3, 4, 0, 1, 5, 6, 7, 8, 2] rfl
  have hnt : nth (rows.map ThL.toV) (mv / 8) = (nth rows (mv / 8)).toV := nth_map' _ _ _ hn
  refine Rets.mono (do_c _ g mv code ⟨vt, rows.map ThL.toV⟩ (nth rows (mv / 8)).regs (nth rows (mv / 8)).wait words owner prints pw locks nregs mode fell W h3.passL (by simpa using hn) htc hmv (by rw [hnt]; rfl) (by rw [hnt]; rfl) (by rw [hnt]; exact hpc) hwl hkw hpl hol hwt (by rw [hnt]; exact hio)) ?_
  rintro v w' ⟨rfl, regs', wait', words', owner', prints', pc', fell', he, hs⟩
  have h4 := h3.backL hs (by intro A hA b hb; simp only [List.mem_cons, List.not_mem_nil, or_false] at hA; rcases hA with rfl | rfl | rfl | rfl | rfl | rfl | rfl | rfl <;> first | exact (hb : False).elim | exact Flat.noRd hb | exact .inl ⟨_, List.mem_of_getElem? (i := 7) rfl, .inr hb⟩)
  have h5 := h4.sel (L' := .own 3 regs' :: .own 130 wait' :: .big (rowsA 3 130 (rows.eraseIdx (mv / 8))) :: [.blk g 112 ([code.v, pw, .int .i64 locks, .int .i64 nregs, .int .i64 mode] ++ [vt, words'.v, owner'.v, prints'.v, .bool fell']), .own 121 (⟨vt, (rows.map ThL.toV).set (mv / 8) ⟨pc', regs'.v, wait'.v⟩⟩ : Ls ThV), .own 3 words', .own 3 owner', .own 3 prints', .at_ code]) [2, 3, 8, 0, 1, 4, 5, 6, 7] rfl
  have h6 := Sh.closeAt (x := ⟨pc', regs', wait'⟩) _ hn h5
  rw [show (rows.map ThL.toV).set (mv / 8) ⟨pc', regs'.v, wait'.v⟩ = (rows.set (mv / 8) ⟨pc', regs', wait'⟩).map ThL.toV by rw [List.map_set]; rfl] at h6
  have h7 := h6.perm (L' := stA g [code.v, pw, .int .i64 locks, .int .i64 nregs, .int .i64 mode] vt (rows.set (mv / 8) ⟨pc', regs', wait'⟩) words' owner' prints' fell' ++ [.at_ code]) ((List.Perm.swap _ _ _).trans ((List.Perm.swap _ _ _).cons _))
  rw [hnt] at he
  refine ⟨rfl, rows.set (mv / 8) ⟨pc', regs', wait'⟩, words', owner', prints', fell', (⟨pc', regs'.l, wait'.l, words'.l, owner'.l, prints'.l, fell'⟩ : TS), he, ?_, rfl, rfl, rfl, rfl, h7⟩
  rw [List.map_set]; rfl

end Go.Proofs.Ytmgikmjmdppfmaa
