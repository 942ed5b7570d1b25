/-
  The memory in which nothing waits does as the document says; runs of the program in it.
-/
import Derived.Test.YtfpaahkleienoaaX3
import Derived.Test.YtfpaahkleienoaaX61
import Derived.Test.YtfpaahkleienoaaX64
import Derived.Test.YtfpaahkleienoaaS24
section
namespace Go.Proofs.Ytfpaahkleienoaa
open Go.RowKit
set_option linter.unusedSimpArgs false
set_option linter.unusedVariables false


theorem nil_at {α : Type} [Enc α] (w : World) : (⟨.slice none 0 0, []⟩ : Ls α).At w := (((Sh0.start w).nil (α := α) 0).own 0 rfl)
theorem Sh.nilAt {α : Type} [Enc α] {K : Nat → Prop} {W w : World} {L : List Asn} (h : Sh K W w L) : (⟨.slice none 0 0, []⟩ : Ls α).At w := nil_at w
end Go.Proofs.Ytfpaahkleienoaa
end
namespace Go.Proofs.Ytfpaahkleienoaa
open Go.RowKit
set_option linter.unusedSimpArgs false
set_option linter.unusedVariables false


def Asn.emp : Asn := ⟨fun _ => False, fun _ => False, fun _ => True, fun _ _ _ _ => trivial, fun _ _ _ h => by rcases h with h | h <;> exact h.elim⟩
theorem Sh.emp {K : Nat → Prop} {W w : World} {L : List Asn} (h : Sh K W w L) : Sh K W w (Asn.emp :: L) := h.push (Chg.refl _ _) trivial (fun b hb => hb.elim) (fun b hb => hb.elim) (fun b hb => hb.elim)
/-- The memory in which nothing waits. -/
def memP (g : Nat) : MemS := ⟨Nat, fun n => List.replicate n [], fun _ => Asn.emp, 116, ⟨g, 0, none⟩, g, 0⟩
theorem memP_nth {n t : Nat} (h : t < (List.replicate n ([] : List Wt)).length) : nth (List.replicate n ([] : List Wt)) t = [] := nth_replicate _ _ _ (by simpa using h)
theorem memP_st {g n t : Nat} {x : Wt} {words owner words' owner' : Ls Int} (h : t < (List.replicate n ([] : List Wt)).length) (e1 : words'.l = if x.lock = true then words.l else words.l.set x.wh.toNat x.what) (e2 : owner'.l = if x.lock = true then owner.l.set x.wh.toNat (-1) else owner.l) : StoreP (memP g) t x words owner n words' owner' n := by
  refine ⟨[], ?_, fun pc regs prints fell => ?_⟩
  · show List.replicate n ([] : List Wt) = (List.replicate n []).set t []
    have := list_set_nth (List.replicate n ([] : List Wt)) t
    rw [memP_nth h] at this
    exact this.symm
  · show _ = TS.store 0 ⟨pc, regs, nth (List.replicate n ([] : List Wt)) t, words.l, owner.l, prints, fell⟩ x
    rw [memP_nth h]
    unfold TS.store
    rw [if_neg (by decide), e1, e2]
    rfl
theorem memP_ok (g : Nat) : MemI Try.prog 205 3 (memP g) where
  load w words owner q t wd h ht hl hwd := ⟨183, ⟨g, 0, none⟩, by kernel_rfl, bd_183, by
    rw [show nth ((memP g).qs q) t = [] from memP_nth ht]
    exact plLoad_c g words owner _ wd 0 w h.blk h.wa h.oa hwd⟩
  waits w words owner q t h ht hl := ⟨187, ⟨g, 0, none⟩, by kernel_rfl, bd_187, by
    rw [show nth ((memP g).qs q) t = [] from memP_nth ht]
    exact plWaits_c g words owner _ 0 0 w h.blk h.wa h.oa⟩
  freeing w words owner q t a h ht hl _ := ⟨182, ⟨g, 0, none⟩, by kernel_rfl, bd_182, by
    rw [show nth ((memP g).qs q) t = [] from memP_nth ht]
    exact plFreeing_c g words owner _ a 0 w h.blk h.wa h.oa⟩
  ready w words owner q t h ht hl := ⟨184, ⟨g, 0, none⟩, by kernel_rfl, bd_184, by
    rw [show nth ((memP g).qs q) t = [] from memP_nth ht]
    exact Rets.mono (plReady_c g words owner _ 0 0 w h.blk h.wa h.oa) fun v w' hv => ⟨⟨.slice none 0 0, []⟩, hv.1, rfl, hv.2.nil 3⟩⟩
  base w words owner q h := ⟨179, ⟨g, 0, none⟩, by kernel_rfl, bd_179, plBase_c g words owner 0 0 0 w h.blk h.wa h.oa⟩
  store K W words owner q t wd what hS ht hl hwd := ⟨185, ⟨g, 0, none⟩, by kernel_rfl, bd_185, by
    have h : Sh K W W ([.blk g 205 [words.v, owner.v], .own 3 words, .own 3 owner] ++ [Asn.emp]) := hS
    refine Rets.mono (plStore_c _ g words owner _ wd what W h.passL hwd) ?_
    rintro v w' ⟨rfl, hs⟩
    exact ⟨rfl, ⟨words.v, words.l.set wd.toNat what⟩, owner, q, memP_st ht rfl rfl, h.backL hs (by intro A hA b hb; simp only [List.mem_cons, List.not_mem_nil, or_false] at hA; rcases hA with rfl | rfl | rfl <;> first | exact (hb : False).elim | exact Flat.noRd hb)⟩⟩
  free K W words owner q t a hS ht hl ha := ⟨181, ⟨g, 0, none⟩, by kernel_rfl, bd_181, by
    have h : Sh K W W ([.blk g 205 [words.v, owner.v], .own 3 words, .own 3 owner] ++ [Asn.emp]) := hS
    refine Rets.mono (plFree_c _ g words owner _ a 0 W h.passL ha) ?_
    rintro v w' ⟨rfl, hs⟩
    exact ⟨rfl, words, ⟨owner.v, owner.l.set a.toNat (-1)⟩, q, memP_st ht rfl rfl, h.backL hs (by intro A hA b hb; simp only [List.mem_cons, List.not_mem_nil, or_false] at hA; rcases hA with rfl | rfl | rfl <;> first | exact (hb : False).elim | exact Flat.noRd hb)⟩⟩
  swap K W words owner q t wd what hS hwd := ⟨186, ⟨g, 0, none⟩, by kernel_rfl, bd_186, by
    have h : Sh K W W ([.blk g 205 [words.v, owner.v], .own 3 words, .own 3 owner] ++ [Asn.emp]) := hS
    refine Rets.mono (plSwap_c _ g words owner _ wd what W h.passL hwd) ?_
    rintro v w' ⟨rfl, hs⟩
    exact ⟨rfl, ⟨words.v, words.l.set wd.toNat what⟩, owner, q, ⟨rfl, rfl, rfl⟩, h.backL hs (by intro A hA b hb; simp only [List.mem_cons, List.not_mem_nil, or_false] at hA; rcases hA with rfl | rfl | rfl <;> first | exact (hb : False).elim | exact Flat.noRd hb)⟩⟩
  flush K W words owner q t k hS ht hl hk := by
    exfalso
    rw [show nth ((memP g).qs q) t = [] from memP_nth ht] at hk
    exact absurd hk (by simp)
  xrd q b h := h
theorem pnewP_c (words : Ls Int) (Lk n : Nat) (cv : Value) (nregs : Int) (W : World) (hwords : words.At W) (hwn : words.l.length ≤ 64) (hlk : Lk ≤ 4) :
    Rets Try.prog 76 [.agg #[cv, words.v, .int .i64 ((Lk : Nat) : Int), .int .i64 nregs]] W (fun v w' => ∃ (g : Nat) (words' owner' : Ls Int), v = .pointer (some ⟨g, 0, none⟩) ∧ words'.l = words.l ∧ owner'.l = List.replicate Lk (-1) ∧ Sh0 W w' [.blk g 205 [words'.v, owner'.v], .own 3 words', .own 3 owner', (memP g).X n]) := by
  refine Rets.mono (pnew_c words Lk cv nregs W hwords hwn hlk) ?_
  rintro v w' ⟨g, words', owner', e, h1, h2, hs⟩
  exact ⟨g, words', owner', e, h1, h2, hs.emp.sel (L' := [.blk g 205 [words'.v, owner'.v], .own 3 words', .own 3 owner', Asn.emp]) [1, 2, 3, 0] (by decide) ⟨rfl, rfl, rfl, rfl, trivial⟩⟩

set_option maxRecDepth 100000 in
set_option maxHeartbeats 20000000 in
theorem scRun_k (code : Ls (Ls Ins)) (words0 script : Ls Int) (Lk R : Nat) (W : World) (hcode : code.At W) (hwords : words0.At W) (hscript : script.At W) (hok : OkPg (pgN code words0 Lk R)) :
    Rets Try.prog 31 [.agg #[code.v, words0.v, .int .i64 ((Lk : Nat) : Int), .int .i64 ((R : Nat) : Int)], script.v] W (fun v w' => ∃ (pr wd : Ls Int) (st_ : Int) (steps : Nat), v = .tuple #[.agg #[pr.v, .int .i64 st_, wd.v, .int .i64 ((steps : Nat) : Int)], .agg #[.int .i64 0, .int .i64 0, .int .i64 0]] ∧ runM (pgN code words0 Lk R) 0 script.l = ⟨st_, steps, wd.l, pr.l⟩ ∧ Sh0 W w' [.own 3 pr, .own 3 wd]) := by
 have hz : checkG (pgOf code words0 ((Lk : Nat) : Int) ((R : Nat) : Int)) = ⟨0, 0, 0⟩ := checkG_ok hok
 obtain ⟨hl1, hcl, hwn, hlk, hR2⟩ := ok_lenP hok
 refine x_enter (N := 21) Try.func31 rfl Try.ntmps31 (Nat.le_of_ble_eq_true rfl) fun a1 hf1 => ?_
 have h1 : St 21 (fun _ => False) W a1 W [(0, .agg #[code.v, words0.v, .int .i64 ((Lk : Nat) : Int), .int .i64 ((R : Nat) : Int)]), (1, script.v)] [.at_ code, .at_ words0, .at_ script] := ⟨hf1.sub ⟨rfl, rfl, trivial⟩, Sh0.ext3 hcode hwords hscript⟩
 clear hf1
 refine wp_seq_k fun K2 hK2 => wp_region_lit <| wl_ex (x_box (cs := [code.v, words0.v, .int .i64 ((Lk : Nat) : Int), .int .i64 ((R : Nat) : Int)]) h1 rfl rfl rfl rfl rfl) (wanted_none rfl _) ?_
 rintro a3 w3 ⟨b3, h3⟩; clear h1
 refine wl_ex (x_alloc h3 ti_49 rfl rfl rfl) (wanted_none rfl _) ?_
 rintro a4 w4 ⟨b4, h4⟩; clear h3
 refine wl_ex (x_alloc h4 ti_28 rfl rfl rfl) (wanted_none rfl _) ?_
 rintro a5 w5 ⟨b5, h5⟩; clear h4
 refine wpList_nil <| hK2 _ _ <| wp_seq_k fun K6 hK6 => wp_seq_k fun K7 hK7 => wp_region_lit <| wv h5 (r_ldbw (i := 2) (vs := [code.v, words0.v, .int .i64 ((Lk : Nat) : Int), .int .i64 ((R : Nat) : Int)]) ti_25 rfl rfl rfl rfl rfl) rfl rfl fun a8 h8 => wl_ex (x_call h8 bd_46 rfl rfl rfl rfl rfl (asmCheck_c (code := code) (words := words0) (locks := ((Lk : Nat) : Int)) (regs := ((R : Nat) : Int)) (h8.sh.at 3 rfl) (h8.sh.at 4 rfl))) (wanted_none rfl _) ?_; clear h5
 rintro a9 w9 ⟨_, ⟨rfl, hs9⟩, hf9⟩
 have h9 : St 21 (fun _ => False) W a9 w9 _ _ := ⟨hf9, h8.sh.call0 hs9⟩
 clear hf9 hs9
 clear h8
 refine wl_ex (x_alloc h9 ti_28 rfl rfl rfl) (wanted_none rfl _) ?_
 rintro a10 w10 ⟨b10, h10⟩; clear h9
 refine wl_ex (x_stb (i := 0) (vs := [.int .i64 ((checkG (pgOf code words0 ((Lk : Nat) : Int) ((R : Nat) : Int))).code), .int .i64 ((checkG (pgOf code words0 ((Lk : Nat) : Int) ((R : Nat) : Int))).thread), .int .i64 ((checkG (pgOf code words0 ((Lk : Nat) : Int) ((R : Nat) : Int))).at_)]) (cs' := [.int .i64 ((checkG (pgOf code words0 ((Lk : Nat) : Int) ((R : Nat) : Int))).code), .int .i64 ((checkG (pgOf code words0 ((Lk : Nat) : Int) ((R : Nat) : Int))).thread), .int .i64 ((checkG (pgOf code words0 ((Lk : Nat) : Int) ((R : Nat) : Int))).at_)]) h10 ti_28 rfl rfl rfl rfl rfl rfl rfl (allOne_cons rfl (allOne_cons rfl (allOne_cons rfl allOne_nil))) (Nat.le_of_ble_eq_true rfl) rfl) (wanted_none rfl _) ?_
 rintro a11 w11 h11
 clear h10
 refine wpList_nil <| hK7 _ _ <| wp_seq_k fun K12 hK12 => wp_region_lit <| wv h11 (r_fieldB (r := 0) fl_28_0 rfl rfl rfl) rfl rfl fun a13 h13 => wv h13 (r_ldb (i := 0) ti_26 rfl rfl rfl rfl) rfl rfl fun a14 h14 => wv h14 (r_neqI (p := (checkG (pgOf code words0 ((Lk : Nat) : Int) ((R : Nat) : Int))).code) (q := 0) rfl rfl rfl) rfl rfl fun a15 h15 => wpList_nil <| hK12 _ _ <| x_condF h15 rfl (by rw [hz]; rfl) ?_; clear h11 h13 h14
 refine wp_skip <| hK6 _ _ <| wp_seq_k fun K16 hK16 => ?_
 have h17 : St 21 (fun _ => False) W a15 w11 [(0, .agg #[code.v, words0.v, .int .i64 ((Lk : Nat) : Int), .int .i64 ((R : Nat) : Int)]), (1, script.v), (2, .pointer (some ⟨b3, 0, none⟩)), (4, .pointer (some ⟨b4, 0, none⟩)), (5, .pointer (some ⟨b5, 0, none⟩)), (6, .pointer (some ⟨b10, 0, none⟩)), (7, .agg #[code.v, words0.v, .int .i64 ((Lk : Nat) : Int), .int .i64 ((R : Nat) : Int)]), (8, .agg #[.int .i64 ((checkG (pgOf code words0 ((Lk : Nat) : Int) ((R : Nat) : Int))).code), .int .i64 ((checkG (pgOf code words0 ((Lk : Nat) : Int) ((R : Nat) : Int))).thread), .int .i64 ((checkG (pgOf code words0 ((Lk : Nat) : Int) ((R : Nat) : Int))).at_)]), (9, .pointer (some ⟨b10, 0, none⟩)), (10, .int .i64 ((checkG (pgOf code words0 ((Lk : Nat) : Int) ((R : Nat) : Int))).code)), (11, .bool (decide ((checkG (pgOf code words0 ((Lk : Nat) : Int) ((R : Nat) : Int))).code ≠ 0)))] [.blk b10 28 [.int .i64 ((checkG (pgOf code words0 ((Lk : Nat) : Int) ((R : Nat) : Int))).code), .int .i64 ((checkG (pgOf code words0 ((Lk : Nat) : Int) ((R : Nat) : Int))).thread), .int .i64 ((checkG (pgOf code words0 ((Lk : Nat) : Int) ((R : Nat) : Int))).at_)], .blk b5 28 [.int .i64 0, .int .i64 0, .int .i64 0], .blk b4 49 [(.slice none 0 0), .int .i64 0, (.slice none 0 0), .int .i64 0], .blk b3 25 [code.v, words0.v, .int .i64 ((Lk : Nat) : Int), .int .i64 ((R : Nat) : Int)], .at_ code, .at_ words0, .at_ script] := h15.nrm ⟨rfl, rfl, rfl, rfl, rfl, rfl, rfl, rfl, rfl, rfl, rfl, trivial⟩ [0, 1, 2, 3, 4, 5, 6] (by decide) ⟨rfl, rfl, rfl, rfl, rfl, rfl, rfl, trivial⟩
 clear h15
 refine x_any ((fun Φ Ψ S a w => (S 2 = false ∧ S 5 = false ∧ S 7 = false ∧ S 8 = false ∧ FrI 21 S Φ Ψ a ∧ Sh (fun _ => False) W w [.blk b10 28 [.int .i64 ((checkG (pgOf code words0 ((Lk : Nat) : Int) ((R : Nat) : Int))).code), .int .i64 ((checkG (pgOf code words0 ((Lk : Nat) : Int) ((R : Nat) : Int))).thread), .int .i64 ((checkG (pgOf code words0 ((Lk : Nat) : Int) ((R : Nat) : Int))).at_)], .blk b5 28 [.int .i64 0, .int .i64 0, .int .i64 0], .blk b4 49 [(.slice none 0 0), .int .i64 0, (.slice none 0 0), .int .i64 0], .blk b3 25 [code.v, words0.v, .int .i64 ((Lk : Nat) : Int), .int .i64 ((R : Nat) : Int)], .at_ code, .at_ words0, .at_ script]) ∨ (S 2 = true ∧ S 5 = false ∧ S 7 = false ∧ S 8 = false ∧ ∃ (g7002 : Nat) (mw7002 : Ls Int) (mo7002 : Ls Int), (mw7002.l = words0.l) ∧ (mo7002.l = List.replicate Lk (-1)) ∧ FrI 21 S Φ (Ψ ++ [(2, 16, .pointer (some ⟨g7002, 0, none⟩)), (3, 17, .iface (memP g7002).T (.pointer (some (memP g7002).u)))]) a ∧ Sh (fun _ => False) W w [.blk g7002 205 [mw7002.v, mo7002.v], .own 3 mw7002, .own 3 mo7002, (memP g7002).X code.l.length, .blk b10 28 [.int .i64 ((checkG (pgOf code words0 ((Lk : Nat) : Int) ((R : Nat) : Int))).code), .int .i64 ((checkG (pgOf code words0 ((Lk : Nat) : Int) ((R : Nat) : Int))).thread), .int .i64 ((checkG (pgOf code words0 ((Lk : Nat) : Int) ((R : Nat) : Int))).at_)], .blk b5 28 [.int .i64 0, .int .i64 0, .int .i64 0], .blk b4 49 [(.slice none 0 0), .int .i64 0, (.slice none 0 0), .int .i64 0], .blk b3 25 [code.v, words0.v, .int .i64 ((Lk : Nat) : Int), .int .i64 ((R : Nat) : Int)], .at_ code, .at_ words0, .at_ script]) ∨ (S 2 = true ∧ S 5 = true ∧ S 7 = false ∧ S 8 = false ∧ ∃ (g7002 : Nat) (mw7002 : Ls Int) (mo7002 : Ls Int) (pr7005 : Ls Int) (wd7005 : Ls Int) (st7005 : Int) (sn7005 : Nat), (mw7002.l = words0.l) ∧ (mo7002.l = List.replicate Lk (-1)) ∧ (runM (pgN code words0 Lk R) (memP g7002).m script.l = ⟨st7005, sn7005, wd7005.l, pr7005.l⟩) ∧ FrI 21 S Φ (Ψ ++ [(2, 16, .pointer (some ⟨g7002, 0, none⟩)), (3, 17, .iface (memP g7002).T (.pointer (some (memP g7002).u))), (5, 19, .agg #[pr7005.v, .int .i64 st7005, wd7005.v, .int .i64 ((sn7005 : Nat) : Int)])]) a ∧ Sh (fun _ => False) W w [.own 3 pr7005, .own 3 wd7005, .blk b10 28 [.int .i64 ((checkG (pgOf code words0 ((Lk : Nat) : Int) ((R : Nat) : Int))).code), .int .i64 ((checkG (pgOf code words0 ((Lk : Nat) : Int) ((R : Nat) : Int))).thread), .int .i64 ((checkG (pgOf code words0 ((Lk : Nat) : Int) ((R : Nat) : Int))).at_)], .blk b5 28 [.int .i64 0, .int .i64 0, .int .i64 0], .blk b4 49 [(.slice none 0 0), .int .i64 0, (.slice none 0 0), .int .i64 0], .blk b3 25 [code.v, words0.v, .int .i64 ((Lk : Nat) : Int), .int .i64 ((R : Nat) : Int)], .at_ words0]) ∨ (S 2 = true ∧ S 5 = true ∧ S 7 = true ∧ S 8 = false ∧ ∃ (g7002 : Nat) (mw7002 : Ls Int) (mo7002 : Ls Int) (pr7005 : Ls Int) (wd7005 : Ls Int) (st7005 : Int) (sn7005 : Nat), (mw7002.l = words0.l) ∧ (mo7002.l = List.replicate Lk (-1)) ∧ (runM (pgN code words0 Lk R) (memP g7002).m script.l = ⟨st7005, sn7005, wd7005.l, pr7005.l⟩) ∧ FrI 21 S Φ (Ψ ++ [(2, 16, .pointer (some ⟨g7002, 0, none⟩)), (3, 17, .iface (memP g7002).T (.pointer (some (memP g7002).u))), (5, 19, .agg #[pr7005.v, .int .i64 st7005, wd7005.v, .int .i64 ((sn7005 : Nat) : Int)])]) a ∧ Sh (fun _ => False) W w [.own 3 pr7005, .own 3 wd7005, .blk b10 28 [.int .i64 ((checkG (pgOf code words0 ((Lk : Nat) : Int) ((R : Nat) : Int))).code), .int .i64 ((checkG (pgOf code words0 ((Lk : Nat) : Int) ((R : Nat) : Int))).thread), .int .i64 ((checkG (pgOf code words0 ((Lk : Nat) : Int) ((R : Nat) : Int))).at_)], .blk b5 28 [.int .i64 0, .int .i64 0, .int .i64 0], .blk b4 49 [pr7005.v, .int .i64 st7005, wd7005.v, .int .i64 ((sn7005 : Nat) : Int)], .blk b3 25 [code.v, words0.v, .int .i64 ((Lk : Nat) : Int), .int .i64 ((R : Nat) : Int)], .at_ words0]) ∨ (S 2 = true ∧ S 5 = true ∧ S 7 = true ∧ S 8 = true ∧ ∃ (g7002 : Nat) (mw7002 : Ls Int) (mo7002 : Ls Int) (pr7005 : Ls Int) (wd7005 : Ls Int) (st7005 : Int) (sn7005 : Nat), (mw7002.l = words0.l) ∧ (mo7002.l = List.replicate Lk (-1)) ∧ (runM (pgN code words0 Lk R) (memP g7002).m script.l = ⟨st7005, sn7005, wd7005.l, pr7005.l⟩) ∧ FrI 21 S Φ (Ψ ++ [(2, 16, .pointer (some ⟨g7002, 0, none⟩)), (3, 17, .iface (memP g7002).T (.pointer (some (memP g7002).u))), (5, 19, .agg #[pr7005.v, .int .i64 st7005, wd7005.v, .int .i64 ((sn7005 : Nat) : Int)])]) a ∧ Sh (fun _ => False) W w [.own 3 pr7005, .own 3 wd7005, .blk b10 28 [.int .i64 ((checkG (pgOf code words0 ((Lk : Nat) : Int) ((R : Nat) : Int))).code), .int .i64 ((checkG (pgOf code words0 ((Lk : Nat) : Int) ((R : Nat) : Int))).thread), .int .i64 ((checkG (pgOf code words0 ((Lk : Nat) : Int) ((R : Nat) : Int))).at_)], .blk b5 28 [.int .i64 0, .int .i64 0, .int .i64 0], .blk b4 49 [pr7005.v, .int .i64 st7005, wd7005.v, .int .i64 ((sn7005 : Nat) : Int)], .blk b3 25 [code.v, words0.v, .int .i64 ((Lk : Nat) : Int), .int .i64 ((R : Nat) : Int)], .at_ words0])) [(0, .agg #[code.v, words0.v, .int .i64 ((Lk : Nat) : Int), .int .i64 ((R : Nat) : Int)]), (1, script.v), (2, .pointer (some ⟨b3, 0, none⟩)), (4, .pointer (some ⟨b4, 0, none⟩)), (5, .pointer (some ⟨b5, 0, none⟩)), (6, .pointer (some ⟨b10, 0, none⟩)), (7, .agg #[code.v, words0.v, .int .i64 ((Lk : Nat) : Int), .int .i64 ((R : Nat) : Int)]), (8, .agg #[.int .i64 ((checkG (pgOf code words0 ((Lk : Nat) : Int) ((R : Nat) : Int))).code), .int .i64 ((checkG (pgOf code words0 ((Lk : Nat) : Int) ((R : Nat) : Int))).thread), .int .i64 ((checkG (pgOf code words0 ((Lk : Nat) : Int) ((R : Nat) : Int))).at_)]), (9, .pointer (some ⟨b10, 0, none⟩)), (10, .int .i64 ((checkG (pgOf code words0 ((Lk : Nat) : Int) ((R : Nat) : Int))).code)), (11, .bool (decide ((checkG (pgOf code words0 ((Lk : Nat) : Int) ((R : Nat) : Int))).code ≠ 0)))] [(0, 14, .agg #[code.v, words0.v, .int .i64 ((Lk : Nat) : Int), .int .i64 ((R : Nat) : Int)]), (1, 15, .agg #[code.v, words0.v, .int .i64 ((Lk : Nat) : Int), .int .i64 ((R : Nat) : Int)]), (4, 18, script.v), (6, 20, .agg #[.int .i64 0, .int .i64 0, .int .i64 0])]) (by kernel_rfl) (by kernel_rfl) (Or.inl (⟨rfl, rfl, rfl, rfl, FrI.start h17.fr, h17.sh.drew⟩)) ?_ ?_
 ·intro S i o ho hSi hcl hdep a w hI
  clear h17
  rcases i with _ | _ | _ | _ | _ | _ | _ | _ | _ | i
  ·obtain rfl : _ = o := Option.some.inj ho
   rcases hI with ⟨ν2, ν5, ν7, ν8, φ, ς⟩ | ⟨ν2, ν5, ν7, ν8, g7002, mw7002, mo7002, hmw7002, hmo7002, φ, ς⟩ | ⟨_, ν5, _⟩ | ⟨_, ν5, _⟩ | ⟨_, ν5, _⟩
   ·exact sq φ φ.fr0 ς (r_ldbw (i := 3) (vs := [code.v, words0.v, .int .i64 ((Lk : Nat) : Int), .int .i64 ((R : Nat) : Int)]) ti_25 rfl rfl rfl rfl rfl) 0 rfl rfl rfl rfl rfl rfl fun a hg => Or.inl (⟨un rfl ν2, un rfl ν5, un rfl ν7, un rfl ν8, hg, ς⟩)
   ·exact sq φ φ.fr0 ς (r_ldbw (i := 7) (vs := [code.v, words0.v, .int .i64 ((Lk : Nat) : Int), .int .i64 ((R : Nat) : Int)]) ti_25 rfl rfl rfl rfl rfl) 0 rfl rfl rfl rfl rfl rfl fun a hg => Or.inr (Or.inl (⟨un rfl ν2, un rfl ν5, un rfl ν7, un rfl ν8, g7002, mw7002, mo7002, hmw7002, hmo7002, hg, ς⟩))
   ·exact no_way (cA hcl 5 0 rfl ν5) hSi
   ·exact no_way (cA hcl 5 0 rfl ν5) hSi
   ·exact no_way (cA hcl 5 0 rfl ν5) hSi
  ·obtain rfl : _ = o := Option.some.inj ho
   rcases hI with ⟨ν2, ν5, ν7, ν8, φ, ς⟩ | ⟨ν2, _⟩ | ⟨ν2, _⟩ | ⟨ν2, _⟩ | ⟨ν2, _⟩
   ·exact sq φ φ.fr0 ς (r_ldbw (i := 3) (vs := [code.v, words0.v, .int .i64 ((Lk : Nat) : Int), .int .i64 ((R : Nat) : Int)]) ti_25 rfl rfl rfl rfl rfl) 1 rfl rfl rfl rfl rfl rfl fun a hg => Or.inl (⟨un rfl ν2, un rfl ν5, un rfl ν7, un rfl ν8, hg, ς⟩)
   ·exact no_way (cA hcl 2 1 rfl ν2) hSi
   ·exact no_way (cA hcl 2 1 rfl ν2) hSi
   ·exact no_way (cA hcl 2 1 rfl ν2) hSi
   ·exact no_way (cA hcl 2 1 rfl ν2) hSi
  ·obtain rfl : _ = o := Option.some.inj ho
   have hd1 : S 1 = true := depAt hdep 0 rfl rfl
   rcases hI with ⟨ν2, ν5, ν7, ν8, φ, ς⟩ | ⟨ν2, _⟩ | ⟨ν2, _⟩ | ⟨ν2, _⟩ | ⟨ν2, _⟩
   ·have hs := St.mk (Fr.cons φ.fr0 (φ.at_ 1 1 15 _ rfl hd1)) ς
    refine step_ex (x_call hs bd_76 rfl rfl rfl rfl rfl (pnewP_c words0 Lk code.l.length code.v ((R : Nat) : Int) _ (hs.sh.at 5 rfl) hwn hlk)) (wanted_none rfl _) ?_
    rintro a28 w28 ⟨_, ⟨g28, mw28, mo28, rfl, hmw28, hmo28, hs28⟩, hf28⟩ ⟨v0, ht28⟩
    have h28 := (⟨hf28, hs.sh.call hs28 (by intro A hA b hb; simp only [List.mem_cons, List.not_mem_nil, or_false] at hA; first | (subst hA; exact Flat.noRd hb) | (rcases hA with rfl | rfl | rfl | rfl <;> first | exact (hb : False).elim | exact Flat.noRd hb))⟩ : St 21 (fun _ => False) W a28 w28 _ _)
    clear hf28 hs28
    exact Or.inr (Or.inl (⟨upd_self _ _, un rfl ν5, un rfl ν7, un rfl ν8, g28, mw28, mo28, hmw28, hmo28, φ.stepW hcl hSi [0, 1, 2, 3] (by kernel_rfl) (by kernel_rfl) ht28 h28.fr.defers (h28.fr.at_ 16 _ rfl) 4 rfl rfl rfl rfl, (h28.sh.sel (L' := [.blk g28 205 [mw28.v, mo28.v], .own 3 mw28, .own 3 mo28, (memP g28).X code.l.length, .blk b10 28 [.int .i64 ((checkG (pgOf code words0 ((Lk : Nat) : Int) ((R : Nat) : Int))).code), .int .i64 ((checkG (pgOf code words0 ((Lk : Nat) : Int) ((R : Nat) : Int))).thread), .int .i64 ((checkG (pgOf code words0 ((Lk : Nat) : Int) ((R : Nat) : Int))).at_)], .blk b5 28 [.int .i64 0, .int .i64 0, .int .i64 0], .blk b4 49 [(.slice none 0 0), .int .i64 0, (.slice none 0 0), .int .i64 0], .blk b3 25 [code.v, words0.v, .int .i64 ((Lk : Nat) : Int), .int .i64 ((R : Nat) : Int)], .at_ code, .at_ words0, .at_ script]) [0, 1, 2, 3, 4, 5, 6, 7, 8, 9, 10] (by decide) ⟨rfl, rfl, rfl, rfl, rfl, rfl, rfl, rfl, rfl, rfl, rfl, trivial⟩)⟩))
   ·exact no_way ν2 hSi
   ·exact no_way ν2 hSi
   ·exact no_way ν2 hSi
   ·exact no_way ν2 hSi
  ·obtain rfl : _ = o := Option.some.inj ho
   have hd2 : S 2 = true := depAt hdep 0 rfl rfl
   rcases hI with ⟨ν2, _⟩ | ⟨ν2, ν5, ν7, ν8, g7002, mw7002, mo7002, hmw7002, hmo7002, φ, ς⟩ | ⟨_, ν5, _⟩ | ⟨_, ν5, _⟩ | ⟨_, ν5, _⟩
   ·exact no_way hd2 ν2
   ·exact sq φ (Fr.cons φ.fr0 (φ.at_ 4 2 16 _ rfl hd2)) ς (Rn.same (r_mkIfP (T := 116) Try.underlying116 rfl rfl) rfl) 5 rfl rfl rfl rfl rfl rfl fun a hg => Or.inr (Or.inl (⟨un rfl ν2, un rfl ν5, un rfl ν7, un rfl ν8, g7002, mw7002, mo7002, hmw7002, hmo7002, hg, ς⟩))
   ·exact no_way (cA hcl 5 3 rfl ν5) hSi
   ·exact no_way (cA hcl 5 3 rfl ν5) hSi
   ·exact no_way (cA hcl 5 3 rfl ν5) hSi
  ·obtain rfl : _ = o := Option.some.inj ho
   rcases hI with ⟨ν2, ν5, ν7, ν8, φ, ς⟩ | ⟨ν2, ν5, ν7, ν8, g7002, mw7002, mo7002, hmw7002, hmo7002, φ, ς⟩ | ⟨_, ν5, _⟩ | ⟨_, ν5, _⟩ | ⟨_, ν5, _⟩
   ·exact sq φ φ.fr0 ς (r_move rfl rfl) 2 rfl rfl rfl rfl rfl rfl fun a hg => Or.inl (⟨un rfl ν2, un rfl ν5, un rfl ν7, un rfl ν8, hg, ς⟩)
   ·exact sq φ φ.fr0 ς (r_move rfl rfl) 2 rfl rfl rfl rfl rfl rfl fun a hg => Or.inr (Or.inl (⟨un rfl ν2, un rfl ν5, un rfl ν7, un rfl ν8, g7002, mw7002, mo7002, hmw7002, hmo7002, hg, ς⟩))
   ·exact no_way (cA hcl 5 4 rfl ν5) hSi
   ·exact no_way (cA hcl 5 4 rfl ν5) hSi
   ·exact no_way (cA hcl 5 4 rfl ν5) hSi
  ·obtain rfl : _ = o := Option.some.inj ho
   have hd0 : S 0 = true := depAt hdep 0 rfl rfl
   have hd3 : S 3 = true := depAt hdep 1 rfl rfl
   have hd4 : S 4 = true := depAt hdep 2 rfl rfl
   have hd2 : S 2 = true := depAt hdep 3 rfl rfl
   rcases hI with ⟨ν2, _⟩ | ⟨ν2, ν5, ν7, ν8, g7002, mw7002, mo7002, hmw7002, hmo7002, φ, ς⟩ | ⟨_, ν5, _⟩ | ⟨_, ν5, _⟩ | ⟨_, ν5, _⟩
   ·exact no_way hd2 ν2
   ·have hs := St.mk (Fr.cons (Fr.cons (Fr.cons φ.fr0 (φ.at_ 0 0 14 _ rfl hd0)) (φ.at_ 5 3 17 _ rfl hd3)) (φ.at_ 2 4 18 _ rfl hd4)) ς
    have h32 := hs.sel (L' := [.blk g7002 205 [mw7002.v, mo7002.v], .own 3 mw7002, .own 3 mo7002, (memP g7002).X code.l.length, .at_ code, .at_ script, .blk b10 28 [.int .i64 ((checkG (pgOf code words0 ((Lk : Nat) : Int) ((R : Nat) : Int))).code), .int .i64 ((checkG (pgOf code words0 ((Lk : Nat) : Int) ((R : Nat) : Int))).thread), .int .i64 ((checkG (pgOf code words0 ((Lk : Nat) : Int) ((R : Nat) : Int))).at_)], .blk b5 28 [.int .i64 0, .int .i64 0, .int .i64 0], .blk b4 49 [(.slice none 0 0), .int .i64 0, (.slice none 0 0), .int .i64 0], .blk b3 25 [code.v, words0.v, .int .i64 ((Lk : Nat) : Int), .int .i64 ((R : Nat) : Int)], .at_ words0]) [0, 1, 2, 3, 8, 10, 4, 5, 6, 7, 9] (by decide) ⟨rfl, rfl, rfl, rfl, rfl, rfl, rfl, rfl, rfl, rfl, rfl, trivial⟩
    have hp33 := h32.sh.passL (Lp := [.blk g7002 205 [mw7002.v, mo7002.v], .own 3 mw7002, .own 3 mo7002, (memP g7002).X code.l.length, .at_ code, .at_ script])
    refine step_ex (x_call h32 bd_75 rfl rfl rfl rfl rfl (pgo_c _ (memP g7002) code words0 script mw7002 mo7002 code.l.length _ Lk R _ (memP_ok g7002) hp33 hok rfl hmw7002 hmo7002)) (wanted_none rfl _) ?_
    rintro a34 w34 ⟨_, ⟨pr34, wd34, st34, sn34, rfl, hrun34, hs34⟩, hf34⟩ ⟨v0, ht34⟩
    have h34 : St 21 (fun _ => False) W a34 w34 _ [.own 3 pr34, .own 3 wd34, .blk b10 28 [.int .i64 ((checkG (pgOf code words0 ((Lk : Nat) : Int) ((R : Nat) : Int))).code), .int .i64 ((checkG (pgOf code words0 ((Lk : Nat) : Int) ((R : Nat) : Int))).thread), .int .i64 ((checkG (pgOf code words0 ((Lk : Nat) : Int) ((R : Nat) : Int))).at_)], .blk b5 28 [.int .i64 0, .int .i64 0, .int .i64 0], .blk b4 49 [(.slice none 0 0), .int .i64 0, (.slice none 0 0), .int .i64 0], .blk b3 25 [code.v, words0.v, .int .i64 ((Lk : Nat) : Int), .int .i64 ((R : Nat) : Int)], .at_ words0] := ⟨hf34, h32.sh.backL (Lp := [.blk g7002 205 [mw7002.v, mo7002.v], .own 3 mw7002, .own 3 mo7002, (memP g7002).X code.l.length, .at_ code, .at_ script]) hs34 (by intro A hA b hb; simp only [List.mem_cons, List.not_mem_nil, or_false] at hA; rcases hA with rfl | rfl <;> first | exact (hb : False).elim | exact Flat.noRd hb | exact .inl ⟨_, List.mem_cons_self .., .inr hb⟩ | exact .inl ⟨_, by simp, .inr hb⟩)⟩
    clear hf34 hs34
    exact Or.inr (Or.inr (Or.inl (⟨un rfl ν2, upd_self _ _, un rfl ν7, un rfl ν8, g7002, mw7002, mo7002, pr34, wd34, st34, sn34, hmw7002, hmo7002, hrun34, φ.stepW hcl hSi [0, 1, 2, 3, 4, 5] (by kernel_rfl) (by kernel_rfl) ht34 h34.fr.defers (h34.fr.at_ 19 _ rfl) 6 rfl rfl rfl rfl, (h34.sh.sel (L' := [.own 3 pr34, .own 3 wd34, .blk b10 28 [.int .i64 ((checkG (pgOf code words0 ((Lk : Nat) : Int) ((R : Nat) : Int))).code), .int .i64 ((checkG (pgOf code words0 ((Lk : Nat) : Int) ((R : Nat) : Int))).thread), .int .i64 ((checkG (pgOf code words0 ((Lk : Nat) : Int) ((R : Nat) : Int))).at_)], .blk b5 28 [.int .i64 0, .int .i64 0, .int .i64 0], .blk b4 49 [(.slice none 0 0), .int .i64 0, (.slice none 0 0), .int .i64 0], .blk b3 25 [code.v, words0.v, .int .i64 ((Lk : Nat) : Int), .int .i64 ((R : Nat) : Int)], .at_ words0]) [0, 1, 2, 3, 4, 5, 6] (by decide) ⟨rfl, rfl, rfl, rfl, rfl, rfl, rfl, trivial⟩)⟩)))
   ·exact no_way ν5 hSi
   ·exact no_way ν5 hSi
   ·exact no_way ν5 hSi
  ·obtain rfl : _ = o := Option.some.inj ho
   rcases hI with ⟨ν2, ν5, ν7, ν8, φ, ς⟩ | ⟨ν2, ν5, ν7, ν8, g7002, mw7002, mo7002, hmw7002, hmo7002, φ, ς⟩ | ⟨ν2, ν5, ν7, ν8, g7002, mw7002, mo7002, pr7005, wd7005, st7005, sn7005, hmw7002, hmo7002, hrun7005, φ, ς⟩ | ⟨ν2, ν5, ν7, ν8, g7002, mw7002, mo7002, pr7005, wd7005, st7005, sn7005, hmw7002, hmo7002, hrun7005, φ, ς⟩ | ⟨_, _, _, ν8, _⟩
   ·exact sq φ φ.fr0 ς (r_build (cs := [.int .i64 0, .int .i64 0, .int .i64 0]) rfl rfl (by kernel_rfl)) 3 rfl rfl rfl rfl rfl rfl fun a hg => Or.inl (⟨un rfl ν2, un rfl ν5, un rfl ν7, un rfl ν8, hg, ς⟩)
   ·exact sq φ φ.fr0 ς (r_build (cs := [.int .i64 0, .int .i64 0, .int .i64 0]) rfl rfl (by kernel_rfl)) 3 rfl rfl rfl rfl rfl rfl fun a hg => Or.inr (Or.inl (⟨un rfl ν2, un rfl ν5, un rfl ν7, un rfl ν8, g7002, mw7002, mo7002, hmw7002, hmo7002, hg, ς⟩))
   ·exact sq φ φ.fr0 ς (r_build (cs := [.int .i64 0, .int .i64 0, .int .i64 0]) rfl rfl (by kernel_rfl)) 3 rfl rfl rfl rfl rfl rfl fun a hg => Or.inr (Or.inr (Or.inl (⟨un rfl ν2, un rfl ν5, un rfl ν7, un rfl ν8, g7002, mw7002, mo7002, pr7005, wd7005, st7005, sn7005, hmw7002, hmo7002, hrun7005, hg, ς⟩)))
   ·exact sq φ φ.fr0 ς (r_build (cs := [.int .i64 0, .int .i64 0, .int .i64 0]) rfl rfl (by kernel_rfl)) 3 rfl rfl rfl rfl rfl rfl fun a hg => Or.inr (Or.inr (Or.inr (Or.inl (⟨un rfl ν2, un rfl ν5, un rfl ν7, un rfl ν8, g7002, mw7002, mo7002, pr7005, wd7005, st7005, sn7005, hmw7002, hmo7002, hrun7005, hg, ς⟩))))
   ·exact no_way (cA hcl 8 6 rfl ν8) hSi
  ·obtain rfl : _ = o := Option.some.inj ho
   have hd5 : S 5 = true := depAt hdep 0 rfl rfl
   have hd2 : S 2 = true := depAt hdep 4 rfl rfl
   rcases hI with ⟨ν2, _⟩ | ⟨_, ν5, _⟩ | ⟨ν2, ν5, ν7, ν8, g7002, mw7002, mo7002, pr7005, wd7005, st7005, sn7005, hmw7002, hmo7002, hrun7005, φ, ς⟩ | ⟨_, _, ν7, _⟩ | ⟨_, _, ν7, _⟩
   ·exact no_way hd2 ν2
   ·exact no_way hd5 ν5
   ·have hs := St.mk (Fr.cons φ.fr0 (φ.at_ 6 5 19 _ rfl hd5)) ς
    refine step_ex (x_stb (i := 4) (vs := [pr7005.v, .int .i64 st7005, wd7005.v, .int .i64 ((sn7005 : Nat) : Int)]) (cs' := [pr7005.v, .int .i64 st7005, wd7005.v, .int .i64 ((sn7005 : Nat) : Int)]) hs ti_49 rfl rfl rfl rfl rfl rfl rfl (allOne_cons ((hs.sh.own 0 rfl)).one (allOne_cons rfl (allOne_cons ((hs.sh.own 1 rfl)).one (allOne_cons rfl allOne_nil)))) (Nat.le_of_ble_eq_true rfl) rfl) (wanted_none rfl _) ?_
    rintro a39 w39 h39 ⟨v0, ht39⟩
    exact Or.inr (Or.inr (Or.inr (Or.inl (⟨un rfl ν2, un rfl ν5, upd_self _ _, un rfl ν8, g7002, mw7002, mo7002, pr7005, wd7005, st7005, sn7005, hmw7002, hmo7002, hrun7005, φ.noneW hcl hSi [0, 1, 2, 3, 4, 5, 6] (by kernel_rfl) (by kernel_rfl) ht39 h39.fr.defers rfl, (h39.sh.sel (L' := [.own 3 pr7005, .own 3 wd7005, .blk b10 28 [.int .i64 ((checkG (pgOf code words0 ((Lk : Nat) : Int) ((R : Nat) : Int))).code), .int .i64 ((checkG (pgOf code words0 ((Lk : Nat) : Int) ((R : Nat) : Int))).thread), .int .i64 ((checkG (pgOf code words0 ((Lk : Nat) : Int) ((R : Nat) : Int))).at_)], .blk b5 28 [.int .i64 0, .int .i64 0, .int .i64 0], .blk b4 49 [pr7005.v, .int .i64 st7005, wd7005.v, .int .i64 ((sn7005 : Nat) : Int)], .blk b3 25 [code.v, words0.v, .int .i64 ((Lk : Nat) : Int), .int .i64 ((R : Nat) : Int)], .at_ words0]) [0, 1, 2, 3, 4, 5, 6] (by decide) ⟨rfl, rfl, rfl, rfl, rfl, rfl, rfl, trivial⟩)⟩))))
   ·exact no_way ν7 hSi
   ·exact no_way ν7 hSi
  ·obtain rfl : _ = o := Option.some.inj ho
   have hd6 : S 6 = true := depAt hdep 0 rfl rfl
   have hd7 : S 7 = true := depAt hdep 1 rfl rfl
   have hd2 : S 2 = true := depAt hdep 4 rfl rfl
   have hd5 : S 5 = true := depAt hdep 7 rfl rfl
   rcases hI with ⟨ν2, _⟩ | ⟨_, ν5, _⟩ | ⟨_, _, ν7, _⟩ | ⟨ν2, ν5, ν7, ν8, g7002, mw7002, mo7002, pr7005, wd7005, st7005, sn7005, hmw7002, hmo7002, hrun7005, φ, ς⟩ | ⟨_, _, _, ν8, _⟩
   ·exact no_way hd2 ν2
   ·exact no_way hd5 ν5
   ·exact no_way hd7 ν7
   ·have hs := St.mk (Fr.cons φ.fr0 (φ.at_ 3 6 20 _ rfl hd6)) ς
    refine step_ex (x_stb (i := 3) (vs := [.int .i64 0, .int .i64 0, .int .i64 0]) (cs' := [.int .i64 0, .int .i64 0, .int .i64 0]) hs ti_28 rfl rfl rfl rfl rfl rfl rfl (allOne_cons rfl (allOne_cons rfl (allOne_cons rfl allOne_nil))) (Nat.le_of_ble_eq_true rfl) rfl) (wanted_none rfl _) ?_
    rintro a40 w40 h40 ⟨v0, ht40⟩
    exact Or.inr (Or.inr (Or.inr (Or.inr (⟨un rfl ν2, un rfl ν5, un rfl ν7, upd_self _ _, g7002, mw7002, mo7002, pr7005, wd7005, st7005, sn7005, hmw7002, hmo7002, hrun7005, φ.noneW hcl hSi [0, 1, 2, 3, 4, 5, 6] (by kernel_rfl) (by kernel_rfl) ht40 h40.fr.defers rfl, (h40.sh.sel (L' := [.own 3 pr7005, .own 3 wd7005, .blk b10 28 [.int .i64 ((checkG (pgOf code words0 ((Lk : Nat) : Int) ((R : Nat) : Int))).code), .int .i64 ((checkG (pgOf code words0 ((Lk : Nat) : Int) ((R : Nat) : Int))).thread), .int .i64 ((checkG (pgOf code words0 ((Lk : Nat) : Int) ((R : Nat) : Int))).at_)], .blk b5 28 [.int .i64 0, .int .i64 0, .int .i64 0], .blk b4 49 [pr7005.v, .int .i64 st7005, wd7005.v, .int .i64 ((sn7005 : Nat) : Int)], .blk b3 25 [code.v, words0.v, .int .i64 ((Lk : Nat) : Int), .int .i64 ((R : Nat) : Int)], .at_ words0]) [0, 1, 2, 3, 4, 5, 6] (by decide) ⟨rfl, rfl, rfl, rfl, rfl, rfl, rfl, trivial⟩)⟩))))
   ·exact no_way ν8 hSi
  · simp at ho
 intro S hall a w hI
 clear h17
 rcases hI with ⟨ν2, ν5, ν7, ν8, φ, ς⟩ | ⟨ν2, ν5, ν7, ν8, g7002, mw7002, mo7002, hmw7002, hmo7002, φ, ς⟩ | ⟨ν2, ν5, ν7, ν8, g7002, mw7002, mo7002, pr7005, wd7005, st7005, sn7005, hmw7002, hmo7002, hrun7005, φ, ς⟩ | ⟨ν2, ν5, ν7, ν8, g7002, mw7002, mo7002, pr7005, wd7005, st7005, sn7005, hmw7002, hmo7002, hrun7005, φ, ς⟩ | ⟨ν2, ν5, ν7, ν8, g7002, mw7002, mo7002, pr7005, wd7005, st7005, sn7005, hmw7002, hmo7002, hrun7005, φ, ς⟩
 · exact no_way (hall 2 (by decide)) ν2
 · exact no_way (hall 5 (by decide)) ν5
 · exact no_way (hall 7 (by decide)) ν7
 · exact no_way (hall 8 (by decide)) ν8
 have h41 : St 21 (fun _ => False) W a w _ [.own 3 pr7005, .own 3 wd7005, .blk b10 28 [.int .i64 ((checkG (pgOf code words0 ((Lk : Nat) : Int) ((R : Nat) : Int))).code), .int .i64 ((checkG (pgOf code words0 ((Lk : Nat) : Int) ((R : Nat) : Int))).thread), .int .i64 ((checkG (pgOf code words0 ((Lk : Nat) : Int) ((R : Nat) : Int))).at_)], .blk b5 28 [.int .i64 0, .int .i64 0, .int .i64 0], .blk b4 49 [pr7005.v, .int .i64 st7005, wd7005.v, .int .i64 ((sn7005 : Nat) : Int)], .blk b3 25 [code.v, words0.v, .int .i64 ((Lk : Nat) : Int), .int .i64 ((R : Nat) : Int)], .at_ words0] := ⟨φ.fr0, ς⟩
 clear hall φ ς ν2 ν5 ν7 ν8
 refine hK16 _ _ <| wp_ret ?_
 try simp only [Exit.then, Exit.inBlock]
 refine x_ret2c (fn := Try.f31) (t := 4) (t2 := 5) (i := 4) (i2 := 3) ti_49 ti_28 rfl h41 rfl rfl rfl rfl rfl rfl ?_
 exact ⟨pr7005, wd7005, st7005, sn7005, rfl, hrun7005, (h41.sh.sel (L' := [.own 3 pr7005, .own 3 wd7005]) [0, 1] (by decide) ⟨rfl, rfl, trivial⟩)⟩

set_option maxRecDepth 100000 in
set_option maxHeartbeats 4000000 in
theorem scRun_b (code : Ls (Ls Ins)) (words script : Ls Int) (locks regs : Int) (W : World) (hcode : code.At W) (hwords : words.At W) (hscript : script.At W) (hz : (checkG (pgOf code words locks regs)).code ≠ 0) :
    Rets Try.prog 31 [.agg #[code.v, words.v, .int .i64 locks, .int .i64 regs], script.v] W (fun v w' => v = .tuple #[.agg #[.slice none 0 0, .int .i64 0, .slice none 0 0, .int .i64 0], (checkG (pgOf code words locks regs)).val] ∧ Sh0 W w' []) := by
 refine x_enter (N := 21) Try.func31 rfl Try.ntmps31 (Nat.le_of_ble_eq_true rfl) fun a1 hf1 => ?_
 have h1 : St 21 (fun _ => False) W a1 W [(0, .agg #[code.v, words.v, .int .i64 locks, .int .i64 regs]), (1, script.v)] [.at_ code, .at_ words, .at_ script] := ⟨hf1.sub ⟨rfl, rfl, trivial⟩, Sh0.ext3 hcode hwords hscript⟩
 clear hf1
 refine wp_seq_k fun K2 hK2 => wp_region_lit <| wl_ex (x_box (cs := [code.v, words.v, .int .i64 locks, .int .i64 regs]) h1 rfl rfl rfl rfl rfl) (wanted_none rfl _) ?_
 rintro a3 w3 ⟨b3, h3⟩; clear h1
 refine wl_ex (x_alloc h3 ti_49 rfl rfl rfl) (wanted_none rfl _) ?_
 rintro a4 w4 ⟨b4, h4⟩; clear h3
 refine wl_ex (x_alloc h4 ti_28 rfl rfl rfl) (wanted_none rfl _) ?_
 rintro a5 w5 ⟨b5, h5⟩; clear h4
 refine wpList_nil <| hK2 _ _ <| wp_seq_k fun K6 hK6 => wp_seq_k fun K7 hK7 => wp_region_lit <| wv h5 (r_ldbw (i := 2) (vs := [code.v, words.v, .int .i64 locks, .int .i64 regs]) ti_25 rfl rfl rfl rfl rfl) rfl rfl fun a8 h8 => wl_ex (x_call h8 bd_46 rfl rfl rfl rfl rfl (asmCheck_c (code := code) (words := words) (locks := locks) (regs := regs) (h8.sh.at 3 rfl) (h8.sh.at 4 rfl))) (wanted_none rfl _) ?_; clear h5
 rintro a9 w9 ⟨_, ⟨rfl, hs9⟩, hf9⟩
 have h9 : St 21 (fun _ => False) W a9 w9 _ _ := ⟨hf9, h8.sh.call0 hs9⟩
 clear hf9 hs9
 clear h8
 refine wl_ex (x_alloc h9 ti_28 rfl rfl rfl) (wanted_none rfl _) ?_
 rintro a10 w10 ⟨b10, h10⟩; clear h9
 refine wl_ex (x_stb (i := 0) (vs := [.int .i64 ((checkG (pgOf code words locks regs)).code), .int .i64 ((checkG (pgOf code words locks regs)).thread), .int .i64 ((checkG (pgOf code words locks regs)).at_)]) (cs' := [.int .i64 ((checkG (pgOf code words locks regs)).code), .int .i64 ((checkG (pgOf code words locks regs)).thread), .int .i64 ((checkG (pgOf code words locks regs)).at_)]) h10 ti_28 rfl rfl rfl rfl rfl rfl rfl (allOne_cons rfl (allOne_cons rfl (allOne_cons rfl allOne_nil))) (Nat.le_of_ble_eq_true rfl) rfl) (wanted_none rfl _) ?_
 rintro a11 w11 h11
 clear h10
 refine wpList_nil <| hK7 _ _ <| wp_seq_k fun K12 hK12 => wp_region_lit <| wv h11 (r_fieldB (r := 0) fl_28_0 rfl rfl rfl) rfl rfl fun a13 h13 => wv h13 (r_ldb (i := 0) ti_26 rfl rfl rfl rfl) rfl rfl fun a14 h14 => wv h14 (r_neqI (p := (checkG (pgOf code words locks regs)).code) (q := 0) rfl rfl rfl) rfl rfl fun a15 h15 => wpList_nil <| hK12 _ _ <| x_condT h15 rfl (decide_eq_true hz) <| wp_seq_k fun K16 hK16 => ?_; clear h11 h13 h14
 have h17 : St 21 (fun _ => False) W a15 w11 [(0, .agg #[code.v, words.v, .int .i64 locks, .int .i64 regs]), (1, script.v), (2, .pointer (some ⟨b3, 0, none⟩)), (4, .pointer (some ⟨b4, 0, none⟩)), (5, .pointer (some ⟨b5, 0, none⟩)), (6, .pointer (some ⟨b10, 0, none⟩)), (7, .agg #[code.v, words.v, .int .i64 locks, .int .i64 regs]), (8, .agg #[.int .i64 ((checkG (pgOf code words locks regs)).code), .int .i64 ((checkG (pgOf code words locks regs)).thread), .int .i64 ((checkG (pgOf code words locks regs)).at_)]), (9, .pointer (some ⟨b10, 0, none⟩)), (10, .int .i64 ((checkG (pgOf code words locks regs)).code)), (11, .bool (decide ((checkG (pgOf code words locks regs)).code ≠ 0)))] [.blk b10 28 [.int .i64 ((checkG (pgOf code words locks regs)).code), .int .i64 ((checkG (pgOf code words locks regs)).thread), .int .i64 ((checkG (pgOf code words locks regs)).at_)], .blk b5 28 [.int .i64 0, .int .i64 0, .int .i64 0], .blk b4 49 [(.slice none 0 0), .int .i64 0, (.slice none 0 0), .int .i64 0], .blk b3 25 [code.v, words.v, .int .i64 locks, .int .i64 regs], .at_ code, .at_ words, .at_ script] := h15.nrm ⟨rfl, rfl, rfl, rfl, rfl, rfl, rfl, rfl, rfl, rfl, rfl, trivial⟩ [0, 1, 2, 3, 4, 5, 6] (by decide) ⟨rfl, rfl, rfl, rfl, rfl, rfl, rfl, trivial⟩
 clear h15
 refine x_any ((fun Φ Ψ S a w => (S 2 = false ∧ S 3 = false ∧ FrI 21 S Φ Ψ a ∧ Sh (fun _ => False) W w [.blk b10 28 [.int .i64 ((checkG (pgOf code words locks regs)).code), .int .i64 ((checkG (pgOf code words locks regs)).thread), .int .i64 ((checkG (pgOf code words locks regs)).at_)], .blk b5 28 [.int .i64 0, .int .i64 0, .int .i64 0], .blk b4 49 [(.slice none 0 0), .int .i64 0, (.slice none 0 0), .int .i64 0], .blk b3 25 [code.v, words.v, .int .i64 locks, .int .i64 regs], .at_ code, .at_ words, .at_ script]) ∨ (S 2 = true ∧ S 3 = false ∧ FrI 21 S Φ Ψ a ∧ Sh (fun _ => False) W w [.blk b10 28 [.int .i64 ((checkG (pgOf code words locks regs)).code), .int .i64 ((checkG (pgOf code words locks regs)).thread), .int .i64 ((checkG (pgOf code words locks regs)).at_)], .blk b5 28 [.int .i64 0, .int .i64 0, .int .i64 0], .blk b4 49 [(.slice none 0 0), .int .i64 0, (.slice none 0 0), .int .i64 0], .blk b3 25 [code.v, words.v, .int .i64 locks, .int .i64 regs], .at_ code, .at_ words, .at_ script]) ∨ (S 2 = true ∧ S 3 = true ∧ FrI 21 S Φ Ψ a ∧ Sh (fun _ => False) W w [.blk b10 28 [.int .i64 ((checkG (pgOf code words locks regs)).code), .int .i64 ((checkG (pgOf code words locks regs)).thread), .int .i64 ((checkG (pgOf code words locks regs)).at_)], .blk b5 28 [.int .i64 ((checkG (pgOf code words locks regs)).code), .int .i64 ((checkG (pgOf code words locks regs)).thread), .int .i64 ((checkG (pgOf code words locks regs)).at_)], .blk b4 49 [(.slice none 0 0), .int .i64 0, (.slice none 0 0), .int .i64 0], .blk b3 25 [code.v, words.v, .int .i64 locks, .int .i64 regs], .at_ code, .at_ words, .at_ script])) [(0, .agg #[code.v, words.v, .int .i64 locks, .int .i64 regs]), (1, script.v), (2, .pointer (some ⟨b3, 0, none⟩)), (4, .pointer (some ⟨b4, 0, none⟩)), (5, .pointer (some ⟨b5, 0, none⟩)), (6, .pointer (some ⟨b10, 0, none⟩)), (7, .agg #[code.v, words.v, .int .i64 locks, .int .i64 regs]), (8, .agg #[.int .i64 ((checkG (pgOf code words locks regs)).code), .int .i64 ((checkG (pgOf code words locks regs)).thread), .int .i64 ((checkG (pgOf code words locks regs)).at_)]), (9, .pointer (some ⟨b10, 0, none⟩)), (10, .int .i64 ((checkG (pgOf code words locks regs)).code)), (11, .bool (decide ((checkG (pgOf code words locks regs)).code ≠ 0)))] [(0, 12, .agg #[(.slice none 0 0), .int .i64 0, (.slice none 0 0), .int .i64 0]), (1, 13, .agg #[.int .i64 ((checkG (pgOf code words locks regs)).code), .int .i64 ((checkG (pgOf code words locks regs)).thread), .int .i64 ((checkG (pgOf code words locks regs)).at_)])]) (by kernel_rfl) (by kernel_rfl) (Or.inl (⟨rfl, rfl, FrI.start h17.fr, h17.sh.drew⟩)) ?_ ?_
 ·intro S i o ho hSi hcl hdep a w hI
  clear h17
  rcases i with _ | _ | _ | _ | i
  ·obtain rfl : _ = o := Option.some.inj ho
   rcases hI with ⟨ν2, ν3, φ, ς⟩ | ⟨ν2, _⟩ | ⟨ν2, _⟩
   ·exact sq φ φ.fr0 ς (r_build (cs := [(.slice none 0 0), .int .i64 0, (.slice none 0 0), .int .i64 0]) rfl rfl (by kernel_rfl)) 0 rfl rfl rfl rfl rfl rfl fun a hg => Or.inl (⟨un rfl ν2, un rfl ν3, hg, ς⟩)
   ·exact no_way (cA hcl 2 0 rfl ν2) hSi
   ·exact no_way (cA hcl 2 0 rfl ν2) hSi
  ·obtain rfl : _ = o := Option.some.inj ho
   rcases hI with ⟨ν2, ν3, φ, ς⟩ | ⟨ν2, ν3, φ, ς⟩ | ⟨_, ν3, _⟩
   ·exact sq φ φ.fr0 ς (r_ldbw (i := 0) (vs := [.int .i64 ((checkG (pgOf code words locks regs)).code), .int .i64 ((checkG (pgOf code words locks regs)).thread), .int .i64 ((checkG (pgOf code words locks regs)).at_)]) ti_28 rfl rfl rfl rfl rfl) 1 rfl rfl rfl rfl rfl rfl fun a hg => Or.inl (⟨un rfl ν2, un rfl ν3, hg, ς⟩)
   ·exact sq φ φ.fr0 ς (r_ldbw (i := 0) (vs := [.int .i64 ((checkG (pgOf code words locks regs)).code), .int .i64 ((checkG (pgOf code words locks regs)).thread), .int .i64 ((checkG (pgOf code words locks regs)).at_)]) ti_28 rfl rfl rfl rfl rfl) 1 rfl rfl rfl rfl rfl rfl fun a hg => Or.inr (Or.inl (⟨un rfl ν2, un rfl ν3, hg, ς⟩))
   ·exact no_way (cA hcl 3 1 rfl ν3) hSi
  ·obtain rfl : _ = o := Option.some.inj ho
   have hd0 : S 0 = true := depAt hdep 0 rfl rfl
   rcases hI with ⟨ν2, ν3, φ, ς⟩ | ⟨ν2, _⟩ | ⟨ν2, _⟩
   ·have hs := St.mk (Fr.cons φ.fr0 (φ.at_ 0 0 12 _ rfl hd0)) ς
    refine step_ex (x_stb (i := 2) (vs := [(.slice none 0 0), .int .i64 0, (.slice none 0 0), .int .i64 0]) (cs' := [(.slice none 0 0), .int .i64 0, (.slice none 0 0), .int .i64 0]) hs ti_49 rfl rfl rfl rfl rfl rfl rfl (allOne_cons rfl (allOne_cons rfl (allOne_cons rfl (allOne_cons rfl allOne_nil)))) (Nat.le_of_ble_eq_true rfl) rfl) (wanted_none rfl _) ?_
    rintro a22 w22 h22 ⟨v0, ht22⟩
    exact Or.inr (Or.inl (⟨upd_self _ _, un rfl ν3, φ.noneW hcl hSi [0, 1] (by kernel_rfl) (by kernel_rfl) ht22 h22.fr.defers rfl, (h22.sh.sel (L' := [.blk b10 28 [.int .i64 ((checkG (pgOf code words locks regs)).code), .int .i64 ((checkG (pgOf code words locks regs)).thread), .int .i64 ((checkG (pgOf code words locks regs)).at_)], .blk b5 28 [.int .i64 0, .int .i64 0, .int .i64 0], .blk b4 49 [(.slice none 0 0), .int .i64 0, (.slice none 0 0), .int .i64 0], .blk b3 25 [code.v, words.v, .int .i64 locks, .int .i64 regs], .at_ code, .at_ words, .at_ script]) [0, 1, 2, 3, 4, 5, 6] (by decide) ⟨rfl, rfl, rfl, rfl, rfl, rfl, rfl, trivial⟩)⟩))
   ·exact no_way ν2 hSi
   ·exact no_way ν2 hSi
  ·obtain rfl : _ = o := Option.some.inj ho
   have hd1 : S 1 = true := depAt hdep 0 rfl rfl
   have hd2 : S 2 = true := depAt hdep 1 rfl rfl
   rcases hI with ⟨ν2, _⟩ | ⟨ν2, ν3, φ, ς⟩ | ⟨_, ν3, _⟩
   ·exact no_way hd2 ν2
   ·have hs := St.mk (Fr.cons φ.fr0 (φ.at_ 1 1 13 _ rfl hd1)) ς
    refine step_ex (x_stb (i := 1) (vs := [.int .i64 ((checkG (pgOf code words locks regs)).code), .int .i64 ((checkG (pgOf code words locks regs)).thread), .int .i64 ((checkG (pgOf code words locks regs)).at_)]) (cs' := [.int .i64 ((checkG (pgOf code words locks regs)).code), .int .i64 ((checkG (pgOf code words locks regs)).thread), .int .i64 ((checkG (pgOf code words locks regs)).at_)]) hs ti_28 rfl rfl rfl rfl rfl rfl rfl (allOne_cons rfl (allOne_cons rfl (allOne_cons rfl allOne_nil))) (Nat.le_of_ble_eq_true rfl) rfl) (wanted_none rfl _) ?_
    rintro a23 w23 h23 ⟨v0, ht23⟩
    exact Or.inr (Or.inr (⟨un rfl ν2, upd_self _ _, φ.noneW hcl hSi [0, 1] (by kernel_rfl) (by kernel_rfl) ht23 h23.fr.defers rfl, (h23.sh.sel (L' := [.blk b10 28 [.int .i64 ((checkG (pgOf code words locks regs)).code), .int .i64 ((checkG (pgOf code words locks regs)).thread), .int .i64 ((checkG (pgOf code words locks regs)).at_)], .blk b5 28 [.int .i64 ((checkG (pgOf code words locks regs)).code), .int .i64 ((checkG (pgOf code words locks regs)).thread), .int .i64 ((checkG (pgOf code words locks regs)).at_)], .blk b4 49 [(.slice none 0 0), .int .i64 0, (.slice none 0 0), .int .i64 0], .blk b3 25 [code.v, words.v, .int .i64 locks, .int .i64 regs], .at_ code, .at_ words, .at_ script]) [0, 1, 2, 3, 4, 5, 6] (by decide) ⟨rfl, rfl, rfl, rfl, rfl, rfl, rfl, trivial⟩)⟩))
   ·exact no_way ν3 hSi
  · simp at ho
 intro S hall a w hI
 clear h17
 rcases hI with ⟨ν2, ν3, φ, ς⟩ | ⟨ν2, ν3, φ, ς⟩ | ⟨ν2, ν3, φ, ς⟩
 · exact no_way (hall 2 (by decide)) ν2
 · exact no_way (hall 3 (by decide)) ν3
 have h24 : St 21 (fun _ => False) W a w _ [.blk b10 28 [.int .i64 ((checkG (pgOf code words locks regs)).code), .int .i64 ((checkG (pgOf code words locks regs)).thread), .int .i64 ((checkG (pgOf code words locks regs)).at_)], .blk b5 28 [.int .i64 ((checkG (pgOf code words locks regs)).code), .int .i64 ((checkG (pgOf code words locks regs)).thread), .int .i64 ((checkG (pgOf code words locks regs)).at_)], .blk b4 49 [(.slice none 0 0), .int .i64 0, (.slice none 0 0), .int .i64 0], .blk b3 25 [code.v, words.v, .int .i64 locks, .int .i64 regs], .at_ code, .at_ words, .at_ script] := ⟨φ.fr0, ς⟩
 clear hall φ ς ν2 ν3
 refine hK16 _ _ <| wp_ret ?_
 try simp only [Exit.then, Exit.inBlock]
 refine x_ret2c (fn := Try.f31) (t := 4) (t2 := 5) (i := 2) (i2 := 1) ti_49 ti_28 rfl h24 rfl rfl rfl rfl rfl rfl ?_
 exact ⟨rfl, (h24.sh.sel [] (by decide) trivial)⟩

end Go.Proofs.Ytfpaahkleienoaa
