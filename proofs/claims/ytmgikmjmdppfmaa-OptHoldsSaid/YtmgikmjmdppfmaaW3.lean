/-
  Numbers put where they always are: the same outcomes. Plain Lean.
-/
import Derived.Test.YtmgikmjmdppfmaaW1
import Derived.Test.YtmgikmjmdppfmaaE6
import Derived.Test.YtmgikmjmdppfmaaX35
import Derived.Test.YtmgikmjmdppfmaaL3
import Derived.Test.YtmgikmjmdppfmaaX10
import Derived.Test.YtmgikmjmdppfmaaX6
import Derived.Test.YtmgikmjmdppfmaaX21
import Derived.Test.YtmgikmjmdppfmaaS11
import Derived.Test.YtmgikmjmdppfmaaL1
section
namespace Go.Proofs.Ytmgikmjmdppfmaa
open Go.RowKit
set_option linter.unusedSimpArgs false
set_option linter.unusedVariables false

/-- Where orders stand. -/
def plB (B : Nat → Ins → List Ins) (c : List Ins) (i : Nat) : Nat := placeL (becL B c) i
section
variable {B : Nat → Ins → List Ins} {c : List Ins} {i : Nat} {y : Ins}
theorem plB_0 : plB B c 0 = 0 := by simp [plB, placeL]
theorem plB_len : (movedL B c).length = plB B c c.length := moved_len B c
theorem plB_gone (h : i < c.length) (hg : B i (nth c i) = []) : plB B c (i + 1) = plB B c i := by
  unfold plB
  rw [place_succ _ _ h, hg]; rfl
theorem plB_kept (h : i < c.length) (hg : B i (nth c i) = [y]) : plB B c (i + 1) = plB B c i + 1 ∧ plB B c i < (movedL B c).length ∧ nth (movedL B c) (plB B c i) = fixMv (becL B c) c i y := by
  have h1 := place_succ B c h
  rw [hg] at h1
  have h2 := moved_at B c (i := i) (k := 0) h (by rw [hg]; simp)
  rw [hg] at h2
  exact ⟨h1, h2.2, h2.1⟩
theorem plB_le (h : i ≤ c.length) : plB B c i ≤ (movedL B c).length := by
  rw [plB_len]; exact place_mono B c h (Nat.le_refl _)
theorem plB_id (hB : ∀ i, (B i (nth c i)).length ≤ 1) : ∀ {i}, i ≤ c.length → plB B c i ≤ i
  | 0, _ => by rw [plB_0]; exact Nat.le_refl _
  | i + 1, h => by
    have h1 := plB_id hB (i := i) (by omega)
    have h2 := hB i
    unfold plB at h1 ⊢
    rw [place_succ _ _ (by omega)]
    omega
theorem plB_next (h : i < c.length) (hg : B i (nth c i) = [y]) : nextIns (movedL B c) ((plB B c i : Nat) : Int) = fixMv (becL B c) c i y := by
  obtain ⟨_, h2, h3⟩ := plB_kept h hg
  rw [nextIns_t (by exact_mod_cast h2)]
  rw [Int.toNat_natCast]; exact h3
theorem fixW_no (h14 : y.op ≠ 14) (h15 : y.op ≠ 15) : fixMv (becL B c) c i y = y := by
  unfold fixMv; rw [if_neg (fun h => h14 h.1), if_neg (fun h => h15 h.1)]
theorem fixW_14 (h14 : y.op = 14) (h : (nth c i).op = 14 ∨ (nth c i).op = 15) : fixMv (becL B c) c i y = { y with a := plB B c y.a.toNat } := by
  unfold fixMv; rw [if_pos ⟨h14, h⟩]; rfl
theorem fixW_15 (h15 : y.op = 15) (h : (nth c i).op = 15) : fixMv (becL B c) c i y = { y with b := plB B c y.b.toNat } := by
  unfold fixMv; rw [if_neg (fun h => by omega), if_pos ⟨h15, h⟩]; rfl
/-- Each that is left stands where one stood. -/
theorem plB_from (hB : ∀ i, (B i (nth c i)).length ≤ 1) : ∀ n, n ≤ c.length → ∀ j, j < plB B c n → ∃ i y, i < n ∧ B i (nth c i) = [y] ∧ plB B c i = j
  | 0, _, j, hj => by rw [plB_0] at hj; omega
  | n + 1, hn, j, hj => by
    have h1 := place_succ B c (show n < c.length by omega)
    have h2 := hB n
    rcases Nat.lt_or_ge j (plB B c n) with h | h
    · obtain ⟨i, y, k1, k2, k3⟩ := plB_from hB n (by omega) j h
      exact ⟨i, y, by omega, k2, k3⟩
    · have h3 : plB B c (n + 1) = plB B c n + (B n (nth c n)).length := h1
      cases hb : B n (nth c n) with
      | nil => rw [hb] at h3; simp at h3; omega
      | cons y r =>
        rw [hb] at h2 h3
        have : r = [] := by simpa using h2
        subst this
        exact ⟨n, y, by omega, hb, by simp at h3; omega⟩
end
-- ---------------------------------------------------------------- one order, of two views that differ in registers
structure SameB (a b : TS) : Prop where
  w : b.words = a.words
  o : b.owner = a.owner
  p : b.prints = a.prints
  wt : b.wait = a.wait
  f : b.fell = a.fell
section
variable {x : Ins}
theorem rd_1W (h : x.op = 2 ∨ x.op = 9 ∨ x.op = 10) : rdG x = [x.b] := by unfold rdG; rw [if_pos h]
theorem rd_2W (h : (3 ≤ x.op ∧ x.op ≤ 7) ∨ x.op = 13) : rdG x = [x.b, x.c] := by unfold rdG; rw [if_neg (by omega), if_pos h]
theorem rd_3W (h : x.op = 11) : rdG x = [x.a, x.b] := by unfold rdG; rw [if_neg (by omega), if_neg (by omega), if_pos h]
theorem rd_4W (h : x.op = 15 ∨ x.op = 16) : rdG x = [x.a] := by unfold rdG; rw [if_neg (by omega), if_neg (by omega), if_neg (by omega), if_pos h]
theorem wr_aW (h : x.op ≤ 8 ∨ x.op = 10) : wrG x = x.a := by unfold wrG; rw [if_neg (by omega), if_pos h]
theorem wr_bW (h : x.op = 13) : wrG x = x.b := by unfold wrG; rw [if_pos h]
theorem wr_nW (h : x.op = 9 ∨ x.op = 11 ∨ x.op = 12 ∨ 14 ≤ x.op) : wrG x = -1 := by unfold wrG; rw [if_neg (by omega), if_neg (by omega)]
end
section
variable {m : Int} {n : Nat} {i : Ins} {a b : TS}
theorem SameB.put (h : SameB a b) (k k' v v' : Int) : SameB (a.put k v) (b.put k' v') := ⟨h.w, h.o, h.p, h.wt, h.f⟩
theorem SameB.falls (h : SameB a b) : SameB { a with fell := true } { b with fell := true } := ⟨h.w, h.o, h.p, h.wt, rfl⟩
theorem SameB.finds (h : SameB a b) (w : Int) : b.finds w = a.finds w := by unfold TS.finds; rw [h.w, h.wt]
theorem store_regs (m : Int) (x : TS) (w : Wt) : (x.store m w).regs = x.regs := by unfold TS.store; split <;> rfl
theorem SameB.store (h : SameB a b) (w : Wt) : SameB (a.store m w) (b.store m w) := by
  unfold TS.store
  split
  · exact ⟨h.w, h.o, h.p, by show b.wait ++ _ = a.wait ++ _; rw [h.wt], h.f⟩
  · unfold TS.done
    exact ⟨by show (if _ then _ else _) = (if _ then _ else _); rw [h.w], by show (if _ then _ else _) = (if _ then _ else _); rw [h.o], h.p, h.wt, h.f⟩
/-- What an order makes of registers: nothing, or one is written alike. -/
def RegQ (i : Ins) (a b X Y : TS) : Prop := (X.regs = a.regs ∧ Y.regs = b.regs ∧ (wrG i = -1 ∨ X.fell = true)) ∨ ∃ v, (i.op ≤ 8 ∨ i.op = 10 ∨ i.op = 13) ∧ X.regs = a.regs.set (wrG i).toNat v ∧ Y.regs = b.regs.set (wrG i).toNat v
theorem exQ (h14 : i.op ≠ 14) (h15 : i.op ≠ 15) (hop : 1 ≤ i.op ∧ i.op ≤ 18) (hs : SameB a b) (hr : ∀ v ∈ rdG i, b.reg v = a.reg v) :
    SameB (execT m n i a) (execT m n i b) ∧ RegQ i a b (execT m n i a) (execT m n i b) := by
  unfold RegQ
  by_cases e1 : i.op = 1
  · rw [execT_1 e1, execT_1 e1]; exact ⟨hs.put _ _ _ _, .inr ⟨i.b, by omega, by rw [wr_aW (by omega)]; rfl, by rw [wr_aW (by omega)]; rfl⟩⟩
  by_cases e2 : i.op = 2
  · rw [execT_2 e2, execT_2 e2, hr _ (by rw [rd_1W (by omega)]; simp)]; exact ⟨hs.put _ _ _ _, .inr ⟨_, by omega, by rw [wr_aW (by omega)]; rfl, by rw [wr_aW (by omega)]; rfl⟩⟩
  by_cases e3 : i.op = 3
  · rw [execT_3 e3, execT_3 e3, hr _ (by rw [rd_2W (by omega)]; simp), hr i.c (by rw [rd_2W (by omega)]; simp)]; exact ⟨hs.put _ _ _ _, .inr ⟨_, by omega, by rw [wr_aW (by omega)]; rfl, by rw [wr_aW (by omega)]; rfl⟩⟩
  by_cases e4 : i.op = 4
  · rw [execT_4 e4, execT_4 e4, hr _ (by rw [rd_2W (by omega)]; simp), hr i.c (by rw [rd_2W (by omega)]; simp)]; exact ⟨hs.put _ _ _ _, .inr ⟨_, by omega, by rw [wr_aW (by omega)]; rfl, by rw [wr_aW (by omega)]; rfl⟩⟩
  by_cases e5 : i.op = 5
  · rw [execT_5 e5, execT_5 e5, hr _ (by rw [rd_2W (by omega)]; simp), hr i.c (by rw [rd_2W (by omega)]; simp)]; exact ⟨hs.put _ _ _ _, .inr ⟨_, by omega, by rw [wr_aW (by omega)]; rfl, by rw [wr_aW (by omega)]; rfl⟩⟩
  by_cases e6 : i.op = 6
  · rw [execT_6 e6, execT_6 e6, hr _ (by rw [rd_2W (by omega)]; simp), hr i.c (by rw [rd_2W (by omega)]; simp)]; exact ⟨hs.put _ _ _ _, .inr ⟨_, by omega, by rw [wr_aW (by omega)]; rfl, by rw [wr_aW (by omega)]; rfl⟩⟩
  by_cases e7 : i.op = 7
  · rw [execT_7 e7, execT_7 e7, hr _ (by rw [rd_2W (by omega)]; simp), hr i.c (by rw [rd_2W (by omega)]; simp)]; exact ⟨hs.put _ _ _ _, .inr ⟨_, by omega, by rw [wr_aW (by omega)]; rfl, by rw [wr_aW (by omega)]; rfl⟩⟩
  by_cases e8 : i.op = 8
  · rw [execT_8 e8, execT_8 e8, hs.finds]; exact ⟨hs.put _ _ _ _, .inr ⟨_, by omega, by rw [wr_aW (by omega)]; rfl, by rw [wr_aW (by omega)]; rfl⟩⟩
  by_cases e9 : i.op = 9
  · rw [execT_9 e9, execT_9 e9, hr _ (by rw [rd_1W (by omega)]; simp)]; exact ⟨hs.store _, .inl ⟨store_regs _ _ _, store_regs _ _ _, .inl (wr_nW (by omega))⟩⟩
  by_cases e10 : i.op = 10
  · have e := hr i.b (by rw [rd_1W (by omega)]; simp)
    by_cases hw : 0 ≤ a.reg i.b ∧ a.reg i.b < (a.words.length : Int)
    · rw [execT_10t e10 hw, execT_10t (x := b) e10 (by rw [e, hs.w]; exact hw), e, hs.finds]; exact ⟨hs.put _ _ _ _, .inr ⟨_, by omega, by rw [wr_aW (by omega)]; rfl, by rw [wr_aW (by omega)]; rfl⟩⟩
    · rw [execT_10f e10 hw, execT_10f (x := b) e10 (by rw [e, hs.w]; exact hw)]; exact ⟨hs.falls, .inl ⟨rfl, rfl, .inr rfl⟩⟩
  by_cases e11 : i.op = 11
  · have e := hr i.a (by rw [rd_3W (by omega)]; simp)
    have e' := hr i.b (by rw [rd_3W (by omega)]; simp)
    by_cases hw : 0 ≤ a.reg i.a ∧ a.reg i.a < (a.words.length : Int)
    · rw [execT_11t e11 hw, execT_11t (x := b) e11 (by rw [e, hs.w]; exact hw), e, e']; exact ⟨hs.store _, .inl ⟨store_regs _ _ _, store_regs _ _ _, .inl (wr_nW (by omega))⟩⟩
    · rw [execT_11f e11 hw, execT_11f (x := b) e11 (by rw [e, hs.w]; exact hw)]; exact ⟨hs.falls, .inl ⟨rfl, rfl, .inr rfl⟩⟩
  by_cases e13 : i.op = 13
  · have e := hr i.b (by rw [rd_2W (by omega)]; simp)
    have e' := hr i.c (by rw [rd_2W (by omega)]; simp)
    by_cases hw : nth a.words i.a.toNat = a.reg i.b
    · rw [execT_13t e13 hw, execT_13t (x := b) e13 (by rw [e, hs.w]; exact hw)]
      exact ⟨⟨by show b.words.set _ _ = a.words.set _ _; rw [hs.w, e'], hs.o, hs.p, hs.wt, hs.f⟩, .inr ⟨1, by omega, by rw [wr_bW e13], by rw [wr_bW e13]⟩⟩
    · rw [execT_13f e13 hw, execT_13f (x := b) e13 (by rw [e, hs.w]; exact hw)]
      exact ⟨hs.put _ _ _ _, .inr ⟨0, by omega, by rw [wr_bW e13]; rfl, by rw [wr_bW e13]; rfl⟩⟩
  by_cases e16 : i.op = 16
  · rw [execT_16 e16, execT_16 e16, hr _ (by rw [rd_4W (by omega)]; simp)]
    exact ⟨⟨hs.w, hs.o, by show b.prints ++ _ = a.prints ++ _; rw [hs.p], hs.wt, hs.f⟩, .inl ⟨rfl, rfl, .inl (wr_nW (by omega))⟩⟩
  by_cases e17 : i.op = 17
  · rw [execT_17 e17, execT_17 e17]
    exact ⟨⟨hs.w, by show b.owner.set _ _ = a.owner.set _ _; rw [hs.o], hs.p, hs.wt, hs.f⟩, .inl ⟨rfl, rfl, .inl (wr_nW (by omega))⟩⟩
  by_cases e18 : i.op = 18
  · by_cases hw : nth a.owner i.a.toNat ≠ n
    · rw [execT_18a e18 hw, execT_18a (x := b) e18 (by rw [hs.o]; exact hw)]; exact ⟨hs.falls, .inl ⟨rfl, rfl, .inr rfl⟩⟩
    · have hw' : ¬ nth b.owner i.a.toNat ≠ n := by rw [hs.o]; exact hw
      by_cases hh : ∃ j, j < a.wait.length ∧ (nth a.wait j).lock = true ∧ (nth a.wait j).wh = i.a
      · obtain ⟨j, hj, h1, h2⟩ := hh
        rw [execT_18b e18 hw j hj h1 h2, execT_18b (x := b) e18 hw' j (by rw [hs.wt]; exact hj) (by rw [hs.wt]; exact h1) (by rw [hs.wt]; exact h2)]
        exact ⟨hs.falls, .inl ⟨rfl, rfl, .inr rfl⟩⟩
      · rw [execT_18c e18 hw (fun q hq hc => hh ⟨q, hq, hc⟩), execT_18c (x := b) e18 hw' (fun q hq hc => hh ⟨q, by rw [← hs.wt]; exact hq, by rw [← hs.wt]; exact hc⟩)]
        exact ⟨hs.store _, .inl ⟨store_regs _ _ _, store_regs _ _ _, .inl (wr_nW (by omega))⟩⟩
  have e12 : i.op = 12 := by omega
  rw [execT_no ⟨e1, e2, e3, e4, e5, e6, e7, e8, e9, e10, e11, e13, h14, h15, e16, e17, e18⟩, execT_no ⟨e1, e2, e3, e4, e5, e6, e7, e8, e9, e10, e11, e13, h14, h15, e16, e17, e18⟩]
  exact ⟨hs, .inl ⟨rfl, rfl, .inl (wr_nW (by omega))⟩⟩
end
/-- What is reckoned. -/
def valI (i : Ins) (r : List Int) : Int := if i.op = 1 then i.b else if i.op = 2 then nth r i.b.toNat else arV i.op (nth r i.b.toNat) (nth r i.c.toNat)
theorem exV {m : Int} {n : Nat} {i : Ins} {a : TS} (h : 1 ≤ i.op ∧ i.op ≤ 7) : execT m n i a = a.put i.a (valI i a.regs) := by
  unfold valI arV
  by_cases e1 : i.op = 1
  · rw [execT_1 e1, if_pos e1]
  by_cases e2 : i.op = 2
  · rw [execT_2 e2, if_neg e1, if_pos e2]; rfl
  rw [if_neg e1, if_neg e2]
  by_cases e3 : i.op = 3
  · rw [execT_3 e3, if_pos e3]; rfl
  by_cases e4 : i.op = 4
  · rw [execT_4 e4, if_neg e3, if_pos e4]; rfl
  by_cases e5 : i.op = 5
  · rw [execT_5 e5, if_neg e3, if_neg e4, if_pos e5]; rfl
  rw [if_neg e3, if_neg e4, if_neg e5]
  by_cases e6 : i.op = 6
  · rw [execT_6 e6, if_pos e6]
    congr 1
    unfold bit
    by_cases h9 : a.reg i.b < a.reg i.c
    · rw [decide_eq_true h9, if_pos rfl]; exact (if_pos h9).symm
    · rw [decide_eq_false h9, if_neg (by decide)]; exact (if_neg h9).symm
  · rw [execT_7 (by omega), if_neg e6]
    congr 1
    unfold bit
    by_cases h9 : a.reg i.b = a.reg i.c
    · rw [decide_eq_true h9, if_pos rfl]; exact (if_pos h9).symm
    · rw [decide_eq_false h9, if_neg (by decide)]; exact (if_neg h9).symm
theorem okvP {p : Pg} (hok : OkPg p) {t : Nat} (ht : t < p.code.length) : OkV (nth p.code t) ((p.regs.toNat : Nat) : Int) := by
  intro i hi
  have h := okV_ins hok.regs.1 (hok.ins t i ht hi)
  have hr := hok.regs
  rw [Int.toNat_of_nonneg (by omega)]; exact h
theorem jmpP {p : Pg} (hok : OkPg p) {t : Nat} (ht : t < p.code.length) : JumpsOK (nth p.code t) := fun i hi => (hok.insR ht hi).2
end Go.Proofs.Ytmgikmjmdppfmaa
end
section
section
namespace Go.Proofs.Ytmgikmjmdppfmaa
open Go.RowKit
set_option linter.unusedSimpArgs false
set_option linter.unusedVariables false

theorem kind_key {op : Int} (b : ByteArray) (e : kindsB op = b) (h : ∀ (k : Nat) (hk : k < b.size), ((b[k]).toNat : Int) ≠ 99) (k : Nat) (hk : k < (kindsB op).size) : (((kindsB op)[k]).toNat : Int) ≠ 99 := by
  subst e; exact h k hk
theorem kind_c {op : Int} (h14 : op ≠ 14) (h15 : op ≠ 15) (k : Nat) (hk : k < (kindsB op).size) : (((kindsB op)[k]).toNat : Int) ≠ 99 := by
  by_cases hop : 1 ≤ op ∧ op ≤ 18
  · rcases cases18 op hop with rfl | rfl | rfl | rfl | rfl | rfl | rfl | rfl | rfl | rfl | rfl | rfl | rfl | rfl | rfl | rfl | rfl | rfl
    · refine kind_key ⟨#[114, 110]⟩ (by unfold kindsB; simp) (fun k hk => ?_) k hk
      rcases k with _ | _ | k
      · show ((114 : UInt8).toNat : Int) ≠ 99; decide
      · show ((110 : UInt8).toNat : Int) ≠ 99; decide
      · exact absurd hk (by show ¬ (k + 2 < 2); omega)
    · refine kind_key ⟨#[114, 114]⟩ (by unfold kindsB; simp) (fun k hk => ?_) k hk
      rcases k with _ | _ | k
      · show ((114 : UInt8).toNat : Int) ≠ 99; decide
      · show ((114 : UInt8).toNat : Int) ≠ 99; decide
      · exact absurd hk (by show ¬ (k + 2 < 2); omega)
    · refine kind_key ⟨#[114, 114, 114]⟩ (by unfold kindsB; simp) (fun k hk => ?_) k hk
      rcases k with _ | _ | _ | k
      · show ((114 : UInt8).toNat : Int) ≠ 99; decide
      · show ((114 : UInt8).toNat : Int) ≠ 99; decide
      · show ((114 : UInt8).toNat : Int) ≠ 99; decide
      · exact absurd hk (by show ¬ (k + 3 < 3); omega)
    · refine kind_key ⟨#[114, 114, 114]⟩ (by unfold kindsB; simp) (fun k hk => ?_) k hk
      rcases k with _ | _ | _ | k
      · show ((114 : UInt8).toNat : Int) ≠ 99; decide
      · show ((114 : UInt8).toNat : Int) ≠ 99; decide
      · show ((114 : UInt8).toNat : Int) ≠ 99; decide
      · exact absurd hk (by show ¬ (k + 3 < 3); omega)
    · refine kind_key ⟨#[114, 114, 114]⟩ (by unfold kindsB; simp) (fun k hk => ?_) k hk
      rcases k with _ | _ | _ | k
      · show ((114 : UInt8).toNat : Int) ≠ 99; decide
      · show ((114 : UInt8).toNat : Int) ≠ 99; decide
      · show ((114 : UInt8).toNat : Int) ≠ 99; decide
      · exact absurd hk (by show ¬ (k + 3 < 3); omega)
    · refine kind_key ⟨#[114, 114, 114]⟩ (by unfold kindsB; simp) (fun k hk => ?_) k hk
      rcases k with _ | _ | _ | k
      · show ((114 : UInt8).toNat : Int) ≠ 99; decide
      · show ((114 : UInt8).toNat : Int) ≠ 99; decide
      · show ((114 : UInt8).toNat : Int) ≠ 99; decide
      · exact absurd hk (by show ¬ (k + 3 < 3); omega)
    · refine kind_key ⟨#[114, 114, 114]⟩ (by unfold kindsB; simp) (fun k hk => ?_) k hk
      rcases k with _ | _ | _ | k
      · show ((114 : UInt8).toNat : Int) ≠ 99; decide
      · show ((114 : UInt8).toNat : Int) ≠ 99; decide
      · show ((114 : UInt8).toNat : Int) ≠ 99; decide
      · exact absurd hk (by show ¬ (k + 3 < 3); omega)
    · refine kind_key ⟨#[114, 119]⟩ (by unfold kindsB; simp) (fun k hk => ?_) k hk
      rcases k with _ | _ | k
      · show ((114 : UInt8).toNat : Int) ≠ 99; decide
      · show ((119 : UInt8).toNat : Int) ≠ 99; decide
      · exact absurd hk (by show ¬ (k + 2 < 2); omega)
    · refine kind_key ⟨#[119, 114]⟩ (by unfold kindsB; simp) (fun k hk => ?_) k hk
      rcases k with _ | _ | k
      · show ((119 : UInt8).toNat : Int) ≠ 99; decide
      · show ((114 : UInt8).toNat : Int) ≠ 99; decide
      · exact absurd hk (by show ¬ (k + 2 < 2); omega)
    · refine kind_key ⟨#[114, 114]⟩ (by unfold kindsB; simp) (fun k hk => ?_) k hk
      rcases k with _ | _ | k
      · show ((114 : UInt8).toNat : Int) ≠ 99; decide
      · show ((114 : UInt8).toNat : Int) ≠ 99; decide
      · exact absurd hk (by show ¬ (k + 2 < 2); omega)
    · refine kind_key ⟨#[114, 114]⟩ (by unfold kindsB; simp) (fun k hk => ?_) k hk
      rcases k with _ | _ | k
      · show ((114 : UInt8).toNat : Int) ≠ 99; decide
      · show ((114 : UInt8).toNat : Int) ≠ 99; decide
      · exact absurd hk (by show ¬ (k + 2 < 2); omega)
    · refine kind_key ⟨#[]⟩ (by unfold kindsB; simp) (fun k hk => ?_) k hk
      · exact absurd hk (by show ¬ (k < 0); omega)
    · refine kind_key ⟨#[119, 114, 114]⟩ (by unfold kindsB; simp) (fun k hk => ?_) k hk
      rcases k with _ | _ | _ | k
      · show ((119 : UInt8).toNat : Int) ≠ 99; decide
      · show ((114 : UInt8).toNat : Int) ≠ 99; decide
      · show ((114 : UInt8).toNat : Int) ≠ 99; decide
      · exact absurd hk (by show ¬ (k + 3 < 3); omega)
    · exact absurd rfl h14
    · exact absurd rfl h15
    · refine kind_key ⟨#[114]⟩ (by unfold kindsB; simp) (fun k hk => ?_) k hk
      rcases k with _ | k
      · show ((114 : UInt8).toNat : Int) ≠ 99; decide
      · exact absurd hk (by show ¬ (k + 1 < 1); omega)
    · refine kind_key ⟨#[108]⟩ (by unfold kindsB; simp) (fun k hk => ?_) k hk
      rcases k with _ | k
      · show ((108 : UInt8).toNat : Int) ≠ 99; decide
      · exact absurd hk (by show ¬ (k + 1 < 1); omega)
    · refine kind_key ⟨#[108]⟩ (by unfold kindsB; simp) (fun k hk => ?_) k hk
      rcases k with _ | k
      · show ((108 : UInt8).toNat : Int) ≠ 99; decide
      · exact absurd hk (by show ¬ (k + 1 < 1); omega)
  · refine kind_key ⟨#[]⟩ (kindsB_none op hop) (fun k hk => ?_) k hk
    exact absurd hk (Nat.not_lt_zero _)
theorem fits_move {p p' : Pg} {size size' kind n : Int} (hr : p'.regs = p.regs) (hw : p'.words.length = p.words.length) (hl : p'.locks = p.locks) (hk : kind ≠ 99) : fitsG p' size' kind n = fitsG p size kind n := by
  unfold fitsG
  rw [hr, hw, hl]
  simp only [hk, if_false]
theorem okNum_move {p p' : Pg} {size size' : Int} {x : Ins} {k : Nat} (hr : p'.regs = p.regs) (hw : p'.words.length = p.words.length) (hl : p'.locks = p.locks) (h14 : x.op ≠ 14) (h15 : x.op ≠ 15) : okNumG p' size' x k = okNumG p size x k := by
  unfold okNumG
  split
  · rename_i h
    exact fits_move hr hw hl (kind_c h14 h15 k h)
  · rfl
theorem OkIns.move {p p' : Pg} {size size' : Int} {x : Ins} (hr : p'.regs = p.regs) (hw : p'.words.length = p.words.length) (hl : p'.locks = p.locks) (h14 : x.op ≠ 14) (h15 : x.op ≠ 15) (h : OkIns p size x) : OkIns p' size' x :=
  ⟨h.op, by rw [okNum_move hr hw hl h14 h15]; exact h.n0, by rw [okNum_move hr hw hl h14 h15]; exact h.n1, by rw [okNum_move hr hw hl h14 h15]; exact h.n2⟩
theorem fit_c_mk {p : Pg} {size n : Int} (hs : 0 ≤ size ∧ size ≤ 100000) (h : 0 ≤ n ∧ n ≤ size) : fitsG p size 99 n = true := by
  unfold fitsG
  simp only [Int.reduceEq, if_false, if_true, Bool.and_eq_true, decide_eq_true_eq]
  rw [IntWalk.wrap64_in _ ⟨by omega, by omega⟩]
  omega
theorem num0_iff {p : Pg} {size : Int} {x : Ins} {b : UInt8} {r : List UInt8} (hk : kindsB x.op = ⟨(b :: r).toArray⟩) : okNumG p size x 0 = fitsG p size (b.toNat : Int) x.a := by
  unfold okNumG
  rw [hk, dif_pos (by simp [ByteArray.size])]; rfl
theorem num1_iff {p : Pg} {size : Int} {x : Ins} {a b : UInt8} {r : List UInt8} (hk : kindsB x.op = ⟨(a :: b :: r).toArray⟩) : okNumG p size x 1 = fitsG p size (b.toNat : Int) x.b := by
  unfold okNumG
  rw [hk, dif_pos (by simp [ByteArray.size])]; rfl
theorem num_no {p : Pg} {size : Int} {x : Ins} {k : Nat} (hk : (kindsB x.op).size ≤ k) : okNumG p size x k = (x.num k == 0) := by
  unfold okNumG
  rw [dif_neg (by omega)]
theorem OkIns.jump {p p' : Pg} {size size' : Int} {x : Ins} {a' : Int} (h14 : x.op = 14) (h : OkIns p size x) (hs : 0 ≤ size' ∧ size' ≤ 100000) (ha : 0 ≤ a' ∧ a' ≤ size') : OkIns p' size' { x with a := a' } := by
  have k : kindsB x.op = ⟨[99].toArray⟩ := by rw [h14]; unfold kindsB; simp
  have k' : kindsB ({ x with a := a' } : Ins).op = ⟨[99].toArray⟩ := k
  have h1 := h.n1
  have h2 := h.n2
  rw [num_no (by rw [k]; decide)] at h1 h2
  refine ⟨h.op, ?_, ?_, ?_⟩
  · rw [num0_iff k']; exact fit_c_mk hs ha
  · rw [num_no (by rw [k']; decide)]; exact h1
  · rw [num_no (by rw [k']; decide)]; exact h2
theorem OkIns.zero {p p' : Pg} {size size' : Int} {x : Ins} {b' : Int} (hr : p'.regs = p.regs) (hw : p'.words.length = p.words.length) (hl : p'.locks = p.locks) (h15 : x.op = 15) (h : OkIns p size x) (hs : 0 ≤ size' ∧ size' ≤ 100000) (hb : 0 ≤ b' ∧ b' ≤ size') : OkIns p' size' { x with b := b' } := by
  have k : kindsB x.op = ⟨[114, 99].toArray⟩ := by rw [h15]; unfold kindsB; simp
  have k' : kindsB ({ x with b := b' } : Ins).op = ⟨[114, 99].toArray⟩ := k
  have h0 := h.n0
  have h2 := h.n2
  rw [num0_iff k] at h0
  rw [num_no (by rw [k]; decide)] at h2
  refine ⟨h.op, ?_, ?_, ?_⟩
  · rw [num0_iff k', fits_move hr hw hl (by decide)]; exact h0
  · rw [num1_iff k']; exact fit_c_mk hs hb
  · rw [num_no (by rw [k']; decide)]; exact h2
end Go.Proofs.Ytmgikmjmdppfmaa
end
namespace Go.Proofs.Ytmgikmjmdppfmaa
open Go.RowKit
set_option linter.unusedSimpArgs false
set_option linter.unusedVariables false

def isSt (op : Int) : Prop := op = 9 ∨ op = 11 ∨ op = 18
section
variable (c : List Ins)
def wF (i : Nat) : Bool := waitsB (nth c i).op
def pF (i : Nat) : Nat := placeL (becL (fenW (wF c)) c) i
end
section
variable {c : List Ins}
end

section
variable {p : Pg}
/-- What a store would do. -/
def pend (i : Ins) (regs : List Int) : Wt := if i.op = 18 then ⟨true, i.a, 0⟩ else if i.op = 9 then ⟨false, i.a, nth regs i.b.toNat⟩ else ⟨false, nth regs i.a.toNat, nth regs i.b.toNat⟩
/-- May it? -/
def pendOK (t : Nat) (i : Ins) (regs : List Int) (W : Nat) (owner : List Int) : Prop := (i.op = 18 → nth owner i.a.toNat = t) ∧ (i.op = 11 → 0 ≤ nth regs i.a.toNat ∧ nth regs i.a.toNat < (W : Int))
end
end Go.Proofs.Ytmgikmjmdppfmaa
end
section
section
namespace Go.Proofs.Ytmgikmjmdppfmaa
open Go.RowKit
set_option linter.unusedSimpArgs false
set_option linter.unusedVariables false


def linkR (nw : Nat) (_ : Nat) (x : Ins) : List Ins :=
  if x.op = 17 then [⟨1, 6, 0, 0⟩, ⟨1, 7, 1, 0⟩, ⟨13, nw + x.a, 6, 7⟩, ⟨15, 6, 0, 0⟩] else if x.op = 18 then [⟨1, 6, 0, 0⟩, ⟨9, nw + x.a, 6, 0⟩] else [x]
end Go.Proofs.Ytmgikmjmdppfmaa
end
namespace Go.Proofs.Ytmgikmjmdppfmaa
open Go.RowKit
set_option linter.unusedSimpArgs false
set_option linter.unusedVariables false

/-! ### Orders -/
section
variable (nw : Nat) (c : List Ins)
def pK (i : Nat) : Nat := placeL (becL (linkR nw) c) i
end
section
variable {nw : Nat} {c : List Ins}
end

/-! ### What a thread sees -/
def lkB (x : Int) : Int := if x = -1 then 0 else 1
def lkW (o : List Int) : List Int := o.map lkB
def lkWt (n : Nat) (w : Wt) : Wt := if w.lock = true then ⟨false, n + w.wh, 0⟩ else w
theorem lkWt_t {n : Nat} {w : Wt} (h : w.lock = true) : lkWt n w = ⟨false, n + w.wh, 0⟩ := by unfold lkWt; rw [if_pos h]
theorem lkWt_f {n : Nat} {w : Wt} (h : w.lock = false) : lkWt n w = w := by unfold lkWt; rw [if_neg (by rw [h]; decide)]
/-- x: of the program with locks; y: of the one with words for them. -/
structure RVk (n R : Nat) (x y : TS) : Prop where
  w : y.words = x.words ++ lkW x.owner
  p : y.prints = x.prints
  wt : y.wait = x.wait.map (lkWt n)
  r : ∀ k, k < R → nth y.regs k = nth x.regs k
  rl : y.regs.length = 8
/-- What a state that may be has. -/
structure XK (n R L : Nat) (x : TS) : Prop where
  r : x.regs.length = R
  w : x.words.length = n
  o : x.owner.length = L
  wt : ∀ v ∈ x.wait, if v.lock = true then 0 ≤ v.wh ∧ v.wh < L else 0 ≤ v.wh ∧ v.wh < n
section
variable {n R L : Nat} {x y : TS} {m : Int} {t : Nat}
theorem RVk.pc (h : RVk n R x y) (u v : Int) : RVk n R { x with pc := u } { y with pc := v } := ⟨h.w, h.p, h.wt, h.r, h.rl⟩
theorem RVk.reg (h : RVk n R x y) {k : Int} (hk : 0 ≤ k ∧ k < R) : y.reg k = x.reg k := h.r _ (by omega)
theorem RVk.put (h : RVk n R x y) (hx : XK n R L x) (hR : R ≤ 6) {k : Int} (hk : 0 ≤ k ∧ k < R) (v : Int) : RVk n R (x.put k v) (y.put k v) := by
  refine ⟨h.w, h.p, h.wt, fun j hj => ?_, by simpa [TS.put] using h.rl⟩
  show nth (y.regs.set k.toNat v) j = nth (x.regs.set k.toNat v) j
  rw [nth_set0, nth_set0, h.rl, hx.r, h.r j hj]
  by_cases e : k.toNat = j
  · rw [if_pos ⟨e, by omega⟩, if_pos ⟨e, by omega⟩]
  · rw [if_neg (fun hh => e hh.1), if_neg (fun hh => e hh.1)]
theorem RVk.len (h : RVk n R x y) (hx : XK n R L x) : y.words.length = n + L := by rw [h.w, List.length_append, hx.w, lkW, List.length_map, hx.o]
theorem RVk.word (h : RVk n R x y) (hx : XK n R L x) {a : Int} (ha : 0 ≤ a ∧ a < n) : nth y.words a.toNat = nth x.words a.toNat := by
  rw [h.w, nth_app0, if_pos (by rw [hx.w]; omega)]
theorem RVk.lock (h : RVk n R x y) (hx : XK n R L x) {a : Int} (ha : 0 ≤ a ∧ a < L) : nth y.words ((n : Int) + a).toNat = lkB (nth x.owner a.toNat) := by
  have e : ((n : Int) + a).toNat = n + a.toNat := by omega
  rw [h.w, nth_app0, if_neg (by rw [hx.w]; omega), hx.w, e, Nat.add_sub_cancel_left]
  exact nth_map' _ _ _ (by rw [hx.o]; omega)
theorem finds_eq {w : Int} (hw : w < n) (ws : List Int) : ∀ l : List Wt, (∀ v ∈ l, v.lock = true → 0 ≤ v.wh) → (match (l.map (lkWt n)).find? (fun x => !x.lock && decide (x.wh = w)) with | some x => x.what | none => nth ws w.toNat) = (match l.find? (fun x => !x.lock && decide (x.wh = w)) with | some x => x.what | none => nth ws w.toNat)
  | [], _ => rfl
  | v :: l, hv => by
    have ih := finds_eq hw ws l fun u hu => hv u (List.mem_cons_of_mem _ hu)
    rw [List.map_cons, List.find?_cons, List.find?_cons]
    cases hl : v.lock with
    | true =>
      have h0 := hv v (List.mem_cons_self ..) hl
      have e1 : (!(lkWt n v).lock && decide ((lkWt n v).wh = w)) = false := by rw [lkWt_t hl]; simp; omega
      have e2 : (!true && decide (v.wh = w)) = false := rfl
      rw [e1, e2]; exact ih
    | false =>
      have e1 : (!(lkWt n v).lock && decide ((lkWt n v).wh = w)) = (!false && decide (v.wh = w)) := by rw [lkWt_f hl, hl]
      rw [e1]
      cases (!false && decide (v.wh = w)) with
      | true => show (lkWt n v).what = v.what; rw [lkWt_f hl]
      | false => exact ih
theorem RVk.finds (h : RVk n R x y) (hx : XK n R L x) {w : Int} (hw : 0 ≤ w ∧ w < n) : y.finds w = x.finds w := by
  unfold TS.finds findsL
  rw [h.wt, ← List.map_reverse, h.word hx hw]
  exact finds_eq hw.2 _ _ fun v hv hl => by
    have := hx.wt v (List.mem_reverse.1 hv)
    rw [if_pos hl] at this; exact this.1
theorem lkW_set {o : List Int} {k : Nat} {v : Int} : lkW (o.set k v) = (lkW o).set k (lkB v) := by unfold lkW; rw [List.map_set]
theorem app_set_l {a b : List Int} {k : Nat} {v : Int} (h : k < a.length) : (a ++ b).set k v = a.set k v ++ b := List.set_append_left k v h
theorem app_set_r {a b : List Int} {k : Nat} {v : Int} : (a ++ b).set (a.length + k) v = a ++ b.set k v := by
  rw [List.set_append_right _ _ (by omega), Nat.add_sub_cancel_left]
theorem RVk.done (h : RVk n R x y) (hx : XK n R L x) {v : Wt} (hv : if v.lock = true then 0 ≤ v.wh ∧ v.wh < L else 0 ≤ v.wh ∧ v.wh < n) : RVk n R (x.done v) (y.done (lkWt n v)) := by
  cases hl : v.lock with
  | true =>
    rw [if_pos hl] at hv
    refine ⟨?_, h.p, h.wt, h.r, h.rl⟩
    rw [lkWt_t hl]
    unfold TS.done
    simp only [hl, if_true, Bool.false_eq_true, if_false]
    rw [lkW_set, h.w, show ((n : Int) + v.wh).toNat = x.words.length + v.wh.toNat by rw [hx.w]; omega, app_set_r]
    rfl
  | false =>
    rw [if_neg (by rw [hl]; decide)] at hv
    refine ⟨?_, h.p, h.wt, h.r, h.rl⟩
    rw [lkWt_f hl]
    unfold TS.done
    simp only [hl, Bool.false_eq_true, if_false]
    rw [h.w, app_set_l (by rw [hx.w]; omega)]
theorem RVk.store (h : RVk n R x y) (hx : XK n R L x) {v : Wt} (hv : if v.lock = true then 0 ≤ v.wh ∧ v.wh < L else 0 ≤ v.wh ∧ v.wh < n) : RVk n R (x.store m v) (y.store m (lkWt n v)) := by
  unfold TS.store
  split
  · refine ⟨h.w, h.p, ?_, h.r, h.rl⟩
    show y.wait ++ [lkWt n v] = (x.wait ++ [v]).map (lkWt n)
    rw [h.wt, List.map_append]; rfl
  · exact h.done hx hv
theorem XK.of {C : Nat} (h : WfS R n L C x) : XK n R L x := ⟨h.regs, h.words, h.owner, h.wt⟩
theorem RVk.able (h : RVk n R x y) {i : Ins} (h7 : i.op ≠ 17) : ableL y.owner y.wait.length i = ableL x.owner x.wait.length i := by
  unfold ableL
  rw [h.wt, List.length_map]
  by_cases h1 : i.op = 9 ∨ i.op = 11 ∨ i.op = 18
  · rw [if_pos h1, if_pos h1]
  · rw [if_neg h1, if_neg h1]
    by_cases h2 : i.op = 12 ∨ i.op = 13
    · rw [if_pos h2, if_pos h2]
    · rw [if_neg h2, if_neg h2, if_neg h7, if_neg h7]
/-- An order that is of no lock and no jump. -/
theorem RVk.exec (h : RVk n R x y) (hx : XK n R L x) (hR : R ≤ 6) {i : Ins} (hi : InsR R n L i) (h14 : i.op ≠ 14) (h15 : i.op ≠ 15) (h17 : i.op ≠ 17) (h18 : i.op ≠ 18) (hf : (execT m t i x).fell = false) (hy : y.fell = false) : RVk n R (execT m t i x) (execT m t i y) ∧ (execT m t i y).fell = false := by
  by_cases e1 : i.op = 1
  · rw [execT_1 e1, execT_1 e1]; exact ⟨h.put hx hR (hi.o1 e1) _, hy⟩
  by_cases e2 : i.op = 2
  · rw [execT_2 e2, execT_2 e2, h.reg (hi.o2 e2).2]; exact ⟨h.put hx hR (hi.o2 e2).1 _, hy⟩
  by_cases e3 : i.op = 3
  · have q := hi.o3 (by omega); rw [execT_3 e3, execT_3 e3, h.reg q.2.1, h.reg q.2.2]; exact ⟨h.put hx hR q.1 _, hy⟩
  by_cases e4 : i.op = 4
  · have q := hi.o3 (by omega); rw [execT_4 e4, execT_4 e4, h.reg q.2.1, h.reg q.2.2]; exact ⟨h.put hx hR q.1 _, hy⟩
  by_cases e5 : i.op = 5
  · have q := hi.o3 (by omega); rw [execT_5 e5, execT_5 e5, h.reg q.2.1, h.reg q.2.2]; exact ⟨h.put hx hR q.1 _, hy⟩
  by_cases e6 : i.op = 6
  · have q := hi.o3 (by omega); rw [execT_6 e6, execT_6 e6, h.reg q.2.1, h.reg q.2.2]; exact ⟨h.put hx hR q.1 _, hy⟩
  by_cases e7 : i.op = 7
  · have q := hi.o3 (by omega); rw [execT_7 e7, execT_7 e7, h.reg q.2.1, h.reg q.2.2]; exact ⟨h.put hx hR q.1 _, hy⟩
  by_cases e8 : i.op = 8
  · have q := hi.o8 e8; rw [execT_8 e8, execT_8 e8, h.finds hx q.2]; exact ⟨h.put hx hR q.1 _, hy⟩
  by_cases e9 : i.op = 9
  · have q := hi.o9 e9
    rw [execT_9 e9, execT_9 e9, h.reg q.2]
    have := h.store (m := m) hx (v := ⟨false, i.a, x.reg i.b⟩) (by rw [if_neg Bool.false_ne_true]; exact q.1)
    rw [lkWt_f rfl] at this
    exact ⟨this, by unfold TS.store; split <;> exact hy⟩
  by_cases e10 : i.op = 10
  · have q := hi.o10 (.inl e10)
    by_cases hw : 0 ≤ x.reg i.b ∧ x.reg i.b < (x.words.length : Int)
    · have hw2 : 0 ≤ y.reg i.b ∧ y.reg i.b < (y.words.length : Int) := by rw [h.reg q.2, h.len hx]; rw [hx.w] at hw; omega
      rw [execT_10t e10 hw, execT_10t e10 hw2, h.reg q.2, h.finds hx (by rw [hx.w] at hw; exact hw)]
      exact ⟨h.put hx hR q.1 _, hy⟩
    · rw [execT_10f e10 hw] at hf; cases hf
  by_cases e11 : i.op = 11
  · have q := hi.o10 (.inr e11)
    by_cases hw : 0 ≤ x.reg i.a ∧ x.reg i.a < (x.words.length : Int)
    · have hw2 : 0 ≤ y.reg i.a ∧ y.reg i.a < (y.words.length : Int) := by rw [h.reg q.1, h.len hx]; rw [hx.w] at hw; omega
      rw [execT_11t e11 hw, execT_11t e11 hw2, h.reg q.1, h.reg q.2]
      have := h.store (m := m) hx (v := ⟨false, x.reg i.a, x.reg i.b⟩) (by rw [if_neg Bool.false_ne_true]; rw [hx.w] at hw; exact hw)
      rw [lkWt_f rfl] at this
      exact ⟨this, by unfold TS.store; split <;> exact hy⟩
    · rw [execT_11f e11 hw] at hf; cases hf
  by_cases e13 : i.op = 13
  · have q := hi.o13 e13
    by_cases hw : nth x.words i.a.toNat = x.reg i.b
    · have hw2 : nth y.words i.a.toNat = y.reg i.b := by rw [h.word hx q.1, h.reg q.2.1]; exact hw
      rw [execT_13t e13 hw, execT_13t e13 hw2, h.reg q.2.2]
      have := h.put hx hR q.2.1 1
      refine ⟨⟨?_, h.p, h.wt, this.r, this.rl⟩, hy⟩
      show y.words.set _ _ = _
      rw [h.w, app_set_l (by rw [hx.w]; omega)]
    · have hw2 : ¬ nth y.words i.a.toNat = y.reg i.b := by rw [h.word hx q.1, h.reg q.2.1]; exact hw
      rw [execT_13f e13 hw, execT_13f e13 hw2]; exact ⟨h.put hx hR q.2.1 _, hy⟩
  by_cases e16 : i.op = 16
  · rw [execT_16 e16, execT_16 e16, h.reg (hi.o15 (.inr e16))]
    exact ⟨⟨h.w, by show y.prints ++ _ = _; rw [h.p], h.wt, h.r, h.rl⟩, hy⟩
  rw [execT_no ⟨e1, e2, e3, e4, e5, e6, e7, e8, e9, e10, e11, e13, h14, h15, e16, h17, h18⟩, execT_no ⟨e1, e2, e3, e4, e5, e6, e7, e8, e9, e10, e11, e13, h14, h15, e16, h17, h18⟩]
  exact ⟨h, hy⟩
/-- What waits first is done. -/
theorem RVk.move (h : RVk n R x y) (hx : XK n R L x) (hw : x.wait ≠ []) (c c' : List Ins) : RVk n R (doT m t c 1 x) (doT m t c' 1 y) := by
  unfold doT
  rw [if_pos (by decide), if_pos (by decide)]
  obtain ⟨v, l, e⟩ : ∃ v l, x.wait = v :: l := by cases hh : x.wait with | nil => exact absurd hh hw | cons a b => exact ⟨a, b, rfl⟩
  have hy : y.wait = lkWt n v :: l.map (lkWt n) := by rw [h.wt, e]; rfl
  have hv := hx.wt v (by rw [e]; exact List.mem_cons_self ..)
  have hd := h.done hx hv
  rw [e, hy]
  exact ⟨hd.w, hd.p, rfl, hd.r, hd.rl⟩
end
end Go.Proofs.Ytmgikmjmdppfmaa
end
section
section
namespace Go.Proofs.Ytmgikmjmdppfmaa
open Go.RowKit
set_option linter.unusedSimpArgs false
set_option linter.unusedVariables false

section
variable {n R L : Nat} {x y : TS} {m : Int} {t : Nat}
theorem RVk.take (h : RVk n R x y) (hx : XK n R L x) {a : Int} (ha : 0 ≤ a ∧ a < L) (t : Nat) : RVk n R { x with owner := x.owner.set a.toNat t } { y with words := y.words.set ((n : Int) + a).toNat 1 } := by
  refine ⟨?_, h.p, h.wt, h.r, h.rl⟩
  show y.words.set _ _ = x.words ++ lkW (x.owner.set _ _)
  rw [lkW_set, h.w, show ((n : Int) + a).toNat = x.words.length + a.toNat by rw [hx.w]; omega, app_set_r, show lkB (t : Int) = 1 by unfold lkB; rw [if_neg (by omega)]]
end
structure RelK (p : Pg) (Rr : Nat → Int → Int → List Int → Prop) (s s' : MSt) : Prop where
  w : s'.words = s.words ++ lkW s.owner
  pr : s'.prints = s.prints
  wt : ∀ t, t < p.code.length → (nth s'.ths t).wait = (nth s.ths t).wait.map (lkWt p.words.length)
  r : ∀ t, t < p.code.length → ∀ k, k < p.regs.toNat → nth (nth s'.ths t).regs k = nth (nth s.ths t).regs k
  rl : ∀ t, t < p.code.length → (nth s'.ths t).regs.length = 8
  pc : ∀ t, t < p.code.length → Rr t (nth s.ths t).pc (nth s'.ths t).pc (nth s'.ths t).regs
section
variable {p : Pg} {Rr : Nat → Int → Int → List Int → Prop} {s s' : MSt} {t : Nat}
theorem RelK.view (h : RelK p Rr s s') (ht : t < p.code.length) : RVk p.words.length p.regs.toNat (s.view t) (s'.view t) := ⟨h.w, h.pr, h.wt t ht, h.r t ht, h.rl t ht⟩
theorem RelK.put (h : RelK p Rr s s') (hl : t < s.ths.length) (hl' : t < s'.ths.length) {x y : TS} (hv : RVk p.words.length p.regs.toNat x y) (hR : Rr t x.pc y.pc y.regs) : RelK p Rr (s.putT t x) (s'.putT t y) := by
  refine ⟨hv.w, hv.p, fun u hu => ?_, fun u hu => ?_, fun u hu => ?_, fun u hu => ?_⟩ <;> rw [putT_th hl'] <;> (try rw [putT_th hl]) <;> split
  · exact hv.wt
  · exact h.wt u hu
  · exact hv.r
  · exact h.r u hu
  · exact hv.rl
  · exact h.rl u hu
  · rename_i e; subst e; exact hR
  · exact h.pc u hu
theorem RelK.right (h : RelK p Rr s s') (hl' : t < s'.ths.length) {y : TS} (hv : RVk p.words.length p.regs.toNat (s.view t) y) (hR : Rr t (nth s.ths t).pc y.pc y.regs) : RelK p Rr s (s'.putT t y) := by
  refine ⟨hv.w, hv.p, fun u hu => ?_, fun u hu => ?_, fun u hu => ?_, fun u hu => ?_⟩ <;> rw [putT_th hl'] <;> split
  · rename_i e; subst e; exact hv.wt
  · exact h.wt u hu
  · rename_i e; subst e; exact hv.r
  · exact h.r u hu
  · exact hv.rl
  · exact h.rl u hu
  · rename_i e; subst e; exact hR
  · exact h.pc u hu
end
inductive StL (nw : Nat) (c : List Ins) (a b : Int) (rs : List Int) : Prop
  | A (i : Nat) (ha : a = i) (hi : i ≤ c.length) (hb : b = (pK nw c i : Int))
  | L1 (i : Nat) (ha : a = i) (hi : i < c.length) (ho : (nth c i).op = 17) (hb : b = ((pK nw c i + 1 : Nat) : Int)) (h6 : nth rs 6 = 0)
  | L2 (i : Nat) (ha : a = i) (hi : i < c.length) (ho : (nth c i).op = 17) (hb : b = ((pK nw c i + 2 : Nat) : Int)) (h6 : nth rs 6 = 0) (h7 : nth rs 7 = 1)
  | L3 (i : Nat) (ha : a = i) (hi : i < c.length) (ho : (nth c i).op = 17) (hb : b = ((pK nw c i + 3 : Nat) : Int)) (h6 : nth rs 6 = 0)
  | S (i : Nat) (ha : a = (i : Int) + 1) (hi : i < c.length) (ho : (nth c i).op = 17) (hb : b = ((pK nw c i + 3 : Nat) : Int)) (h6 : nth rs 6 ≠ 0)
  | U (i : Nat) (ha : a = i) (hi : i < c.length) (ho : (nth c i).op = 18) (hb : b = ((pK nw c i + 1 : Nat) : Int)) (h6 : nth rs 6 = 0)
section
variable {p : Pg} {m : Int}
end
end Go.Proofs.Ytmgikmjmdppfmaa
end
section
namespace Go.Proofs.Ytmgikmjmdppfmaa
open Go.RowKit
set_option linter.unusedSimpArgs false
set_option linter.unusedVariables false

theorem MSt.putT_view {s : MSt} {t : Nat} (h : t < s.ths.length) : s.putT t (s.view t) = s := by
  cases s with
  | mk ths w o pr =>
    unfold MSt.putT MSt.view
    have : ths.set t ⟨(nth ths t).pc, (nth ths t).regs, (nth ths t).wait⟩ = ths := by
      refine ext_nth _ _ (by simp) fun i hi => ?_
      rw [nth_set0]
      split
      · rename_i e; rw [← e.1]
      · rfl
    simp only [this]
section
variable {p : Pg} {m : Int}
end
end Go.Proofs.Ytmgikmjmdppfmaa
end
namespace Go.Proofs.Ytmgikmjmdppfmaa
open Go.RowKit
set_option linter.unusedSimpArgs false
set_option linter.unusedVariables false

theorem kl_ (op : Int) (h : ∀ k : Fin (kindsB op).size, (((kindsB op)[k.1]'k.2).toNat : Int) ≠ 108) (k : Nat) (hk : k < (kindsB op).size) : (((kindsB op)[k]).toNat : Int) ≠ 108 := h ⟨k, hk⟩
theorem kind_l {op : Int} (h17 : op ≠ 17) (h18 : op ≠ 18) (k : Nat) (hk : k < (kindsB op).size) : (((kindsB op)[k]).toNat : Int) ≠ 108 := by
  by_cases hop : 1 ≤ op ∧ op ≤ 18
  · rcases cases18 op hop with rfl | rfl | rfl | rfl | rfl | rfl | rfl | rfl | rfl | rfl | rfl | rfl | rfl | rfl | rfl | rfl | rfl | rfl <;> first | exact absurd rfl h17 | exact absurd rfl h18 | exact kl_ _ (by decide +kernel) k hk
  · have : (kindsB op).size = 0 := by rw [kindsB_none op hop]; rfl
    omega
section
variable {p q : Pg} {size size' : Int} {n : Int}
theorem fits_more {kind : Int} (hr : p.regs ≤ q.regs) (hw : p.words.length ≤ q.words.length) (h99 : kind ≠ 99) (h108 : kind ≠ 108) (h : fitsG p size kind n = true) : fitsG q size' kind n = true := by
  unfold fitsG at h ⊢
  by_cases h1 : kind = 110
  · rw [if_pos h1]
  rw [if_neg h1] at h ⊢
  by_cases h2 : kind = 114
  · simp only [h2, if_true, Bool.and_eq_true, decide_eq_true_eq] at h ⊢; omega
  by_cases h3 : kind = 119
  · simp only [h3, Int.reduceEq, if_true, if_false, Bool.and_eq_true, decide_eq_true_eq] at h ⊢; omega
  simp only [h2, h3, h99, h108, if_false, Bool.and_eq_true, decide_eq_true_eq] at h; omega
theorem OkIns.more {x : Ins} (hr : p.regs ≤ q.regs) (hw : p.words.length ≤ q.words.length) (h14 : x.op ≠ 14) (h15 : x.op ≠ 15) (h17 : x.op ≠ 17) (h18 : x.op ≠ 18) (h : OkIns p size x) : OkIns q size' x := by
  have key : ∀ k, okNumG p size x k = true → okNumG q size' x k = true := by
    intro k hk
    unfold okNumG at hk ⊢
    split
    · rename_i hh
      rw [dif_pos hh] at hk
      exact fits_more hr hw (kind_c h14 h15 k hh) (kind_l h17 h18 k hh) hk
    · rename_i hh
      rw [dif_neg hh] at hk; exact hk
  exact ⟨h.op, key 0 h.n0, key 1 h.n1, key 2 h.n2⟩
theorem fit_r_mk (h : 0 ≤ n ∧ n < p.regs) : fitsG p size 114 n = true := by
  unfold fitsG
  simp only [Int.reduceEq, if_false, if_true, Bool.and_eq_true, decide_eq_true_eq]
  exact h
theorem fit_n_mk : fitsG p size 110 n = true := by unfold fitsG; rw [if_pos rfl]
theorem ok_const {a v : Int} (ha : 0 ≤ a ∧ a < p.regs) : OkIns p size ⟨1, a, v, 0⟩ := by
  have k : kindsB (⟨1, a, v, 0⟩ : Ins).op = ⟨[114, 110].toArray⟩ := by show kindsB 1 = _; unfold kindsB; simp
  exact ⟨⟨show (1 : Int) ≤ 1 by decide, show (1 : Int) ≤ 18 by decide⟩, by rw [num0_iff k]; exact fit_r_mk ha, by rw [num1_iff k]; exact fit_n_mk, by rw [num_no (by rw [k]; decide)]; rfl⟩
end
/-! ### Ends -/
end Go.Proofs.Ytmgikmjmdppfmaa
end
section
namespace Go.Proofs.Ytmgikmjmdppfmaa
open Go.RowKit
set_option linter.unusedSimpArgs false
set_option linter.unusedVariables false

/-- Where a thread of the fenced program stands (b, what waits), and where the plain one's does (a). -/
inductive StF (p : Pg) (t : Nat) (b : Int) (wt : List Wt) (a : Int) (regs : List Int) (W : Nat) (owner : List Int) : Prop
  | A (i : Nat) (ha : a = i) (hi : i ≤ (nth p.code t).length) (hb : b = (pF (nth p.code t) i : Int)) (hw : wt = [])
  | B (i : Nat) (ha : a = i) (hi : i < (nth p.code t).length) (hs : isSt (nth (nth p.code t) i).op) (hb : b = (pF (nth p.code t) i : Int) + 1) (hw : wt = [pend (nth (nth p.code t) i) regs]) (hp : pendOK t (nth (nth p.code t) i) regs W owner)
  | C (i : Nat) (ha : a = i + 1) (hi : i < (nth p.code t).length) (hs : isSt (nth (nth p.code t) i).op) (hb : b = (pF (nth p.code t) i : Int) + 1) (hw : wt = [])
structure RelF (p : Pg) (s' s : MSt) : Prop where
  words : s.words = s'.words
  owner : s.owner = s'.owner
  prints : s.prints = s'.prints
  regs : ∀ t, t < p.code.length → (nth s.ths t).regs = (nth s'.ths t).regs
  th : ∀ t, t < p.code.length → StF p t (nth s'.ths t).pc (nth s'.ths t).wait (nth s.ths t).pc (nth s.ths t).regs s.words.length s.owner
theorem pendOK.other {t : Nat} {i : Ins} {regs : List Int} {W W' : Nat} {owner owner' : List Int} (h : pendOK t i regs W owner) (hW : W' = W) (ho : ∀ a, nth owner a = (t : Int) → nth owner' a = t) : pendOK t i regs W' owner' := ⟨fun e => ho _ (h.1 e), by rw [hW]; exact h.2⟩
theorem StF.other {p : Pg} {t : Nat} {b : Int} {wt : List Wt} {a : Int} {regs : List Int} {W W' : Nat} {owner owner' : List Int} (h : StF p t b wt a regs W owner) (hW : W' = W) (ho : ∀ a, nth owner a = (t : Int) → nth owner' a = t) : StF p t b wt a regs W' owner' := by
  cases h with
  | A i ha hi hb hw => exact .A i ha hi hb hw
  | B i ha hi hs hb hw hp => exact .B i ha hi hs hb hw (hp.other hW ho)
  | C i ha hi hs hb hw => exact .C i ha hi hs hb hw
/-- Both go on in one thread. -/
theorem RelF.both {p : Pg} {s' s : MSt} (h : RelF p s' s) {t : Nat} (hl' : t < s'.ths.length) (hl : t < s.ths.length) {y' y : TS} (e1 : y.words = y'.words) (e2 : y.owner = y'.owner) (e3 : y.prints = y'.prints) (e4 : y.regs = y'.regs) (hW : y.words.length = s.words.length)
    (ho : ∀ a (u : Nat), u ≠ t → nth s.owner a = (u : Int) → nth y.owner a = u) (hst : StF p t y'.pc y'.wait y.pc y.regs y.words.length y.owner) : RelF p (s'.putT t y') (s.putT t y) := by
  refine ⟨e1, e2, e3, fun u hu => ?_, fun u hu => ?_⟩
  · rw [putT_th hl, putT_th hl']; split
    · exact e4
    · exact h.regs u hu
  · rw [putT_th hl, putT_th hl']
    by_cases e : t = u
    · subst e; rw [if_pos rfl, if_pos rfl]; exact hst
    · rw [if_neg e, if_neg e]
      exact (h.th u hu).other hW fun a ha => ho a u (fun h => e h.symm) ha
/-- The fenced one goes on alone. -/
theorem RelF.left {p : Pg} {s' s : MSt} (h : RelF p s' s) {t : Nat} (hl' : t < s'.ths.length) {y' : TS} (e1 : s.words = y'.words) (e2 : s.owner = y'.owner) (e3 : s.prints = y'.prints) (e4 : t < p.code.length → (nth s.ths t).regs = y'.regs) (hst : t < p.code.length → StF p t y'.pc y'.wait (nth s.ths t).pc (nth s.ths t).regs s.words.length s.owner) : RelF p (s'.putT t y') s := by
  refine ⟨e1, e2, e3, fun u hu => ?_, fun u hu => ?_⟩
  · rw [putT_th hl']; split
    · rename_i e; subst e; exact e4 hu
    · exact h.regs u hu
  · rw [putT_th hl']; split
    · rename_i e; subst e; exact hst hu
    · exact h.th u hu
section
variable {p : Pg}
end
end Go.Proofs.Ytmgikmjmdppfmaa
end
namespace Go.Proofs.Ytmgikmjmdppfmaa
open Go.RowKit
set_option linter.unusedSimpArgs false
set_option linter.unusedVariables false

section
variable {code : List Ins} {R : Nat}
theorem nxtE_sub {i : Nat} {e : List VV} {d : Nat} (h : d ∈ nxtE code i e) : ∃ y ∈ nextsL code i, y.toNat = d := by
  unfold nxtE at h
  unfold nextsL
  by_cases h15 : (nth code i).op = 15
  · rw [if_pos h15] at h
    rw [if_neg (by omega), if_pos h15]
    rcases List.mem_append.1 h with h | h
    · split at h
      · exact ⟨((i + 1 : Nat) : Int), by simp, by have := List.mem_singleton.1 h; omega⟩
      · cases h
    · split at h
      · exact ⟨(nth code i).b, by simp, (List.mem_singleton.1 h).symm⟩
      · cases h
  · rw [if_neg h15] at h
    obtain ⟨y, h1, h2⟩ := List.mem_map.1 h
    unfold nextsL at h1
    exact ⟨y, h1, h2⟩
theorem nxtE_le (hj : JumpsOK code) {i : Nat} (hi : i < code.length) {e : List VV} {d : Nat} (h : d ∈ nxtE code i e) : d ≤ code.length := by
  obtain ⟨y, h1, rfl⟩ := nxtE_sub h
  have := nextsV_ok hj hi h1
  omega
theorem leads_ex (hj : JumpsOK code) {t : Nat} (ht : t < code.length) {e : List VV} : ∀ (ds : List Nat) (A : AF) (wk dn : List Nat), (∀ d ∈ ds, d ∈ nxtE code t (endV code t e)) → MidI code R A wk t e dn →
    ∃ A' wk', MidI code R A' wk' t e (dn ++ ds) ∧ wk'.length + muA R A' (code.length + 1) ≤ wk.length + muA R A (code.length + 1)
  | [], A, wk, dn, _, h => ⟨A, wk, by rw [List.append_nil]; exact h, Nat.le_refl _⟩
  | d :: ds, A, wk, dn, hd, h => by
    have hd1 := hd d (by simp)
    have hdl := nxtE_le hj ht hd1
    obtain ⟨A', wk', h1, h2⟩ := leads_ex hj ht ds _ _ (dn ++ [d]) (fun x hx => hd x (by simp [hx])) (h.lead hd1 hdl)
    have h3 := lead_mu (wk := wk) h.low.ok (outE_ok (i := nth code t) h.oe) hdl
    exact ⟨A', wk', by rw [show dn ++ d :: ds = dn ++ [d] ++ ds by simp]; exact h1, Nat.le_trans h2 h3⟩
theorem work_ex (hj : JumpsOK code) : ∀ (n : Nat) (A : AF) (wk : List Nat), WkI code R A wk → wk.length + muA R A (code.length + 1) ≤ n → ∃ A, Least code R A
  | 0, A, wk, h, hn => by
    obtain rfl : wk = [] := List.length_eq_zero_iff.1 (by omega)
    exact ⟨A, h.least⟩
  | n + 1, A, wk, h, hn => by
    rcases List.eq_nil_or_concat wk with rfl | ⟨w, t, rfl⟩
    · exact ⟨A, h.least⟩
    · rw [List.concat_eq_append] at h hn
      rw [List.length_append] at hn
      rcases Nat.lt_or_ge t code.length with ht | ht
      · cases ha : A t with
        | none => exact absurd ha (h.wk t (by simp))
        | some e =>
          obtain ⟨A', wk', h1, h2⟩ := leads_ex hj ht (nxtE code t (endV code t e)) A w [] (fun _ h => h) (h.pop ht ha)
          exact work_ex hj n A' wk' (h1.fin fun d hd => by simpa using hd) (by simp at hn; omega)
      · exact work_ex hj n A w (h.popEnd ht) (by simp at hn; omega)
theorem leastA_is (hj : JumpsOK code) (R : Nat) : Least code R (leastA code R) := by
  obtain ⟨A, h⟩ := work_ex (R := R) hj _ _ _ WkI.start (Nat.le_refl _)
  rw [← leastA_eq h]; exact h
end
/-- What registers hold, as told. -/
def FitV (v : VV) (n : Int) : Prop := v.s = 2 ∨ (v.s = 1 ∧ n = v.n)
structure Fits (R : Nat) (e : List VV) (r : List Int) : Prop where
  el : e.length = R
  rl : r.length = R
  all : ∀ k, k < R → FitV (nth e k) (nth r k)
section
variable {R : Nat} {e e' : List VV} {r : List Int} {x : Ins} {v u : VV} {n : Int}
theorem FitV.up (h : FitV v n) (hl : leV v u) : FitV u n := by
  rcases hl with hl | rfl | hl
  · rcases h with h | h <;> omega
  · exact h
  · exact .inl hl
theorem Fits.up (h : Fits R e r) (hl : leL e e') (he : e'.length = R) : Fits R e' r := ⟨he, h.rl, fun k hk => (h.all k hk).up (hl k)⟩
theorem Fits.set (h : Fits R e r) (k : Nat) (hf : FitV v n) : Fits R (e.set k v) (r.set k n) := by
  refine ⟨by rw [List.length_set]; exact h.el, by rw [List.length_set]; exact h.rl, fun q hq => ?_⟩
  rw [nth_setE, nth_set0]
  have h1 := h.el
  have h2 := h.rl
  by_cases e9 : k = q
  · rw [if_pos ⟨e9, by omega⟩, if_pos ⟨e9, by omega⟩]; exact hf
  · rw [if_neg (fun h => e9 h.1), if_neg (fun h => e9 h.1)]; exact h.all q hq
theorem Fits.val (h : Fits R e r) (hop : 1 ≤ x.op ∧ x.op ≤ 7) (hb : 2 ≤ x.op → 0 ≤ x.b ∧ x.b < (R : Int)) (hc : 3 ≤ x.op → 0 ≤ x.c ∧ x.c < (R : Int)) : FitV (rkV x e) (valI x r) := by
  unfold rkV valI
  by_cases h1 : x.op = 1
  · rw [if_pos h1, if_pos h1]; exact .inr ⟨rfl, rfl⟩
  · rw [if_neg h1, if_neg h1]
    by_cases h2 : x.op = 2
    · rw [if_pos h2, if_pos h2]
      have := hb (by omega)
      exact h.all _ (by omega)
    · rw [if_neg h2, if_neg h2]
      have h3 : 3 ≤ x.op := by omega
      have f1 := h.all x.b.toNat (by have := hb (by omega); omega)
      have f2 := h.all x.c.toNat (by have := hc h3; omega)
      unfold rk2
      rw [if_neg (by rcases f1 with f1 | f1 <;> rcases f2 with f2 | f2 <;> omega)]
      split
      · exact .inl rfl
      · rename_i h9
        rcases f1 with f1 | ⟨_, f1⟩
        · exact absurd (.inl f1) h9
        · rcases f2 with f2 | ⟨_, f2⟩
          · exact absurd (.inr f2) h9
          · exact .inr ⟨rfl, by show arV _ _ _ = arV _ _ _; rw [f1, f2]⟩
end
-- ---------------------------------------------------------------- what an order becomes
section
variable {A : AF} {i : Nat} {x : Ins} {e : List VV}
theorem bcE (hA : A i = some e) : bcC A i x = if 2 ≤ x.op ∧ x.op ≤ 7 ∧ (rkV x e).s = 1 then [⟨1, x.a, (rkV x e).n, 0⟩] else if x.op = 15 ∧ (nth e x.a.toNat).s = 1 then (if (nth e x.a.toNat).n ≠ 0 then [] else [⟨14, x.b, 0, 0⟩]) else [x] := by
  unfold bcC; rw [hA]
theorem bcE_c (hA : A i = some e) (h : 2 ≤ x.op ∧ x.op ≤ 7 ∧ (rkV x e).s = 1) : bcC A i x = [⟨1, x.a, (rkV x e).n, 0⟩] := by rw [bcE hA, if_pos h]
theorem bcE_z (hA : A i = some e) (h : x.op = 15 ∧ (nth e x.a.toNat).s = 1) (hn : (nth e x.a.toNat).n ≠ 0) : bcC A i x = [] := by rw [bcE hA, if_neg (by omega), if_pos h, if_pos hn]
theorem bcE_j (hA : A i = some e) (h : x.op = 15 ∧ (nth e x.a.toNat).s = 1) (hn : (nth e x.a.toNat).n = 0) : bcC A i x = [⟨14, x.b, 0, 0⟩] := by rw [bcE hA, if_neg (by omega), if_pos h, if_neg (fun h9 => h9 hn)]
theorem bcE_s (hA : A i = some e) (h : ¬ (2 ≤ x.op ∧ x.op ≤ 7 ∧ (rkV x e).s = 1)) (h2 : ¬ (x.op = 15 ∧ (nth e x.a.toNat).s = 1)) : bcC A i x = [x] := by rw [bcE hA, if_neg h, if_neg h2]
end
/-- Where a thread of both stands. -/
def RelC (c : List Ins) (R : Nat) (A : AF) (px : Int) (rx : List Int) (py : Int) (ry : List Int) : Prop := ∃ (i : Nat) (e : List VV), i ≤ c.length ∧ px = (i : Int) ∧ py = ((plB (bcC A) c i : Nat) : Int) ∧ ry = rx ∧ A i = some e ∧ Fits R e rx
theorem okv_b {c : List Ins} {R i : Nat} (hov : OkV c (R : Int)) (hi : i < c.length) (h : 2 ≤ (nth c i).op ∧ (nth c i).op ≤ 7) : 0 ≤ (nth c i).b ∧ (nth c i).b < (R : Int) := by
  refine (hov i hi).2.2.2 _ ?_
  rcases Int.lt_or_le 2 (nth c i).op with h9 | h9
  · rw [rd_2W (by omega)]; simp
  · rw [rd_1W (by omega)]; simp
theorem okv_c {c : List Ins} {R i : Nat} (hov : OkV c (R : Int)) (hi : i < c.length) (h : 3 ≤ (nth c i).op ∧ (nth c i).op ≤ 7) : 0 ≤ (nth c i).c ∧ (nth c i).c < (R : Int) := by
  refine (hov i hi).2.2.2 _ ?_
  rw [rd_2W (by omega)]; simp
section
variable {m : Int} {t : Nat} {c : List Ins} {R : Nat} {A : AF}
theorem const_next (hA : Least c R A) (hov : OkV c (R : Int)) (hj : JumpsOK c) {x y : TS} (hw : y.words = x.words) (ho' : y.owner = x.owner) (hp : y.prints = x.prints) (hwt : y.wait = x.wait) (hxf : x.fell = false) (hyf : y.fell = false) (h : RelC c R A x.pc x.regs y.pc y.regs) :
    NextQ m t c (movedL (bcC A) c) (RelC c R A) (fun u => ((c.length : Int) - u).toNat) x y := by
  obtain ⟨i, e, hi, hx, hy, hr, hAi, hF⟩ := h
  rcases Nat.lt_or_ge i c.length with hlt | hge
  case inr =>
    obtain rfl : i = c.length := by omega
    exact .over (by omega) (by rw [hy, plB_len]; exact Int.le_refl _)
  have hn : nextIns c x.pc = nth c i := by rw [hx, nextIns_t (by omega)]; simp
  have hgo : ∀ {i' : Nat} {r' : List Int} {py : Int}, i' ∈ nxtE c i (outE (nth c i) e) → Fits R (outE (nth c i) e) r' → py = ((plB (bcC A) c i' : Nat) : Int) → RelC c R A (i' : Int) r' py r' := fun {i' r' py} h1 h2 h3 => by
    obtain ⟨e', h4, h5⟩ := hA.clo.all i hlt e hAi i' h1
    exact ⟨i', e', nxtE_le hj hlt h1, rfl, h3, rfl, h4, h2.up h5 (hA.clo.ok i' e' h4).2.1⟩
  have hop := (hov i hlt).1
  have hjo := hj i hlt
  have hsb : SameB { x with pc := x.pc + 1 } { y with pc := y.pc + 1 } := ⟨hw, ho', hp, hwt, by show y.fell = x.fell; rw [hxf, hyf]⟩
  by_cases h15 : (nth c i).op = 15
  · have ho : outE (nth c i) e = e := by unfold outE; rw [if_neg (by omega), if_neg (by rw [wr_nW (by omega)]; decide)]
    have ha : (nth c i).a.toNat < R := by have := (hov i hlt).2.2.2 (nth c i).a (by rw [rd_4W (.inl h15)]; simp); omega
    have hf := hF.all _ ha
    have hreg : ∀ u, ({ x with pc := u } : TS).reg (nth c i).a = nth x.regs (nth c i).a.toNat := fun _ => rfl
    by_cases hs : (nth e (nth c i).a.toNat).s = 1
    · have hv : nth x.regs (nth c i).a.toNat = (nth e (nth c i).a.toNat).n := by rcases hf with hf | hf; omega; exact hf.2
      by_cases hz : (nth e (nth c i).a.toNat).n = 0
      · have hb := bcE_j hAi ⟨h15, hs⟩ hz
        have hpl := plB_kept hlt hb
        have hnd : nextIns (movedL (bcC A) c) y.pc = ⟨14, ((plB (bcC A) c (nth c i).b.toNat : Nat) : Int), 0, 0⟩ := by
          rw [hy, plB_next hlt hb, fixW_14 rfl (.inr h15)]
        have eX : execT m t (nextIns c x.pc) { x with pc := x.pc + 1 } = { x with pc := (nth c i).b } := by
          rw [hn, execT_15t (x := { x with pc := x.pc + 1 }) h15 (by rw [hreg, hv, hz])]
        have eY : execT m t (nextIns (movedL (bcC A) c) y.pc) { y with pc := y.pc + 1 } = { y with pc := ((plB (bcC A) c (nth c i).b.toNat : Nat) : Int) } := by
          rw [hnd]; exact execT_14 rfl
        refine .both ⟨by omega, by rw [hy]; exact_mod_cast hpl.2.1, fun o n => by rw [hnd, hn]; unfold ableL; simp [h15], by rw [eX, eY]; exact hyf.trans hxf.symm, by rw [eX, eY]; exact hw, by rw [eX, eY]; exact ho', by rw [eX, eY]; exact hp, by rw [eX, eY]; exact hwt, fun _ => ?_⟩
        rw [eX, eY]
        show RelC c R A (nth c i).b x.regs _ y.regs
        rw [hr, show (nth c i).b = (((nth c i).b.toNat : Nat) : Int) by have := hjo.2 h15; omega]
        exact hgo (by rw [ho]; unfold nxtE; rw [if_pos h15]; exact List.mem_append.2 (.inr (by rw [if_pos (.inr ⟨hs, hz⟩)]; simp))) (by rw [ho]; exact hF) (by rw [Int.toNat_natCast])
      · have hb := bcE_z hAi ⟨h15, hs⟩ hz
        refine .alone (by omega) (fun o n => by rw [hn]; unfold ableL; simp [h15]) (((i + 1 : Nat) : Int)) x.regs (by rw [hn, execT_15f (x := { x with pc := x.pc + 1 }) h15 (by rw [hreg, hv]; exact hz), hx]; rfl) ?_ (by rw [hx]; omega)
        rw [hr]
        exact hgo (by rw [ho]; unfold nxtE; rw [if_pos h15]; exact List.mem_append.2 (.inl (by rw [if_pos (.inr ⟨hs, hz⟩)]; simp))) (by rw [ho]; exact hF) (by rw [hy, plB_gone hlt hb])
    · have hs2 : (nth e (nth c i).a.toNat).s = 2 := by rcases hf with hf | hf; exact hf; omega
      have hb := bcE_s hAi (by omega) (fun h9 => hs h9.2)
      have hpl := plB_kept hlt hb
      have hnd : nextIns (movedL (bcC A) c) y.pc = { nth c i with b := ((plB (bcC A) c (nth c i).b.toNat : Nat) : Int) } := by
        rw [hy, plB_next hlt hb, fixW_15 h15 h15]
      have hregy : ({ y with pc := y.pc + 1 } : TS).reg (nth c i).a = nth x.regs (nth c i).a.toNat := by show nth y.regs _ = _; rw [hr]
      by_cases hz : nth x.regs (nth c i).a.toNat = 0
      · have eX : execT m t (nextIns c x.pc) { x with pc := x.pc + 1 } = { x with pc := (nth c i).b } := by
          rw [hn, execT_15t (x := { x with pc := x.pc + 1 }) h15 hz]
        have eY : execT m t (nextIns (movedL (bcC A) c) y.pc) { y with pc := y.pc + 1 } = { y with pc := ((plB (bcC A) c (nth c i).b.toNat : Nat) : Int) } := by
          rw [hnd]; exact execT_zt h15 (by rw [hregy]; exact hz)
        refine .both ⟨by omega, by rw [hy]; exact_mod_cast hpl.2.1, fun o n => by rw [hnd, hn]; unfold ableL; simp [h15], by rw [eX, eY]; exact hyf.trans hxf.symm, by rw [eX, eY]; exact hw, by rw [eX, eY]; exact ho', by rw [eX, eY]; exact hp, by rw [eX, eY]; exact hwt, fun _ => ?_⟩
        rw [eX, eY]
        show RelC c R A (nth c i).b x.regs _ y.regs
        rw [hr, show (nth c i).b = (((nth c i).b.toNat : Nat) : Int) by have := hjo.2 h15; omega]
        exact hgo (by rw [ho]; unfold nxtE; rw [if_pos h15]; exact List.mem_append.2 (.inr (by rw [if_pos (.inl hs2)]; simp))) (by rw [ho]; exact hF) (by rw [Int.toNat_natCast])
      · have eX : execT m t (nextIns c x.pc) { x with pc := x.pc + 1 } = { x with pc := x.pc + 1 } := by
          rw [hn, execT_15f (x := { x with pc := x.pc + 1 }) h15 hz]
        have eY : execT m t (nextIns (movedL (bcC A) c) y.pc) { y with pc := y.pc + 1 } = { y with pc := y.pc + 1 } := by
          rw [hnd]; exact execT_zf h15 (by rw [hregy]; exact hz)
        refine .both ⟨by omega, by rw [hy]; exact_mod_cast hpl.2.1, fun o n => by rw [hnd, hn]; unfold ableL; simp [h15], by rw [eX, eY]; exact hyf.trans hxf.symm, by rw [eX, eY]; exact hw, by rw [eX, eY]; exact ho', by rw [eX, eY]; exact hp, by rw [eX, eY]; exact hwt, fun _ => ?_⟩
        rw [eX, eY]
        show RelC c R A (x.pc + 1) x.regs (y.pc + 1) y.regs
        rw [hr, show x.pc + 1 = ((i + 1 : Nat) : Int) by omega]
        exact hgo (by rw [ho]; unfold nxtE; rw [if_pos h15]; exact List.mem_append.2 (.inl (by rw [if_pos (.inl hs2)]; simp))) (by rw [ho]; exact hF) (by rw [hy, hpl.1]; simp)
  by_cases h14 : (nth c i).op = 14
  · have ho : outE (nth c i) e = e := by unfold outE; rw [if_neg (by omega), if_neg (by rw [wr_nW (by omega)]; decide)]
    have hb := bcE_s hAi (x := nth c i) (by omega) (by omega)
    have hpl := plB_kept hlt hb
    have hnd : nextIns (movedL (bcC A) c) y.pc = { nth c i with a := ((plB (bcC A) c (nth c i).a.toNat : Nat) : Int) } := by
      rw [hy, plB_next hlt hb, fixW_14 h14 (.inl h14)]
    have eX : execT m t (nextIns c x.pc) { x with pc := x.pc + 1 } = { x with pc := (nth c i).a } := by rw [hn, execT_14 h14]
    have eY : execT m t (nextIns (movedL (bcC A) c) y.pc) { y with pc := y.pc + 1 } = { y with pc := ((plB (bcC A) c (nth c i).a.toNat : Nat) : Int) } := by rw [hnd]; exact execT_jump h14
    refine .both ⟨by omega, by rw [hy]; exact_mod_cast hpl.2.1, fun o n => by rw [hnd, hn]; unfold ableL; simp [h14], by rw [eX, eY]; exact hyf.trans hxf.symm, by rw [eX, eY]; exact hw, by rw [eX, eY]; exact ho', by rw [eX, eY]; exact hp, by rw [eX, eY]; exact hwt, fun _ => ?_⟩
    rw [eX, eY]
    show RelC c R A (nth c i).a x.regs _ y.regs
    rw [hr, show (nth c i).a = (((nth c i).a.toNat : Nat) : Int) by have := hjo.1 h14; omega]
    exact hgo (by rw [ho]; unfold nxtE nextsL; rw [if_neg h15, if_pos h14]; simp) (by rw [ho]; exact hF) (by rw [Int.toNat_natCast])
  have hn1 : ∀ e', i + 1 ∈ nxtE c i e' := fun e' => by unfold nxtE nextsL; rw [if_neg h15, if_neg h14, if_neg h15]; simp
  by_cases h17 : (nth c i).op ≤ 7
  · -- it reckons
    have hfv := hF.val (x := nth c i) ⟨hop.1, h17⟩ (fun h9 => okv_b hov hlt ⟨h9, h17⟩) (fun h9 => okv_c hov hlt ⟨h9, h17⟩)
    have ho : outE (nth c i) e = e.set (nth c i).a.toNat (rkV (nth c i) e) := by unfold outE; rw [if_pos ⟨hop.1, h17⟩]
    have eX : execT m t (nextIns c x.pc) { x with pc := x.pc + 1 } = { x with pc := x.pc + 1, regs := x.regs.set (nth c i).a.toNat (valI (nth c i) x.regs) } := by rw [hn, exV ⟨hop.1, h17⟩]; rfl
    have key : ∀ z : Ins, bcC A i (nth c i) = [z] → 1 ≤ z.op ∧ z.op ≤ 7 → z.a = (nth c i).a → valI z x.regs = valI (nth c i) x.regs → NextQ m t c (movedL (bcC A) c) (RelC c R A) (fun u => ((c.length : Int) - u).toNat) x y := fun z hb hz hza hzv => by
      have hpl := plB_kept hlt hb
      have hnd : nextIns (movedL (bcC A) c) y.pc = z := by rw [hy, plB_next hlt hb, fixW_no (by omega) (by omega)]
      have eY : execT m t (nextIns (movedL (bcC A) c) y.pc) { y with pc := y.pc + 1 } = { y with pc := y.pc + 1, regs := x.regs.set (nth c i).a.toNat (valI (nth c i) x.regs) } := by
        rw [hnd, exV hz, hza, ← hzv]; show ({ y with pc := y.pc + 1, regs := y.regs.set _ (valI z y.regs) } : TS) = _; rw [hr]
      refine .both ⟨by omega, by rw [hy]; exact_mod_cast hpl.2.1, fun o n => by rw [hnd, hn]; unfold ableL; rw [if_neg (by omega), if_neg (by omega), if_neg (by omega), if_neg (by omega), if_neg (by omega), if_neg (by omega)], by rw [eX, eY]; exact hyf.trans hxf.symm, by rw [eX, eY]; exact hw, by rw [eX, eY]; exact ho', by rw [eX, eY]; exact hp, by rw [eX, eY]; exact hwt, fun _ => ?_⟩
      rw [eX, eY]
      show RelC c R A (x.pc + 1) _ (y.pc + 1) _
      rw [show x.pc + 1 = ((i + 1 : Nat) : Int) by omega]
      exact hgo (hn1 _) (by rw [ho]; exact hF.set _ hfv) (by rw [hy, hpl.1]; simp)
    by_cases hs : 2 ≤ (nth c i).op ∧ (nth c i).op ≤ 7 ∧ (rkV (nth c i) e).s = 1
    · refine key _ (bcE_c hAi hs) ⟨Int.le_refl _, by show (1 : Int) ≤ 7; decide⟩ rfl ?_
      rcases hfv with h9 | h9
      · omega
      · rw [h9.2]; unfold valI; rw [if_pos rfl]
    · exact key _ (bcE_s hAi hs (by omega)) ⟨hop.1, h17⟩ rfl rfl
  · have hb := bcE_s hAi (x := nth c i) (by omega) (by omega)
    have hpl := plB_kept hlt hb
    have hnd : nextIns (movedL (bcC A) c) y.pc = nth c i := by rw [hy, plB_next hlt hb, fixW_no h14 h15]
    obtain ⟨hS, hQ⟩ := exQ (m := m) (n := t) (i := nth c i) h14 h15 hop hsb (fun v hv => by show nth y.regs _ = nth x.regs _; rw [hr])
    obtain ⟨_, hpx⟩ := execT_pc m t (nth c i) { x with pc := x.pc + 1 } 0 h14 h15
    obtain ⟨_, hpy⟩ := execT_pc m t (nth c i) { y with pc := y.pc + 1 } 0 h14 h15
    refine .both ⟨by omega, by rw [hy]; exact_mod_cast hpl.2.1, fun o n => by rw [hnd, hn], by rw [hnd, hn]; exact hS.f, by rw [hnd, hn]; exact hS.w, by rw [hnd, hn]; exact hS.o, by rw [hnd, hn]; exact hS.p, by rw [hnd, hn]; exact hS.wt, fun hfl => ?_⟩
    rw [hn] at hfl
    rw [hnd, hn, hpx, hpy]
    have e9 : x.pc + 1 = ((i + 1 : Nat) : Int) := by omega
    rcases hQ with ⟨h1, h2, h3⟩ | ⟨v, h0, h1, h2⟩
    · have h3 : wrG (nth c i) = -1 := h3.resolve_right (by rw [hfl]; decide)
      rw [h1, h2]
      show RelC c R A (x.pc + 1) x.regs (y.pc + 1) y.regs
      rw [hr, e9]
      exact hgo (hn1 _) (by unfold outE; rw [if_neg (by omega), if_neg (by rw [h3]; decide)]; exact hF) (by rw [hy, hpl.1]; simp)
    · rw [h1, h2]
      show RelC c R A (x.pc + 1) (x.regs.set _ v) (y.pc + 1) (y.regs.set _ v)
      rw [hr, e9]
      refine hgo (hn1 _) ?_ (by rw [hy, hpl.1]; simp)
      have h0' : 0 ≤ wrG (nth c i) := by
        by_cases h13 : (nth c i).op = 13
        · rw [wr_bW h13]; exact ((hov i hlt).2.2.2 _ (by rw [rd_2W (.inr h13)]; simp)).1
        · rw [wr_aW (by omega)]; exact (hov i hlt).2.1 (by omega)
      unfold outE
      rw [if_neg (by omega), if_pos h0']
      exact hF.set _ (.inl rfl)
end
end Go.Proofs.Ytmgikmjmdppfmaa
