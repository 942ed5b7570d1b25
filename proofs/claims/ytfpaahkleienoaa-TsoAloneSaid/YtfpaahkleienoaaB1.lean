/-
  slices.Backward over stores that wait: an iterator's contract.
-/
import Derived.RangeFuncBox
import Derived.RangeFuncLeaves
import Derived.RangeFuncFrom
import Derived.Shelf.Abstract
import Derived.OwnWalkIn
import Derived.TacticsInMore
import Derived.LoopNIn
import Derived.LoopIn
import Derived.Test.YtfpaahkleienoaaS7
import Derived.Test.YtfpaahkleienoaaX0
namespace Go.Proofs.Ytfpaahkleienoaa
open Go.RowKit Go.Shelf
set_option linter.unusedSimpArgs false
set_option linter.unusedVariables false
attribute [local go_sem] Oper.semAt_some

@[local go_sem] theorem sz_wt : Enc.sz Wt = 3 := rfl
@[local go_sem] theorem agg_wt : Enc.agg Wt = true := rfl
@[local go_sem] theorem cell_wt0 (x : Wt) : Enc.cell x 0 = .bool x.lock := rfl
@[local go_sem] theorem cell_wt1 (x : Wt) : Enc.cell x 1 = .int .i64 x.wh := rfl
@[local go_sem] theorem cell_wt2 (x : Wt) : Enc.cell x 2 = .int .i64 x.what := rfl
@[local go_sem] theorem whole_wt (x : Wt) : Enc.whole x = .agg #[.bool x.lock, .int .i64 x.wh, .int .i64 x.what] := rfl
/-- What has come when k rounds are over: from the last one on. -/
def backN (l : List Wt) (k : Nat) : List (Nat × Wt) := (List.range k).map fun j => (l.length - 1 - j, nth l (l.length - 1 - j))
theorem backN_succ (l : List Wt) (k : Nat) : backN l (k + 1) = backN l k ++ [(l.length - 1 - k, nth l (l.length - 1 - k))] := by simp [backN, List.range_succ]
theorem backN_len (l : List Wt) (k : Nat) : (backN l k).length = k := by simp [backN]

set_option maxRecDepth 100000 in
set_option maxHeartbeats 4000000 in
theorem back1_in (F : Fence) (n : Nat) (hF : F.fn 198) (hro : F.round = none) (hn : 1 ≤ n) (l Bs n₀ : Nat) (s : Sl Wt) (hs3 : s.l.length ≤ 3) (hb : ∀ b, s.on b → b < n₀) (J Jx : List (Nat × Wt) → World → Prop)
    (hY : ∀ pre x W, J pre W → pre.length < s.l.length → YieldAt F (n - 1) Try.prog l #[.int .i64 ((x.1 : Nat) : Int), .agg #[.bool x.2.lock, .int .i64 x.2.wh, .int .i64 x.2.what]] W fun e W' =>
      (e = .returned (.bool true) ∧ J (pre ++ [x]) W' ∧ Below n₀ W W') ∨ (e = .returned (.bool false) ∧ Jx (pre ++ [x]) W'))
    (W : World) (hBs : Bs < n₀) (hBc : W.cell? ⟨Bs, 0, none⟩ = some (.slice s.A s.l.length s.cap)) (hs : s.At W) (h0 : J [] W) :
    CallsIn F n Try.prog 198 #[.func (.yield l) #[] #[], .pointer (some ⟨Bs, 0, none⟩)] W fun e W' => (∃ v, e = .returned v) ∧
      ((∃ ys, ys = backN s.l s.l.length ∧ J ys W') ∨ (∃ pre, (∃ k, k ≤ s.l.length ∧ pre = backN s.l k) ∧ Jx pre W')) := by
  refine callsIn_of_wp Try.func198 rfl hF ?_ hro
  simp only [Try.ntmps198, List.size_toArray, List.length_cons, List.length_nil, Nat.reduceAdd, Nat.reduceSub, Array.replicate_succ, Array.replicate_zero, List.push_toArray, List.append_toArray, List.nil_append, List.cons_append]
  gi_wp2
  gi_loopw [3] (fun i wr => ∃ k : Nat, k ≤ s.l.length ∧ i = .int .i64 ((s.l.length : Int) - 1 - k) ∧ J (backN s.l k) wr ∧ Below n₀ W wr)
    (fun i _ => (intOf i + 1).toNat)
  case atStart => exact ⟨0, Nat.zero_le _, by simp, h0, Below.refl _ _⟩
  case round =>
    obtain ⟨k, hk, rfl, hJs, hnx⟩ := hrel
    have hBx : wr.cell? ⟨Bs, 0, none⟩ = some (.slice s.A s.l.length s.cap) := (hnx.cell (p := ⟨Bs, 0, none⟩) hBs).trans hBc
    have hsx : s.At wr := hs.keep fun b hb' => hnx.block b (hb b hb')
    by_cases hlt : k < s.l.length
    · obtain ⟨q, hq, e9, e8⟩ : ∃ q : Nat, q < s.l.length ∧ (s.l.length : Int) - 1 - k = ((q : Nat) : Int) ∧ s.l.length - 1 - k = q := ⟨s.l.length - 1 - k, by omega, by omega, rfl⟩
      obtain ⟨fn, tmps, assign, body, hy, hR⟩ := hY _ (q, nth s.l q) wr hJs (by rw [backN_len]; exact hlt)
      dsimp only at hy
      rw [e9]
      gi_wp2
      refine hR.mono ?_
      rintro e W3 (⟨rfl, hJ3, hk3⟩ | ⟨rfl, hJx3⟩)
      · gi_wp2
        go_roundw
        case rel => exact ⟨k + 1, by omega, by congr 1 <;> omega, by rw [backN_succ, e8]; exact hJ3, hnx.trans hk3⟩
        case measure => simp [intOf] <;> omega
      · gi_wp2
        refine bodyPost_ret (results_none rfl _ _ _) rfl ?_
        exact ⟨⟨_, rfl⟩, .inr ⟨_, ⟨k + 1, by omega, by rw [backN_succ, e8]⟩, hJx3⟩⟩
    · obtain rfl : k = s.l.length := by omega
      gi_wp2
      go_end0
      exact ⟨⟨_, rfl⟩, .inl ⟨_, rfl, hJs⟩⟩

set_option maxHeartbeats 1000000 in
theorem back_in (F : Fence) (n : Nat) (hF : F.fn 197) (hro : F.round = none) (a : Option Addr) (len cap : Nat) (w : World) :
    CallsIn F n Try.prog 197 #[.slice a len cap] w fun e w' => e = .returned (.func (.func 198) #[] #[.pointer (some ⟨w.heap.size, 0, none⟩)]) ∧ w' = w.alloc (.cells #[.slice a len cap] 268) := by
  refine callsIn_of_wp Try.func197 rfl hF ?_ hro
  simp only [Try.ntmps197, List.size_toArray, List.length_cons, List.length_nil, Nat.reduceAdd, Nat.reduceSub, Array.replicate_succ, Array.replicate_zero, List.push_toArray, List.append_toArray, List.nil_append, List.cons_append]
  gi_wp2
  go_ret
  exact ⟨rfl, rfl⟩
theorem back_stops (F : Fence) (n : Nat) (hF : F.fn 198) (hro : F.round = none) (hn : 1 ≤ n) (Bs n₀ : Nat) (s : Sl Wt) (hs3 : s.l.length ≤ 3) (w : World) (hBs : Bs < n₀) (hn₀ : n₀ ≤ w.heap.size) (hb : ∀ b, s.on b → b < n₀)
    (hc : w.cell? ⟨Bs, 0, none⟩ = some (.slice s.A s.l.length s.cap)) (hs : s.At w) :
    SeqStopsK F n Try.prog 198 #[.pointer (some ⟨Bs, 0, none⟩)] (fun x : Nat × Wt => #[Value.int .i64 ((x.1 : Nat) : Int), .agg #[.bool x.2.lock, .int .i64 x.2.wh, .int .i64 x.2.what]]) (Below n₀) (fun ys => ys = backN s.l s.l.length)
      (fun pre => ∃ k, k ≤ s.l.length ∧ pre = backN s.l k) s.l.length w := fun l J Jx W hW _ _ hY h0 =>
  back1_in F n hF hro hn l Bs n₀ s hs3 hb J Jx hY W hBs ((hW.cell (p := ⟨Bs, 0, none⟩) (by show Bs < w.heap.size; omega)).trans hc) (hs.keep fun b hb' => hW.block b (by have := hb b hb'; omega)) h0
end Go.Proofs.Ytfpaahkleienoaa
