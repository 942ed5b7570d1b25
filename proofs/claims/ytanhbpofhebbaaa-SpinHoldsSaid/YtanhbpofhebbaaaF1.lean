/-
  With a fence behind each store nothing that waits is seen: in plain Lean.
-/
import Derived.Test.YtanhbpofhebbaaaL4
import Derived.Test.YtanhbpofhebbaaaX10
namespace Go.Proofs.Ytanhbpofhebbaaa
open Go.RowKit
set_option linter.unusedSimpArgs false
set_option linter.unusedVariables false

def isSt (op : Int) : Prop := op = 9 ∨ op = 11 ∨ op = 18
/-- An order that lets nothing wait: in which mode it is done does not matter; what waits stays. -/
theorem execT_keep {m m' : Int} {n : Nat} {i : Ins} {x : TS} (h : ¬ isSt i.op) : execT m n i x = execT m' n i x ∧ (execT m n i x).wait = x.wait ∧ (i.op ≠ 17 → (execT m n i x).owner = x.owner) ∧ (i.op = 17 → (execT m n i x).owner = x.owner.set i.a.toNat n) ∧ (i.op = 17 → (execT m n i x).fell = x.fell) := by
  have h9 : i.op ≠ 9 := fun e => h (.inl e)
  have h11 : i.op ≠ 11 := fun e => h (.inr (.inl e))
  have h18 : i.op ≠ 18 := fun e => h (.inr (.inr e))
  by_cases e1 : i.op = 1
  · rw [execT_1 e1, execT_1 e1]; exact ⟨rfl, rfl, fun _ => rfl, fun e => absurd e (by omega), fun e => absurd e (by omega)⟩
  by_cases e2 : i.op = 2
  · rw [execT_2 e2, execT_2 e2]; exact ⟨rfl, rfl, fun _ => rfl, fun e => absurd e (by omega), fun e => absurd e (by omega)⟩
  by_cases e3 : i.op = 3
  · rw [execT_3 e3, execT_3 e3]; exact ⟨rfl, rfl, fun _ => rfl, fun e => absurd e (by omega), fun e => absurd e (by omega)⟩
  by_cases e4 : i.op = 4
  · rw [execT_4 e4, execT_4 e4]; exact ⟨rfl, rfl, fun _ => rfl, fun e => absurd e (by omega), fun e => absurd e (by omega)⟩
  by_cases e5 : i.op = 5
  · rw [execT_5 e5, execT_5 e5]; exact ⟨rfl, rfl, fun _ => rfl, fun e => absurd e (by omega), fun e => absurd e (by omega)⟩
  by_cases e6 : i.op = 6
  · rw [execT_6 e6, execT_6 e6]; exact ⟨rfl, rfl, fun _ => rfl, fun e => absurd e (by omega), fun e => absurd e (by omega)⟩
  by_cases e7 : i.op = 7
  · rw [execT_7 e7, execT_7 e7]; exact ⟨rfl, rfl, fun _ => rfl, fun e => absurd e (by omega), fun e => absurd e (by omega)⟩
  by_cases e8 : i.op = 8
  · rw [execT_8 e8, execT_8 e8]; exact ⟨rfl, rfl, fun _ => rfl, fun e => absurd e (by omega), fun e => absurd e (by omega)⟩
  by_cases e10 : i.op = 10
  · by_cases hw : 0 ≤ x.reg i.b ∧ x.reg i.b < (x.words.length : Int)
    · rw [execT_10t e10 hw, execT_10t e10 hw]; exact ⟨rfl, rfl, fun _ => rfl, fun e => absurd e (by omega), fun e => absurd e (by omega)⟩
    · rw [execT_10f e10 hw, execT_10f e10 hw]; exact ⟨rfl, rfl, fun _ => rfl, fun e => absurd e (by omega), fun e => absurd e (by omega)⟩
  by_cases e13 : i.op = 13
  · by_cases hw : nth x.words i.a.toNat = x.reg i.b
    · rw [execT_13t e13 hw, execT_13t e13 hw]; exact ⟨rfl, rfl, fun _ => rfl, fun e => absurd e (by omega), fun e => absurd e (by omega)⟩
    · rw [execT_13f e13 hw, execT_13f e13 hw]; exact ⟨rfl, rfl, fun _ => rfl, fun e => absurd e (by omega), fun e => absurd e (by omega)⟩
  by_cases e14 : i.op = 14
  · rw [execT_14 e14, execT_14 e14]; exact ⟨rfl, rfl, fun _ => rfl, fun e => absurd e (by omega), fun e => absurd e (by omega)⟩
  by_cases e15 : i.op = 15
  · by_cases hw : x.reg i.a = 0
    · rw [execT_15t e15 hw, execT_15t e15 hw]; exact ⟨rfl, rfl, fun _ => rfl, fun e => absurd e (by omega), fun e => absurd e (by omega)⟩
    · rw [execT_15f e15 hw, execT_15f e15 hw]; exact ⟨rfl, rfl, fun _ => rfl, fun e => absurd e (by omega), fun e => absurd e (by omega)⟩
  by_cases e16 : i.op = 16
  · rw [execT_16 e16, execT_16 e16]; exact ⟨rfl, rfl, fun _ => rfl, fun e => absurd e (by omega), fun e => absurd e (by omega)⟩
  by_cases e17 : i.op = 17
  · rw [execT_17 e17, execT_17 e17]; exact ⟨rfl, rfl, fun e => absurd e17 e, fun _ => rfl, fun _ => rfl⟩
  rw [execT_no ⟨e1, e2, e3, e4, e5, e6, e7, e8, h9, e10, h11, e13, e14, e15, e16, e17, h18⟩, execT_no ⟨e1, e2, e3, e4, e5, e6, e7, e8, h9, e10, h11, e13, e14, e15, e16, e17, h18⟩]
  exact ⟨rfl, rfl, fun _ => rfl, fun e => absurd e e17, fun e => absurd e e17⟩
theorem execT0_wait {n : Nat} {i : Ins} {x : TS} : (execT 0 n i x).wait = x.wait := by
  have hs : ∀ (x : TS) w, (x.store 0 w).wait = x.wait := fun x w => by unfold TS.store; rw [if_neg (by decide)]; rfl
  by_cases h : isSt i.op
  · rcases h with h | h | h
    · rw [execT_9 h, hs]
    · by_cases hw : 0 ≤ x.reg i.a ∧ x.reg i.a < (x.words.length : Int)
      · rw [execT_11t h hw, hs]
      · rw [execT_11f h hw]
    · by_cases hw : nth x.owner i.a.toNat ≠ n
      · rw [execT_18a h hw]
      · by_cases hh : ∃ j, j < x.wait.length ∧ (nth x.wait j).lock = true ∧ (nth x.wait j).wh = i.a
        · obtain ⟨j, hj, h1, h2⟩ := hh
          rw [execT_18b h hw j hj h1 h2]
        · rw [execT_18c h hw (fun q hq hc => hh ⟨q, hq, hc⟩), hs]
  · exact (execT_keep (m' := 0) h).2.1
/-- Without stores that wait nothing waits. -/
theorem Reach.no_wait {p : Pg} {s : MSt} (hok : OkPg p) (h : Reach p 0 s) : ∀ t, t < p.code.length → (nth s.ths t).wait = [] := by
  induction h with
  | start => intro t ht; unfold begin_; rw [nth_map' _ _ _ ht]
  | step hr ht hk hf ih =>
    rename_i s t k
    intro u hu
    rw [putT_th (hr.len hok ht)]
    split
    · rename_i e; subst e
      have h0 : (s.view t).wait = [] := ih t ht
      rcases mvOK_k hk with ⟨rfl, _, _⟩ | ⟨h1, h2, _⟩
      · show (stepT p 0 s t 0).wait = []
        rw [stepT_e, execT0_wait]; exact h0
      · rw [h0] at h2; simp at h2; omega
    · exact ih u hu

section
variable (c : List Ins)
end
section
variable {c : List Ins}
end

section
variable {p : Pg}
/-- What a store would do. -/
def pend (i : Ins) (regs : List Int) : Wt := if i.op = 18 then ⟨true, i.a, 0⟩ else if i.op = 9 then ⟨false, i.a, nth regs i.b.toNat⟩ else ⟨false, nth regs i.a.toNat, nth regs i.b.toNat⟩
/-- May it? -/
def pendOK (t : Nat) (i : Ins) (regs : List Int) (W : Nat) (owner : List Int) : Prop := (i.op = 18 → nth owner i.a.toNat = t) ∧ (i.op = 11 → 0 ≤ nth regs i.a.toNat ∧ nth regs i.a.toNat < (W : Int))
theorem exec_st {m : Int} {t : Nat} {i : Ins} {x : TS} (hs : isSt i.op) (hw : x.wait = []) : (pendOK t i x.regs x.words.length x.owner → execT m t i x = x.store m (pend i x.regs)) ∧ (¬ pendOK t i x.regs x.words.length x.owner → execT m t i x = { x with fell := true }) := by
  unfold pendOK pend
  rcases hs with h | h | h
  · refine ⟨fun _ => ?_, fun hn => absurd ⟨fun e => by omega, fun e => by omega⟩ hn⟩
    rw [execT_9 h, if_neg (by omega), if_pos h]; rfl
  · refine ⟨fun hp => ?_, fun hn => ?_⟩
    · rw [execT_11t h (hp.2 h), if_neg (by omega), if_neg (by omega)]; rfl
    · rw [execT_11f h fun hh => hn ⟨fun e => by omega, fun _ => hh⟩]
  · refine ⟨fun hp => ?_, fun hn => ?_⟩
    · rw [execT_18c h (fun hh => hh (hp.1 h)) (fun q hq => by rw [hw] at hq; simp at hq), if_pos h]
    · rw [execT_18a h fun hh => hn ⟨fun _ => hh, fun e => by omega⟩]
theorem putT_putT {s : MSt} {t : Nat} {x y : TS} : (s.putT t x).putT t y = s.putT t y := by
  unfold MSt.putT
  simp only [List.set_set]
end
end Go.Proofs.Ytanhbpofhebbaaa
