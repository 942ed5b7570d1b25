/-
  Whether a program may be, in plain Lean; the contracts of the two Check's and of vast in the words of resources.
-/
import Derived.Test.YtmgikmjmdppfmaaT6
import Derived.Test.YtmgikmjmdppfmaaRows
import Derived.Test.YtmgikmjmdppfmaaBase
import Derived.Test.YtmgikmjmdppfmaaS4
import Derived.Test.YtmgikmjmdppfmaaMach
namespace Go.Proofs.Ytmgikmjmdppfmaa
open Go.RowKit
set_option linter.unusedSimpArgs false
set_option linter.unusedVariables false

def fitsG (p : Pg) (size kind n : Int) : Bool :=
  if kind = 110 then true else
  let most := if kind = 114 then p.regs else if kind = 119 then (p.words.length : Int) else if kind = 108 then p.locks else if kind = 99 then wrap64 (size + 1) else 0
  decide (0 ≤ n) && decide (n < most)
def okNumG (p : Pg) (size : Int) (x : Ins) (k : Nat) : Bool :=
  if h : k < (kindsB x.op).size then fitsG p size (((kindsB x.op)[k]).toNat : Int) (x.num k) else x.num k == 0
def insFaultG (p : Pg) (size : Int) (x : Ins) : Option Int :=
  if (nameB x.op).toList.isEmpty then some 2 else if okNumG p size x 0 && okNumG p size x 1 && okNumG p size x 2 then none else some 3
def threadFaultG (p : Pg) (t : Nat) : Option Flt :=
  if 400 < (nth p.code t).length then some ⟨1, t, 0⟩ else
  first (fun at_ => (insFaultG p (nth p.code t).length (nth (nth p.code t) at_)).map fun e => ⟨e, t, at_⟩) ((nth p.code t).length - 0) 0
def checkG (p : Pg) : Flt :=
  if p.code.length < 1 ∨ 4 < p.code.length ∨ 64 < p.words.length then ⟨1, 0, 0⟩ else
  if p.locks < 0 ∨ 4 < p.locks ∨ p.regs < 1 ∨ 200 < p.regs then ⟨3, 0, 0⟩ else
  (first (threadFaultG p) (p.code.length - 0) 0).getD ⟨0, 0, 0⟩

theorem nth_map' {α β : Type} [Inhabited α] [Inhabited β] (f : α → β) (l : List α) (i : Nat) (h : i < l.length) : nth (l.map f) i = f (nth l i) := by simp [nth, h]
theorem first_congr {β : Type} {f g : Nat → Option β} : ∀ (n i : Nat), (∀ j, i ≤ j → j < i + n → f j = g j) → first f n i = first g n i
  | 0, _, _ => rfl
  | n + 1, i, h => by
    rw [first, first, h i (Nat.le_refl _) (by omega), first_congr n (i + 1) fun j h1 h2 => h j (by omega) (by omega)]

section
variable {α : Type} [Enc α]
def toSl (x : Ls α) : Sl α := match x.v with | .slice A _ c => ⟨A, c, x.l⟩ | _ => ⟨none, 0, x.l⟩
theorem toSl_l {β : Type} (x : Ls β) : (toSl x).l = x.l := by unfold toSl; split <;> rfl
theorem toSl_at {x : Ls α} {w : World} (h : x.At w) : (toSl x).At w ∧ x.v = .slice (toSl x).A (toSl x).l.length (toSl x).cap := by
  obtain ⟨A, cap, hv, hA⟩ := h
  have e : toSl x = ⟨A, cap, x.l⟩ := by unfold toSl; rw [hv]
  rw [e]
  exact ⟨hA, hv⟩
theorem toSl_at2 {x : Ls (Ls α)} {w : World} (h : x.At w) : (⟨(toSl x).A, (toSl x).cap, x.l.map toSl⟩ : Sl (Sl α)).At w := by
  obtain ⟨hA, hv⟩ := toSl_at h
  have hl := toSl_l x
  refine ⟨by simpa [hl] using hA.le, hA.max, by simpa [hl] using hA.len, by simpa [hl] using hA.some, by simpa [hl] using hA.lt', fun i j hi hj => ?_, fun i hi => ?_⟩
  · have hi' : i < x.l.length := by simpa using hi
    have h1 := hA.cell i j (by rw [hl]; exact hi') hj
    show w.cell? _ = some (Enc.cell (nth (x.l.map toSl) i) j)
    rw [nth_map' toSl _ _ hi']
    have hx := (toSl_at (hA.inner i (by rw [hl]; exact hi')))
    rw [hl] at h1 hx
    show _ = some (Value.slice (toSl (nth x.l i)).A (toSl (nth x.l i)).l.length (toSl (nth x.l i)).cap)
    rw [← hx.2]
    exact h1
  · have hi' : i < x.l.length := by simpa using hi
    show Enc.inner (nth (x.l.map toSl) i) w
    rw [nth_map' toSl _ _ hi']
    have := hA.inner i (by rw [hl]; exact hi')
    rw [hl] at this
    exact (toSl_at this).1
end
/-- A program out of what its parameters read as. -/
def pgOf (code : Ls (Ls Ins)) (words : Ls Int) (locks regs : Int) : Pg := ⟨code.l.map (·.l), words.l, locks, regs⟩
def prOf (code : Ls (Ls Ins)) (words : Ls Int) (locks regs : Int) : PR := ⟨⟨(toSl code).A, (toSl code).cap, code.l.map toSl⟩, toSl words, locks, regs⟩
section
variable {code : Ls (Ls Ins)} {words : Ls Int} {locks regs : Int} {W : World}
theorem prOf_at (hc : code.At W) (hw : words.At W) : (prOf code words locks regs).At W := ⟨toSl_at2 hc, (toSl_at hw).1⟩
theorem prOf_val (hc : code.At W) (hw : words.At W) : (prOf code words locks regs).val = .agg #[code.v, words.v, .int .i64 locks, .int .i64 regs] := by
  have h1 := (toSl_at hc).2
  have h2 := (toSl_at hw).2
  rw [toSl_l] at h1
  simp only [PR.val, prOf, List.length_map]
  rw [← h1, ← h2]
theorem fits_eq (size kind n : Int) : fitsB (prOf code words locks regs) size kind n = fitsG (pgOf code words locks regs) size kind n := by
  unfold fitsB fitsG
  have e1 : (prOf code words locks regs).words.l.length = (pgOf code words locks regs).words.length := by simp [prOf, pgOf, toSl_l]
  rw [e1]
  rfl
theorem checkF_eq : checkF (prOf code words locks regs) = checkG (pgOf code words locks regs) := by
  have hcl : (prOf code words locks regs).code.l.length = code.l.length := by simp [prOf]
  have hwl : (prOf code words locks regs).words.l.length = words.l.length := by simp [prOf, toSl_l]
  have hgl : (pgOf code words locks regs).code.length = code.l.length := by simp [pgOf]
  have hgw : (pgOf code words locks regs).words.length = words.l.length := by simp [pgOf]
  unfold checkF checkG
  rw [hcl, hwl, hgl, hgw]
  have e1 : (prOf code words locks regs).locks = locks := rfl
  have e2 : (prOf code words locks regs).regs = regs := rfl
  have e3 : (pgOf code words locks regs).locks = locks := rfl
  have e4 : (pgOf code words locks regs).regs = regs := rfl
  rw [e1, e2, e3, e4]
  congr 3
  refine first_congr _ _ fun t _ ht => ?_
  have ht' : t < code.l.length := by omega
  unfold threadFault threadFaultG
  have e5 : (nth (prOf code words locks regs).code.l t).l = nth (pgOf code words locks regs).code t := by
    show (nth (code.l.map toSl) t).l = nth (code.l.map (·.l)) t
    rw [nth_map' _ _ _ ht', nth_map' _ _ _ ht', toSl_l]
  rw [e5]
  split
  · rfl
  · refine first_congr _ _ fun j _ _ => ?_
    have : ∀ (size : Int) (x : Ins), insFault (prOf code words locks regs) size x = insFaultG (pgOf code words locks regs) size x := by
      intro size x
      simp only [insFault, insFaultG, okNum, okNumG, fits_eq]
      rfl
    rw [this]
theorem asmCheck_c (hc : code.At W) (hw : words.At W) : Rets Try.prog 17 [.agg #[code.v, words.v, .int .i64 locks, .int .i64 regs]] W (fun v w' => v = (checkG (pgOf code words locks regs)).val ∧ Sh0 W w' []) := by
  have h := asmCheck_any (prOf code words locks regs) W (prOf_at hc hw)
  rw [prOf_val hc hw, checkF_eq] at h
  exact Calls.mono h fun e w' ⟨he, hb⟩ => ⟨_, he, rfl, Chg.below hb, by simp, by simp, by simp, .nil⟩
def vastG (code : List (List Ins)) (words : List Int) : Bool :=
  decide (((code.length : Int) + words.length + ((code.take 100).map fun s => (s.length : Int)).sum) > 5000) || decide ((code.length : Int) > 100)
end

/-! What it says of a program that may be. -/
structure OkIns (p : Pg) (size : Int) (x : Ins) : Prop where
  op : 1 ≤ x.op ∧ x.op ≤ 18
  n0 : okNumG p size x 0 = true
  n1 : okNumG p size x 1 = true
  n2 : okNumG p size x 2 = true
structure OkPg (p : Pg) : Prop where
  code : 1 ≤ p.code.length ∧ p.code.length ≤ 4
  words : p.words.length ≤ 64
  locks : 0 ≤ p.locks ∧ p.locks ≤ 4
  regs : 1 ≤ p.regs ∧ p.regs ≤ 200
  len : ∀ t, t < p.code.length → (nth p.code t).length ≤ 400
  ins : ∀ t i, t < p.code.length → i < (nth p.code t).length → OkIns p (nth p.code t).length (nth (nth p.code t) i)
theorem first_none {β : Type} {f : Nat → Option β} : ∀ (n i : Nat), first f n i = none ↔ ∀ j, i ≤ j → j < i + n → f j = none
  | 0, i => by simp [first]; omega
  | n + 1, i => by
    rw [first]
    cases h : f i with
    | some b =>
      simp only [reduceCtorEq, false_iff]
      intro hh
      have := hh i (Nat.le_refl _) (by omega)
      rw [h] at this; cases this
    | none =>
      simp only
      rw [first_none n (i + 1)]
      constructor
      · intro hh j h1 h2
        rcases Nat.eq_or_lt_of_le h1 with rfl | h3
        · exact h
        · exact hh j h3 (by omega)
      · intro hh j h1 h2
        exact hh j (by omega) (by omega)
theorem first_some {β : Type} {f : Nat → Option β} {b : β} : ∀ (n i : Nat), first f n i = some b → ∃ j, i ≤ j ∧ j < i + n ∧ f j = some b
  | 0, i, h => by simp [first] at h
  | n + 1, i, h => by
    rw [first] at h
    cases hf : f i with
    | some c => rw [hf] at h; exact ⟨i, Nat.le_refl _, by omega, by rw [hf]; exact h⟩
    | none =>
      rw [hf] at h
      obtain ⟨j, h1, h2, h3⟩ := first_some n (i + 1) h
      exact ⟨j, by omega, by omega, h3⟩
theorem insFaultG_none {p : Pg} {size : Int} {x : Ins} : insFaultG p size x = none ↔ OkIns p size x := by
  unfold insFaultG
  rw [nameB_empty]
  constructor
  · intro h
    split at h
    · cases h
    · rename_i hop
      split at h
      · rename_i hall
        simp only [Bool.and_eq_true] at hall
        refine ⟨?_, hall.1.1, hall.1.2, hall.2⟩
        have : opB x.op = true := by simpa using hop
        simpa [opB] using this
      · cases h
  · intro h
    rw [if_neg (by simp [opB, h.op.1, h.op.2]), if_pos (by simp [h.n0, h.n1, h.n2])]
theorem checkG_code_pos {p : Pg} : (checkG p).code = 0 ↔ OkPg p := by
  unfold checkG
  split
  · rename_i h
    simp only [Int.reduceEq, false_iff]
    intro hk
    have := hk.code; have := hk.words; omega
  · split
    · rename_i h
      simp only [Int.reduceEq, false_iff]
      intro hk
      have := hk.locks; have := hk.regs; omega
    · rename_i h1 h2
      have key : first (threadFaultG p) (p.code.length - 0) 0 = none ↔ OkPg p := by
        rw [first_none]
        constructor
        · intro hh
          have ht : ∀ t, t < p.code.length → threadFaultG p t = none := fun t ht => hh t (Nat.zero_le _) (by omega)
          refine ⟨by omega, by omega, by omega, by omega, fun t h => ?_, fun t i h hi => ?_⟩
          · have := ht t h
            unfold threadFaultG at this
            split at this
            · cases this
            · omega
          · have := ht t h
            unfold threadFaultG at this
            split at this
            · cases this
            · have := (first_none _ _).1 this i (Nat.zero_le _) (by omega)
              simp only [Option.map_eq_none_iff] at this
              exact insFaultG_none.1 this
        · intro hk t _ ht
          unfold threadFaultG
          rw [if_neg (by have := hk.len t (by omega); omega), first_none]
          intro i _ hi
          rw [Option.map_eq_none_iff]
          exact insFaultG_none.2 (hk.ins t i (by omega) (by omega))
      rw [← key]
      cases hf : first (threadFaultG p) (p.code.length - 0) 0 with
      | none => simp
      | some b =>
        simp only [Option.getD_some, reduceCtorEq, iff_false]
        obtain ⟨t, _, _, h3⟩ := first_some _ _ hf
        unfold threadFaultG at h3
        split at h3
        · simp only [Option.some.injEq] at h3; subst h3; simp
        · obtain ⟨i, _, _, h4⟩ := first_some _ _ h3
          simp only [Option.map_eq_some_iff] at h4
          obtain ⟨e, he, rfl⟩ := h4
          unfold insFaultG at he
          split at he
          · simp at he; subst he; simp
          · split at he
            · cases he
            · simp at he; subst he; simp
theorem checkG_ok {p : Pg} (h : OkPg p) : checkG p = ⟨0, 0, 0⟩ := by
  have h0 := checkG_code_pos.2 h
  unfold checkG at h0 ⊢
  split at h0
  · cases h0
  · split at h0
    · cases h0
    · rename_i h1 h2
      rw [if_neg h1, if_neg h2]
      cases hf : first (threadFaultG p) (p.code.length - 0) 0 with
      | none => rfl
      | some b =>
        exfalso
        rw [hf] at h0
        obtain ⟨t, _, _, h3⟩ := first_some _ _ hf
        unfold threadFaultG at h3
        split at h3
        · simp only [Option.some.injEq] at h3; subst h3; simp at h0
        · obtain ⟨i, _, _, h4⟩ := first_some _ _ h3
          simp only [Option.map_eq_some_iff] at h4
          obtain ⟨e, he, rfl⟩ := h4
          unfold insFaultG at he
          split at he
          · simp at he; subst he; simp at h0
          · split at he
            · cases he
            · simp at he; subst he; simp at h0
end Go.Proofs.Ytmgikmjmdppfmaa
