import Derived.Test.YtmgikmjmdppfmaaRows
import Derived.Test.YtmgikmjmdppfmaaBase
import Derived.Deep.QuietTactic
import Derived.BigQuiet
import Derived.Test.YtmgikmjmdppfmaaMaps
section
section
namespace Go.Proofs.Ytmgikmjmdppfmaa
open Go.RowKit
set_option linter.unusedSimpArgs false
set_option linter.unusedVariables false

/-- An order's name; empty: it is none. -/
def nameB (op : Int) : ByteArray :=
  if op = 1 then ⟨#[99, 111, 110, 115, 116]⟩ else
  if op = 2 then ⟨#[109, 111, 118, 101]⟩ else
  if op = 3 then ⟨#[97, 100, 100]⟩ else
  if op = 4 then ⟨#[115, 117, 98]⟩ else
  if op = 5 then ⟨#[109, 117, 108]⟩ else
  if op = 6 then ⟨#[108, 101, 115, 115]⟩ else
  if op = 7 then ⟨#[115, 97, 109, 101]⟩ else
  if op = 8 then ⟨#[108, 111, 97, 100]⟩ else
  if op = 9 then ⟨#[115, 116, 111, 114, 101]⟩ else
  if op = 10 then ⟨#[108, 111, 97, 100, 97, 116]⟩ else
  if op = 11 then ⟨#[115, 116, 111, 114, 101, 97, 116]⟩ else
  if op = 12 then ⟨#[102, 101, 110, 99, 101]⟩ else
  if op = 13 then ⟨#[99, 97, 115]⟩ else
  if op = 14 then ⟨#[106, 117, 109, 112]⟩ else
  if op = 15 then ⟨#[122, 101, 114, 111]⟩ else
  if op = 16 then ⟨#[112, 114, 105, 110, 116]⟩ else
  if op = 17 then ⟨#[108, 111, 99, 107]⟩ else
  if op = 18 then ⟨#[117, 110, 108, 111, 99, 107]⟩ else
  ⟨#[]⟩
/-- What an order's numbers are. -/
def kindsB (op : Int) : ByteArray :=
  if op = 1 then ⟨#[114, 110]⟩ else
  if op = 2 then ⟨#[114, 114]⟩ else
  if op = 3 then ⟨#[114, 114, 114]⟩ else
  if op = 4 then ⟨#[114, 114, 114]⟩ else
  if op = 5 then ⟨#[114, 114, 114]⟩ else
  if op = 6 then ⟨#[114, 114, 114]⟩ else
  if op = 7 then ⟨#[114, 114, 114]⟩ else
  if op = 8 then ⟨#[114, 119]⟩ else
  if op = 9 then ⟨#[119, 114]⟩ else
  if op = 10 then ⟨#[114, 114]⟩ else
  if op = 11 then ⟨#[114, 114]⟩ else
  if op = 12 then ⟨#[]⟩ else
  if op = 13 then ⟨#[119, 114, 114]⟩ else
  if op = 14 then ⟨#[99]⟩ else
  if op = 15 then ⟨#[114, 99]⟩ else
  if op = 16 then ⟨#[114]⟩ else
  if op = 17 then ⟨#[108]⟩ else
  if op = 18 then ⟨#[108]⟩ else
  ⟨#[]⟩

/-- May a number of a kind be? -/
def fitsB (p : PR) (size kind n : Int) : Bool :=
  if kind = 110 then true else
  let most := if kind = 114 then p.regs else if kind = 119 then (p.words.l.length : Int) else if kind = 108 then p.locks else if kind = 99 then wrap64 (size + 1) else 0
  decide (0 ≤ n) && decide (n < most)

end Go.Proofs.Ytmgikmjmdppfmaa
end
namespace Go.Proofs.Ytmgikmjmdppfmaa
open Go.RowKit
set_option linter.unusedSimpArgs false
set_option linter.unusedVariables false

/-- The k-th of an order's numbers. -/
def Ins.num (x : Ins) (k : Nat) : Int := match k with | 0 => x.a | 1 => x.b | _ => x.c
/-- May the k-th number of an order be what it is? -/
def okNum (p : PR) (size : Int) (x : Ins) (k : Nat) : Bool :=
  if h : k < (kindsB x.op).size then fitsB p size (((kindsB x.op)[k]).toNat : Int) (x.num k) else x.num k == 0
/-- What is wrong with an order. -/
def insFault (p : PR) (size : Int) (x : Ins) : Option Int :=
  if (nameB x.op).toList.isEmpty then some 2 else if okNum p size x 0 && okNum p size x 1 && okNum p size x 2 then none else some 3

/-- The first place from i on at which f says something, k places looked at. -/
def first {β : Type} (f : Nat → Option β) : Nat → Nat → Option β
  | 0, _ => none
  | k + 1, i => match f i with
    | some b => some b
    | none => first f k (i + 1)
theorem first_next {β : Type} {f : Nat → Option β} {n i : Nat} (hi : i < n) (h : f i = none) : first f (n - i) i = first f (n - (i + 1)) (i + 1) := by
  obtain ⟨k, hk⟩ : ∃ k, n - i = k + 1 := ⟨n - i - 1, by omega⟩
  have : n - (i + 1) = k := by omega
  rw [hk, this, first, h]
theorem first_hit {β : Type} {f : Nat → Option β} {n i : Nat} {b : β} (hi : i < n) (h : f i = some b) : first f (n - i) i = some b := by
  obtain ⟨k, hk⟩ : ∃ k, n - i = k + 1 := ⟨n - i - 1, by omega⟩
  rw [hk, first, h]

structure Flt where
  code : Int
  thread : Int
  at_ : Int
  deriving DecidableEq
def Flt.val (f : Flt) : Value := .agg #[.int .i64 f.code, .int .i64 f.thread, .int .i64 f.at_]

def threadFault (p : PR) (t : Nat) : Option Flt :=
  if 400 < (nth p.code.l t).l.length then some ⟨1, t, 0⟩ else
  first (fun at_ => (insFault p (nth p.code.l t).l.length (nth (nth p.code.l t).l at_)).map fun e => ⟨e, t, at_⟩) ((nth p.code.l t).l.length - 0) 0
def checkF (p : PR) : Flt :=
  if p.code.l.length < 1 ∨ 4 < p.code.l.length ∨ 64 < p.words.l.length then ⟨1, 0, 0⟩ else
  if p.locks < 0 ∨ 4 < p.locks ∨ p.regs < 1 ∨ 200 < p.regs then ⟨3, 0, 0⟩ else
  (first (threadFault p) (p.code.l.length - 0) 0).getD ⟨0, 0, 0⟩
theorem checkF_size (p : PR) (h : p.code.l.length < 1 ∨ 4 < p.code.l.length ∨ 64 < p.words.l.length) : checkF p = ⟨1, 0, 0⟩ := by
  unfold checkF; rw [if_pos h]
theorem checkF_range (p : PR) (h : ¬ (p.code.l.length < 1 ∨ 4 < p.code.l.length ∨ 64 < p.words.l.length)) (h2 : p.locks < 0 ∨ 4 < p.locks ∨ p.regs < 1 ∨ 200 < p.regs) : checkF p = ⟨3, 0, 0⟩ := by
  unfold checkF; rw [if_neg h, if_pos h2]
theorem checkF_first (p : PR) (h : ¬ (p.code.l.length < 1 ∨ 4 < p.code.l.length ∨ 64 < p.words.l.length)) (h2 : ¬ (p.locks < 0 ∨ 4 < p.locks ∨ p.regs < 1 ∨ 200 < p.regs)) :
    checkF p = (first (threadFault p) (p.code.l.length - 0) 0).getD ⟨0, 0, 0⟩ := by
  unfold checkF; rw [if_neg h, if_neg h2]

def threadScan (p : PR) (t i : Nat) : Option Flt :=
  first (fun at_ => (insFault p (nth p.code.l t).l.length (nth (nth p.code.l t).l at_)).map fun e => ⟨e, t, at_⟩) ((nth p.code.l t).l.length - i) i

end Go.Proofs.Ytmgikmjmdppfmaa
end
section
namespace Go.Proofs.Ytmgikmjmdppfmaa
open Go.RowKit
set_option linter.unusedSimpArgs false
set_option linter.unusedVariables false

def shapeV (op : Int) : Value := .agg #[.string (nameB op), .string (kindsB op)]
/-- What shapes() holds. -/
def shapesL : List (Int × Value) := (List.range 18).map fun i : Nat => ((i : Int) + 1, shapeV ((i : Int) + 1))

set_option maxHeartbeats 2000000 in
theorem shapes_any (w : World) :
    Calls Try.prog 36 #[] w fun e w' => ∃ g, w.heap.size ≤ g ∧ e = .returned (.map (some g)) ∧ MapI w' g shapesL ∧ Below w.heap.size w w' := by
  have hmm := @run_makeMap Try.prog
  go_enter Try.func36, Try.ntmps36
  go_wp2
  go_ret
  exact ⟨w.heap.size, Nat.le_refl _, rfl, ⟨_, _, Go.heap_alloc_new w _, by kernel_rfl⟩, (Below.refl _ _).alloc (Nat.le_refl _) _⟩

/-- Is a number an order's? -/
def opB (op : Int) : Bool := decide (1 ≤ op ∧ op ≤ 18)
theorem cases18 (op : Int) (h : 1 ≤ op ∧ op ≤ 18) : op = 1 ∨ op = 2 ∨ op = 3 ∨ op = 4 ∨ op = 5 ∨ op = 6 ∨ op = 7 ∨ op = 8 ∨ op = 9 ∨ op = 10 ∨ op = 11 ∨ op = 12 ∨ op = 13 ∨ op = 14 ∨ op = 15 ∨ op = 16 ∨ op = 17 ∨ op = 18 := by omega
theorem nameB_none (op : Int) (h : ¬ (1 ≤ op ∧ op ≤ 18)) : nameB op = ⟨#[]⟩ := by
  unfold nameB
  iterate 18 rw [if_neg (by omega)]
theorem kindsB_none (op : Int) (h : ¬ (1 ≤ op ∧ op ≤ 18)) : kindsB op = ⟨#[]⟩ := by
  unfold kindsB
  iterate 18 rw [if_neg (by omega)]
theorem nameB_empty (op : Int) : (nameB op).toList.isEmpty = !opB op := by
  unfold opB
  by_cases h : 1 ≤ op ∧ op ≤ 18
  · rw [decide_eq_true h]
    rcases cases18 op h with h | h | h | h | h | h | h | h | h | h | h | h | h | h | h | h | h | h <;> subst h <;> first | (simp [nameB]; done) | (unfold nameB; decide +kernel)
  · rw [decide_eq_false h, nameB_none op h]; first | (simp; done) | decide +kernel
theorem atKey_none (k : Int) : ∀ (l : List (Int × Value)) (i : Nat), (∀ x ∈ l, x.1 ≠ k) → atKey k l i = none
  | [], _, _ => rfl
  | x :: l, i, h => by
    rw [atKey, if_neg (fun e => h x (by simp) e.symm), atKey_none k l (i + 1) fun y hy => h y (by simp [hy])]
theorem shapes_at (op : Int) : (atKey op shapesL 0).isSome = opB op ∧ ((atKey op shapesL 0).map (·.2)).getD (.agg #[.string ⟨#[]⟩, .string ⟨#[]⟩]) = shapeV op := by
  unfold opB
  by_cases h : 1 ≤ op ∧ op ≤ 18
  · rw [decide_eq_true h]
    rcases cases18 op h with h | h | h | h | h | h | h | h | h | h | h | h | h | h | h | h | h | h <;> subst h <;> exact ⟨rfl, rfl⟩
  · rw [decide_eq_false h, atKey_none]
    · exact ⟨rfl, by simp [shapeV, nameB_none op h, kindsB_none op h]⟩
    · intro x hx
      simp only [shapesL, List.mem_map, List.mem_range] at hx
      obtain ⟨i, hi, rfl⟩ := hx
      dsimp only
      omega

/-- Looking an order up in shapes(). -/
theorem shapes_lookup (w : World) (g : Nat) (op : Int) (h : MapI w g shapesL) :
    (Instr.lookup 81 (.map (some g)) (.int .i64 op) true).run Try.prog w = .ok (.tuple #[.agg #[.string (nameB op), .string (kindsB op)], .bool (opB op)]) w := by
  have h1 := run_lookup_ok (P := Try.prog) w 81 3 79 g op shapesL (.agg #[.string ⟨#[]⟩, .string ⟨#[]⟩]) (by simp) (by simp) (by simp) h
  rw [(shapes_at op).1, (shapes_at op).2] at h1
  exact h1
theorem shapes_lookup1 (w : World) (g : Nat) (op : Int) (h : MapI w g shapesL) :
    (Instr.lookup 81 (.map (some g)) (.int .i64 op) false).run Try.prog w = .ok (.agg #[.string (nameB op), .string (kindsB op)]) w := by
  have h1 := run_lookup_int (P := Try.prog) w 81 3 79 g op shapesL (.agg #[.string ⟨#[]⟩, .string ⟨#[]⟩]) (by simp) (by simp) (by simp) h
  rw [(shapes_at op).2] at h1
  exact h1

set_option maxHeartbeats 1000000 in
theorem asmNumbers_any (x : Ins) (w : World) :
    Calls Try.prog 37 #[x.val] w fun e w' => e = .returned (.agg #[.int .i64 x.a, .int .i64 x.b, .int .i64 x.c]) ∧ Below w.heap.size w w' := by
  unfold Ins.val
  go_enter Try.func37, Try.ntmps37
  go_wp2
  refine bodyPost_ret (v := .agg #[.int .i64 x.a, .int .i64 x.b, .int .i64 x.c]) (by simp [results, Try.results37, go_sem]) rfl ⟨rfl, ?_⟩
  exact (by repeat (first | assumption | exact Below.refl _ _ | refine bset ?_ (by first | omega | (simp; done) | (simp; omega)) _ | refine Below.alloc ?_ (by first | omega | (simp; done) | (simp; omega)) _ | refine Below.drew ?_))

set_option maxHeartbeats 1000000 in
theorem asmFits_any (p : PR) (c : Sl Ins) (kind n : Int) (w : World) (h : p.At w) (hc : c.l.length ≤ 140737488355328) :
    Calls Try.prog 38 #[p.val, .slice c.A c.l.length c.cap, .int .u8 kind, .int .i64 n] w fun e w' => e = .returned (.bool (fitsB p c.l.length kind n)) ∧ Below w.heap.size w w' := by
  have e : wrap64 ((c.l.length : Int) + 1) = c.l.length + 1 := IntWalk.wrap64_in _ ⟨by omega, by omega⟩
  have E := hid e
  clear e
  unfold PR.val
  go_enter Try.func38, Try.ntmps38
  go_wp2
  all_goals
    go_ret
    refine ⟨?_, (by repeat (first | assumption | exact Below.refl _ _ | refine bset ?_ (by first | omega | (simp; done) | (simp; omega)) _ | refine Below.alloc ?_ (by first | omega | (simp; done) | (simp; omega)) _ | refine Below.drew ?_))⟩
    simp_all [fitsB, E.out]
    try omega
end Go.Proofs.Ytmgikmjmdppfmaa
end
namespace Go.Proofs.Ytmgikmjmdppfmaa
open Go.RowKit
set_option linter.unusedSimpArgs false
set_option linter.unusedVariables false

theorem index3 (x : Ins) (m : Nat) (hm : m < 3) (w : World) : (Instr.index 83 (.agg #[.int .i64 x.a, .int .i64 x.b, .int .i64 x.c]) (.int .i64 (m : Int))).run Try.prog w = .ok (.int .i64 (x.num m)) w := by
  match m, hm with
  | 0, _ => show _ = _; kernel_rfl
  | 1, _ => show _ = _; kernel_rfl
  | 2, _ => show _ = _; kernel_rfl

set_option maxRecDepth 100000 in
set_option maxHeartbeats 2000000 in
theorem asmCheck_any (p : PR) (w : World) (h : p.At w) :
    Calls Try.prog 17 #[p.val] w fun e w' => e = .returned (checkF p).val ∧ Below w.heap.size w w' := by
  have hc := h.code
  have hw := h.words
  have hno0 := hc.noHead
  have hno1 := hc.no (w.heap.size + 1) (by omega)
  have hcl := hc.len
  have hwl := h.words.len
  unfold PR.val
  by_cases h1 : p.code.l.length < 1 ∨ 4 < p.code.l.length ∨ 64 < p.words.l.length
  · have Hf := hid (checkF_size p h1)
    go_enter Try.func17, Try.ntmps17
    go_wp2
    all_goals
      refine bodyPost_ret (v := Flt.val ⟨1, 0, 0⟩) (by simp [results, Try.results17, go_sem, Flt.val]) rfl ⟨by rw [Hf.out], ?_⟩
      exact (by repeat (first | assumption | exact Below.refl _ _ | refine bset ?_ (by first | omega | (simp; done) | (simp; omega)) _ | refine Below.alloc ?_ (by first | omega | (simp; done) | (simp; omega)) _ | refine Below.drew ?_))
  · by_cases h2 : p.locks < 0 ∨ 4 < p.locks ∨ p.regs < 1 ∨ 200 < p.regs
    · have Hf := hid (checkF_range p h1 h2)
      go_enter Try.func17, Try.ntmps17
      go_wp2
      all_goals
        refine bodyPost_ret (v := Flt.val ⟨3, 0, 0⟩) (by simp [results, Try.results17, go_sem, Flt.val]) rfl ⟨by rw [Hf.out], ?_⟩
        exact (by repeat (first | assumption | exact Below.refl _ _ | refine bset ?_ (by first | omega | (simp; done) | (simp; omega)) _ | refine Below.alloc ?_ (by first | omega | (simp; done) | (simp; omega)) _ | refine Below.drew ?_))
    · have Hf := hid (checkF_first p h1 h2)
      go_enter Try.func17, Try.ntmps17
      go_wp2
      have hW1 : Below w.heap.size w ((w.alloc (Obj.cells #[Value.slice p.code.A p.code.l.length p.code.cap, Value.slice p.words.A p.words.l.length p.words.cap, Value.int IntKind.i64 p.locks, Value.int IntKind.i64 p.regs] 25)).alloc (Obj.cells #[Value.int IntKind.i64 0, Value.int IntKind.i64 0, Value.int IntKind.i64 0] 29)) := (by repeat (first | assumption | exact Below.refl _ _ | refine bset ?_ (by first | omega | (simp; done) | (simp; omega)) _ | refine Below.alloc ?_ (by first | omega | (simp; done) | (simp; omega)) _ | refine Below.drew ?_))
      have hB0 := (Blk.new w 25 #[Value.slice p.code.A p.code.l.length p.code.cap, Value.slice p.words.A p.words.l.length p.words.cap, Value.int IntKind.i64 p.locks, Value.int IntKind.i64 p.regs]).alloc (Obj.cells #[Value.int IntKind.i64 0, Value.int IntKind.i64 0, Value.int IntKind.i64 0] 29)
      have hB1 := Blk.new (w.alloc (Obj.cells #[Value.slice p.code.A p.code.l.length p.code.cap, Value.slice p.words.A p.words.l.length p.words.cap, Value.int IntKind.i64 p.locks, Value.int IntKind.i64 p.regs] 25)) 29 #[Value.int IntKind.i64 0, Value.int IntKind.i64 0, Value.int IntKind.i64 0]
      rw [World.size_alloc] at hB1
      generalize (w.alloc _).alloc _ = w1 at *
      go_loopw [52] (fun i wr => ∃ t : Nat, t ≤ p.code.l.length ∧ i = .int .i64 t ∧ Below w1.heap.size w1 wr ∧ Hid (checkF p = (first (threadFault p) (p.code.l.length - t) t).getD ⟨0, 0, 0⟩)) (fun i _ => p.code.l.length - (intOf i).toNat)
      case atStart => exact ⟨0, by omega, rfl, Below.refl _ _, Hf⟩
      case round =>
        obtain ⟨t, ht, rfl, hbr, hF⟩ := hrel
        clear Hf
        have hcr := (hc.below' hW1).below' hbr
        have hwr := (hw.below' hW1).below' hbr
        have hB0r := hB0.below' hbr
        have hB1r := hB1.below' hbr
        obtain ⟨c10, c11, c12⟩ := hB1r.cells3
        obtain ⟨f10, f11, f12⟩ := hB1r.frozen3
        have hWr := bstep hW1 hbr hW1.size
        have hl0 := hB0r.lt
        have hl1 := hB1r.lt
        by_cases hlt : t < p.code.l.length
        · have hrl := (hcr.inner t hlt).len
          by_cases h400 : 400 < (nth p.code.l t).l.length
          · have hT := hid (show checkF p = ⟨1, t, 0⟩ by rw [hF.out, first_hit hlt (by unfold threadFault; rw [if_pos h400])]; rfl)
            go_wp2
            refine bodyPost_ret (v := Flt.val ⟨1, t, 0⟩) (by simp [results, Try.results17, go_sem, Flt.val, c10, c11, c12, f10, f11, f12]) rfl ⟨by rw [hT.out], ?_⟩
            exact (by repeat (first | assumption | exact Below.refl _ _ | refine bset ?_ (by first | omega | (simp; done) | (simp; omega)) _ | refine Below.alloc ?_ (by first | omega | (simp; done) | (simp; omega)) _ | refine Below.drew ?_))
          · have hT := hid (show threadFault p t = threadScan p t 0 by unfold threadFault threadScan; rw [if_neg h400])
            go_wp2
            have hsr : p.code.l.length ≤ 4 := by omega
            clear c10 c11 c12 f10 f11 f12
            obtain ⟨wo, rfl⟩ : ∃ wo, wo = wr := ⟨_, rfl⟩
            go_loopw [64] (fun i ws => ∃ k : Nat, k ≤ (nth p.code.l t).l.length ∧ i = .int .i64 k ∧ Below wo.heap.size wo ws ∧ Hid (threadFault p t = threadScan p t k)) (fun i _ => (nth p.code.l t).l.length - (intOf i).toNat)
            case atStart => exact ⟨0, by omega, rfl, Below.refl _ _, hT⟩
            case round =>
              obtain ⟨k, hk, rfl, hbs, hF2⟩ := hrel
              clear hT
              have hcs := hcr.below' hbs
              have hws := hwr.below' hbs
              have hB0s := hB0r.below' hbs
              have hB1s := hB1r.below' hbs
              have hWs := bstep hWr hbs hWr.size
              have hl0 := hB0s.lt
              have hl1 := hB1s.lt
              by_cases hkt : k < (nth p.code.l t).l.length
              · go_wp2
                have hA4 := Blk.new wr 44 #[.int .i64 (nth (nth p.code.l t).l k).op, .int .i64 (nth (nth p.code.l t).l k).a, .int .i64 (nth (nth p.code.l t).l k).b, .int .i64 (nth (nth p.code.l t).l k).c]
                have hb4 : Below wr.heap.size wr (wr.alloc (Obj.cells #[.int .i64 (nth (nth p.code.l t).l k).op, .int .i64 (nth (nth p.code.l t).l k).a, .int .i64 (nth (nth p.code.l t).l k).b, .int .i64 (nth (nth p.code.l t).l k).c] 44)) := (by repeat (first | assumption | exact Below.refl _ _ | refine bset ?_ (by first | omega | (simp; done) | (simp; omega)) _ | refine Below.alloc ?_ (by first | omega | (simp; done) | (simp; omega)) _ | refine Below.drew ?_))
                have hl2 := hA4.lt
                generalize (wr.alloc _) = w4 at *
                go_cut [7, 8] (fun s ok wc => ∃ g, s = .pointer (some ⟨g, 0, none⟩) ∧ w4.heap.size ≤ g ∧ Blk wc g 79 #[.string (nameB (nth (nth p.code.l t).l k).op), .string (kindsB (nth (nth p.code.l t).l k).op)] ∧ ok = .bool (opB (nth (nth p.code.l t).l k).op) ∧ Below w4.heap.size w4 wc)
                case first =>
                  have hl2' : wr.heap.size < w4.heap.size + 1 := by omega
                  have hcell : w4.cell? ⟨wr.heap.size, 0, none⟩ = some (.int .i64 (nth (nth p.code.l t).l k).op) := hA4.cell 0
                  go_region_with ((go_at_call 36; refine (shapes_any _).mono ?_; rintro e w' ⟨g, hg, rfl, hM, hb⟩; have hlk := fun W => shapes_lookup W g (nth (nth p.code.l t).l k).op; obtain ⟨hcc, hff⟩ := bcell hb; have hl3 : w4.heap.size ≤ w'.heap.size := (by have := hb.size; simp at this; omega); have hl4 : g < w'.heap.size := hM.lt; have hl5 : wr.heap.size < w'.heap.size := (by omega); have hbw : Below w4.heap.size w4 w' := (by refine Below.trans ?_ (hb.mono ?_); exact (by repeat (first | assumption | exact Below.refl _ _ | refine bset ?_ (by first | omega | (simp; done) | (simp; omega)) _ | refine Below.alloc ?_ (by first | omega | (simp; done) | (simp; omega)) _ | refine Below.drew ?_)); simp)))
                  all_goals
                    go_wp2
                    go_meet
                    case rel =>
                      first
                        | exact ⟨_, rfl, hl3, Blk.new _ _ _, rfl, (by repeat (first | assumption | exact Below.refl _ _ | refine bset ?_ (by first | omega | (simp; done) | (simp; omega)) _ | refine Below.alloc ?_ (by first | omega | (simp; done) | (simp; omega)) _ | refine Below.drew ?_))⟩
                        | exact ⟨_, rfl, Nat.le_refl _, ((Blk.below' (Blk.drew (Blk.new w4 _ _)) hb).set_ 0 _).set_ 1 _, rfl, (by repeat (first | assumption | exact Below.refl _ _ | refine bset ?_ (by first | omega | (simp; done) | (simp; omega)) _ | refine Below.alloc ?_ (by first | omega | (simp; done) | (simp; omega)) _ | refine Below.drew ?_))⟩
                        | trace_state
                case rest =>
                  obtain ⟨g, rfl, hg, hBg, rfl, hbc⟩ := hcut
                  have hbw : Below wr.heap.size wr wc := bstep hb4 hbc hb4.size
                  have hAc := hA4.below' hbc
                  have hcc := hcs.below' hbw
                  have hwc := hws.below' hbw
                  have hB0c := hB0s.below' hbw
                  have hB1c := hB1s.below' hbw
                  have hWc := bstep hWs hbw hWs.size
                  by_cases ho : opB (nth (nth p.code.l t).l k).op = true
                  case neg =>
                    have ho' : opB (nth (nth p.code.l t).l k).op = false := by simpa using ho
                    have hS := hid (show checkF p = ⟨2, t, k⟩ by
                      have e1 : threadFault p t = some ⟨2, t, k⟩ := by
                        rw [hF2.out, threadScan, first_hit hkt (b := ⟨2, t, k⟩) (by unfold insFault; rw [if_pos (by rw [nameB_empty, ho']; rfl)]; rfl)]
                      rw [hF.out, first_hit hlt e1]; rfl)
                    obtain ⟨c10, c11, c12⟩ := hB1c.cells3
                    obtain ⟨f10, f11, f12⟩ := hB1c.frozen3
                    clear ho
                    go_wp2
                    refine bodyPost_ret (v := Flt.val ⟨2, t, k⟩) (by simp [results, Try.results17, go_sem, Flt.val, c10, c11, c12, f10, f11, f12]) rfl ⟨by rw [hS.out], ?_⟩
                    exact (by repeat (first | assumption | exact Below.refl _ _ | refine bset ?_ (by first | omega | (simp; done) | (simp; omega)) _ | refine Below.alloc ?_ (by first | omega | (simp; done) | (simp; omega)) _ | refine Below.drew ?_))
                  case pos =>
                    obtain ⟨a0, a1, a2, a3⟩ := hAc.cells4
                    have hS := hid ho
                    go_wp2_with fail
                    refine (asmNumbers_any (nth (nth p.code.l t).l k) _).mono ?_
                    rintro e w3 ⟨rfl, hbn⟩
                    have hc3 := hcc.below' hbn
                    have hw3 := hwc.below' hbn
                    have hB03 := hB0c.below' hbn
                    have hB13 := hB1c.below' hbn
                    have hBg3 := hBg.below' hbn
                    have hW3 := bstep hWc hbn hWc.size
                    have hb3 := bstep hbw hbn hbw.size
                    clear a0 a1 a2 a3
                    go_wp2
                    obtain ⟨wp, rfl⟩ : ∃ wp, wp = wr := ⟨_, rfl⟩
                    go_loopw [83] (fun i ws => ∃ m : Nat, m ≤ 3 ∧ i = .int .i64 m ∧ Below w3.heap.size w3 ws ∧ Hid (∀ j, j < m → okNum p (nth p.code.l t).l.length (nth (nth p.code.l t).l k) j = true)) (fun i _ => 3 - (intOf i).toNat)
                    case atStart => exact ⟨0, by omega, rfl, Below.refl _ _, hid (fun j hj => absurd hj (by omega))⟩
                    case round =>
                      obtain ⟨m, hm, rfl, hbm, hF3⟩ := hrel
                      have hcm := hc3.below' hbm
                      have hwm := hw3.below' hbm
                      have hB0m := hB03.below' hbm
                      have hB1m := hB13.below' hbm
                      have hBgm := hBg3.below' hbm
                      have hWm := bstep hW3 hbm hW3.size
                      by_cases hm3 : m < 3
                      · have hix := index3 (nth (nth p.code.l t).l k) m hm3
                        have X0 : ∀ x : XW wr, p.code.At x.w := fun x => hcm.below' x.h
                        have X1 : ∀ x : XW wr, p.words.At x.w := fun x => hwm.below' x.h
                        have X2 : ∀ x : XW wr, x.w.cell? ⟨w.heap.size, 0, none⟩ = _ := fun x => (hB0m.below' x.h).cells4.1
                        have X3 : ∀ x : XW wr, x.w.cell? ⟨w.heap.size, 1, none⟩ = _ := fun x => (hB0m.below' x.h).cells4.2.1
                        have X4 : ∀ x : XW wr, x.w.cell? ⟨w.heap.size, 2, none⟩ = _ := fun x => (hB0m.below' x.h).cells4.2.2.1
                        have X5 : ∀ x : XW wr, x.w.cell? ⟨w.heap.size, 3, none⟩ = _ := fun x => (hB0m.below' x.h).cells4.2.2.2
                        have X6 : ∀ x : XW wr, x.w.cell? ⟨g, 1, none⟩ = _ := fun x => (hBgm.below' x.h).cells2.2
                        by_cases hmk : m < (kindsB (nth (nth p.code.l t).l k).op).size
                        · by_cases hok : okNum p (nth p.code.l t).l.length (nth (nth p.code.l t).l k) m = true
                          · have hof := hok
                            unfold okNum at hof
                            rw [dif_pos hmk] at hof
                            have hge : decide (((kindsB (nth (nth p.code.l t).l k).op).size : Int) ≤ (m : Int)) = false := decide_eq_false (by omega)
                            have hge' : decide ((kindsB (nth (nth p.code.l t).l k).op).size ≤ m) = false := decide_eq_false (by omega)
                            go_wp2
                            refine wp_region_x (by kernel_rfl) (by kernel_rfl) ?_
                            repeat (go_big_quiet_step ((go_at_call 38; exact Calls.x_of (asmFits_any p _ _ _ _ ⟨X0 _, X1 _⟩ hrl))))
                            refine wpQuiet_nil ?_
                            intro _ hx
                            obtain ⟨x, rfl⟩ := hx
                            have hbx := x.h
                            go_wp2
                            go_roundw
                            case rel => exact ⟨m + 1, by omega, by go_num, bstep hbm hbx hbm.size, hid (fun j hj => by rcases Nat.lt_or_ge j m with h' | h'; exact hF3.out j h'; have : j = m := (by omega); subst this; exact hok)⟩
                            case measure => simp [intOf]; omega
                          · have hof : fitsB p (nth p.code.l t).l.length ((kindsB (nth (nth p.code.l t).l k).op)[m].toNat : Int) ((nth (nth p.code.l t).l k).num m) = false := by
                              unfold okNum at hok
                              rw [dif_pos hmk] at hok
                              simpa using hok
                            have hS3 := hid (show checkF p = ⟨3, t, k⟩ by
                              have e0 : insFault p (nth p.code.l t).l.length (nth (nth p.code.l t).l k) = some 3 := by
                                unfold insFault
                                rw [if_neg (by rw [nameB_empty, hS.out]; simp), if_neg]
                                intro hall
                                simp only [Bool.and_eq_true] at hall
                                match m, hm3, hok with
                                | 0, _, hok => exact hok hall.1.1
                                | 1, _, hok => exact hok hall.1.2
                                | 2, _, hok => exact hok hall.2
                              have e1 : threadFault p t = some ⟨3, t, k⟩ := by
                                rw [hF2.out, threadScan, first_hit hkt (b := ⟨3, t, k⟩) (by rw [e0]; rfl)]
                              rw [hF.out, first_hit hlt e1]; rfl)
                            go_wp2
                            refine wp_region_x (by kernel_rfl) (by kernel_rfl) ?_
                            repeat (go_big_quiet_step ((go_at_call 38; exact Calls.x_of (asmFits_any p _ _ _ _ ⟨X0 _, X1 _⟩ hrl))))
                            refine wpQuiet_nil ?_
                            intro _ hx
                            obtain ⟨x, rfl⟩ := hx
                            have hbx := x.h
                            obtain ⟨c10, c11, c12⟩ := (hB1m.below' hbx).cells3
                            obtain ⟨f10, f11, f12⟩ := (hB1m.below' hbx).frozen3
                            have hWx := bstep hWm hbx hWm.size
                            go_wp2
                            refine bodyPost_ret (v := Flt.val ⟨3, t, k⟩) (by simp [results, Try.results17, go_sem, Flt.val, c10, c11, c12, f10, f11, f12]) rfl ⟨by rw [hS3.out], ?_⟩
                            exact (by repeat (first | assumption | exact Below.refl _ _ | refine bset ?_ (by first | omega | (simp; done) | (simp; omega)) _ | refine Below.alloc ?_ (by first | omega | (simp; done) | (simp; omega)) _ | refine Below.drew ?_))
                        · have hge : decide (((kindsB (nth (nth p.code.l t).l k).op).size : Int) ≤ (m : Int)) = true := decide_eq_true (by omega)
                          have hge' : decide ((kindsB (nth (nth p.code.l t).l k).op).size ≤ m) = true := decide_eq_true (by omega)
                          by_cases hok : okNum p (nth p.code.l t).l.length (nth (nth p.code.l t).l k) m = true
                          · have hof : ((nth (nth p.code.l t).l k).num m == 0) = true := by unfold okNum at hok; rwa [dif_neg hmk] at hok
                            have hof' : ((nth (nth p.code.l t).l k).num m != 0) = false := by simpa using hof
                            go_wp2
                            refine wp_region_x (by kernel_rfl) (by kernel_rfl) ?_
                            repeat (go_big_quiet_step (fail))
                            refine wpQuiet_nil ?_
                            intro _ hx
                            obtain ⟨x, rfl⟩ := hx
                            have hbx := x.h
                            go_wp2
                            go_roundw
                            case rel => exact ⟨m + 1, by omega, by go_num, bstep hbm hbx hbm.size, hid (fun j hj => by rcases Nat.lt_or_ge j m with h' | h'; exact hF3.out j h'; have : j = m := (by omega); subst this; exact hok)⟩
                            case measure => simp [intOf]; omega
                          · have hof : ((nth (nth p.code.l t).l k).num m == 0) = false := by unfold okNum at hok; rw [dif_neg hmk] at hok; simpa using hok
                            have hof' : ((nth (nth p.code.l t).l k).num m != 0) = true := by simpa using hof
                            have hS3 := hid (show checkF p = ⟨3, t, k⟩ by
                              have e0 : insFault p (nth p.code.l t).l.length (nth (nth p.code.l t).l k) = some 3 := by
                                unfold insFault
                                rw [if_neg (by rw [nameB_empty, hS.out]; simp), if_neg]
                                intro hall
                                simp only [Bool.and_eq_true] at hall
                                match m, hm3, hok with
                                | 0, _, hok => exact hok hall.1.1
                                | 1, _, hok => exact hok hall.1.2
                                | 2, _, hok => exact hok hall.2
                              have e1 : threadFault p t = some ⟨3, t, k⟩ := by
                                rw [hF2.out, threadScan, first_hit hkt (b := ⟨3, t, k⟩) (by rw [e0]; rfl)]
                              rw [hF.out, first_hit hlt e1]; rfl)
                            go_wp2
                            refine wp_region_x (by kernel_rfl) (by kernel_rfl) ?_
                            repeat (go_big_quiet_step (fail))
                            refine wpQuiet_nil ?_
                            intro _ hx
                            obtain ⟨x, rfl⟩ := hx
                            have hbx := x.h
                            obtain ⟨c10, c11, c12⟩ := (hB1m.below' hbx).cells3
                            obtain ⟨f10, f11, f12⟩ := (hB1m.below' hbx).frozen3
                            have hWx := bstep hWm hbx hWm.size
                            go_wp2
                            refine bodyPost_ret (v := Flt.val ⟨3, t, k⟩) (by simp [results, Try.results17, go_sem, Flt.val, c10, c11, c12, f10, f11, f12]) rfl ⟨by rw [hS3.out], ?_⟩
                            exact (by repeat (first | assumption | exact Below.refl _ _ | refine bset ?_ (by first | omega | (simp; done) | (simp; omega)) _ | refine Below.alloc ?_ (by first | omega | (simp; done) | (simp; omega)) _ | refine Below.drew ?_))
                      · have hall : insFault p (nth p.code.l t).l.length (nth (nth p.code.l t).l k) = none := by
                          unfold insFault
                          rw [if_neg (by rw [nameB_empty, hS.out]; simp), if_pos]
                          simp only [hF3.out 0 (by omega), hF3.out 1 (by omega), hF3.out 2 (by omega), Bool.and_self]
                        go_wp2
                        go_roundw
                        case rel => exact ⟨k + 1, by omega, by go_num, bstep (bstep hbs hb3 hbs.size) hbm (bstep hbs hb3 hbs.size).size, hid (by rw [hF2.out]; unfold threadScan; exact first_next hkt (by rw [hall]; rfl))⟩
                        case measure => simp [intOf]; omega
              · have hT2 := hid (show threadFault p t = none by
                  have e : (nth p.code.l t).l.length - k = 0 := by omega
                  rw [hF2.out, threadScan, e, first])
                go_wp2
                go_roundw
                case rel => exact ⟨t + 1, by omega, by go_num, bstep hbr hbs hbr.size, hid (by rw [hF.out, first_next hlt hT2.out])⟩
                case measure => simp [intOf]; omega
        · go_wp2
          refine bodyPost_ret (v := Flt.val ⟨0, 0, 0⟩) (by simp [results, Try.results17, go_sem, Flt.val, c10, c11, c12]) rfl ⟨?_, (by repeat (first | assumption | exact Below.refl _ _ | refine bset ?_ (by first | omega | (simp; done) | (simp; omega)) _ | refine Below.alloc ?_ (by first | omega | (simp; done) | (simp; omega)) _ | refine Below.drew ?_))⟩
          have e : p.code.l.length - t = 0 := by omega
          rw [hF.out, e]
          rfl
end Go.Proofs.Ytmgikmjmdppfmaa
