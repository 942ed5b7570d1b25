/-
  Data of the document's machine: what waits, threads, as rows. It imports nothing of the dump.
-/
import Derived.Test.YthdkmhaneellcaaGreatDoorS6
import Derived.Test.YthdkmhaneellcaaGreatDoorMach
namespace Go.Proofs.YthdkmhaneellcaaGreatDoor
open Go.RowKit
set_option linter.unusedSimpArgs false
set_option linter.unusedVariables false

def Wt.cell (x : Wt) : Nat → Value
  | 0 => .bool x.lock
  | 1 => .int .i64 x.wh
  | _ => .int .i64 x.what
def Wt.val (x : Wt) : Value := .agg #[.bool x.lock, .int .i64 x.wh, .int .i64 x.what]
instance : Enc Wt where
  sz := 3
  cell := Wt.cell
  whole := Wt.val
  agg := true
  inner _ _ := True
  on _ _ := False
  one h := by cases h
  many _ _ := rfl
  keep _ _ _ h _ := h
  lt _ _ _ _ h := h.elim
instance : Flat Wt := ⟨fun _ _ h => h, fun _ _ => trivial⟩

/-- A thread's cells: where it stands, its two rows' values. -/
structure ThV where
  pc : Int
  rv : Value
  wv : Value
instance : Inhabited ThV := ⟨⟨0, .slice none 0 0, .slice none 0 0⟩⟩
def ThV.cell (x : ThV) : Nat → Value
  | 0 => .int .i64 x.pc
  | 1 => x.rv
  | _ => x.wv
def ThV.val (x : ThV) : Value := .agg #[.int .i64 x.pc, x.rv, x.wv]
instance : Enc ThV where
  sz := 3
  cell := ThV.cell
  whole := ThV.val
  agg := true
  inner _ _ := True
  on _ _ := False
  one h := by cases h
  many _ _ := rfl
  keep _ _ _ h _ := h
  lt _ _ _ _ h := h.elim
instance : Flat ThV := ⟨fun _ _ h => h, fun _ _ => trivial⟩

/-- A thread that is read. -/
structure ThL where
  pc : Int
  regs : Ls Int
  wait : Ls Wt
instance : Inhabited ThL := ⟨⟨0, default, default⟩⟩
def ThL.cell (x : ThL) : Nat → Value
  | 0 => .int .i64 x.pc
  | 1 => x.regs.v
  | _ => x.wait.v
def ThL.val (x : ThL) : Value := .agg #[.int .i64 x.pc, x.regs.v, x.wait.v]
instance : Enc ThL where
  sz := 3
  cell := ThL.cell
  whole := ThL.val
  agg := true
  inner x w := x.regs.At w ∧ x.wait.At w
  on x b := x.regs.on b ∨ x.wait.on b
  one h := by cases h
  many _ _ := rfl
  keep _ _ _ h hb := ⟨h.1.keep fun b hb' => hb b (.inl hb'), h.2.keep fun b hb' => hb b (.inr hb')⟩
  lt _ _ h _ hb := hb.elim (fun hb => h.1.lt hb) (fun hb => h.2.lt hb)
/-- What a row's threads are. -/
def ThL.th (x : ThL) : Th := ⟨x.pc, x.regs.l, x.wait.l⟩
/-- Resources lent to a call that turns them. -/
theorem Sh.passL {K : Nat → Prop} {W w : World} {Lp Lr : List Asn} (h : Sh K W w (Lp ++ Lr)) : Sh (fun b => ∃ A ∈ Lp, A.fp b) w w Lp :=
  ⟨Chg.refl _ _, fun A hA => h.ok A (List.mem_append.2 (.inl hA)), fun A hA b hb => .inl ⟨A, hA, hb⟩, fun A hA => h.self A (List.mem_append.2 (.inl hA)), (List.pairwise_append.1 h.apart).1⟩
/-- .. and what comes back of them. -/
theorem Sh.backL {K : Nat → Prop} {W w w' : World} {Lp Lr L' : List Asn} (h : Sh K W w (Lp ++ Lr)) (h' : Sh (fun b => ∃ A ∈ Lp, A.fp b) w w' L') (hrd : ∀ C ∈ L', ∀ b, C.rd b → (∃ B ∈ Lp, B.fp b ∨ B.rd b) ∨ (∃ B ∈ Lr, B.rd b) ∨ w.heap.size ≤ b) : Sh K W w' (L' ++ Lr) :=
  Sh.step h h'.chg h'.ok h'.mine hrd h'.self h'.apart
theorem Sh.backI {K : Nat → Prop} {W w w' : World} {Lp Lr L' : List Asn} [RdIn L' Lp] (h : Sh K W w (Lp ++ Lr)) (h' : Sh (fun b => ∃ A ∈ Lp, A.fp b) w w' L') : Sh K W w' (L' ++ Lr) := h.backL h' fun C hC b hb => .inl (RdIn.sub C hC b hb)
section
variable {P : Program} {o : Oper} {N : Nat} {K : Nat → Prop} {W : World} {F : List (Nat × Value)} {L : List Asn}
end
end Go.Proofs.YthdkmhaneellcaaGreatDoor
