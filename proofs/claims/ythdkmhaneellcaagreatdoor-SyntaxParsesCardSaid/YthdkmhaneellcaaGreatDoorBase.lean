/-
  Base for this claim's texts: readers of data in memory, laws for the walk. It imports nothing of the dump.
-/
import Derived.WalkKit
import Derived.WalkSpells
import Derived.WalkLawsBesides
import Derived.BigQuiet
import Derived.Deep.RegionWith
import Derived.Deep.DeepCutAuto
namespace Go.Proofs.YthdkmhaneellcaaGreatDoor
open Go.RowKit
set_option linter.unusedSimpArgs false
set_option linter.unusedVariables false

/-- Not by 'rfl' on purpose: a side condition that a rule by 'rfl' has rewritten is not taken by simp. -/
@[simp high] theorem size_drew_nr (w : World) : w.drew.heap.size = w.heap.size := by cases w; rfl

/-- The i-th element; what lies behind the end is never asked. -/
def nth {α : Type} [Inhabited α] (l : List α) (i : Nat) : α := l.getD i default
theorem nth_lt {α : Type} [Inhabited α] (l : List α) (i : Nat) (h : i < l.length) : nth l i = l[i] := by simp [nth, h]
theorem nth_mem {α : Type} [Inhabited α] (l : List α) (i : Nat) (h : i < l.length) : nth l i ∈ l := by rw [nth_lt l i h]; exact List.getElem_mem h

/-- How a datum lies in memory: how many cells it takes, what each holds, its whole value; what else must hold of the world; in which blocks that lies. -/
class Enc (α : Type) extends Inhabited α where
  sz : Nat
  cell : α → Nat → Value
  whole : α → Value
  agg : Bool
  inner : α → World → Prop
  on : α → Nat → Prop
  one : agg = false → sz = 1 ∧ ∀ x, whole x = cell x 0
  many : agg = true → ∀ x, whole x = .agg ((List.range sz).map (cell x)).toArray
  keep : ∀ x (w w' : World), inner x w → (∀ b, on x b → w'.heap[b]? = w.heap[b]?) → inner x w'
  lt : ∀ x (w : World), inner x w → ∀ b, on x b → b < w.heap.size

/-- A slice that is read: where it lies, its capacity, what it holds. -/
structure Sl (α : Type) where
  A : Option Addr
  cap : Nat
  l : List α
instance {α : Type} : Inhabited (Sl α) := ⟨⟨none, 0, []⟩⟩

/-- Where the j-th cell of the i-th element stands. -/
def Sl.adr {α : Type} (s : Sl α) (sz i j : Nat) : Addr := ⟨(s.A.getD default).block, (s.A.getD default).off + i * sz + j, none⟩

section
variable {α : Type} [Enc α]

structure Sl.At (s : Sl α) (w : World) : Prop where
  le : s.l.length ≤ s.cap
  max : s.cap ≤ maxLen
  len : s.l.length ≤ 140737488355328
  some : 0 < s.l.length → ∃ a, s.A = some a ∧ a.spot = none
  lt' : 0 < s.l.length → (s.A.getD default).block < w.heap.size
  cell : ∀ i j, i < s.l.length → j < Enc.sz α → w.cell? (s.adr (Enc.sz α) i j) = .some (Enc.cell (nth s.l i) j)
  inner : ∀ i, i < s.l.length → Enc.inner (nth s.l i) w

def Sl.on (s : Sl α) (b : Nat) : Prop := (0 < s.l.length ∧ (s.A.getD default).block = b) ∨ ∃ i, i < s.l.length ∧ Enc.on (nth s.l i) b

theorem Sl.At.keep {s : Sl α} {w w' : World} (h : s.At w) (hb : ∀ b, s.on b → w'.heap[b]? = w.heap[b]?) : s.At w' := by
  refine ⟨h.le, h.max, h.len, h.some, fun h0 => ?_, fun i j hi hj => ?_, fun i hi => Enc.keep _ w w' (h.inner i hi) fun b hb' => hb b (.inr ⟨i, hi, hb'⟩)⟩
  · have h1 := hb _ (.inl ⟨h0, rfl⟩)
    have h2 := h.lt' h0
    rcases Nat.lt_or_ge (s.A.getD default).block w'.heap.size with h3 | h3
    · exact h3
    · rw [Array.getElem?_eq_none h3, Array.getElem?_eq_getElem h2] at h1
      cases h1
  · exact (World.cell?_of_block (a := s.adr (Enc.sz α) i j) (w := w) (hb _ (.inl ⟨by omega, rfl⟩))).trans (h.cell i j hi hj)

theorem Sl.At.lt {s : Sl α} {w : World} (h : s.At w) {b : Nat} (hb : s.on b) : b < w.heap.size := by
  rcases hb with ⟨h0, rfl⟩ | ⟨i, hi, hb⟩
  · exact h.lt' h0
  · exact Enc.lt _ w (h.inner i hi) b hb

theorem Sl.At.below {s : Sl α} {w w' : World} (h : s.At w) {B : Nat} (hb : Below B w w') (hB : ∀ b, s.on b → b < B) : s.At w' := h.keep fun b hb' => hb.block b (hB b hb')
theorem Sl.At.no {s : Sl α} {w : World} (h : s.At w) (b : Nat) (hb : w.heap.size ≤ b) : ¬ s.on b := fun hb' => Nat.lt_irrefl _ (Nat.lt_of_lt_of_le (h.lt hb') hb)

@[go_sem] theorem Sl.At.alloc {s : Sl α} {w : World} (h : s.At w) (o : Obj) : s.At (w.alloc o) := h.keep fun b hb => Below.heap_alloc w o b (h.lt hb)
@[go_sem] theorem Sl.At.drew {s : Sl α} {w : World} (h : s.At w) : s.At w.drew := h.keep fun _ _ => rfl
@[go_sem] theorem Sl.At.setCell {s : Sl α} {w : World} (h : s.At w) (p : Addr) (v : Value) (hp : ¬ s.on p.block) : s.At (w.setCell p v) :=
  h.keep fun b hb => Below.heap_setCell _ _ _ _ (by rintro rfl; exact hp hb)

variable {P : Program} (w : World)

@[go_sem high] theorem Sl.adr_add {β : Type} (s : Sl β) (z i j k : Nat) : (s.adr z i j).add k = s.adr z i (j + k) := by
  simp [Sl.adr, Addr.add_lit, Nat.add_assoc]

@[go_sem ↓] theorem run_indexAt_Sl (T : TypeId) (s : Sl α) (k : IntKind) (i : Int) (hT : P.underlying T = some (.slice (P.elem T))) (hz : (sizeOf (P.elem T)).run P w = .ok (Enc.sz α) w)
    (h0 : 0 ≤ i) (h1 : i < s.l.length) (h : s.At w) :
    (Instr.indexAt T (.slice s.A s.l.length s.cap) (.int k i)).run P w = .ok (.pointer (some (s.adr (Enc.sz α) i.toNat 0))) w := by
  obtain ⟨a, ha, hs⟩ := h.some (by omega)
  rw [ha, run_indexAt_slice (h := hT), if_pos ⟨h0, h1⟩]
  have e : a.add (i.toNat * Enc.sz α) = s.adr (Enc.sz α) i.toNat 0 := by
    rcases a with ⟨b, o, sp⟩
    simp only at hs
    subst hs
    rw [Addr.add_lit]
    simp [Sl.adr, ha]
  simp [hz, e]

/-- One cell of an element. -/
@[go_sem] theorem Sl.cell_adr (s : Sl α) (z i j : Nat) (hz : z = Enc.sz α) (hj : j < Enc.sz α) (h1 : i < s.l.length) (h : s.At w) : w.cell? (s.adr z i j) = some (Enc.cell (nth s.l i) j) := by
  subst hz
  exact h.cell i j h1 hj
end

/-! ### Worlds that have grown: for regions that draw their order -/

/-- A world in which nothing of W has turned. -/
structure XW (W : World) where
  w : World
  h : Below W.heap.size W w
instance (W : World) : Nonempty (XW W) := ⟨⟨W, Below.refl _ _⟩⟩

/-- A block that is known whole. -/
def Blk (w : World) (g : Nat) (E : TypeId) (cs : Array Value) : Prop := w.heap[g]? = some (.cells cs E (0, 0))
theorem Blk.lt {w : World} {g : Nat} {E : TypeId} {cs : Array Value} (h : Blk w g E cs) : g < w.heap.size := by
  rcases Nat.lt_or_ge g w.heap.size with hlt | hge
  · exact hlt
  · unfold Blk at h; rw [Array.getElem?_eq_none hge] at h; cases h
theorem Blk.cell {w : World} {g : Nat} {E : TypeId} {cs : Array Value} (h : Blk w g E cs) (i : Nat) : w.cell? ⟨g, i, none⟩ = cs[i]? := cell_of_row w g i cs E (0, 0) h
theorem Blk.new (w : World) (E : TypeId) (cs : Array Value) : Blk (w.alloc (.cells cs E)) w.heap.size E cs := Go.heap_alloc_new w _
theorem Blk.alloc {w : World} {g : Nat} {E : TypeId} {cs : Array Value} (h : Blk w g E cs) (o : Obj) : Blk (w.alloc o) g E cs := (Below.heap_alloc w o g h.lt).trans h
theorem Blk.drew {w : World} {g : Nat} {E : TypeId} {cs : Array Value} (h : Blk w g E cs) : Blk w.drew g E cs := h
theorem Blk.far {w : World} {g : Nat} {E : TypeId} {cs : Array Value} (h : Blk w g E cs) {p : Addr} (hp : g ≠ p.block) (u : Value) : Blk (w.setCell p u) g E cs := (Below.heap_setCell w p u g hp).trans h
theorem Blk.below {w w' : World} {B g : Nat} {E : TypeId} {cs : Array Value} (h : Blk w g E cs) (hb : Below B w w') (hg : g < B) : Blk w' g E cs := (hb.block g hg).trans h
theorem Blk.grown {w w' : World} {row : Option Nat} {g : Nat} {E : TypeId} {cs : Array Value} (h : Blk w g E cs) (hb : w.grownBy w' row) (hg : some g ≠ row) : Blk w' g E cs := (hb.block g h.lt hg).trans h
/-! ### What the call itself has made -/
section
variable {α : Type} [Enc α]

def cellsOf (x : α) : List Value := (List.range (Enc.sz α)).map (Enc.cell x)
def encL (l : List α) : List Value := l.flatMap cellsOf
theorem length_cellsOf (x : α) : (cellsOf x).length = Enc.sz α := by simp [cellsOf]
theorem encL_nil : encL ([] : List α) = [] := rfl
theorem encL_append (l m : List α) : encL (l ++ m) = encL l ++ encL m := by simp [encL]
theorem length_encL (l : List α) : (encL l).length = l.length * Enc.sz α := by
  induction l with
  | nil => simp [encL]
  | cons x l ih =>
    have : encL (x :: l) = cellsOf x ++ encL l := by simp [encL]
    rw [this, List.length_append, ih, length_cellsOf, List.length_cons, Nat.add_mul, Nat.one_mul, Nat.add_comm]
theorem encL_at (l : List α) (i j : Nat) (hi : i < l.length) (hj : j < Enc.sz α) : (encL l)[i * Enc.sz α + j]? = some (Enc.cell (nth l i) j) := by
  induction l generalizing i with
  | nil => simp at hi
  | cons x l ih =>
    have e : encL (x :: l) = cellsOf x ++ encL l := by simp [encL]
    rw [e]
    cases i with
    | zero =>
      rw [List.getElem?_append_left (by rw [length_cellsOf]; omega)]
      simp [cellsOf, nth, hj]
    | succ i =>
      rw [List.getElem?_append_right (by rw [length_cellsOf, Nat.add_mul]; omega), length_cellsOf]
      have : (i + 1) * Enc.sz α + j - Enc.sz α = i * Enc.sz α + j := by rw [Nat.add_mul]; omega
      rw [this, ih i (by simpa using hi)]
      simp [nth]

/-- What lies in a block of its own reads as a slice. -/
theorem Sl.of_block {w : World} {g : Nat} {cs : Array Value} {E : TypeId} {fr : Nat × Nat} {l : List α} {cap : Nat} (hg : w.heap[g]? = some (.cells cs E fr)) (hc : cs.toList.take (l.length * Enc.sz α) = encL l)
    (hl : l.length ≤ cap) (hm : cap ≤ maxLen) (hlen : l.length ≤ 140737488355328) (hin : ∀ i, i < l.length → Enc.inner (nth l i) w) : (⟨some ⟨g, 0, none⟩, cap, l⟩ : Sl α).At w := by
  refine ⟨hl, hm, hlen, fun _ => ⟨_, rfl, rfl⟩, fun _ => (Array.getElem?_eq_some_iff.1 hg).1, fun i j hi hj => ?_, hin⟩
  have h1 := encL_at l i j hi hj
  rw [← hc, List.getElem?_take] at h1
  split at h1
  · show w.cell? ⟨g, 0 + i * Enc.sz α + j, none⟩ = _
    rw [cell_of_row w g _ cs E fr hg, Nat.zero_add]
    simpa using h1
  · cases h1

/-- What is owned reads as a slice. -/
theorem Sl.of_own {w : World} {base : Nat} {E : TypeId} {v : Value} {l : List α} (h : w.ownsRow base E (Enc.sz α) v l.length (encL l)) (hlen : l.length ≤ 140737488355328)
    (hin : ∀ i, i < l.length → Enc.inner (nth l i) w) : ∃ s : Sl α, s.l = l ∧ v = .slice s.A s.l.length s.cap ∧ s.At w ∧ ∀ b, s.on b → (base ≤ b ∧ v.ownBlock = some b) ∨ ∃ i, i < l.length ∧ Enc.on (nth l i) b := by
  rcases h.2 with ⟨rfl, h0⟩ | ⟨g, cap, cur, rfl, hb, hg, hn, hm, _, ht⟩
  · refine ⟨⟨none, 0, l⟩, rfl, by rw [h0], ⟨by simp [h0], by simp, hlen, fun hh => absurd hh (by simp [h0]), fun hh => absurd hh (by simp [h0]), fun i j hi => absurd hi (by simp [h0]), fun i hi => absurd hi (by simp [h0])⟩, ?_⟩
    rintro b (⟨hh, _⟩ | ⟨i, hi, _⟩)
    · simp [h0] at hh
    · simp [h0] at hi
  · refine ⟨⟨some ⟨g, 0, none⟩, cap, l⟩, rfl, rfl, Sl.of_block hg ht hn hm hlen hin, ?_⟩
    rintro b (⟨_, rfl⟩ | hi)
    · exact .inl ⟨hb, rfl⟩
    · exact .inr hi
end

instance : Enc Int where
  sz := 1
  cell x _ := .int .i64 x
  whole x := .int .i64 x
  agg := false
  inner _ _ := True
  on _ _ := False
  one _ := ⟨rfl, fun _ => rfl⟩
  many h := by cases h
  keep _ _ _ h _ := h
  lt _ _ _ _ h := h.elim
instance : Enc Bool where
  sz := 1
  cell x _ := .bool x
  whole x := .bool x
  agg := false
  inner _ _ := True
  on _ _ := False
  one _ := ⟨rfl, fun _ => rfl⟩
  many h := by cases h
  keep _ _ _ h _ := h
  lt _ _ _ _ h := h.elim
instance {α : Type} [Enc α] : Enc (Sl α) where
  sz := 1
  cell s _ := .slice s.A s.l.length s.cap
  whole s := .slice s.A s.l.length s.cap
  agg := false
  inner s w := s.At w
  on s b := s.on b
  one _ := ⟨rfl, fun _ => rfl⟩
  many h := by cases h
  keep _ _ _ h hb := h.keep hb
  lt _ _ h _ hb := h.lt hb

/-- An order. -/
structure Ins where
  op : Int
  a : Int
  b : Int
  c : Int
  deriving DecidableEq
instance : Inhabited Ins := ⟨⟨0, 0, 0, 0⟩⟩
def Ins.cell (x : Ins) : Nat → Value
  | 0 => .int .i64 x.op
  | 1 => .int .i64 x.a
  | 2 => .int .i64 x.b
  | _ => .int .i64 x.c
def Ins.val (x : Ins) : Value := .agg #[.int .i64 x.op, .int .i64 x.a, .int .i64 x.b, .int .i64 x.c]
instance : Enc Ins where
  sz := 4
  cell := Ins.cell
  whole := Ins.val
  agg := true
  inner _ _ := True
  on _ _ := False
  one h := by cases h
  many _ _ := rfl
  keep _ _ _ h _ := h
  lt _ _ _ _ h := h.elim

@[go_sem] theorem sz_int : Enc.sz Int = 1 := rfl
@[go_sem] theorem sz_bool : Enc.sz Bool = 1 := rfl
@[go_sem] theorem sz_sl {α : Type} [Enc α] : Enc.sz (Sl α) = 1 := rfl
@[go_sem] theorem sz_ins : Enc.sz Ins = 4 := rfl
@[go_sem] theorem agg_ins : Enc.agg Ins = true := rfl
@[go_sem] theorem cell_int (x : Int) (j : Nat) : Enc.cell x j = .int .i64 x := rfl
@[go_sem] theorem cell_bool (x : Bool) (j : Nat) : Enc.cell x j = .bool x := rfl
@[go_sem] theorem cell_sl {α : Type} [Enc α] (x : Sl α) (j : Nat) : Enc.cell x j = .slice x.A x.l.length x.cap := rfl
@[go_sem] theorem cell_ins0 (x : Ins) : Enc.cell x 0 = .int .i64 x.op := rfl
@[go_sem] theorem cell_ins1 (x : Ins) : Enc.cell x 1 = .int .i64 x.a := rfl
@[go_sem] theorem cell_ins2 (x : Ins) : Enc.cell x 2 = .int .i64 x.b := rfl
@[go_sem] theorem cell_ins3 (x : Ins) : Enc.cell x 3 = .int .i64 x.c := rfl
@[go_sem] theorem whole_ins (x : Ins) : Enc.whole x = .agg #[.int .i64 x.op, .int .i64 x.a, .int .i64 x.b, .int .i64 x.c] := rfl

@[go_sem] theorem Sl.At.nth_ {α : Type} [Enc α] {s : Sl (Sl α)} {w : World} (h : s.At w) (i : Nat) (hi : i < s.l.length) : (nth s.l i).At w := h.inner i hi

/-- A program as it lies in memory. -/
structure PR where
  code : Sl (Sl Ins)
  words : Sl Int
  locks : Int
  regs : Int
def PR.val (p : PR) : Value := .agg #[.slice p.code.A p.code.l.length p.code.cap, .slice p.words.A p.words.l.length p.words.cap, .int .i64 p.locks, .int .i64 p.regs]
structure PR.At (p : PR) (w : World) : Prop where
  code : p.code.At w
  words : p.words.At w
theorem PR.At.alloc {p : PR} {w : World} (h : p.At w) (o : Obj) : p.At (w.alloc o) := ⟨h.code.alloc o, h.words.alloc o⟩
theorem PR.At.drew {p : PR} {w : World} (h : p.At w) : p.At w.drew := ⟨h.code.drew, h.words.drew⟩
theorem nth_map' {α β : Type} [Inhabited α] [Inhabited β] (f : α → β) (l : List α) (i : Nat) (h : i < l.length) : nth (l.map f) i = f (nth l i) := by simp [nth, h]
end Go.Proofs.YthdkmhaneellcaaGreatDoor
