/-
  Data of the space of states: states that are done with, outcomes. It imports nothing of the dump.
-/
import Derived.Test.YtmgikmjmdppfmaaS9
import Derived.Laws.Bits64
namespace Go.Proofs.Ytmgikmjmdppfmaa
open Go.RowKit
set_option linter.unusedSimpArgs false
set_option linter.unusedVariables false

/-- An outcome that is read. -/
structure OutL where
  st : Int
  words : Ls Int
  prints : Ls Int
instance : Inhabited OutL := ⟨⟨0, default, default⟩⟩
def OutL.cell (x : OutL) : Nat → Value
  | 0 => .int .i64 x.st
  | 1 => x.words.v
  | _ => x.prints.v
instance : Enc OutL where
  sz := 3
  cell := OutL.cell
  whole x := .agg #[.int .i64 x.st, x.words.v, x.prints.v]
  agg := true
  inner x w := x.words.At w ∧ x.prints.At w
  on x b := x.words.on b ∨ x.prints.on b
  one h := by cases h
  many _ _ := rfl
  keep _ _ _ h hb := ⟨h.1.keep fun b hb' => hb b (.inl hb'), h.2.keep fun b hb' => hb b (.inr hb')⟩
  lt _ _ h _ hb := hb.elim (fun hb => h.1.lt hb) (fun hb => h.2.lt hb)
instance : One OutL := ⟨fun x w h q hq => by
  rcases q with _ | _ | q
  · rfl
  · exact Ls.At.one (s := x.words) h.1
  · exact Ls.At.one (s := x.prints) h.2⟩
/-- What a run comes to. -/
structure Outc where
  st : Int
  words : List Int
  prints : List Int
  deriving DecidableEq
instance : Inhabited Outc := ⟨⟨0, [], []⟩⟩
def OutL.out (x : OutL) : Outc := ⟨x.st, x.words.l, x.prints.l⟩

/-- A state that turns no more, by its place. -/
structure SD where
  g : Nat
  E : TypeId
  hd : List Value
  thr : Ls ThL
  words : Ls Int
  owner : Ls Int
  prints : Ls Int
  fell : Bool
instance : Inhabited SD := ⟨⟨0, 0, [], default, default, default, default, false⟩⟩
def SD.cells (x : SD) : List Value := x.hd ++ [x.thr.v, x.words.v, x.owner.v, x.prints.v, .bool x.fell]
def SD.ptr (x : SD) : Value := .pointer (some ⟨x.g, 0, none⟩)
instance : Enc SD where
  sz := 1
  cell x _ := x.ptr
  whole x := x.ptr
  agg := false
  inner x w := Blk w x.g x.E x.cells.toArray ∧ x.thr.At w ∧ x.words.At w ∧ x.owner.At w ∧ x.prints.At w
  on x b := b = x.g ∨ x.thr.on b ∨ x.words.on b ∨ x.owner.on b ∨ x.prints.on b
  one _ := ⟨rfl, fun _ => rfl⟩
  many h := by cases h
  keep _ _ _ h hb := ⟨(hb _ (.inl rfl)).trans h.1, h.2.1.keep fun b hb' => hb b (.inr (.inl hb')), h.2.2.1.keep fun b hb' => hb b (.inr (.inr (.inl hb'))), h.2.2.2.1.keep fun b hb' => hb b (.inr (.inr (.inr (.inl hb')))), h.2.2.2.2.keep fun b hb' => hb b (.inr (.inr (.inr (.inr hb'))))⟩
  lt _ _ h _ hb := by
    rcases hb with rfl | hb | hb | hb | hb
    · exact h.1.lt
    · exact h.2.1.lt hb
    · exact h.2.2.1.lt hb
    · exact h.2.2.2.1.lt hb
    · exact h.2.2.2.2.lt hb
instance : One SD := ⟨fun _ _ _ _ _ => rfl⟩
def SD.st (x : SD) : MSt := ⟨x.thr.l.map ThL.th, x.words.l, x.owner.l, x.prints.l⟩

/-- One datum that is read. -/
def Asn.rd1 {α : Type} [Enc α] (x : α) : Asn where
  fp _ := False
  rd := Enc.on x
  ok w := Enc.inner x w
  keep w w' h hb := Enc.keep x w w' h fun b hb' => hb b (.inr hb')
  lt w h b hb := by rcases hb with hb | hb; exact hb.elim; exact Enc.lt x w h b hb

section
variable {P : Program} {N : Nat} {K : Nat → Prop} {W w : World} {a : Act} {F F' : List (Nat × Value)} {L L' : List Asn}
/-- A state is done with. -/
theorem Sh.freeze {ST TH INT WT : TypeId} {g : Nat} {hd : List Value} {vt : Value} {rows : List ThL} {words owner prints : Ls Int} {fell : Bool} {L : List Asn}
    (h : Sh K W w (.blk g ST (hd ++ [vt, words.v, owner.v, prints.v, .bool fell]) :: .own TH (⟨vt, rows.map ThL.toV⟩ : Ls ThV) :: .big (rowsA INT WT rows) :: .own INT words :: .own INT owner :: .own INT prints :: L)) :
    Sh K W w (.rd1 (⟨g, ST, hd, ⟨vt, rows⟩, words, owner, prints, fell⟩ : SD) :: L) ∧ ∀ b, Enc.on (⟨g, ST, hd, ⟨vt, rows⟩, words, owner, prints, fell⟩ : SD) b → K b ∨ W.heap.size ≤ b := by
  have o1 := h.ok _ (List.mem_of_getElem? (i := 0) rfl)
  have o2 := h.ok _ (List.mem_of_getElem? (i := 1) rfl)
  have o3 := h.ok _ (List.mem_of_getElem? (i := 2) rfl)
  have o4 := h.ok _ (List.mem_of_getElem? (i := 3) rfl)
  have o5 := h.ok _ (List.mem_of_getElem? (i := 4) rfl)
  have o6 := h.ok _ (List.mem_of_getElem? (i := 5) rfl)
  have hrow : ∀ x, x ∈ rows → (Asn.own INT x.regs).ok w ∧ (Asn.own WT x.wait).ok w := fun x hx =>
    ⟨o3.1 _ (List.mem_flatMap.2 ⟨x, hx, by simp [thA]⟩), o3.1 _ (List.mem_flatMap.2 ⟨x, hx, by simp [thA]⟩)⟩
  have hat : (⟨vt, rows⟩ : Ls ThL).At w := ThV.atL (own_at o2) rfl fun i hi => by
    have := hrow _ (nth_mem _ _ hi)
    exact ⟨own_at this.1, own_at this.2⟩
  have key : ∀ b, Enc.on (⟨g, ST, hd, ⟨vt, rows⟩, words, owner, prints, fell⟩ : SD) b → ∃ B ∈ [Asn.blk g ST (hd ++ [vt, words.v, owner.v, prints.v, .bool fell]), .own TH (⟨vt, rows.map ThL.toV⟩ : Ls ThV), .big (rowsA INT WT rows), .own INT words, .own INT owner, .own INT prints], B.fp b := by
    have flat : ∀ {α : Type} [Enc α] [Flat α] {E : TypeId} {s : Ls α} {b : Nat}, (Asn.own E s).ok w → s.on b → (Asn.own E s).fp b := fun {α} _ _ {E} {s} {b} ho hb => by
      rcases own_on ho hb with h | h
      · exact h
      · exact Flat.noRd h
    intro b hb
    rcases hb with rfl | hb | hb | hb | hb
    · exact ⟨_, List.mem_of_getElem? (i := 0) rfl, rfl⟩
    · rcases hb with ⟨h0, hb⟩ | ⟨i, hi, hb⟩
      · exact ⟨_, List.mem_of_getElem? (i := 1) rfl, flat o2 (.inl ⟨by simpa using h0, hb⟩)⟩
      · have hm := nth_mem _ _ hi
        have := hrow _ hm
        refine ⟨_, List.mem_of_getElem? (i := 2) rfl, ?_⟩
        rcases hb with hb | hb
        · exact ⟨_, List.mem_flatMap.2 ⟨_, hm, List.mem_of_getElem? (i := 0) rfl⟩, flat this.1 hb⟩
        · exact ⟨_, List.mem_flatMap.2 ⟨_, hm, List.mem_of_getElem? (i := 1) rfl⟩, flat this.2 hb⟩
    · exact ⟨_, List.mem_of_getElem? (i := 3) rfl, flat o4 hb⟩
    · exact ⟨_, List.mem_of_getElem? (i := 4) rfl, flat o5 hb⟩
    · exact ⟨_, List.mem_of_getElem? (i := 5) rfl, flat o6 hb⟩
  constructor
  · refine Sh.step (Lp := [Asn.blk g ST (hd ++ [vt, words.v, owner.v, prints.v, .bool fell]), .own TH (⟨vt, rows.map ThL.toV⟩ : Ls ThV), .big (rowsA INT WT rows), .own INT words, .own INT owner, .own INT prints]) (Lr := L) (L' := [.rd1 (⟨g, ST, hd, ⟨vt, rows⟩, words, owner, prints, fell⟩ : SD)]) h (Chg.refl _ _) ?_ ?_ ?_ ?_ (List.pairwise_singleton _ _)
    · simpa using (show (Asn.rd1 (⟨g, ST, hd, ⟨vt, rows⟩, words, owner, prints, fell⟩ : SD)).ok w from ⟨o1, hat, own_at o4, own_at o5, own_at o6⟩)
    · intro A hA b hb; simp at hA; subst hA; exact hb.elim
    · intro A hA b hb
      simp only [List.mem_singleton] at hA
      subst hA
      obtain ⟨B, hB, hb⟩ := key b hb
      exact .inl ⟨B, hB, .inl hb⟩
    · intro A hA b hb; simp at hA; subst hA; exact hb.elim
  · intro b hb
    obtain ⟨B, hB, hb⟩ := key b hb
    exact h.mine B (by simp only [List.mem_cons, List.not_mem_nil, or_false] at hB ⊢; rcases hB with h | h | h | h | h | h <;> simp [h]) b hb
/-- Data within what is read is read. -/
theorem Sh.addRd (h : Sh K W w L) {A : Asn} (hok : A.ok w) (hfp : ∀ b, ¬ A.fp b) (hrd : ∀ b, A.rd b → ∃ B ∈ L, B.rd b) : Sh K W w (A :: L) :=
  h.push (Chg.refl _ _) hok (fun b hb => (hfp b hb).elim) (fun b hb => .inl (hrd b hb)) (fun b hb => (hfp b hb).elim)
theorem St.addRd (h : St N K W a w F L) {A : Asn} (hok : A.ok w) (hfp : ∀ b, ¬ A.fp b) (hrd : ∀ b, A.rd b → ∃ B ∈ L, B.rd b) : St N K W a w F (A :: L) := ⟨h.fr, h.sh.addRd hok hfp hrd⟩
end

/-! ### Numbers of 64 bits without sign -/
def toU (x : Int) : Nat := (x % 18446744073709551616).toNat
theorem toU_lt (x : Int) : toU x < 18446744073709551616 := by unfold toU; omega
theorem xor_lt64 {a b : Nat} (ha : a < 18446744073709551616) (hb : b < 18446744073709551616) : a ^^^ b < 18446744073709551616 := Nat.xor_lt_two_pow (n := 64) (by omega) (by omega)
section
variable {P : Program} {o : Oper} {N : Nat} {K : Nat → Prop} {W w : World} {F : List (Nat × Value)} {L : List Asn} {T U D : TypeId} {x y : Operand}
theorem r_cvU {p : Int} (hs : P.underlying T = some (.int .i64)) (hd : P.underlying D = some (.int .u64)) (ho : o.op = .convert T D x) (hx : ev F x = some (.int .i64 p)) : Rn P o N K W F L (.int .u64 ((toU p : Nat) : Int)) := fun a w h => by
  have hk : P.intKind D = .u64 := by simp [Program.intKind, hd]
  have e := run_convert_int (P := P) (w := w) T D .i64 p (by rw [hs]; rfl) (by rw [hk]; exact hd)
  rw [hk, IntKind.wrap_u64, show p % 18446744073709551616 = ((toU p : Nat) : Int) by unfold toU; omega] at e
  unfold execOp
  simp only [ho, h.fr.ev hx, Sem.run_bind, e, Result.andThen_ok, Sem.run_pure]
theorem r_cvI {p : Nat} (hs : P.underlying T = some (.int .u64)) (hd : P.underlying D = some (.int .i64)) (ho : o.op = .convert T D x) (hx : ev F x = some (.int .u64 ((p : Nat) : Int))) (hp : p < 9223372036854775808) : Rn P o N K W F L (.int .i64 ((p : Nat) : Int)) := fun a w h => by
  have hk : P.intKind D = .i64 := by simp [Program.intKind, hd]
  have e := run_convert_int (P := P) (w := w) T D .u64 (p : Int) (by rw [hs]; rfl) (by rw [hk]; exact hd)
  rw [hk, IntWalk.i64_in _ ⟨by omega, by omega⟩] at e
  unfold execOp
  simp only [ho, h.fr.ev hx, Sem.run_bind, e, Result.andThen_ok, Sem.run_pure]
theorem r_xorU {p q : Nat} (ho : o.op = .binOp .xor T x y U) (hx : ev F x = some (.int .u64 ((p : Nat) : Int))) (hy : ev F y = some (.int .u64 ((q : Nat) : Int))) (hb : p < 18446744073709551616 ∧ q < 18446744073709551616) : Rn P o N K W F L (.int .u64 (((p ^^^ q : Nat)) : Int)) := r_bin ho hx hy fun w => by
  rw [binOp_xor]
  have : Op.intBits .xor .u64 (p : Int) (q : Int) = pure (.int .u64 (bits .xor .u64 p q)) := rfl
  rw [this, bits_xor_u64_nat _ _ hb.1 hb.2]; rfl
theorem r_mulU {p q : Nat} (ho : o.op = .binOp .mul T x y U) (hx : ev F x = some (.int .u64 ((p : Nat) : Int))) (hy : ev F y = some (.int .u64 ((q : Nat) : Int))) : Rn P o N K W F L (.int .u64 (((p * q % 18446744073709551616 : Nat)) : Int)) := r_bin ho hx hy fun w => by
  simp [go_sem, IntKind.wrap_u64]
theorem r_shrU {p k : Nat} (ho : o.op = .binOp .shr T x y U) (hx : ev F x = some (.int .u64 ((p : Nat) : Int))) (hy : ev F y = some (.int .u64 ((k : Nat) : Int))) (hk : k ≤ 64) : Rn P o N K W F L (.int .u64 (((p / 2 ^ k : Nat)) : Int)) := r_bin ho hx hy fun w => by
  rw [binOp_shr, shift_shr .u64 .u64 _ _ (by omega) (by show ((k : Nat) : Int) ≤ 64; omega)]
  simp
theorem r_remU {p q : Nat} (ho : o.op = .binOp .rem T x y U) (hx : ev F x = some (.int .u64 ((p : Nat) : Int))) (hy : ev F y = some (.int .u64 ((q : Nat) : Int))) (hq : 0 < q) : Rn P o N K W F L (.int .u64 (((p % q : Nat)) : Int)) := r_bin ho hx hy fun w => by
  have h1 : ¬ (q : Int) = 0 := by omega
  have h0 : ¬ q = 0 := by omega
  have h2 : (p : Int).tmod q = ((p % q : Nat) : Int) := by rw [Int.tmod_eq_emod_of_nonneg (by omega)]; rfl
  simp [go_sem, h0, h1, h2]
end
end Go.Proofs.Ytmgikmjmdppfmaa
