/-
  Nodes, as rows whose rows are the parser's own. It imports nothing of the dump.
-/
import Derived.Test.YthdkmhaneellcaaGreatDoorP2
namespace Go.Proofs.YthdkmhaneellcaaGreatDoor
open Go.RowKit
set_option linter.unusedSimpArgs false
set_option linter.unusedVariables false

/-- A node that is read. -/
structure NdL where
  k : Int
  n : Int
  a : Int
  t : ByteArray
  kids : Ls Int
instance : Inhabited NdL := ⟨⟨0, 0, 0, ⟨#[]⟩, default⟩⟩
def NdL.nd (x : NdL) : Nd := ⟨x.k, x.n, x.a, x.t, x.kids.l⟩
def NdL.cell (x : NdL) : Nat → Value
  | 0 => .int .i64 x.k
  | 1 => .int .i64 x.n
  | 2 => .int .i64 x.a
  | 3 => .string x.t
  | _ => x.kids.v
instance : Enc NdL where
  sz := 5
  cell := NdL.cell
  whole x := .agg #[.int .i64 x.k, .int .i64 x.n, .int .i64 x.a, .string x.t, x.kids.v]
  agg := true
  inner x w := x.kids.At w
  on x b := x.kids.on b
  one h := by cases h
  many _ _ := rfl
  keep _ _ _ h hb := h.keep hb
  lt _ _ h _ hb := h.lt hb
instance : One NdL := ⟨fun x w h q hq => by
  rcases q with _ | _ | _ | _ | q
  · rfl
  · rfl
  · rfl
  · rfl
  · exact Ls.At.one (s := x.kids) h⟩
/-- A part of a value. -/
theorem r_fieldG [Defs] {P : Program} {o : Oper} {N : Nat} {K : Nat → Prop} {W : World} {F : List (Nat × Value)} {L : List Asn} {T : TypeId} {f : Nat} {x : Operand} {v u : Value} (ho : o.op = .field T x f) (hx : ev F x = some v) (hf : ∀ w, (Instr.field T v f).run P w = .ok u w) : Rn P o N K W F L u := fun a w h => by
  unfold execOp
  simp only [ho, h.fr.ev hx, Sem.run_bind, hf, Result.andThen_ok, Sem.run_pure]
/-- A row of one element, whose blocks are the first resource's: it becomes a part of the row. -/
theorem x_litN [Defs] {P : Program} {o : Oper} {N : Nat} {K : Nat → Prop} {W w : World} {a : Act} {F : List (Nat × Value)} {L : List Asn} {α : Type} [Enc α] {d : Nat} {T e : TypeId} {gg : Bool} {sz by_ : Nat} {z : List Value} {parts : List (Nat × Operand)} {pv : List (Nat × Value)} {cs : List Value} {A : Asn} (x : α) (h : St N K W a w F (A :: L)) (hT : slI P T = some e) (he : tyI P e = some (gg, sz, by_, z)) (ho : o.op = .buildSlice T 1 parts.toArray)
    (hsz : Enc.sz α = sz) (hpos : 0 < 1 * sz ∧ 1 * sz ≤ 1000) (hx : evp F parts = some pv)
    (hf : Instr.fill (fun i => some (i * sz, sz)) ((Array.range (1 * sz)).map (z.toArray[· % z.toArray.size]!)) pv = some cs.toArray) (hcs : cs = encL [x])
    (hin : Enc.inner x w) (hon : ∀ b, Enc.on x b → A.fp b) (hd : o.dst = some d) (hdN : Nat.blt d N = true) :
    Ex P o a w (fun a' w' => ∃ v : Value, St N K W a' w' ((d, v) :: F) (.deep e (⟨v, [x]⟩ : Ls α) :: L)) := by
  subst hsz
  obtain ⟨i, ed, zv, hi, hed, _, hsz, hby, hzz, hzc⟩ := tyI_parts he
  have hzv : zv.cells = z.toArray := by rw [← hzc]
  have hrun := run_buildSlice (P := P) w T e 1 (parts.toArray.map fun (i, x) => (i, a.eval x)) cs.toArray i zv (slI_parts hT) hi hzz (by rw [hsz]; omega) (by rw [hsz]; omega) (by rw [hsz, hzv, h.fr.evp hx]; exact hf)
  refine Ex.of_run (v := .slice (some ⟨w.heap.size, 0, none⟩) 1 1) (w' := w.alloc (.cells cs.toArray e)) ?_ ⟨.slice (some ⟨w.heap.size, 0, none⟩) 1 1, ?_⟩
  · unfold execOp
    simp only [ho, Sem.run_bind, hrun, Result.andThen_ok, Sem.run_pure]
  · rw [hd]
    have hold : ∀ b, Enc.on x b → b < w.heap.size := fun b hb => Enc.lt _ w hin b hb
    have honx : ∀ b, (∃ q, q < [x].length ∧ Enc.on (nth [x] q) b) → Enc.on x b := by
      rintro b ⟨q, hq, hb⟩
      obtain rfl : q = 0 := by simpa using hq
      exact hb
    refine ⟨h.fr.put d (by simpa [Nat.blt_eq] using hdN) _, Sh.step (Lp := [A]) (L' := [.deep e ⟨.slice (some ⟨w.heap.size, 0, none⟩) 1 1, [x]⟩]) h.sh (Chg.alloc _ w _) ?_ ?_ (by simp [Asn.deep]) (by simp [Asn.deep]) (List.pairwise_singleton _ _)⟩
    · intro B hB
      simp only [List.mem_singleton] at hB
      subst hB
      refine ⟨⟨by rw [length_encL], .inr ⟨w.heap.size, 1, cs.toArray, rfl, Nat.zero_le _, Go.heap_alloc_new w _, Nat.le_refl _, by unfold maxLen; omega, ?_, ?_⟩⟩, by show 1 ≤ _; omega, fun q hq => ?_, fun b hb hb' => ?_⟩
      · simp [hcs, length_encL]
      · simp only [hcs]; rw [List.take_of_length_le (by rw [length_encL]; exact Nat.le_refl _)]
      · obtain rfl : q = 0 := by simpa using hq
        exact Enc.keep _ w _ hin fun b hb => Below.heap_alloc w _ b (hold b hb)
      · have h1 : w.heap.size = b := by simpa [Value.ownBlock] using hb
        have := hold b (honx b hb')
        omega
    · intro B hB b hb
      simp only [List.mem_singleton] at hB
      subst hB
      rcases hb with hb | hb
      · have h1 : w.heap.size = b := by simpa [Value.ownBlock] using hb
        right; omega
      · exact .inl ⟨A, by simp, hon b (honx b hb)⟩
theorem own_fp {w : World} {IE : TypeId} {s : Ls Int} (h : (Asn.own IE s).ok w) (b : Nat) (hb : s.on b) : (Asn.own IE s).fp b := (own_on h hb).elim (fun h => h) (fun h => Flat.noRd h)
end Go.Proofs.YthdkmhaneellcaaGreatDoor
