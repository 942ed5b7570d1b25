/-
  Strings: bytes, parts, whether they are the same; tokens. It imports nothing of the dump.
-/
import Derived.Test.YthdkmhaneellcaaGreatDoorS60
import Derived.Test.YthdkmhaneellcaaGreatDoorS59
import Derived.Laws.IdiomStrings
import Derived.Laws.Concat
import Derived.Laws.Runes
import Derived.Laws.DeepStrings4
namespace Go.Proofs.YthdkmhaneellcaaGreatDoor
open Go.RowKit
set_option linter.unusedSimpArgs false
set_option linter.unusedVariables false

instance : DecidableEq ByteArray := fun a b => decidable_of_iff (a.data = b.data) ⟨fun h => by cases a; cases b; simp only at h; rw [h], fun h => by rw [h]⟩
/-- A byte, as a number. -/
def bt (s : ByteArray) (i : Nat) : Int := ((s.data.getD i 0).toNat : Int)
theorem bt_range (s : ByteArray) (i : Nat) : 0 ≤ bt s i ∧ bt s i < 256 := by
  have := (s.data.getD i 0).toNat_lt
  unfold bt; omega
theorem bt_at {s : ByteArray} {i : Nat} (h : i < s.size) : bt s i = ((s[i]'h).toNat : Int) := by
  have h' : i < s.data.size := h
  unfold bt
  simp only [Array.getD, dif_pos h']
  rfl
section
variable {P : Program} {o : Oper} {N : Nat} {K : Nat → Prop} {W w : World} {a : Act} {F : List (Nat × Value)} {L : List Asn}
theorem r_ixBt [Defs] {T : TypeId} {y z : Operand} {s : ByteArray} {q : Nat} (hT : P.underlying T = some .string) (ho : o.op = .index T y z) (hx : ev F y = some (.string s)) (hz : ev F z = some (.int .i64 (q : Int))) (hq : q < s.size) : Rn P o N K W F L (.int .u8 (bt s q)) := fun a w h => by
  rw [bt_at hq]
  exact r_ixStr hT ho hx hz hq a w h
theorem r_slS [Defs] {T : TypeId} {x y z : Operand} {s : ByteArray} {p q : Nat} (hT : P.underlying T = some .string) (ho : o.op = .slice T x (some y) (some z) none) (hx : ev F x = some (.string s)) (hy : ev F y = some (.int .i64 (p : Int))) (hz : ev F z = some (.int .i64 (q : Int))) (h1 : p ≤ q) (h2 : q ≤ s.size) : Rn P o N K W F L (.string (s.extract p q)) := fun a w h => by
  have key := run_slice_string_if (P := P) w T s .i64 .i64 (p : Int) (q : Int) hT
  rw [if_pos ⟨by omega, by omega⟩, if_pos ⟨by omega, by omega⟩, Int.toNat_natCast, Int.toNat_natCast] at key
  unfold execOp
  simp only [ho, h.fr.ev hx, h.fr.ev hy, h.fr.ev hz, Option.map_some, Option.map_none, Sem.run_bind, run_sliceAt_string _ _ _ _ _ _ hT, key, Result.andThen_ok, Sem.run_pure]
theorem r_slSl [Defs] {T : TypeId} {x y : Operand} {s : ByteArray} {p : Nat} (hT : P.underlying T = some .string) (ho : o.op = .slice T x (some y) none none) (hx : ev F x = some (.string s)) (hy : ev F y = some (.int .i64 (p : Int))) (h1 : p ≤ s.size) : Rn P o N K W F L (.string (s.extract p s.size)) := fun a w h => by
  have key := run_slice_string_l (P := P) w T s hT .i64 (p : Int) (by omega) (by omega)
  rw [Int.toNat_natCast] at key
  unfold execOp
  simp only [ho, h.fr.ev hx, h.fr.ev hy, Option.map_some, Option.map_none, Sem.run_bind, run_sliceAt_string _ _ _ _ _ _ hT, key, Result.andThen_ok, Sem.run_pure]
/-- A byte, as another number. -/
theorem r_cvB [Defs] {T D : TypeId} {kd : IntKind} {x : Operand} {n : Int} (hT : P.underlying T = some (.int .u8)) (hD : P.underlying D = some (.int kd)) (ho : o.op = .convert T D x) (hx : ev F x = some (.int .u8 n)) (hn : 0 ≤ n ∧ n < 256) (hk : (kd == .i32 || kd == .i64) = true) : Rn P o N K W F L (.int kd n) := fun a w h => by
  have hkd : P.intKind D = kd := by simp [Program.intKind, hD]
  have e := run_convert_int (P := P) (w := w) T D .u8 n (by rw [hT]; rfl) (by rw [hkd]; exact hD)
  have hw : kd.wrap n = n := by
    cases kd <;> first | (exact absurd hk (by decide)) | (rw [IntWalk.i64_in _ ⟨by omega, by omega⟩]) | (rw [IntWalk.i32_in _ ⟨by omega, by omega⟩])
  rw [hkd, hw] at e
  unfold execOp
  simp only [ho, h.fr.ev hx, Sem.run_bind, e, Result.andThen_ok, Sem.run_pure]
theorem r_cvRn [Defs] {T D : TypeId} {kd : IntKind} {x : Operand} {n : Int} {s : ByteArray} (hT : (P.underlying T).isSome = true) (hD : P.underlying D = some .string) (ho : o.op = .convert T D x) (hx : ev F x = some (.int kd n)) (hs : Utf8.encode n = s) : Rn P o N K W F L (.string s) := fun a w h => by
  have e := run_convert_int_string (P := P) w T D kd n hT hD
  rw [hs] at e
  unfold execOp
  simp only [ho, h.fr.ev hx, Sem.run_bind, e, Result.andThen_ok, Sem.run_pure]
/-- A byte less another. -/
theorem r_subB [Defs] {T U : TypeId} {x y : Operand} {p q : Int} (ho : o.op = .binOp .sub T x y U) (hx : ev F x = some (.int .u8 p)) (hy : ev F y = some (.int .u8 q)) (h : 0 ≤ p - q ∧ p - q < 256) : Rn P o N K W F L (.int .u8 (p - q)) := fun a w hS => by
  have e : IntKind.u8.wrap (p - q) = p - q := IntWalk.u8_in (p - q) ⟨by omega, by omega⟩
  unfold execOp
  simp only [ho, hS.fr.ev hx, hS.fr.ev hy]
  simp [eqGuard, binOp, go_sem, e]
theorem toList_eqB {s t : ByteArray} : (s.toList == t.toList) = decide (s = t) := by
  rw [ByteArray.toList_eq, ByteArray.toList_eq]
  by_cases h : s = t
  · subst h; simp
  · rw [decide_eq_false h]
    exact beq_eq_false_iff_ne.2 fun h9 => h (ByteArray.ext (Array.toList_inj.mp h9))
theorem r_eqlStr [Defs] {T U : TypeId} {x y : Operand} {s t : ByteArray} (ho : o.op = .binOp .eql T x y U) (hx : ev F x = some (.string s)) (hy : ev F y = some (.string t)) : Rn P o N K W F L (.bool (decide (s = t))) := fun a w h => by
  unfold execOp
  simp only [ho, h.fr.ev hx, h.fr.ev hy]
  simp [eqGuard, binOp_string_eql, toList_eqB]
theorem r_neqStr [Defs] {T U : TypeId} {x y : Operand} {s t : ByteArray} (ho : o.op = .binOp .neq T x y U) (hx : ev F x = some (.string s)) (hy : ev F y = some (.string t)) : Rn P o N K W F L (.bool (!decide (s = t))) := fun a w h => by
  unfold execOp
  simp only [ho, h.fr.ev hx, h.fr.ev hy]
  simp [eqGuard, binOp_string_neq, toList_eqB]
end
/-- A return: a struct in a variable of the call's own, two results in slots. -/
theorem x_retctt {P : Program} {N : Nat} {K : Nat → Prop} {W w : World} {a : Act} {F : List (Nat × Value)} {L : List Asn} {fn : Func} {t T g i n by_ u u3 : Nat} {E : TypeId} {z cs : List Value} {v2 v3 : Value} {R : Value → World → Prop} (hT : tyI P T = some (true, n, by_, z)) (hs : fn.results = #[.cell t T, .tmp u, .tmp u3]) (h : @St noDefs N K W a w F L) (ht : lk F t = some (.pointer (some ⟨g, 0, none⟩)))
    (hi : L[i]? = some (.blk g E cs)) (hn : cs.length = n) (h2 : lk F u = some v2) (h3 : lk F u3 = some v3) (hR : R (.tuple #[.agg cs.toArray, v2, v3]) w) : bodyPost P fn (fun e w' => ∃ v, e = .returned v ∧ R v w') .ret a w := by
  obtain ⟨ti, d, zv, hti, hd, hg, hsz, _⟩ := tyI_parts hT
  refine ⟨h.fr.defers, .tuple #[.agg cs.toArray, v2, v3], ?_, _, rfl, hR⟩
  have hld := run_loadVar_row (P := P) w g E T cs.toArray (0, 0) d (h.sh.blk i hi) hd (by cases d <;> simp_all [aggD]) (by rw [hti]; simp [hsz, hn])
  have e1 : a.tmps[t]?.getD undef = .pointer (some ⟨g, 0, none⟩) := by rw [h.fr.at_ t _ ht]; rfl
  have e2 : a.tmps[u]?.getD undef = v2 := by rw [h.fr.at_ u _ h2]; rfl
  have e3 : a.tmps[u3]?.getD undef = v3 := by rw [h.fr.at_ u3 _ h3]; rfl
  simp [results, hs, asAddr, e1, hld, e2, e3]
instance : Enc ByteArray where
  sz := 1
  cell x _ := .string x
  whole x := .string x
  agg := false
  inner _ _ := True
  on _ _ := False
  one _ := ⟨rfl, fun _ => rfl⟩
  many h := by cases h
  keep _ _ _ h _ := h
  lt _ _ _ _ h := h.elim
instance : Flat ByteArray := ⟨fun _ _ h => h, fun _ _ => trivial⟩
instance : One ByteArray := ⟨fun x w _ q hq => rfl⟩
/-- A token. -/
structure Tok where
  k : Int
  n : Int
  a : Int
  t : ByteArray
deriving DecidableEq
instance : Inhabited Tok := ⟨⟨0, 0, 0, ⟨#[]⟩⟩⟩
def Tok.cell (x : Tok) : Nat → Value
  | 0 => .int .i64 x.k
  | 1 => .int .i64 x.n
  | 2 => .int .i64 x.a
  | _ => .string x.t
def Tok.val (x : Tok) : Value := .agg #[.int .i64 x.k, .int .i64 x.n, .int .i64 x.a, .string x.t]
instance : Enc Tok where
  sz := 4
  cell := Tok.cell
  whole := Tok.val
  agg := true
  inner _ _ := True
  on _ _ := False
  one h := by cases h
  many _ _ := rfl
  keep _ _ _ h _ := h
  lt _ _ _ _ h := h.elim
instance : One Tok := ⟨fun x _ _ q _ => by match q with | 0 => rfl | 1 => rfl | 2 => rfl | _ + 3 => rfl⟩
instance : Flat Tok := ⟨fun _ _ h => h, fun _ _ => trivial⟩
end Go.Proofs.YthdkmhaneellcaaGreatDoor
