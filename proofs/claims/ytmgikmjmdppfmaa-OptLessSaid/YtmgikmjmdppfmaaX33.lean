/-
  Contracts of functions of this program and of the references, each walked once.
-/
import Derived.Test.YtmgikmjmdppfmaaC1
import Derived.Test.YtmgikmjmdppfmaaS14
import Derived.Test.YtmgikmjmdppfmaaV1
section
namespace Go.Proofs.Ytmgikmjmdppfmaa
open Go.RowKit
set_option linter.unusedSimpArgs false
set_option linter.unusedVariables false

def Asn.shp (g : Nat) : Asn where
  fp b := b = g
  rd _ := False
  ok w := MapI w g shapesL
  keep w w' h hb := h.of_block (hb g (.inl rfl))
  lt w h b hb := by rcases hb with rfl | hb; exact h.lt; exact hb.elim
theorem shapes_c (W : World) : Rets Try.prog 36 [] W (fun v w' => ∃ g : Nat, v = .map (some g) ∧ Sh0 W w' [.shp g]) :=
  Calls.mono (shapes_any W) fun e w' ⟨g, hg, he, hM, hb⟩ => ⟨_, he, g, rfl, Chg.below hb, fun A hA => (by rw [List.mem_singleton] at hA; subst hA; exact hM), fun A hA b hb => (by rw [List.mem_singleton] at hA; subst hA; exact .inr (by rw [show b = g from hb]; exact hg)), fun A hA b hb hr => (by rw [List.mem_singleton] at hA; subst hA; exact hr), List.pairwise_singleton _ _⟩
section
variable {o : Oper} {N : Nat} {K : Nat → Prop} {W w : World} {a : Act} {F : List (Nat × Value)} {L : List Asn}
theorem r_lookShp {x y : Operand} {g i : Nat} {op : Int} (ho : o.op = .lookup 81 x y false) (hx : ev F x = some (.map (some g))) (hy : ev F y = some (.int .i64 op)) (hi : L[i]? = some (.shp g)) : Rn Try.prog o N K W F L (.agg #[.string (nameB op), .string (kindsB op)]) := fun a w h => by
  have e1 := shapes_lookup1 w g op (h.sh.ok _ (List.mem_of_getElem? hi))
  unfold execOp
  simp only [ho, h.fr.ev hx, h.fr.ev hy, Sem.run_bind, e1, Result.andThen_ok, Sem.run_pure]
theorem r_fieldK {x : Operand} {s t : ByteArray} (ho : o.op = .field 79 x 1) (hx : ev F x = some (.agg #[.string s, .string t])) : Rn Try.prog o N K W F L (.string t) := fun a w h => by
  have hfd : (Instr.field 79 (.agg #[.string s, .string t]) 1).run Try.prog w = .ok (.string t) w := by kernel_rfl
  unfold execOp
  simp only [ho, h.fr.ev hx, Sem.run_bind, hfd, Result.andThen_ok, Sem.run_pure]
end
end Go.Proofs.Ytmgikmjmdppfmaa
end
namespace Go.Proofs.Ytmgikmjmdppfmaa
open Go.RowKit
set_option linter.unusedSimpArgs false
set_option linter.unusedVariables false
set_option maxRecDepth 100000
set_option maxHeartbeats 1000000


def kAt (s : ByteArray) (k : Nat) : Int := if h : k < s.size then ((s[k]'h).toNat : Int) else 0
theorem kAt_at {s : ByteArray} {k : Nat} (h : k < s.size) : kAt s k = ((s[k]'h).toNat : Int) := dif_pos h
theorem kinds_small (op : Int) : (kindsB op).size ≤ 3 ∧ ∀ k (h : k < (kindsB op).size), ((kindsB op)[k]'h).toNat < 128 := by
  by_cases h : 1 ≤ op ∧ op ≤ 18
  · rcases cases18 op h with h | h | h | h | h | h | h | h | h | h | h | h | h | h | h | h | h | h <;> subst h <;> decide +kernel
  · rw [kindsB_none op h]
    exact ⟨by decide +kernel, fun k hk => absurd hk (Nat.not_lt_zero k)⟩
/-- What is read of an order's first numbers. -/
def rdK (x : Ins) (k : Nat) : Bool := decide (kAt (kindsB x.op) k = 114) && !(decide (k = 0) && decide (x.op ≠ 13) && decide (0 ≤ wrG x))
def rdTo (x : Ins) (n : Nat) : List Int := (List.range n).flatMap fun k => if rdK x k = true then [nth [x.a, x.b, x.c] k] else []
theorem rdTo_succ (x : Ins) (n : Nat) : rdTo x (n + 1) = rdTo x n ++ if rdK x n = true then [nth [x.a, x.b, x.c] n] else [] := by
  unfold rdTo
  rw [List.range_succ, List.flatMap_append]
  simp
theorem rdTo_yes {x : Ins} {n : Nat} {ol : List Int} (h : ol = rdTo x n) (hk : rdK x n = true) : ol ++ [nth [x.a, x.b, x.c] n] = rdTo x (n + 1) := by rw [rdTo_succ, h, if_pos hk]
theorem rdTo_no {x : Ins} {n : Nat} {ol : List Int} (h : ol = rdTo x n) (hk : rdK x n = false) : ol = rdTo x (n + 1) := by rw [rdTo_succ, h, if_neg (by rw [hk]; decide), List.append_nil]
theorem rdK_no {x : Ins} {n : Nat} (h : ¬ kAt (kindsB x.op) n = 114) : rdK x n = false := by unfold rdK; rw [decide_eq_false h, Bool.false_and]
theorem rdK_off {x : Ins} {n : Nat} (h1 : n = 0) (h2 : x.op ≠ 13) (h3 : 0 ≤ wrG x) : rdK x n = false := by unfold rdK; rw [decide_eq_true h1, decide_eq_true h2, decide_eq_true h3]; simp
theorem rdK_on {x : Ins} {n : Nat} (h : kAt (kindsB x.op) n = 114) (h2 : n ≠ 0 ∨ x.op = 13 ∨ ¬ 0 ≤ wrG x) : rdK x n = true := by
  unfold rdK
  rw [decide_eq_true h, Bool.true_and]
  rcases h2 with h2 | h2 | h2
  · rw [decide_eq_false h2]; rfl
  · rw [decide_eq_false (show ¬ x.op ≠ 13 from fun e => e h2)]; simp
  · rw [decide_eq_false h2]; simp
theorem rdTo_all (x : Ins) (hop : 1 ≤ x.op ∧ x.op ≤ 18) (hw : x.op ≤ 8 ∨ x.op = 10 → 0 ≤ x.a) : rdTo x (kindsB x.op).size = rdG x := by
  obtain ⟨op, a, b, c⟩ := x
  simp only at hop hw
  have key : ∀ (l : List UInt8), kindsB op = ⟨l.toArray⟩ → ∀ k, kAt (kindsB op) k = ((l[k]?).map fun b => (b.toNat : Int)).getD 0 := by
    intro l hl k
    rw [hl]
    unfold kAt
    by_cases h : k < l.length
    · rw [dif_pos (by simpa [ByteArray.size] using h), List.getElem?_eq_getElem h]; rfl
    · rw [dif_neg (by simpa [ByteArray.size] using h), List.getElem?_eq_none (by omega)]; rfl
  rcases cases18 op hop with h | h | h | h | h | h | h | h | h | h | h | h | h | h | h | h | h | h <;> subst h
  · have e : kindsB 1 = ⟨[114, 110].toArray⟩ := by unfold kindsB; simp
    have hk := key _ e
    have e0 := hk 0
    have e1 := hk 1
    have e2 := hk 2
    simp at e0 e1 e2
    have ez : (kindsB 1).size = 2 := by rw [e]; rfl
    have h0 : 0 ≤ a := hw (by decide)
    simp [rdTo, rdK, ez, e0, e1, e2, wrG, rdG, nth, List.range_succ, h0]
  · have e : kindsB 2 = ⟨[114, 114].toArray⟩ := by unfold kindsB; simp
    have hk := key _ e
    have e0 := hk 0
    have e1 := hk 1
    have e2 := hk 2
    simp at e0 e1 e2
    have ez : (kindsB 2).size = 2 := by rw [e]; rfl
    have h0 : 0 ≤ a := hw (by decide)
    simp [rdTo, rdK, ez, e0, e1, e2, wrG, rdG, nth, List.range_succ, h0]
  · have e : kindsB 3 = ⟨[114, 114, 114].toArray⟩ := by unfold kindsB; simp
    have hk := key _ e
    have e0 := hk 0
    have e1 := hk 1
    have e2 := hk 2
    simp at e0 e1 e2
    have ez : (kindsB 3).size = 3 := by rw [e]; rfl
    have h0 : 0 ≤ a := hw (by decide)
    simp [rdTo, rdK, ez, e0, e1, e2, wrG, rdG, nth, List.range_succ, h0]
  · have e : kindsB 4 = ⟨[114, 114, 114].toArray⟩ := by unfold kindsB; simp
    have hk := key _ e
    have e0 := hk 0
    have e1 := hk 1
    have e2 := hk 2
    simp at e0 e1 e2
    have ez : (kindsB 4).size = 3 := by rw [e]; rfl
    have h0 : 0 ≤ a := hw (by decide)
    simp [rdTo, rdK, ez, e0, e1, e2, wrG, rdG, nth, List.range_succ, h0]
  · have e : kindsB 5 = ⟨[114, 114, 114].toArray⟩ := by unfold kindsB; simp
    have hk := key _ e
    have e0 := hk 0
    have e1 := hk 1
    have e2 := hk 2
    simp at e0 e1 e2
    have ez : (kindsB 5).size = 3 := by rw [e]; rfl
    have h0 : 0 ≤ a := hw (by decide)
    simp [rdTo, rdK, ez, e0, e1, e2, wrG, rdG, nth, List.range_succ, h0]
  · have e : kindsB 6 = ⟨[114, 114, 114].toArray⟩ := by unfold kindsB; simp
    have hk := key _ e
    have e0 := hk 0
    have e1 := hk 1
    have e2 := hk 2
    simp at e0 e1 e2
    have ez : (kindsB 6).size = 3 := by rw [e]; rfl
    have h0 : 0 ≤ a := hw (by decide)
    simp [rdTo, rdK, ez, e0, e1, e2, wrG, rdG, nth, List.range_succ, h0]
  · have e : kindsB 7 = ⟨[114, 114, 114].toArray⟩ := by unfold kindsB; simp
    have hk := key _ e
    have e0 := hk 0
    have e1 := hk 1
    have e2 := hk 2
    simp at e0 e1 e2
    have ez : (kindsB 7).size = 3 := by rw [e]; rfl
    have h0 : 0 ≤ a := hw (by decide)
    simp [rdTo, rdK, ez, e0, e1, e2, wrG, rdG, nth, List.range_succ, h0]
  · have e : kindsB 8 = ⟨[114, 119].toArray⟩ := by unfold kindsB; simp
    have hk := key _ e
    have e0 := hk 0
    have e1 := hk 1
    have e2 := hk 2
    simp at e0 e1 e2
    have ez : (kindsB 8).size = 2 := by rw [e]; rfl
    have h0 : 0 ≤ a := hw (by decide)
    simp [rdTo, rdK, ez, e0, e1, e2, wrG, rdG, nth, List.range_succ, h0]
  · have e : kindsB 9 = ⟨[119, 114].toArray⟩ := by unfold kindsB; simp
    have hk := key _ e
    have e0 := hk 0
    have e1 := hk 1
    have e2 := hk 2
    simp at e0 e1 e2
    have ez : (kindsB 9).size = 2 := by rw [e]; rfl
    simp [rdTo, rdK, ez, e0, e1, e2, wrG, rdG, nth, List.range_succ]
  · have e : kindsB 10 = ⟨[114, 114].toArray⟩ := by unfold kindsB; simp
    have hk := key _ e
    have e0 := hk 0
    have e1 := hk 1
    have e2 := hk 2
    simp at e0 e1 e2
    have ez : (kindsB 10).size = 2 := by rw [e]; rfl
    have h0 : 0 ≤ a := hw (by decide)
    simp [rdTo, rdK, ez, e0, e1, e2, wrG, rdG, nth, List.range_succ, h0]
  · have e : kindsB 11 = ⟨[114, 114].toArray⟩ := by unfold kindsB; simp
    have hk := key _ e
    have e0 := hk 0
    have e1 := hk 1
    have e2 := hk 2
    simp at e0 e1 e2
    have ez : (kindsB 11).size = 2 := by rw [e]; rfl
    simp [rdTo, rdK, ez, e0, e1, e2, wrG, rdG, nth, List.range_succ]
  · have e : kindsB 12 = ⟨[].toArray⟩ := by unfold kindsB; simp
    have hk := key _ e
    have e0 := hk 0
    have e1 := hk 1
    have e2 := hk 2
    simp at e0 e1 e2
    have ez : (kindsB 12).size = 0 := by rw [e]; rfl
    simp [rdTo, rdK, ez, e0, e1, e2, wrG, rdG, nth, List.range_succ]
  · have e : kindsB 13 = ⟨[119, 114, 114].toArray⟩ := by unfold kindsB; simp
    have hk := key _ e
    have e0 := hk 0
    have e1 := hk 1
    have e2 := hk 2
    simp at e0 e1 e2
    have ez : (kindsB 13).size = 3 := by rw [e]; rfl
    simp [rdTo, rdK, ez, e0, e1, e2, wrG, rdG, nth, List.range_succ]
  · have e : kindsB 14 = ⟨[99].toArray⟩ := by unfold kindsB; simp
    have hk := key _ e
    have e0 := hk 0
    have e1 := hk 1
    have e2 := hk 2
    simp at e0 e1 e2
    have ez : (kindsB 14).size = 1 := by rw [e]; rfl
    simp [rdTo, rdK, ez, e0, e1, e2, wrG, rdG, nth, List.range_succ]
  · have e : kindsB 15 = ⟨[114, 99].toArray⟩ := by unfold kindsB; simp
    have hk := key _ e
    have e0 := hk 0
    have e1 := hk 1
    have e2 := hk 2
    simp at e0 e1 e2
    have ez : (kindsB 15).size = 2 := by rw [e]; rfl
    simp [rdTo, rdK, ez, e0, e1, e2, wrG, rdG, nth, List.range_succ]
  · have e : kindsB 16 = ⟨[114].toArray⟩ := by unfold kindsB; simp
    have hk := key _ e
    have e0 := hk 0
    have e1 := hk 1
    have e2 := hk 2
    simp at e0 e1 e2
    have ez : (kindsB 16).size = 1 := by rw [e]; rfl
    simp [rdTo, rdK, ez, e0, e1, e2, wrG, rdG, nth, List.range_succ]
  · have e : kindsB 17 = ⟨[108].toArray⟩ := by unfold kindsB; simp
    have hk := key _ e
    have e0 := hk 0
    have e1 := hk 1
    have e2 := hk 2
    simp at e0 e1 e2
    have ez : (kindsB 17).size = 1 := by rw [e]; rfl
    simp [rdTo, rdK, ez, e0, e1, e2, wrG, rdG, nth, List.range_succ]
  · have e : kindsB 18 = ⟨[108].toArray⟩ := by unfold kindsB; simp
    have hk := key _ e
    have e0 := hk 0
    have e1 := hk 1
    have e2 := hk 2
    simp at e0 e1 e2
    have ez : (kindsB 18).size = 1 := by rw [e]; rfl
    simp [rdTo, rdK, ez, e0, e1, e2, wrG, rdG, nth, List.range_succ]

theorem kinds_c (op : Int) (W : World) :
    Rets Try.prog 62 [.int .i64 op] W (fun v w' => v = .string (kindsB op) ∧ Sh0 W w' []) := by
 refine gen Try.func62 Try.ntmps62 (Sh0.start W : Sh (fun _ => False) W W []) rfl fun a10 h10 => gG h10<|sG (oM 1 rfl<|.nl)<|sK fun _ k12 => fun a14 w14 h14 => wl_ex (x_call h14 bd_36 rfl rfl rfl rfl rfl (shapes_c _)) (wanted_none rfl _) ?_; clear h10
 rintro a15 w15 ⟨_, ⟨g15, rfl, hs15⟩, hf15⟩
 have h15 := (⟨hf15, h14.sh.call hs15 (by intro A hA b hb; first | (simp at hA; done) | (simp at hA; subst hA; first | exact Flat.noRd hb | exact (hb : False).elim) | (simp at hA; rcases hA with rfl | rfl <;> first | exact Flat.noRd hb | exact (hb : False).elim))⟩ : St 7 (fun _ => False) W a15 w15 _ _)
 clear hf15 hs15
 clear h14
 refine gG h15<|gRn (oM 1 rfl<|oV (r_lookShp (i := 0) rfl rfl rfl rfl) rfl<|oV (r_fieldK rfl rfl) rfl<|oM 1 rfl<|.nl)<|nK k12<|gR<|fun a16 w16 h16 => x_ret1 (fn := Try.f62) (t := 2) rfl h16 rfl ?_; clear h15
 exact ⟨rfl, (h16.sh.sel [] rfl)⟩

theorem reads_c (x : Ins) (W : World) (hop : 1 ≤ x.op ∧ x.op ≤ 18) (hw : x.op ≤ 8 ∨ x.op = 10 → 0 ≤ x.a) :
    Rets Try.prog 45 [.agg #[.int .i64 x.op, .int .i64 x.a, .int .i64 x.b, .int .i64 x.c]] W (fun v w' => ∃ s : Ls Int, v = s.v ∧ s.l = rdG x ∧ Sh0 W w' [.own 3 s]) := by
 refine gen Try.func45 Try.ntmps45 (Sh0.start W : Sh (fun _ => False) W W []) rfl fun a10 h10 => gG h10<|sK fun _ k11 => gbx rfl rfl fun b12 => gRn (oM 1 rfl<|.nl)<|nK k11<|sG (oM 1 rfl<|.nl)<|gK fun _ k14 => sK fun _ k15 => gRn (ofB fl_44_0 rfl<|olB 0 ti_3 rfl rfl<|.nl)<|gP (fun _ _ h_ => xCl h_ bd_62 rfl (kinds_c x.op _)) rfl<|gE1 (fun _ _ h_ => x_range (s := kindsB x.op) h_ Try.underlying9 rfl rfl rfl rfl) rfl fun b17 => nK k15<|gB<|fun a20 w20 h20 => ?_; clear h10
 have h19 := h20.nil (α := Int) 3
 clear h20
 refine x_loop (fun m a w => ∃ (i : Nat) (ol : List Int) (vo : Value), (i ≤ (kindsB x.op).size) ∧ (ol = rdTo x i) ∧ (ol.length ≤ i) ∧ St 47 (fun _ => False) W a w [(1, .pointer (some ⟨b12, 0, none⟩)), (3, vo), (10, .pointer (some ⟨b17, 0, none⟩))] [.iter b17 (kindsB x.op) i, .blk b12 44 [.int .i64 x.op, .int .i64 x.a, .int .i64 x.b, .int .i64 x.c], .own 3 (⟨vo, ol⟩ : Ls Int)] ∧ m = (kindsB x.op).size - i) ⟨_, 0, [], (.slice none 0 0), (Nat.zero_le _), (rfl), (Nat.le_refl _), h19.nrm ⟨rfl, rfl, rfl, trivial⟩ [1, 2, 0] rfl, rfl⟩ ?_
 clear h19
 rintro m18 a18 w18 ⟨i, ol, vo, hi, hol, hoi, h18, hm18⟩
 have h3 := (kinds_small x.op).1
 refine gG h18<|sK fun _ k21 => ?_; clear h18
 by_cases hn22 : i < (kindsB x.op).size
 ·intro a23 w23 h23
  refine wl_ex (x_next (i := 0) (s := (kindsB x.op)) (pos := i) h23 rfl rfl rfl hn22 ((kinds_small x.op).2 _ hn22) rfl rfl) (wanted_none rfl _) ?_
  rintro a24 w24 h24
  clear h23
  refine gG h24<|gRn (oxt rfl<|.nl)<|nK k21<|gK fun _ k25 => gcT rfl rfl<|gS<|hK k25<|gB<|sG (oxt rfl<|oxt rfl<|oM 2 rfl<|.nl)<|sK fun _ k27 => gRn (ofB fl_44_1 rfl<|olB 1 ti_3 rfl rfl<|ofB fl_44_2 rfl<|olB 1 ti_3 rfl rfl<|ofB fl_44_3 rfl<|olB 1 ti_3 rfl rfl<|.nl)<|gE1 (fun _ _ h_ => x_lit (n := 3) (cs := [.int .i64 x.a, .int .i64 x.b, .int .i64 x.c]) ([x.a, x.b, x.c] : List Int) h_ sl_23 ti_3 rfl rfl rfl (by decide) rfl (by kernel_rfl) rfl (fun q hq w h => Flat.inner _ _) (fun q hq b hb => (Flat.on _ _ hb).elim) rfl rfl) rfl fun v28 => gNl (aO 0 rfl) fun (hl29 : ([x.a, x.b, x.c]).length ≤ 140737488355328) => gRn (oM 1 rfl<|oxN sl_23 ti_3 (aO 0 rfl) _ (show i < ([x.a, x.b, x.c]).length from om9) rfl<|olE (.int .i64 (nth ([x.a, x.b, x.c]) i)) ti_3 (aO 0 rfl) (show i < ([x.a, x.b, x.c]).length from om9) rfl<|oM 1 rfl<|.nl)<|nK k27<|sK fun _ k30 => gRn (oM 1 rfl<|oeqI _ _ rfl<|oM 1 rfl<|.nl)<|?_; clear h24
  rcases dsp ((((kindsB x.op)[i]'hn22).toNat : Int) = 114) with ⟨hb31, hp31⟩ | ⟨hb31, hp31⟩
  ·skip
   refine gRn (oG hb31 (r_move rfl rfl) rfl<|oG hb31 (r_eqlN (p := i) (q := 0) rfl rfl rfl) rfl<|oG hb31 (r_move rfl rfl) rfl<|.nl)<|?_
   rcases dsp (i = 0) with ⟨hb32, hp32⟩ | ⟨hb32, hp32⟩
   ·skip
    refine gRn (oG hb32 (r_fieldB (r := 0) fl_44_0 rfl rfl rfl) rfl<|oG hb32 (r_ldb (i := 2) ti_3 rfl rfl rfl rfl) rfl<|oG hb32 (r_neqI (p := x.op) (q := 13) rfl rfl rfl) rfl<|oG hb31 (r_pickT rfl rfl hb32 rfl) rfl<|oG hb31 (r_move rfl rfl) rfl<|.nl)<|?_
    rcases dsp (x.op ≠ 13) with ⟨hb33, hp33⟩ | ⟨hb33, hp33⟩
    ·skip
     refine gRn (oG hb33 (r_ldbw (i := 2) (vs := [.int .i64 x.op, .int .i64 x.a, .int .i64 x.b, .int .i64 x.c]) ti_44 rfl rfl rfl rfl rfl) rfl<|.nl)<|fun a34 w34 h34 => wl_ex (x_call h34 bd_44 rfl rfl rfl rfl rfl (writes_c x _ (by omega))) (wanted_yes h34.fr rfl rfl rfl rfl hb33) ?_
     rintro a35 w35 ⟨_, ⟨rfl, hs35⟩, hf35⟩
     have h35 : St 47 (fun _ => False) W a35 w35 _ _ := ⟨hf35, h34.sh.call0 hs35⟩
     clear hf35 hs35
     clear h34
     refine gG h35<|gRn (oG hb33 (r_geqI (p := wrG x) (q := 0) rfl rfl rfl) rfl<|oG hb31 (r_pickT rfl rfl hb33 rfl) rfl<|oG hb31 (r_not rfl rfl) rfl<|opT hb31 rfl<|.nl)<|nK k30<|gF [1, 3, 6, 10, 41] rfl<|?_; clear h35
     refine gCb rfl (fun hb36 => ?_) fun hb36 => ?_
     ·have hp36 : ¬ (0 ≤ wrG x) := by simpa using hb36
      refine gL<|gRn (oM 2 rfl<|.nl)<|gE1 (fun _ _ h_ => x_lit (n := 1) (cs := [.int .i64 (nth ([x.a, x.b, x.c]) i)]) ([nth ([x.a, x.b, x.c]) i] : List Int) h_ sl_23 ti_3 rfl rfl rfl (by decide) rfl (by kernel_rfl) rfl (fun q hq w h => Flat.inner _ _) (fun q hq b hb => (Flat.on _ _ hb).elim) rfl rfl) rfl fun v37 => gE1 (fun _ _ h_ => x_app (r := 4) (rm := 0) (s := (⟨vo, ol⟩ : Ls Int)) (m := (⟨v37, [nth ([x.a, x.b, x.c]) i]⟩ : Ls Int)) h_ sl_23 ti_3 rfl rfl rfl rfl rfl rfl rfl (fun w h => (h.own 0 rfl)) (fun b hb => own_on (h_.sh.ok _ (List.mem_of_getElem? (i := 0) rfl)) hb) (fun q hq b hb => ⟨q, hq, hb⟩) rfl rfl rfl inferInstance (show (ol.length + ([nth ([x.a, x.b, x.c]) i]).length) * 8 ≤ 140737488355328 ∧ ol.length + ([nth ([x.a, x.b, x.c]) i]).length ≤ 140737488355328 from om9) rfl rfl) rfl fun v38 => gRn (oM 1 rfl<|.nl)<|nN<|fun a39 w39 h39 => ?_
      change ∃ _m, _m < _ ∧ _
      refine ⟨_, ?_, i + 1, ol ++ ([nth ([x.a, x.b, x.c]) i]), v38, ?_, ?_, ?_, h39.nrm ⟨rfl, rfl, rfl, trivial⟩ [2, 3, 4] rfl, rfl⟩
      · rw [hm18]; first | omega | (simp only [lens9]; omega)
      · omega
      · first | exact rdTo_yes hol (rdK_on (by rw [kAt_at (by assumption)]; assumption) (by first | (left; assumption) | (right; left; omega) | (right; right; assumption))) | exact rdTo_no hol (rdK_no (by rw [kAt_at (by assumption)]; assumption)) | exact rdTo_no hol (rdK_off (by assumption) (by assumption) (by assumption))
      · first | omega | (simp; omega)
     have hp36 : 0 ≤ wrG x := by simpa using hb36
     refine gS<|fun a40 w40 h40 => ?_
     change ∃ _m, _m < _ ∧ _
     refine ⟨_, ?_, i + 1, ol, vo, ?_, ?_, ?_, h40.nrm ⟨rfl, rfl, rfl, trivial⟩ [1, 2, 3] rfl, rfl⟩
     · rw [hm18]; first | omega | (simp only [lens9]; omega)
     · omega
     · first | exact rdTo_yes hol (rdK_on (by rw [kAt_at (by assumption)]; assumption) (by first | (left; assumption) | (right; left; omega) | (right; right; assumption))) | exact rdTo_no hol (rdK_no (by rw [kAt_at (by assumption)]; assumption)) | exact rdTo_no hol (rdK_off (by assumption) (by assumption) (by assumption))
     · first | omega | (simp; omega)
    refine gRn (oKs 3 hb33 rfl rfl<|oG hb31 (r_pickF rfl rfl hb33 rfl) rfl<|oG hb31 (r_not rfl rfl) rfl<|opT hb31 rfl<|.nl)<|nK k30<|gF [1, 3, 6, 10, 41] rfl<|gcT rfl rfl<|gL<|gRn (oM 2 rfl<|.nl)<|gE1 (fun _ _ h_ => x_lit (n := 1) (cs := [.int .i64 (nth ([x.a, x.b, x.c]) i)]) ([nth ([x.a, x.b, x.c]) i] : List Int) h_ sl_23 ti_3 rfl rfl rfl (by decide) rfl (by kernel_rfl) rfl (fun q hq w h => Flat.inner _ _) (fun q hq b hb => (Flat.on _ _ hb).elim) rfl rfl) rfl fun v41 => gE1 (fun _ _ h_ => x_app (r := 4) (rm := 0) (s := (⟨vo, ol⟩ : Ls Int)) (m := (⟨v41, [nth ([x.a, x.b, x.c]) i]⟩ : Ls Int)) h_ sl_23 ti_3 rfl rfl rfl rfl rfl rfl rfl (fun w h => (h.own 0 rfl)) (fun b hb => own_on (h_.sh.ok _ (List.mem_of_getElem? (i := 0) rfl)) hb) (fun q hq b hb => ⟨q, hq, hb⟩) rfl rfl rfl inferInstance (show (ol.length + ([nth ([x.a, x.b, x.c]) i]).length) * 8 ≤ 140737488355328 ∧ ol.length + ([nth ([x.a, x.b, x.c]) i]).length ≤ 140737488355328 from om9) rfl rfl) rfl fun v42 => gRn (oM 1 rfl<|.nl)<|nN<|fun a43 w43 h43 => ?_
    change ∃ _m, _m < _ ∧ _
    refine ⟨_, ?_, i + 1, ol ++ ([nth ([x.a, x.b, x.c]) i]), v42, ?_, ?_, ?_, h43.nrm ⟨rfl, rfl, rfl, trivial⟩ [2, 3, 4] rfl, rfl⟩
    · rw [hm18]; first | omega | (simp only [lens9]; omega)
    · omega
    · first | exact rdTo_yes hol (rdK_on (by rw [kAt_at (by assumption)]; assumption) (by first | (left; assumption) | (right; left; omega) | (right; right; assumption))) | exact rdTo_no hol (rdK_no (by rw [kAt_at (by assumption)]; assumption)) | exact rdTo_no hol (rdK_off (by assumption) (by assumption) (by assumption))
    · first | omega | (simp; omega)
   refine gRn (oKs 3 hb32 rfl rfl<|oG hb31 (r_pickF rfl rfl hb32 rfl) rfl<|oG hb31 (r_move rfl rfl) rfl<|oKs 3 rfl rfl rfl<|oG hb31 (r_pickF rfl rfl rfl rfl) rfl<|oG hb31 (r_not rfl rfl) rfl<|opT hb31 rfl<|.nl)<|nK k30<|gF [1, 3, 6, 10, 41] rfl<|gcT rfl rfl<|gL<|gRn (oM 2 rfl<|.nl)<|gE1 (fun _ _ h_ => x_lit (n := 1) (cs := [.int .i64 (nth ([x.a, x.b, x.c]) i)]) ([nth ([x.a, x.b, x.c]) i] : List Int) h_ sl_23 ti_3 rfl rfl rfl (by decide) rfl (by kernel_rfl) rfl (fun q hq w h => Flat.inner _ _) (fun q hq b hb => (Flat.on _ _ hb).elim) rfl rfl) rfl fun v44 => gE1 (fun _ _ h_ => x_app (r := 4) (rm := 0) (s := (⟨vo, ol⟩ : Ls Int)) (m := (⟨v44, [nth ([x.a, x.b, x.c]) i]⟩ : Ls Int)) h_ sl_23 ti_3 rfl rfl rfl rfl rfl rfl rfl (fun w h => (h.own 0 rfl)) (fun b hb => own_on (h_.sh.ok _ (List.mem_of_getElem? (i := 0) rfl)) hb) (fun q hq b hb => ⟨q, hq, hb⟩) rfl rfl rfl inferInstance (show (ol.length + ([nth ([x.a, x.b, x.c]) i]).length) * 8 ≤ 140737488355328 ∧ ol.length + ([nth ([x.a, x.b, x.c]) i]).length ≤ 140737488355328 from om9) rfl rfl) rfl fun v45 => gRn (oM 1 rfl<|.nl)<|nN<|fun a46 w46 h46 => ?_
   change ∃ _m, _m < _ ∧ _
   refine ⟨_, ?_, i + 1, ol ++ ([nth ([x.a, x.b, x.c]) i]), v45, ?_, ?_, ?_, h46.nrm ⟨rfl, rfl, rfl, trivial⟩ [2, 3, 4] rfl, rfl⟩
   · rw [hm18]; first | omega | (simp only [lens9]; omega)
   · omega
   · first | exact rdTo_yes hol (rdK_on (by rw [kAt_at (by assumption)]; assumption) (by first | (left; assumption) | (right; left; omega) | (right; right; assumption))) | exact rdTo_no hol (rdK_no (by rw [kAt_at (by assumption)]; assumption)) | exact rdTo_no hol (rdK_off (by assumption) (by assumption) (by assumption))
   · first | omega | (simp; omega)
  refine gRn (oKs 3 hb31 rfl rfl<|oK2 rfl<|oK2 rfl<|oK2 rfl<|oKs 2 hb31 rfl rfl<|oK2 rfl<|oK2 rfl<|oK2 rfl<|oKs 2 hb31 rfl rfl<|opF hb31 rfl<|.nl)<|nK k30<|gF [1, 3, 6, 10, 41] rfl<|gcF rfl rfl<|gS<|fun a47 w47 h47 => ?_
  change ∃ _m, _m < _ ∧ _
  refine ⟨_, ?_, i + 1, ol, vo, ?_, ?_, ?_, h47.nrm ⟨rfl, rfl, rfl, trivial⟩ [1, 2, 3] rfl, rfl⟩
  · rw [hm18]; first | omega | (simp only [lens9]; omega)
  · omega
  · first | exact rdTo_yes hol (rdK_on (by rw [kAt_at (by assumption)]; assumption) (by first | (left; assumption) | (right; left; omega) | (right; right; assumption))) | exact rdTo_no hol (rdK_no (by rw [kAt_at (by assumption)]; assumption)) | exact rdTo_no hol (rdK_off (by assumption) (by assumption) (by assumption))
  · first | omega | (simp; omega)
 intro a49 w49 h49
 refine wv h49 (r_nextEnd (i := 0) (s := (kindsB x.op)) (pos := i) rfl rfl rfl hn22) rfl rfl fun a48 h48 => gG h48<|gRn (oxt rfl<|.nl)<|nK k21<|gK fun _ k50 => gcF rfl rfl<|gX<|hK k14<|sG (oM 2 rfl<|.nl)<|gR<|fun a52 w52 h52 => x_ret1 (fn := Try.f45) (t := 2) rfl h52 rfl <| ⟨⟨vo, ol⟩, rfl, ?_, (h52.sh.sel [2] rfl)⟩; clear h49 h48
 show ol = _
 rw [hol, show i = (kindsB x.op).size by omega]
 exact rdTo_all x hop hw

theorem reads_ls {f : FuncId} {vs : List Value} {W : World} {l : List Int} (h : Rets Try.prog f vs W (fun v w' => ∃ s : Ls Int, v = s.v ∧ s.l = l ∧ Sh0 W w' [.own 3 s])) : Rets Try.prog f vs W (fun v w' => ∃ s : Ls Int, v = s.v ∧ Sh0 W w' [.own 3 (⟨s.v, l⟩ : Ls Int)]) :=
  h.mono fun v w' ⟨s, h1, h2, h3⟩ => ⟨s, h1, by subst h2; exact h3⟩
end Go.Proofs.Ytmgikmjmdppfmaa
