/-
  Contracts of functions of this program and of the references, each walked once.
-/
import Derived.Test.YtmgikmjmdppfmaaX0
import Derived.Test.YtmgikmjmdppfmaaC1
namespace Go.Proofs.Ytmgikmjmdppfmaa
open Go.RowKit
set_option linter.unusedSimpArgs false
set_option linter.unusedVariables false
set_option maxRecDepth 100000
set_option maxHeartbeats 2000000


theorem take_succ_nth {α : Type} [Inhabited α] (l : List α) (k : Nat) (h : k < l.length) : l.take (k + 1) = l.take k ++ [nth l k] := by
  rw [List.take_succ_eq_append_getElem h, nth_lt l k h]
theorem ext_nth {α : Type} [Inhabited α] (l m : List α) (hl : l.length = m.length) (h : ∀ i, i < l.length → nth l i = nth m i) : l = m := by
  apply List.ext_getElem hl
  intro i h1 h2
  have := h i h1
  rwa [nth_lt l i h1, nth_lt m i h2] at this

/-- Every jump of a thread leads to a place of it. -/
def JumpsOK (code : List Ins) : Prop := ∀ i, i < code.length → ((nth code i).op = 14 → 0 ≤ (nth code i).a ∧ (nth code i).a ≤ code.length) ∧ ((nth code i).op = 15 → 0 ≤ (nth code i).b ∧ (nth code i).b ≤ code.length)

def placeL (become : List (List Ins)) (i : Nat) : Nat := ((become.take i).map List.length).sum
theorem placeL_succ (become : List (List Ins)) (i : Nat) (h : i < become.length) : placeL become (i + 1) = placeL become i + (nth become i).length := by
  unfold placeL
  rw [take_succ_nth _ _ h]
  simp
def fixIns (become : List (List Ins)) (code : List Ins) (i : Nat) (x : Ins) : Ins :=
  if x.op = 14 ∧ ((nth code i).op = 14 ∨ (nth code i).op = 15) then { x with a := placeL become x.a.toNat }
  else if x.op = 15 ∧ (nth code i).op = 15 then { x with b := placeL become x.b.toNat }
  else if x.op = 15 ∧ (nth code i).op = 17 then { x with b := placeL become i } else x
def putUpto (become : List (List Ins)) (code : List Ins) (i : Nat) : List Ins := (List.range i).flatMap fun i => (nth become i).map (fixIns become code i)
def putL (become : List (List Ins)) (code : List Ins) : List Ins := putUpto become code code.length
theorem putUpto_succ (become : List (List Ins)) (code : List Ins) (i : Nat) : putUpto become code (i + 1) = putUpto become code i ++ (nth become i).map (fixIns become code i) := by
  simp [putUpto, List.range_succ]
theorem ins_ext {x y : Ins} (h1 : x.op = y.op) (h2 : x.a = y.a) (h3 : x.b = y.b) (h4 : x.c = y.c) : x = y := by
  cases x; cases y; simp_all
instance : DecidableEq Pg := fun p q => by
  rcases p with ⟨a, b, c, d⟩; rcases q with ⟨a', b', c', d'⟩
  exact decidable_of_iff (a = a' ∧ b = b' ∧ c = c' ∧ d = d') (by simp)
section
variable {code code2 : Ls (Ls Ins)} {words words2 : Ls Int} {locks regs locks2 regs2 : Int}
theorem pg_words (e : pgOf code words locks regs = pgOf code2 words2 locks2 regs2) : words.l = words2.l := congrArg Pg.words e
theorem pg_locks (e : pgOf code words locks regs = pgOf code2 words2 locks2 regs2) : locks = locks2 := congrArg Pg.locks e
theorem pg_regs (e : pgOf code words locks regs = pgOf code2 words2 locks2 regs2) : regs = regs2 := congrArg Pg.regs e
theorem pg_len (e : pgOf code words locks regs = pgOf code2 words2 locks2 regs2) : code.l.length = code2.l.length := by simpa [pgOf] using congrArg (fun p : Pg => p.code.length) e
theorem pg_code (e : pgOf code words locks regs = pgOf code2 words2 locks2 regs2) (t : Nat) (h : t < code.l.length) : (nth code.l t).l = (nth code2.l t).l := by
  have h1 := congrArg (fun p : Pg => nth p.code t) e
  have h2 := pg_len e
  simp only [pgOf] at h1
  rwa [nth_map' _ _ _ h, nth_map' _ _ _ (by omega)] at h1
theorem pg_eq (h1 : words.l = words2.l) (h2 : locks = locks2) (h3 : regs = regs2) (h4 : code.l.length = code2.l.length) (h5 : ∀ j, j < code.l.length → (nth code.l j).l = (nth code2.l j).l) : pgOf code words locks regs = pgOf code2 words2 locks2 regs2 := by
  unfold pgOf
  rw [h1, h2, h3]
  congr 1
  refine ext_nth _ _ (by simpa using h4) fun i hi => ?_
  have hi' : i < code.l.length := by simpa using hi
  rw [nth_map' _ _ _ hi', nth_map' _ _ _ (by omega)]
  exact h5 i hi'
end
def noneP (p : Pg) : Bool := decide (p.code.length + p.words.length = 0 ∧ p.locks = 0 ∧ p.regs = 0)
def BecomeOK2 (become : List (Ls Ins)) (code : List Ins) : Prop := ∀ i, i < code.length → ∀ k, k < (nth become i).l.length →
  ((nth (nth become i).l k).op ≠ 14 ∨ ((nth code i).op ≠ 14 ∧ (nth code i).op ≠ 15) ∨ (0 ≤ (nth (nth become i).l k).a ∧ (nth (nth become i).l k).a ≤ code.length)) ∧
  ((nth (nth become i).l k).op ≠ 15 ∨ (nth code i).op ≠ 15 ∨ (0 ≤ (nth (nth become i).l k).b ∧ (nth (nth become i).l k).b ≤ code.length))
theorem ints_c (x y : Ls Int) (W : World) (hx : x.At W) (hy : y.At W) :
    Rets Try.prog 34 [x.v, y.v] W (fun v w' => v = .bool (decide (x.l = y.l)) ∧ Sh0 W w' []) := by
 refine gen Try.func34 Try.ntmps34 (Sh0.ext2 hx hy : Sh (fun _ => False) W W [.at_ x, .at_ y]) rfl fun a10 h10 => gG h10<|sG (oM 1 rfl<|.nl)<|gK fun _ k12 => sK fun _ k13 => gNl (aA 0 rfl) fun hl14 => gNl (aA 1 rfl) fun hl15 => gRn (oM 1 rfl<|oln sl_23 (aA 0 rfl) rfl<|oM 1 rfl<|oln sl_23 (aA 1 rfl) rfl<|oneN _ _ rfl<|.nl)<|nK k13<|?_; clear h10
 refine gcd rfl (fun hb16 hp16 => ?_) fun hb16 hp16 => ?_
 ·skip
  refine sG (oM 1 rfl<|.nl)<|gR<|uT<|fun a18 w18 h18 => x_ret1 (fn := Try.f34) (t := 4) rfl h18 rfl <| ⟨?_, (h18.sh.sel [] rfl)⟩
  congr 1
  first | (exact (decide_eq_true (ext_nth _ _ (by omega) fun i hi => hall i (by omega))).symm) | (refine (decide_eq_false fun e => ?_).symm; simp_all)
 refine gS<|hK k12<|gK fun _ k19 => sG (oM 1 rfl<|.nl)<|gB<|fun a22 w22 h22 => x_loop (fun m a w => ∃ (k : Nat), (k ≤ x.l.length) ∧ (∀ j, j < k → nth x.l j = nth y.l j) ∧ St 26 (fun _ => False) W a w [(0, x.v), (1, y.v), (5, .int .i64 ((k : Nat) : Int))] [.at_ x, .at_ y] ∧ m = x.l.length - k) ⟨_, 0, (by omega), (fun j hj => absurd hj (by omega)), h22.nf ⟨rfl, rfl, rfl, trivial⟩, rfl⟩ ?_
 clear h22
 rintro m21 a21 w21 ⟨k, hk, hall, h21, hm21⟩
 refine gG h21<|gK fun _ k23 => sG (oM 2 rfl<|oln sl_23 (aA 0 rfl) rfl<|oltN _ _ rfl<|.nl)<|?_; clear h21
 refine gcd rfl (fun hb25 hp25 => ?_) fun hb25 hp25 => ?_
 ·skip
  refine gS<|hK k23<|gK fun _ k26 => gB<|gK fun _ k27 => rQ (oM 2 rfl<|oxN sl_23 ti_3 (aA 0 rfl) _ om9 rfl<|olI ti_3 (aA 0 rfl) om9 rfl<|oM 2 rfl<|oxN sl_23 ti_3 (aA 1 rfl) _ om9 rfl<|olI ti_3 (aA 1 rfl) om9 rfl<|oneI _ _ rfl<|.nl)<|hK k27<|gcd rfl (fun hb28 hp28 => ?_) fun hb28 hp28 => ?_
  ·skip
   refine sG (oM 1 rfl<|.nl)<|gR<|uB<|uT<|uT<|uB<|uT<|fun a30 w30 h30 => x_ret1 (fn := Try.f34) (t := 4) rfl h30 rfl <| ⟨?_, (h30.sh.sel [] rfl)⟩
   congr 1
   first | (exact (decide_eq_true (ext_nth _ _ (by omega) fun i hi => hall i (by omega))).symm) | (refine (decide_eq_false fun e => ?_).symm; simp_all)
  refine gS<|hK k26<|gL<|gRn (oM 1 rfl<|oadN _ 1 om9 rfl<|oM 1 rfl<|.nl)<|nN<|fun a31 w31 h31 => x_again ⟨_, ?_, k + 1, ?_, ?_, h31.nf ⟨rfl, rfl, rfl, trivial⟩, rfl⟩
  · rw [hm21]; first | omega | (simp only [lens9]; omega)
  · omega
  · intro j hj; rcases Nat.lt_or_ge j k with h | h; exact hall j h; obtain rfl : j = k := (by omega); simp_all
 refine gX<|hK k19<|sG (oM 1 rfl<|.nl)<|gR<|fun a33 w33 h33 => x_ret1 (fn := Try.f34) (t := 4) rfl h33 rfl <| ⟨?_, (h33.sh.sel [] rfl)⟩
 congr 1
 first | (exact (decide_eq_true (ext_nth _ _ (by omega) fun i hi => hall i (by omega))).symm) | (refine (decide_eq_false fun e => ?_).symm; simp_all)

theorem same_c (code : Ls (Ls Ins)) (words : Ls Int) (locks regs : Int) (code2 : Ls (Ls Ins)) (words2 : Ls Int) (locks2 regs2 : Int) (W : World) (hc : code.At W) (hw : words.At W) (hc2 : code2.At W) (hw2 : words2.At W) :
    Rets Try.prog 13 [.agg #[code.v, words.v, .int .i64 locks, .int .i64 regs], .agg #[code2.v, words2.v, .int .i64 locks2, .int .i64 regs2]] W (fun v w' => v = .bool (decide (pgOf code words locks regs = pgOf code2 words2 locks2 regs2)) ∧ Sh0 W w' []) := by
 refine gen Try.func13 Try.ntmps13 (Sh0.ext4 hc hw hc2 hw2 : Sh (fun _ => False) W W [.at_ code, .at_ words, .at_ code2, .at_ words2]) rfl fun a10 h10 => gG h10<|sK fun _ k11 => gbx rfl rfl fun b12 => gbx rfl rfl fun b13 => gRn (oM 1 rfl<|.nl)<|nK k11<|sK fun _ k14 => gRn (ofB fl_25_1 rfl<|olB 1 ti_23 rfl rfl<|ofB fl_25_1 rfl<|olB 0 ti_23 rfl rfl<|.nl)<|gC (fun _ _ h_ => xCl h_ bd_34 rfl (ints_c words words2 _ (h_.sh.at 3 rfl) (h_.sh.at 5 rfl))) rfl<|?_; clear h10
 rintro _ _ w15 ⟨rfl, hs15⟩
 refine gWk hs15 rfl<|gU<|gRn (oM 1 rfl<|.nl)<|nK k14<|gK fun _ k16 => sK fun _ k17 => gRn (oM 1 rfl<|ont rfl<|oM 1 rfl<|.nl)<|?_; clear hs15
 rcases Bool.eq_false_or_eq_true (!(decide (words.l = words2.l))) with hb18 | hb18
 ·have hp18 : ¬ (words.l = words2.l) := by simpa using hb18
  refine gRn (oKs 5 hb18 rfl rfl<|opT hb18 rfl<|oM 1 rfl<|oKs 5 rfl rfl rfl<|opT rfl rfl<|oM 1 rfl<|oKs 7 rfl rfl rfl<|opT rfl rfl<|.nl)<|nK k17<|gF [2, 3, 39] rfl<|gcT rfl rfl<|sG (oM 1 rfl<|.nl)<|gR<|uT<|fun a20 w20 h20 => x_ret1 (fn := Try.f13) (t := 4) rfl h20 rfl <| ⟨?_, (h20.sh.sel [] rfl)⟩
  congr 1
  first | (refine (decide_eq_true (pg_eq (by assumption) (by omega) (by omega) (by omega) fun j hj => hall j (by omega))).symm; done) | (refine (decide_eq_false fun e => ?_).symm; have e1 := pg_words e; have e2 := pg_locks e; have e3 := pg_regs e; have e4 := pg_len e; first | exact absurd e1 (by assumption) | omega | (have e5 := pg_code e t (by omega); have e6 := congrArg List.length e5; omega) | (have e7 : nth (nth code.l t).l i = nth (nth code2.l t).l i := (by rw [pg_code e t (by omega)]); have e8 := congrArg Ins.op e7; have e9 := congrArg Ins.a e7; have e10 := congrArg Ins.b e7; have e11 := congrArg Ins.c e7; omega))
 have hp18 : words.l = words2.l := by simpa using hb18
 refine gRn (oG hb18 (r_fieldB (r := 2) fl_25_2 rfl rfl rfl) rfl<|oG hb18 (r_ldb (i := 1) ti_3 rfl rfl rfl rfl) rfl<|oG hb18 (r_fieldB (r := 2) fl_25_2 rfl rfl rfl) rfl<|oG hb18 (r_ldb (i := 0) ti_3 rfl rfl rfl rfl) rfl<|oG hb18 (r_neqI (p := locks) (q := locks2) rfl rfl rfl) rfl<|opF hb18 rfl<|oM 1 rfl<|.nl)<|?_
 rcases dsp (locks ≠ locks2) with ⟨hb21, hp21⟩ | ⟨hb21, hp21⟩
 ·skip
  refine gRn (oKs 5 hb21 rfl rfl<|opT hb21 rfl<|oM 1 rfl<|oKs 7 rfl rfl rfl<|opT rfl rfl<|.nl)<|nK k17<|gF [2, 3, 39] rfl<|gcT rfl rfl<|sG (oM 1 rfl<|.nl)<|gR<|uT<|fun a23 w23 h23 => x_ret1 (fn := Try.f13) (t := 4) rfl h23 rfl <| ⟨?_, (h23.sh.sel [] rfl)⟩
  congr 1
  first | (refine (decide_eq_true (pg_eq (by assumption) (by omega) (by omega) (by omega) fun j hj => hall j (by omega))).symm; done) | (refine (decide_eq_false fun e => ?_).symm; have e1 := pg_words e; have e2 := pg_locks e; have e3 := pg_regs e; have e4 := pg_len e; first | exact absurd e1 (by assumption) | omega | (have e5 := pg_code e t (by omega); have e6 := congrArg List.length e5; omega) | (have e7 : nth (nth code.l t).l i = nth (nth code2.l t).l i := (by rw [pg_code e t (by omega)]); have e8 := congrArg Ins.op e7; have e9 := congrArg Ins.a e7; have e10 := congrArg Ins.b e7; have e11 := congrArg Ins.c e7; omega))
 refine gRn (oG hb21 (r_fieldB (r := 3) fl_25_3 rfl rfl rfl) rfl<|oG hb21 (r_ldb (i := 1) ti_3 rfl rfl rfl rfl) rfl<|oG hb21 (r_fieldB (r := 3) fl_25_3 rfl rfl rfl) rfl<|oG hb21 (r_ldb (i := 0) ti_3 rfl rfl rfl rfl) rfl<|oG hb21 (r_neqI (p := regs) (q := regs2) rfl rfl rfl) rfl<|opF hb21 rfl<|oM 1 rfl<|.nl)<|?_
 rcases dsp (regs ≠ regs2) with ⟨hb24, hp24⟩ | ⟨hb24, hp24⟩
 ·skip
  refine gRn (oKs 7 hb24 rfl rfl<|opT hb24 rfl<|.nl)<|nK k17<|gF [2, 3, 39] rfl<|gcT rfl rfl<|sG (oM 1 rfl<|.nl)<|gR<|uT<|fun a26 w26 h26 => x_ret1 (fn := Try.f13) (t := 4) rfl h26 rfl <| ⟨?_, (h26.sh.sel [] rfl)⟩
  congr 1
  first | (refine (decide_eq_true (pg_eq (by assumption) (by omega) (by omega) (by omega) fun j hj => hall j (by omega))).symm; done) | (refine (decide_eq_false fun e => ?_).symm; have e1 := pg_words e; have e2 := pg_locks e; have e3 := pg_regs e; have e4 := pg_len e; first | exact absurd e1 (by assumption) | omega | (have e5 := pg_code e t (by omega); have e6 := congrArg List.length e5; omega) | (have e7 : nth (nth code.l t).l i = nth (nth code2.l t).l i := (by rw [pg_code e t (by omega)]); have e8 := congrArg Ins.op e7; have e9 := congrArg Ins.a e7; have e10 := congrArg Ins.b e7; have e11 := congrArg Ins.c e7; omega))
 refine gNl (aA 2 rfl) fun hl27 => gNl (aA 4 rfl) fun hl28 => gRn (oG hb24 (r_fieldB (r := 0) fl_25_0 rfl rfl rfl) rfl<|oG hb24 (r_ldb (i := 1) ti_22 rfl rfl rfl rfl) rfl<|oG hb24 (r_len (s := code) (n := code.l.length) sl_22 rfl rfl (fun w h => (h.at 2 rfl)) rfl) rfl<|oG hb24 (r_fieldB (r := 0) fl_25_0 rfl rfl rfl) rfl<|oG hb24 (r_ldb (i := 0) ti_22 rfl rfl rfl rfl) rfl<|oG hb24 (r_len (s := code2) (n := code2.l.length) sl_22 rfl rfl (fun w h => (h.at 4 rfl)) rfl) rfl<|oG hb24 (r_neqN (p := code.l.length) (q := code2.l.length) rfl rfl rfl) rfl<|opF hb24 rfl<|.nl)<|nK k17<|gF [2, 3, 39] rfl<|gcd rfl (fun hb29 hp29 => ?_) fun hb29 hp29 => ?_
 ·skip
  refine sG (oM 1 rfl<|.nl)<|gR<|uT<|fun a31 w31 h31 => x_ret1 (fn := Try.f13) (t := 4) rfl h31 rfl <| ⟨?_, (h31.sh.sel [] rfl)⟩
  congr 1
  first | (refine (decide_eq_true (pg_eq (by assumption) (by omega) (by omega) (by omega) fun j hj => hall j (by omega))).symm; done) | (refine (decide_eq_false fun e => ?_).symm; have e1 := pg_words e; have e2 := pg_locks e; have e3 := pg_regs e; have e4 := pg_len e; first | exact absurd e1 (by assumption) | omega | (have e5 := pg_code e t (by omega); have e6 := congrArg List.length e5; omega) | (have e7 : nth (nth code.l t).l i = nth (nth code2.l t).l i := (by rw [pg_code e t (by omega)]); have e8 := congrArg Ins.op e7; have e9 := congrArg Ins.a e7; have e10 := congrArg Ins.b e7; have e11 := congrArg Ins.c e7; omega))
 refine gS<|hK k16<|gK fun _ k32 => sG (oM 1 rfl<|.nl)<|gB<|fun a35 w35 h35 => x_loop (fun m a w => ∃ (t : Nat), (t ≤ code.l.length) ∧ (∀ j, j < t → (nth code.l j).l = (nth code2.l j).l) ∧ St 112 (fun _ => False) W a w [(2, .pointer (some ⟨b12, 0, none⟩)), (3, .pointer (some ⟨b13, 0, none⟩)), (6, .int .i64 ((t : Nat) : Int))] [.blk b13 25 [code2.v, words2.v, .int .i64 locks2, .int .i64 regs2], .blk b12 25 [code.v, words.v, .int .i64 locks, .int .i64 regs], .at_ code, .at_ words, .at_ code2, .at_ words2] ∧ m = code.l.length - t) ⟨_, 0, (by omega), (fun j hj => absurd hj (by omega)), h35.nf ⟨rfl, rfl, rfl, trivial⟩, rfl⟩ ?_
 clear h35
 rintro m34 a34 w34 ⟨t, ht, hall, h34, hm34⟩
 refine gG h34<|gK fun _ k36 => sG (oM 1 rfl<|ofB fl_25_0 rfl<|olB 1 ti_22 rfl rfl<|oln sl_22 (aA 2 rfl) rfl<|oltN _ _ rfl<|.nl)<|?_; clear h34
 refine gcd rfl (fun hb38 hp38 => ?_) fun hb38 hp38 => ?_
 ·skip
  refine gS<|hK k36<|gK fun _ k39 => gB<|gK fun _ k40 => gK fun _ k41 => gNl (fun w h => ((h.at 2 rfl).nth t (show t < code.l.length from (by omega)))) fun (hl42 : ((nth code.l t).l).length ≤ 140737488355328) => gNl (fun w h => ((h.at 4 rfl).nth t (show t < code2.l.length from (by omega)))) fun (hl43 : ((nth code2.l t).l).length ≤ 140737488355328) => rQ (ofB fl_25_0 rfl<|olB 1 ti_22 rfl rfl<|oM 1 rfl<|oxN sl_22 ti_45 (aA 2 rfl) _ om9 rfl<|olE ((nth code.l t).v) ti_45 (aA 2 rfl) om9 rfl<|oln (n := ((nth code.l t).l).length) sl_45 (fun w h => ((h.at 2 rfl).nth t (show t < code.l.length from (by omega)))) rfl<|ofB fl_25_0 rfl<|olB 0 ti_22 rfl rfl<|oM 1 rfl<|oxN sl_22 ti_45 (aA 4 rfl) _ om9 rfl<|olE ((nth code2.l t).v) ti_45 (aA 4 rfl) om9 rfl<|oln (n := ((nth code2.l t).l).length) sl_45 (fun w h => ((h.at 4 rfl).nth t (show t < code2.l.length from (by omega)))) rfl<|oneN _ _ rfl<|.nl)<|hK k41<|gcd rfl (fun hb44 hp44 => ?_) fun hb44 hp44 => ?_
  ·skip
   refine sG (oM 1 rfl<|.nl)<|gR<|uT<|uB<|uT<|uT<|uB<|uT<|fun a46 w46 h46 => x_ret1 (fn := Try.f13) (t := 4) rfl h46 rfl <| ⟨?_, (h46.sh.sel [] rfl)⟩
   congr 1
   first | (refine (decide_eq_true (pg_eq (by assumption) (by omega) (by omega) (by omega) fun j hj => hall j (by omega))).symm; done) | (refine (decide_eq_false fun e => ?_).symm; have e1 := pg_words e; have e2 := pg_locks e; have e3 := pg_regs e; have e4 := pg_len e; first | exact absurd e1 (by assumption) | omega | (have e5 := pg_code e t (by omega); have e6 := congrArg List.length e5; omega) | (have e7 : nth (nth code.l t).l i = nth (nth code2.l t).l i := (by rw [pg_code e t (by omega)]); have e8 := congrArg Ins.op e7; have e9 := congrArg Ins.a e7; have e10 := congrArg Ins.b e7; have e11 := congrArg Ins.c e7; omega))
  refine gS<|hK k40<|sG (oM 1 rfl<|.nl)<|gB<|fun a49 w49 h49 => x_loop (fun m a w => ∃ (i : Nat), (i ≤ (nth code.l t).l.length) ∧ (∀ j, j < i → nth (nth code.l t).l j = nth (nth code2.l t).l j) ∧ St 112 (fun _ => False) W a w [(2, .pointer (some ⟨b12, 0, none⟩)), (3, .pointer (some ⟨b13, 0, none⟩)), (6, .int .i64 ((t : Nat) : Int)), (7, .int .i64 ((i : Nat) : Int))] [.blk b13 25 [code2.v, words2.v, .int .i64 locks2, .int .i64 regs2], .blk b12 25 [code.v, words.v, .int .i64 locks, .int .i64 regs], .at_ code, .at_ words, .at_ code2, .at_ words2] ∧ m = (nth code.l t).l.length - i) ⟨_, 0, (by omega), (fun j hj => absurd hj (by omega)), h49.nf ⟨rfl, rfl, rfl, rfl, trivial⟩, rfl⟩ ?_
  clear h49
  rintro m48 a48 w48 ⟨i, hi, hin, h48, hm48⟩
  refine gG h48<|gK fun _ k50 => sG (oM 1 rfl<|ofB fl_25_0 rfl<|olB 1 ti_22 rfl rfl<|oM 1 rfl<|oxN sl_22 ti_45 (aA 2 rfl) _ om9 rfl<|olE ((nth code.l t).v) ti_45 (aA 2 rfl) om9 rfl<|oln (n := ((nth code.l t).l).length) sl_45 (fun w h => ((h.at 2 rfl).nth t (show t < code.l.length from (by omega)))) rfl<|oltN _ _ rfl<|.nl)<|?_; clear h48
  refine gcd rfl (fun hb52 hp52 => ?_) fun hb52 hp52 => ?_
  ·skip
   refine gS<|hK k50<|gK fun _ k53 => gB<|sK fun _ k54 => gRn (ofB fl_25_0 rfl<|olB 1 ti_22 rfl rfl<|oM 1 rfl<|oxN sl_22 ti_45 (aA 2 rfl) _ om9 rfl<|olE ((nth code.l t).v) ti_45 (aA 2 rfl) om9 rfl<|oM 1 rfl<|oxN sl_45 ti_44 (fun w h => ((h.at 2 rfl).nth t (show t < code.l.length from (by omega)))) _ om9 rfl<|olw2 [.int .i64 ((nth ((nth code.l t).l) i).op), .int .i64 ((nth ((nth code.l t).l) i).a), .int .i64 ((nth ((nth code.l t).l) i).b), .int .i64 ((nth ((nth code.l t).l) i).c)] ti_44 (fun w h => ((h.at 2 rfl).nth t (show t < code.l.length from (by omega)))) om9 rfl<|.nl)<|gal ti_44 rfl fun b55 => gsw 0 ti_44 rfl rfl rfl<|nK k54<|sK fun _ k57 => gRn (ofB fl_25_0 rfl<|olB 1 ti_22 rfl rfl<|oM 1 rfl<|oxN sl_22 ti_45 (aA 5 rfl) _ om9 rfl<|olE ((nth code2.l t).v) ti_45 (aA 5 rfl) om9 rfl<|oM 1 rfl<|oxN sl_45 ti_44 (fun w h => ((h.at 5 rfl).nth t (show t < code2.l.length from (by omega)))) _ om9 rfl<|olw2 [.int .i64 ((nth ((nth code2.l t).l) i).op), .int .i64 ((nth ((nth code2.l t).l) i).a), .int .i64 ((nth ((nth code2.l t).l) i).b), .int .i64 ((nth ((nth code2.l t).l) i).c)] ti_44 (fun w h => ((h.at 5 rfl).nth t (show t < code2.l.length from (by omega)))) om9 rfl<|.nl)<|gal ti_44 rfl fun b58 => gsw 0 ti_44 rfl rfl rfl<|nK k57<|gF [2, 3, 6, 7, 8, 9] rfl<|sK fun _ k60 => gRn (ofB fl_44_0 rfl<|olB 1 ti_3 rfl rfl<|ofB fl_44_0 rfl<|olB 0 ti_3 rfl rfl<|oneI _ _ rfl<|oM 1 rfl<|.nl)<|?_
   rcases dsp ((nth ((nth code.l t).l) i).op ≠ (nth ((nth code2.l t).l) i).op) with ⟨hb61, hp61⟩ | ⟨hb61, hp61⟩
   ·skip
    refine gRn (oKs 5 hb61 rfl rfl<|opT hb61 rfl<|oM 1 rfl<|oKs 5 rfl rfl rfl<|opT rfl rfl<|oM 1 rfl<|oKs 5 rfl rfl rfl<|opT rfl rfl<|.nl)<|nK k60<|gF [2, 3, 6, 7, 111] rfl<|gcT rfl rfl<|sG (oM 1 rfl<|.nl)<|gR<|uB<|uT<|uT<|uB<|uB<|uT<|uT<|uB<|uT<|fun a63 w63 h63 => x_ret1 (fn := Try.f13) (t := 4) rfl h63 rfl <| ⟨?_, (h63.sh.sel [] rfl)⟩
    congr 1
    first | (refine (decide_eq_true (pg_eq (by assumption) (by omega) (by omega) (by omega) fun j hj => hall j (by omega))).symm; done) | (refine (decide_eq_false fun e => ?_).symm; have e1 := pg_words e; have e2 := pg_locks e; have e3 := pg_regs e; have e4 := pg_len e; first | exact absurd e1 (by assumption) | omega | (have e5 := pg_code e t (by omega); have e6 := congrArg List.length e5; omega) | (have e7 : nth (nth code.l t).l i = nth (nth code2.l t).l i := (by rw [pg_code e t (by omega)]); have e8 := congrArg Ins.op e7; have e9 := congrArg Ins.a e7; have e10 := congrArg Ins.b e7; have e11 := congrArg Ins.c e7; omega))
   refine gRn (oG hb61 (r_fieldB (r := 1) fl_44_1 rfl rfl rfl) rfl<|oG hb61 (r_ldb (i := 1) ti_3 rfl rfl rfl rfl) rfl<|oG hb61 (r_fieldB (r := 1) fl_44_1 rfl rfl rfl) rfl<|oG hb61 (r_ldb (i := 0) ti_3 rfl rfl rfl rfl) rfl<|oG hb61 (r_neqI (p := (nth ((nth code.l t).l) i).a) (q := (nth ((nth code2.l t).l) i).a) rfl rfl rfl) rfl<|opF hb61 rfl<|oM 1 rfl<|.nl)<|?_
   rcases dsp ((nth ((nth code.l t).l) i).a ≠ (nth ((nth code2.l t).l) i).a) with ⟨hb64, hp64⟩ | ⟨hb64, hp64⟩
   ·skip
    refine gRn (oKs 5 hb64 rfl rfl<|opT hb64 rfl<|oM 1 rfl<|oKs 5 rfl rfl rfl<|opT rfl rfl<|.nl)<|nK k60<|gF [2, 3, 6, 7, 111] rfl<|gcT rfl rfl<|sG (oM 1 rfl<|.nl)<|gR<|uB<|uT<|uT<|uB<|uB<|uT<|uT<|uB<|uT<|fun a66 w66 h66 => x_ret1 (fn := Try.f13) (t := 4) rfl h66 rfl <| ⟨?_, (h66.sh.sel [] rfl)⟩
    congr 1
    first | (refine (decide_eq_true (pg_eq (by assumption) (by omega) (by omega) (by omega) fun j hj => hall j (by omega))).symm; done) | (refine (decide_eq_false fun e => ?_).symm; have e1 := pg_words e; have e2 := pg_locks e; have e3 := pg_regs e; have e4 := pg_len e; first | exact absurd e1 (by assumption) | omega | (have e5 := pg_code e t (by omega); have e6 := congrArg List.length e5; omega) | (have e7 : nth (nth code.l t).l i = nth (nth code2.l t).l i := (by rw [pg_code e t (by omega)]); have e8 := congrArg Ins.op e7; have e9 := congrArg Ins.a e7; have e10 := congrArg Ins.b e7; have e11 := congrArg Ins.c e7; omega))
   refine gRn (oG hb64 (r_fieldB (r := 2) fl_44_2 rfl rfl rfl) rfl<|oG hb64 (r_ldb (i := 1) ti_3 rfl rfl rfl rfl) rfl<|oG hb64 (r_fieldB (r := 2) fl_44_2 rfl rfl rfl) rfl<|oG hb64 (r_ldb (i := 0) ti_3 rfl rfl rfl rfl) rfl<|oG hb64 (r_neqI (p := (nth ((nth code.l t).l) i).b) (q := (nth ((nth code2.l t).l) i).b) rfl rfl rfl) rfl<|opF hb64 rfl<|oM 1 rfl<|.nl)<|?_
   rcases dsp ((nth ((nth code.l t).l) i).b ≠ (nth ((nth code2.l t).l) i).b) with ⟨hb67, hp67⟩ | ⟨hb67, hp67⟩
   ·skip
    refine gRn (oKs 5 hb67 rfl rfl<|opT hb67 rfl<|.nl)<|nK k60<|gF [2, 3, 6, 7, 111] rfl<|gcT rfl rfl<|sG (oM 1 rfl<|.nl)<|gR<|uB<|uT<|uT<|uB<|uB<|uT<|uT<|uB<|uT<|fun a69 w69 h69 => x_ret1 (fn := Try.f13) (t := 4) rfl h69 rfl <| ⟨?_, (h69.sh.sel [] rfl)⟩
    congr 1
    first | (refine (decide_eq_true (pg_eq (by assumption) (by omega) (by omega) (by omega) fun j hj => hall j (by omega))).symm; done) | (refine (decide_eq_false fun e => ?_).symm; have e1 := pg_words e; have e2 := pg_locks e; have e3 := pg_regs e; have e4 := pg_len e; first | exact absurd e1 (by assumption) | omega | (have e5 := pg_code e t (by omega); have e6 := congrArg List.length e5; omega) | (have e7 : nth (nth code.l t).l i = nth (nth code2.l t).l i := (by rw [pg_code e t (by omega)]); have e8 := congrArg Ins.op e7; have e9 := congrArg Ins.a e7; have e10 := congrArg Ins.b e7; have e11 := congrArg Ins.c e7; omega))
   refine gRn (oG hb67 (r_fieldB (r := 3) fl_44_3 rfl rfl rfl) rfl<|oG hb67 (r_ldb (i := 1) ti_3 rfl rfl rfl rfl) rfl<|oG hb67 (r_fieldB (r := 3) fl_44_3 rfl rfl rfl) rfl<|oG hb67 (r_ldb (i := 0) ti_3 rfl rfl rfl rfl) rfl<|oG hb67 (r_neqI (p := (nth ((nth code.l t).l) i).c) (q := (nth ((nth code2.l t).l) i).c) rfl rfl rfl) rfl<|opF hb67 rfl<|.nl)<|nK k60<|gF [2, 3, 6, 7, 111] rfl<|gcd rfl (fun hb70 hp70 => ?_) fun hb70 hp70 => ?_
   ·skip
    refine sG (oM 1 rfl<|.nl)<|gR<|uB<|uT<|uT<|uB<|uB<|uT<|uT<|uB<|uT<|fun a72 w72 h72 => x_ret1 (fn := Try.f13) (t := 4) rfl h72 rfl <| ⟨?_, (h72.sh.sel [] rfl)⟩
    congr 1
    first | (refine (decide_eq_true (pg_eq (by assumption) (by omega) (by omega) (by omega) fun j hj => hall j (by omega))).symm; done) | (refine (decide_eq_false fun e => ?_).symm; have e1 := pg_words e; have e2 := pg_locks e; have e3 := pg_regs e; have e4 := pg_len e; first | exact absurd e1 (by assumption) | omega | (have e5 := pg_code e t (by omega); have e6 := congrArg List.length e5; omega) | (have e7 : nth (nth code.l t).l i = nth (nth code2.l t).l i := (by rw [pg_code e t (by omega)]); have e8 := congrArg Ins.op e7; have e9 := congrArg Ins.a e7; have e10 := congrArg Ins.b e7; have e11 := congrArg Ins.c e7; omega))
   refine gS<|hK k53<|gL<|gRn (oM 1 rfl<|oadN _ 1 om9 rfl<|oM 1 rfl<|.nl)<|nN<|fun a73 w73 h73 => x_again ⟨_, ?_, i + 1, ?_, ?_, h73.nrm ⟨rfl, rfl, rfl, rfl, trivial⟩ [2, 3, 4, 5, 6, 7] rfl, rfl⟩
   · rw [hm48]; first | omega | (simp only [lens9]; omega)
   · omega
   · intro j hj; rcases Nat.lt_or_ge j i with h | h; exact hin j h; obtain rfl : j = i := (by omega); exact ins_ext (by omega) (by omega) (by omega) (by omega)
  refine gX<|hK k39<|gL<|gRn (oM 1 rfl<|oadN _ 1 om9 rfl<|oM 1 rfl<|.nl)<|nN<|fun a74 w74 h74 => x_again ⟨_, ?_, t + 1, ?_, ?_, h74.nf ⟨rfl, rfl, rfl, trivial⟩, rfl⟩
  · rw [hm34]; first | omega | (simp only [lens9]; omega)
  · omega
  · intro j hj; rcases Nat.lt_or_ge j t with h | h; exact hall j h; obtain rfl : j = t := (by omega); exact ext_nth _ _ (by omega) fun i hi => hin i (by omega)
 refine gX<|hK k32<|sG (oM 1 rfl<|.nl)<|gR<|fun a76 w76 h76 => x_ret1 (fn := Try.f13) (t := 4) rfl h76 rfl <| ⟨?_, (h76.sh.sel [] rfl)⟩
 congr 1
 first | (refine (decide_eq_true (pg_eq (by assumption) (by omega) (by omega) (by omega) fun j hj => hall j (by omega))).symm; done) | (refine (decide_eq_false fun e => ?_).symm; have e1 := pg_words e; have e2 := pg_locks e; have e3 := pg_regs e; have e4 := pg_len e; first | exact absurd e1 (by assumption) | omega | (have e5 := pg_code e t (by omega); have e6 := congrArg List.length e5; omega) | (have e7 : nth (nth code.l t).l i = nth (nth code2.l t).l i := (by rw [pg_code e t (by omega)]); have e8 := congrArg Ins.op e7; have e9 := congrArg Ins.a e7; have e10 := congrArg Ins.b e7; have e11 := congrArg Ins.c e7; omega))

theorem none_c (code : Ls (Ls Ins)) (words : Ls Int) (locks regs : Int) (W : World) (hcode : code.At W) (hwords : words.At W) :
    Rets Try.prog 10 [.agg #[code.v, words.v, .int .i64 locks, .int .i64 regs]] W (fun v w' => v = .bool (noneP (pgOf code words locks regs)) ∧ Sh0 W w' []) := by
 refine gen Try.func10 Try.ntmps10 (Sh0.ext2 hcode hwords : Sh (fun _ => False) W W [.at_ code, .at_ words]) rfl fun a10 h10 => gG h10<|sK fun _ k11 => gbx rfl rfl fun b12 => gRn (oM 1 rfl<|.nl)<|nK k11<|sK fun _ k13 => gNl (aA 1 rfl) fun hl14 => gNl (aA 2 rfl) fun hl15 => gRn (ofB fl_25_0 rfl<|olB 0 ti_22 rfl rfl<|oln sl_22 (aA 1 rfl) rfl<|ofB fl_25_1 rfl<|olB 0 ti_23 rfl rfl<|oln sl_23 (aA 2 rfl) rfl<|oadN _ _ om9 rfl<|oeqN _ 0 rfl<|oM 1 rfl<|.nl)<|?_; clear h10
 rcases dsp (code.l.length + words.l.length = 0) with ⟨hb16, hp16⟩ | ⟨hb16, hp16⟩
 ·skip
  refine gRn (oG hb16 (r_fieldB (r := 2) fl_25_2 rfl rfl rfl) rfl<|oG hb16 (r_ldb (i := 0) ti_3 rfl rfl rfl rfl) rfl<|oG hb16 (r_eqlI (p := locks) (q := 0) rfl rfl rfl) rfl<|opT hb16 rfl<|oM 1 rfl<|.nl)<|?_
  rcases dsp (locks = 0) with ⟨hb17, hp17⟩ | ⟨hb17, hp17⟩
  ·skip
   refine gRn (oG hb17 (r_fieldB (r := 3) fl_25_3 rfl rfl rfl) rfl<|oG hb17 (r_ldb (i := 0) ti_3 rfl rfl rfl rfl) rfl<|oG hb17 (r_eqlI (p := regs) (q := 0) rfl rfl rfl) rfl<|opT hb17 rfl<|oM 1 rfl<|.nl)<|nK k13<|gR<|fun a18 w18 h18 => x_ret1 (fn := Try.f10) (t := 2) rfl h18 rfl <| ⟨?_, (h18.sh.sel [] rfl)⟩
   congr 1
   simp [noneP, pgOf]
   first | omega | (simp_all; done) | (intros; omega)
  refine gRn (oKs 3 hb17 rfl rfl<|opF hb17 rfl<|oM 1 rfl<|.nl)<|nK k13<|gR<|fun a19 w19 h19 => x_ret1 (fn := Try.f10) (t := 2) rfl h19 rfl <| ⟨?_, (h19.sh.sel [] rfl)⟩
  congr 1
  simp [noneP, pgOf]
  first | omega | (simp_all; done) | (intros; omega)
 refine gRn (oKs 3 hb16 rfl rfl<|opF hb16 rfl<|oM 1 rfl<|oKs 3 rfl rfl rfl<|opF rfl rfl<|oM 1 rfl<|.nl)<|nK k13<|gR<|fun a20 w20 h20 => x_ret1 (fn := Try.f10) (t := 2) rfl h20 rfl <| ⟨?_, (h20.sh.sel [] rfl)⟩
 congr 1
 simp [noneP, pgOf]
 first | omega | (simp_all; done) | (intros; omega)


end Go.Proofs.Ytmgikmjmdppfmaa
