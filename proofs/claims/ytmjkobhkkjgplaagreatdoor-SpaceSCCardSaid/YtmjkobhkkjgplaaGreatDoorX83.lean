/-
  What a memory tells.
-/
import Derived.Test.YtmjkobhkkjgplaaGreatDoorS35
import Derived.Test.YtmjkobhkkjgplaaGreatDoorS27
import Derived.Test.YtmjkobhkkjgplaaGreatDoorS22
import Derived.Test.YtmjkobhkkjgplaaGreatDoorX6
import Derived.Test.YtmjkobhkkjgplaaGreatDoorS31
import Derived.Test.YtmjkobhkkjgplaaGreatDoorX61
import Derived.Test.YtmjkobhkkjgplaaGreatDoorX64
import Derived.Test.YtmjkobhkkjgplaaGreatDoorS24
import Derived.RangeFuncBox
import Derived.RangeFuncLeaves
import Derived.RangeFuncFrom
import Derived.Shelf.Abstract
import Derived.OwnWalkIn
import Derived.TacticsInMore
import Derived.LoopNIn
import Derived.LoopIn
import Derived.Test.YtmjkobhkkjgplaaGreatDoorS7
import Derived.Test.YtmjkobhkkjgplaaGreatDoorX0
import Derived.Test.YtmjkobhkkjgplaaGreatDoorS20
import Derived.RangeFuncNested
import Derived.Test.YtmjkobhkkjgplaaGreatDoorX16
import Derived.Test.YtmjkobhkkjgplaaGreatDoorS28
import Derived.Test.YtmjkobhkkjgplaaGreatDoorS15
import Derived.Test.YtmjkobhkkjgplaaGreatDoorX3
section
section
namespace Go.Proofs.YtmjkobhkkjgplaaGreatDoor
open Go.RowKit
set_option linter.unusedSimpArgs false
set_option linter.unusedVariables false

section
variable {P : Program} {o : Oper} {N : Nat} {K : Nat → Prop} {W w : World} {F : List (Nat × Value)} {L : List Asn} {T U D : TypeId} {x y : Operand}
theorem r_quoU {p q : Nat} (ho : o.op = .binOp .quo T x y U) (hx : ev F x = some (.int .u64 ((p : Nat) : Int))) (hy : ev F y = some (.int .u64 ((q : Nat) : Int))) (hq : 0 < q ∧ p < 18446744073709551616) : Rn P o N K W F L (.int .u64 (((p / q : Nat)) : Int)) := r_bin ho hx hy fun w => by
  have h1 : ¬ (q : Int) = 0 := by omega
  have h0 : ¬ q = 0 := by omega
  have h2 : (p : Int).tdiv q = ((p / q : Nat) : Int) := by rw [Int.tdiv_eq_ediv_of_nonneg (by omega)]; rfl
  have h3 : (((p / q : Nat) : Int)) % 18446744073709551616 = ((p / q : Nat) : Int) := by
    have hz : p / q < 18446744073709551616 := Nat.lt_of_le_of_lt (Nat.div_le_self _ _) hq.2
    generalize p / q = z at hz
    omega
  rw [Int.natCast_ediv] at h3
  simp [go_sem, h0, h1, h2, IntKind.wrap_u64, h3]
theorem r_subU {p q : Nat} (ho : o.op = .binOp .sub T x y U) (hx : ev F x = some (.int .u64 ((p : Nat) : Int))) (hy : ev F y = some (.int .u64 ((q : Nat) : Int))) (hq : q ≤ p ∧ p < 18446744073709551616) : Rn P o N K W F L (.int .u64 (((p - q : Nat)) : Int)) := r_bin ho hx hy fun w => by
  have : (((p : Nat) : Int) - (q : Nat)) % 18446744073709551616 = ((p - q : Nat) : Int) := by omega
  simp [go_sem, IntKind.wrap_u64, this]
theorem r_negU {p : Nat} (ho : o.op = .unOp .neg T x) (hx : ev F x = some (.int .u64 ((p : Nat) : Int))) : Rn P o N K W F L (.int .u64 (((toU (-(p : Int)) : Nat)) : Int)) := fun a w h => by
  have e : (-(p : Int)) % 18446744073709551616 = ((toU (-(p : Int)) : Nat) : Int) := by unfold toU; omega
  unfold execOp
  simp only [ho, h.fr.ev hx]
  simp [unary_neg, Op.intArith, IntKind.wrap_u64, e]
theorem r_ixStrU {s : ByteArray} {q : Nat} (hT : P.underlying T = some .string) (ho : o.op = .index T x y) (hx : ev F x = some (.string s)) (hz : ev F y = some (.int .u64 ((q : Nat) : Int))) (hq : q < s.size) : Rn P o N K W F L (.int .u8 ((s[q]'hq).toNat : Int)) := fun a w h => by
  have key : (Instr.index T (.string s) (.int .u64 (q : Int))).run P w = .ok (.int .u8 ((s[q]'hq).toNat : Int)) w := by
    rw [run_index_string _ _ _ _ _ hT]
    simp [hq]
  unfold execOp
  simp only [ho, h.fr.ev hx, h.fr.ev hz, Sem.run_bind, key, Result.andThen_ok, Sem.run_pure]
end
theorem toU_neg {n : Int} (h : n < 0 ∧ -9223372036854775808 ≤ n) : toU (-((toU n : Nat) : Int)) = n.natAbs := by unfold toU; omega
theorem toU_pos {n : Int} (h : ¬ n < 0) (h2 : n < 9223372036854775808) : toU n = n.natAbs := by unfold toU; omega
def digS : ByteArray := ⟨#[48, 49, 50, 51, 52, 53, 54, 55, 56, 57, 97, 98, 99, 100, 101, 102, 103, 104, 105, 106, 107, 108, 109, 110, 111, 112, 113, 114, 115, 116, 117, 118, 119, 120, 121, 122]⟩
theorem digS_at {q : Nat} (h : q < digS.size) : digS[q]'h = UInt8.ofNat (dg q) := by
  have key : ∀ i : Fin 36, digS[i.1]'i.2 = UInt8.ofNat (dg i.1) := by decide
  exact key ⟨q, h⟩
/-- How far digits go. -/
theorem dig_room {u k : Nat} (h : u ≤ 18446744073709551615 / 36 ^ k) (hu : 36 ≤ u) : k < 12 := by
  apply Classical.byContradiction
  intro hk
  have h1 : 36 ^ 12 ≤ 36 ^ k := Nat.pow_le_pow_right (by decide) (by omega)
  have h2 : 18446744073709551615 / 36 ^ k ≤ 18446744073709551615 / 36 ^ 12 := Nat.div_le_div_left h1 (by decide)
  have h3 : 18446744073709551615 / 36 ^ 12 = 3 := by decide
  omega
theorem dig_next {u k : Nat} (h : u ≤ 18446744073709551615 / 36 ^ k) : u / 36 ≤ 18446744073709551615 / 36 ^ (k + 1) := by
  rw [Nat.pow_succ, ← Nat.div_div_eq_div_mul]
  exact Nat.div_le_div_right h
theorem dig_step {u0 u i : Nat} {l : List UInt8} {b : UInt8} (h : by8 (digs u0) = by8 (digs u) ++ l.drop (i + 1)) (hu : 36 ≤ u) (hi : i < l.length) (hb : b = UInt8.ofNat (dg (u - u / 36 * 36))) : by8 (digs u0) = by8 (digs (u / 36)) ++ (l.set i b).drop i := by
  have e : u - u / 36 * 36 = u % 36 := by omega
  rw [h, digs_hi (by omega), by8_app, hb, e, List.drop_eq_getElem_cons (show i < (l.set i _).length by rw [List.length_set]; exact hi), List.getElem_set_self, List.drop_set_of_lt (by omega), List.append_assoc]
  rfl
theorem dig_last {u0 u i : Nat} {l : List UInt8} {b : UInt8} (h : by8 (digs u0) = by8 (digs u) ++ l.drop (i + 1)) (hu : ¬ 36 ≤ u) (hi : i < l.length) (hb : b = UInt8.ofNat (dg u)) : by8 (digs u0) = (l.set i b).drop i := by
  rw [h, digs_lo (by omega), hb, List.drop_eq_getElem_cons (show i < (l.set i _).length by rw [List.length_set]; exact hi), List.getElem_set_self, List.drop_set_of_lt (by omega)]
  rfl
end Go.Proofs.YtmjkobhkkjgplaaGreatDoor
end
namespace Go.Proofs.YtmjkobhkkjgplaaGreatDoor
open Go.RowKit
set_option linter.unusedSimpArgs false
set_option linter.unusedVariables false
set_option maxRecDepth 100000
set_option maxHeartbeats 4000000

theorem ar_247 : arI Tryz.prog 247 = some (65, 5) := by kernel_rfl

theorem pow36_c (W : World) :
    Rets Tryz.prog 178 [.int .i64 36] W (fun v w' => v = .bool false ∧ Sh0 W w' []) := by
 refine gen Tryz.func178 Tryz.ntmps178 (Sh0.start _ : Sh (fun _ => False) W W []) rfl fun a10 h10 => gG h10<|sG (oM 1 rfl<|.nl)<|sG (oM 2 rfl<|osbN 36 1 om9 rfl<|oV (r_bin (v := .int .i64 32) rfl rfl rfl (fun w => by first | kernel_rfl | rfl | simp [go_sem])) rfl<|oeqN 32 0 rfl<|oM 1 rfl<|.nl)<|gR<|fun a13 w13 h13 => ?_; clear h10
 try simp only [Exit.then, Exit.inBlock]
 refine x_ret1 (fn := Tryz.f178) (t := 2) rfl h13 rfl ?_
 exact ⟨rfl, (h13.sh.sel [] rfl)⟩

theorem fmtB_c (K : Nat → Prop) (bs : Ls UInt8) (u0 : Nat) (W : World) (hS : Sh K W W [.own 5 bs]) (hu0 : u0 < 18446744073709551616) (hbn : bs.l.length ≤ 100000000000000) :
    Rets Tryz.prog 174 [bs.v, .int .u64 ((u0 : Nat) : Int), .int .i64 36, .bool false, .bool true] W (fun v w' => ∃ bs' : Ls UInt8, v = .tuple #[bs'.v, .string ⟨#[]⟩] ∧ bs'.l = bs.l ++ by8 (digs u0) ∧ Sh K W w' [.own 5 bs']) := by
 refine gen Tryz.func174 Tryz.ntmps174 hS rfl fun a10 h10 => gG h10<|sG (oM 2 rfl<|.nl)<|gK fun _ k12 => sG (oM 1 rfl<|oltN 36 2 rfl<|oM 1 rfl<|oG (by decide) (r_move rfl rfl) rfl<|oG (by decide) (r_eqlN (p := 36) (q := 10) rfl rfl rfl) rfl<|opF (by decide) rfl<|oM 1 rfl<|oG (by decide) (r_move rfl rfl) rfl<|oG (by decide) (r_gtrN (p := 36) (q := 36) rfl rfl rfl) rfl<|opF (by decide) rfl<|.nl)<|gcF rfl (by decide)<|gS<|hK k12<|sK fun _ k14 => gE1 (fun _ _ h_ => x_allocBy (k := 65) h_ ti_247 (by kernel_rfl) rfl rfl rfl) rfl fun b15 => nK k14<|sG (oM 1 rfl<|.nl)<|gK fun _ k17 => sG (oM 1 rfl<|.nl)<|gcF rfl rfl<|gS<|hK k17<|gK fun _ k19 => sK fun _ k20 => gRn (oM 1 rfl<|.nl)<|gP (fun _ _ h_ => xCl h_ bd_178 rfl (pow36_c _)) rfl<|nK k20<|gcF rfl rfl<|sG (oM 1 rfl<|oV (r_cvUN Tryz.underlying3 Tryz.underlying202 rfl rfl (show 36 < 18446744073709551616 from om9)) rfl<|oM 1 rfl<|.nl)<|gK fun _ k23 => gB<|fun a25 w25 h25 => x_loop (fun m a w => ∃ (i k u : Nat) (al : List UInt8), (i + k = 65 ∧ k ≤ 12) ∧ (u ≤ 18446744073709551615 / 36 ^ k) ∧ (u ≤ 18446744073709551615) ∧ (al.length = 65) ∧ (by8 (digs u0) = by8 (digs u) ++ al.drop i) ∧ St 102 K W a w [(0, bs.v), (1, .int .u64 ((u : Nat) : Int)), (3, .bool false), (4, .bool true), (10, (.slice none 0 0)), (11, .string ({ data := #[] })), (12, .pointer (some ⟨b15, 0, none⟩)), (13, .int .i64 ((i : Nat) : Int)), (17, .int .u64 ((36 : Nat) : Int))] [.blk b15 247 (al.map bv), .own 5 bs] ∧ m = u) ⟨_, 65, 0, u0, List.replicate 65 (0 : UInt8), (by omega), (by simpa using (by omega : u0 ≤ 18446744073709551615)), (by omega), (by simp), (by simp), h25.nf ⟨rfl, rfl, rfl, rfl, rfl, rfl, rfl, rfl, rfl, trivial⟩, rfl⟩ ?_; clear h10
 clear h25
 rintro m24 a24 w24 ⟨i, k, u, al, hik, hu, hu2, hal, hd, h24, hm24⟩
 refine gG h24<|gK fun _ k26 => sG (oM 2 rfl<|ogeN _ 36 rfl<|.nl)<|?_; clear h24
 refine gcd rfl (fun hb28 hp28 => ?_) fun hb28 hp28 => ?_
 ·skip
  refine gS<|hK k26<|?_
  have hk12 := dig_room hu (by assumption)
  refine gB<|sG (oM 1 rfl<|osbN _ 1 om9 rfl<|oM 1 rfl<|.nl)<|sG (oM 2 rfl<|oV (r_quoU (p := u) (q := 36) rfl rfl rfl (show 0 < 36 ∧ u < 18446744073709551616 from om9)) rfl<|oM 1 rfl<|.nl)<|sK fun _ k31 => gRn (oM 4 rfl<|oV (r_mulS (p := u / 36) (q := 36) (r := (u / 36) * 36) rfl rfl rfl rfl (show (u / 36) * 36 < 18446744073709551616 from om9)) rfl<|oV (r_subU (p := u) (q := (u / 36) * 36) rfl rfl rfl (show (u / 36) * 36 ≤ u ∧ u < 18446744073709551616 from om9)) rfl<|.nl)<|?_
  have hx32 : u - ((u / 36) * 36) < digS.size := (by first | omega | (show _ < 36; omega))
  intro a34 w34 h34
  refine wv h34 (r_ixStrU (s := digS) (q := u - ((u / 36) * 36)) Tryz.underlying9 rfl rfl rfl hx32) rfl rfl fun a33 h33 => gG h33<|gRn (oV (r_ixAr (q := i - 1) ar_247 ti_5 rfl rfl rfl rfl (show i - 1 < 65 from (by first | omega | (show _ < 36; omega)))) rfl<|.nl)<|gE (fun _ _ h_ => x_stBy (i := 0) (l := al) (n := (digS[u - ((u / 36) * 36)]'hx32)) h_ ti_5 rfl rfl rfl rfl rfl (show i - 1 < al.length from om9)) rfl<|nK k31<|gL<|gRn (oM 2 rfl<|.nl)<|nN<|fun a36 w36 h36 => ?_; clear h34 h33
  change ∃ _m, _m < _ ∧ _
  refine ⟨_, ?_, (i - 1), (k + 1), (u / 36), al.set (i - 1) (digS[u - ((u / 36) * 36)]'hx32), ?_, ?_, ?_, ?_, ?_, h36.nf ⟨rfl, rfl, rfl, rfl, rfl, rfl, rfl, rfl, rfl, trivial⟩, rfl⟩
  · rw [hm24]; omega
  · omega
  · exact dig_next hu
  · omega
  · simpa using hal
  · exact dig_step (by rw [show i - 1 + 1 = i by omega]; exact hd) (by assumption) (by omega) (digS_at _)
 refine gX<|hK k23<|sG (oM 1 rfl<|osbN _ 1 om9 rfl<|oM 1 rfl<|.nl)<|gL<|gRn (oM 2 rfl<|.nl)<|?_
 have hx38 : u < digS.size := (by first | omega | (show _ < 36; omega))
 intro a40 w40 h40
 refine wv h40 (r_ixStrU (s := digS) (q := u) Tryz.underlying9 rfl rfl rfl hx38) rfl rfl fun a39 h39 => gG h39<|gRn (oV (r_ixAr (q := i - 1) ar_247 ti_5 rfl rfl rfl rfl (show i - 1 < 65 from (by first | omega | (show _ < 36; omega)))) rfl<|.nl)<|gE (fun _ _ h_ => x_stBy (i := 0) (l := al) (n := (digS[u]'hx38)) h_ ti_5 rfl rfl rfl rfl rfl (show i - 1 < al.length from om9)) rfl<|nK k19<|gK fun _ k42 => sG (oM 1 rfl<|.nl)<|gcF rfl rfl<|gS<|hK k42<|gK fun _ k44 => sG (oM 1 rfl<|.nl)<|gcT rfl rfl<|sK fun _ k46 => gRn (oM 2 rfl<|oV (r_slBy (q := i - 1) ar_247 ti_5 rfl rfl rfl rfl (show i - 1 < 65 from om9)) rfl<|.nl)<|gE1 (fun _ _ h_ => x_app (r := 1) (rm := 0) (s := bs) (m := (⟨(arrS b15 (i - 1) 65), ((al.set (i - 1) (digS[u]'hx38)).drop (i - 1))⟩ : Ls UInt8)) h_ sl_204 ti_5 rfl rfl rfl rfl rfl rfl rfl (fun w h => (arr_at h (i := 0) rfl (by simpa using hal) (show i - 1 ≤ 65 from om9) (by decide))) (fun b hb => .inl (arr_on hb)) (fun q hq b hb => (Flat.on _ _ hb).elim) rfl rfl rfl inferInstance (show (bs.l.length + ((al.set (i - 1) (digS[u]'hx38)).drop (i - 1)).length) * 1 ≤ 140737488355328 ∧ bs.l.length + ((al.set (i - 1) (digS[u]'hx38)).drop (i - 1)).length ≤ 140737488355328 from (by first | omega | (simp only [List.length_drop, List.length_set, hal]; omega))) rfl rfl) rfl fun v47 => gRn (oM 1 rfl<|.nl)<|nK k46<|gR<|fun a48 w48 h48 => ?_; clear h40 h39
 try simp only [Exit.then, Exit.inBlock]
 refine x_ret2 (fn := Tryz.f174) (t := 10) (u := 11) rfl h48 rfl rfl <| ⟨⟨v47, bs.l ++ ((al.set (i - 1) (digS[u]'hx38)).drop (i - 1))⟩, rfl, ?_, (h48.sh.sel [1] rfl)⟩
 show bs.l ++ _ = bs.l ++ _
 congr 1
 exact (dig_last (by rw [show i - 1 + 1 = i by omega]; exact hd) (by assumption) (by omega) (digS_at _)).symm

theorem appU_c (K : Nat → Prop) (bs : Ls UInt8) (u0 : Nat) (W : World) (hS : Sh K W W [.own 5 bs]) (hu0 : u0 < 18446744073709551616) (hbn : bs.l.length ≤ 100000000000000) :
    Rets Tryz.prog 167 [bs.v, .int .u64 ((u0 : Nat) : Int), .int .i64 36] W (fun v w' => ∃ bs' : Ls UInt8, v = bs'.v ∧ bs'.l = bs.l ++ by8 (digs u0) ∧ Sh K W w' [.own 5 bs']) := by
 refine gen Tryz.func167 Tryz.ntmps167 hS rfl fun a10 h10 => gG h10<|sG (oM 1 rfl<|.nl)<|gK fun _ k12 => sG (oM 1 rfl<|oeqN 36 10 rfl<|.nl)<|gcF rfl (by decide)<|gS<|hK k12<|sK fun _ k14 => gRn (oM 3 rfl<|.nl)<|gM 1 rfl (fun _ _ h_ => xCl h_ bd_174 rfl (fmtB_c _ bs (u0) _ (pKl 1 h_ rfl) (by omega) (by omega))) rfl<|?_; clear h10
 rintro _ _ w16 ⟨bs16, rfl, hbl16, hs16⟩
 refine gBk hs16 rfl<|gU<|gRn (oM 1 rfl<|oxt rfl<|oxt rfl<|oM 1 rfl<|.nl)<|nK k14<|sG (oM 2 rfl<|.nl)<|gR<|fun a18 w18 h18 => ?_; clear hs16
 try simp only [Exit.then, Exit.inBlock]
 refine x_ret1 (fn := Tryz.f167) (t := 6) rfl h18 rfl ?_
 exact ⟨bs16, rfl, hbl16, h18.sh⟩

theorem appI_c (K : Nat → Prop) (bs : Ls UInt8) (n0 : Int) (W : World) (hS : Sh K W W [.own 5 bs]) (hn0 : -9223372036854775808 ≤ n0 ∧ n0 < 9223372036854775808) (hbn : bs.l.length ≤ 10000000000000) :
    Rets Tryz.prog 153 [bs.v, .int .i64 n0, .int .i64 36] W (fun v w' => ∃ bs' : Ls UInt8, v = bs'.v ∧ bs'.l = bs.l ++ by8 (num36 n0) ∧ Sh K W w' [.own 5 bs']) := by
 refine gen Tryz.func153 Tryz.ntmps153 hS rfl fun a10 h10 => gG h10<|sG (oM 1 rfl<|.nl)<|sG (oM 1 rfl<|oV (r_cvU Tryz.underlying2 Tryz.underlying202 rfl rfl) rfl<|oM 1 rfl<|.nl)<|gK fun _ k13 => sG (oM 1 rfl<|oltI _ _ rfl<|.nl)<|?_; clear h10
 refine gcd rfl (fun hb15 hp15 => ?_) fun hb15 hp15 => ?_
 ·skip
  refine sK fun _ k16 => gRn (oM 1 rfl<|.nl)<|gE1 (fun _ _ h_ => x_lit (n := 1) (cs := [.int .u8 45]) ([45] : List UInt8) h_ sl_204 ti_5 rfl rfl rfl (by decide) rfl (by kernel_rfl) rfl (fun q hq w h => Flat.inner _ _) (fun q hq b hb => (Flat.on _ _ hb).elim) rfl rfl) rfl fun v17 => gE1 (fun _ _ h_ => x_app (r := 1) (rm := 0) (s := bs) (m := (⟨v17, [45]⟩ : Ls UInt8)) h_ sl_204 ti_5 rfl rfl rfl rfl rfl rfl rfl (fun w h => (h.own 0 rfl)) (fun b hb => own_on (h_.sh.ok _ (List.mem_of_getElem? (i := 0) rfl)) hb) (fun q hq b hb => ⟨q, hq, hb⟩) rfl rfl rfl inferInstance (show (bs.l.length + ([45]).length) * 1 ≤ 140737488355328 ∧ bs.l.length + ([45]).length ≤ 140737488355328 from om9) rfl rfl) rfl fun v18 => gRn (oM 1 rfl<|.nl)<|nK k16<|gL<|gRn (oM 1 rfl<|oV (r_negU (p := toU n0) rfl rfl) rfl<|oM 1 rfl<|.nl)<|nK k13<|sK fun _ k19 => gRn (oM 3 rfl<|.nl)<|gO [1, 0] rfl<|gM 1 rfl (fun _ _ h_ => xCl h_ bd_167 rfl (appU_c _ (⟨v18, bs.l ++ ([45])⟩ : Ls UInt8) (toU (-((toU n0 : Nat) : Int))) _ (pKl 1 h_ rfl) (by first | exact toU_lt _ | omega) (by first | omega | (rw [List.length_append]; simp; omega) | (simp; omega)))) rfl<|?_
  rintro _ _ w22 ⟨bs22, rfl, hbl22, hs22⟩
  refine gBk hs22 rfl<|gU<|gRn (oM 1 rfl<|.nl)<|nK k19<|gR<|fun a23 w23 h23 => ?_; clear hs22
  try simp only [Exit.then, Exit.inBlock]
  refine x_ret1 (fn := Tryz.f153) (t := 6) rfl h23 rfl <| ⟨bs22, rfl, hbl22.trans ?_, (h23.sh.sel [0] rfl)⟩
  unfold num36
  first | (rw [if_pos (by assumption), toU_neg (by omega), List.append_assoc]; rfl) | (rw [if_neg (by assumption), toU_pos (by assumption) (by omega)])
 refine gS<|hK k13<|sK fun _ k24 => gRn (oM 3 rfl<|.nl)<|gM 1 rfl (fun _ _ h_ => xCl h_ bd_167 rfl (appU_c _ bs (toU n0) _ (pKl 1 h_ rfl) (by first | exact toU_lt _ | omega) (by first | omega | (rw [List.length_append]; simp; omega) | (simp; omega)))) rfl<|?_
 rintro _ _ w26 ⟨bs26, rfl, hbl26, hs26⟩
 refine gBk hs26 rfl<|gU<|gRn (oM 1 rfl<|.nl)<|nK k24<|gR<|fun a27 w27 h27 => ?_; clear hs26
 try simp only [Exit.then, Exit.inBlock]
 refine x_ret1 (fn := Tryz.f153) (t := 6) rfl h27 rfl <| ⟨bs26, rfl, hbl26.trans ?_, h27.sh⟩
 unfold num36
 first | (rw [if_pos (by assumption), toU_neg (by omega), List.append_assoc]; rfl) | (rw [if_neg (by assumption), toU_pos (by assumption) (by omega)])

theorem sappI_c (K : Nat → Prop) (bs : Ls UInt8) (n0 : Int) (W : World) (hS : Sh K W W [.own 5 bs]) (hn0 : -9223372036854775808 ≤ n0 ∧ n0 < 9223372036854775808) (hbn : bs.l.length ≤ 10000000000000) :
    Rets Tryz.prog 142 [bs.v, .int .i64 n0, .int .i64 36] W (fun v w' => ∃ bs' : Ls UInt8, v = bs'.v ∧ bs'.l = bs.l ++ by8 (num36 n0) ∧ Sh K W w' [.own 5 bs']) := by
 refine gen Tryz.func142 Tryz.ntmps142 hS rfl fun a10 h10 => gG h10<|sG (oM 1 rfl<|.nl)<|sK fun _ k12 => gRn (oM 3 rfl<|.nl)<|gM 1 rfl (fun _ _ h_ => xCl h_ bd_153 rfl (appI_c _ bs (n0) _ (pKl 1 h_ rfl) (by omega) (by omega))) rfl<|?_; clear h10
 rintro _ _ w14 ⟨bs14, rfl, hbl14, hs14⟩
 refine gBk hs14 rfl<|gU<|gRn (oM 1 rfl<|.nl)<|nK k12<|gR<|fun a15 w15 h15 => ?_; clear hs14
 try simp only [Exit.then, Exit.inBlock]
 refine x_ret1 (fn := Tryz.f142) (t := 6) rfl h15 rfl ?_
 exact ⟨bs14, rfl, hbl14, h15.sh⟩

end Go.Proofs.YtmjkobhkkjgplaaGreatDoor
end
section
namespace Go.Proofs.YtmjkobhkkjgplaaGreatDoor
open Go.RowKit
set_option linter.unusedSimpArgs false
set_option linter.unusedVariables false
set_option maxRecDepth 100000
set_option maxHeartbeats 20000000


def Asn.emp : Asn := ⟨fun _ => False, fun _ => False, fun _ => True, fun _ _ _ _ => trivial, fun _ _ _ h => by rcases h with h | h <;> exact h.elim⟩
theorem Sh.emp {K : Nat → Prop} {W w : World} {L : List Asn} (h : Sh K W w L) : Sh K W w (Asn.emp :: L) := h.push (Chg.refl _ _) trivial (fun b hb => hb.elim) (fun b hb => hb.elim) (fun b hb => hb.elim)
/-- The memory in which nothing waits. -/
def memP (g : Nat) : MemS := ⟨Nat, fun n => List.replicate n [], fun _ => Asn.emp, 123, ⟨g, 0, none⟩, g, 0⟩
theorem memP_nth {n t : Nat} (h : t < (List.replicate n ([] : List Wt)).length) : nth (List.replicate n ([] : List Wt)) t = [] := nth_replicate _ _ _ (by simpa using h)
theorem memP_st {g n t : Nat} {x : Wt} {words owner words' owner' : Ls Int} (h : t < (List.replicate n ([] : List Wt)).length) (e1 : words'.l = if x.lock = true then words.l else words.l.set x.wh.toNat x.what) (e2 : owner'.l = if x.lock = true then owner.l.set x.wh.toNat (-1) else owner.l) : StoreP (memP g) t x words owner n words' owner' n := by
  refine ⟨[], ?_, fun pc regs prints fell => ?_⟩
  · show List.replicate n ([] : List Wt) = (List.replicate n []).set t []
    have := list_set_nth (List.replicate n ([] : List Wt)) t
    rw [memP_nth h] at this
    exact this.symm
  · show _ = TS.store 0 ⟨pc, regs, nth (List.replicate n ([] : List Wt)) t, words.l, owner.l, prints, fell⟩ x
    rw [memP_nth h]
    unfold TS.store
    rw [if_neg (by decide), e1, e2]
    rfl
theorem memP_ok (g : Nat) : MemI Tryz.prog 182 3 (memP g) where
  load w words owner q t wd h ht hl hwd := ⟨202, ⟨g, 0, none⟩, by kernel_rfl, bd_202, by
    rw [show nth ((memP g).qs q) t = [] from memP_nth ht]
    exact plLoad_c g words owner _ wd 0 w h.blk h.wa h.oa hwd⟩
  waits w words owner q t h ht hl := ⟨207, ⟨g, 0, none⟩, by kernel_rfl, bd_207, by
    rw [show nth ((memP g).qs q) t = [] from memP_nth ht]
    exact plWaits_c g words owner _ 0 0 w h.blk h.wa h.oa⟩
  freeing w words owner q t a h ht hl _ := ⟨201, ⟨g, 0, none⟩, by kernel_rfl, bd_201, by
    rw [show nth ((memP g).qs q) t = [] from memP_nth ht]
    exact plFreeing_c g words owner _ a 0 w h.blk h.wa h.oa⟩
  ready w words owner q t h ht hl := ⟨203, ⟨g, 0, none⟩, by kernel_rfl, bd_203, by
    rw [show nth ((memP g).qs q) t = [] from memP_nth ht]
    exact Rets.mono (plReady_c g words owner _ 0 0 w h.blk h.wa h.oa) fun v w' hv => ⟨⟨.slice none 0 0, []⟩, hv.1, rfl, hv.2.nil 3⟩⟩
  base w words owner q h := ⟨197, ⟨g, 0, none⟩, by kernel_rfl, bd_197, plBase_c g words owner 0 0 0 w h.blk h.wa h.oa⟩
  store K W words owner q t wd what hS ht hl hwd := ⟨204, ⟨g, 0, none⟩, by kernel_rfl, bd_204, by
    have h : Sh K W W ([.blk g 182 [words.v, owner.v], .own 3 words, .own 3 owner] ++ [Asn.emp]) := hS
    refine Rets.mono (plStore_c _ g words owner _ wd what W h.passL hwd) ?_
    rintro v w' ⟨rfl, hs⟩
    exact ⟨rfl, ⟨words.v, words.l.set wd.toNat what⟩, owner, q, memP_st ht rfl rfl, h.backL hs (by intro A hA b hb; simp only [List.mem_cons, List.not_mem_nil, or_false] at hA; rcases hA with rfl | rfl | rfl <;> first | exact (hb : False).elim | exact Flat.noRd hb)⟩⟩
  free K W words owner q t a hS ht hl ha := ⟨200, ⟨g, 0, none⟩, by kernel_rfl, bd_200, by
    have h : Sh K W W ([.blk g 182 [words.v, owner.v], .own 3 words, .own 3 owner] ++ [Asn.emp]) := hS
    refine Rets.mono (plFree_c _ g words owner _ a 0 W h.passL ha) ?_
    rintro v w' ⟨rfl, hs⟩
    exact ⟨rfl, words, ⟨owner.v, owner.l.set a.toNat (-1)⟩, q, memP_st ht rfl rfl, h.backL hs (by intro A hA b hb; simp only [List.mem_cons, List.not_mem_nil, or_false] at hA; rcases hA with rfl | rfl | rfl <;> first | exact (hb : False).elim | exact Flat.noRd hb)⟩⟩
  swap K W words owner q t wd what hS hwd := ⟨205, ⟨g, 0, none⟩, by kernel_rfl, bd_205, by
    have h : Sh K W W ([.blk g 182 [words.v, owner.v], .own 3 words, .own 3 owner] ++ [Asn.emp]) := hS
    refine Rets.mono (plSwap_c _ g words owner _ wd what W h.passL hwd) ?_
    rintro v w' ⟨rfl, hs⟩
    exact ⟨rfl, ⟨words.v, words.l.set wd.toNat what⟩, owner, q, ⟨rfl, rfl, rfl⟩, h.backL hs (by intro A hA b hb; simp only [List.mem_cons, List.not_mem_nil, or_false] at hA; rcases hA with rfl | rfl | rfl <;> first | exact (hb : False).elim | exact Flat.noRd hb)⟩⟩
  flush K W words owner q t k hS ht hl hk := by
    exfalso
    rw [show nth ((memP g).qs q) t = [] from memP_nth ht] at hk
    exact absurd hk (by simp)
  xrd q b h := h
theorem pnewP_c (words : Ls Int) (Lk n : Nat) (cv : Value) (nregs : Int) (W : World) (hwords : words.At W) (hwn : words.l.length ≤ 64) (hlk : Lk ≤ 4) :
    Rets Tryz.prog 81 [.agg #[cv, words.v, .int .i64 ((Lk : Nat) : Int), .int .i64 nregs]] W (fun v w' => ∃ (g : Nat) (words' owner' : Ls Int), v = .pointer (some ⟨g, 0, none⟩) ∧ words'.l = words.l ∧ owner'.l = List.replicate Lk (-1) ∧ Sh0 W w' [.blk g 182 [words'.v, owner'.v], .own 3 words', .own 3 owner', (memP g).X n]) := by
  refine Rets.mono (pnew_c words Lk cv nregs W hwords hwn hlk) ?_
  rintro v w' ⟨g, words', owner', e, h1, h2, hs⟩
  exact ⟨g, words', owner', e, h1, h2, hs.emp.sel (L' := [.blk g 182 [words'.v, owner'.v], .own 3 words', .own 3 owner', Asn.emp]) [1, 2, 3, 0] rfl⟩

end Go.Proofs.YtmjkobhkkjgplaaGreatDoor
end
section
namespace Go.Proofs.YtmjkobhkkjgplaaGreatDoor
open Go.RowKit Go.Shelf
set_option linter.unusedSimpArgs false
set_option linter.unusedVariables false
attribute [local go_sem] Oper.semAt_some

@[local go_sem] theorem sz_wt : Enc.sz Wt = 3 := rfl
@[local go_sem] theorem agg_wt : Enc.agg Wt = true := rfl
@[local go_sem] theorem cell_wt0 (x : Wt) : Enc.cell x 0 = .bool x.lock := rfl
@[local go_sem] theorem cell_wt1 (x : Wt) : Enc.cell x 1 = .int .i64 x.wh := rfl
@[local go_sem] theorem cell_wt2 (x : Wt) : Enc.cell x 2 = .int .i64 x.what := rfl
@[local go_sem] theorem whole_wt (x : Wt) : Enc.whole x = .agg #[.bool x.lock, .int .i64 x.wh, .int .i64 x.what] := rfl
end Go.Proofs.YtmjkobhkkjgplaaGreatDoor
end
section
namespace Go.Proofs.YtmjkobhkkjgplaaGreatDoor
open Go.RowKit
set_option linter.unusedSimpArgs false
set_option linter.unusedVariables false

def vs (l : List Int) : List (Int × Value) := l.map fun k => (k, .bool true)
/-- A set of numbers. -/
def Asn.setO (g : Nat) (l : List Int) : Asn where
  fp b := g = b
  rd _ := False
  ok w := MapI w g (vs l)
  keep w w' h hb := h.of_block (hb g (.inl rfl))
  lt w h b hb := by
    rcases hb with rfl | hb
    · exact h.lt
    · exact hb.elim
structure MapTS (P : Program) (T kT eT : TypeId) : Prop where
  map : P.underlying T = some (.map kT eT)
  int : P.underlying kT = some (.int .i64)
  zero : ∀ w, (zeroValue eT).run P w = .ok (.bool false) w
section
variable {P : Program} {o : Oper} {N : Nat} {K : Nat → Prop} {W w : World} {a : Act} {F : List (Nat × Value)} {L : List Asn} {T kT eT : TypeId} {l : List Int} {k : Int} {g : Nat}
end
end Go.Proofs.YtmjkobhkkjgplaaGreatDoor
end
section
namespace Go.Proofs.YtmjkobhkkjgplaaGreatDoor
open Go.RowKit Go.Shelf
set_option linter.unusedSimpArgs false
set_option linter.unusedVariables false
attribute [local go_sem] Oper.semAt_some sz_wt agg_wt cell_wt0 cell_wt1 cell_wt2 whole_wt
@[local go_sem] theorem cell_lsw (x : Ls Wt) (j : Nat) : Enc.cell x j = x.v := rfl
@[local go_sem] theorem sz_lsw : Enc.sz (Ls Wt) = 1 := rfl

end Go.Proofs.YtmjkobhkkjgplaaGreatDoor
end
namespace Go.Proofs.YtmjkobhkkjgplaaGreatDoor
open Go.RowKit
set_option linter.unusedSimpArgs false
set_option linter.unusedVariables false
set_option maxRecDepth 100000
set_option maxHeartbeats 4000000


theorem put_take {l : List Int} {k : Nat} (h : k < l.length) {b : List UInt8} {c d : List UInt8} (hb : b = c ++ by8 ((l.take k).flatMap fun n => num36 n ++ [32])) (hd : d = b ++ by8 (num36 (nth l k))) : d ++ [32] = c ++ by8 ((l.take (k + 1)).flatMap fun n => num36 n ++ [32]) := by
  rw [hd, hb, take_succ_nth _ _ h, List.flatMap_append, by8_app]
  simp only [List.flatMap_cons, List.flatMap_nil, List.append_nil, by8_app, List.append_assoc]
  rfl
theorem put_all {l : List Int} {k : Nat} (h : k = l.length) {b c : List UInt8} (hb : b = c ++ by8 ((l.take k).flatMap fun n => num36 n ++ [32])) : b ++ [59] = c ++ by8 (putB l) := by
  rw [hb, h, List.take_length, putB, by8_app, List.append_assoc]; rfl
theorem R64L.row {x : Wt} {k : Int} (h : R64 x.wh ∧ R64 x.what) (hk : R64 k) : R64L [k, x.wh, x.what] := fun n hn => by
  simp only [List.mem_cons, List.not_mem_nil, or_false] at hn
  rcases hn with rfl | rfl | rfl
  · exact hk
  · exact h.1
  · exact h.2
theorem R64L.nil : R64L [] := fun n hn => by cases hn
theorem by8_len (l : List Nat) : (by8 l).length = l.length := List.length_map _

theorem put1_c (K : Nat → Prop) (gb : Nat) (bs : Ls UInt8) (l : Ls Int) (W : World) (hS : Sh K W W [.blk gb 204 [bs.v], .own 5 bs, .at_ l]) (hR : R64L l.l) (hn : bs.l.length + 66 * l.l.length ≤ 9000000000000) :
    Rets Tryz.prog 141 [l.v, .pointer (some ⟨gb, 0, none⟩)] W (fun v w' => v = .tuple #[] ∧ ∃ bs' : Ls UInt8, bs'.l = bs.l ++ by8 (putB l.l) ∧ Sh K W w' [.blk gb 204 [bs'.v], .own 5 bs', .at_ l]) := by
 refine gen Tryz.func141 Tryz.ntmps141 hS rfl fun a10 h10 => gG h10<|gK fun _ k11 => sK fun _ k12 => gNl (aA 2 rfl) fun hl13 => gRn (oM 1 rfl<|oln sl_23 (aA 2 rfl) rfl<|oM 1 rfl<|.nl)<|nK k12<|gB<|fun a15 w15 h15 => x_loop (fun m a w => ∃ (k : Nat) (bl : List UInt8) (vb : Value), (k ≤ l.l.length) ∧ (bl = bs.l ++ by8 ((l.l.take k).flatMap fun n => num36 n ++ [32])) ∧ (bl.length ≤ bs.l.length + 66 * k) ∧ St 20 K W a w [(1, .pointer (some ⟨gb, 0, none⟩)), (5, l.v), (6, .int .i64 ((l.l.length : Nat) : Int)), (7, .int .i64 ((k : Nat) : Int))] [.blk gb 204 [vb], .own 5 (⟨vb, bl⟩ : Ls UInt8), .at_ l] ∧ m = l.l.length - k) ⟨_, 0, bs.l, bs.v, (by omega), (by simp [by8]), (by omega), h15.nf ⟨rfl, rfl, rfl, rfl, trivial⟩, rfl⟩ ?_; clear h10
 clear h15
 rintro m14 a14 w14 ⟨k, bl, vb, hk, hbl, hbn, h14, hm14⟩
 refine gG h14<|sG (oltN _ _ rfl<|.nl)<|gK fun _ k17 => gcd rfl (fun hb18 hp18 => ?_) fun hb18 hp18 => ?_; clear h14
 ·skip
  refine gS<|hK k17<|gK fun _ k19 => gB<|sG (oxN sl_23 ti_3 (aA 2 rfl) _ om9 rfl<|olI ti_3 (aA 2 rfl) om9 rfl<|oM 1 rfl<|.nl)<|?_
  have hrk := hR _ (nth_mem l.l k (by omega))
  have hnk := num36_len _ hrk
  refine gL<|gRn (olB 0 ti_204 rfl rfl<|oM 1 rfl<|.nl)<|gO [1, 0, 2] rfl<|gM 1 rfl (fun _ _ h_ => xCl h_ bd_142 rfl (sappI_c _ (⟨vb, bl⟩ : Ls UInt8) (nth l.l k) _ (pKl 1 h_ rfl) hrk (by show bl.length ≤ _; omega))) rfl<|?_
  rintro _ _ w23 ⟨bs23, rfl, hbl23, hs23⟩
  refine gBk hs23 rfl<|gU<|?_; clear hs23
  have hbx := hbl23; try dsimp only at hbx
  refine gE1 (fun _ _ h_ => x_lit (n := 1) (cs := [.int .u8 32]) ([32] : List UInt8) h_ sl_204 ti_5 rfl rfl rfl (by decide) rfl (by kernel_rfl) rfl (fun q hq w h => Flat.inner _ _) (fun q hq b hb => (Flat.on _ _ hb).elim) rfl rfl) rfl fun v24 => gE1 (fun _ _ h_ => x_app (r := 1) (rm := 0) (s := bs23) (m := (⟨v24, [32]⟩ : Ls UInt8)) h_ sl_204 ti_5 rfl rfl rfl rfl rfl rfl rfl (fun w h => (h.own 0 rfl)) (fun b hb => own_on (h_.sh.ok _ (List.mem_of_getElem? (i := 0) rfl)) hb) (fun q hq b hb => ⟨q, hq, hb⟩) rfl rfl rfl inferInstance (show (bs23.l.length + ([32]).length) * 1 ≤ 140737488355328 ∧ bs23.l.length + ([32]).length ≤ 140737488355328 from (by first | omega | (simp only [List.length_cons, List.length_nil]; omega) | (rw [hbx, List.length_append, by8_len]; simp only [List.length_cons, List.length_nil]; omega))) rfl rfl) rfl fun v25 => gsr 2 ti_204 rfl (aO 1 rfl) rfl<|nK k19<|gL<|gRn (oadN _ 1 om9 rfl<|oM 1 rfl<|.nl)<|nN<|fun a27 w27 h27 => x_again ⟨_, ?_, (k + 1), bs23.l ++ ([32]), v25, ?_, ?_, ?_, h27.nrm ⟨rfl, rfl, rfl, rfl, trivial⟩ [2, 1, 3] rfl, rfl⟩
  · rw [hm14]; first | omega | (simp only [lens9]; omega)
  · omega
  · exact put_take (by omega) hbl (by assumption)
  · (rw [List.length_append, hbx, List.length_append, by8_len]; simp only [List.length_cons, List.length_nil]; omega)
 refine gX<|hK k11<|gL<|gRn (olB 0 ti_204 rfl rfl<|.nl)<|gE1 (fun _ _ h_ => x_lit (n := 1) (cs := [.int .u8 59]) ([59] : List UInt8) h_ sl_204 ti_5 rfl rfl rfl (by decide) rfl (by kernel_rfl) rfl (fun q hq w h => Flat.inner _ _) (fun q hq b hb => (Flat.on _ _ hb).elim) rfl rfl) rfl fun v28 => gE1 (fun _ _ h_ => x_app (r := 2) (rm := 0) (s := (⟨vb, bl⟩ : Ls UInt8)) (m := (⟨v28, [59]⟩ : Ls UInt8)) h_ sl_204 ti_5 rfl rfl rfl rfl rfl rfl rfl (fun w h => (h.own 0 rfl)) (fun b hb => own_on (h_.sh.ok _ (List.mem_of_getElem? (i := 0) rfl)) hb) (fun q hq b hb => ⟨q, hq, hb⟩) rfl rfl rfl inferInstance (show (bl.length + ([59]).length) * 1 ≤ 140737488355328 ∧ bl.length + ([59]).length ≤ 140737488355328 from (by first | omega | (simp only [List.length_cons, List.length_nil]; omega) | (rw [hbx, List.length_append, by8_len]; simp only [List.length_cons, List.length_nil]; omega))) rfl rfl) rfl fun v29 => gsr 1 ti_204 rfl (aO 2 rfl) rfl<|nN<|fun a31 w31 h31 => ?_
 try simp only [Exit.then, Exit.inBlock, if_true]
 refine x_end0 (fn := Tryz.f141) rfl h31 <| ⟨rfl, ⟨v29, bl ++ ([59])⟩, put_all (by omega) hbl, (h31.sh.sel [1, 2, 3] rfl)⟩

theorem plTell_c (K : Nat → Prop) (gb : Nat) (bs : Ls UInt8) (g0 : Nat) (words owner : Ls Int) (W : World) (hS : Sh K W W [.blk gb 204 [bs.v], .own 5 bs, .rblk g0 182 [words.v, owner.v], .at_ words, .at_ owner]) (hwl : words.l.length ≤ 64) (hol : owner.l.length ≤ 4) (hRw : R64L words.l) (hRo : R64L owner.l) (hbn : bs.l.length ≤ 5000000000000) :
    Rets Tryz.prog 206 [.pointer (some ⟨g0, 0, none⟩), .func (.func 141) #[] #[.pointer (some ⟨gb, 0, none⟩)]] W (fun v w' => v = .tuple #[] ∧ ∃ bs' : Ls UInt8, bs'.l = bs.l ++ by8 ([words.l, owner.l].flatMap putB) ∧ bs'.l.length ≤ bs.l.length + 5000 ∧ Sh K W w' [.blk gb 204 [bs'.v], .own 5 bs', .rblk g0 182 [words.v, owner.v], .at_ words, .at_ owner]) := by
 refine gen Tryz.func206 Tryz.ntmps206 hS rfl fun a10 h10 => gG h10<|sK fun _ k11 => gRn (oM 2 rfl<|onf fl_182_0 rfl<|olR 2 ti_23 rfl rfl<|.nl)<|gO [0, 1, 3, 2, 4] rfl<|fun a17 w17 h17 => ?_; clear h10
 have hp16 := h17.sh.passL (Lp := [_, _, _])
 refine wl_ex (x_call h17 bd_141 rfl rfl rfl rfl rfl (put1_c _ gb bs words _ hp16 (by assumption) (by show bs.l.length + 66 * words.l.length ≤ 9000000000000; first | omega | (simp only [List.length_cons, List.length_nil]; omega)))) (wanted_none rfl _) ?_
 rintro a18 w18 ⟨_, ⟨rfl, bs18, hbl18, hs18⟩, hf18⟩
 have hbn18 := congrArg List.length hbl18; rw [List.length_append, by8_len] at hbn18; have hbm18 := putB_len (l := words.l) (by assumption)
 try dsimp only at hbn18 hbm18
 try simp only [List.length_cons, List.length_nil] at hbm18
 change Sh _ _ _ [.blk gb 204 [bs18.v], .own 5 bs18, .at_ words] at hs18
 have h18 : St _ K W a18 w18 _ [_, _, _, _, _] := ⟨hf18, h17.sh.backI (Lp := [_, _, _]) hs18⟩
 clear hf18 hs18
 clear h17
 refine gG h18<|nK k11<|gL<|gRn (oM 2 rfl<|onf fl_182_1 rfl<|olR 3 ti_23 rfl rfl<|.nl)<|gO [0, 1, 4, 2, 3] rfl<|fun a24 w24 h24 => ?_; clear h18
 have hp23 := h24.sh.passL (Lp := [_, _, _])
 refine wl_ex (x_call h24 bd_141 rfl rfl rfl rfl rfl (put1_c _ gb bs18 owner _ hp23 (by assumption) (by show bs18.l.length + 66 * owner.l.length ≤ 9000000000000; first | omega | (simp only [List.length_cons, List.length_nil]; omega)))) (wanted_none rfl _) ?_
 rintro a25 w25 ⟨_, ⟨rfl, bs25, hbl25, hs25⟩, hf25⟩
 have hbn25 := congrArg List.length hbl25; rw [List.length_append, by8_len] at hbn25; have hbm25 := putB_len (l := owner.l) (by assumption)
 try dsimp only at hbn25 hbm25
 try simp only [List.length_cons, List.length_nil] at hbm25
 change Sh _ _ _ [.blk gb 204 [bs25.v], .own 5 bs25, .at_ owner] at hs25
 have h25 : St _ K W a25 w25 _ [_, _, _, _, _] := ⟨hf25, h24.sh.backI (Lp := [_, _, _]) hs25⟩
 clear hf25 hs25
 clear h24
 refine gG h25<|nN<|fun a26 w26 h26 => ?_; clear h25
 try simp only [Exit.then, Exit.inBlock, if_true]
 refine x_end0 (fn := Tryz.f206) rfl h26 <| ⟨rfl, ⟨bs25.v, bs25.l⟩, ?_, ?_, (h26.sh.sel [0, 1, 4, 3, 2] rfl)⟩
 ·show bs25.l = _
  rw [hbl25, hbl18]; simp only [List.flatMap_cons, List.flatMap_nil, by8_app, List.append_nil, List.append_assoc]
 ·show bs25.l.length ≤ _
  omega

theorem plCopy_c (g0 : Nat) (words owner : Ls Int) (W : World) (hB : Blk W g0 182 #[words.v, owner.v]) (hw : words.At W) (ho : owner.At W) (hwl : words.l.length ≤ 64) (hol : owner.l.length ≤ 4) :
    Rets Tryz.prog 198 [.pointer (some ⟨g0, 0, none⟩)] W (fun v w' => ∃ (g : Nat) (words' owner' : Ls Int), v = .iface 123 (.pointer (some ⟨g, 0, none⟩)) ∧ words'.l = words.l ∧ owner'.l = owner.l ∧ Sh0 W w' [.blk g 182 [words'.v, owner'.v], .own 3 words', .own 3 owner']) := by
 refine gen Tryz.func198 Tryz.ntmps198 (Sh0.ext (by intro A hA; simp only [List.mem_cons, List.not_mem_nil, or_false] at hA; rcases hA with rfl | rfl | rfl; exact hB; exact hw; exact ho) (by intro A hA b hb; simp only [List.mem_cons, List.not_mem_nil, or_false] at hA; rcases hA with rfl | rfl | rfl <;> exact hb) : Sh (fun _ => False) W W [.rblk g0 182 [words.v, owner.v], .at_ words, .at_ owner]) rfl fun a10 h10 => gG h10<|sG (oM 1 rfl<|.nl)<|gK fun _ k12 => gF [0] rfl<|fun a17 w17 h17 => x_any ((fun Φ Ψ S a w => (S 4 = false ∧ S 9 = false ∧ S 11 = false ∧ FrI 16 S Φ Ψ a ∧ Sh (fun _ => False) W w [.rblk g0 182 [words.v, owner.v], .at_ words, .at_ owner]) ∨ (S 4 = true ∧ S 9 = false ∧ S 11 = false ∧ ∃ (s7004 : Ls Int), FrI 16 S Φ (Ψ ++ [(4, 7, s7004.v)]) a ∧ Sh (fun _ => False) W w [.own 3 (⟨s7004.v, words.l⟩ : Ls Int), .rblk g0 182 [words.v, owner.v], .at_ words, .at_ owner]) ∨ (S 4 = true ∧ S 9 = true ∧ S 11 = false ∧ ∃ (s7004 : Ls Int) (s7009 : Ls Int), FrI 16 S Φ (Ψ ++ [(4, 7, s7004.v), (9, 12, s7009.v), (10, 13, .agg #[s7004.v, s7009.v])]) a ∧ Sh (fun _ => False) W w [.own 3 (⟨s7009.v, owner.l⟩ : Ls Int), .own 3 (⟨s7004.v, words.l⟩ : Ls Int), .rblk g0 182 [words.v, owner.v], .at_ words, .at_ owner]) ∨ (S 4 = true ∧ S 9 = true ∧ S 11 = true ∧ ∃ (s7004 : Ls Int) (s7009 : Ls Int) (b7011 : Nat), FrI 16 S Φ (Ψ ++ [(4, 7, s7004.v), (9, 12, s7009.v), (10, 13, .agg #[s7004.v, s7009.v]), (11, 14, .pointer (some ⟨b7011, 0, none⟩)), (12, 15, .iface 123 (.pointer (some ⟨b7011, 0, none⟩))), (13, 2, .iface 123 (.pointer (some ⟨b7011, 0, none⟩)))]) a ∧ Sh (fun _ => False) W w [.blk b7011 182 [s7004.v, s7009.v], .own 3 (⟨s7009.v, owner.l⟩ : Ls Int), .own 3 (⟨s7004.v, words.l⟩ : Ls Int), .rblk g0 182 [words.v, owner.v], .at_ words, .at_ owner])) [(0, .pointer (some ⟨g0, 0, none⟩))] [(0, 3, .pointer (some ⟨g0, 0, none⟩)), (1, 4, .pointer (some ⟨g0, 0, none⟩)), (2, 5, .pointer (some ⟨g0, 0, none⟩)), (3, 6, words.v), (5, 8, .pointer (some ⟨g0, 0, none⟩)), (6, 9, .pointer (some ⟨g0, 0, none⟩)), (7, 10, .pointer (some ⟨g0, 1, none⟩)), (8, 11, owner.v)]) (by kernel_rfl) (by kernel_rfl) (Or.inl (⟨rfl, rfl, rfl, FrI.start h17.fr, h17.sh.drew⟩)) ?_ ?_; clear h10
 ·intro S i o ho hSi hcl hdep a w hI
  clear h17
  rcases i with _ | _ | _ | _ | _ | _ | _ | _ | _ | _ | _ | _ | _ | _ | i
  ·obtain rfl : _ = o := Option.some.inj ho
   rcases hI with ⟨ν4, ν9, ν11, φ, ς⟩ | ⟨ν4, _⟩ | ⟨ν4, _⟩ | ⟨ν4, _⟩
   ·exact sq φ φ.fr0 ς (r_move rfl rfl) 0 rfl rfl rfl rfl rfl rfl fun a hg => Or.inl (⟨un rfl ν4, un rfl ν9, un rfl ν11, hg, ς⟩)
   ·exact no_way (cA hcl 4 0 rfl ν4) hSi
   ·exact no_way (cA hcl 4 0 rfl ν4) hSi
   ·exact no_way (cA hcl 4 0 rfl ν4) hSi
  ·obtain rfl : _ = o := Option.some.inj ho
   have hd0 : S 0 = true := depAt hdep 0 rfl rfl
   rcases hI with ⟨ν4, ν9, ν11, φ, ς⟩ | ⟨ν4, _⟩ | ⟨ν4, _⟩ | ⟨ν4, _⟩
   ·exact sq φ (Fr.cons φ.fr0 (φ.at_ 0 0 3 _ rfl hd0)) ς (r_nil rfl rfl) 1 rfl rfl rfl rfl rfl rfl fun a hg => Or.inl (⟨un rfl ν4, un rfl ν9, un rfl ν11, hg, ς⟩)
   ·exact no_way (cA hcl 4 1 rfl ν4) hSi
   ·exact no_way (cA hcl 4 1 rfl ν4) hSi
   ·exact no_way (cA hcl 4 1 rfl ν4) hSi
  ·obtain rfl : _ = o := Option.some.inj ho
   have hd1 : S 1 = true := depAt hdep 0 rfl rfl
   rcases hI with ⟨ν4, ν9, ν11, φ, ς⟩ | ⟨ν4, _⟩ | ⟨ν4, _⟩ | ⟨ν4, _⟩
   ·exact sq φ (Fr.cons φ.fr0 (φ.at_ 1 1 4 _ rfl hd1)) ς (r_fieldB (r := 0) fl_182_0 rfl rfl rfl) 2 rfl rfl rfl rfl rfl rfl fun a hg => Or.inl (⟨un rfl ν4, un rfl ν9, un rfl ν11, hg, ς⟩)
   ·exact no_way (cA hcl 4 2 rfl ν4) hSi
   ·exact no_way (cA hcl 4 2 rfl ν4) hSi
   ·exact no_way (cA hcl 4 2 rfl ν4) hSi
  ·obtain rfl : _ = o := Option.some.inj ho
   have hd2 : S 2 = true := depAt hdep 0 rfl rfl
   rcases hI with ⟨ν4, ν9, ν11, φ, ς⟩ | ⟨ν4, _⟩ | ⟨ν4, _⟩ | ⟨ν4, _⟩
   ·exact sq φ (Fr.cons φ.fr0 (φ.at_ 2 2 5 _ rfl hd2)) ς (r_ldbR ti_23 rfl rfl (fun w h => h.rblk 0 rfl) rfl) 3 rfl rfl rfl rfl rfl rfl fun a hg => Or.inl (⟨un rfl ν4, un rfl ν9, un rfl ν11, hg, ς⟩)
   ·exact no_way (cA hcl 4 3 rfl ν4) hSi
   ·exact no_way (cA hcl 4 3 rfl ν4) hSi
   ·exact no_way (cA hcl 4 3 rfl ν4) hSi
  ·obtain rfl : _ = o := Option.some.inj ho
   have hd3 : S 3 = true := depAt hdep 0 rfl rfl
   rcases hI with ⟨ν4, ν9, ν11, φ, ς⟩ | ⟨ν4, _⟩ | ⟨ν4, _⟩ | ⟨ν4, _⟩
   ·have hs := St.mk (Fr.cons φ.fr0 (φ.at_ 3 3 6 _ rfl hd3)) ς
    refine step_ex (x_call hs bd_44 rfl rfl rfl rfl rfl (cloneI_c words _ (hs.sh.at 1 rfl) (by first | omega | (simp only [lens9]; omega)))) (wanted_none rfl _) ?_
    rintro a27 w27 ⟨_, ⟨s27, rfl, hs27⟩, hf27⟩ ⟨v0, ht27⟩
    have h27 : St _ (fun _ => False) W a27 w27 _ _ := ⟨hf27, hs.sh.callI hs27⟩
    clear hf27 hs27
    exact Or.inr (Or.inl (⟨upd_self _ _, un rfl ν9, un rfl ν11, s27, φ.stepW hcl hSi [0, 1, 2, 3, 4, 5, 6, 7] (by kernel_rfl) (by kernel_rfl) ht27 h27.fr.defers (h27.fr.at_ 7 _ rfl) 8 rfl rfl rfl rfl, (h27.sh.sel [0, 1, 2, 3] rfl)⟩))
   ·exact no_way ν4 hSi
   ·exact no_way ν4 hSi
   ·exact no_way ν4 hSi
  ·obtain rfl : _ = o := Option.some.inj ho
   rcases hI with ⟨ν4, ν9, ν11, φ, ς⟩ | ⟨ν4, ν9, ν11, s7004, φ, ς⟩ | ⟨_, ν9, _⟩ | ⟨_, ν9, _⟩
   ·exact sq φ φ.fr0 ς (r_move rfl rfl) 4 rfl rfl rfl rfl rfl rfl fun a hg => Or.inl (⟨un rfl ν4, un rfl ν9, un rfl ν11, hg, ς⟩)
   ·exact sq φ φ.fr0 ς (r_move rfl rfl) 4 rfl rfl rfl rfl rfl rfl fun a hg => Or.inr (Or.inl (⟨un rfl ν4, un rfl ν9, un rfl ν11, s7004, hg, ς⟩))
   ·exact no_way (cA hcl 9 5 rfl ν9) hSi
   ·exact no_way (cA hcl 9 5 rfl ν9) hSi
  ·obtain rfl : _ = o := Option.some.inj ho
   have hd5 : S 5 = true := depAt hdep 0 rfl rfl
   rcases hI with ⟨ν4, ν9, ν11, φ, ς⟩ | ⟨ν4, ν9, ν11, s7004, φ, ς⟩ | ⟨_, ν9, _⟩ | ⟨_, ν9, _⟩
   ·exact sq φ (Fr.cons φ.fr0 (φ.at_ 4 5 8 _ rfl hd5)) ς (r_nil rfl rfl) 5 rfl rfl rfl rfl rfl rfl fun a hg => Or.inl (⟨un rfl ν4, un rfl ν9, un rfl ν11, hg, ς⟩)
   ·exact sq φ (Fr.cons φ.fr0 (φ.at_ 4 5 8 _ rfl hd5)) ς (r_nil rfl rfl) 5 rfl rfl rfl rfl rfl rfl fun a hg => Or.inr (Or.inl (⟨un rfl ν4, un rfl ν9, un rfl ν11, s7004, hg, ς⟩))
   ·exact no_way (cA hcl 9 6 rfl ν9) hSi
   ·exact no_way (cA hcl 9 6 rfl ν9) hSi
  ·obtain rfl : _ = o := Option.some.inj ho
   have hd6 : S 6 = true := depAt hdep 0 rfl rfl
   rcases hI with ⟨ν4, ν9, ν11, φ, ς⟩ | ⟨ν4, ν9, ν11, s7004, φ, ς⟩ | ⟨_, ν9, _⟩ | ⟨_, ν9, _⟩
   ·exact sq φ (Fr.cons φ.fr0 (φ.at_ 5 6 9 _ rfl hd6)) ς (r_fieldB (r := 1) fl_182_1 rfl rfl rfl) 6 rfl rfl rfl rfl rfl rfl fun a hg => Or.inl (⟨un rfl ν4, un rfl ν9, un rfl ν11, hg, ς⟩)
   ·exact sq φ (Fr.cons φ.fr0 (φ.at_ 5 6 9 _ rfl hd6)) ς (r_fieldB (r := 1) fl_182_1 rfl rfl rfl) 6 rfl rfl rfl rfl rfl rfl fun a hg => Or.inr (Or.inl (⟨un rfl ν4, un rfl ν9, un rfl ν11, s7004, hg, ς⟩))
   ·exact no_way (cA hcl 9 7 rfl ν9) hSi
   ·exact no_way (cA hcl 9 7 rfl ν9) hSi
  ·obtain rfl : _ = o := Option.some.inj ho
   have hd7 : S 7 = true := depAt hdep 0 rfl rfl
   rcases hI with ⟨ν4, ν9, ν11, φ, ς⟩ | ⟨ν4, ν9, ν11, s7004, φ, ς⟩ | ⟨_, ν9, _⟩ | ⟨_, ν9, _⟩
   ·exact sq φ (Fr.cons φ.fr0 (φ.at_ 6 7 10 _ rfl hd7)) ς (r_ldbR ti_23 rfl rfl (fun w h => h.rblk 0 rfl) rfl) 7 rfl rfl rfl rfl rfl rfl fun a hg => Or.inl (⟨un rfl ν4, un rfl ν9, un rfl ν11, hg, ς⟩)
   ·exact sq φ (Fr.cons φ.fr0 (φ.at_ 6 7 10 _ rfl hd7)) ς (r_ldbR ti_23 rfl rfl (fun w h => h.rblk 1 rfl) rfl) 7 rfl rfl rfl rfl rfl rfl fun a hg => Or.inr (Or.inl (⟨un rfl ν4, un rfl ν9, un rfl ν11, s7004, hg, ς⟩))
   ·exact no_way (cA hcl 9 8 rfl ν9) hSi
   ·exact no_way (cA hcl 9 8 rfl ν9) hSi
  ·obtain rfl : _ = o := Option.some.inj ho
   have hd8 : S 8 = true := depAt hdep 0 rfl rfl
   have hd4 : S 4 = true := depAt hdep 1 rfl rfl
   rcases hI with ⟨ν4, _⟩ | ⟨ν4, ν9, ν11, s7004, φ, ς⟩ | ⟨_, ν9, _⟩ | ⟨_, ν9, _⟩
   ·exact no_way hd4 ν4
   ·have hs := St.mk (Fr.cons φ.fr0 (φ.at_ 7 8 11 _ rfl hd8)) ς
    refine step_ex (x_call hs bd_44 rfl rfl rfl rfl rfl (cloneI_c owner _ (hs.sh.at 3 rfl) (by first | omega | (simp only [lens9]; omega)))) (wanted_none rfl _) ?_
    rintro a36 w36 ⟨_, ⟨s36, rfl, hs36⟩, hf36⟩ ⟨v0, ht36⟩
    have h36 : St _ (fun _ => False) W a36 w36 _ _ := ⟨hf36, hs.sh.callI hs36⟩
    clear hf36 hs36
    exact Or.inr (Or.inr (Or.inl (⟨un rfl ν4, upd_self _ _, un rfl ν11, s7004, s36, φ.stepW hcl hSi [0, 1, 2, 3, 4, 5, 6, 7, 8] (by kernel_rfl) (by kernel_rfl) ht36 h36.fr.defers (h36.fr.at_ 12 _ rfl) 9 rfl rfl rfl rfl, (h36.sh.sel [0, 1, 2, 3, 4] rfl)⟩)))
   ·exact no_way ν9 hSi
   ·exact no_way ν9 hSi
  ·obtain rfl : _ = o := Option.some.inj ho
   have hd4 : S 4 = true := depAt hdep 0 rfl rfl
   have hd9 : S 9 = true := depAt hdep 1 rfl rfl
   rcases hI with ⟨ν4, _⟩ | ⟨_, ν9, _⟩ | ⟨ν4, ν9, ν11, s7004, s7009, φ, ς⟩ | ⟨_, _, ν11, _⟩
   ·exact no_way hd4 ν4
   ·exact no_way hd9 ν9
   ·have hs := St.mk (Fr.cons (Fr.cons φ.fr0 (φ.at_ 8 4 7 _ rfl hd4)) (φ.at_ 9 9 12 _ rfl hd9)) ς
    exact sq φ (Fr.cons (Fr.cons φ.fr0 (φ.at_ 8 4 7 _ rfl hd4)) (φ.at_ 9 9 12 _ rfl hd9)) ς (r_build (cs := [s7004.v, s7009.v]) rfl rfl (by obtain ⟨A38, n38, c38, (e38 : s7009.v = _)⟩ := ((hs.sh.own 0 rfl)).form; rw [e38]; obtain ⟨A37, n37, c37, (e37 : s7004.v = _)⟩ := ((hs.sh.own 1 rfl)).form; rw [e37]; kernel_rfl)) 10 rfl rfl rfl rfl rfl rfl fun a hg => Or.inr (Or.inr (Or.inl (⟨un rfl ν4, un rfl ν9, un rfl ν11, s7004, s7009, hg, ς⟩)))
   ·exact no_way (cA hcl 11 10 rfl ν11) hSi
  ·obtain rfl : _ = o := Option.some.inj ho
   have hd10 : S 10 = true := depAt hdep 0 rfl rfl
   rcases hI with ⟨ν4, _⟩ | ⟨_, ν9, _⟩ | ⟨ν4, ν9, ν11, s7004, s7009, φ, ς⟩ | ⟨_, _, ν11, _⟩
   ·exact no_way (cA hcl 10 4 rfl hd10) ν4
   ·exact no_way (cA hcl 10 9 rfl hd10) ν9
   ·have hs := St.mk (Fr.cons φ.fr0 (φ.at_ 10 10 13 _ rfl hd10)) ς
    refine step_ex (x_box (cs := [s7004.v, s7009.v]) hs rfl rfl rfl rfl rfl) (wanted_none rfl _) ?_
    rintro a40 w40 ⟨b40, h40⟩ ⟨v0, ht40⟩
    exact Or.inr (Or.inr (Or.inr (⟨un rfl ν4, un rfl ν9, upd_self _ _, s7004, s7009, b40, φ.stepW hcl hSi [0, 1, 2, 3, 4, 5, 6, 7, 8, 9, 10] (by kernel_rfl) (by kernel_rfl) ht40 h40.fr.defers (h40.fr.at_ 14 _ rfl) 11 rfl rfl rfl rfl, (h40.sh.sel [0, 1, 2, 3, 4, 5] rfl)⟩)))
   ·exact no_way ν11 hSi
  ·obtain rfl : _ = o := Option.some.inj ho
   have hd11 : S 11 = true := depAt hdep 0 rfl rfl
   rcases hI with ⟨ν4, _⟩ | ⟨_, ν9, _⟩ | ⟨_, _, ν11, _⟩ | ⟨ν4, ν9, ν11, s7004, s7009, b7011, φ, ς⟩
   ·exact no_way (cA hcl 11 4 rfl hd11) ν4
   ·exact no_way (cA hcl 11 9 rfl hd11) ν9
   ·exact no_way hd11 ν11
   ·exact sq φ (Fr.cons φ.fr0 (φ.at_ 11 11 14 _ rfl hd11)) ς (Rn.same (r_mkIfP (T := 123) Tryz.underlying123 rfl rfl) rfl) 12 rfl rfl rfl rfl rfl rfl fun a hg => Or.inr (Or.inr (Or.inr (⟨un rfl ν4, un rfl ν9, un rfl ν11, s7004, s7009, b7011, hg, ς⟩)))
  ·obtain rfl : _ = o := Option.some.inj ho
   have hd12 : S 12 = true := depAt hdep 0 rfl rfl
   have hd9 : S 9 = true := depAt hdep 1 rfl rfl
   have hd4 : S 4 = true := depAt hdep 6 rfl rfl
   have hd11 : S 11 = true := depAt hdep 13 rfl rfl
   rcases hI with ⟨ν4, _⟩ | ⟨_, ν9, _⟩ | ⟨_, _, ν11, _⟩ | ⟨ν4, ν9, ν11, s7004, s7009, b7011, φ, ς⟩
   ·exact no_way hd4 ν4
   ·exact no_way hd9 ν9
   ·exact no_way hd11 ν11
   ·exact sq φ (Fr.cons φ.fr0 (φ.at_ 12 12 15 _ rfl hd12)) ς (r_assign rfl rfl) 13 rfl rfl rfl rfl rfl rfl fun a hg => Or.inr (Or.inr (Or.inr (⟨un rfl ν4, un rfl ν9, un rfl ν11, s7004, s7009, b7011, hg, ς⟩)))
  · simp at ho
 intro S hall a w hI
 clear h17
 rcases hI with ⟨ν4, ν9, ν11, φ, ς⟩ | ⟨ν4, ν9, ν11, s7004, φ, ς⟩ | ⟨ν4, ν9, ν11, s7004, s7009, φ, ς⟩ | ⟨ν4, ν9, ν11, s7004, s7009, b7011, φ, ς⟩
 · exact no_way (hall 4 (by decide)) ν4
 · exact no_way (hall 9 (by decide)) ν9
 · exact no_way (hall 11 (by decide)) ν11
 have h43 : St 16 (fun _ => False) W a w _ _ := ⟨(Fr.cons φ.fr0 (φ.at_ 13 13 2 _ rfl (hall 13 (by decide)))), ς⟩
 clear hall φ ς ν4 ν9 ν11
 refine gG h43<|hK k12<|gR<|fun a44 w44 h44 => ?_; clear h43
 try simp only [Exit.then, Exit.inBlock]
 refine x_ret1 (fn := Tryz.f198) (t := 2) rfl h44 rfl ?_
 exact ⟨b7011, ⟨s7004.v, words.l⟩, ⟨s7009.v, owner.l⟩, rfl, rfl, rfl, (h44.sh.sel [0, 2, 1] rfl)⟩

end Go.Proofs.YtmjkobhkkjgplaaGreatDoor
