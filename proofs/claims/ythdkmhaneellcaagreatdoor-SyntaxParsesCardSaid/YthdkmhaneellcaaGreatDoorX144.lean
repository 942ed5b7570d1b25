/-
  Rows of strings: what is in them, and where the first one of a kind is; the words and the signs.
-/
import Derived.Test.YthdkmhaneellcaaGreatDoorX143
namespace Go.Proofs.YthdkmhaneellcaaGreatDoor
open Go.RowKit
set_option linter.unusedSimpArgs false
set_option linter.unusedVariables false
set_option maxRecDepth 100000
set_option maxHeartbeats 1000000


def inS (l : List ByteArray) (x : ByteArray) : Bool := l.any fun y => decide (y = x)
theorem inS_iff {l : List ByteArray} {x : ByteArray} : inS l x = true ↔ x ∈ l := by
  unfold inS
  rw [List.any_eq_true]
  exact ⟨fun ⟨y, hy, h⟩ => of_decide_eq_true h ▸ hy, fun h => ⟨x, h, decide_eq_true rfl⟩⟩
theorem take_snoc {l : List ByteArray} {k : Nat} {p : ByteArray → Prop} (h : ∀ y ∈ l.take k, p y) (hk : k < l.length) (hp : p (nth l k)) : ∀ y ∈ l.take (k + 1), p y := by
  intro y hy
  rw [List.take_add_one, List.mem_append, List.getElem?_eq_getElem hk] at hy
  rcases hy with hy | hy
  · exact h y hy
  · simp only [Option.toList, List.mem_singleton] at hy
    rw [hy, ← nth_lt _ _ hk]; exact hp

theorem sIndex_c (l : Ls ByteArray) (x : ByteArray) (W : World) (hl : l.At W) (hlen : l.l.length ≤ 1000) :
    Rets Tryz.prog 101 [l.v, .string x] W (fun v w' => ∃ r : Int, v = .int .i64 r ∧ (0 ≤ r ↔ x ∈ l.l) ∧ Sh0 W w' []) := by
 refine gen Tryz.func101 Tryz.ntmps101 (Sh0.ext1 hl : Sh (fun _ => False) W W [.at_ l]) rfl fun a10 h10 => gG h10<|sG (oM 1 rfl<|.nl)<|gK fun _ k12 => sK fun _ k13 => gNl (aA 0 rfl) fun hl14 => gRn (oM 1 rfl<|oln sl_103 (aA 0 rfl) rfl<|oM 1 rfl<|.nl)<|nK k13<|gB<|fun a16 w16 h16 => x_loop (fun m a w => ∃ (k : Nat), (k ≤ l.l.length) ∧ (∀ y ∈ l.l.take k, ¬ x = y) ∧ St 19 (fun _ => False) W a w [(0, l.v), (1, .string x), (7, .int .i64 ((l.l.length : Nat) : Int)), (8, .int .i64 ((k : Nat) : Int))] [.at_ l] ∧ m = l.l.length - k) ⟨_, 0, (by omega), (by simp), h16.nf ⟨rfl, rfl, rfl, rfl, trivial⟩, rfl⟩ ?_; clear h10
 clear h16
 rintro m15 a15 w15 ⟨k, hk, hno, h15, hm15⟩
 refine gG h15<|sG (oltN _ _ rfl<|.nl)<|gK fun _ k18 => gcd rfl (fun hb19 hp19 => ?_) fun hb19 hp19 => ?_; clear h15
 ·skip
  refine gS<|hK k18<|gK fun _ k20 => gB<|sG (oM 2 rfl<|.nl)<|sG (oM 3 rfl<|oxN sl_103 ti_9 (aA 0 rfl) _ om9 rfl<|olE (.string (nth l.l k)) ti_9 (aA 0 rfl) om9 rfl<|oV (r_eqlStr (s := x) (t := (nth l.l k)) rfl rfl rfl) rfl<|.nl)<|gcd rfl (fun hb23 hp23 => ?_) fun hb23 hp23 => ?_
  ·skip
   refine sG (oM 2 rfl<|.nl)<|gR<|uB<|uT<|uT<|uB<|uT<|fun a25 w25 h25 => x_ret1 (fn := Tryz.f101) (t := 4) rfl h25 rfl <| ⟨_, rfl, ?_, (h25.sh.sel [] rfl)⟩
   first | exact ⟨fun _ => (by assumption : x = _) ▸ nth_mem l.l k (by omega), fun _ => by omega⟩ | (rw [List.take_of_length_le (by omega)] at hno; exact ⟨fun h => absurd h (by omega), fun h => absurd rfl (hno x h)⟩)
  refine gS<|hK k20<|gL<|gRn (oadN _ 1 om9 rfl<|oM 1 rfl<|.nl)<|nN<|fun a26 w26 h26 => x_again ⟨_, ?_, k + 1, ?_, ?_, h26.nf ⟨rfl, rfl, rfl, rfl, trivial⟩, rfl⟩
  · rw [hm15]; first | omega | (simp only [lens9]; omega)
  · omega
  · exact take_snoc hno (by omega) (by assumption)
 refine gX<|hK k12<|sG (oM 1 rfl<|.nl)<|gR<|fun a28 w28 h28 => x_ret1 (fn := Tryz.f101) (t := 4) rfl h28 rfl <| ⟨_, rfl, ?_, (h28.sh.sel [] rfl)⟩
 first | exact ⟨fun _ => (by assumption : x = _) ▸ nth_mem l.l k (by omega), fun _ => by omega⟩ | (rw [List.take_of_length_le (by omega)] at hno; exact ⟨fun h => absurd h (by omega), fun h => absurd rfl (hno x h)⟩)

theorem sContains_c (l : Ls ByteArray) (x : ByteArray) (W : World) (hl : l.At W) (hlen : l.l.length ≤ 1000) :
    Rets Tryz.prog 63 [l.v, .string x] W (fun v w' => v = .bool (inS l.l x) ∧ Sh0 W w' []) := by
 refine gen Tryz.func63 Tryz.ntmps63 (Sh0.ext1 hl : Sh (fun _ => False) W W [.at_ l]) rfl fun a10 h10 => gG h10<|sG (oM 1 rfl<|.nl)<|sK fun _ k12 => gRn (oM 2 rfl<|.nl)<|gC (fun _ _ h_ => xCl h_ bd_101 rfl (sIndex_c l x _ (h_.sh.at 0 rfl) hlen)) rfl<|?_; clear h10
 rintro _ _ w13 ⟨r13, rfl, hr13, hs13⟩
 refine gWk hs13 rfl<|gU<|gRn (ogeI _ _ rfl<|oM 1 rfl<|.nl)<|nK k12<|gR<|fun a14 w14 h14 => ?_; clear hs13
 refine x_ret1 (fn := Tryz.f63) (t := 4) rfl h14 rfl <| ⟨?_, (h14.sh.sel [] rfl)⟩
 congr 1
 rw [Bool.eq_iff_iff, decide_eq_true_eq, inS_iff]
 exact hr13

theorem sIndexF_c (l : Ls ByteArray) (bf : FuncId) (us ws : List Value) (Env : Asn) (pd : ByteArray → Bool) (W : World) (hl : l.At W) (hlen : l.l.length ≤ 1000) (hbd : bodyI Tryz.prog bf = true) (hEf : ∀ b, ¬ Env.fp b) (hEo : Env.ok W) (hpd : ∀ (w : World) (y : ByteArray), Env.ok w → Rets Tryz.prog bf (us ++ [.string y] ++ ws) w (fun v w' => v = .bool (pd y) ∧ Sh0 w w' [])) :
    Rets Tryz.prog 68 [l.v, .func (.func bf) us.toArray ws.toArray] W (fun v w' => ∃ r : Int, v = .int .i64 r ∧ ((r = -1 ∧ ∀ y ∈ l.l, pd y = false) ∨ ∃ j : Nat, r = (j : Int) ∧ j < l.l.length ∧ pd (nth l.l j) = true ∧ ∀ y ∈ l.l.take j, pd y = false) ∧ Sh0 W w' []) := by
 refine gen Tryz.func68 Tryz.ntmps68 (Sh0.ext (by intro A hA; simp only [List.mem_cons, List.not_mem_nil, or_false] at hA; rcases hA with rfl | rfl; exact hl; exact hEo) (by intro A hA b hb; simp only [List.mem_cons, List.not_mem_nil, or_false] at hA; rcases hA with rfl | rfl; exact hb; exact hEf b hb) : Sh (fun _ => False) W W [.at_ l, Env]) rfl fun a10 h10 => gG h10<|sG (oM 1 rfl<|.nl)<|gK fun _ k12 => sK fun _ k13 => gNl (aA 0 rfl) fun hl14 => gRn (oM 1 rfl<|oln sl_103 (aA 0 rfl) rfl<|oM 1 rfl<|.nl)<|nK k13<|gB<|fun a16 w16 h16 => x_loop (fun m a w => ∃ (k : Nat), (k ≤ l.l.length) ∧ (∀ y ∈ l.l.take k, pd y = false) ∧ St 19 (fun _ => False) W a w [(0, l.v), (1, .func (.func bf) us.toArray ws.toArray), (7, .int .i64 ((l.l.length : Nat) : Int)), (8, .int .i64 ((k : Nat) : Int))] [.at_ l, Env] ∧ m = l.l.length - k) ⟨_, 0, (by omega), (by simp), h16.nf ⟨rfl, rfl, rfl, rfl, trivial⟩, rfl⟩ ?_; clear h10
 clear h16
 rintro m15 a15 w15 ⟨k, hk, hno, h15, hm15⟩
 refine gG h15<|sG (oltN _ _ rfl<|.nl)<|gK fun _ k18 => gcd rfl (fun hb19 hp19 => ?_) fun hb19 hp19 => ?_; clear h15
 ·skip
  refine gS<|hK k18<|gK fun _ k20 => gB<|sG (oM 2 rfl<|.nl)<|sK fun _ k22 => gRn (oM 3 rfl<|oxN sl_103 ti_9 (aA 0 rfl) _ om9 rfl<|olE (.string (nth l.l k)) ti_9 (aA 0 rfl) om9 rfl<|.nl)<|gC (fun _ _ h_ => xCl h_ hbd rfl (hpd _ (nth l.l k) (h_.sh.ok Env (List.mem_of_getElem? (i := 1) rfl)))) rfl<|?_
  rintro _ _ w23 ⟨rfl, hs23⟩
  refine gWk hs23 rfl<|gU<|nK k22<|?_; clear hs23
  refine gCb rfl (fun hb24 => ?_) fun hb24 => ?_
  ·skip
   refine sG (oM 2 rfl<|.nl)<|gR<|uB<|uT<|uT<|uB<|uT<|fun a26 w26 h26 => x_ret1 (fn := Tryz.f68) (t := 4) rfl h26 rfl <| ⟨_, rfl, ?_, (h26.sh.sel [] rfl)⟩
   first | exact .inr ⟨k, rfl, by omega, by assumption, hno⟩ | (rw [List.take_of_length_le (by omega)] at hno; exact .inl ⟨rfl, hno⟩)
  refine gS<|hK k20<|gL<|gRn (oadN _ 1 om9 rfl<|oM 1 rfl<|.nl)<|nN<|fun a27 w27 h27 => x_again ⟨_, ?_, k + 1, ?_, ?_, h27.nf ⟨rfl, rfl, rfl, rfl, trivial⟩, rfl⟩
  · rw [hm15]; first | omega | (simp only [lens9]; omega)
  · omega
  · exact take_snoc hno (by omega) (by assumption)
 refine gX<|hK k12<|sG (oM 1 rfl<|.nl)<|gR<|fun a29 w29 h29 => x_ret1 (fn := Tryz.f68) (t := 4) rfl h29 rfl <| ⟨_, rfl, ?_, (h29.sh.sel [] rfl)⟩
 first | exact .inr ⟨k, rfl, by omega, by assumption, hno⟩ | (rw [List.take_of_length_le (by omega)] at hno; exact .inl ⟨rfl, hno⟩)

theorem words_c (W : World) :
    Rets Tryz.prog 64 [] W (fun v w' => ∃ v0 : Value, v0 = v ∧ Sh0 W w' [.own 9 (⟨v0, wordL⟩ : Ls ByteArray)]) := by
 refine gen Tryz.func64 Tryz.ntmps64 (Sh0.start W : Sh (fun _ => False) W W []) rfl fun a10 h10 => gG h10<|sG (oM 1 rfl<|.nl)<|sK fun _ k12 => gE1 (fun _ _ h_ => x_lit (n := 10) (cs := [.string ({ data := #[105, 110, 116] }), .string ({ data := #[108, 111, 99, 107] }), .string ({ data := #[117, 110, 108, 111, 99, 107] }), .string ({ data := #[116, 104, 114, 101, 97, 100] }), .string ({ data := #[105, 102] }), .string ({ data := #[101, 108, 115, 101] }), .string ({ data := #[119, 104, 105, 108, 101] }), .string ({ data := #[112, 114, 105, 110, 116] }), .string ({ data := #[102, 101, 110, 99, 101] }), .string ({ data := #[99, 97, 115] })]) ([{ data := #[105, 110, 116] }, { data := #[108, 111, 99, 107] }, { data := #[117, 110, 108, 111, 99, 107] }, { data := #[116, 104, 114, 101, 97, 100] }, { data := #[105, 102] }, { data := #[101, 108, 115, 101] }, { data := #[119, 104, 105, 108, 101] }, { data := #[112, 114, 105, 110, 116] }, { data := #[102, 101, 110, 99, 101] }, { data := #[99, 97, 115] }] : List ByteArray) h_ sl_103 ti_9 rfl rfl rfl (by decide) rfl (by kernel_rfl) rfl (fun q hq w h => Flat.inner _ _) (fun q hq b hb => (Flat.on _ _ hb).elim) rfl rfl) rfl fun v13 => gRn (oM 1 rfl<|.nl)<|nK k12<|gR<|fun a14 w14 h14 => x_ret1 (fn := Tryz.f64) (t := 0) rfl h14 rfl ?_; clear h10
 exact ⟨_, rfl, h14.sh⟩

theorem signs_c (W : World) :
    Rets Tryz.prog 67 [] W (fun v w' => ∃ v0 : Value, v0 = v ∧ Sh0 W w' [.own 9 (⟨v0, signL⟩ : Ls ByteArray)]) := by
 refine gen Tryz.func67 Tryz.ntmps67 (Sh0.start W : Sh (fun _ => False) W W []) rfl fun a10 h10 => gG h10<|sG (oM 1 rfl<|.nl)<|sK fun _ k12 => gE1 (fun _ _ h_ => x_lit (n := 19) (cs := [.string ({ data := #[60, 61] }), .string ({ data := #[62, 61] }), .string ({ data := #[61, 61] }), .string ({ data := #[33, 61] }), .string ({ data := #[38, 38] }), .string ({ data := #[124, 124] }), .string ({ data := #[43] }), .string ({ data := #[45] }), .string ({ data := #[42] }), .string ({ data := #[60] }), .string ({ data := #[62] }), .string ({ data := #[33] }), .string ({ data := #[40] }), .string ({ data := #[41] }), .string ({ data := #[123] }), .string ({ data := #[125] }), .string ({ data := #[59] }), .string ({ data := #[44] }), .string ({ data := #[61] })]) ([{ data := #[60, 61] }, { data := #[62, 61] }, { data := #[61, 61] }, { data := #[33, 61] }, { data := #[38, 38] }, { data := #[124, 124] }, { data := #[43] }, { data := #[45] }, { data := #[42] }, { data := #[60] }, { data := #[62] }, { data := #[33] }, { data := #[40] }, { data := #[41] }, { data := #[123] }, { data := #[125] }, { data := #[59] }, { data := #[44] }, { data := #[61] }] : List ByteArray) h_ sl_103 ti_9 rfl rfl rfl (by decide) rfl (by kernel_rfl) rfl (fun q hq w h => Flat.inner _ _) (fun q hq b hb => (Flat.on _ _ hb).elim) rfl rfl) rfl fun v13 => gRn (oM 1 rfl<|.nl)<|nK k12<|gR<|fun a14 w14 h14 => x_ret1 (fn := Tryz.f67) (t := 0) rfl h14 rfl ?_; clear h10
 exact ⟨_, rfl, h14.sh⟩

end Go.Proofs.YthdkmhaneellcaaGreatDoor
