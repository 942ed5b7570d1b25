/- Contracts of functions of this program and of the references, each walked once. -/
import Derived.Test.YtmjkobhkkjgplaaGreatDoorX20
section
namespace Go.Proofs.YtmjkobhkkjgplaaGreatDoor
open Go.RowKit
set_option linter.unusedSimpArgs false
set_option linter.unusedVariables false
set_option maxRecDepth 100000
set_option maxHeartbeats 1000000
def sumStep (h:Nat) (x:Int):Nat:=((h^^^toU x)*1099511628211%18446744073709551616)^^^(((h^^^toU x)*1099511628211%18446744073709551616)/2^29)
def sumL (l:List Int):Nat:=l.foldl sumStep (toU (l.length:Int))%4096
theorem sumL_lt (l:List Int):sumL l<4096:=Nat.mod_lt _ (by decide)
def lessB :List Int→List Int→Bool
 |a::l,b::m=>if a=b then lessB l m else decide (a<b)
 |l,m=>decide (l.length<m.length)
theorem lessB_ne :∀ {l m:List Int} (i:Nat),i<l.length→i<m.length→(∀j,j<i→nth l j=nth m j)→nth l i≠nth m i→lessB l m=decide (nth l i<nth m i)
 |a::l,b::m,0,_,_,_,h=>by
  have h' :a≠b:=h
  unfold lessB;rw [if_neg h'];rfl
 |a::l,b::m,i+1,hl,hm,hall,h=>by
  have h0:a=b:=hall 0 (by omega)
  unfold lessB;rw [if_pos h0]
  exact lessB_ne i (by simpa using hl) (by simpa using hm) (fun j hj=>hall (j+1) (by omega)) h
theorem lessB_end :∀ {l m:List Int} (i:Nat),i≤l.length→i≤m.length→(i=l.length∨i=m.length)→(∀j,j<i→nth l j=nth m j)→lessB l m=decide (l.length<m.length)
 | [],m,i,_,_,_,_=>by unfold lessB;rfl
 |a::l, [],i,_,_,_,_=>by unfold lessB;rfl
 |a::l,b::m,0,_,_,h,_=>by simp at h
 |a::l,b::m,i+1,hl,hm,he,hall=>by
  have h0:a=b:=hall 0 (by omega)
  have ih:=lessB_end (l:=l) (m:=m) i (by simpa using hl) (by simpa using hm) (by simpa using he) (fun j hj=>hall (j+1) (by omega))
  unfold lessB;rw [if_pos h0,ih];simp
def aheadB (a b:Outc):Bool:=if a.st=b.st then (if a.words=b.words then lessB a.prints b.prints else lessB a.words b.words) else decide (a.st<b.st)
theorem sameOut {l m:List OutL} (hl:l.length=m.length) (h:∀i,i<l.length→(nth l i).out=(nth m i).out):l.map OutL.out=m.map OutL.out:=by
 refine ext_nth _ _ (by simpa using hl) fun i hi=> ?_
 have hi' :i<l.length:=by simpa using hi
 rw [nth_map' _ _ _ hi',nth_map' _ _ _ (by omega)]
 exact h i hi'
theorem sameAt {l m:List OutL} (h:l.map OutL.out=m.map OutL.out) (i:Nat) (hi:i<l.length):(nth l i).out=(nth m i).out:=by
 have hl:l.length=m.length:=by simpa using congrArg List.length h
 have:=congrArg (fun q=>nth q i) h
 rwa [nth_map' _ _ _ hi,nth_map' _ _ _ (by omega)] at this
theorem LsNil {α:Type} [Enc α] (w:World):(⟨.slice none 0 0, []⟩:Ls α).At w:=own_at (E:=0) (World.ownsRow_nil w 0 0 _|>fun h=>⟨h,by simp,fun i hi=>absurd hi (by simp)⟩)
theorem sum_c (x:Ls Int) (W:World) (hx:x.At W):
    Rets Tryz.prog 107 [x.v] W (fun v w' =>v= .int .i64 ((sumL x.l:Nat):Int)∧Sh0 W w' []):=by
 refine gen Tryz.func107 Tryz.ntmps107 (Sh0.ext1 hx:Sh (fun _=>False) W W [.at_ x]) rfl fun a10 h10=>gG h10<|sG (oM 1 rfl<|.nl)<|sK fun _ k12=>gNl (aA 0 rfl) fun hl13=>gRn (oM 1 rfl<|oln sl_23 (aA 0 rfl) rfl<|oV (r_cvU Tryz.underlying3 Tryz.underlying202 rfl rfl) rfl<|oM 1 rfl<|.nl)<|nK k12<|gK fun _ k14=>sG (oM 1 rfl<|.nl)<|gB<|fun a17 w17 h17=>x_loop (fun m a w=>∃(i hh:Nat),(i≤x.l.length)∧(hh<18446744073709551616)∧(hh=(x.l.take i).foldl sumStep (toU (x.l.length:Int)))∧St 29 (fun _=>False) W a w [(0,x.v),(3, .int .u64 ((hh:Nat):Int)),(4, .int .i64 ((i:Nat):Int))] [.at_ x]∧m=x.l.length-i) ⟨_,0,toU ((x.l.length:Nat):Int),(by omega),(toU_lt _),(rfl),h17.nf ⟨rfl,rfl,rfl,trivial⟩,rfl⟩ ?_;clear h10
 clear h17
 rintro m16 a16 w16 ⟨i,hh,hi,hlt,hh2,h16,hm16⟩
 refine gG h16<|gK fun _ k18=>sG (oM 2 rfl<|oln sl_23 (aA 0 rfl) rfl<|oltN _ _ rfl<|.nl)<|?_;clear h16
 refine gcd rfl (fun hb20 hp20=> ?_) fun hb20 hp20=> ?_
 ·skip
  refine gS<|hK k18<|gK fun _ k21=>gB<|sG (oM 3 rfl<|oxN sl_23 ti_3 (aA 0 rfl) _ om9 rfl<|olI ti_3 (aA 0 rfl) om9 rfl<|oV (r_cvU Tryz.underlying3 Tryz.underlying202 rfl rfl) rfl<|oV (r_xorU (p:=hh) (q:=toU (nth x.l i)) rfl rfl rfl ⟨(by first|assumption|exact toU_lt _|omega),(by first|assumption|exact toU_lt _|omega)⟩) rfl<|oV (r_mulU (p:=hh^^^(toU (nth x.l i))) (q:=1099511628211) rfl rfl rfl) rfl<|oM 1 rfl<|.nl)<|gL<|gRn (oM 2 rfl<|oV (r_shrU (p:=(hh^^^(toU (nth x.l i)))*1099511628211%18446744073709551616) (k:=29) rfl rfl rfl (by decide)) rfl<|oV (r_xorU (p:=(hh^^^(toU (nth x.l i)))*1099511628211%18446744073709551616) (q:=((hh^^^(toU (nth x.l i)))*1099511628211%18446744073709551616)/2^29) rfl rfl rfl ⟨(by first|assumption|exact toU_lt _|omega),(by first|assumption|exact toU_lt _|omega)⟩) rfl<|oM 1 rfl<|.nl)<|nK k21<|gL<|gRn (oM 1 rfl<|oadN _ 1 om9 rfl<|oM 1 rfl<|.nl)<|nN<|fun a23 w23 h23=>x_again ⟨_, ?_,i+1,((hh^^^(toU (nth x.l i)))*1099511628211%18446744073709551616)^^^(((hh^^^(toU (nth x.l i)))*1099511628211%18446744073709551616)/2^29), ?_, ?_, ?_,h23.nf ⟨rfl,rfl,rfl,trivial⟩,rfl⟩
  · rw [hm16];first|omega|(simp only [lens9];omega)
  · omega
  · exact xor_lt64 (by omega) (by omega)
  · rw [take_succ_nth _ _ (by omega),List.foldl_append,←hh2,List.foldl_cons,List.foldl_nil,sumStep]
 refine gX<|hK k14<|sG (oM 1 rfl<|oV (r_remU (p:=hh) (q:=4096) rfl rfl rfl (by decide)) rfl<|oV (r_cvI Tryz.underlying202 Tryz.underlying3 rfl rfl (show hh%4096<9223372036854775808 from om9)) rfl<|oM 1 rfl<|.nl)<|gR<|fun a25 w25 h25=> ?_
 try simp only [Exit.then,Exit.inBlock]
 refine x_ret1 (fn:=Tryz.f107) (t:=2) rfl h25 rfl<|⟨?_,(h25.sh.sel [] rfl)⟩
 rw [show hh%4096=sumL x.l by rw [sumL,hh2,show i=x.l.length by omega,List.take_length]]
theorem less_c (x y:Ls Int) (W:World) (hx:x.At W) (hy:y.At W):
    Rets Tryz.prog 118 [x.v,y.v] W (fun v w' =>v= .bool (lessB x.l y.l)∧Sh0 W w' []):=by
 refine gen Tryz.func118 Tryz.ntmps118 (Sh0.ext2 hx hy:Sh (fun _=>False) W W [.at_ x, .at_ y]) rfl fun a10 h10=>gG h10<|sG (oM 1 rfl<|.nl)<|gK fun _ k12=>sG (oM 1 rfl<|.nl)<|gB<|fun a15 w15 h15=>x_loop (fun m a w=>∃(i:Nat),(i≤x.l.length∧i≤y.l.length)∧(∀j,j<i→nth x.l j=nth y.l j)∧St 41 (fun _=>False) W a w [(0,x.v),(1,y.v),(5, .int .i64 ((i:Nat):Int))] [.at_ x, .at_ y]∧m=x.l.length-i) ⟨_,0,(by omega),(fun j hj=>absurd hj (by omega)),h15.nf ⟨rfl,rfl,rfl,trivial⟩,rfl⟩ ?_;clear h10
 clear h15
 rintro m14 a14 w14 ⟨i,hi,hall,h14,hm14⟩
 refine gG h14<|gK fun _ k16=>sK fun _ k17=>gNl (aA 0 rfl) fun hl18=>gRn (oM 2 rfl<|oln sl_23 (aA 0 rfl) rfl<|oltN _ _ rfl<|oM 1 rfl<|.nl)<|?_;clear h14
 rcases dsp (i<x.l.length) with ⟨hb19,hp19⟩|⟨hb19,hp19⟩
 ·skip
  refine gNl (aA 1 rfl) fun hl20=>gRn (oG hb19 (r_move rfl rfl) rfl<|oG hb19 (r_move rfl rfl) rfl<|oG hb19 (r_len (s:=y) (n:=y.l.length) sl_23 rfl rfl (fun w h=>(h.at 1 rfl)) rfl) rfl<|oG hb19 (r_lssN (p:=i) (q:=y.l.length) rfl rfl rfl) rfl<|opT hb19 rfl<|.nl)<|nK k17<|gcd rfl (fun hb21 hp21=> ?_) fun hb21 hp21=> ?_
  ·skip
   refine gS<|hK k16<|gK fun _ k22=>gB<|gK fun _ k23=>rQ (by kernel_rfl) (by kernel_rfl) (oM 2 rfl<|oxN sl_23 ti_3 (aA 0 rfl) _ om9 rfl<|olI ti_3 (aA 0 rfl) om9 rfl<|oM 2 rfl<|oxN sl_23 ti_3 (aA 1 rfl) _ om9 rfl<|olI ti_3 (aA 1 rfl) om9 rfl<|oneI _ _ rfl<|.nl)<|hK k23<|gcd rfl (fun hb24 hp24=> ?_) fun hb24 hp24=> ?_
   ·skip
    refine gK fun _ k25=>rQ (by kernel_rfl) (by kernel_rfl) (oM 2 rfl<|oxN sl_23 ti_3 (aA 0 rfl) _ om9 rfl<|olI ti_3 (aA 0 rfl) om9 rfl<|oM 2 rfl<|oxN sl_23 ti_3 (aA 1 rfl) _ om9 rfl<|olI ti_3 (aA 1 rfl) om9 rfl<|oltI _ _ rfl<|oM 1 rfl<|.nl)<|hK k25<|gF [4] rfl<|gR<|fun a26 w26 h26=> ?_
    try simp only [Exit.then,Exit.inBlock]
    refine x_ret1 (fn:=Tryz.f118) (t:=4) rfl h26 rfl<|⟨?_,(h26.sh.sel [] rfl)⟩
    congr 1
    first|exact (lessB_ne i (by omega) (by omega) (fun j hj=>hall j hj) (by omega)).symm|exact (lessB_end i (by omega) (by omega) (by omega) (fun j hj=>hall j hj)).symm
   refine gS<|hK k22<|gL<|gRn (oM 1 rfl<|oadN _ 1 om9 rfl<|oM 1 rfl<|.nl)<|nN<|fun a27 w27 h27=>x_again ⟨_, ?_,i+1, ?_, ?_,h27.nf ⟨rfl,rfl,rfl,trivial⟩,rfl⟩
   · rw [hm14];first|omega|(simp only [lens9];omega)
   · omega
   · intro j hj;rcases Nat.lt_or_ge j i with h|h;exact hall j h;obtain rfl:j=i:=(by omega);omega
  refine gX<|hK k12<|sG (oM 1 rfl<|oln sl_23 (aA 0 rfl) rfl<|oM 1 rfl<|oln sl_23 (aA 1 rfl) rfl<|oltN _ _ rfl<|oM 1 rfl<|.nl)<|gR<|fun a29 w29 h29=> ?_
  try simp only [Exit.then,Exit.inBlock]
  refine x_ret1 (fn:=Tryz.f118) (t:=4) rfl h29 rfl<|⟨?_,(h29.sh.sel [] rfl)⟩
  congr 1
  first|exact (lessB_ne i (by omega) (by omega) (fun j hj=>hall j hj) (by omega)).symm|exact (lessB_end i (by omega) (by omega) (by omega) (fun j hj=>hall j hj)).symm
 refine gRn (oKs 4 hb19 rfl rfl<|opF hb19 rfl<|.nl)<|nK k17<|gcF rfl rfl<|gX<|hK k12<|sK fun _ k30=>gNl (aA 1 rfl) fun hl31=>gRn (oM 1 rfl<|oln sl_23 (aA 0 rfl) rfl<|oM 1 rfl<|oln sl_23 (aA 1 rfl) rfl<|oltN _ _ rfl<|oM 1 rfl<|.nl)<|nK k30<|gR<|fun a32 w32 h32=> ?_
 try simp only [Exit.then,Exit.inBlock]
 refine x_ret1 (fn:=Tryz.f118) (t:=4) rfl h32 rfl<|⟨?_,(h32.sh.sel [] rfl)⟩
 congr 1
 first|exact (lessB_ne i (by omega) (by omega) (fun j hj=>hall j hj) (by omega)).symm|exact (lessB_end i (by omega) (by omega) (by omega) (fun j hj=>hall j hj)).symm
theorem ahead_c (x y:OutL) (W:World) (hxw:x.words.At W) (hxp:x.prints.At W) (hyw:y.words.At W) (hyp:y.prints.At W):
    Rets Tryz.prog 111 [.agg #[.int .i64 x.st,x.words.v,x.prints.v], .agg #[.int .i64 y.st,y.words.v,y.prints.v]] W (fun v w' =>v= .bool (aheadB x.out y.out)∧Sh0 W w' []):=by
 refine gen Tryz.func111 Tryz.ntmps111 (Sh0.ext4 hxw hxp hyw hyp:Sh (fun _=>False) W W [.at_ x.words, .at_ x.prints, .at_ y.words, .at_ y.prints]) rfl fun a10 h10=>gG h10<|sK fun _ k11=>gbx rfl rfl fun b12=>gbx rfl rfl fun b13=>gRn (oM 1 rfl<|.nl)<|nK k11<|gK fun _ k14=>sG (ofB fl_39_0 rfl<|olB 1 ti_3 rfl rfl<|ofB fl_39_0 rfl<|olB 0 ti_3 rfl rfl<|oneI _ _ rfl<|.nl)<|?_;clear h10
 refine gcd rfl (fun hb16 hp16=> ?_) fun hb16 hp16=> ?_
 ·skip
  refine sG (ofB fl_39_0 rfl<|olB 1 ti_3 rfl rfl<|ofB fl_39_0 rfl<|olB 0 ti_3 rfl rfl<|oltI _ _ rfl<|oM 1 rfl<|.nl)<|gR<|fun a18 w18 h18=> ?_
  try simp only [Exit.then,Exit.inBlock]
  refine x_ret1 (fn:=Tryz.f111) (t:=4) rfl h18 rfl<|⟨?_,(h18.sh.sel [] rfl)⟩
  congr 1
  unfold aheadB OutL.out
  first|(rw [if_neg (by assumption)];done)|(rw [if_pos (by omega),if_neg (by assumption)];done)|(rw [if_pos (by omega),if_pos (by assumption)];done)|(simp only [];rw [if_neg (by assumption)];done)|(simp only [];rw [if_pos (by omega),if_neg (by assumption)];done)|(simp only [];rw [if_pos (by omega),if_pos (by assumption)])
 refine gS<|hK k14<|sK fun _ k19=>gRn (ofB fl_39_1 rfl<|olB 1 ti_23 rfl rfl<|ofB fl_39_1 rfl<|olB 0 ti_23 rfl rfl<|.nl)<|gP (fun _ _ h_=>xCl h_ bd_74 rfl (ints_c x.words y.words _ (h_.sh.at 2 rfl) (h_.sh.at 4 rfl))) rfl<|gRn (oM 1 rfl<|.nl)<|nK k19<|gK fun _ k21=>sG (oM 1 rfl<|ont rfl<|.nl)<|gCb rfl (fun hb23=> ?_) fun hb23=> ?_
 ·have hp23:¬(x.words.l=y.words.l):=by simpa using hb23
  refine sK fun _ k24=>gRn (ofB fl_39_1 rfl<|olB 1 ti_23 rfl rfl<|ofB fl_39_1 rfl<|olB 0 ti_23 rfl rfl<|.nl)<|gP (fun _ _ h_=>xCl h_ bd_118 rfl (less_c x.words y.words _ (h_.sh.at 2 rfl) (h_.sh.at 4 rfl))) rfl<|gRn (oM 1 rfl<|.nl)<|nK k24<|gR<|fun a26 w26 h26=> ?_
  try simp only [Exit.then,Exit.inBlock]
  refine x_ret1 (fn:=Tryz.f111) (t:=4) rfl h26 rfl<|⟨?_,(h26.sh.sel [] rfl)⟩
  congr 1
  unfold aheadB OutL.out
  first|(rw [if_neg (by assumption)];done)|(rw [if_pos (by omega),if_neg (by assumption)];done)|(rw [if_pos (by omega),if_pos (by assumption)];done)|(simp only [];rw [if_neg (by assumption)];done)|(simp only [];rw [if_pos (by omega),if_neg (by assumption)];done)|(simp only [];rw [if_pos (by omega),if_pos (by assumption)])
 have hp23:x.words.l=y.words.l:=by simpa using hb23
 refine gS<|hK k21<|sK fun _ k27=>gRn (ofB fl_39_2 rfl<|olB 1 ti_23 rfl rfl<|ofB fl_39_2 rfl<|olB 0 ti_23 rfl rfl<|.nl)<|gP (fun _ _ h_=>xCl h_ bd_118 rfl (less_c x.prints y.prints _ (h_.sh.at 3 rfl) (h_.sh.at 5 rfl))) rfl<|gRn (oM 1 rfl<|.nl)<|nK k27<|gR<|fun a29 w29 h29=> ?_
 try simp only [Exit.then,Exit.inBlock]
 refine x_ret1 (fn:=Tryz.f111) (t:=4) rfl h29 rfl<|⟨?_,(h29.sh.sel [] rfl)⟩
 congr 1
 unfold aheadB OutL.out
 first|(rw [if_neg (by assumption)];done)|(rw [if_pos (by omega),if_neg (by assumption)];done)|(rw [if_pos (by omega),if_pos (by assumption)];done)|(simp only [];rw [if_neg (by assumption)];done)|(simp only [];rw [if_pos (by omega),if_neg (by assumption)];done)|(simp only [];rw [if_pos (by omega),if_pos (by assumption)])
theorem sameO_c (x y:Ls OutL) (W:World) (hx:x.At W) (hy:y.At W):
    Rets Tryz.prog 28 [x.v,y.v] W (fun v w' =>v= .bool (decide (x.l.map OutL.out=y.l.map OutL.out))∧Sh0 W w' []):=by
 refine gen Tryz.func28 Tryz.ntmps28 (Sh0.ext2 hx hy:Sh (fun _=>False) W W [.at_ x, .at_ y]) rfl fun a10 h10=>gG h10<|sG (oM 1 rfl<|.nl)<|gK fun _ k12=>sK fun _ k13=>gNl (aA 0 rfl) fun hl14=>gNl (aA 1 rfl) fun hl15=>gRn (oM 1 rfl<|oln sl_35 (aA 0 rfl) rfl<|oM 1 rfl<|oln sl_35 (aA 1 rfl) rfl<|oneN _ _ rfl<|.nl)<|nK k13<|?_;clear h10
 refine gcd rfl (fun hb16 hp16=> ?_) fun hb16 hp16=> ?_
 ·skip
  refine sG (oM 1 rfl<|.nl)<|gR<|fun a18 w18 h18=> ?_
  try simp only [Exit.then,Exit.inBlock]
  refine x_ret1 (fn:=Tryz.f28) (t:=4) rfl h18 rfl<|⟨?_,(h18.sh.sel [] rfl)⟩
  congr 1
  first|(refine (decide_eq_true (sameOut (by omega) fun j hj=>hall j (by omega))).symm;done)|(refine (decide_eq_false fun e=> ?_).symm;have e1:=congrArg List.length e;simp only [List.length_map] at e1;first|omega|(have e2:=sameAt e i (by omega);have e3:=congrArg Outc.st e2;have e4:=congrArg Outc.words e2;have e5:=congrArg Outc.prints e2;simp only [OutL.out] at e3 e4 e5;first|omega|(exact absurd e4 (by assumption))|(exact absurd e5 (by assumption))))
 refine gS<|hK k12<|gK fun _ k19=>sG (oM 1 rfl<|.nl)<|gB<|fun a22 w22 h22=>x_loop (fun m a w=>∃(i:Nat),(i≤x.l.length)∧(∀j,j<i→(nth x.l j).out=(nth y.l j).out)∧St 60 (fun _=>False) W a w [(0,x.v),(1,y.v),(5, .int .i64 ((i:Nat):Int))] [.at_ x, .at_ y]∧m=x.l.length-i) ⟨_,0,(by omega),(fun j hj=>absurd hj (by omega)),h22.nf ⟨rfl,rfl,rfl,trivial⟩,rfl⟩ ?_
 clear h22
 rintro m21 a21 w21 ⟨i,hi,hall,h21,hm21⟩
 refine gG h21<|gK fun _ k23=>sG (oM 2 rfl<|oln sl_35 (aA 0 rfl) rfl<|oltN _ _ rfl<|.nl)<|?_;clear h21
 refine gcd rfl (fun hb25 hp25=> ?_) fun hb25 hp25=> ?_
 ·skip
  refine gS<|hK k23<|gK fun _ k26=>gB<|gK fun _ k27=>fun a28 w28 h28=>x_quiet (by kernel_rfl) (by kernel_rfl) h28 fun _ z29=>qQ h28.fr<|qRn (oM 2 rfl<|oxN sl_35 ti_39 (aA 0 rfl) _ om9 rfl<|ofE fl_39_1 rfl<|olE (((nth x.l i).words).v) ti_23 (aA 0 rfl) om9 rfl<|oM 2 rfl<|oxN sl_35 ti_39 (aA 1 rfl) _ om9 rfl<|ofE fl_39_1 rfl<|olE (((nth y.l i).words).v) ti_23 (aA 1 rfl) om9 rfl<|.nl)<|qP bd_74 rfl (fun w h=>(ints_c ((nth x.l i).words) ((nth y.l i).words) _ ((h.at 0 rfl).inner i (show i<x.l.length from (by omega))).1 ((h.at 1 rfl).inner i (show i<y.l.length from (by omega))).1))<|qRn (oM 1 rfl<|.nl)<|qN z29<|hK k27<|gK fun _ k30=>fun a31 w31 h31=>x_quiet (by kernel_rfl) (by kernel_rfl) h31 fun _ z32=>qQ h31.fr<|qRn (oM 2 rfl<|oxN sl_35 ti_39 (aA 0 rfl) _ om9 rfl<|ofE fl_39_2 rfl<|olE (((nth x.l i).prints).v) ti_23 (aA 0 rfl) om9 rfl<|oM 2 rfl<|oxN sl_35 ti_39 (aA 1 rfl) _ om9 rfl<|ofE fl_39_2 rfl<|olE (((nth y.l i).prints).v) ti_23 (aA 1 rfl) om9 rfl<|.nl)<|qP bd_74 rfl (fun w h=>(ints_c ((nth x.l i).prints) ((nth y.l i).prints) _ ((h.at 0 rfl).inner i (show i<x.l.length from (by omega))).2 ((h.at 1 rfl).inner i (show i<y.l.length from (by omega))).2))<|qRn (oM 1 rfl<|.nl)<|qN z32<|hK k30<|gF [0,1,5,6,7] rfl<|gK fun _ k33=>fun a34 w34 h34=>x_quiet (by kernel_rfl) (by kernel_rfl) h34 fun _ z35=>qQ h34.fr<|qRn (oM 2 rfl<|oxN sl_35 ti_39 (aA 0 rfl) _ om9 rfl<|ofE fl_39_0 rfl<|olI ti_3 (aA 0 rfl) om9 rfl<|oM 2 rfl<|oxN sl_35 ti_39 (aA 1 rfl) _ om9 rfl<|ofE fl_39_0 rfl<|olI ti_3 (aA 1 rfl) om9 rfl<|oneI _ _ rfl<|oM 1 rfl<|.nl)<|?_;clear h28 h31
  rcases dsp ((nth x.l i).st≠(nth y.l i).st) with ⟨hb36,hp36⟩|⟨hb36,hp36⟩
  ·skip
   refine qRn (oKs 2 hb36 rfl rfl<|opT hb36 rfl<|oM 1 rfl<|oKs 2 rfl rfl rfl<|opT rfl rfl<|.nl)<|qN z35<|hK k33<|gcT rfl rfl<|sG (oM 1 rfl<|.nl)<|gF [4] rfl<|gR<|fun a40 w40 h40=> ?_;clear h34
   try simp only [Exit.then,Exit.inBlock]
   refine x_ret1 (fn:=Tryz.f28) (t:=4) rfl h40 rfl<|⟨?_,(h40.sh.sel [] rfl)⟩
   congr 1
   first|(refine (decide_eq_true (sameOut (by omega) fun j hj=>hall j (by omega))).symm;done)|(refine (decide_eq_false fun e=> ?_).symm;have e1:=congrArg List.length e;simp only [List.length_map] at e1;first|omega|(have e2:=sameAt e i (by omega);have e3:=congrArg Outc.st e2;have e4:=congrArg Outc.words e2;have e5:=congrArg Outc.prints e2;simp only [OutL.out] at e3 e4 e5;first|omega|(exact absurd e4 (by assumption))|(exact absurd e5 (by assumption))))
  refine qRn (oG hb36 (r_move rfl rfl) rfl<|oG hb36 (r_not rfl rfl) rfl<|opF hb36 rfl<|oM 1 rfl<|.nl)<|?_
  rcases Bool.eq_false_or_eq_true (!(decide (((nth x.l i).words).l=((nth y.l i).words).l))) with hb43|hb43
  ·have hp43:¬(((nth x.l i).words).l=((nth y.l i).words).l):=by simpa using hb43
   refine qRn (oKs 2 hb43 rfl rfl<|opT hb43 rfl<|.nl)<|qN z35<|hK k33<|gcT rfl rfl<|sG (oM 1 rfl<|.nl)<|gF [4] rfl<|gR<|fun a46 w46 h46=> ?_;clear h34
   try simp only [Exit.then,Exit.inBlock]
   refine x_ret1 (fn:=Tryz.f28) (t:=4) rfl h46 rfl<|⟨?_,(h46.sh.sel [] rfl)⟩
   congr 1
   first|(refine (decide_eq_true (sameOut (by omega) fun j hj=>hall j (by omega))).symm;done)|(refine (decide_eq_false fun e=> ?_).symm;have e1:=congrArg List.length e;simp only [List.length_map] at e1;first|omega|(have e2:=sameAt e i (by omega);have e3:=congrArg Outc.st e2;have e4:=congrArg Outc.words e2;have e5:=congrArg Outc.prints e2;simp only [OutL.out] at e3 e4 e5;first|omega|(exact absurd e4 (by assumption))|(exact absurd e5 (by assumption))))
  have hp43:((nth x.l i).words).l=((nth y.l i).words).l:=by simpa using hb43
  refine qRn (oG hb43 (r_move rfl rfl) rfl<|oG hb43 (r_not rfl rfl) rfl<|opF hb43 rfl<|.nl)<|qN z35<|hK k33<|?_;clear h34
  refine gCb rfl (fun hb49=> ?_) fun hb49=> ?_
  ·have hp49:¬(((nth x.l i).prints).l=((nth y.l i).prints).l):=by simpa using hb49
   refine sG (oM 1 rfl<|.nl)<|gF [4] rfl<|gR<|fun a51 w51 h51=> ?_
   try simp only [Exit.then,Exit.inBlock]
   refine x_ret1 (fn:=Tryz.f28) (t:=4) rfl h51 rfl<|⟨?_,(h51.sh.sel [] rfl)⟩
   congr 1
   first|(refine (decide_eq_true (sameOut (by omega) fun j hj=>hall j (by omega))).symm;done)|(refine (decide_eq_false fun e=> ?_).symm;have e1:=congrArg List.length e;simp only [List.length_map] at e1;first|omega|(have e2:=sameAt e i (by omega);have e3:=congrArg Outc.st e2;have e4:=congrArg Outc.words e2;have e5:=congrArg Outc.prints e2;simp only [OutL.out] at e3 e4 e5;first|omega|(exact absurd e4 (by assumption))|(exact absurd e5 (by assumption))))
  have hp49:((nth x.l i).prints).l=((nth y.l i).prints).l:=by simpa using hb49
  refine gS<|hK k26<|gL<|gRn (oM 1 rfl<|oadN _ 1 om9 rfl<|oM 1 rfl<|.nl)<|nN<|fun a52 w52 h52=>x_again ⟨_, ?_,i+1, ?_, ?_,h52.nf ⟨rfl,rfl,rfl,trivial⟩,rfl⟩
  · rw [hm21];first|omega|(simp only [lens9];omega)
  · omega
  · intro j hj;rcases Nat.lt_or_ge j i with h|h;exact hall j h;obtain rfl:j=i:=(by omega);unfold OutL.out;congr 1<;>first|assumption|omega
 refine gX<|hK k19<|sG (oM 1 rfl<|.nl)<|gR<|fun a54 w54 h54=> ?_
 try simp only [Exit.then,Exit.inBlock]
 refine x_ret1 (fn:=Tryz.f28) (t:=4) rfl h54 rfl<|⟨?_,(h54.sh.sel [] rfl)⟩
 congr 1
 first|(refine (decide_eq_true (sameOut (by omega) fun j hj=>hall j (by omega))).symm;done)|(refine (decide_eq_false fun e=> ?_).symm;have e1:=congrArg List.length e;simp only [List.length_map] at e1;first|omega|(have e2:=sameAt e i (by omega);have e3:=congrArg Outc.st e2;have e4:=congrArg Outc.words e2;have e5:=congrArg Outc.prints e2;simp only [OutL.out] at e3 e4 e5;first|omega|(exact absurd e4 (by assumption))|(exact absurd e5 (by assumption))))
end Go.Proofs.YtmjkobhkkjgplaaGreatDoor
end
namespace Go.Proofs.YtmjkobhkkjgplaaGreatDoor
open Go.RowKit
set_option linter.unusedSimpArgs false
set_option linter.unusedVariables false
set_option maxRecDepth 100000
set_option maxHeartbeats 8000000
def LastSum (ks:List (List Int)) (n h:Nat) (r:Int):Prop:=(r= -1∧∀j,j<n→sumL (nth ks j)≠h)∨∃k:Nat,r=k∧k<n∧sumL (nth ks k)=h∧∀j,k<j→j<n→sumL (nth ks j)≠h
theorem LastSum.lt {ks:List (List Int)} {n h:Nat} {r:Int} (hl:LastSum ks n h r): -1≤r∧r<n:=by
 rcases hl with ⟨h,_⟩|⟨k,h,h2,_⟩<;>omega
theorem LastSum.at {ks:List (List Int)} {n h:Nat} {r:Int} (hl:LastSum ks n h r) (h0:0≤r):sumL (nth ks r.toNat)=h∧∀j,r.toNat<j→j<n→sumL (nth ks j)≠h:=by
 rcases hl with ⟨h,_⟩|⟨k,rfl,h2,h3,h4⟩
 ·omega
 ·exact ⟨by simpa using h3,fun j hj=>h4 j (by simpa using hj)⟩
theorem LastSum.none {ks:List (List Int)} {n h:Nat} {r:Int} (hl:LastSum ks n h r) (h0:¬0≤r):∀j,j<n→sumL (nth ks j)≠h:=by
 rcases hl with ⟨_,h⟩|⟨k,rfl,_⟩
 ·exact h
 ·omega
structure HeadsOK (ks:List (List Int)) (heads before:List Int):Prop where
 hl:heads.length=4096
 bl:before.length=ks.length
 hd:∀h,h<4096→LastSum ks ks.length h (nth heads h)
 bf:∀i,i<ks.length→LastSum ks i (sumL (nth ks i)) (nth before i)
theorem nth_app0 {α:Type} [Inhabited α] (l m:List α) (k:Nat):nth (l++m) k=if k<l.length then nth l k else nth m (k-l.length):=by
 simp only [nth,List.getD]
 by_cases h:k<l.length
 ·rw [List.getElem?_append_left h,if_pos h]
 ·rw [List.getElem?_append_right (by omega),if_neg h]
theorem LastSum.more {ks:List (List Int)} {n h:Nat} {r:Int} (x:List Int) (hl:LastSum ks n h r) (hn:n≤ks.length):LastSum (ks++ [x]) n h r:=by
 have e:∀j,j<n→nth (ks++ [x]) j=nth ks j:=fun j hj=>by rw [nth_app0,if_pos (by omega)]
 rcases hl with ⟨h1,h2⟩|⟨k,h1,h2,h3,h4⟩
 ·exact .inl ⟨h1,fun j hj=>by rw [e j hj];exact h2 j hj⟩
 ·exact .inr ⟨k,h1,h2,by rw [e k h2];exact h3,fun j hj hj2=>by rw [e j hj2];exact h4 j hj hj2⟩
theorem HeadsOK.put {ks:List (List Int)} {heads before:List Int} (h:HeadsOK ks heads before) (x:List Int):HeadsOK (ks++ [x]) (heads.set (sumL x) ((ks.length:Nat):Int)) (before++ [nth heads (sumL x)]):=by
 have hx:nth (ks++ [x]) ks.length=x:=by rw [nth_app0,if_neg (by omega)];simp [nth]
 refine ⟨by simpa using h.hl,by simp [h.bl],fun s hs=> ?_,fun i hi=> ?_⟩
 ·rw [nth_set]
  by_cases e:sumL x=s
  ·rw [if_pos ⟨e,by rw [h.hl];exact sumL_lt x⟩]
   exact .inr ⟨ks.length,rfl,by simp,by rw [hx];exact e,fun j hj hj2=>by simp at hj2;omega⟩
  ·rw [if_neg (fun hh=>e hh.1)]
   rcases h.hd s hs with ⟨h1,h2⟩|⟨k,h1,h2,h3,h4⟩
   ·refine .inl ⟨h1,fun j hj=> ?_⟩
    simp at hj
    rcases Nat.lt_or_ge j ks.length with hlt|hge
    ·rw [nth_app0,if_pos hlt];exact h2 j hlt
    ·obtain rfl:j=ks.length:=by omega
     rw [hx];exact e
   ·refine .inr ⟨k,h1,by simp;omega,by rw [nth_app0,if_pos h2];exact h3,fun j hj hj2=> ?_⟩
    simp at hj2
    rcases Nat.lt_or_ge j ks.length with hlt|hge
    ·rw [nth_app0,if_pos hlt];exact h4 j hj hlt
    ·obtain rfl:j=ks.length:=by omega
     rw [hx];exact e
 ·simp at hi
  rcases Nat.lt_or_ge i ks.length with hlt|hge
  ·rw [nth_app0 ks,if_pos hlt,nth_app0 before,if_pos (by rw [h.bl];exact hlt)]
   exact (h.bf i hlt).more x (by omega)
  ·obtain rfl:i=ks.length:=by omega
   rw [hx,nth_app0 before,if_neg (by rw [h.bl];omega),h.bl]
   have:=(h.hd (sumL x) (sumL_lt x)).more x (Nat.le_refl _)
   simpa [nth] using this
def PutRel (o:OutL) (l l' :List OutL):Prop:=((∃i,i<l.length∧aheadB o.out (nth l i).out=false∧aheadB (nth l i).out o.out=false)∧l' =l)∨
 ∃k,k≤l.length∧(∀j,j<k→aheadB o.out (nth l j).out=false∧aheadB (nth l j).out o.out=true)∧(k<l.length→aheadB o.out (nth l k).out=true)∧l' =l.take k++o::l.drop k
def PutInv (o:OutL) (l:List OutL) (i:Nat) (dn:Bool) (ol:List OutL):Prop:=(dn=false∧ol=l.take i∧∀j,j<i→aheadB o.out (nth l j).out=false∧aheadB (nth l j).out o.out=true)∨
 (dn=true∧∃k,k<i∧k<l.length∧(∀j,j<k→aheadB o.out (nth l j).out=false∧aheadB (nth l j).out o.out=true)∧aheadB o.out (nth l k).out=true∧ol=l.take k++o::(l.drop k).take (i-k))
theorem PutInv.one {o:OutL} {l ol:List OutL} {i:Nat} (h:PutInv o l i false ol) (hi:i<l.length) (h1:aheadB o.out (nth l i).out=true):PutInv o l (i+1) true ((ol++ [o])++ [nth l i]):=by
 rcases h with ⟨_,h2,h3⟩|⟨h,_⟩
 ·refine .inr ⟨rfl,i,by omega,hi,h3,h1, ?_⟩
  have e1:(l.drop i).take 1= [nth l i]:=by rw [List.drop_eq_getElem_cons hi,nth_lt l i hi];rfl
  rw [h2,show i+1-i=1 by omega,e1]
  simp
 ·cases h
theorem PutInv.two {o:OutL} {l ol:List OutL} {i:Nat} {dn:Bool} (h:PutInv o l i dn ol) (hi:i<l.length) (h1:dn=true∨(aheadB o.out (nth l i).out=false∧aheadB (nth l i).out o.out=true)):PutInv o l (i+1) dn (ol++ [nth l i]):=by
 rcases h with ⟨h,h2,h3⟩|⟨h,k,h2,h3,h4,h5,h6⟩
 ·refine .inl ⟨h,by rw [h2,take_succ_nth _ _ hi],fun j hj=> ?_⟩
  rcases Nat.lt_or_ge j i with hlt|hge
  ·exact h3 j hlt
  ·obtain rfl:j=i:=by omega
   rcases h1 with h1|h1
   ·rw [h] at h1;cases h1
   ·exact h1
 ·refine .inr ⟨h,k,by omega,h3,h4,h5, ?_⟩
  rw [h6,show i+1-k=(i-k)+1 by omega,take_succ_nth _ _ (by simp;omega)]
  have:nth (l.drop k) (i-k)=nth l i:=by simp only [nth,List.getD,List.getElem?_drop,show k+(i-k)=i by omega]
  rw [this];simp
theorem PutInv.rel {o:OutL} {l ol:List OutL} {i:Nat} (h:PutInv o l i true ol) (hi:i=l.length):PutRel o l ol:=by
 rcases h with ⟨h,_⟩|⟨_,k,h2,h3,h4,h5,h6⟩
 ·cases h
 ·exact .inr ⟨k,by omega,h4,fun _=>h5,by rw [h6,List.take_of_length_le (l:=l.drop k) (by rw [List.length_drop];omega)]⟩
theorem PutInv.rel0 {o:OutL} {l ol:List OutL} {i:Nat} (h:PutInv o l i false ol) (hi:i=l.length):PutRel o l (ol++ [o]):=by
 rcases h with ⟨_,h2,h3⟩|⟨h,_⟩
 ·subst hi
  exact .inr ⟨l.length,Nat.le_refl _,h3,fun h=>absurd h (by omega),by rw [h2];simp⟩
 ·cases h
theorem PutInv.len {o:OutL} {l ol:List OutL} {i:Nat} {dn:Bool} (h:PutInv o l i dn ol) (hi:i≤l.length):ol.length≤i+1:=by
 rcases h with ⟨_,h2,_⟩|⟨_,k,h2,h3,_,_,h6⟩
 ·rw [h2];simp;omega
 ·rw [h6];simp;omega
def KeyRel (L:List Int) (x:SD) (states states' :List SD) (keys keys' :List (Ls Int)) (heads before heads' before' :List Int) (full full' :Bool):Prop:=
 ((∃j,j<keys.length∧(nth keys j).l=L)∧states' =states∧keys'.map (·.l)=keys.map (·.l)∧HeadsOK (keys'.map (·.l)) heads' before' ∧full' =full)∨
 ((∀j,j<keys.length→(nth keys j).l≠L)∧states' =states++ [x]∧keys'.map (·.l)=keys.map (·.l)++ [L]∧HeadsOK (keys'.map (·.l)) heads' before' ∧full' =(full||decide (4000<states.length+1)))
theorem put_c (K:Nat→Prop) (gs:Nat) (x:SD) (states:Ls SD) (keys:Ls (Ls Int)) (heads before:Ls Int) (ev:Value) (full:Bool) (cv pw:Value) (locks nregs mode:Int) (W:World) (hS:Sh K W W [.blk gs 52 [states.v,keys.v,heads.v,before.v,ev, .bool full], .own 103 states, .deep 23 keys, .own 3 heads, .own 3 before, .rd1 x]) (hok:HeadsOK (keys.l.map (·.l)) heads.l before.l) (hlen:states.l.length=keys.l.length) (hkl:keys.l.length≤5000) (hhd:x.hd= [cv,pw, .int .i64 locks, .int .i64 nregs, .int .i64 mode]) (hE:x.E=111) (hcl:x.thr.l.length≤4) (hrg:∀i,i<x.thr.l.length→(nth x.thr.l i).regs.l.length≤100000) (hwl:∀i,i<x.thr.l.length→(nth x.thr.l i).wait.l.length≤3) (hwn:x.words.l.length≤100000∧x.owner.l.length≤100000∧x.prints.l.length≤100000000):
    Rets Tryz.prog 68 [.pointer (some ⟨gs,0,none⟩), .pointer (some ⟨x.g,0,none⟩)] W (fun v w' =>v= .tuple #[]∧∃(states' :Ls SD) (keys' :Ls (Ls Int)) (heads' before' :Ls Int) (full' :Bool),KeyRel (numbersL (x.thr.l.map ThL.th) x.words.l x.owner.l x.prints.l) x states.l states'.l keys.l keys'.l heads.l before.l heads'.l before'.l full full' ∧Sh K W w' [.blk gs 52 [states'.v,keys'.v,heads'.v,before'.v,ev, .bool full'], .own 103 states', .deep 23 keys', .own 3 heads', .own 3 before', .rd1 x]):=by
 have hbl:before.l.length=keys.l.length:=by simpa using hok.bl
 have hhl:heads.l.length=4096:=hok.hl
 have hslt:=fun l=>sumL_lt l
 refine gen Tryz.func68 Tryz.ntmps68 hS rfl fun a10 h10=>gG h10<|sK fun _ k11=>gRn (oM 1 rfl<|.nl)<|fun a13 w13 h13=>wl_ex (x_call h13 bd_106 rfl rfl rfl rfl rfl (numbers_c x.g x.thr x.words x.owner x.prints _ _ _ _ _ _ _ (by have h9:=(show Enc.inner x _ from (h13.sh.ok _ (List.mem_of_getElem? (i:=5) rfl))).1;rw [hE,SD.cells,hhd] at h9;exact h9) (show Enc.inner x _ from (h13.sh.ok _ (List.mem_of_getElem? (i:=5) rfl))).2.1 (show Enc.inner x _ from (h13.sh.ok _ (List.mem_of_getElem? (i:=5) rfl))).2.2.1 (show Enc.inner x _ from (h13.sh.ok _ (List.mem_of_getElem? (i:=5) rfl))).2.2.2.1 (show Enc.inner x _ from (h13.sh.ok _ (List.mem_of_getElem? (i:=5) rfl))).2.2.2.2 hcl hrg hwl hwn)) (wanted_none rfl _) ?_;clear h10
 rintro a14 w14 ⟨_,⟨s14,rfl,hml14,hs14⟩,hf14⟩
 have hml:=hml14
 have h14:St _ K W a14 w14 _ _:=⟨hf14,h13.sh.callI hs14⟩
 clear hf14 hs14
 clear h13
 refine gG h14<|gRn (oM 1 rfl<|.nl)<|nK k11<|sK fun _ k15=>gRn (oM 1 rfl<|.nl)<|gP (fun _ _ h_=>xCl h_ bd_107 rfl (sum_c s14 _ (h_.sh.own 0 rfl))) rfl<|gRn (oM 1 rfl<|.nl)<|nK k15<|?_;clear h14
 have hsl:=sumL_lt s14.l
 refine gK fun _ k17=>sK fun _ k18=>gNl (aO 4 rfl) fun hl19=>gRn (oM 1 rfl<|onfl 1 fl_52_2 ti_23 rfl rfl<|oM 1 rfl<|oxN sl_23 ti_3 (aO 4 rfl) _ om9 rfl<|olI ti_3 (aO 4 rfl) om9 rfl<|oM 1 rfl<|.nl)<|nK k18<|gB<|fun a21 w21 h21=>x_loop (fun m a w=>∃(i:Int) (mm:Nat),(LastSum (keys.l.map (·.l)) mm (sumL s14.l) i)∧(mm≤keys.l.length)∧(∀j,mm≤j→j<keys.l.length→(nth keys.l j).l≠s14.l)∧St 100 K W a w [(0, .pointer (some ⟨gs,0,none⟩)),(1, .pointer (some ⟨x.g,0,none⟩)),(4,s14.v),(5, .int .i64 ((sumL s14.l:Nat):Int)),(6, .int .i64 i)] [.own 3 s14, .blk gs 52 [states.v,keys.v,heads.v,before.v,ev, .bool full], .own 103 states, .deep 23 keys, .own 3 heads, .own 3 before, .rd1 x]∧m=(i+1).toNat) ⟨_,_,keys.l.length,(by have:=hok.hd _ (sumL_lt s14.l);simpa using this),(Nat.le_refl _),(fun j hj hj2=>absurd hj2 (by omega)),h21.nf ⟨rfl,rfl,rfl,rfl,rfl,trivial⟩,rfl⟩ ?_
 clear h21
 rintro m20 a20 w20 ⟨i,mm,hls,hm,hno,h20,hm20⟩
 have hlt:=hls.lt
 refine gG h20<|gK fun _ k22=>sG (oM 1 rfl<|ogeI _ _ rfl<|.nl)<|?_;clear h20
 refine gcd rfl (fun hb24 hp24=> ?_) fun hb24 hp24=> ?_
 ·skip
  refine gS<|hK k22<|gK fun _ k25=>gB<|sK fun _ k26=>gNl (aD 3 rfl) fun hl27=>gRn (oM 1 rfl<|onfl 1 fl_52_1 ti_50 rfl rfl<|oM 1 rfl<|oxI sl_50 ti_23 (aD 3 rfl) om9 rfl<|olE ((nth keys.l i.toNat).v) ti_23 (aD 3 rfl) om9 rfl<|oM 1 rfl<|.nl)<|gP (fun _ _ h_=>xCl h_ bd_74 rfl (ints_c (nth keys.l i.toNat) s14 _ ((h_.sh.deep 3 rfl).nth i.toNat (show i.toNat<keys.l.length from (by omega))) (h_.sh.own 0 rfl))) rfl<|gRn (oM 1 rfl<|.nl)<|nK k26<|sG (oM 1 rfl<|.nl)<|gcd rfl (fun hb30 hp30=> ?_) fun hb30 hp30=> ?_
  ·skip
   refine gR<|fun a31 w31 h31=> ?_
   try simp only [Exit.then,Exit.inBlock]
   refine x_ret0 (fn:=Tryz.f68) rfl h31<|⟨rfl,states,keys,heads,before,full, ?_,(h31.sh.sel [1,2,3,4,5,6] rfl)⟩
   exact .inl ⟨⟨i.toNat,by omega,by rw [←hml];assumption⟩,rfl,rfl,hok,rfl⟩
  refine gS<|hK k25<|gL<|gNl (aO 5 rfl) fun hl32=>gRn (oM 1 rfl<|onfl 1 fl_52_3 ti_23 rfl rfl<|oM 1 rfl<|oxI sl_23 ti_3 (aO 5 rfl) om9 rfl<|olI ti_3 (aO 5 rfl) om9 rfl<|oM 1 rfl<|.nl)<|nN<|fun a33 w33 h33=>x_again ⟨_, ?_,_,i.toNat, ?_, ?_, ?_,h33.nf ⟨rfl,rfl,rfl,rfl,rfl,trivial⟩,rfl⟩
  · rw [hm20];have h9:=(hok.bf i.toNat (by simp;omega)).lt;omega
  · have h9:=hok.bf i.toNat (by simp;omega);rw [(hls.at (by omega)).1] at h9;exact h9
  · omega
  · intro j hj hj2;rcases Nat.lt_or_ge j mm with h9|h9;(rcases Nat.lt_or_ge i.toNat j with h8|h8;(intro e9;have h7:=(hls.at (by omega)).2 j h8 h9;rw [nth_map' _ _ _ hj2,e9] at h7;exact h7 rfl);(obtain rfl:j=i.toNat:=(by omega);assumption));exact hno j h9 hj2
 refine gX<|hK k17<|gK fun _ k34=>rC [12,13,16] (by kernel_rfl) (by kernel_rfl) rfl<|pR [0,1,2,3,4,5,6,7,8,9,10,11] rfl (by kernel_rfl) (oM 2 rfl<|onfl 1 fl_52_3 ti_23 rfl rfl<|oM 1 rfl<|onfl 1 fl_52_2 ti_23 rfl rfl<|oM 1 rfl<|oxN sl_23 ti_3 (aO 4 rfl) _ om9 rfl<|olI ti_3 (aO 4 rfl) om9 rfl<|.nl) rfl<|pX (fun _ _ h_=>x_lit (n:=1) (cs:= [.int .i64 (nth heads.l (sumL s14.l))]) ([nth heads.l (sumL s14.l)]:List Int) h_ sl_23 ti_3 rfl rfl rfl (by decide) rfl (by kernel_rfl) rfl (fun q hq w h=>Flat.inner _ _) (fun q hq b hb=>(Flat.on _ _ hb).elim) rfl rfl) rfl fun v35=>pR [0,1,2,3,4] rfl (by kernel_rfl) (oM 2 rfl<|onfl 2 fl_52_3 ti_23 rfl rfl<|.nl) rfl<|pX (fun _ _ h_=>x_app (r:=6) (rm:=0) (s:=before) (m:=(⟨v35, [nth heads.l (sumL s14.l)]⟩:Ls Int)) h_ sl_23 ti_3 rfl rfl rfl rfl rfl rfl rfl (fun w h=>(h.own 0 rfl)) (fun b hb=>own_on (h_.sh.ok _ (List.mem_of_getElem? (i:=0) rfl)) hb) (fun q hq b hb=>⟨q,hq,hb⟩) rfl rfl rfl inferInstance (show (before.l.length+([nth heads.l (sumL s14.l)]).length)*8≤140737488355328∧before.l.length+([nth heads.l (sumL s14.l)]).length≤140737488355328 from om9) rfl rfl) rfl fun v36=>pR [0,14,15] rfl (by kernel_rfl) (oM 1 rfl<|onf fl_52_3 rfl<|.nl) rfl<|pS (fun _ _ h_=>x_stb (i:=2) (vs:= [v36]) (cs' := [states.v,keys.v,heads.v,v36,ev, .bool full]) h_ ti_23 rfl rfl rfl rfl rfl (cells_oneL ((h_.sh.own 6 rfl)).one) rfl (allOne_cons ((h_.sh.own 6 rfl)).one allOne_nil) (Nat.le_of_ble_eq_true rfl) rfl) rfl<|pE [] rfl (by kernel_rfl) (.nl) rfl<|hK k34<|gK fun _ k38=>gNl (aO 3 rfl) fun hl39=>rT 11 [] (by kernel_rfl) (by kernel_rfl) (oM 1 rfl<|onfl 2 fl_52_2 ti_23 rfl rfl<|oM 2 rfl<|onfl 2 fl_52_0 ti_49 rfl rfl<|oln sl_49 (aO 3 rfl) rfl<|oxN sl_23 ti_3 (aO 5 rfl) _ om9 rfl<|.nl)<|gte 5 (((states.l.length:Nat):Int):Int) ti_3 om9 rfl rfl<|nK k38<|gF [0,1,4] rfl<|sK fun _ k41=>gRn (oM 2 rfl<|onfl 2 fl_52_0 ti_49 rfl rfl<|oM 1 rfl<|.nl)<|gE1 (fun _ _ h_=>x_lit (n:=1) (cs:= [.pointer (some ⟨x.g,0,none⟩)]) ([x]:List SD) h_ sl_49 ti_103 rfl rfl rfl (by decide) rfl (by kernel_rfl) rfl (fun q hq w h=>by obtain rfl:q=0:=(by simpa using hq);exact h.ok _ (List.mem_of_getElem? (i:=7) rfl)) (fun q hq b hb=>by obtain rfl:q=0:=(by simpa using hq);exact ⟨_,List.mem_of_getElem? (i:=7) rfl,hb⟩) rfl rfl) rfl fun v42=>gE1 (fun _ _ h_=>x_app (r:=4) (rm:=0) (s:=states) (m:=(⟨v42, [x]⟩:Ls SD)) h_ sl_49 ti_103 rfl rfl rfl rfl rfl rfl rfl (fun w h=>(h.own 0 rfl)) (fun b hb=>own_on (h_.sh.ok _ (List.mem_of_getElem? (i:=0) rfl)) hb) (fun q hq b hb=>⟨q,hq,hb⟩) rfl rfl rfl inferInstance (show (states.l.length+([x]).length)*8≤140737488355328∧states.l.length+([x]).length≤140737488355328 from om9) rfl rfl) rfl fun v43=>gRn (onf fl_52_0 rfl<|.nl)<|gsr 3 ti_49 rfl (aO 4 rfl) rfl<|nK k41<|sK fun _ k45=>gRn (oM 2 rfl<|onfl 3 fl_52_1 ti_50 rfl rfl<|oM 1 rfl<|.nl)<|gO [2,0,1,3,4,5,6,7,8] rfl<|gE1 (fun _ _ h_=>x_litD (E:=0) (x:=s14) h_ sl_50 ti_23 rfl rfl rfl ((h_.sh.own 0 rfl)) (fun b hb=>(own_on (h_.sh.ok _ (List.mem_of_getElem? (i:=0) rfl)) hb).elim (fun h=>h) (fun h=>Flat.noRd h)) (fun b hb=>Flat.noRd hb) rfl rfl) rfl fun v47=>gO [5,0,1,2,3,4,6,7,8] rfl<|gE1 (fun _ _ h_=>x_appD (s:=keys) (m:=(⟨v47, [s14]⟩:Ls (Ls Int))) h_ sl_50 ti_23 rfl rfl rfl rfl rfl rfl rfl inferInstance (show (keys.l.length+([s14]).length)*24≤140737488355328∧keys.l.length+([s14]).length≤140737488355328 from om9) rfl rfl) rfl fun v49=>gRn (onf fl_52_1 rfl<|.nl)<|gsr 3 ti_50 rfl (aD 0 rfl) rfl<|nK k45<|gL<|gRn (oM 2 rfl<|onfl 3 fl_52_5 ti_4 rfl rfl<|oM 1 rfl<|.nl)<|?_
 rcases Bool.eq_false_or_eq_true full with hb51|hb51
 ·skip
  refine gRn (oKs 6 hb51 rfl rfl<|opT hb51 rfl<|onf fl_52_5 rfl<|.nl)<|gst (v:= .bool true) 3 ti_4 rfl rfl rfl<|nN<|fun a53 w53 h53=> ?_
  try simp only [Exit.then,Exit.inBlock,if_true]
  refine x_end0 (fn:=Tryz.f68) rfl h53<|⟨rfl,⟨v43,states.l++([x])⟩,⟨v49,keys.l++([s14])⟩,⟨heads.v,heads.l.set (sumL s14.l) ((states.l.length:Nat):Int)⟩,⟨v36,before.l++([nth heads.l (sumL s14.l)])⟩,true, ?_,(h53.sh.sel [3,4,0,5,6,7] rfl)⟩
  refine .inr ⟨fun j hj=> ?_,rfl, ?_, ?_, ?_⟩
  · rw [←hml];rcases Nat.lt_or_ge j mm with h9|h9;(intro e9;have h8:=hls.none (by omega) j h9;rw [nth_map' _ _ _ hj,e9] at h8;exact h8 rfl);exact hno j h9 hj
  · rw [List.map_append,←hml];rfl
  · have h9:=hok.put s14.l;rw [List.length_map,←hlen] at h9;rw [List.map_append];exact h9
  · first|rfl|(rw [show full=true by assumption];rfl)|(rw [show full=false by assumption];simp)
 refine gRn (oG hb51 (r_move rfl rfl) rfl<|oG hb51 (r_nil rfl rfl) rfl<|oG hb51 (r_fieldB (r:=0) fl_52_0 rfl rfl rfl) rfl<|oG hb51 (r_ldb (i:=3) ti_49 rfl rfl rfl rfl) rfl<|oG hb51 (r_len (s:=(⟨v43,states.l++([x])⟩:Ls SD)) (n:=(states.l++([x])).length) sl_49 rfl rfl (fun w h=>(h.own 4 rfl)) rfl) rfl<|oG hb51 (r_gtrN (p:=(states.l++([x])).length) (q:=4000) rfl rfl rfl) rfl<|opF hb51 rfl<|onf fl_52_5 rfl<|.nl)<|gst 3 ti_4 rfl rfl rfl<|nN<|fun a55 w55 h55=> ?_
 try simp only [Exit.then,Exit.inBlock,if_true]
 refine x_end0 (fn:=Tryz.f68) rfl h55<|⟨rfl,⟨v43,states.l++([x])⟩,⟨v49,keys.l++([s14])⟩,⟨heads.v,heads.l.set (sumL s14.l) ((states.l.length:Nat):Int)⟩,⟨v36,before.l++([nth heads.l (sumL s14.l)])⟩,decide (4000<(states.l++([x])).length), ?_,(h55.sh.sel [3,4,0,5,6,7] rfl)⟩
 refine .inr ⟨fun j hj=> ?_,rfl, ?_, ?_, ?_⟩
 · rw [←hml];rcases Nat.lt_or_ge j mm with h9|h9;(intro e9;have h8:=hls.none (by omega) j h9;rw [nth_map' _ _ _ hj,e9] at h8;exact h8 rfl);exact hno j h9 hj
 · rw [List.map_append,←hml];rfl
 · have h9:=hok.put s14.l;rw [List.length_map,←hlen] at h9;rw [List.map_append];exact h9
 · first|rfl|(rw [show full=true by assumption];rfl)|(rw [show full=false by assumption];simp)
theorem putO_c (K:Nat→Prop) (gs:Nat) (o:OutL) (ends:Ls OutL) (sv kv hv bv:Value) (full:Bool) (W:World) (hS:Sh K W W [.blk gs 52 [sv,kv,hv,bv,ends.v, .bool full], .own 39 ends, .at_ o.words, .at_ o.prints]) (hel:ends.l.length≤100000000):
    Rets Tryz.prog 71 [.pointer (some ⟨gs,0,none⟩), .agg #[.int .i64 o.st,o.words.v,o.prints.v]] W (fun v w' =>v= .tuple #[]∧∃ends' :Ls OutL,PutRel o ends.l ends'.l∧Sh K W w' [.blk gs 52 [sv,kv,hv,bv,ends'.v, .bool full], .own 39 ends', .at_ o.words, .at_ o.prints]):=by
 refine gen Tryz.func71 Tryz.ntmps71 hS rfl fun a10 h10=>gG h10<|sK fun _ k11=>gbx rfl rfl fun b12=>nK k11<|sG (oM 1 rfl<|.nl)<|sG (oM 1 rfl<|.nl)<|gK fun _ k15=>sG (oM 1 rfl<|.nl)<|gB<|fun a19 w19 h19=> ?_;clear h10
 have h18:=h19.nil (α:=OutL) 39
 clear h19
 refine x_loop (fun m a w=>∃(i:Nat) (dn:Bool) (ol:List OutL) (vo:Value),(i≤ends.l.length)∧(PutInv o ends.l i dn ol)∧St 71 K W a w [(0, .pointer (some ⟨gs,0,none⟩)),(3, .pointer (some ⟨b12,0,none⟩)),(4,vo),(5, .bool dn),(6, .int .i64 ((i:Nat):Int))] [.blk b12 39 [.int .i64 o.st,o.words.v,o.prints.v], .blk gs 52 [sv,kv,hv,bv,ends.v, .bool full], .own 39 ends, .at_ o.words, .at_ o.prints, .own 39 (⟨vo,ol⟩:Ls OutL)]∧m=ends.l.length-i) ⟨_,0,false, [],_,(by omega),(.inl ⟨rfl,rfl,fun j hj=>absurd hj (by omega)⟩),h18.nrm ⟨rfl,rfl,rfl,rfl,rfl,trivial⟩ [1,2,3,4,5,0] rfl,rfl⟩ ?_
 clear h18
 rintro m17 a17 w17 ⟨i,dn,ol,vo,hi,hinv,h17,hm17⟩
 have hol:=hinv.len (by omega)
 refine gG h17<|gK fun _ k20=>sK fun _ k21=>gNl (aO 2 rfl) fun hl22=>gRn (oM 2 rfl<|onfl 1 fl_52_4 ti_35 rfl rfl<|oln sl_35 (aO 2 rfl) rfl<|oltN _ _ rfl<|.nl)<|nK k21<|?_;clear h17
 refine gcd rfl (fun hb23 hp23=> ?_) fun hb23 hp23=> ?_
 ·skip
  refine gS<|hK k20<|gK fun _ k24=>gB<|gK fun _ k25=>fun a26 w26 h26=>x_quiet (by kernel_rfl) (by kernel_rfl) h26 fun _ z27=>qQ h26.fr<|qRn (olw 0 ti_39 rfl rfl<|oM 1 rfl<|onfl 1 fl_52_4 ti_35 rfl rfl<|oM 1 rfl<|oxN sl_35 ti_39 (aO 2 rfl) _ om9 rfl<|olw2 [.int .i64 ((nth ends.l i).st),((nth ends.l i).words).v,((nth ends.l i).prints).v] ti_39 (aO 2 rfl) om9 rfl<|.nl)<|qP bd_111 rfl (fun w h=>(ahead_c o (nth ends.l i) _ (h.at 3 rfl) (h.at 4 rfl) ((h.own 2 rfl).inner i (show i<ends.l.length from (by omega))).1 ((h.own 2 rfl).inner i (show i<ends.l.length from (by omega))).2))<|qRn (oM 1 rfl<|.nl)<|qN z27<|hK k25<|gK fun _ k28=>fun a29 w29 h29=>x_quiet (by kernel_rfl) (by kernel_rfl) h29 fun _ z30=>qQ h29.fr<|qRn (oM 1 rfl<|onfl 1 fl_52_4 ti_35 rfl rfl<|oM 1 rfl<|oxN sl_35 ti_39 (aO 2 rfl) _ om9 rfl<|olw2 [.int .i64 ((nth ends.l i).st),((nth ends.l i).words).v,((nth ends.l i).prints).v] ti_39 (aO 2 rfl) om9 rfl<|olw 0 ti_39 rfl rfl<|.nl)<|qP bd_111 rfl (fun w h=>(ahead_c (nth ends.l i) o _ ((h.own 2 rfl).inner i (show i<ends.l.length from (by omega))).1 ((h.own 2 rfl).inner i (show i<ends.l.length from (by omega))).2 (h.at 3 rfl) (h.at 4 rfl)))<|qRn (oM 1 rfl<|.nl)<|qN z30<|hK k28<|gF [0,3,4,5,6,7,8] rfl<|gK fun _ k31=>sK fun _ k32=>gRn (oM 1 rfl<|ont rfl<|oM 1 rfl<|.nl)<|?_;clear h26 h29
  rcases Bool.eq_false_or_eq_true (!(aheadB (OutL.out o) (OutL.out (nth ends.l i)))) with hb33|hb33
  ·have hn33:aheadB (OutL.out o) (OutL.out (nth ends.l i))=false:=(Bool.not_eq_true' _).mp hb33
   refine gRn (oG hb33 (r_move rfl rfl) rfl<|oG hb33 (r_not rfl rfl) rfl<|opT hb33 rfl<|.nl)<|nK k32<|gCb rfl (fun hb34=> ?_) fun hb34=> ?_
   ·have hn34:aheadB (OutL.out (nth ends.l i)) (OutL.out o)=false:=(Bool.not_eq_true' _).mp hb34
    refine gR<|fun a35 w35 h35=> ?_
    try simp only [Exit.then,Exit.inBlock]
    refine x_ret0 (fn:=Tryz.f71) rfl h35<|⟨rfl,ends, ?_,(h35.sh.sel [1,2,3,4] rfl)⟩
    first|exact .inl ⟨⟨i,by omega,by assumption,by assumption⟩,rfl⟩|exact PutInv.rel (by first|exact hinv|(rw [show dn=true by assumption] at hinv;exact hinv)) (by omega)|exact PutInv.rel0 (by first|exact hinv|(rw [show dn=false by assumption] at hinv;exact hinv)) (by omega)
   have hn34:aheadB (OutL.out (nth ends.l i)) (OutL.out o)=true:=(Bool.not_eq_false' _).mp hb34
   refine gS<|hK k31<|gK fun _ k36=>sG (oM 2 rfl<|oKs 2 hn33 rfl rfl<|opF hn33 rfl<|.nl)<|gcF rfl rfl<|gS<|hK k36<|gL<|gRn (oM 2 rfl<|onfl 1 fl_52_4 ti_35 rfl rfl<|oM 1 rfl<|oxN sl_35 ti_39 (aO 2 rfl) _ om9 rfl<|olw2 [.int .i64 ((nth ends.l i).st),((nth ends.l i).words).v,((nth ends.l i).prints).v] ti_39 (aO 2 rfl) om9 rfl<|.nl)<|gE1 (fun _ _ h_=>x_lit (n:=1) (cs:= [.int .i64 ((nth ends.l i).st),((nth ends.l i).words).v,((nth ends.l i).prints).v]) ([nth ends.l i]:List OutL) h_ sl_35 ti_39 rfl rfl rfl (by decide) rfl (by kernel_rfl) rfl (fun q hq w h=>by obtain rfl:q=0:=(by simpa using hq);exact ⟨((h.own 2 rfl).inner i (show i<ends.l.length from om9)).1,((h.own 2 rfl).inner i (show i<ends.l.length from om9)).2⟩) (fun q hq b hb=>by obtain rfl:q=0:=(by simpa using hq);rcases hb with hb|hb;exact ⟨_,List.mem_of_getElem? (i:=2) rfl,i,(show i<ends.l.length from om9), .inl hb⟩;exact ⟨_,List.mem_of_getElem? (i:=2) rfl,i,(show i<ends.l.length from om9), .inr hb⟩) rfl rfl) rfl fun v38=>gE1 (fun _ _ h_=>x_app (r:=6) (rm:=0) (s:=(⟨vo,ol⟩:Ls OutL)) (m:=(⟨v38, [nth ends.l i]⟩:Ls OutL)) h_ sl_35 ti_39 rfl rfl rfl rfl rfl rfl rfl (fun w h=>(h.own 0 rfl)) (fun b hb=>own_on (h_.sh.ok _ (List.mem_of_getElem? (i:=0) rfl)) hb) (fun q hq b hb=>⟨q,hq,hb⟩) rfl rfl rfl inferInstance (show (ol.length+([nth ends.l i]).length)*56≤140737488355328∧ol.length+([nth ends.l i]).length≤140737488355328 from om9) rfl rfl) rfl fun v39=>gRn (oM 1 rfl<|.nl)<|nK k24<|gF [0,3,4,5,6] rfl<|gL<|gRn (oM 1 rfl<|oadN _ 1 om9 rfl<|oM 1 rfl<|.nl)<|nN<|fun a40 w40 h40=>x_again ⟨_, ?_,i+1,dn,ol++([nth ends.l i]),v39, ?_, ?_,h40.nrm ⟨rfl,rfl,rfl,rfl,rfl,trivial⟩ [1,2,3,4,5,6] rfl,rfl⟩
   · rw [hm17];first|omega|(simp only [lens9];omega)
   · omega
   · first|exact PutInv.one hinv (by omega) (by assumption)|exact PutInv.two hinv (by omega) (.inl (by assumption))|exact PutInv.two hinv (by omega) (.inr ⟨by assumption,by assumption⟩)|(subst_vars;first|exact PutInv.one hinv (by omega) (by assumption)|exact PutInv.two hinv (by omega) (.inl rfl)|exact PutInv.two hinv (by omega) (.inr ⟨by assumption,by assumption⟩))
  have hn33:aheadB (OutL.out o) (OutL.out (nth ends.l i))=true:=(Bool.not_eq_false' _).mp hb33
  refine gRn (oKs 2 hb33 rfl rfl<|opF hb33 rfl<|.nl)<|nK k32<|gcF rfl rfl<|gS<|hK k31<|gK fun _ k41=>sG (oM 2 rfl<|oG hn33 (r_move rfl rfl) rfl<|oG hn33 (r_not rfl rfl) rfl<|opT hn33 rfl<|.nl)<|gCb rfl (fun hb43=> ?_) fun hb43=> ?_
  ·have hn43:dn=false:=(Bool.not_eq_true' _).mp hb43
   refine sK fun _ k44=>gRn (oM 1 rfl<|olw 0 ti_39 rfl rfl<|.nl)<|gE1 (fun _ _ h_=>x_lit (n:=1) (cs:= [.int .i64 o.st,o.words.v,o.prints.v]) ([o]:List OutL) h_ sl_35 ti_39 rfl rfl rfl (by decide) rfl (by kernel_rfl) rfl (fun q hq w h=>by obtain rfl:q=0:=(by simpa using hq);exact ⟨(h.at 3 rfl),(h.at 4 rfl)⟩) (fun q hq b hb=>by obtain rfl:q=0:=(by simpa using hq);rcases hb with hb|hb;exact ⟨_,List.mem_of_getElem? (i:=3) rfl,hb⟩;exact ⟨_,List.mem_of_getElem? (i:=4) rfl,hb⟩) rfl rfl) rfl fun v45=>gE1 (fun _ _ h_=>x_app (r:=6) (rm:=0) (s:=(⟨vo,ol⟩:Ls OutL)) (m:=(⟨v45, [o]⟩:Ls OutL)) h_ sl_35 ti_39 rfl rfl rfl rfl rfl rfl rfl (fun w h=>(h.own 0 rfl)) (fun b hb=>own_on (h_.sh.ok _ (List.mem_of_getElem? (i:=0) rfl)) hb) (fun q hq b hb=>⟨q,hq,hb⟩) rfl rfl rfl inferInstance (show (ol.length+([o]).length)*56≤140737488355328∧ol.length+([o]).length≤140737488355328 from om9) rfl rfl) rfl fun v46=>gRn (oM 1 rfl<|.nl)<|nK k44<|gL<|gRn (oM 1 rfl<|.nl)<|nK k41<|gL<|gRn (oM 2 rfl<|onfl 2 fl_52_4 ti_35 rfl rfl<|oM 1 rfl<|oxN sl_35 ti_39 (aO 3 rfl) _ om9 rfl<|olw2 [.int .i64 ((nth ends.l i).st),((nth ends.l i).words).v,((nth ends.l i).prints).v] ti_39 (aO 3 rfl) om9 rfl<|.nl)<|gE1 (fun _ _ h_=>x_lit (n:=1) (cs:= [.int .i64 ((nth ends.l i).st),((nth ends.l i).words).v,((nth ends.l i).prints).v]) ([nth ends.l i]:List OutL) h_ sl_35 ti_39 rfl rfl rfl (by decide) rfl (by kernel_rfl) rfl (fun q hq w h=>by obtain rfl:q=0:=(by simpa using hq);exact ⟨((h.own 3 rfl).inner i (show i<ends.l.length from om9)).1,((h.own 3 rfl).inner i (show i<ends.l.length from om9)).2⟩) (fun q hq b hb=>by obtain rfl:q=0:=(by simpa using hq);rcases hb with hb|hb;exact ⟨_,List.mem_of_getElem? (i:=3) rfl,i,(show i<ends.l.length from om9), .inl hb⟩;exact ⟨_,List.mem_of_getElem? (i:=3) rfl,i,(show i<ends.l.length from om9), .inr hb⟩) rfl rfl) rfl fun v47=>gE1 (fun _ _ h_=>x_app (r:=7) (rm:=0) (s:=(⟨v46,ol++([o])⟩:Ls OutL)) (m:=(⟨v47, [nth ends.l i]⟩:Ls OutL)) h_ sl_35 ti_39 rfl rfl rfl rfl rfl rfl rfl (fun w h=>(h.own 0 rfl)) (fun b hb=>own_on (h_.sh.ok _ (List.mem_of_getElem? (i:=0) rfl)) hb) (fun q hq b hb=>⟨q,hq,hb⟩) rfl rfl rfl inferInstance (show ((ol++([o])).length+([nth ends.l i]).length)*56≤140737488355328∧(ol++([o])).length+([nth ends.l i]).length≤140737488355328 from om9) rfl rfl) rfl fun v48=>gRn (oM 1 rfl<|.nl)<|nK k24<|gF [0,3,4,5,6] rfl<|gL<|gRn (oM 1 rfl<|oadN _ 1 om9 rfl<|oM 1 rfl<|.nl)<|nN<|fun a49 w49 h49=>x_again ⟨_, ?_,i+1,true,(ol++([o]))++([nth ends.l i]),v48, ?_, ?_,h49.nrm ⟨rfl,rfl,rfl,rfl,rfl,trivial⟩ [2,3,4,5,6,7] rfl,rfl⟩
   · rw [hm17];first|omega|(simp only [lens9];omega)
   · omega
   · first|exact PutInv.one hinv (by omega) (by assumption)|exact PutInv.two hinv (by omega) (.inl (by assumption))|exact PutInv.two hinv (by omega) (.inr ⟨by assumption,by assumption⟩)|(subst_vars;first|exact PutInv.one hinv (by omega) (by assumption)|exact PutInv.two hinv (by omega) (.inl rfl)|exact PutInv.two hinv (by omega) (.inr ⟨by assumption,by assumption⟩))
  have hn43:dn=true:=(Bool.not_eq_false' _).mp hb43
  refine gS<|hK k41<|gL<|gRn (oM 2 rfl<|onfl 1 fl_52_4 ti_35 rfl rfl<|oM 1 rfl<|oxN sl_35 ti_39 (aO 2 rfl) _ om9 rfl<|olw2 [.int .i64 ((nth ends.l i).st),((nth ends.l i).words).v,((nth ends.l i).prints).v] ti_39 (aO 2 rfl) om9 rfl<|.nl)<|gE1 (fun _ _ h_=>x_lit (n:=1) (cs:= [.int .i64 ((nth ends.l i).st),((nth ends.l i).words).v,((nth ends.l i).prints).v]) ([nth ends.l i]:List OutL) h_ sl_35 ti_39 rfl rfl rfl (by decide) rfl (by kernel_rfl) rfl (fun q hq w h=>by obtain rfl:q=0:=(by simpa using hq);exact ⟨((h.own 2 rfl).inner i (show i<ends.l.length from om9)).1,((h.own 2 rfl).inner i (show i<ends.l.length from om9)).2⟩) (fun q hq b hb=>by obtain rfl:q=0:=(by simpa using hq);rcases hb with hb|hb;exact ⟨_,List.mem_of_getElem? (i:=2) rfl,i,(show i<ends.l.length from om9), .inl hb⟩;exact ⟨_,List.mem_of_getElem? (i:=2) rfl,i,(show i<ends.l.length from om9), .inr hb⟩) rfl rfl) rfl fun v50=>gE1 (fun _ _ h_=>x_app (r:=6) (rm:=0) (s:=(⟨vo,ol⟩:Ls OutL)) (m:=(⟨v50, [nth ends.l i]⟩:Ls OutL)) h_ sl_35 ti_39 rfl rfl rfl rfl rfl rfl rfl (fun w h=>(h.own 0 rfl)) (fun b hb=>own_on (h_.sh.ok _ (List.mem_of_getElem? (i:=0) rfl)) hb) (fun q hq b hb=>⟨q,hq,hb⟩) rfl rfl rfl inferInstance (show (ol.length+([nth ends.l i]).length)*56≤140737488355328∧ol.length+([nth ends.l i]).length≤140737488355328 from om9) rfl rfl) rfl fun v51=>gRn (oM 1 rfl<|.nl)<|nK k24<|gF [0,3,4,5,6] rfl<|gL<|gRn (oM 1 rfl<|oadN _ 1 om9 rfl<|oM 1 rfl<|.nl)<|nN<|fun a52 w52 h52=>x_again ⟨_, ?_,i+1,dn,ol++([nth ends.l i]),v51, ?_, ?_,h52.nrm ⟨rfl,rfl,rfl,rfl,rfl,trivial⟩ [1,2,3,4,5,6] rfl,rfl⟩
  · rw [hm17];first|omega|(simp only [lens9];omega)
  · omega
  · first|exact PutInv.one hinv (by omega) (by assumption)|exact PutInv.two hinv (by omega) (.inl (by assumption))|exact PutInv.two hinv (by omega) (.inr ⟨by assumption,by assumption⟩)|(subst_vars;first|exact PutInv.one hinv (by omega) (by assumption)|exact PutInv.two hinv (by omega) (.inl rfl)|exact PutInv.two hinv (by omega) (.inr ⟨by assumption,by assumption⟩))
 refine gX<|hK k15<|gK fun _ k53=>sG (oM 1 rfl<|ont rfl<|.nl)<|gCb rfl (fun hb55=> ?_) fun hb55=> ?_
 ·have hn55:dn=false:=(Bool.not_eq_true' _).mp hb55
  refine gL<|gRn (oM 1 rfl<|olw 0 ti_39 rfl rfl<|.nl)<|gE1 (fun _ _ h_=>x_lit (n:=1) (cs:= [.int .i64 o.st,o.words.v,o.prints.v]) ([o]:List OutL) h_ sl_35 ti_39 rfl rfl rfl (by decide) rfl (by kernel_rfl) rfl (fun q hq w h=>by obtain rfl:q=0:=(by simpa using hq);exact ⟨(h.at 3 rfl),(h.at 4 rfl)⟩) (fun q hq b hb=>by obtain rfl:q=0:=(by simpa using hq);rcases hb with hb|hb;exact ⟨_,List.mem_of_getElem? (i:=3) rfl,hb⟩;exact ⟨_,List.mem_of_getElem? (i:=4) rfl,hb⟩) rfl rfl) rfl fun v56=>gE1 (fun _ _ h_=>x_app (r:=6) (rm:=0) (s:=(⟨vo,ol⟩:Ls OutL)) (m:=(⟨v56, [o]⟩:Ls OutL)) h_ sl_35 ti_39 rfl rfl rfl rfl rfl rfl rfl (fun w h=>(h.own 0 rfl)) (fun b hb=>own_on (h_.sh.ok _ (List.mem_of_getElem? (i:=0) rfl)) hb) (fun q hq b hb=>⟨q,hq,hb⟩) rfl rfl rfl inferInstance (show (ol.length+([o]).length)*56≤140737488355328∧ol.length+([o]).length≤140737488355328 from om9) rfl rfl) rfl fun v57=>gRn (oM 1 rfl<|.nl)<|nK k53<|gL<|gRn (oM 2 rfl<|onf fl_52_4 rfl<|.nl)<|gsr 2 ti_35 rfl (aO 6 rfl) rfl<|nN<|fun a59 w59 h59=> ?_
  try simp only [Exit.then,Exit.inBlock,if_true]
  refine x_end0 (fn:=Tryz.f71) rfl h59<|⟨rfl,⟨v57,ol++([o])⟩, ?_,(h59.sh.sel [2,6,4,5] rfl)⟩
  first|exact .inl ⟨⟨i,by omega,by assumption,by assumption⟩,rfl⟩|exact PutInv.rel (by first|exact hinv|(rw [show dn=true by assumption] at hinv;exact hinv)) (by omega)|exact PutInv.rel0 (by first|exact hinv|(rw [show dn=false by assumption] at hinv;exact hinv)) (by omega)
 have hn55:dn=true:=(Bool.not_eq_false' _).mp hb55
 refine gS<|hK k53<|gL<|gRn (oM 2 rfl<|onf fl_52_4 rfl<|.nl)<|gsr 1 ti_35 rfl (aO 5 rfl) rfl<|nN<|fun a61 w61 h61=> ?_
 try simp only [Exit.then,Exit.inBlock,if_true]
 refine x_end0 (fn:=Tryz.f71) rfl h61<|⟨rfl,⟨vo,ol⟩, ?_,(h61.sh.sel [1,5,3,4] rfl)⟩
 first|exact .inl ⟨⟨i,by omega,by assumption,by assumption⟩,rfl⟩|exact PutInv.rel (by first|exact hinv|(rw [show dn=true by assumption] at hinv;exact hinv)) (by omega)|exact PutInv.rel0 (by first|exact hinv|(rw [show dn=false by assumption] at hinv;exact hinv)) (by omega)
end Go.Proofs.YtmjkobhkkjgplaaGreatDoor
