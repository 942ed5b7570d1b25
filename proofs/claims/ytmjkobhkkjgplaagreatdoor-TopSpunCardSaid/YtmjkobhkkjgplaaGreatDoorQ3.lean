/- Part 3 of the texts. -/
import Derived.Test.YtmjkobhkkjgplaaGreatDoorQ2
import Derived.RangeFuncBox
import Derived.RangeFuncLeaves
import Derived.RangeFuncFrom
import Derived.Shelf.Abstract
import Derived.OwnWalkIn
import Derived.TacticsInMore
import Derived.LoopNIn
import Derived.LoopIn
import Derived.RangeFuncNested
namespace Go.Proofs.YtmjkobhkkjgplaaGreatDoor
open Go.RowKit
set_option linter.unusedSimpArgs false
set_option linter.unusedVariables false
set_option maxRecDepth 100000
set_option maxHeartbeats 4000000
theorem ar_247 :arI Tryz.prog 247=some (65,5):=by kernel_rfl
theorem pow36_c (W:World):
    Rets Tryz.prog 178 [.int .i64 36] W (fun v w' =>v= .bool false∧Sh0 W w' []):=by
 refine gen Tryz.func178 Tryz.ntmps178 (Sh0.start _:Sh (fun _=>False) W W []) rfl fun a10 h10=>gG h10<|sG (oM 1 rfl<|.nl)<|sG (oM 2 rfl<|osbN 36 1 om9 rfl<|oV (r_bin (v:= .int .i64 32) rfl rfl rfl (fun w=>by first|kernel_rfl|rfl|simp [go_sem])) rfl<|oeqN 32 0 rfl<|oM 1 rfl<|.nl)<|gR<|fun a13 w13 h13=>x_ret1 (fn:=Tryz.f178) (t:=2) rfl h13 rfl ?_;clear h10
 exact ⟨rfl,(h13.sh.sel [] rfl)⟩
theorem fmtB_c (K:Nat→Prop)(bs:Ls UInt8)(u0:Nat)(W:World)(hS:Sh K W W [.own 5 bs])(hu0:u0<18446744073709551616)(hbn:bs.l.length≤100000000000000):
    Rets Tryz.prog 174 [bs.v, .int .u64 ((u0:Nat):Int), .int .i64 36, .bool false, .bool true] W (fun v w' =>∃bs' :Ls UInt8,v= .tuple #[bs'.v, .string ⟨#[]⟩]∧bs'.l=bs.l++by8 (digs u0)∧Sh K W w' [.own 5 bs']):=by
 refine gen Tryz.func174 Tryz.ntmps174 hS rfl fun a10 h10=>gG h10<|sG (oM 2 rfl<|.nl)<|gK fun _ k12=>sG (oM 1 rfl<|oltN 36 2 rfl<|oM 1 rfl<|oG (by decide) (r_move rfl rfl) rfl<|oG (by decide) (r_eqlN (p:=36) (q:=10) rfl rfl rfl) rfl<|opF (by decide) rfl<|oM 1 rfl<|oG (by decide) (r_move rfl rfl) rfl<|oG (by decide) (r_gtrN (p:=36) (q:=36) rfl rfl rfl) rfl<|opF (by decide) rfl<|.nl)<|gcF rfl (by decide)<|gS<|hK k12<|sK fun _ k14=>gE1 (fun _ _ h_=>x_allocBy (k:=65) h_ ti_247 (by kernel_rfl) rfl rfl rfl) rfl fun b15=>nK k14<|sG (oM 1 rfl<|.nl)<|gK fun _ k17=>sG (oM 1 rfl<|.nl)<|gcF rfl rfl<|gS<|hK k17<|gK fun _ k19=>sK fun _ k20=>gRn (oM 1 rfl<|.nl)<|gP (fun _ _ h_=>xCl h_ bd_178 rfl (pow36_c _)) rfl<|nK k20<|gcF rfl rfl<|sG (oM 1 rfl<|oV (r_cvUN Tryz.underlying3 Tryz.underlying202 rfl rfl (show 36<18446744073709551616 from om9)) rfl<|oM 1 rfl<|.nl)<|gK fun _ k23=>gB<|fun a25 w25 h25=>x_loop (fun m a w=>∃(i k u:Nat) (al:List UInt8),(i+k=65∧k≤12)∧(u≤18446744073709551615/36^k)∧(u≤18446744073709551615)∧(al.length=65)∧(by8 (digs u0)=by8 (digs u)++al.drop i)∧St 102 K W a w [(0,bs.v),(1, .int .u64 ((u:Nat):Int)),(3, .bool false),(4, .bool true),(10,(.slice none 0 0)),(11, .string ({ data:= #[] })),(12, .pointer (some ⟨b15,0,none⟩)),(13, .int .i64 ((i:Nat):Int)),(17, .int .u64 ((36:Nat):Int))] [.blk b15 247 (al.map bv), .own 5 bs]∧m=u) ⟨_,65,0,u0,List.replicate 65 (0:UInt8),(by omega),(by simpa using (by omega:u0≤18446744073709551615)),(by omega),(by simp),(by simp),h25.nf ⟨rfl,rfl,rfl,rfl,rfl,rfl,rfl,rfl,rfl,trivial⟩,rfl⟩ ?_;clear h10
 clear h25
 rintro m24 a24 w24 ⟨i,k,u,al,hik,hu,hu2,hal,hd,h24,hm24⟩
 refine gG h24<|gK fun _ k26=>sG (oM 2 rfl<|ogeN _ 36 rfl<|.nl)<|?_;clear h24
 refine gcd rfl (fun hb28 hp28=> ?_) fun hb28 hp28=> ?_
 ·skip
  refine gS<|hK k26<|?_
  have hk12:=dig_room hu (by assumption)
  refine gB<|sG (oM 1 rfl<|osbN _ 1 om9 rfl<|oM 1 rfl<|.nl)<|sG (oM 2 rfl<|oV (r_quoU (p:=u) (q:=36) rfl rfl rfl (show 0<36∧u<18446744073709551616 from om9)) rfl<|oM 1 rfl<|.nl)<|sK fun _ k31=>gRn (oM 4 rfl<|oV (r_mulS (p:=u/36) (q:=36) (r:=(u/36)*36) rfl rfl rfl rfl (show (u/36)*36<18446744073709551616 from om9)) rfl<|oV (r_subU (p:=u) (q:=(u/36)*36) rfl rfl rfl (show (u/36)*36≤u∧u<18446744073709551616 from om9)) rfl<|.nl)<|?_
  have hx32:u-((u/36)*36)<digS.size:=(by first|omega|(show _<36;omega))
  intro a34 w34 h34
  refine wv h34 (r_ixStrU (s:=digS) (q:=u-((u/36)*36)) Tryz.underlying9 rfl rfl rfl hx32) rfl rfl fun a33 h33=>gG h33<|gRn (oV (r_ixAr (q:=i-1) ar_247 ti_5 rfl rfl rfl rfl (show i-1<65 from (by first|omega|(show _<36;omega)))) rfl<|.nl)<|gE (fun _ _ h_=>x_stBy (i:=0) (l:=al) (n:=(digS[u-((u/36)*36)]'hx32)) h_ ti_5 rfl rfl rfl rfl rfl (show i-1<al.length from om9)) rfl<|nK k31<|gL<|gRn (oM 2 rfl<|.nl)<|nN<|fun a36 w36 h36=> ?_;clear h34 h33
  change∃_m,_m<_∧_
  refine ⟨_, ?_,(i-1),(k+1),(u/36),al.set (i-1) (digS[u-((u/36)*36)]'hx32), ?_, ?_, ?_, ?_, ?_,h36.nf ⟨rfl,rfl,rfl,rfl,rfl,rfl,rfl,rfl,rfl,trivial⟩,rfl⟩
  · rw [hm24];omega
  · omega
  · exact dig_next hu
  · omega
  · simpa using hal
  · exact dig_step (by rw [show i-1+1=i by omega];exact hd) (by assumption) (by omega) (digS_at _)
 refine gX<|hK k23<|sG (oM 1 rfl<|osbN _ 1 om9 rfl<|oM 1 rfl<|.nl)<|gL<|gRn (oM 2 rfl<|.nl)<|?_
 have hx38:u<digS.size:=(by first|omega|(show _<36;omega))
 intro a40 w40 h40
 refine wv h40 (r_ixStrU (s:=digS) (q:=u) Tryz.underlying9 rfl rfl rfl hx38) rfl rfl fun a39 h39=>gG h39<|gRn (oV (r_ixAr (q:=i-1) ar_247 ti_5 rfl rfl rfl rfl (show i-1<65 from (by first|omega|(show _<36;omega)))) rfl<|.nl)<|gE (fun _ _ h_=>x_stBy (i:=0) (l:=al) (n:=(digS[u]'hx38)) h_ ti_5 rfl rfl rfl rfl rfl (show i-1<al.length from om9)) rfl<|nK k19<|gK fun _ k42=>sG (oM 1 rfl<|.nl)<|gcF rfl rfl<|gS<|hK k42<|gK fun _ k44=>sG (oM 1 rfl<|.nl)<|gcT rfl rfl<|sK fun _ k46=>gRn (oM 2 rfl<|oV (r_slBy (q:=i-1) ar_247 ti_5 rfl rfl rfl rfl (show i-1<65 from om9)) rfl<|.nl)<|gE1 (fun _ _ h_=>x_app (r:=1) (rm:=0) (s:=bs) (m:=(⟨(arrS b15 (i-1) 65),((al.set (i-1) (digS[u]'hx38)).drop (i-1))⟩:Ls UInt8)) h_ sl_204 ti_5 rfl rfl rfl rfl rfl rfl rfl (fun w h=>(arr_at h (i:=0) rfl (by simpa using hal) (show i-1≤65 from om9) (by decide))) (fun b hb=> .inl (arr_on hb)) (fun q hq b hb=>(Flat.on _ _ hb).elim) rfl rfl rfl inferInstance (show (bs.l.length+((al.set (i-1) (digS[u]'hx38)).drop (i-1)).length)*1≤140737488355328∧bs.l.length+((al.set (i-1) (digS[u]'hx38)).drop (i-1)).length≤140737488355328 from (by first|omega|(simp only [List.length_drop,List.length_set,hal];omega))) rfl rfl) rfl fun v47=>gRn (oM 1 rfl<|.nl)<|nK k46<|gR<|uT<|fun a48 w48 h48=>x_ret2 (fn:=Tryz.f174) (t:=10) (u:=11) rfl h48 rfl rfl<|⟨⟨v47,bs.l++((al.set (i-1) (digS[u]'hx38)).drop (i-1))⟩,rfl, ?_,(h48.sh.sel [1] rfl)⟩;clear h40 h39
 show bs.l++_=bs.l++_
 congr 1
 exact (dig_last (by rw [show i-1+1=i by omega];exact hd) (by assumption) (by omega) (digS_at _)).symm
theorem appU_c (K:Nat→Prop)(bs:Ls UInt8)(u0:Nat)(W:World)(hS:Sh K W W [.own 5 bs])(hu0:u0<18446744073709551616)(hbn:bs.l.length≤100000000000000):
    Rets Tryz.prog 167 [bs.v, .int .u64 ((u0:Nat):Int), .int .i64 36] W (fun v w' =>∃bs' :Ls UInt8,v=bs'.v∧bs'.l=bs.l++by8 (digs u0)∧Sh K W w' [.own 5 bs']):=by
 refine gen Tryz.func167 Tryz.ntmps167 hS rfl fun a10 h10=>gG h10<|sG (oM 1 rfl<|.nl)<|gK fun _ k12=>sG (oM 1 rfl<|oeqN 36 10 rfl<|.nl)<|gcF rfl (by decide)<|gS<|hK k12<|sK fun _ k14=>gRn (oM 3 rfl<|.nl)<|gM 1 rfl (fun _ _ h_=>xCl h_ bd_174 rfl (fmtB_c _ bs (u0) _ (pKl 1 h_ rfl) (by omega) (by omega))) rfl<|?_;clear h10
 rintro _ _ w16 ⟨bs16,rfl,hbl16,hs16⟩
 refine gBk hs16 rfl<|gU<|gRn (oM 1 rfl<|oxt rfl<|oxt rfl<|oM 1 rfl<|.nl)<|nK k14<|sG (oM 2 rfl<|.nl)<|gR<|fun a18 w18 h18=> ?_;clear hs16
 refine x_ret1 (fn:=Tryz.f167) (t:=6) rfl h18 rfl ?_
 exact ⟨bs16,rfl,hbl16,h18.sh⟩
theorem appI_c (K:Nat→Prop)(bs:Ls UInt8)(n0:Int)(W:World)(hS:Sh K W W [.own 5 bs])(hn0: -9223372036854775808≤n0∧n0<9223372036854775808)(hbn:bs.l.length≤10000000000000):
    Rets Tryz.prog 153 [bs.v, .int .i64 n0, .int .i64 36] W (fun v w' =>∃bs' :Ls UInt8,v=bs'.v∧bs'.l=bs.l++by8 (num36 n0)∧Sh K W w' [.own 5 bs']):=by
 refine gen Tryz.func153 Tryz.ntmps153 hS rfl fun a10 h10=>gG h10<|sG (oM 1 rfl<|.nl)<|sG (oM 1 rfl<|oV (r_cvU Tryz.underlying2 Tryz.underlying202 rfl rfl) rfl<|oM 1 rfl<|.nl)<|gK fun _ k13=>sG (oM 1 rfl<|oltI _ _ rfl<|.nl)<|?_;clear h10
 refine gcd rfl (fun hb15 hp15=> ?_) fun hb15 hp15=> ?_
 ·skip
  refine sK fun _ k16=>gRn (oM 1 rfl<|.nl)<|gE1 (fun _ _ h_=>x_lit (n:=1) (cs:= [.int .u8 45]) ([45]:List UInt8) h_ sl_204 ti_5 rfl rfl rfl (by decide) rfl (by kernel_rfl) rfl (fun q hq w h=>Flat.inner _ _) (fun q hq b hb=>(Flat.on _ _ hb).elim) rfl rfl) rfl fun v17=>gE1 (fun _ _ h_=>x_app (r:=1) (rm:=0) (s:=bs) (m:=(⟨v17, [45]⟩:Ls UInt8)) h_ sl_204 ti_5 rfl rfl rfl rfl rfl rfl rfl (fun w h=>(h.own 0 rfl)) (fun b hb=>own_on (h_.sh.ok _ (List.mem_of_getElem? (i:=0) rfl)) hb) (fun q hq b hb=>⟨q,hq,hb⟩) rfl rfl rfl inferInstance (show (bs.l.length+([45]).length)*1≤140737488355328∧bs.l.length+([45]).length≤140737488355328 from om9) rfl rfl) rfl fun v18=>gRn (oM 1 rfl<|.nl)<|nK k16<|gL<|gRn (oM 1 rfl<|oV (r_negU (p:=toU n0) rfl rfl) rfl<|oM 1 rfl<|.nl)<|nK k13<|sK fun _ k19=>gRn (oM 3 rfl<|.nl)<|gO [1,0] rfl<|gM 1 rfl (fun _ _ h_=>xCl h_ bd_167 rfl (appU_c _ (⟨v18,bs.l++([45])⟩:Ls UInt8) (toU (-((toU n0:Nat):Int))) _ (pKl 1 h_ rfl) (by first|exact toU_lt _|omega) (by first|omega|(rw [List.length_append];simp;omega)|(simp;omega)))) rfl<|?_
  rintro _ _ w22 ⟨bs22,rfl,hbl22,hs22⟩
  refine gBk hs22 rfl<|gU<|gRn (oM 1 rfl<|.nl)<|nK k19<|gR<|fun a23 w23 h23=> ?_;clear hs22
  refine x_ret1 (fn:=Tryz.f153) (t:=6) rfl h23 rfl<|⟨bs22,rfl,hbl22.trans ?_,(h23.sh.sel [0] rfl)⟩
  unfold num36
  first|(rw [if_pos (by assumption),toU_neg (by omega),List.append_assoc];rfl)|(rw [if_neg (by assumption),toU_pos (by assumption) (by omega)])
 refine gS<|hK k13<|sK fun _ k24=>gRn (oM 3 rfl<|.nl)<|gM 1 rfl (fun _ _ h_=>xCl h_ bd_167 rfl (appU_c _ bs (toU n0) _ (pKl 1 h_ rfl) (by first|exact toU_lt _|omega) (by first|omega|(rw [List.length_append];simp;omega)|(simp;omega)))) rfl<|?_
 rintro _ _ w26 ⟨bs26,rfl,hbl26,hs26⟩
 refine gBk hs26 rfl<|gU<|gRn (oM 1 rfl<|.nl)<|nK k24<|gR<|fun a27 w27 h27=> ?_;clear hs26
 refine x_ret1 (fn:=Tryz.f153) (t:=6) rfl h27 rfl<|⟨bs26,rfl,hbl26.trans ?_,h27.sh⟩
 unfold num36
 first|(rw [if_pos (by assumption),toU_neg (by omega),List.append_assoc];rfl)|(rw [if_neg (by assumption),toU_pos (by assumption) (by omega)])
theorem sappI_c (K:Nat→Prop)(bs:Ls UInt8)(n0:Int)(W:World)(hS:Sh K W W [.own 5 bs])(hn0: -9223372036854775808≤n0∧n0<9223372036854775808)(hbn:bs.l.length≤10000000000000):
    Rets Tryz.prog 142 [bs.v, .int .i64 n0, .int .i64 36] W (fun v w' =>∃bs' :Ls UInt8,v=bs'.v∧bs'.l=bs.l++by8 (num36 n0)∧Sh K W w' [.own 5 bs']):=by
 refine gen Tryz.func142 Tryz.ntmps142 hS rfl fun a10 h10=>gG h10<|sG (oM 1 rfl<|.nl)<|sK fun _ k12=>gRn (oM 3 rfl<|.nl)<|gM 1 rfl (fun _ _ h_=>xCl h_ bd_153 rfl (appI_c _ bs (n0) _ (pKl 1 h_ rfl) (by omega) (by omega))) rfl<|?_;clear h10
 rintro _ _ w14 ⟨bs14,rfl,hbl14,hs14⟩
 refine gBk hs14 rfl<|gU<|gRn (oM 1 rfl<|.nl)<|nK k12<|gR<|fun a15 w15 h15=> ?_;clear hs14
 refine x_ret1 (fn:=Tryz.f142) (t:=6) rfl h15 rfl ?_
 exact ⟨bs14,rfl,hbl14,h15.sh⟩
end Go.Proofs.YtmjkobhkkjgplaaGreatDoor
namespace Go.Proofs.YtmjkobhkkjgplaaGreatDoor
open Go.RowKit Go.Shelf
set_option linter.unusedSimpArgs false
set_option linter.unusedVariables false
attribute [local go_sem] Oper.semAt_some
@[local go_sem] theorem sz_wt:Enc.sz Wt=3:=rfl
@[local go_sem] theorem agg_wt:Enc.agg Wt=true:=rfl
@[local go_sem] theorem cell_wt0 (x:Wt):Enc.cell x 0= .bool x.lock:=rfl
@[local go_sem] theorem cell_wt1 (x:Wt):Enc.cell x 1= .int .i64 x.wh:=rfl
@[local go_sem] theorem cell_wt2 (x:Wt):Enc.cell x 2= .int .i64 x.what:=rfl
@[local go_sem] theorem whole_wt (x:Wt):Enc.whole x= .agg #[.bool x.lock, .int .i64 x.wh, .int .i64 x.what]:=rfl
def backN (l:List Wt)(k:Nat):List (Nat×Wt):=(List.range k).map fun j=>(l.length-1-j,nth l (l.length-1-j))
theorem backN_succ (l:List Wt)(k:Nat):backN l (k+1)=backN l k++ [(l.length-1-k,nth l (l.length-1-k))]:=by simp [backN,List.range_succ]
theorem backN_len (l:List Wt)(k:Nat):(backN l k).length=k:=by simp [backN]
set_option maxRecDepth 100000 in
set_option maxHeartbeats 4000000 in
theorem back1_in (F:Fence)(n:Nat)(hF:F.fn 221)(hro:F.round=none)(hn:1≤n)(l Bs n₀:Nat)(s:Sl Wt)(hs3:s.l.length≤3)(hb:∀b,s.on b→b<n₀)(J Jx:List (Nat×Wt)→World→Prop)
  (hY:∀pre x W,J pre W→pre.length<s.l.length→YieldAt F (n-1) Tryz.prog l #[.int .i64 ((x.1:Nat):Int), .agg #[.bool x.2.lock, .int .i64 x.2.wh, .int .i64 x.2.what]] W fun e W' =>
   (e= .returned (.bool true)∧J (pre++ [x]) W' ∧Below n₀ W W')∨(e= .returned (.bool false)∧Jx (pre++ [x]) W'))
  (W:World) (hBs:Bs<n₀) (hBc:W.cell? ⟨Bs,0,none⟩=some (.slice s.A s.l.length s.cap)) (hs:s.At W) (h0:J [] W):
  CallsIn F n Tryz.prog 221 #[.func (.yield l) #[] #[], .pointer (some ⟨Bs,0,none⟩)] W fun e W' =>(∃v,e= .returned v)∧
   ((∃ys,ys=backN s.l s.l.length∧J ys W')∨(∃pre,(∃k,k≤s.l.length∧pre=backN s.l k)∧Jx pre W')):=by
 refine callsIn_of_wp Tryz.func221 rfl hF ?_ hro
 simp only [Tryz.ntmps221,List.size_toArray,List.length_cons,List.length_nil,Nat.reduceAdd,Nat.reduceSub,Array.replicate_succ,Array.replicate_zero,List.push_toArray,List.append_toArray,List.nil_append,List.cons_append]
 gi_wp2
 gi_loopw [3] (fun i wr=>∃k:Nat,k≤s.l.length∧i= .int .i64 ((s.l.length:Int)-1-k)∧J (backN s.l k) wr∧Below n₀ W wr)
  (fun i _=>(intOf i+1).toNat)
 case atStart=>exact ⟨0,Nat.zero_le _,by simp,h0,Below.refl _ _⟩
 case round=>
  obtain ⟨k,hk,rfl,hJs,hnx⟩:=hrel
  have hBx:wr.cell? ⟨Bs,0,none⟩=some (.slice s.A s.l.length s.cap):=(hnx.cell (p:=⟨Bs,0,none⟩) hBs).trans hBc
  have hsx:s.At wr:=hs.keep fun b hb' =>hnx.block b (hb b hb')
  by_cases hlt:k<s.l.length
  ·obtain ⟨q,hq,e9,e8⟩:∃q:Nat,q<s.l.length∧(s.l.length:Int)-1-k=((q:Nat):Int)∧s.l.length-1-k=q:=⟨s.l.length-1-k,by omega,by omega,rfl⟩
   obtain ⟨fn,tmps,assign,body,hy,hR⟩:=hY _ (q,nth s.l q) wr hJs (by rw [backN_len];exact hlt)
   dsimp only at hy
   rw [e9]
   gi_wp2
   refine hR.mono ?_
   rintro e W3 (⟨rfl,hJ3,hk3⟩|⟨rfl,hJx3⟩)
   ·gi_wp2
    go_roundw
    case rel=>exact ⟨k+1,by omega,by congr 1<;>omega,by rw [backN_succ,e8];exact hJ3,hnx.trans hk3⟩
    case measure=>simp [intOf]<;>omega
   ·gi_wp2
    refine bodyPost_ret (results_none rfl _ _ _) rfl ?_
    exact ⟨⟨_,rfl⟩, .inr ⟨_,⟨k+1,by omega,by rw [backN_succ,e8]⟩,hJx3⟩⟩
  ·obtain rfl:k=s.l.length:=by omega
   gi_wp2
   go_end0
   exact ⟨⟨_,rfl⟩, .inl ⟨_,rfl,hJs⟩⟩
set_option maxHeartbeats 1000000 in
theorem back_in (F:Fence)(n:Nat)(hF:F.fn 220)(hro:F.round=none)(a:Option Addr)(len cap:Nat)(w:World):
  CallsIn F n Tryz.prog 220 #[.slice a len cap] w fun e w' =>e= .returned (.func (.func 221) #[] #[.pointer (some ⟨w.heap.size,0,none⟩)])∧w' =w.alloc (.cells #[.slice a len cap] 267):=by
 refine callsIn_of_wp Tryz.func220 rfl hF ?_ hro
 simp only [Tryz.ntmps220,List.size_toArray,List.length_cons,List.length_nil,Nat.reduceAdd,Nat.reduceSub,Array.replicate_succ,Array.replicate_zero,List.push_toArray,List.append_toArray,List.nil_append,List.cons_append]
 gi_wp2
 go_ret
 exact ⟨rfl,rfl⟩
theorem back_stops (F:Fence)(n:Nat)(hF:F.fn 221)(hro:F.round=none)(hn:1≤n)(Bs n₀:Nat)(s:Sl Wt)(hs3:s.l.length≤3)(w:World)(hBs:Bs<n₀)(hn₀:n₀≤w.heap.size)(hb:∀b,s.on b→b<n₀)
  (hc:w.cell? ⟨Bs,0,none⟩=some (.slice s.A s.l.length s.cap)) (hs:s.At w):
  SeqStopsK F n Tryz.prog 221 #[.pointer (some ⟨Bs,0,none⟩)] (fun x:Nat×Wt=> #[Value.int .i64 ((x.1:Nat):Int), .agg #[.bool x.2.lock, .int .i64 x.2.wh, .int .i64 x.2.what]]) (Below n₀) (fun ys=>ys=backN s.l s.l.length)
   (fun pre=>∃k,k≤s.l.length∧pre=backN s.l k) s.l.length w:=fun l J Jx W hW _ _ hY h0=>
 back1_in F n hF hro hn l Bs n₀ s hs3 hb J Jx hY W hBs ((hW.cell (p:=⟨Bs,0,none⟩) (by show Bs<w.heap.size;omega)).trans hc) (hs.keep fun b hb' =>hW.block b (by have:=hb b hb';omega)) h0
end Go.Proofs.YtmjkobhkkjgplaaGreatDoor
namespace Go.Proofs.YtmjkobhkkjgplaaGreatDoor
open Go.RowKit
set_option linter.unusedSimpArgs false
set_option linter.unusedVariables false
set_option maxRecDepth 100000
set_option maxHeartbeats 4000000
theorem rep_of {c:Nat}{e:Int}{l:List Int}(h1:l.length=c)(h2:∀i,i<c→nth l i=e):l=List.replicate c e:=by
 refine ext_nth _ _ (by simpa using h1) fun i hi=> ?_
 rw [h2 i (by omega),nth_replicate _ _ _ (by omega)]
theorem nth_copy (l m:List Int)(n k i:Nat)(h1:n+k≤l.length)(h2:k≤m.length):nth (l.take n++m.take k++l.drop (n+k)) i=if i<n then nth l i else if i<n+k then nth m (i-n) else nth l i:=by
 have e1:(l.take n).length=n:=by rw [List.length_take];omega
 have e2:(m.take k).length=k:=by rw [List.length_take];omega
 have e3:(l.take n++m.take k).length=n+k:=by rw [List.length_append,e1,e2]
 rw [nth_append,e3]
 by_cases h:i<n+k
 ·rw [if_pos h,nth_append,e1]
  by_cases h3:i<n
  ·rw [if_pos h3,if_pos h3,nth_take0 h3]
  ·rw [if_neg h3,if_neg h3,if_pos h,nth_take0 (by omega)]
 ·rw [if_neg h,if_neg (by omega),if_neg h,nth_drop0,show n+k+(i-(n+k))=i by omega]
theorem mul64_c (x y:Nat)(W:World)(hx:x≤100000)(hy:y≤100000)(hxy:x*y≤100000):
    Rets Tryz.prog 165 [.int .u64 ((x:Nat):Int), .int .u64 ((y:Nat):Int)] W (fun v w' =>v= .tuple #[.int .u64 ((0:Nat):Int), .int .u64 ((x*y:Nat):Int)]∧Sh0 W w' []):=by
 refine gen Tryz.func165 Tryz.ntmps165 (Sh0.start _:Sh (fun _=>False) W W []) rfl fun a10 h10=>gG h10<|sG (oM 2 rfl<|.nl)<|sG (oM 1 rfl<|oV (r_andS (p:=x) rfl rfl rfl (show x<4294967296 from om9)) rfl<|oM 1 rfl<|.nl)<|sG (oM 1 rfl<|oV (r_shrS (p:=x) rfl rfl rfl (show x<4294967296 from om9)) rfl<|oM 1 rfl<|.nl)<|sG (oM 1 rfl<|oV (r_andS (p:=y) rfl rfl rfl (show y<4294967296 from om9)) rfl<|oM 1 rfl<|.nl)<|sG (oM 1 rfl<|oV (r_shrS (p:=y) rfl rfl rfl (show y<4294967296 from om9)) rfl<|oM 1 rfl<|.nl)<|sG (oM 2 rfl<|oV (r_mulS (p:=x) (q:=y) (r:=x*y) rfl rfl rfl rfl (show x*y<18446744073709551616 from om9)) rfl<|oM 1 rfl<|.nl)<|sG (oM 2 rfl<|oV (r_mulS (p:=0) (q:=y) (r:=0) rfl rfl rfl (by simp) (show 0<18446744073709551616 from om9)) rfl<|oM 1 rfl<|oV (r_shrS (p:=x*y) rfl rfl rfl (show x*y<4294967296 from om9)) rfl<|oV (r_addS (p:=0) (q:=0) (r:=0) rfl rfl rfl (by simp) (show 0<18446744073709551616 from om9)) rfl<|oM 1 rfl<|.nl)<|sG (oM 1 rfl<|oV (r_andS (p:=0) rfl rfl rfl (show 0<4294967296 from om9)) rfl<|oM 1 rfl<|.nl)<|gF [0,1,6,7,9,11,12] rfl<|sG (oM 1 rfl<|oV (r_shrS (p:=0) rfl rfl rfl (show 0<4294967296 from om9)) rfl<|oM 1 rfl<|.nl)<|sG (oM 3 rfl<|oV (r_mulS (p:=x) (q:=0) (r:=0) rfl rfl rfl (by simp) (show 0<18446744073709551616 from om9)) rfl<|oV (r_addS (p:=0) (q:=0) (r:=0) rfl rfl rfl (by simp) (show 0<18446744073709551616 from om9)) rfl<|oM 1 rfl<|.nl)<|sG (oM 2 rfl<|oV (r_mulS (p:=0) (q:=0) (r:=0) rfl rfl rfl (by simp) (show 0<18446744073709551616 from om9)) rfl<|oM 1 rfl<|oV (r_addS (p:=0) (q:=0) (r:=0) rfl rfl rfl (by simp) (show 0<18446744073709551616 from om9)) rfl<|oM 1 rfl<|oV (r_shrS (p:=0) rfl rfl rfl (show 0<4294967296 from om9)) rfl<|oV (r_addS (p:=0) (q:=0) (r:=0) rfl rfl rfl (by simp) (show 0<18446744073709551616 from om9)) rfl<|oM 1 rfl<|.nl)<|sG (oM 2 rfl<|oV (r_mulS (p:=x) (q:=y) (r:=x*y) rfl rfl rfl rfl (show x*y<18446744073709551616 from om9)) rfl<|oM 1 rfl<|.nl)<|gF [4,5] rfl<|gR<|fun a23 w23 h23=>x_ret2 (fn:=Tryz.f165) (t:=4) (u:=5) rfl h23 rfl rfl ?_;clear h10
 exact ⟨rfl,(h23.sh.sel [] rfl)⟩
theorem mul_c (x y:Nat)(W:World)(hx:x≤100000)(hy:y≤100000)(hxy:x*y≤100000):
    Rets Tryz.prog 147 [.int .u64 ((x:Nat):Int), .int .u64 ((y:Nat):Int)] W (fun v w' =>v= .tuple #[.int .u64 ((0:Nat):Int), .int .u64 ((x*y:Nat):Int)]∧Sh0 W w' []):=by
 refine gen Tryz.func147 Tryz.ntmps147 (Sh0.start _:Sh (fun _=>False) W W []) rfl fun a10 h10=>gG h10<|sG (oM 2 rfl<|.nl)<|gK fun _ k12=>gcF rfl rfl<|gS<|hK k12<|sK fun _ k13=>gRn (oM 2 rfl<|.nl)<|gP (fun _ _ h_=>xCl h_ bd_165 rfl (mul64_c x y _ (by omega) (by omega) (by omega))) rfl<|gRn (oM 1 rfl<|oxt rfl<|oxt rfl<|oM 2 rfl<|.nl)<|nK k13<|sG (oM 4 rfl<|.nl)<|gR<|fun a16 w16 h16=>x_ret2 (fn:=Tryz.f147) (t:=4) (u:=5) rfl h16 rfl rfl ?_;clear h10
 exact ⟨rfl,(h16.sh.sel [] rfl)⟩
theorem repeat_c (x:Ls Int)(c:Nat)(W:World)(hx:x.At W)(hx1:x.l.length=1)(hc:c≤1000):
    Rets Tryz.prog 124 [x.v, .int .i64 ((c:Nat):Int)] W (fun v w' =>∃s:Ls Int,v=s.v∧Sh0 W w' [.own 3 (⟨s.v,List.replicate c (nth x.l 0)⟩:Ls Int)]):=by
 have hxc:x.l.length*c=c:=by rw [hx1,Nat.one_mul]
 refine gen Tryz.func124 Tryz.ntmps124 (Sh0.ext1 hx:Sh (fun _=>False) W W [.at_ x]) rfl fun a10 h10=>gG h10<|sG (oM 1 rfl<|.nl)<|gK fun _ k12=>sG (oM 1 rfl<|oltN _ 0 rfl<|.nl)<|?_;clear h10
 refine gcd rfl (fun hb14 hp14=> ?_) fun hb14 hp14=> ?_
 ·skip
  exfalso
  omega
 refine gS<|hK k12<|sK fun _ k15=>gNl (aA 0 rfl) fun hl16=>gRn (oM 1 rfl<|oln sl_23 (aA 0 rfl) rfl<|oV (r_cvUN Tryz.underlying3 Tryz.underlying143 rfl rfl (show x.l.length<18446744073709551616 from om9)) rfl<|oM 1 rfl<|oV (r_cvUN Tryz.underlying3 Tryz.underlying143 rfl rfl (show c<18446744073709551616 from om9)) rfl<|.nl)<|gP (fun _ _ h_=>xCl h_ bd_147 rfl (mul_c x.l.length c _ (by omega) (by omega) (by rw [hxc];omega))) rfl<|gRn (oM 1 rfl<|oxt rfl<|oxt rfl<|oM 2 rfl<|.nl)<|nK k15<|fun a19 w19 h19=> ?_
 have h18:=h19.same (d:=6) (v' := .int .u64 ((c:Nat):Int)) rfl (by rw [hx1,Nat.one_mul];rfl)
 clear h19
 refine gG h18<|gK fun _ k20=>sG (oM 1 rfl<|ogtN 0 0 rfl<|oM 1 rfl<|oG (by decide) (r_move rfl rfl) rfl<|oG (by decide) (r_gtrN (p:=c) (q:=9223372036854775807) rfl rfl rfl) rfl<|opF (by decide) rfl<|.nl)<|?_;clear h18
 refine gcd rfl (fun hb22 hp22=> ?_) fun hb22 hp22=> ?_
 ·skip
  exfalso
  omega
 refine gS<|hK k20<|sK fun _ k23=>gRn (oM 1 rfl<|oV (r_cvI Tryz.underlying143 Tryz.underlying3 rfl rfl (show c<9223372036854775808 from om9)) rfl<|.nl)<|gE1 (fun _ _ h_=>x_make (n:=c) (0:Int) h_ sl_23 ti_3 rfl rfl rfl rfl rfl (show 8*c≤140737488355328∧c≤140737488355328 from om9) (fun w=>Flat.inner _ _) (fun b=>Flat.on _ _) rfl rfl) rfl fun v24=>gRn (oM 1 rfl<|.nl)<|nK k23<|gF [0,7] rfl<|sK fun _ k25=>gRn (oM 2 rfl<|.nl)<|gE (fun _ _ h_=>x_copy (r:=0) (n:=0) (k:=min x.l.length ((List.replicate c 0).length-0)) (s:=(⟨v24,List.replicate c 0⟩:Ls Int)) (m:=(⟨x.v,x.l⟩:Ls Int)) h_ sl_23 ti_3 rfl rfl (.inl ⟨rfl,rfl⟩) rfl rfl (h_.sh.at 1 rfl) (show 0≤(List.replicate c 0).length from om9) rfl rfl rfl) rfl<|gRn (oM 1 rfl<|.nl)<|nK k25<|gK fun _ k27=>gB<|?_
 have hk0:min x.l.length ((List.replicate c (0:Int)).length-0)=if c=0 then 0 else 1:=by rw [hx1,List.length_replicate];split<;>omega
 intro a29 w29 h29
 refine x_loop (fun m a w=>∃(n:Nat) (ro:List Int),(n≤c)∧(ro.length=c)∧(c=0∨1≤n)∧(∀i,i<n→nth ro i=nth x.l 0)∧St 48 (fun _=>False) W a w [(7,v24),(8, .int .i64 ((n:Nat):Int))] [.own 3 (⟨v24,ro⟩:Ls Int), .at_ x]∧m=c-n) ⟨_,min x.l.length ((List.replicate c 0).length-0),(List.replicate c 0).take 0++x.l.take (min x.l.length ((List.replicate c 0).length-0))++(List.replicate c 0).drop (0+min x.l.length ((List.replicate c 0).length-0)),(by rw [hk0];split<;>omega),(by simp only [List.length_append,List.length_take,List.length_drop,List.length_replicate];omega),(by rw [hk0];split<;>omega),(fun i hi=>by rw [hk0] at hi⊢;rw [nth_copy _ _ _ _ _ (by rw [List.length_replicate];split<;>omega) (by rw [hx1];split<;>omega),if_neg (by omega),if_pos (by omega),show i-0=0 by split at hi<;>omega]),h29.nf ⟨rfl,rfl,trivial⟩,rfl⟩ ?_
 clear h29
 rintro m28 a28 w28 ⟨n,ro,hn,hro,hn1,hall,h28,hm28⟩
 refine gG h28<|gK fun _ k30=>sK fun _ k31=>gNl (aO 0 rfl) fun (hl32:ro.length≤140737488355328)=>gRn (oM 2 rfl<|oln (n:=ro.length) sl_23 (aO 0 rfl) rfl<|oltN _ _ rfl<|.nl)<|nK k31<|?_;clear h28
 refine gcd rfl (fun hb33 hp33=> ?_) fun hb33 hp33=> ?_
 ·skip
  refine gS<|hK k30<|gB<|rT 7 [0] (oM 3 rfl<|oV (r_slL (s:=(⟨v24,ro⟩:Ls Int)) (k:=n) sl_23 ti_3 rfl rfl rfl (fun w h=>(h.own 0 rfl)) (show n≤ro.length from om9)) rfl<|oM 2 rfl<|oV (r_slH (s:=(⟨v24,ro⟩:Ls Int)) (j:=n) sl_23 ti_3 rfl rfl rfl (fun w h=>(h.own 0 rfl)) (show n≤ro.length from om9) (show 0<ro.length from om9)) rfl<|.nl)<|gE (fun _ _ h_=>x_copy (r:=0) (n:=n) (k:=min (ro.take n).length (ro.length-n)) (s:=(⟨v24,ro⟩:Ls Int)) (m:=(⟨(vtake v24 n),(ro.take n)⟩:Ls Int)) h_ sl_23 ti_3 rfl rfl (.inr rfl) rfl rfl (take_at (h_.sh.own 0 rfl) (show n≤ro.length from om9)) (show n≤ro.length from om9) rfl rfl rfl) rfl<|gRn (oadN _ _ (show n+(min (ro.take n).length (ro.length-n))<9223372036854775808 from om9) rfl<|oM 1 rfl<|.nl)<|nN<|fun a35 w35 h35=> ?_
  change∃_m,_m<_∧_
  refine ⟨_, ?_,n+(min (ro.take n).length (ro.length-n)),ro.take n++(ro.take n).take (min (ro.take n).length (ro.length-n))++ro.drop (n+min (ro.take n).length (ro.length-n)), ?_, ?_, ?_, ?_,h35.nf ⟨rfl,rfl,trivial⟩,rfl⟩
  · rw [hm28];rw [List.length_take,hro];omega
  · rw [List.length_take,hro] at*;omega
  · simp only [List.length_append,List.length_take,List.length_drop,hro];omega
  · omega
  · intro i hi;rw [List.length_take,hro] at hi⊢;rw [nth_copy _ _ _ _ _ (by rw [hro];omega) (by rw [List.length_take,hro];omega)];split;(exact hall i (by assumption));(try rw [if_pos (by omega)]);rw [nth_take0 (by omega)];exact hall _ (by omega)
 refine gX<|hK k27<|sG (oM 2 rfl<|.nl)<|gR<|fun a37 w37 h37=>x_ret1 (fn:=Tryz.f124) (t:=4) rfl h37 rfl ?_
 have he9:ro=List.replicate c (nth x.l 0):=rep_of hro (fun i hi=>hall i (by omega))
 rw [he9] at h37
 exact ⟨⟨v24, []⟩,rfl,(h37.sh.sel [0] rfl)⟩
theorem pnew_c (words:Ls Int)(Lk:Nat)(cv:Value)(nregs:Int)(W:World)(hwords:words.At W)(hwn:words.l.length≤64)(hlk:Lk≤4):
    Rets Tryz.prog 81 [.agg #[cv,words.v, .int .i64 ((Lk:Nat):Int), .int .i64 nregs]] W (fun v w' =>∃(g:Nat) (words' owner' :Ls Int),v= .pointer (some ⟨g,0,none⟩)∧words'.l=words.l∧owner'.l=List.replicate Lk (-1)∧Sh0 W w' [.blk g 182 [words'.v,owner'.v], .own 3 words', .own 3 owner']):=by
 refine gen Tryz.func81 Tryz.ntmps81 (Sh0.ext1 hwords:Sh (fun _=>False) W W [.at_ words]) rfl fun a10 h10=>gG h10<|sK fun _ k11=>gbx rfl rfl fun b12=>gRn (oM 1 rfl<|.nl)<|nK k11<|gK fun _ k13=>gF [0,1] rfl<|fun a14 w14 h14=>x_any ((fun Φ Ψ S a w=>(S 2=false∧S 3=false∧S 6=false∧S 8=false∧FrI 12 S Φ Ψ a∧Sh (fun _=>False) W w [.blk b12 25 [cv,words.v, .int .i64 ((Lk:Nat):Int), .int .i64 nregs], .at_ words])∨(S 2=true∧S 3=false∧S 6=false∧S 8=false∧∃(s7002:Ls Int),FrI 12 S Φ (Ψ++ [(2,5,s7002.v)]) a∧Sh (fun _=>False) W w [.own 3 (⟨s7002.v,words.l⟩:Ls Int), .blk b12 25 [cv,words.v, .int .i64 ((Lk:Nat):Int), .int .i64 nregs], .at_ words])∨(S 2=false∧S 3=true∧S 6=false∧S 8=false∧∃(v7003:Value),FrI 12 S Φ (Ψ++ [(3,6,v7003)]) a∧Sh (fun _=>False) W w [.own 3 (⟨v7003, [(-1)]⟩:Ls Int), .blk b12 25 [cv,words.v, .int .i64 ((Lk:Nat):Int), .int .i64 nregs], .at_ words])∨(S 2=true∧S 3=true∧S 6=false∧S 8=false∧∃(s7002:Ls Int) (v7003:Value),FrI 12 S Φ (Ψ++ [(2,5,s7002.v),(3,6,v7003)]) a∧Sh (fun _=>False) W w [.own 3 (⟨v7003, [(-1)]⟩:Ls Int), .own 3 (⟨s7002.v,words.l⟩:Ls Int), .blk b12 25 [cv,words.v, .int .i64 ((Lk:Nat):Int), .int .i64 nregs], .at_ words])∨(S 2=true∧S 3=true∧S 6=true∧S 8=false∧∃(s7002:Ls Int) (v7003:Value) (s7006:Ls Int),FrI 12 S Φ (Ψ++ [(2,5,s7002.v),(3,6,v7003),(6,9,s7006.v),(7,10, .agg #[s7002.v,s7006.v])]) a∧Sh (fun _=>False) W w [.own 3 (⟨s7006.v,List.replicate Lk (nth ([(-1)]) 0)⟩:Ls Int), .own 3 (⟨v7003, [(-1)]⟩:Ls Int), .own 3 (⟨s7002.v,words.l⟩:Ls Int), .blk b12 25 [cv,words.v, .int .i64 ((Lk:Nat):Int), .int .i64 nregs], .at_ words])∨(S 2=true∧S 3=true∧S 6=true∧S 8=true∧∃(s7002:Ls Int) (v7003:Value) (s7006:Ls Int) (b7008:Nat),FrI 12 S Φ (Ψ++ [(2,5,s7002.v),(3,6,v7003),(6,9,s7006.v),(7,10, .agg #[s7002.v,s7006.v]),(8,11, .pointer (some ⟨b7008,0,none⟩)),(9,2, .pointer (some ⟨b7008,0,none⟩))]) a∧Sh (fun _=>False) W w [.blk b7008 182 [s7002.v,s7006.v], .own 3 (⟨s7006.v,List.replicate Lk (nth ([(-1)]) 0)⟩:Ls Int), .own 3 (⟨v7003, [(-1)]⟩:Ls Int), .own 3 (⟨s7002.v,words.l⟩:Ls Int), .blk b12 25 [cv,words.v, .int .i64 ((Lk:Nat):Int), .int .i64 nregs], .at_ words])) [(0, .agg #[cv,words.v, .int .i64 ((Lk:Nat):Int), .int .i64 nregs]),(1, .pointer (some ⟨b12,0,none⟩))] [(0,3, .pointer (some ⟨b12,1,none⟩)),(1,4,words.v),(4,7, .pointer (some ⟨b12,2,none⟩)),(5,8, .int .i64 ((Lk:Nat):Int))]) (by kernel_rfl) (by kernel_rfl) (Or.inl (⟨rfl,rfl,rfl,rfl,FrI.start h14.fr,h14.sh.drew⟩)) ?_ ?_;clear h10
 ·intro S i o ho hSi hcl hdep a w hI
  clear h14
  rcases i with _|_|_|_|_|_|_|_|_|_|i
  ·obtain rfl:_=o:=Option.some.inj ho
   rcases hI with ⟨ν2,ν3,ν6,ν8,φ,ς⟩|⟨ν2,_⟩|⟨ν2,ν3,ν6,ν8,v7003,φ,ς⟩|⟨ν2,_⟩|⟨ν2,_⟩|⟨ν2,_⟩
   ·exact sq φ φ.fr0 ς (r_fieldB (r:=1) fl_25_1 rfl rfl rfl) 0 rfl rfl rfl rfl rfl rfl fun a hg=>Or.inl (⟨un rfl ν2,un rfl ν3,un rfl ν6,un rfl ν8,hg,ς⟩)
   ·exact no_way (cA hcl 2 0 rfl ν2) hSi
   ·exact sq φ φ.fr0 ς (r_fieldB (r:=1) fl_25_1 rfl rfl rfl) 0 rfl rfl rfl rfl rfl rfl fun a hg=>Or.inr (Or.inr (Or.inl (⟨un rfl ν2,un rfl ν3,un rfl ν6,un rfl ν8,v7003,hg,ς⟩)))
   ·exact no_way (cA hcl 2 0 rfl ν2) hSi
   ·exact no_way (cA hcl 2 0 rfl ν2) hSi
   ·exact no_way (cA hcl 2 0 rfl ν2) hSi
  ·obtain rfl:_=o:=Option.some.inj ho
   have hd0:S 0=true:=depAt hdep 0 rfl rfl
   rcases hI with ⟨ν2,ν3,ν6,ν8,φ,ς⟩|⟨ν2,_⟩|⟨ν2,ν3,ν6,ν8,v7003,φ,ς⟩|⟨ν2,_⟩|⟨ν2,_⟩|⟨ν2,_⟩
   ·exact sq φ (Fr.cons φ.fr0 (φ.at_ 0 0 3 _ rfl hd0)) ς (r_ldb (i:=0) ti_23 rfl rfl rfl rfl) 1 rfl rfl rfl rfl rfl rfl fun a hg=>Or.inl (⟨un rfl ν2,un rfl ν3,un rfl ν6,un rfl ν8,hg,ς⟩)
   ·exact no_way (cA hcl 2 1 rfl ν2) hSi
   ·exact sq φ (Fr.cons φ.fr0 (φ.at_ 0 0 3 _ rfl hd0)) ς (r_ldb (i:=1) ti_23 rfl rfl rfl rfl) 1 rfl rfl rfl rfl rfl rfl fun a hg=>Or.inr (Or.inr (Or.inl (⟨un rfl ν2,un rfl ν3,un rfl ν6,un rfl ν8,v7003,hg,ς⟩)))
   ·exact no_way (cA hcl 2 1 rfl ν2) hSi
   ·exact no_way (cA hcl 2 1 rfl ν2) hSi
   ·exact no_way (cA hcl 2 1 rfl ν2) hSi
  ·obtain rfl:_=o:=Option.some.inj ho
   have hd1:S 1=true:=depAt hdep 0 rfl rfl
   rcases hI with ⟨ν2,ν3,ν6,ν8,φ,ς⟩|⟨ν2,_⟩|⟨ν2,ν3,ν6,ν8,v7003,φ,ς⟩|⟨ν2,_⟩|⟨ν2,_⟩|⟨ν2,_⟩
   ·have hs:=St.mk (Fr.cons φ.fr0 (φ.at_ 1 1 4 _ rfl hd1)) ς
    refine step_ex (x_call hs bd_44 rfl rfl rfl rfl rfl (cloneI_c words _ (hs.sh.at 1 rfl) (by first|omega|(simp only [lens9];omega)))) (wanted_none rfl _) ?_
    rintro a24 w24 ⟨_,⟨s24,rfl,hs24⟩,hf24⟩ ⟨v0,ht24⟩
    have h24:St _ (fun _=>False) W a24 w24 _ _:=⟨hf24,hs.sh.callI hs24⟩
    clear hf24 hs24
    exact Or.inr (Or.inl (⟨upd_self _ _,un rfl ν3,un rfl ν6,un rfl ν8,s24,φ.stepW hcl hSi [0,1,2,3] (by kernel_rfl) (by kernel_rfl) ht24 h24.fr.defers (h24.fr.at_ 5 _ rfl) 4 rfl rfl rfl rfl,(h24.sh.sel [0,1,2] rfl)⟩))
   ·exact no_way ν2 hSi
   ·have hs:=St.mk (Fr.cons φ.fr0 (φ.at_ 1 1 4 _ rfl hd1)) ς
    refine step_ex (x_call hs bd_44 rfl rfl rfl rfl rfl (cloneI_c words _ (hs.sh.at 2 rfl) (by first|omega|(simp only [lens9];omega)))) (wanted_none rfl _) ?_
    rintro a25 w25 ⟨_,⟨s25,rfl,hs25⟩,hf25⟩ ⟨v0,ht25⟩
    have h25:St _ (fun _=>False) W a25 w25 _ _:=⟨hf25,hs.sh.callI hs25⟩
    clear hf25 hs25
    exact Or.inr (Or.inr (Or.inr (Or.inl (⟨upd_self _ _,un rfl ν3,un rfl ν6,un rfl ν8,s25,v7003,φ.stepW hcl hSi [0,1,2,3,5] (by kernel_rfl) (by kernel_rfl) ht25 h25.fr.defers (h25.fr.at_ 5 _ rfl) 4 rfl rfl rfl rfl,(h25.sh.sel [1,0,2,3] rfl)⟩))))
   ·exact no_way ν2 hSi
   ·exact no_way ν2 hSi
   ·exact no_way ν2 hSi
  ·obtain rfl:_=o:=Option.some.inj ho
   rcases hI with ⟨ν2,ν3,ν6,ν8,φ,ς⟩|⟨ν2,ν3,ν6,ν8,s7002,φ,ς⟩|⟨_,ν3,_⟩|⟨_,ν3,_⟩|⟨_,ν3,_⟩|⟨_,ν3,_⟩
   ·have hs:=St.mk φ.fr0 ς
    refine step_ex (x_lit (n:=1) (cs:= [.int .i64 (-1)]) ([(-1)]:List Int) hs sl_23 ti_3 rfl rfl rfl (by decide) rfl (by kernel_rfl) rfl (fun q hq w h=>Flat.inner _ _) (fun q hq b hb=>(Flat.on _ _ hb).elim) rfl rfl) (wanted_none rfl _) ?_
    rintro a26 w26 ⟨v26,h26⟩ ⟨v0,ht26⟩
    exact Or.inr (Or.inr (Or.inl (⟨un rfl ν2,upd_self _ _,un rfl ν6,un rfl ν8,v26,φ.stepW hcl hSi [0,1,2,3] (by kernel_rfl) (by kernel_rfl) ht26 h26.fr.defers (h26.fr.at_ 6 _ rfl) 4 rfl rfl rfl rfl,(h26.sh.sel [0,1,2] rfl)⟩)))
   ·have hs:=St.mk φ.fr0 ς
    refine step_ex (x_lit (n:=1) (cs:= [.int .i64 (-1)]) ([(-1)]:List Int) hs sl_23 ti_3 rfl rfl rfl (by decide) rfl (by kernel_rfl) rfl (fun q hq w h=>Flat.inner _ _) (fun q hq b hb=>(Flat.on _ _ hb).elim) rfl rfl) (wanted_none rfl _) ?_
    rintro a27 w27 ⟨v27,h27⟩ ⟨v0,ht27⟩
    exact Or.inr (Or.inr (Or.inr (Or.inl (⟨un rfl ν2,upd_self _ _,un rfl ν6,un rfl ν8,s7002,v27,φ.stepW hcl hSi [0,1,2,3,4] (by kernel_rfl) (by kernel_rfl) ht27 h27.fr.defers (h27.fr.at_ 6 _ rfl) 5 rfl rfl rfl rfl,(h27.sh.sel [0,1,2,3] rfl)⟩))))
   ·exact no_way ν3 hSi
   ·exact no_way ν3 hSi
   ·exact no_way ν3 hSi
   ·exact no_way ν3 hSi
  ·obtain rfl:_=o:=Option.some.inj ho
   rcases hI with ⟨ν2,ν3,ν6,ν8,φ,ς⟩|⟨ν2,ν3,ν6,ν8,s7002,φ,ς⟩|⟨ν2,ν3,ν6,ν8,v7003,φ,ς⟩|⟨ν2,ν3,ν6,ν8,s7002,v7003,φ,ς⟩|⟨_,_,ν6,_⟩|⟨_,_,ν6,_⟩
   ·exact sq φ φ.fr0 ς (r_fieldB (r:=2) fl_25_2 rfl rfl rfl) 2 rfl rfl rfl rfl rfl rfl fun a hg=>Or.inl (⟨un rfl ν2,un rfl ν3,un rfl ν6,un rfl ν8,hg,ς⟩)
   ·exact sq φ φ.fr0 ς (r_fieldB (r:=2) fl_25_2 rfl rfl rfl) 2 rfl rfl rfl rfl rfl rfl fun a hg=>Or.inr (Or.inl (⟨un rfl ν2,un rfl ν3,un rfl ν6,un rfl ν8,s7002,hg,ς⟩))
   ·exact sq φ φ.fr0 ς (r_fieldB (r:=2) fl_25_2 rfl rfl rfl) 2 rfl rfl rfl rfl rfl rfl fun a hg=>Or.inr (Or.inr (Or.inl (⟨un rfl ν2,un rfl ν3,un rfl ν6,un rfl ν8,v7003,hg,ς⟩)))
   ·exact sq φ φ.fr0 ς (r_fieldB (r:=2) fl_25_2 rfl rfl rfl) 2 rfl rfl rfl rfl rfl rfl fun a hg=>Or.inr (Or.inr (Or.inr (Or.inl (⟨un rfl ν2,un rfl ν3,un rfl ν6,un rfl ν8,s7002,v7003,hg,ς⟩))))
   ·exact no_way (cA hcl 6 4 rfl ν6) hSi
   ·exact no_way (cA hcl 6 4 rfl ν6) hSi
  ·obtain rfl:_=o:=Option.some.inj ho
   have hd4:S 4=true:=depAt hdep 0 rfl rfl
   rcases hI with ⟨ν2,ν3,ν6,ν8,φ,ς⟩|⟨ν2,ν3,ν6,ν8,s7002,φ,ς⟩|⟨ν2,ν3,ν6,ν8,v7003,φ,ς⟩|⟨ν2,ν3,ν6,ν8,s7002,v7003,φ,ς⟩|⟨_,_,ν6,_⟩|⟨_,_,ν6,_⟩
   ·exact sq φ (Fr.cons φ.fr0 (φ.at_ 2 4 7 _ rfl hd4)) ς (r_ldb (i:=0) ti_3 rfl rfl rfl rfl) 3 rfl rfl rfl rfl rfl rfl fun a hg=>Or.inl (⟨un rfl ν2,un rfl ν3,un rfl ν6,un rfl ν8,hg,ς⟩)
   ·exact sq φ (Fr.cons φ.fr0 (φ.at_ 2 4 7 _ rfl hd4)) ς (r_ldb (i:=1) ti_3 rfl rfl rfl rfl) 3 rfl rfl rfl rfl rfl rfl fun a hg=>Or.inr (Or.inl (⟨un rfl ν2,un rfl ν3,un rfl ν6,un rfl ν8,s7002,hg,ς⟩))
   ·exact sq φ (Fr.cons φ.fr0 (φ.at_ 2 4 7 _ rfl hd4)) ς (r_ldb (i:=1) ti_3 rfl rfl rfl rfl) 3 rfl rfl rfl rfl rfl rfl fun a hg=>Or.inr (Or.inr (Or.inl (⟨un rfl ν2,un rfl ν3,un rfl ν6,un rfl ν8,v7003,hg,ς⟩)))
   ·exact sq φ (Fr.cons φ.fr0 (φ.at_ 2 4 7 _ rfl hd4)) ς (r_ldb (i:=2) ti_3 rfl rfl rfl rfl) 3 rfl rfl rfl rfl rfl rfl fun a hg=>Or.inr (Or.inr (Or.inr (Or.inl (⟨un rfl ν2,un rfl ν3,un rfl ν6,un rfl ν8,s7002,v7003,hg,ς⟩))))
   ·exact no_way (cA hcl 6 5 rfl ν6) hSi
   ·exact no_way (cA hcl 6 5 rfl ν6) hSi
  ·obtain rfl:_=o:=Option.some.inj ho
   have hd3:S 3=true:=depAt hdep 0 rfl rfl
   have hd5:S 5=true:=depAt hdep 1 rfl rfl
   have hd2:S 2=true:=depAt hdep 2 rfl rfl
   rcases hI with ⟨ν2,_⟩|⟨_,ν3,_⟩|⟨ν2,_⟩|⟨ν2,ν3,ν6,ν8,s7002,v7003,φ,ς⟩|⟨_,_,ν6,_⟩|⟨_,_,ν6,_⟩
   ·exact no_way hd2 ν2
   ·exact no_way hd3 ν3
   ·exact no_way hd2 ν2
   ·have hs:=St.mk (Fr.cons (Fr.cons φ.fr0 (φ.at_ 5 3 6 _ rfl hd3)) (φ.at_ 3 5 8 _ rfl hd5)) ς
    refine step_ex (x_call hs bd_124 rfl rfl rfl rfl rfl (repeat_c (⟨v7003, [(-1)]⟩:Ls Int) Lk _ (hs.sh.own 0 rfl) rfl (by omega))) (wanted_none rfl _) ?_
    rintro a36 w36 ⟨_,⟨s36,rfl,hs36⟩,hf36⟩ ⟨v0,ht36⟩
    have h36:St _ (fun _=>False) W a36 w36 _ _:=⟨hf36,hs.sh.callI hs36⟩
    clear hf36 hs36
    exact Or.inr (Or.inr (Or.inr (Or.inr (Or.inl (⟨un rfl ν2,un rfl ν3,upd_self _ _,un rfl ν8,s7002,v7003,s36,φ.stepW hcl hSi [0,1,2,3,4,5] (by kernel_rfl) (by kernel_rfl) ht36 h36.fr.defers (h36.fr.at_ 9 _ rfl) 6 rfl rfl rfl rfl,(h36.sh.sel [0,1,2,3,4] rfl)⟩)))))
   ·exact no_way ν6 hSi
   ·exact no_way ν6 hSi
  ·obtain rfl:_=o:=Option.some.inj ho
   have hd2:S 2=true:=depAt hdep 0 rfl rfl
   have hd6:S 6=true:=depAt hdep 1 rfl rfl
   rcases hI with ⟨ν2,_⟩|⟨_,ν3,_⟩|⟨ν2,_⟩|⟨_,_,ν6,_⟩|⟨ν2,ν3,ν6,ν8,s7002,v7003,s7006,φ,ς⟩|⟨_,_,_,ν8,_⟩
   ·exact no_way hd2 ν2
   ·exact no_way (cA hcl 6 3 rfl hd6) ν3
   ·exact no_way hd2 ν2
   ·exact no_way hd6 ν6
   ·exact sq φ (Fr.cons (Fr.cons φ.fr0 (φ.at_ 4 2 5 _ rfl hd2)) (φ.at_ 6 6 9 _ rfl hd6)) ς (r_buildS (cs:= [s7002.v,s7006.v]) rfl rfl (fun w h=>by obtain ⟨A38,n38,c38,(e38:s7006.v=_)⟩:=((h.own 0 rfl)).form;rw [e38];obtain ⟨A37,n37,c37,(e37:s7002.v=_)⟩:=((h.own 2 rfl)).form;rw [e37];kernel_rfl)) 7 rfl rfl rfl rfl rfl rfl fun a hg=>Or.inr (Or.inr (Or.inr (Or.inr (Or.inl (⟨un rfl ν2,un rfl ν3,un rfl ν6,un rfl ν8,s7002,v7003,s7006,hg,ς⟩)))))
   ·exact no_way (cA hcl 8 7 rfl ν8) hSi
  ·obtain rfl:_=o:=Option.some.inj ho
   have hd7:S 7=true:=depAt hdep 0 rfl rfl
   rcases hI with ⟨ν2,_⟩|⟨_,ν3,_⟩|⟨ν2,_⟩|⟨_,_,ν6,_⟩|⟨ν2,ν3,ν6,ν8,s7002,v7003,s7006,φ,ς⟩|⟨_,_,_,ν8,_⟩
   ·exact no_way (cA hcl 7 2 rfl hd7) ν2
   ·exact no_way (cA hcl 7 3 rfl hd7) ν3
   ·exact no_way (cA hcl 7 2 rfl hd7) ν2
   ·exact no_way (cA hcl 7 6 rfl hd7) ν6
   ·have hs:=St.mk (Fr.cons φ.fr0 (φ.at_ 7 7 10 _ rfl hd7)) ς
    refine step_ex (x_box (cs:= [s7002.v,s7006.v]) hs rfl rfl rfl rfl rfl) (wanted_none rfl _) ?_
    rintro a40 w40 ⟨b40,h40⟩ ⟨v0,ht40⟩
    exact Or.inr (Or.inr (Or.inr (Or.inr (Or.inr (⟨un rfl ν2,un rfl ν3,un rfl ν6,upd_self _ _,s7002,v7003,s7006,b40,φ.stepW hcl hSi [0,1,2,3,4,5,6,7] (by kernel_rfl) (by kernel_rfl) ht40 h40.fr.defers (h40.fr.at_ 11 _ rfl) 8 rfl rfl rfl rfl,(h40.sh.sel [0,1,2,3,4,5] rfl)⟩)))))
   ·exact no_way ν8 hSi
  ·obtain rfl:_=o:=Option.some.inj ho
   have hd8:S 8=true:=depAt hdep 0 rfl rfl
   have hd6:S 6=true:=depAt hdep 1 rfl rfl
   have hd2:S 2=true:=depAt hdep 4 rfl rfl
   have hd3:S 3=true:=depAt hdep 5 rfl rfl
   rcases hI with ⟨ν2,_⟩|⟨_,ν3,_⟩|⟨ν2,_⟩|⟨_,_,ν6,_⟩|⟨_,_,_,ν8,_⟩|⟨ν2,ν3,ν6,ν8,s7002,v7003,s7006,b7008,φ,ς⟩
   ·exact no_way hd2 ν2
   ·exact no_way hd3 ν3
   ·exact no_way hd2 ν2
   ·exact no_way hd6 ν6
   ·exact no_way hd8 ν8
   ·exact sq φ (Fr.cons φ.fr0 (φ.at_ 8 8 11 _ rfl hd8)) ς (r_assign rfl rfl) 9 rfl rfl rfl rfl rfl rfl fun a hg=>Or.inr (Or.inr (Or.inr (Or.inr (Or.inr (⟨un rfl ν2,un rfl ν3,un rfl ν6,un rfl ν8,s7002,v7003,s7006,b7008,hg,ς⟩)))))
  · simp at ho
 intro S hall a w hI
 clear h14
 rcases hI with ⟨ν2,ν3,ν6,ν8,φ,ς⟩|⟨ν2,ν3,ν6,ν8,s7002,φ,ς⟩|⟨ν2,ν3,ν6,ν8,v7003,φ,ς⟩|⟨ν2,ν3,ν6,ν8,s7002,v7003,φ,ς⟩|⟨ν2,ν3,ν6,ν8,s7002,v7003,s7006,φ,ς⟩|⟨ν2,ν3,ν6,ν8,s7002,v7003,s7006,b7008,φ,ς⟩
 · exact no_way (hall 2 (by decide)) ν2
 · exact no_way (hall 3 (by decide)) ν3
 · exact no_way (hall 2 (by decide)) ν2
 · exact no_way (hall 6 (by decide)) ν6
 · exact no_way (hall 8 (by decide)) ν8
 have h42:St 12 (fun _=>False) W a w _ _:=⟨(Fr.cons φ.fr0 (φ.at_ 9 9 2 _ rfl (hall 9 (by decide)))),ς⟩
 clear hall φ ς ν2 ν3 ν6 ν8
 refine gG h42<|hK k13<|gR<|fun a43 w43 h43=>x_ret1 (fn:=Tryz.f81) (t:=2) rfl h43 rfl ?_;clear h42
 exact ⟨b7008,⟨s7002.v,words.l⟩,⟨s7006.v,List.replicate Lk (nth ([(-1)]) 0)⟩,rfl,rfl,rfl,(h43.sh.sel [0,3,1] rfl)⟩
theorem plLoad_c (g:Nat)(words owner:Ls Int)(t a b:Int)(W:World)(hB:Blk W g 182 #[words.v,owner.v])(hw:words.At W)(ho:owner.At W)(ha:0≤a∧a<words.l.length):
    Rets Tryz.prog 202 [.pointer (some ⟨g,0,none⟩), .int .i64 t, .int .i64 a] W (fun v w' =>v= .int .i64 (nth words.l a.toNat)∧Sh0 W w' []):=by
 refine gen Tryz.func202 Tryz.ntmps202 (Sh0.ext (by intro A hA;simp only [List.mem_cons,List.not_mem_nil,or_false] at hA;rcases hA with rfl|rfl|rfl;exact hB;exact hw;exact ho) (by intro A hA b hb;simp only [List.mem_cons,List.not_mem_nil,or_false] at hA;rcases hA with rfl|rfl|rfl<;>exact hb):Sh (fun _=>False) W W [.rblk g 182 [words.v,owner.v], .at_ words, .at_ owner]) rfl fun a10 h10=>gG h10<|sG (oM 1 rfl<|.nl)<|sK fun _ k12=>gNl (aA 1 rfl) fun hl13=>gRn (oM 1 rfl<|onf fl_182_0 rfl<|olR 0 ti_23 rfl rfl<|oM 1 rfl<|oxI sl_23 ti_3 (aA 1 rfl) om9 rfl<|olI ti_3 (aA 1 rfl) om9 rfl<|oM 1 rfl<|.nl)<|nK k12<|gR<|fun a14 w14 h14=>x_ret1 (fn:=Tryz.f202) (t:=6) rfl h14 rfl ?_;clear h10
 exact ⟨rfl,(h14.sh.sel [] rfl)⟩
theorem plBase_c (g:Nat)(words owner:Ls Int)(t a b:Int)(W:World)(hB:Blk W g 182 #[words.v,owner.v])(hw:words.At W)(ho:owner.At W):
    Rets Tryz.prog 197 [.pointer (some ⟨g,0,none⟩)] W (fun v w' =>v= .pointer (some ⟨g,0,none⟩)∧Sh0 W w' []):=by
 refine gen Tryz.func197 Tryz.ntmps197 (Sh0.ext (by intro A hA;simp only [List.mem_cons,List.not_mem_nil,or_false] at hA;rcases hA with rfl|rfl|rfl;exact hB;exact hw;exact ho) (by intro A hA b hb;simp only [List.mem_cons,List.not_mem_nil,or_false] at hA;rcases hA with rfl|rfl|rfl<;>exact hb):Sh (fun _=>False) W W [.rblk g 182 [words.v,owner.v], .at_ words, .at_ owner]) rfl fun a10 h10=>gG h10<|sG (oM 1 rfl<|.nl)<|sG (oM 2 rfl<|.nl)<|gR<|fun a13 w13 h13=>x_ret1 (fn:=Tryz.f197) (t:=2) rfl h13 rfl ?_;clear h10
 exact ⟨rfl,(h13.sh.sel [] rfl)⟩
theorem plStore_c (K:Nat→Prop)(g:Nat)(words owner:Ls Int)(t a b:Int)(W:World)(hS:Sh K W W [.blk g 182 [words.v,owner.v], .own 3 words, .own 3 owner])(ha:0≤a∧a<words.l.length):
    Rets Tryz.prog 204 [.pointer (some ⟨g,0,none⟩), .int .i64 t, .int .i64 a, .int .i64 b] W (fun v w' =>v= .tuple #[]∧Sh K W w' [.blk g 182 [words.v,owner.v], .own 3 (⟨words.v,words.l.set a.toNat b⟩:Ls Int), .own 3 (⟨owner.v,owner.l⟩:Ls Int)]):=by
 refine gen Tryz.func204 Tryz.ntmps204 hS rfl fun a10 h10=>gG h10<|gL<|gNl (aO 1 rfl) fun hl11=>gRn (oM 1 rfl<|onfl 0 fl_182_0 ti_23 rfl rfl<|oM 2 rfl<|oxI sl_23 ti_3 (aO 1 rfl) om9 rfl<|.nl)<|gte 1 (b:Int) ti_3 om9 rfl rfl<|nN<|fun a13 w13 h13=> ?_;clear h10
 try simp only [Exit.then,Exit.inBlock,if_true]
 refine x_end0 (fn:=Tryz.f204) rfl h13 ?_
 exact ⟨rfl,h13.sh⟩
theorem plSwap_c (K:Nat→Prop)(g:Nat)(words owner:Ls Int)(t a b:Int)(W:World)(hS:Sh K W W [.blk g 182 [words.v,owner.v], .own 3 words, .own 3 owner])(ha:0≤a∧a<words.l.length):
    Rets Tryz.prog 205 [.pointer (some ⟨g,0,none⟩), .int .i64 t, .int .i64 a, .int .i64 b] W (fun v w' =>v= .tuple #[]∧Sh K W w' [.blk g 182 [words.v,owner.v], .own 3 (⟨words.v,words.l.set a.toNat b⟩:Ls Int), .own 3 (⟨owner.v,owner.l⟩:Ls Int)]):=by
 refine gen Tryz.func205 Tryz.ntmps205 hS rfl fun a10 h10=>gG h10<|gL<|gNl (aO 1 rfl) fun hl11=>gRn (oM 1 rfl<|onfl 0 fl_182_0 ti_23 rfl rfl<|oM 2 rfl<|oxI sl_23 ti_3 (aO 1 rfl) om9 rfl<|.nl)<|gte 1 (b:Int) ti_3 om9 rfl rfl<|nN<|fun a13 w13 h13=> ?_;clear h10
 try simp only [Exit.then,Exit.inBlock,if_true]
 refine x_end0 (fn:=Tryz.f205) rfl h13 ?_
 exact ⟨rfl,h13.sh⟩
theorem plFree_c (K:Nat→Prop)(g:Nat)(words owner:Ls Int)(t a b:Int)(W:World)(hS:Sh K W W [.blk g 182 [words.v,owner.v], .own 3 words, .own 3 owner])(ha:0≤a∧a<owner.l.length):
    Rets Tryz.prog 200 [.pointer (some ⟨g,0,none⟩), .int .i64 t, .int .i64 a] W (fun v w' =>v= .tuple #[]∧Sh K W w' [.blk g 182 [words.v,owner.v], .own 3 (⟨words.v,words.l⟩:Ls Int), .own 3 (⟨owner.v,owner.l.set a.toNat (-1)⟩:Ls Int)]):=by
 refine gen Tryz.func200 Tryz.ntmps200 hS rfl fun a10 h10=>gG h10<|gL<|gNl (aO 2 rfl) fun hl11=>gRn (oM 1 rfl<|onfl 0 fl_182_1 ti_23 rfl rfl<|oM 1 rfl<|oxI sl_23 ti_3 (aO 2 rfl) om9 rfl<|.nl)<|gte 2 ((-1):Int) ti_3 om9 rfl rfl<|nN<|fun a13 w13 h13=> ?_;clear h10
 try simp only [Exit.then,Exit.inBlock,if_true]
 refine x_end0 (fn:=Tryz.f200) rfl h13 ?_
 exact ⟨rfl,h13.sh⟩
end Go.Proofs.YtmjkobhkkjgplaaGreatDoor
namespace Go.Proofs.YtmjkobhkkjgplaaGreatDoor
open Go.RowKit Go.Shelf
set_option linter.unusedSimpArgs false
set_option linter.unusedVariables false
attribute [local go_sem] Oper.semAt_some sz_wt agg_wt cell_wt0 cell_wt1 cell_wt2 whole_wt
@[local go_sem] theorem cell_lsw (x:Ls Wt) (j:Nat):Enc.cell x j=x.v:=rfl
@[local go_sem] theorem sz_lsw:Enc.sz (Ls Wt)=1:=rfl
def NoM (wd:Int)(pre:List (Nat×Wt)):Prop:=∀x∈pre,¬(x.2.lock=false∧x.2.wh=wd)
def HitM (wd:Int)(pre:List (Nat×Wt))(what:Int):Prop:=∃pre' x,pre=pre' ++ [x]∧NoM wd pre' ∧x.2.lock=false∧x.2.wh=wd∧x.2.what=what
theorem noM_snoc {wd:Int}{pre:List (Nat×Wt)}{x:Nat×Wt}(h:NoM wd pre)(hx:¬(x.2.lock=false∧x.2.wh=wd)):NoM wd (pre++ [x]):=fun y hy=>by
 rcases List.mem_append.1 hy with hy|hy
 ·exact h y hy
 ·obtain rfl:y=x:=by simpa using hy
  exact hx
theorem blk_own {β:Type}(B:Nat)(t:TypeId)(f:β→Array Value):Own (fun s W=>Blk W B t (f s)):=fun s X Y row hs hg hrow=>by
 refine (hg.block B hs.lt ?_).trans hs
 intro e'
 obtain ⟨o,ho,hc⟩:=hrow B e'.symm
 rw [show X.heap[B]? =_ from hs] at ho
 cases ho
 cases hc
theorem x_tailG {P:Program}{Q:Exit→Act→World→Prop}{C:World→Prop}{a:Act}{w:World}{id:Nat}{l:List Oper}(m:Nat)(ps:List Nat)(hm:P.follows .mixedOrders=true)(hB:tailB l m ps=true)(hC:C w.drew)(hl:opsAt l.toArray ps++opsAt l.toArray (quietIs m ps)=l.take m)
  (k:∀Z:Act→Prop,(∀a',(∀w',C w' →wpList P l.toArray (fun e a w=>match e with| .normal=>Q .normal a w|_=>False) (l.drop m) a' w')→Z a')→wpQuiet P l.toArray C Z (l.take m) a):(Code.region id l.toArray true).wp P Q a w:=by
 rw [←hl] at k
 simp only [tailB,Bool.and_eq_true,Nat.ble_eq] at hB
 obtain ⟨h1,h2,h3,h4,h5,h6,h7⟩:=hB
 have hpm:∀p∈ps,p<m:=fun p hp=>by simpa using (List.all_eq_true.1 h5) p hp
 refine Code.wp_mono (Q:=fun e a w=>match e with| .normal=>Q .normal a w|_=>False) (fun e a w he=>by cases e<;>first|exact he|exact he.elim) ?_
 refine wp_region_any hm ?_
 split at h7
 ·rename_i lp hlp
  have hq:=k _ (fun _ h=>h)
  have hcl0:ClosedB l (fun j=>(Array.replicate l.length false).getD j false):=by
   intro i o _ hS;simp only [Array.getD_eq_getD_getElem?,Array.getElem?_replicate] at hS;split at hS<;>cases hS
  obtain ⟨c1,c2,c3,c4,c5⟩:=pureIs_spec ps _ lp hlp hcl0
  have hsz:lp.size=l.length:=by simpa using c2
  have hlen:l.toArray.size=((quietIs m ps).length+(l.length-m))+ps.length:=by
   have:=Nat.eq_of_beq_eq_true h6
   simp;omega
  rw [hlen]
  rw [show Array.replicate ((quietIs m ps).length+(l.length-m)+ps.length) false=Array.replicate l.length false by rw [←hlen];simp]
  refine any_pure (C:=C) h4 (fun c a w h=>h) ps _ _ lp a w.drew hC hlp hq fun a' hq' => ?_
  have h8:=anyQ_is (P:=P) h4 (quietIs m ps) _ a' h7 hq'
  have hot:∀j,j<l.length→(orTail lp m).getD j false=(lp.getD j false||Nat.ble m j):=by
   intro j hj
   simp [orTail,Array.getD_eq_getD_getElem?,hsz,hj]
  refine any_tail (C:=C) hpm h1 h2 h3 _ lp (orTail lp m) a' w.drew hC (c4 (by simp)) c1 hsz (by simp [orTail,hsz]) (fun j hj=> ?_) (fun j hj hj2=> ?_) h8
  ·rw [hot j (by omega)]
   cases hb:Nat.ble m j
   ·simp
   ·rw [Nat.ble_eq] at hb;omega
  ·refine ⟨?_,by rw [hot j hj2,show Nat.ble m j=true by rw [Nat.ble_eq];exact hj];simp⟩
   rw [c5 j (fun hp=>by have:=hpm j hp;omega)]
   simp [Array.getD_eq_getD_getElem?,Array.getElem?_replicate,hj2]
 ·cases h7
theorem buf_leave {W:World}{D b:Nat}{v:Int}{R:Ending→World→Prop}{tmps:Array Value}{o:Obj}(hb:Boxed W b 3 (.int .i64 v))(hne:b≠D)(ht:tmps.getD 6 undef= .pointer (some ⟨b,0,none⟩))(hR:R (.returned (.int .i64 v)) (W.putObj D o)):
  LeavesInM Fence.wide 6 Tryz.prog Tryz.f212 tmps R [] .returning (W.putObj D o):=by
 have hb' :Boxed (W.putObj D o) b 3 (.int .i64 v):=(World.putObj_heap_other hne).trans hb
 have hc:=hb'.cell
 refine ⟨.int .i64 v, ?_,hR⟩
 unfold results
 rw [Array.getD_eq_getD_getElem?] at ht
 simp [Tryz.f212,ht,asAddr]
 unfold Boxed at hb'
 simp [loadVar,World.cell?,hb']
set_option maxRecDepth 100000 in
set_option maxHeartbeats 4000000 in
theorem bufLoad_in (g1 g0 t:Nat)(wait:Sl (Ls Wt))(row:Sl Wt)(words owner:Ls Int)(wd:Int)(w:World)(hB1:Blk w g1 185 #[.pointer (some ⟨g0,0,none⟩), .slice wait.A wait.l.length wait.cap])(hB0:Blk w g0 182 #[words.v,owner.v])
  (hwo:words.At w) (hoo:owner.At w) (hwa:wait.At w) (ht:t<wait.l.length) (hrv:(nth wait.l t).v= .slice row.A row.l.length row.cap) (hr:row.At w) (hr3:row.l.length≤3) (hwd:0≤wd∧wd<words.l.length):
  CallsIn Fence.wide 6 Tryz.prog 212 #[.pointer (some ⟨g1,0,none⟩), .int .i64 ((t:Nat):Int), .int .i64 wd] w fun e W' =>e= .returned (.int .i64 (findsL row.l words.l wd))∧Below w.heap.size w W' :=by
 refine callsIn_of_wp_marks Tryz.func212 rfl trivial ?_ rfl
 simp only [Tryz.ntmps212,List.size_toArray,List.length_cons,List.length_nil,Nat.reduceAdd,Nat.reduceSub,Array.replicate_succ,Array.replicate_zero,List.push_toArray,List.append_toArray,List.nil_append,List.cons_append]
 have hlt1:=hB1.lt
 have hB1' :=hB1
 have bW:=(Boxed.new w 3 (.int .i64 wd)).alloc (.cells #[.int .i64 0] 3)
 have bR:=Boxed.new (w.alloc (.cells #[.int .i64 wd] 3)) 3 (.int .i64 0)
 simp only [World.size_alloc] at bR
 have hA1:Below w.heap.size w ((w.alloc (.cells #[.int .i64 wd] 3)).alloc (.cells #[.int .i64 0] 3)):=((Below.refl _ w).alloc (Nat.le_refl _) _).alloc (by simp) _
 have hB1a:=(hB1.alloc (.cells #[.int .i64 wd] 3)).alloc (.cells #[.int .i64 0] 3)
 obtain ⟨c0,c1⟩:=hB1a.cells2
 have hwaa:wait.At ((w.alloc (.cells #[.int .i64 wd] 3)).alloc (.cells #[.int .i64 0] 3)):=hwa.keep fun b hb=>hA1.block b (hwa.lt hb)
 have ht' :(t:Int)<wait.l.length:=by omega
 gi_wp2_with (refine ⟨trivial, ?_⟩;gi_at_call 220;refine (back_in Fence.wide _ trivial rfl _ _ _ _).mono ?_;rintro e w' ⟨rfl,rfl⟩)
 have bW2:=bW.alloc (.cells #[.slice row.A row.l.length row.cap] 267)
 have bR2:=bR.alloc (.cells #[.slice row.A row.l.length row.cap] 267)
 have bS:=Boxed.new ((w.alloc (.cells #[.int .i64 wd] 3)).alloc (.cells #[.int .i64 0] 3)) 267 (.slice row.A row.l.length row.cap)
 simp only [World.size_alloc] at bS
 have hA2:Below w.heap.size w (((w.alloc (.cells #[.int .i64 wd] 3)).alloc (.cells #[.int .i64 0] 3)).alloc (.cells #[.slice row.A row.l.length row.cap] 267)):=hA1.alloc (by simp;omega) _
 have hsz:(((w.alloc (.cells #[.int .i64 wd] 3)).alloc (.cells #[.int .i64 0] 3)).alloc (.cells #[.slice row.A row.l.length row.cap] 267)).heap.size=w.heap.size+3:=by simp
 obtain ⟨W0,hW0⟩:∃W0,((w.alloc (.cells #[.int .i64 wd] 3)).alloc (.cells #[.int .i64 0] 3)).alloc (.cells #[.slice row.A row.l.length row.cap] 267)=W0:=⟨_,rfl⟩
 rw [hW0] at bW2 bR2 bS hA2 hsz⊢
 clear hW0 c0 c1 hB1a hwaa hA1 bR bW
 have hsz1:w.heap.size+3≤W0.heap.size:=by omega
 clear hsz
 have hrow0:row.At W0:=hr.keep fun b hb=>hA2.block b (hr.lt hb)
 refine wpIn_rangeFunc_ownH rfl (by omega) (gf:=221) (lb:= #[.pointer (some ⟨w.heap.size+1+1,0,none⟩)]) rfl trivial (enters_of Tryz.func221 (by kernel_rfl) rfl)
  (back_stops Fence.wide (6-1) trivial rfl (by omega) (w.heap.size+1+1) W0.heap.size row hr3 W0 (by omega) (Nat.le_refl _) (fun b hb=>by have:=hr.lt hb;omega) bS.cell hrow0) belowK_t (belowK_b (Nat.le_refl _)) (Below.refl _ _) (fun _=>rfl)
  (fun pre W=>((Boxed W w.heap.size 3 (.int .i64 wd)∧Boxed W (w.heap.size+1) 3 (.int .i64 0))∧Below W0.heap.size W0 W)∧NoM wd pre)
  (fun c pre W=>(∃what:Int,(c= .ret∧HitM wd pre what)∧Boxed W (w.heap.size+1) 3 (.int .i64 what))∧Below w.heap.size w W)
  (OwnFrom.and (OwnFrom.and (OwnFrom.and (Own.from (boxed_own _ _ _) _) (Own.from (boxed_own _ _ _) _)) (ownFrom_below (Nat.le_refl _) (Nat.le_refl _))) (fun _ _ _ _ hs _ _=>hs))
  (fun c=>OwnFrom.and (fun s X Y rw_ hs hg hrr=>by
   obtain ⟨what,h1,h2⟩:=hs
   exact ⟨what,h1,boxed_own (w.heap.size+1) 3 (fun (_:Unit)=>Value.int .i64 what) () X Y rw_ h2 hg (fun r e=>(hrr r e).2)⟩) (ownFrom_below (Nat.le_refl _) (by omega)))
  ⟨⟨⟨bW2,bR2⟩,Below.refl _ _⟩,fun x hx=>by cases hx⟩
  (fun x a' W=>∃Bx,w.heap.size+1<Bx∧Blk W Bx 266 #[.bool x.2.lock, .int .i64 x.2.wh, .int .i64 x.2.what]∧a' = { tmps:= #[.pointer (some ⟨g1,0,none⟩), .int .i64 ((t:Nat):Int), .int .i64 wd,undef,undef, .pointer (some ⟨w.heap.size,0,none⟩), .pointer (some ⟨w.heap.size+1,0,none⟩),undef, .pointer (some ⟨Bx,0,none⟩), .pointer (some ⟨g1,0,none⟩), .pointer (some ⟨g1,0,none⟩), .pointer (some ⟨g1,1,none⟩), .slice wait.A wait.l.length wait.cap, .int .i64 ((t:Nat):Int), .pointer (some (wait.adr 1 t 0)), .slice row.A row.l.length row.cap, .func (.func 221) #[] #[.pointer (some ⟨w.heap.size+1+1,0,none⟩)], .int .i64 ((x.1:Nat):Int), .agg #[.bool x.2.lock, .int .i64 x.2.wh, .int .i64 x.2.what],undef,undef,undef,undef,undef,undef,undef,undef,undef,undef,undef,undef,undef,undef,undef,undef,undef,undef],defers:= [] })
  (fun x a' _ X Y rw_ hs hg hrr=>by obtain ⟨Bx,h1,h2,h3⟩:=hs;exact ⟨Bx,h1,blk_own Bx 266 (fun (_:Unit)=> #[Value.bool x.2.lock, .int .i64 x.2.wh, .int .i64 x.2.what]) () X Y rw_ h2 hg (fun r e=>(hrr r e).2),h3⟩)
  ?assign ?body ?done ?stop
 case assign=>
  rintro l pre x W K ⟨⟨⟨bW1,bR1⟩,hB1⟩,hno⟩ hK
  gi_wp2
  exact hK _ _ ((KeepsOthers.alloc _ _).from _) ((Below.refl _ W).alloc hB1.size _) ⟨⟨⟨bW1.alloc _,bR1.alloc _⟩,hB1.alloc hB1.size _⟩,hno⟩ ⟨W.heap.size,bR1.lt,Blk.new W 266 _,rfl⟩
 case body=>
  rintro l pre ⟨j,⟨lock,wh,what⟩⟩ a' W hl ⟨r,hr9⟩ ⟨⟨⟨bW1,bR1⟩,hB1⟩,hno⟩ ⟨Bx,hBx,bX,rfl⟩ hlt
  obtain ⟨x0,x1,x2⟩:=bX.cells3
  have cW:=bW1.cell
  have cR:=bR1.cell
  have fR:=bR1.frozen
  dsimp only at x0 x1 x2
  cases lock
  ·by_cases he:wh=wd
   ·subst he
    gi_wp2
    exact ⟨(KeepsOthers.setCell _ _ _).from _,⟨what,⟨rfl,pre,(j,⟨false,wh,what⟩),rfl,hno,rfl,rfl,rfl⟩,bR1.set _⟩,(hA2.trans (hB1.mono hA2.size)).setCell (p:=⟨w.heap.size+1,0,none⟩) (by show w.heap.size≤w.heap.size+1;omega) _⟩
   ·gi_wp2
    exact ⟨KeepsFrom.refl _ _,Below.refl _ _,⟨⟨bW1,bR1⟩,hB1⟩,noM_snoc hno (fun h=>he h.2)⟩
  ·gi_wp2
   exact ⟨KeepsFrom.refl _ _,Below.refl _ _,⟨⟨bW1,bR1⟩,hB1⟩,noM_snoc hno (fun h=>by cases h.1)⟩
 case done=>
  rename_i Q9 K9 hK9
  rintro D ys W hD rfl ⟨⟨⟨bW1,bR1⟩,hB1⟩,hno⟩ hK
  have hbW:Below w.heap.size w W:=hA2.trans (hB1.mono hA2.size)
  obtain ⟨c0,c1⟩:=(hB1'.below' hbW).cells2
  have cW:=bW1.cell
  have cR:=bR1.cell
  have hlD:D<W.heap.size:=(Array.getElem?_eq_some_iff.1 hK).1
  have hfin:findsL row.l words.l wd=nth words.l wd.toNat:=findsL_none fun i hi h9=>by
   refine hno (i,nth row.l i) ?_ h9
   exact List.mem_map.2 ⟨row.l.length-1-i,List.mem_range.2 (by omega),by rw [show row.l.length-1-(row.l.length-1-i)=i by omega]⟩
  have X0:∀x:XW W,x.w.cell? ⟨g1,0,none⟩=some (.pointer (some ⟨g0,0,none⟩)):=fun x=>((hB1'.below' hbW).below' x.h).cells2.1
  have X1:∀x:XW W,x.w.cell? ⟨w.heap.size,0,none⟩=some (.int .i64 wd):=fun x=>by rw [x.h.cell (show w.heap.size<W.heap.size from bW1.lt)];exact cW
  refine hK9 _ _ (wpIn_seq (wpIn_wide.2 ?_))
  refine x_tailG 6 [] (by kernel_rfl) (by kernel_rfl) (C:=fun w' =>∃x:XW W,w' =x.w) ⟨⟨_,(Below.refl _ _).drew⟩,rfl⟩ (by kernel_rfl) fun Z hZ=> ?_
  simp only [List.take_succ_cons,List.take_zero]
  repeat (go_big_quiet_step (fail))
  refine wpQuiet_nil (hZ _ ?_)
  rintro _ ⟨x,rfl⟩
  simp only [List.drop_succ_cons,List.drop_zero]
  have hbx:Below w.heap.size w x.w:=hbW.trans (x.h.mono hbW.size)
  have bRx:Boxed x.w (w.heap.size+1) 3 (.int .i64 0):=(x.h.block _ bR1.lt).trans bR1
  have hKx:x.w.heap[D]? =some (.deferred (some [])):=(x.h.block _ hlD).trans hK
  go_wp2_with (go_at_call 202;refine Calls.mono (plLoad_c g0 words owner ((t:Nat):Int) wd 0 x.w (hB0.below' hbx) (hwo.keep fun b hb=>hbx.block b (hwo.lt hb)) (hoo.keep fun b hb=>hbx.block b (hoo.lt hb)) hwd) ?_;rintro e w' ⟨v,rfl,rfl,hs⟩;have hb9:Below w.heap.size w w' :=hbx.trans (hs.chg.to_below.mono hbx.size);have bR9:Boxed w' (w.heap.size+1) 3 (.int .i64 0):=(hs.chg.to_below.block _ bRx.lt).trans bRx;have hK9:w'.heap[D]? =some (.deferred (some [])):=(hs.chg.to_below.block _ (Array.getElem?_eq_some_iff.1 hKx).1).trans hKx;have cR9:=bR9.cell;have fR9:=bR9.frozen)
  gi_wp2
  exact ⟨by simp, .inl ⟨_,_,rfl,run_takeDeferred ((Below.heap_setCell _ _ _ D (by show D≠w.heap.size+1;omega)).trans hK9),buf_leave (bR9.set _) (by omega) rfl ⟨by rw [hfin],(hb9.setCell (p:=⟨w.heap.size+1,0,none⟩) (by show w.heap.size≤w.heap.size+1;omega) _).trans (belowK_b (w:=W0) (by omega) _ D _ (.deferred none) (by omega) ((Below.heap_setCell _ _ _ D (by show D≠w.heap.size+1;omega)).trans hK9) rfl rfl)⟩⟩⟩
 case stop=>
  rintro D c pre W hD ⟨k,hk,rfl⟩ ⟨⟨what,⟨rfl,hhit⟩,bR1⟩,hB1⟩ hK
  gi_wp2
  have hval:findsL row.l words.l wd=what:=by
   obtain ⟨pre',x,h1,h2,h3,h4,h5⟩:=hhit
   cases k with
   |zero=>have:=congrArg List.length h1;simp [backN] at this
   |succ k=>
    rw [backN_succ] at h1
    obtain ⟨e1,e2⟩:=List.append_inj' h1 rfl
    have e3:(row.l.length-1-k,nth row.l (row.l.length-1-k))=x:=by simpa using e2
    subst e3 e1
    refine (findsL_some (i:=row.l.length-1-k) (by omega) h3 h4 fun j hj hjl h9=>h2 (j,nth row.l j) ?_ h9).trans h5
    exact List.mem_map.2 ⟨row.l.length-1-j,List.mem_range.2 (by omega),by rw [show row.l.length-1-(row.l.length-1-j)=j by omega]⟩
  refine ⟨by simp, .inl ⟨_,_,rfl,run_takeDeferred hK,buf_leave bR1 (by omega) rfl ⟨by rw [hval],hB1.trans (belowK_b (w:=W0) (by omega) W D _ (.deferred none) (by omega) hK rfl rfl)⟩⟩⟩
end Go.Proofs.YtmjkobhkkjgplaaGreatDoor
namespace Go.Proofs.YtmjkobhkkjgplaaGreatDoor
open Go.RowKit
set_option linter.unusedSimpArgs false
set_option linter.unusedVariables false
def vcap (v:Value):Nat:=match v with
 | .slice _ _ c=>c
 |_=>0
def vsub (v:Value)(sz lo hi:Nat):Value:=match v with
 | .slice A n c=> .slice (if c=lo then A else A.map (·.add (lo*sz))) (hi-lo) (c-lo)
 |v=>v
def vsub3 (v:Value)(sz lo hi mx:Nat):Value:=match v with
 | .slice A n c=> .slice (if mx=lo then A else A.map (·.add (lo*sz))) (hi-lo) (mx-lo)
 |v=>v
theorem setCells_chg {X:Nat→Prop}{g:Nat}(hg:X g):∀(vs:List Value) (o:Nat) (w:World),Chg X w (w.setCells g o vs)
 | [],_,_=>Chg.refl _ _
 |v::vs,o,w=>((Chg.setCell (X:=X) w ⟨g,o,none⟩ hg v)).trans (setCells_chg hg vs (o+1) _) fun b hb=> .inl hb
theorem setCells_row {g:Nat}{E:TypeId} :∀(vs:List Value) (o:Nat) (w:World) (cur:Array Value),w.heap[g]? =some (.cells cur E (0,0))→∃cur',(w.setCells g o vs).heap[g]? =some (.cells cur' E (0,0))∧cur'.size=cur.size∧∀k,k<o→cur'[k]? =cur[k]?
 | [],_,_,cur,h=>⟨cur,h,rfl,fun _ _=>rfl⟩
 |v::vs,o,w,cur,h=>by
  have h2:Blk (w.setCell ⟨g,o,none⟩ v) g E (cur.setIfInBounds o v):=Blk.set_ (w:=w) h o v
  obtain ⟨cur',h3,h4,h5⟩:=setCells_row vs (o+1) _ _ h2
  refine ⟨cur',h3,h4.trans (by simp),fun k hk=>(h5 k (by omega)).trans ?_⟩
  rw [Array.getElem?_setIfInBounds_ne (by omega)]
section
variable {P:Program}{o:Oper}{N:Nat}{K:Nat→Prop}{W w:World}{a:Act}{F:List (Nat×Value)}{L:List Asn}{α:Type}[Enc α]
theorem r_sl3 {T e:TypeId}{g:Bool}{n by_:Nat}{z:List Value}{x y1 y2 y3:Operand}{s:Ls α}{lo hi mx:Nat}(hT:slI P T=some e)(he:tyI P e=some (g,n,by_,z))(ho:o.op= .slice T x (some y1) (some y2) (some y3))(hx:ev F x=some s.v)
  (hy1:ev F y1=some (.int .i64 (lo:Int))) (hy2:ev F y2=some (.int .i64 (hi:Int))) (hy3:ev F y3=some (.int .i64 (mx:Int))) (hat:∀w,Sh K W w L→s.At w) (hb:lo≤hi∧hi≤mx∧mx≤s.l.length):Rn P o N K W F L (vsub3 s.v n lo hi mx):=fun a w h=>by
 obtain ⟨A,cap,hv,hA⟩:=hat w h.sh
 have hle:=hA.le
 simp only at hle
 obtain ⟨i,d,zv,hi9,hd,_,rfl,_⟩:=tyI_parts he
 have hu:=slI_parts hT
 have hel:P.elem T=e:=by simp [Program.elem,hu]
 have hu' :P.underlying T=some (.slice (P.elem T)):=by rw [hel];exact hu
 have e1:=run_sliceAt_slice (P:=P) w T (.slice A s.l.length cap) (some (.int .i64 (lo:Int))) (some (.int .i64 (hi:Int))) (some (.int .i64 (mx:Int))) hu'
 have e2:=run_slice_lhm (P:=P) w T A s.l.length cap hu' .i64 .i64 .i64 (lo:Int) (hi:Int) (mx:Int) (by omega) (by omega) (by omega) (by omega)
 rw [hel,run_sizeOf hi9,Result.andThen_ok] at e2
 rw [e2] at e1
 unfold execOp
 simp only [ho,h.fr.ev hx,h.fr.ev hy1,h.fr.ev hy2,h.fr.ev hy3,Option.map_some,Option.map_none,hv,Sem.run_bind,e1,Result.andThen_ok,Sem.run_pure,sliced,vsub3]
 simp
theorem r_slTail {T e:TypeId}{g:Bool}{n by_:Nat}{z:List Value}{x y1 y2:Operand}{s:Ls α}{lo hi:Nat}(hT:slI P T=some e)(he:tyI P e=some (g,n,by_,z))(ho:o.op= .slice T x (some y1) (some y2) none)(hx:ev F x=some s.v)
  (hy1:ev F y1=some (.int .i64 (lo:Int))) (hy2:ev F y2=some (.int .i64 (hi:Int))) (hat:∀w,Sh K W w L→s.At w) (hb:lo≤hi∧hi≤vcap s.v):Rn P o N K W F L (vsub s.v n lo hi):=fun a w h=>by
 obtain ⟨A,cap,hv,hA⟩:=hat w h.sh
 have hle:=hA.le
 simp only at hle
 obtain ⟨i,d,zv,hi9,hd,_,rfl,_⟩:=tyI_parts he
 have hu:=slI_parts hT
 have hel:P.elem T=e:=by simp [Program.elem,hu]
 have hu' :P.underlying T=some (.slice (P.elem T)):=by rw [hel];exact hu
 rw [hv] at hb⊢
 simp only [vcap] at hb
 have e1:=run_sliceAt_slice (P:=P) w T (.slice A s.l.length cap) (some (.int .i64 (lo:Int))) (some (.int .i64 (hi:Int))) none hu'
 have e2:=run_slice_lh (P:=P) w T A s.l.length cap hu' .i64 .i64 (lo:Int) (hi:Int) (by omega) (by omega) (by omega)
 rw [hel,run_sizeOf hi9,Result.andThen_ok] at e2
 rw [e2] at e1
 unfold execOp
 simp only [ho,h.fr.ev hx,h.fr.ev hy1,h.fr.ev hy2,Option.map_some,Option.map_none,hv,Sem.run_bind,e1,Result.andThen_ok,Sem.run_pure,sliced,vsub]
 simp
theorem own_vcap {E:TypeId}{s:Ls α}(h:(Asn.own E s).ok w):s.l.length≤vcap s.v:=by
 rcases h.1.2 with ⟨h1,h2⟩|⟨g,cap,cur,hv,_,_,hn,_⟩
 ·omega
 ·rw [hv];exact hn
theorem x_clearT {T e:TypeId}{gg:Bool}{sz by_ r hi:Nat}{z:List Value}{x:Operand}{s:Ls α}{E:TypeId}(h:St N K W a w F L)(hT:slI P T=some e)(he:tyI P e=some (gg,sz,by_,z))(ho:o.op= .call ⟨.builtin .clear, #[x], #[T]⟩)
  (hx:ev F x=some (vsub s.v sz s.l.length hi)) (hr:L[r]? =some (.own E s)) (hsz:Enc.sz α=sz) (hz1:z.all (·.oneCell')=true) (hzl:z.length=sz) (hh:s.l.length<hi∧hi≤vcap s.v) (hd:o.dst=none):Ex P o a w (fun a' w' =>St N K W a' w' F L):=by
 subst hsz
 obtain ⟨hown,hlen,hinn⟩:=h.sh.ok _ (List.mem_of_getElem? hr)
 rcases hown.2 with ⟨h1,_⟩|⟨g,cap,cur,hsv,hb0,hg,hn,hm,hcs,htk⟩
 ·rw [h1] at hh;simp [vcap] at hh;omega
 obtain ⟨i,d,zv,hi',hd',_,hs,hby,hzz,hzc⟩:=tyI_parts he
 have hcap:hi≤cap:=by have:=hh.2;rw [hsv] at this;exact this
 have hx' :vsub s.v (Enc.sz α) s.l.length hi= .slice (some ⟨g,s.l.length*Enc.sz α,none⟩) (hi-s.l.length) (cap-s.l.length):=by
  rw [hsv];simp only [vsub];rw [if_neg (by omega)];simp [Addr.add_lit]
 obtain ⟨zs,hzs⟩:∃zs,(Builtin.zeroCells zv.cells (hi-s.l.length)).toList=zs:=⟨_,rfl⟩
 have hcsz:zv.cells.size=Enc.sz α:=by rw [←hzl,←hzc];simp
 have hzsl:zs.length=(hi-s.l.length)*Enc.sz α:=by rw [←hzs];simp [Builtin.zeroCells,hcsz]
 have hz1' :∀v∈zs,v.oneCell' =true:=by
  intro v hv
  rw [←hzs] at hv
  simp only [Builtin.zeroCells,Array.toList_map,List.mem_map,Array.mem_toList_iff,Array.mem_range] at hv
  obtain ⟨q,hq,rfl⟩:=hv
  have hpos:0<zv.cells.size:=by
   rcases Nat.eq_zero_or_pos zv.cells.size with h0|h0
   ·rw [h0] at hq;omega
   ·exact h0
  have hmod:=Nat.mod_lt q hpos
  rw [getElem!_pos zv.cells _ hmod]
  exact (List.all_eq_true.1 hz1) _ (by rw [←hzc];exact Array.getElem_mem_toList _)
 have hin:∀j,j<zs.length→s.l.length*Enc.sz α+j<cur.size:=by
  intro j hj
  rw [hcs]
  have h1:s.l.length*Enc.sz α+j<s.l.length*Enc.sz α+(hi-s.l.length)*Enc.sz α:=by omega
  rw [←Nat.add_mul] at h1
  exact Nat.lt_of_lt_of_le h1 (Nat.mul_le_mul_right _ (by omega))
 have hst:=run_storeCells_cells (P:=P) g (s.l.length*Enc.sz α) zs 0 w (fun j hj=>by
   simp only [Nat.add_zero]
   rw [Blk.cell (E:=E) hg,Array.getElem?_eq_getElem (hin j hj)];rfl) (fun j hj=>Blk.frozen (E:=E) hg _) hz1'
 simp only [Nat.add_zero] at hst
 have hrun:∀ty,(Builtin.clear_ #[T] ty #[.slice (some ⟨g,s.l.length*Enc.sz α,none⟩) (hi-s.l.length) (cap-s.l.length)]).run P w= .ok (.tuple #[]) (w.setCells g (s.l.length*Enc.sz α) zs):=by
  intro ty
  obtain ⟨m,hm9⟩:∃m,hi-s.l.length=m+1:=⟨hi-s.l.length-1,by omega⟩
  rw [hm9] at hzs⊢
  simp [Builtin.clear_,run_underlying (slI_parts hT),run_zero hi' hzz,hzs,hst]
 refine Ex.of_run (v:= .tuple #[]) (w' :=w.setCells g (s.l.length*Enc.sz α) zs) ?_ ?_
 ·unfold execOp
  simp only [ho,resolve,invoke,builtin,Sem.run_bind,Sem.run_pure,Result.andThen_ok,List.map_toArray,List.map_cons,List.map_nil,h.fr.ev hx,hx',hrun]
 ·rw [hd]
  obtain ⟨cur',hg',hcs',hk'⟩:=setCells_row zs (s.l.length*Enc.sz α) w cur hg
  have h2:=h.sh.put (A' := .own E s) hr (setCells_chg (X:=(Asn.own E s).fp) (by show s.v.ownBlock=some g;rw [hsv];rfl) zs (s.l.length*Enc.sz α) w) ⟨⟨hown.1, .inr ⟨g,cap,cur',hsv,hb0,hg',hn,hm,hcs'.trans hcs, ?_⟩⟩,hlen, ?_⟩ (fun b hb=> .inl hb) (fun b hb=> .inr (.inl hb)) (h.sh.self _ (List.mem_of_getElem? hr))
  ·have:L.set r (.own E s)=L:=by
    obtain ⟨hlt,e9⟩:=List.getElem?_eq_some_iff.1 hr
    rw [←e9];exact List.set_getElem_self hlt
   rw [this] at h2
   exact ⟨h.fr,h2⟩
  ·rw [←htk]
   apply List.ext_getElem?
   intro k
   simp only [List.getElem?_take,Array.getElem?_toList]
   split
   ·exact hk' k (by assumption)
   ·rfl
  ·intro q hq
   refine Enc.keep _ w _ (hinn q hq) fun b hb=> ?_
   have hbg:b≠g:=by
    rintro rfl
    exact (h.sh.self _ (List.mem_of_getElem? hr)) b (by show s.v.ownBlock=some b;rw [hsv];rfl) ⟨q,hq,hb⟩
   have hlt:b<w.heap.size:=Enc.lt _ w (hinn q hq) b hb
   exact (setCells_chg (X:=fun b=>b=g) rfl zs (s.l.length*Enc.sz α) w).same b hlt hbg
theorem x_del2 {d:Nat}{T e:TypeId}{gg:Bool}{sz by_ r j k:Nat}{z:List Value}{x y:Operand}{s:Ls α}{E:TypeId}[Flat α](h:St N K W a w F L)(hT:slI P T=some e)(he:tyI P e=some (gg,sz,by_,z))(ho:o.op= .call ⟨.builtin .append, #[x,y], #[T,T]⟩)
  (hx:ev F x=some (vtake s.v j)) (hy:ev F y=some (vdrop s.v sz k)) (hr:L[r]? =some (.own E s)) (hE:E=e) (hsz:Enc.sz α=sz) (h1:One α) (hjk:j≤k∧k≤s.l.length∧0<s.l.length) (hd:o.dst=some d) (hdN:Nat.blt d N=true):
  Ex P o a w (fun a' w' =>∃v:Value,vcap v=vcap s.v∧St N K W a' w' ((d,v)::F) (L.set r (.own E ⟨v,s.l.take j++s.l.drop k⟩))):=by
 subst hsz
 subst hE
 obtain ⟨i,ed,zv,hi,hed,_,hs,hby,hzz,hzc⟩:=tyI_parts he
 obtain ⟨hown,hlen,hinn⟩:=h.sh.ok _ (List.mem_of_getElem? hr)
 obtain ⟨hjk,hk,hpos⟩:=hjk
 have hown0:=hown
 rcases hown.2 with ⟨_,h0⟩|⟨g,cap,cur,hsv,hb0,hg,hn,hm,hcs,htk⟩
 ·omega
 have hcur:cur.size=cap*Enc.sz α:=hcs
 have hownT:w.ownsRow 0 E (Enc.sz α) (.slice (some ⟨g,0,none⟩) j cap) j (encL (s.l.take j)):=by
  refine ⟨by rw [length_encL,List.length_take,Nat.min_eq_left (by omega)], .inr ⟨g,cap,cur,rfl,hb0,hg,by omega,hm,hcs, ?_⟩⟩
  rw [encL_take,←htk,List.take_take]
  congr 1
  exact (Nat.min_eq_left (Nat.mul_le_mul_right _ (by omega))).symm
 have hcell:∀q u,(encL s.l)[q]? =some u→w.cell? ⟨g,q,none⟩=some u:=by
  intro q u hq
  rw [hsv] at hown0
  have hlt:q<s.l.length*Enc.sz α:=by
   have:=(List.getElem?_eq_some_iff.1 hq).1
   rwa [length_encL] at this
  rw [hown0.cellAt q hlt,hq]
 have hone:∀u∈encL (s.l.drop k),u.oneCell' =true:=by
  intro u hu
  obtain ⟨q,hq⟩:=List.getElem?_of_mem hu
  have hlt:q<(s.l.drop k).length*Enc.sz α:=by
   have:=(List.getElem?_eq_some_iff.1 hq).1
   rwa [length_encL] at this
  have hszp:0<Enc.sz α:=by
   rcases Nat.eq_zero_or_pos (Enc.sz α) with h|h
   ·rw [h] at hlt;omega
   ·exact h
  have h2:=encL_at (s.l.drop k) (q/Enc.sz α) (q%Enc.sz α) ((Nat.div_lt_iff_lt_mul hszp).2 hlt) (Nat.mod_lt _ hszp)
  rw [show q/Enc.sz α*Enc.sz α+q%Enc.sz α=q by rw [Nat.mul_comm];exact Nat.div_add_mod _ _,hq] at h2
  cases h2
  exact h1.one _ w (Flat.inner _ _) _ (Nat.mod_lt _ hszp)
 have happ:∀(A2:Addr) (c2:Nat),(∀q u,(encL (s.l.drop k))[q]? =some u→w.cell? (A2.add q)=some u)→∃w',(Builtin.append_ #[T,T] o.type #[.slice (some ⟨g,0,none⟩) j cap, .slice (some A2) (s.l.length-k) c2]).run P w= .ok (.slice (some ⟨g,0,none⟩) (j+(s.l.length-k)) cap) w' ∧
   w'.ownsRow 0 E (Enc.sz α) (.slice (some ⟨g,0,none⟩) (j+(s.l.length-k)) cap) (j+(s.l.length-k)) (encL (s.l.take j)++encL (s.l.drop k))∧w.grownBy w' (some g):=fun A2 c2 hc2=>
  run_append_fits (P:=P) w 0 T o.type E i (Enc.sz α) (slI_parts hT) hi hs g j cap _ hownT A2 (s.l.length-k) c2 (encL (s.l.drop k)) (by rw [length_encL,List.length_drop]) hc2 hone (by omega)
 have hfin:∃w' y',vdrop s.v (Enc.sz α) k=y' ∧(Builtin.append_ #[T,T] o.type #[.slice (some ⟨g,0,none⟩) j cap,y']).run P w= .ok (.slice (some ⟨g,0,none⟩) (j+(s.l.length-k)) cap) w' ∧
   w'.ownsRow 0 E (Enc.sz α) (.slice (some ⟨g,0,none⟩) (j+(s.l.length-k)) cap) (j+(s.l.length-k)) (encL (s.l.take j)++encL (s.l.drop k))∧w.grownBy w' (some g):=by
  rw [hsv]
  by_cases hck:cap=k
  ·have hkk:s.l.drop k= []:=List.drop_eq_nil_of_le (by omega)
   obtain ⟨w',h3⟩:=happ ⟨g,0,none⟩ (cap-k) (by rw [hkk];intro q u hq;simp [encL] at hq)
   exact ⟨w',_,by simp only [vdrop,if_pos hck],h3⟩
  ·obtain ⟨w',h3⟩:=happ ((⟨g,0,none⟩:Addr).add (k*Enc.sz α)) (cap-k) (by
    intro q u hq
    rw [encL_drop,List.getElem?_drop] at hq
    have:=hcell _ _ hq
    simpa [Addr.add_lit] using this)
   exact ⟨w',_,by simp only [vdrop,if_neg hck,Option.map_some],h3⟩
 obtain ⟨w',y',hy',hrun,ho',hg'⟩:=hfin
 have hx' :vtake s.v j= .slice (some ⟨g,0,none⟩) j cap:=by rw [hsv];rfl
 refine Ex.of_run (v:= .slice (some ⟨g,0,none⟩) (j+(s.l.length-k)) cap) (w' :=w') ?_ ⟨.slice (some ⟨g,0,none⟩) (j+(s.l.length-k)) cap,by rw [hsv];rfl, ?_⟩
 ·unfold execOp
  simp only [ho,resolve,invoke,builtin,Sem.run_bind,Sem.run_pure,Result.andThen_ok,List.map_toArray,List.map_cons,List.map_nil,h.fr.ev hx,h.fr.ev hy,hx',hy',hrun]
 ·rw [hd]
  have hob:s.v.ownBlock=some g:=by rw [hsv];rfl
  have hfp:∀b,(Asn.own E (⟨.slice (some ⟨g,0,none⟩) (j+(s.l.length-k)) cap,s.l.take j++s.l.drop k⟩:Ls α)).fp b→(Asn.own E s).fp b∨w.heap.size≤b:=by
   intro b hb
   have:g=b:=by simpa [Asn.own,Value.ownBlock] using hb
   subst this
   exact .inl hob
  refine ⟨h.fr.put d (by simpa [Nat.blt_eq] using hdN) _,h.sh.put hr (Chg.grown hg' (fun b hb=>by cases hb;exact hob)) ⟨?_, ?_,fun q hq=>Flat.inner _ _⟩ hfp (fun b hb=> ?_) (fun b hb hb' => ?_)⟩
  ·show World.ownsRow _ 0 E _ _ (s.l.take j++s.l.drop k).length (encL (s.l.take j++s.l.drop k))
   rw [encL_append,List.length_append,List.length_take,List.length_drop,Nat.min_eq_left (by omega)];exact ho'
  ·show (s.l.take j++s.l.drop k).length≤_
   rw [List.length_append,List.length_take,List.length_drop,Nat.min_eq_left (by omega)];omega
  ·obtain ⟨q,_,hb⟩:=hb;exact (Flat.on _ _ hb).elim
  ·obtain ⟨q,_,hb⟩:=hb';exact (Flat.on _ _ hb).elim
end
set_option maxRecDepth 100000
set_option maxHeartbeats 20000000
theorem qset_pc {l tl:List ThQ}{n:Nat}{p q:Int}{r:Value}(h:n<l.length)(e:tl=l.set n ⟨p,r⟩):tl.set n { nth tl n with pc:=q } =l.set n ⟨q,r⟩:=by
 subst e
 rw [nth_set,if_pos ⟨rfl,h⟩,List.set_set]
theorem qset_0 {l:List ThQ}{n:Nat}{q:Int}{r:Value}(hr:(nth l n).rv=r):l.set n { nth l n with pc:=q } =l.set n ⟨q,r⟩:=by
 subst hr;rfl
theorem qset_n {l:List ThQ}{n:Nat}{r:Value}(hr:(nth l n).rv=r)(hn:n<l.length):l=l.set n ⟨(nth l n).pc,r⟩:=by
 subst hr
 refine ext_nth _ _ (by simp) fun i hi=> ?_
 rw [nth_set]
 split
 ·rename_i hh;rw [←hh.1]
 ·rfl
theorem list_set_nth {α:Type}[Inhabited α](l:List α)(n:Nat):l.set n (nth l n)=l:=by
 rcases Nat.lt_or_ge n l.length with h|h
 ·rw [nth_lt l n h];exact List.set_getElem_self h
 ·exact List.set_eq_of_length_le h
theorem swap_eq {M:MemS}{wd what pc:Int}{n:Nat}{regs prints:List Int}{fell:Bool}{words words' owner owner' :Ls Int}{q q' :M.σ}(h:SwapP M wd what words owner q words' owner' q'):
  M.qs q' =(M.qs q).set n (nth (M.qs q) n)∧(⟨pc,regs,nth (M.qs q) n,words'.l,owner'.l,prints,fell⟩:TS)=⟨pc,regs,nth (M.qs q) n,words.l.set wd.toNat what,owner.l,prints,fell⟩:=by
 obtain ⟨h1,h2,h3⟩:=h
 rw [h1,h2,h3,list_set_nth]
 exact ⟨rfl,rfl⟩
section
variable {m:Int}{n:Nat}{i:Ins}{x:TS}
theorem pexec_18c (h:i.op=18)(h1:¬nth x.owner i.a.toNat≠n)(h2:x.holds i.a=false):execT m n i x=x.store m ⟨true,i.a,0⟩:=by
 have h1' :nth x.owner i.a.toNat=n:=Decidable.not_not.1 h1
 simp [execT,h,h1',h2]
theorem pexec_18f (h:i.op=18)(h1:nth x.owner i.a.toNat≠n∨x.holds i.a=true):execT m n i x= { x with fell:=true } :=by
 by_cases h2:nth x.owner i.a.toNat≠n
 ·exact execT_18a h h2
 ·have h3:=h1.resolve_left h2
  have h1' :nth x.owner i.a.toNat=n:=Decidable.not_not.1 h2
  simp [execT,h,h1',h3]
theorem pexec_no (h:¬i.op=8∧¬i.op=9∧¬i.op=10∧¬i.op=11∧¬i.op=13∧¬i.op=17∧¬i.op=18)(h2:¬i.op=1∧¬i.op=2∧¬i.op=3∧¬i.op=4∧¬i.op=5∧¬i.op=6∧¬i.op=7∧¬i.op=14∧¬i.op=15∧¬i.op=16):execT m n i x=x:=
 execT_no (by omega)
theorem hab_of {owner:List Int}{nw:Nat}(h:ableL owner nw i=true):((i.op=9∨i.op=11∨i.op=18)→nw<3)∧(i.op=13→nw=0)∧True:=by
 unfold ableL at h
 refine ⟨fun e=> ?_,fun e=> ?_,trivial⟩
 ·rw [if_pos e] at h;exact of_decide_eq_true h
 ·rw [if_neg (by omega),if_pos (by omega)] at h;exact of_decide_eq_true h
theorem pdoT_k {c:List Ins}{k:Nat}(hk:0<k):doT m n c k x= { x.done (nth x.wait (k-1)) with wait:=x.wait.eraseIdx (k-1) } :=by unfold doT;rw [if_pos hk]
theorem able_of {c:List Ins}{k:Nat}(h:mvOK m c x k=true)(hk:k=0):x.pc<(c.length:Int)∧ableL x.owner x.wait.length (nextIns c x.pc)=true:=by
 unfold mvOK at h
 rw [if_pos hk] at h
 unfold ableV at h
 rw [Bool.and_eq_true] at h
 exact ⟨of_decide_eq_true h.1,h.2⟩
end
def MPost (K:Nat→Prop)(W:World)(ST TH INT PL PT:Nat)(M:MemS)(g gp n:Nat)(pc:List Value)(thr:Ls ThQ)(q:M.σ)(y:TS)(code:Ls (Ls Ins))(w' :World):Prop:=
 ∃(regs' words' owner' prints' :Ls Int) (q' :M.σ) (wt:List Wt) (pc' :Int) (fell' :Bool),M.qs q' =(M.qs q).set n wt∧(⟨pc',regs'.l,wt,words'.l,owner'.l,prints'.l,fell'⟩:TS)=y∧
  Sh K W w' [.blk g ST [.iface M.T (.pointer (some M.u)), .pointer (some ⟨gp,0,none⟩),thr.v,prints'.v, .bool fell'], .rblk gp PT pc, .own TH (⟨thr.v,thr.l.set n ⟨pc',regs'.v⟩⟩:Ls ThQ), .own INT regs', .own INT prints', .blk M.g0 PL [words'.v,owner'.v], .own INT words', .own INT owner',M.X q', .at_ code]
theorem pis_c (K:Nat→Prop)(M:MemS)(g gc:Nat)(n:Int)(words owner:Ls Int)(q:M.σ)(pp tv pv:Value)(fell:Bool)(W:World)(hM:MemI Tryz.prog 182 3 M)(hS:Sh K W W [.blk gc 85 [.pointer (some ⟨g,0,none⟩)], .blk g 173 [.iface M.T (.pointer (some M.u)),pp,tv,pv, .bool fell], .blk M.g0 182 [words.v,owner.v], .own 3 words, .own 3 owner,M.X q]):
    Rets Tryz.prog 163 [.int .i64 n, .pointer (some ⟨gc,0,none⟩)] W (fun v w' =>v= .bool (decide (0≤n∧n<(words.l.length:Int)))∧Sh K W w' [.blk gc 85 [.pointer (some ⟨g,0,none⟩)], .blk g 173 [.iface M.T (.pointer (some M.u)),pp,tv,pv, .bool (fell|| !decide (0≤n∧n<(words.l.length:Int)))], .blk M.g0 182 [words.v,owner.v], .own 3 words, .own 3 owner,M.X q]):=by
 refine gen Tryz.func163 Tryz.ntmps163 hS rfl fun a10 h10=>gG h10<|sG (oM 1 rfl<|.nl)<|sK fun _ k12=>gRn (oM 1 rfl<|ogeI _ _ rfl<|oM 1 rfl<|.nl)<|?_;clear h10
 rcases dsp (0≤n) with ⟨hb13,hp13⟩|⟨hb13,hp13⟩
 ·skip
  refine gRn (oG hb13 (r_move rfl rfl) rfl<|oG hb13 (r_ldb (i:=0) ti_85 rfl rfl rfl rfl) rfl<|oG hb13 (r_nil rfl rfl) rfl<|oG hb13 (r_fieldB (r:=0) fl_173_0 rfl rfl rfl) rfl<|oG hb13 (r_ldb (i:=1) ti_97 rfl rfl rfl rfl) rfl<|.nl)<|fun a14 w14 h14=>wl_ex (x_inv2 h14 rfl rfl rfl rfl rfl (hM.base _ words owner q ⟨h14.sh.blk 2 rfl,h14.sh.own 3 rfl,h14.sh.own 4 rfl,h14.sh.ok _ (List.mem_of_getElem? (i:=5) rfl)⟩)) (wanted_yes h14.fr rfl rfl rfl rfl hb13) ?_
  rintro a15 w15 ⟨_,⟨rfl,hs15⟩,hf15⟩
  have h15:St 32 K W a15 w15 _ _:=⟨hf15,h14.sh.call0 hs15⟩
  clear hf15 hs15
  clear h14
  refine gG h15<|gNl (aO 3 rfl) fun hl16=>gRn (oG hb13 (r_nil rfl rfl) rfl<|oG hb13 (r_fieldB (r:=0) fl_182_0 rfl rfl rfl) rfl<|oG hb13 (r_ldb (i:=2) ti_23 rfl rfl rfl rfl) rfl<|oG hb13 (r_len (s:=words) (n:=words.l.length) sl_23 rfl rfl (fun w h=>(h.own 3 rfl)) rfl) rfl<|oG hb13 (r_lssI (p:=n) (q:=((words.l.length:Nat):Int)) rfl rfl rfl) rfl<|opT hb13 rfl<|oM 1 rfl<|.nl)<|nK k12<|gK fun _ k17=>fun a18 w18 h18=>x_tail 11 [] (by kernel_rfl) (by kernel_rfl) h18 fun _ z19=>qQ h18.fr<|qRn (olB 0 ti_85 rfl rfl<|olB 0 ti_85 rfl rfl<|onfl 1 fl_173_4 ti_4 rfl rfl<|oM 1 rfl<|.nl)<|?_;clear h15
  rcases Bool.eq_false_or_eq_true fell with hb20|hb20
  ·skip
   refine qRn (oKs 2 hb20 rfl rfl<|opT hb20 rfl<|onf fl_173_4 rfl<|.nl)<|qN z19<|?_;clear h18
   refine gst (v:= .bool true) 1 ti_4 rfl rfl rfl<|nK k17<|gF [4] rfl<|sG (oM 2 rfl<|.nl)<|gR<|fun a24 w24 h24=>x_ret1 (fn:=Tryz.f163) (t:=3) rfl h24 rfl ?_
   have e9:decide (n<((words.l.length:Nat):Int))=decide (0≤n∧n<(words.l.length:Int)):=by first|exact (decide_eq_true (by omega)).symm|exact (decide_eq_false (by omega)).symm|exact decide_eq_decide.2 ⟨fun h9=>by omega,fun h9=>by omega⟩
   have e7:(true)=(fell|| !decide (0≤n∧n<(words.l.length:Int))):=by rw [←e9];first|(rw [show fell=true by assumption];rfl)|(rw [show fell=false by assumption];rfl)|(rw [show fell=false by assumption];simp;omega)
   have e8:=h24.sh
   rw [e7] at e8
   exact ⟨by rw [e9],e8⟩
  refine qRn (oG hb20 (r_move rfl rfl) rfl<|oG hb20 (r_not rfl rfl) rfl<|opF hb20 rfl<|onf fl_173_4 rfl<|.nl)<|qN z19<|?_;clear h18
  refine gst 1 ti_4 rfl rfl rfl<|nK k17<|gF [4] rfl<|sG (oM 2 rfl<|.nl)<|gR<|fun a29 w29 h29=>x_ret1 (fn:=Tryz.f163) (t:=3) rfl h29 rfl ?_
  have e9:decide (n<((words.l.length:Nat):Int))=decide (0≤n∧n<(words.l.length:Int)):=by first|exact (decide_eq_true (by omega)).symm|exact (decide_eq_false (by omega)).symm|exact decide_eq_decide.2 ⟨fun h9=>by omega,fun h9=>by omega⟩
  have e7:(!(decide (n<((words.l.length:Nat):Int))))=(fell|| !decide (0≤n∧n<(words.l.length:Int))):=by rw [←e9];first|(rw [show fell=true by assumption];rfl)|(rw [show fell=false by assumption];rfl)|(rw [show fell=false by assumption];simp;omega)
  have e8:=h29.sh
  rw [e7] at e8
  exact ⟨by rw [e9],e8⟩
 refine gRn (oKs 11 hb13 rfl rfl<|opF hb13 rfl<|oM 1 rfl<|.nl)<|nK k12<|gK fun _ k30=>fun a31 w31 h31=>x_tail 11 [] (by kernel_rfl) (by kernel_rfl) h31 fun _ z32=>qQ h31.fr<|qRn (olB 0 ti_85 rfl rfl<|olB 0 ti_85 rfl rfl<|onfl 1 fl_173_4 ti_4 rfl rfl<|oM 1 rfl<|.nl)<|?_
 rcases Bool.eq_false_or_eq_true fell with hb33|hb33
 ·skip
  refine qRn (oKs 2 hb33 rfl rfl<|opT hb33 rfl<|onf fl_173_4 rfl<|.nl)<|qN z32<|?_;clear h31
  refine gst (v:= .bool true) 1 ti_4 rfl rfl rfl<|nK k30<|gF [4] rfl<|sG (oM 2 rfl<|.nl)<|gR<|fun a37 w37 h37=>x_ret1 (fn:=Tryz.f163) (t:=3) rfl h37 rfl ?_
  have e9:false=decide (0≤n∧n<(words.l.length:Int)):=by first|exact (decide_eq_true (by omega)).symm|exact (decide_eq_false (by omega)).symm|exact decide_eq_decide.2 ⟨fun h9=>by omega,fun h9=>by omega⟩
  have e7:(true)=(fell|| !decide (0≤n∧n<(words.l.length:Int))):=by rw [←e9];first|(rw [show fell=true by assumption];rfl)|(rw [show fell=false by assumption];rfl)|(rw [show fell=false by assumption];simp;omega)
  have e8:=h37.sh
  rw [e7] at e8
  exact ⟨by rw [e9],e8⟩
 refine qRn (oG hb33 (r_move rfl rfl) rfl<|oG hb33 (r_not rfl rfl) rfl<|opF hb33 rfl<|onf fl_173_4 rfl<|.nl)<|qN z32<|?_;clear h31
 refine gst (v:= .bool true) 1 ti_4 rfl rfl rfl<|nK k30<|gF [4] rfl<|sG (oM 2 rfl<|.nl)<|gR<|fun a42 w42 h42=>x_ret1 (fn:=Tryz.f163) (t:=3) rfl h42 rfl ?_
 have e9:false=decide (0≤n∧n<(words.l.length:Int)):=by first|exact (decide_eq_true (by omega)).symm|exact (decide_eq_false (by omega)).symm|exact decide_eq_decide.2 ⟨fun h9=>by omega,fun h9=>by omega⟩
 have e7:(true)=(fell|| !decide (0≤n∧n<(words.l.length:Int))):=by rw [←e9];first|(rw [show fell=true by assumption];rfl)|(rw [show fell=false by assumption];rfl)|(rw [show fell=false by assumption];simp;omega)
 have e8:=h42.sh
 rw [e7] at e8
 exact ⟨by rw [e9],e8⟩
theorem pmem_c (K:Nat→Prop)(M:MemS)(g gp:Nat)(code:Ls (Ls Ins))(thr:Ls ThQ)(regs prints words owner:Ls Int)(q:M.σ)(pw:Value)(locks nregs:Int)(fell:Bool)(n:Nat)(ins:Ins)(W:World)(hM:MemI Tryz.prog 182 3 M)(hS:Sh K W W [.blk g 173 [.iface M.T (.pointer (some M.u)), .pointer (some ⟨gp,0,none⟩),thr.v,prints.v, .bool fell], .rblk gp 25 [code.v,pw, .int .i64 locks, .int .i64 nregs], .own 189 thr, .own 3 regs, .own 3 prints, .blk M.g0 182 [words.v,owner.v], .own 3 words, .own 3 owner,M.X q, .at_ code])(ht:n<thr.l.length)(htn:n≤1000)(hrv:(nth thr.l n).rv=regs.v)(hqn:n<(M.qs q).length)(hwl:(nth (M.qs q) n).length≤3)(hwh0:∀x∈nth (M.qs q) n,x.lock=true→x.what=0)(hge:∀v∈owner.l,-1≤v)(hR:InsR regs.l.length words.l.length owner.l.length ins)(hno:¬ins.op=1∧¬ins.op=2∧¬ins.op=3∧¬ins.op=4∧¬ins.op=5∧¬ins.op=6∧¬ins.op=7∧¬ins.op=14∧¬ins.op=15∧¬ins.op=16)(hab:((ins.op=9∨ins.op=11∨ins.op=18)→(nth (M.qs q) n).length<3)∧(ins.op=13→(nth (M.qs q) n).length=0)∧True):
    Rets Tryz.prog 146 [.pointer (some ⟨g,0,none⟩), .int .i64 ((n:Nat):Int), .agg #[.int .i64 ins.op, .int .i64 ins.a, .int .i64 ins.b, .int .i64 ins.c]] W (fun v w' =>v= .tuple #[]∧MPost K W 173 189 3 182 25 M g gp n [code.v,pw, .int .i64 locks, .int .i64 nregs] thr q (execT M.m n ins (⟨(nth thr.l n).pc,regs.l,nth (M.qs q) n,words.l,owner.l,prints.l,fell⟩:TS)) code w'):=by
 refine gen Tryz.func146 Tryz.ntmps146 hS rfl fun a10 h10=>gG h10<|sK fun _ k11=>gbx rfl rfl fun b12=>gbx rfl rfl fun b13=>nK k11<|sK fun _ k14=>gNl (aO 4 rfl) fun hl15=>gRn (olB 1 ti_85 rfl rfl<|onfl 2 fl_173_2 ti_171 rfl rfl<|oM 1 rfl<|oxN sl_171 ti_189 (aO 4 rfl) _ om9 rfl<|ofE fl_189_1 rfl<|oV (Rn.same (r_lde (s:=thr) (i:=n) (v:=((nth thr.l n).rv)) ti_23 rfl rfl rfl (fun w h=>(h.own 4 rfl)) (show n<thr.l.length from om9) (Nat.le_of_ble_eq_true rfl) rfl) hrv) rfl<|oM 1 rfl<|.nl)<|nK k14<|sG (oV (r_makeFunc rfl rfl rfl) rfl<|oM 1 rfl<|.nl)<|sG (ofB fl_32_0 rfl<|olB 0 ti_3 rfl rfl<|.nl)<|gB<|sG (oeqI _ _ rfl<|oM 1 rfl<|.nl)<|?_;clear h10
 refine gcd rfl (fun hb19 hp19=> ?_) fun hb19 hp19=> ?_
 ·skip
  have q9:=hR.o8 (by omega)
  intro a20 w20 h20
  refine x_tail 12 [] (by kernel_rfl) (by kernel_rfl) h20 fun _ z21=>qQ h20.fr<|qRn (oM 1 rfl<|ofB fl_32_1 rfl<|olB 0 ti_3 rfl rfl<|olB 1 ti_85 rfl rfl<|onfl 2 fl_173_0 ti_97 rfl rfl<|oM 1 rfl<|ofB fl_32_2 rfl<|olB 0 ti_3 rfl rfl<|.nl)<|fun _ hq=>wq_inv hq rfl rfl rfl (wanted_none rfl _) rfl rfl (fun w h=>(hM.load _ words owner q n ins.b ⟨h.blk 7 rfl,h.own 8 rfl,h.own 9 rfl,h.ok _ (List.mem_of_getElem? (i:=10) rfl)⟩ hqn hwl (by omega)))<|?_
  have hl22:regs.l.length≤140737488355328:=(h20.sh.own 5 rfl).len
  refine qRn (oxI sl_23 ti_3 (aO 5 rfl) om9 rfl<|.nl)<|qN z21<|gte 5 (findsL (nth (M.qs q) n) words.l ins.b:Int) ti_3 om9 rfl rfl<|nN<|fun a24 w24 h24=> ?_;clear h20
  try simp only [Exit.then,Exit.inBlock,if_true]
  refine x_end0 (fn:=Tryz.f146) rfl h24 ?_
  have hz:=(h24.sh.sel (L' := [_,_,_,_,_,_,_,_,_,_]) [2,3,4,5,6,7,8,9,10,11] rfl)
  refine ⟨rfl,⟨regs.v,regs.l.set ins.a.toNat (findsL (nth (M.qs q) n) words.l ins.b)⟩,⟨words.v,words.l⟩,⟨owner.v,owner.l⟩,⟨prints.v,prints.l⟩,q,(nth (M.qs q) n),(nth thr.l n).pc,fell,(list_set_nth _ _).symm, ?_, ?_⟩
  · (refine Eq.trans ?_ (execT_8 (by assumption)).symm;rfl)
  · rw [←qset_n hrv ht];exact hz
 refine sG (oeqI _ _ rfl<|oM 1 rfl<|.nl)<|gcd rfl (fun hb26 hp26=> ?_) fun hb26 hp26=> ?_
 ·skip
  have q9:=hR.o9 (by omega)
  have hw0:=hab.1 (by omega)
  refine gNl (aO 5 rfl) fun hl27=>rT 14 [] (olB 1 ti_85 rfl rfl<|onfl 2 fl_173_0 ti_97 rfl rfl<|oM 1 rfl<|ofB fl_32_1 rfl<|olB 0 ti_3 rfl rfl<|oM 1 rfl<|ofB fl_32_2 rfl<|olB 0 ti_3 rfl rfl<|oxI sl_23 ti_3 (aO 5 rfl) om9 rfl<|olI ti_3 (aO 5 rfl) om9 rfl<|oV (r_nilckI rfl rfl) rfl<|oM 1 rfl<|.nl)<|gO [7,8,9,10,0,1,2,3,4,5,6,11] rfl<|fun a33 w33 h33=> ?_
  have hp32:=h33.sh.passL (Lp:= [_,_,_,_])
  refine wl_ex (x_inv2 h33 rfl rfl rfl rfl rfl (hM.store _ _ words owner q n ins.a (nth regs.l ins.b.toNat) hp32 hqn (by omega) (by omega))) (wanted_none rfl _) ?_
  rintro a34 w34 ⟨_,⟨rfl,words34,owner34,q34,hst34,hs34⟩,hf34⟩
  change Sh _ _ _ [.blk M.g0 182 [words34.v,owner34.v], .own 3 words34, .own 3 owner34,M.X q34] at hs34
  have h34:St 193 K W a34 w34 _ [_,_,_,_,_,_,_,_,_,_,_,_]:=⟨hf34,h33.sh.backL (Lp:= [_,_,_,_]) hs34 (by intro A hA b hb;simp only [List.mem_cons,List.not_mem_nil,or_false] at hA;rcases hA with rfl|rfl|rfl|rfl<;>first|exact (hb:False).elim|exact Flat.noRd hb|exact .inl ⟨_,List.mem_cons_self .., .inr hb⟩|exact rdX hM hb|exact .inl ⟨_,by simp, .inr hb⟩)⟩
  clear hf34 hs34
  clear h33
  refine gG h34<|nN<|fun a35 w35 h35=> ?_;clear h34
  try simp only [Exit.then,Exit.inBlock,if_true]
  refine x_end0 (fn:=Tryz.f146) rfl h35 ?_
  have hz:=(h35.sh.sel (L' := [_,_,_,_,_,_,_,_,_,_]) [6,7,8,9,10,0,1,2,3,11] rfl)
  obtain ⟨wt,hwt1,hwt2⟩:=hst34
  refine ⟨rfl,⟨regs.v,regs.l⟩,⟨words34.v,words34.l⟩,⟨owner34.v,owner34.l⟩,⟨prints.v,prints.l⟩,q34,wt,(nth thr.l n).pc,fell,hwt1, ?_, ?_⟩
  · exact Eq.trans (hwt2 _ _ _ _) (execT_9 (by assumption)).symm
  · rw [←qset_n hrv ht];exact hz
 refine sG (oeqI _ _ rfl<|oM 1 rfl<|.nl)<|gcd rfl (fun hb37 hp37=> ?_) fun hb37 hp37=> ?_
 ·skip
  have q9:=hR.o10 (by omega)
  refine sK fun _ k38=>gNl (aO 5 rfl) fun hl39=>gRn (oM 2 rfl<|ofB fl_32_2 rfl<|olB 0 ti_3 rfl rfl<|oxI sl_23 ti_3 (aO 5 rfl) om9 rfl<|olI ti_3 (aO 5 rfl) om9 rfl<|.nl)<|gO [1,2,7,8,9,10,0,3,4,5,6,11] rfl<|fun a45 w45 h45=> ?_
  have hp44:=h45.sh.passL (Lp:= [_,_,_,_,_,_])
  refine wl_ex (x_call h45 bd_163 rfl rfl rfl rfl rfl (pis_c _ M g b12 (nth regs.l ins.b.toNat) words owner q _ _ _ _ _ hM hp44)) (wanted_none rfl _) ?_
  rintro a46 w46 ⟨_,⟨rfl,hs46⟩,hf46⟩
  have h46:St 193 K W a46 w46 _ [_,_,_,_,_,_,_,_,_,_,_,_]:=⟨hf46,h45.sh.backL (Lp:= [_,_,_,_,_,_]) hs46 (by intro A hA b hb;simp only [List.mem_cons,List.not_mem_nil,or_false] at hA;rcases hA with rfl|rfl|rfl|rfl|rfl|rfl<;>first|exact (hb:False).elim|exact Flat.noRd hb|exact .inl ⟨_,List.mem_cons_self .., .inr hb⟩|exact rdX hM hb|exact .inl ⟨_,by simp, .inr hb⟩)⟩
  clear hf46 hs46
  clear h45
  refine gG h46<|nK k38<|gF [1,3,5,6,59] rfl<|?_;clear h46
  refine gcd rfl (fun hb47 hp47=> ?_) fun hb47 hp47=> ?_
  ·skip
   intro a48 w48 h48
   refine x_tail 17 [] (by kernel_rfl) (by kernel_rfl) h48 fun _ z49=>qQ h48.fr<|qRn (oM 1 rfl<|ofB fl_32_1 rfl<|olB 6 ti_3 rfl rfl<|olB 0 ti_85 rfl rfl<|onfl 1 fl_173_0 ti_97 rfl rfl<|oM 2 rfl<|ofB fl_32_2 rfl<|olB 6 ti_3 rfl rfl<|oxI sl_23 ti_3 (aO 9 rfl) om9 rfl<|olI ti_3 (aO 9 rfl) om9 rfl<|oV (r_nilckI rfl rfl) rfl<|oM 1 rfl<|.nl)<|fun _ hq=>wq_inv hq rfl rfl rfl (wanted_none rfl _) rfl rfl (fun w h=>(hM.load _ words owner q n (nth regs.l ins.b.toNat) ⟨h.blk 2 rfl,h.own 3 rfl,h.own 4 rfl,h.ok _ (List.mem_of_getElem? (i:=5) rfl)⟩ hqn hwl (by omega)))<|qRn (oxI sl_23 ti_3 (aO 9 rfl) om9 rfl<|.nl)<|qN z49<|gte 9 (findsL (nth (M.qs q) n) words.l (nth regs.l ins.b.toNat):Int) ti_3 om9 rfl rfl<|nN<|fun a51 w51 h51=> ?_;clear h48
   try simp only [Exit.then,Exit.inBlock,if_true]
   refine x_end0 (fn:=Tryz.f146) rfl h51 ?_
   have hf9:(fell|| !decide (0≤nth regs.l ins.b.toNat∧nth regs.l ins.b.toNat<(words.l.length:Int)))=fell:=or_f hb47
   have hz:=(h51.sh.sel (L' := [_,_,_,_,_,_,_,_,_,_]) [1,7,8,9,10,2,3,4,5,11] rfl)
   rw [hf9] at hz
   refine ⟨rfl,⟨regs.v,regs.l.set ins.a.toNat (findsL (nth (M.qs q) n) words.l (nth regs.l ins.b.toNat))⟩,⟨words.v,words.l⟩,⟨owner.v,owner.l⟩,⟨prints.v,prints.l⟩,q,(nth (M.qs q) n),(nth thr.l n).pc,fell,(list_set_nth _ _).symm, ?_, ?_⟩
   · first|(refine Eq.trans ?_ (execT_10t (by assumption) (by assumption)).symm;rfl)|(refine Eq.trans ?_ (execT_10f (by assumption) (by assumption)).symm;rfl)
   · rw [←qset_n hrv ht];exact hz
  refine gS<|fun a52 w52 h52=> ?_
  try simp only [Exit.then,Exit.inBlock,if_true]
  refine x_end0 (fn:=Tryz.f146) rfl h52 ?_
  have hf9:(fell|| !decide (0≤nth regs.l ins.b.toNat∧nth regs.l ins.b.toNat<(words.l.length:Int)))=true:=or_t hb47
  have hz:=(h52.sh.sel (L' := [_,_,_,_,_,_,_,_,_,_]) [1,7,8,9,10,2,3,4,5,11] rfl)
  rw [hf9] at hz
  refine ⟨rfl,⟨regs.v,regs.l⟩,⟨words.v,words.l⟩,⟨owner.v,owner.l⟩,⟨prints.v,prints.l⟩,q,(nth (M.qs q) n),(nth thr.l n).pc,true,(list_set_nth _ _).symm, ?_, ?_⟩
  · first|(refine Eq.trans ?_ (execT_10t (by assumption) (by assumption)).symm;rfl)|(refine Eq.trans ?_ (execT_10f (by assumption) (by assumption)).symm;rfl)
  · rw [←qset_n hrv ht];exact hz
 refine sG (oeqI _ _ rfl<|oM 1 rfl<|.nl)<|gcd rfl (fun hb54 hp54=> ?_) fun hb54 hp54=> ?_
 ·skip
  have q9:=hR.o10 (by omega)
  have hw0:=hab.1 (by omega)
  refine sK fun _ k55=>gNl (aO 5 rfl) fun hl56=>gRn (oM 2 rfl<|ofB fl_32_1 rfl<|olB 0 ti_3 rfl rfl<|oxI sl_23 ti_3 (aO 5 rfl) om9 rfl<|olI ti_3 (aO 5 rfl) om9 rfl<|.nl)<|gO [1,2,7,8,9,10,0,3,4,5,6,11] rfl<|fun a62 w62 h62=> ?_
  have hp61:=h62.sh.passL (Lp:= [_,_,_,_,_,_])
  refine wl_ex (x_call h62 bd_163 rfl rfl rfl rfl rfl (pis_c _ M g b12 (nth regs.l ins.a.toNat) words owner q _ _ _ _ _ hM hp61)) (wanted_none rfl _) ?_
  rintro a63 w63 ⟨_,⟨rfl,hs63⟩,hf63⟩
  have h63:St 193 K W a63 w63 _ [_,_,_,_,_,_,_,_,_,_,_,_]:=⟨hf63,h62.sh.backL (Lp:= [_,_,_,_,_,_]) hs63 (by intro A hA b hb;simp only [List.mem_cons,List.not_mem_nil,or_false] at hA;rcases hA with rfl|rfl|rfl|rfl|rfl|rfl<;>first|exact (hb:False).elim|exact Flat.noRd hb|exact .inl ⟨_,List.mem_cons_self .., .inr hb⟩|exact rdX hM hb|exact .inl ⟨_,by simp, .inr hb⟩)⟩
  clear hf63 hs63
  clear h62
  refine gG h63<|nK k55<|gF [1,3,5,6,85] rfl<|?_;clear h63
  refine gcd rfl (fun hb64 hp64=> ?_) fun hb64 hp64=> ?_
  ·skip
   refine rT 17 [] (olB 0 ti_85 rfl rfl<|onfl 1 fl_173_0 ti_97 rfl rfl<|oM 2 rfl<|ofB fl_32_1 rfl<|olB 6 ti_3 rfl rfl<|oxI sl_23 ti_3 (aO 9 rfl) om9 rfl<|olI ti_3 (aO 9 rfl) om9 rfl<|oM 1 rfl<|ofB fl_32_2 rfl<|olB 6 ti_3 rfl rfl<|oxI sl_23 ti_3 (aO 9 rfl) om9 rfl<|olI ti_3 (aO 9 rfl) om9 rfl<|oV (r_nilckI rfl rfl) rfl<|oM 1 rfl<|.nl)<|gO [2,3,4,5,0,1,6,7,8,9,10,11] rfl<|fun a70 w70 h70=> ?_
   have hp69:=h70.sh.passL (Lp:= [_,_,_,_])
   refine wl_ex (x_inv2 h70 rfl rfl rfl rfl rfl (hM.store _ _ words owner q n (nth regs.l ins.a.toNat) (nth regs.l ins.b.toNat) hp69 hqn (by omega) (by omega))) (wanted_none rfl _) ?_
   rintro a71 w71 ⟨_,⟨rfl,words71,owner71,q71,hst71,hs71⟩,hf71⟩
   change Sh _ _ _ [.blk M.g0 182 [words71.v,owner71.v], .own 3 words71, .own 3 owner71,M.X q71] at hs71
   have h71:St 193 K W a71 w71 _ [_,_,_,_,_,_,_,_,_,_,_,_]:=⟨hf71,h70.sh.backL (Lp:= [_,_,_,_]) hs71 (by intro A hA b hb;simp only [List.mem_cons,List.not_mem_nil,or_false] at hA;rcases hA with rfl|rfl|rfl|rfl<;>first|exact (hb:False).elim|exact Flat.noRd hb|exact .inl ⟨_,List.mem_cons_self .., .inr hb⟩|exact rdX hM hb|exact .inl ⟨_,by simp, .inr hb⟩)⟩
   clear hf71 hs71
   clear h70
   refine gG h71<|nN<|fun a72 w72 h72=> ?_;clear h71
   try simp only [Exit.then,Exit.inBlock,if_true]
   refine x_end0 (fn:=Tryz.f146) rfl h72 ?_
   have hf9:(fell|| !decide (0≤nth regs.l ins.a.toNat∧nth regs.l ins.a.toNat<(words.l.length:Int)))=fell:=or_f hb64
   have hz:=(h72.sh.sel (L' := [_,_,_,_,_,_,_,_,_,_]) [5,7,8,9,10,0,1,2,3,11] rfl)
   rw [hf9] at hz
   obtain ⟨wt,hwt1,hwt2⟩:=hst71
   refine ⟨rfl,⟨regs.v,regs.l⟩,⟨words71.v,words71.l⟩,⟨owner71.v,owner71.l⟩,⟨prints.v,prints.l⟩,q71,wt,(nth thr.l n).pc,fell,hwt1, ?_, ?_⟩
   · exact Eq.trans (hwt2 _ _ _ _) (execT_11t (by assumption) (by assumption)).symm
   · rw [←qset_n hrv ht];exact hz
  refine gS<|fun a73 w73 h73=> ?_
  try simp only [Exit.then,Exit.inBlock,if_true]
  refine x_end0 (fn:=Tryz.f146) rfl h73 ?_
  have hf9:(fell|| !decide (0≤nth regs.l ins.a.toNat∧nth regs.l ins.a.toNat<(words.l.length:Int)))=true:=or_t hb64
  have hz:=(h73.sh.sel (L' := [_,_,_,_,_,_,_,_,_,_]) [1,7,8,9,10,2,3,4,5,11] rfl)
  rw [hf9] at hz
  refine ⟨rfl,⟨regs.v,regs.l⟩,⟨words.v,words.l⟩,⟨owner.v,owner.l⟩,⟨prints.v,prints.l⟩,q,(nth (M.qs q) n),(nth thr.l n).pc,true,(list_set_nth _ _).symm, ?_, ?_⟩
  · (refine Eq.trans ?_ (execT_11f (by assumption) (by assumption)).symm;rfl)
  · rw [←qset_n hrv ht];exact hz
 refine sG (oeqI _ _ rfl<|oM 1 rfl<|.nl)<|gcd rfl (fun hb75 hp75=> ?_) fun hb75 hp75=> ?_
 ·skip
  have q9:=hR.o13 (by omega)
  have hw0:=hab.2.1 (by assumption)
  have hfl:findsL (nth (M.qs q) n) words.l ins.a=nth words.l ins.a.toNat:=findsL_none (fun j hj=>absurd hj (by omega))
  refine gK fun _ k76=>fun a77 w77 h77=>x_quiet (by kernel_rfl) (by kernel_rfl) h77 fun _ z78=>qQ h77.fr<|qRn (olB 1 ti_85 rfl rfl<|onfl 2 fl_173_0 ti_97 rfl rfl<|oM 1 rfl<|ofB fl_32_1 rfl<|olB 0 ti_3 rfl rfl<|.nl)<|fun _ hq=>wq_inv hq rfl rfl rfl (wanted_none rfl _) rfl rfl (fun w h=>(hM.load _ words owner q n ins.a ⟨h.blk 7 rfl,h.own 8 rfl,h.own 9 rfl,h.ok _ (List.mem_of_getElem? (i:=10) rfl)⟩ hqn hwl (by omega)))<|qRn (oM 1 rfl<|ofB fl_32_2 rfl<|olB 0 ti_3 rfl rfl<|.nl)<|?_
  have hl79:regs.l.length≤140737488355328:=(h77.sh.own 5 rfl).len
  refine qRn (oxI sl_23 ti_3 (aO 5 rfl) om9 rfl<|olI ti_3 (aO 5 rfl) om9 rfl<|oeqI _ _ rfl<|oM 1 rfl<|.nl)<|qN z78<|hK k76<|gF [1,3,5,6,8] rfl<|gK fun _ k80=>sG (oM 1 rfl<|.nl)<|?_;clear h77
  refine gcd rfl (fun hb82 hp82=> ?_) fun hb82 hp82=> ?_
  ·skip
   refine rT 14 [] (olB 1 ti_85 rfl rfl<|onfl 2 fl_173_0 ti_97 rfl rfl<|oM 1 rfl<|ofB fl_32_1 rfl<|olB 0 ti_3 rfl rfl<|oM 1 rfl<|ofB fl_32_3 rfl<|olB 0 ti_3 rfl rfl<|oxI sl_23 ti_3 (aO 5 rfl) om9 rfl<|olI ti_3 (aO 5 rfl) om9 rfl<|oV (r_nilckI rfl rfl) rfl<|oM 1 rfl<|.nl)<|gO [7,8,9,10,0,1,2,3,4,5,6,11] rfl<|fun a88 w88 h88=> ?_
   have hp87:=h88.sh.passL (Lp:= [_,_,_,_])
   refine wl_ex (x_inv2 h88 rfl rfl rfl rfl rfl (hM.swap _ _ words owner q n ins.a (nth regs.l ins.c.toNat) hp87 (by omega))) (wanted_none rfl _) ?_
   rintro a89 w89 ⟨_,⟨rfl,words89,owner89,q89,hst89,hs89⟩,hf89⟩
   change Sh _ _ _ [.blk M.g0 182 [words89.v,owner89.v], .own 3 words89, .own 3 owner89,M.X q89] at hs89
   have h89:St 193 K W a89 w89 _ [_,_,_,_,_,_,_,_,_,_,_,_]:=⟨hf89,h88.sh.backL (Lp:= [_,_,_,_]) hs89 (by intro A hA b hb;simp only [List.mem_cons,List.not_mem_nil,or_false] at hA;rcases hA with rfl|rfl|rfl|rfl<;>first|exact (hb:False).elim|exact Flat.noRd hb|exact .inl ⟨_,List.mem_cons_self .., .inr hb⟩|exact rdX hM hb|exact .inl ⟨_,by simp, .inr hb⟩)⟩
   clear hf89 hs89
   clear h88
   refine gG h89<|nK k80<|fun a90 w90 h90=>x_tail 6 [] (by kernel_rfl) (by kernel_rfl) h90 fun _ z91=>qQ h90.fr<|qRn (oM 1 rfl<|ofB fl_32_2 rfl<|olB 4 ti_3 rfl rfl<|oM 1 rfl<|.nl)<|qP bd_145 rfl (fun w h=>(pbit_t hb82 _))<|qRn (oxI sl_23 ti_3 (aO 9 rfl) om9 rfl<|.nl)<|qN z91<|gte 9 (1:Int) ti_3 om9 rfl rfl<|nN<|fun a93 w93 h93=> ?_;clear h89 h90
   try simp only [Exit.then,Exit.inBlock,if_true]
   refine x_end0 (fn:=Tryz.f146) rfl h93 ?_
   have hz:=(h93.sh.sel (L' := [_,_,_,_,_,_,_,_,_,_]) [6,7,8,9,10,0,1,2,3,11] rfl)
   obtain ⟨hw1,hw2⟩:=swap_eq (n:=n) (pc:=(nth thr.l n).pc) (regs:=regs.l.set ins.b.toNat 1) (prints:=prints.l) (fell:=fell) hst89
   refine ⟨rfl,⟨regs.v,regs.l.set ins.b.toNat 1⟩,⟨words89.v,words89.l⟩,⟨owner89.v,owner89.l⟩,⟨prints.v,prints.l⟩,q89,(nth (M.qs q) n),(nth thr.l n).pc,fell,hw1, ?_, ?_⟩
   · (refine Eq.trans hw2 (execT_13t (x:=(⟨(nth thr.l n).pc,regs.l,nth (M.qs q) n,words.l,owner.l,prints.l,fell⟩:TS)) (by assumption) (hfl.symm.trans (by assumption))).symm)
   · rw [←qset_n hrv ht];exact hz
  refine gS<|hK k80<|fun a94 w94 h94=>x_tail 6 [] (by kernel_rfl) (by kernel_rfl) h94 fun _ z95=>qQ h94.fr<|qRn (oM 1 rfl<|ofB fl_32_2 rfl<|olB 0 ti_3 rfl rfl<|oM 1 rfl<|.nl)<|qP bd_145 rfl (fun w h=>(pbit_f hb82 _))<|qRn (oxI sl_23 ti_3 (aO 5 rfl) om9 rfl<|.nl)<|qN z95<|gte 5 (0:Int) ti_3 om9 rfl rfl<|nN<|fun a97 w97 h97=> ?_;clear h94
  try simp only [Exit.then,Exit.inBlock,if_true]
  refine x_end0 (fn:=Tryz.f146) rfl h97 ?_
  have hz:=(h97.sh.sel (L' := [_,_,_,_,_,_,_,_,_,_]) [2,3,4,5,6,7,8,9,10,11] rfl)
  refine ⟨rfl,⟨regs.v,regs.l.set ins.b.toNat 0⟩,⟨words.v,words.l⟩,⟨owner.v,owner.l⟩,⟨prints.v,prints.l⟩,q,(nth (M.qs q) n),(nth thr.l n).pc,fell,(list_set_nth _ _).symm, ?_, ?_⟩
  · (refine Eq.trans ?_ (execT_13f (by assumption) (fun h9=>absurd (hfl.trans h9) (by assumption))).symm;rfl)
  · rw [←qset_n hrv ht];exact hz
 refine sG (oeqI _ _ rfl<|oM 1 rfl<|.nl)<|gF [1,3,5,19,142] rfl<|gcd rfl (fun hb99 hp99=> ?_) fun hb99 hp99=> ?_
 ·skip
  have q9:=hR.o17 (by omega)
  intro a100 w100 h100
  refine x_tail 12 [] (by kernel_rfl) (by kernel_rfl) h100 fun _ z101=>qQ h100.fr<|qRn (olB 1 ti_85 rfl rfl<|onfl 2 fl_173_0 ti_97 rfl rfl<|.nl)<|fun _ hq=>wq_inv hq rfl rfl rfl (wanted_none rfl _) rfl rfl (fun w h=>(hM.base _ words owner q ⟨h.blk 7 rfl,h.own 8 rfl,h.own 9 rfl,h.ok _ (List.mem_of_getElem? (i:=10) rfl)⟩))<|qRn (onfl 7 fl_182_1 ti_23 rfl rfl<|ofB fl_32_1 rfl<|olB 0 ti_3 rfl rfl<|oM 1 rfl<|.nl)<|?_
  have hl102:owner.l.length≤140737488355328:=(h100.sh.own 9 rfl).len
  refine qRn (oxI sl_23 ti_3 (aO 9 rfl) om9 rfl<|.nl)<|qN z101<|gte 9 (((n:Nat):Int):Int) ti_3 om9 rfl rfl<|nN<|fun a104 w104 h104=> ?_;clear h100
  try simp only [Exit.then,Exit.inBlock,if_true]
  refine x_end0 (fn:=Tryz.f146) rfl h104 ?_
  have hz:=(h104.sh.sel (L' := [_,_,_,_,_,_,_,_,_,_]) [2,3,4,5,6,7,8,9,10,11] rfl)
  refine ⟨rfl,⟨regs.v,regs.l⟩,⟨words.v,words.l⟩,⟨owner.v,owner.l.set ins.a.toNat ((n:Nat):Int)⟩,⟨prints.v,prints.l⟩,q,(nth (M.qs q) n),(nth thr.l n).pc,fell,(list_set_nth _ _).symm, ?_, ?_⟩
  · (refine Eq.trans ?_ (execT_17 (by assumption)).symm;rfl)
  · rw [←qset_n hrv ht];exact hz
 refine sG (oeqI _ _ rfl<|oM 1 rfl<|.nl)<|gcd rfl (fun hb106 hp106=> ?_) fun hb106 hp106=> ?_
 ·skip
  have q9:=hR.o17 (by omega)
  have hw0:=hab.1 (by omega)
  refine gK fun _ k107=>gK fun _ k108=>fun a109 w109 h109=>x_quiet (by kernel_rfl) (by kernel_rfl) h109 fun _ z110=>qQ h109.fr<|qRn (olB 1 ti_85 rfl rfl<|onfl 2 fl_173_0 ti_97 rfl rfl<|.nl)<|fun _ hq=>wq_inv hq rfl rfl rfl (wanted_none rfl _) rfl rfl (fun w h=>(hM.base _ words owner q ⟨h.blk 7 rfl,h.own 8 rfl,h.own 9 rfl,h.ok _ (List.mem_of_getElem? (i:=10) rfl)⟩))<|qRn (onfl 7 fl_182_1 ti_23 rfl rfl<|ofB fl_32_1 rfl<|olB 0 ti_3 rfl rfl<|.nl)<|?_
  have hl111:owner.l.length≤140737488355328:=(h109.sh.own 9 rfl).len
  refine qRn (oxI sl_23 ti_3 (aO 9 rfl) om9 rfl<|olI ti_3 (aO 9 rfl) om9 rfl<|oM 1 rfl<|oneI _ _ rfl<|oM 1 rfl<|.nl)<|?_
  rcases dsp (nth owner.l ins.a.toNat≠((n:Nat):Int)) with ⟨hb112,hp112⟩|⟨hb112,hp112⟩
  ·skip
   refine qRn (oKs 8 hb112 rfl rfl<|opT hb112 rfl<|.nl)<|qN z110<|?_;clear h109
   refine hK k108<|gF [1,3,5,181] rfl<|gcT rfl rfl<|sK fun _ k114=>gRn (olB 1 ti_85 rfl rfl<|onf fl_173_4 rfl<|.nl)<|gst (v:= .bool true) 2 ti_4 rfl rfl rfl<|nK k114<|gR<|uT<|uB<|fun a116 w116 h116=>x_ret0 (fn:=Tryz.f146) rfl h116 ?_
   have hz:=(h116.sh.sel (L' := [_,_,_,_,_,_,_,_,_,_]) [2,3,4,5,6,7,8,9,10,11] rfl)
   refine ⟨rfl,⟨regs.v,regs.l⟩,⟨words.v,words.l⟩,⟨owner.v,owner.l⟩,⟨prints.v,prints.l⟩,q,(nth (M.qs q) n),(nth thr.l n).pc,true,(list_set_nth _ _).symm, ?_, ?_⟩
   · (refine Eq.trans ?_ (pexec_18f (by assumption) (by first|exact .inl (by omega)|exact .inr (by assumption))).symm;rfl)
   · rw [←qset_n hrv ht];exact hz
  refine qRn (oG hb112 (r_ldb (i:=1) ti_85 rfl rfl rfl rfl) rfl<|oG hb112 (r_nil rfl rfl) rfl<|oG hb112 (r_fieldB (r:=0) fl_173_0 rfl rfl rfl) rfl<|oG hb112 (r_ldb (i:=2) ti_97 rfl rfl rfl rfl) rfl<|oG hb112 (r_move rfl rfl) rfl<|oG hb112 (r_fieldB (r:=1) fl_32_1 rfl rfl rfl) rfl<|oG hb112 (r_ldb (i:=0) ti_3 rfl rfl rfl rfl) rfl<|.nl)<|fun _ hq=>wq_inv hq rfl rfl rfl (wanted_yes hq rfl rfl rfl rfl hb112) rfl rfl (fun w h=>(hM.freeing _ words owner q n ins.a ⟨h.blk 7 rfl,h.own 8 rfl,h.own 9 rfl,h.ok _ (List.mem_of_getElem? (i:=10) rfl)⟩ hqn hwl hwh0))<|qRn (opF hb112 rfl<|.nl)<|qN z110<|?_;clear h109
  refine hK k108<|gF [1,3,5,181] rfl<|gCb rfl (fun hb125=> ?_) fun hb125=> ?_
  ·skip
   refine sK fun _ k126=>gRn (olB 1 ti_85 rfl rfl<|onf fl_173_4 rfl<|.nl)<|gst (v:= .bool true) 2 ti_4 rfl rfl rfl<|nK k126<|gR<|uT<|uB<|fun a128 w128 h128=>x_ret0 (fn:=Tryz.f146) rfl h128 ?_
   have hz:=(h128.sh.sel (L' := [_,_,_,_,_,_,_,_,_,_]) [2,3,4,5,6,7,8,9,10,11] rfl)
   refine ⟨rfl,⟨regs.v,regs.l⟩,⟨words.v,words.l⟩,⟨owner.v,owner.l⟩,⟨prints.v,prints.l⟩,q,(nth (M.qs q) n),(nth thr.l n).pc,true,(list_set_nth _ _).symm, ?_, ?_⟩
   · (refine Eq.trans ?_ (pexec_18f (by assumption) (by first|exact .inl (by omega)|exact .inr (by assumption))).symm;rfl)
   · rw [←qset_n hrv ht];exact hz
  refine gS<|hK k107<|rT 7 [] (olB 1 ti_85 rfl rfl<|onfl 2 fl_173_0 ti_97 rfl rfl<|oM 1 rfl<|ofB fl_32_1 rfl<|olB 0 ti_3 rfl rfl<|.nl)<|gO [7,8,9,10,0,1,2,3,4,5,6,11] rfl<|fun a134 w134 h134=> ?_
  have hp133:=h134.sh.passL (Lp:= [_,_,_,_])
  refine wl_ex (x_inv2 h134 rfl rfl rfl rfl rfl (hM.free _ _ words owner q n ins.a hp133 hqn (by omega) (by omega))) (wanted_none rfl _) ?_
  rintro a135 w135 ⟨_,⟨rfl,words135,owner135,q135,hst135,hs135⟩,hf135⟩
  change Sh _ _ _ [.blk M.g0 182 [words135.v,owner135.v], .own 3 words135, .own 3 owner135,M.X q135] at hs135
  have h135:St 193 K W a135 w135 _ [_,_,_,_,_,_,_,_,_,_,_,_]:=⟨hf135,h134.sh.backL (Lp:= [_,_,_,_]) hs135 (by intro A hA b hb;simp only [List.mem_cons,List.not_mem_nil,or_false] at hA;rcases hA with rfl|rfl|rfl|rfl<;>first|exact (hb:False).elim|exact Flat.noRd hb|exact .inl ⟨_,List.mem_cons_self .., .inr hb⟩|exact rdX hM hb|exact .inl ⟨_,by simp, .inr hb⟩)⟩
  clear hf135 hs135
  clear h134
  refine gG h135<|nN<|fun a136 w136 h136=> ?_;clear h135
  try simp only [Exit.then,Exit.inBlock,if_true]
  refine x_end0 (fn:=Tryz.f146) rfl h136 ?_
  have hz:=(h136.sh.sel (L' := [_,_,_,_,_,_,_,_,_,_]) [6,7,8,9,10,0,1,2,3,11] rfl)
  obtain ⟨wt,hwt1,hwt2⟩:=hst135
  refine ⟨rfl,⟨regs.v,regs.l⟩,⟨words135.v,words135.l⟩,⟨owner135.v,owner135.l⟩,⟨prints.v,prints.l⟩,q135,wt,(nth thr.l n).pc,fell,hwt1, ?_, ?_⟩
  · exact Eq.trans (hwt2 _ _ _ _) (pexec_18c (by assumption) (by omega) (by assumption)).symm
  · rw [←qset_n hrv ht];exact hz
 refine gS<|fun a137 w137 h137=> ?_
 try simp only [Exit.then,Exit.inBlock,if_true]
 refine x_end0 (fn:=Tryz.f146) rfl h137 ?_
 have hz:=(h137.sh.sel (L' := [_,_,_,_,_,_,_,_,_,_]) [2,3,4,5,6,7,8,9,10,11] rfl)
 refine ⟨rfl,⟨regs.v,regs.l⟩,⟨words.v,words.l⟩,⟨owner.v,owner.l⟩,⟨prints.v,prints.l⟩,q,(nth (M.qs q) n),(nth thr.l n).pc,fell,(list_set_nth _ _).symm, ?_, ?_⟩
 · (refine Eq.trans ?_ (pexec_no (by omega) (by omega)).symm;rfl)
 · rw [←qset_n hrv ht];exact hz
theorem pdo_c (K:Nat→Prop)(M:MemS)(g gp:Nat)(code:Ls (Ls Ins))(thr:Ls ThQ)(regs prints words owner:Ls Int)(q:M.σ)(pw:Value)(locks nregs:Int)(fell:Bool)(n:Nat)(k:Nat)(W:World)(hM:MemI Tryz.prog 182 3 M)(hS:Sh K W W [.blk g 173 [.iface M.T (.pointer (some M.u)), .pointer (some ⟨gp,0,none⟩),thr.v,prints.v, .bool fell], .rblk gp 25 [code.v,pw, .int .i64 locks, .int .i64 nregs], .own 189 thr, .own 3 regs, .own 3 prints, .blk M.g0 182 [words.v,owner.v], .own 3 words, .own 3 owner,M.X q, .at_ code])(ht:n<thr.l.length)(htn:n≤1000)(hrv:(nth thr.l n).rv=regs.v)(hqn:n<(M.qs q).length)(hwl:(nth (M.qs q) n).length≤3)(hwh0:∀x∈nth (M.qs q) n,x.lock=true→x.what=0)(hge:∀v∈owner.l,-1≤v)(htc:n<code.l.length)(hpcr:0≤(nth thr.l n).pc∧(nth thr.l n).pc≤(nth code.l n).l.length)(hpcl:(nth code.l n).l.length≤1000000)(hmk:mvOK M.m (nth code.l n).l (⟨(nth thr.l n).pc,regs.l,nth (M.qs q) n,words.l,owner.l,prints.l,fell⟩:TS) k=true)(hpl:prints.l.length≤100000000)(hwt:∀j,j<(nth (M.qs q) n).length→WtOk (nth (nth (M.qs q) n) j) words owner)(hio:k=0→InsR regs.l.length words.l.length owner.l.length (nextIns (nth code.l n).l (nth thr.l n).pc)):
    Rets Tryz.prog 123 [.pointer (some ⟨g,0,none⟩), .agg #[.int .i64 ((n:Nat):Int), .int .i64 (((k:Nat):Int)-1)]] W (fun v w' =>v= .tuple #[]∧MPost K W 173 189 3 182 25 M g gp n [code.v,pw, .int .i64 locks, .int .i64 nregs] thr q (doT M.m n (nth code.l n).l k (⟨(nth thr.l n).pc,regs.l,nth (M.qs q) n,words.l,owner.l,prints.l,fell⟩:TS)) code w'):=by
 refine gen Tryz.func123 Tryz.ntmps123 hS rfl fun a10 h10=>gG h10<|sK fun _ k11=>gbx rfl rfl fun b12=>nK k11<|gK fun _ k13=>gNl (aO 3 rfl) fun hl14=>rQ (oM 1 rfl<|onfl 1 fl_173_2 ti_171 rfl rfl<|ofB fl_179_0 rfl<|olB 0 ti_3 rfl rfl<|oxN sl_171 ti_189 (aO 3 rfl) _ om9 rfl<|oM 1 rfl<|.nl)<|hK k13<|gK fun _ k15=>sG (ofB fl_179_1 rfl<|olB 0 ti_3 rfl rfl<|ogeI _ _ rfl<|.nl)<|?_;clear h10
 refine gcd rfl (fun hb17 hp17=> ?_) fun hb17 hp17=> ?_
 ·skip
  have hkw:k-1<(nth (M.qs q) n).length:=by rcases mvOK_k hmk with ⟨h9,_⟩|⟨h9,h8,_⟩;omega;(change k≤(nth (M.qs q) n).length at h8;omega)
  refine gK fun _ k18=>rT 8 [] (oM 1 rfl<|onfl 1 fl_173_0 ti_97 rfl rfl<|ofB fl_179_0 rfl<|olB 0 ti_3 rfl rfl<|ofB fl_179_1 rfl<|olB 0 ti_3 rfl rfl<|.nl)<|fun a20 w20 h20=> ?_
  have h19:=h20.same (d:=25) (v' := .int .i64 ((k-1:Nat):Int)) rfl (by rw [show ((k:Nat):Int)-1=((k-1:Nat):Int) from by omega])
  clear h20
  have h24:=h19.sel (L' := [_,_,_,_,_,_,_,_,_,_,_]) [6,7,8,9,0,1,2,3,4,5,10] rfl
  have hp25:=h24.sh.passL (Lp:= [_,_,_,_])
  refine wl_ex (x_inv2 h24 rfl rfl rfl rfl rfl (hM.flush _ _ words owner q n (k-1) hp25 hqn hwl hkw hwt)) (wanted_none rfl _) ?_
  rintro a26 w26 ⟨_,⟨rfl,words26,owner26,q26,hst26,hs26⟩,hf26⟩
  change Sh _ _ _ [.blk M.g0 182 [words26.v,owner26.v], .own 3 words26, .own 3 owner26,M.X q26] at hs26
  have h26:St 196 K W a26 w26 _ [_,_,_,_,_,_,_,_,_,_,_]:=⟨hf26,h24.sh.backL (Lp:= [_,_,_,_]) hs26 (by intro A hA b hb;simp only [List.mem_cons,List.not_mem_nil,or_false] at hA;rcases hA with rfl|rfl|rfl|rfl<;>first|exact (hb:False).elim|exact Flat.noRd hb|exact .inl ⟨_,List.mem_cons_self .., .inr hb⟩|exact rdX hM hb|exact .inl ⟨_,by simp, .inr hb⟩)⟩
  clear hf26 hs26
  clear h24
  refine gG h26<|nK k18<|gF [] rfl<|gR<|uT<|fun a27 w27 h27=>x_ret0 (fn:=Tryz.f123) rfl h27 ?_;clear h26
  have hz:=(h27.sh.sel (L' := [_,_,_,_,_,_,_,_,_,_]) [5,6,7,8,9,0,1,2,3,10] rfl)
  obtain ⟨wt,hwt1,hwt2⟩:=hst26
  refine ⟨rfl,⟨regs.v,regs.l⟩,⟨words26.v,words26.l⟩,⟨owner26.v,owner26.l⟩,⟨prints.v,prints.l⟩,q26,wt,(nth thr.l n).pc,fell,hwt1, ?_, ?_⟩
  · exact (hwt2 _ _ _ _).trans (pdoT_k (by omega)).symm
  · rw [←qset_n hrv ht];exact hz
 refine gS<|hK k15<|sK fun _ k28=>gRn (oM 1 rfl<|ofB fl_179_0 rfl<|olB 0 ti_3 rfl rfl<|.nl)<|fun a30 w30 h30=>wl_ex (x_call h30 bd_128 rfl rfl rfl rfl rfl (pnext_c M g gp code thr words owner q _ _ _ _ _ n _ hM (h30.sh.blk 1 rfl) (h30.sh.rblk 2 rfl) (h30.sh.at 10 rfl) (h30.sh.own 3 rfl) ⟨h30.sh.blk 6 rfl,h30.sh.own 7 rfl,h30.sh.own 8 rfl,h30.sh.ok _ (List.mem_of_getElem? (i:=9) rfl)⟩ (by omega) (by omega) (by omega))) (wanted_none rfl _) ?_
 rintro a31 w31 ⟨_,⟨hv31,hs31⟩,hf31⟩
 obtain ⟨ins,hins⟩:∃i,i=nextIns (nth code.l n).l (nth thr.l n).pc:=⟨_,rfl⟩
 rw [←hins] at hv31
 subst hv31
 have h31:St 196 K W a31 w31 _ _:=⟨hf31,h30.sh.call0 hs31⟩
 clear hf31 hs31
 clear h30
 refine gG h31<|gRn (oM 1 rfl<|oxt rfl<|oxt rfl<|.nl)<|gal ti_32 rfl fun b32=>gsw 0 ti_32 rfl rfl rfl<|gRn (oM 1 rfl<|.nl)<|nK k28<|?_;clear h31
 have hR:=hio (by omega)
 rw [←hins] at hR
 have hab9:=able_of hmk (by omega)
 change (nth thr.l n).pc<_∧ableL owner.l (nth (M.qs q) n).length (nextIns (nth code.l n).l (nth thr.l n).pc)=true at hab9
 rw [←hins] at hab9
 have hab:=hab_of hab9.2
 refine sK fun _ k34=>gRn (oM 1 rfl<|onl rfl<|ofE fl_189_0 rfl<|olI ti_3 (aO 4 rfl) om9 rfl<|oadI _ _ om9 rfl<|onl rfl<|ofE fl_189_0 rfl<|.nl)<|gte 4 ({ nth thr.l n with pc:=((nth thr.l n).pc)+1 } :ThQ) ti_3 om9 rfl rfl<|nK k34<|gF [0,3,4,5] rfl<|?_
 obtain ⟨tl,htl⟩:∃tl,tl=thr.l.set n ({ nth thr.l n with pc:=((nth thr.l n).pc)+1 }):=⟨_,rfl⟩
 intro a36 w36 h36
 have h369:=h36.relist (i:=4) (l' :=tl) rfl htl.symm
 clear h36
 rw [qset_0 hrv] at htl
 have htll:tl.length=thr.l.length:=by rw [htl,List.length_set]
 have hrv2:(nth tl n).rv=regs.v:=by rw [htl,nth_set,if_pos ⟨rfl,ht⟩]
 have hpc2:(nth tl n).pc=(nth thr.l n).pc+1:=by rw [htl,nth_set,if_pos ⟨rfl,ht⟩]
 refine gG h369<|sG (oM 1 rfl<|onl rfl<|ofE fl_189_1 rfl<|oV (Rn.same (r_lde (s:=(⟨thr.v,tl⟩:Ls ThQ)) (i:=n) (v:=((nth tl n).rv)) ti_23 rfl rfl rfl (fun w h=>(h.own 4 rfl)) (show n<tl.length from om9) (Nat.le_of_ble_eq_true rfl) rfl) hrv2) rfl<|oM 1 rfl<|.nl)<|sG (ofB fl_32_0 rfl<|olB 0 ti_3 rfl rfl<|.nl)<|gB<|sG (oeqI _ _ rfl<|oM 1 rfl<|.nl)<|?_;clear h369
 refine gcd rfl (fun hb40 hp40=> ?_) fun hb40 hp40=> ?_
 ·skip
  have q9:=hR.o1 (by omega)
  refine gL<|gNl (aO 5 rfl) fun hl41=>gRn (oM 1 rfl<|ofB fl_32_1 rfl<|olB 0 ti_3 rfl rfl<|ofB fl_32_2 rfl<|olB 0 ti_3 rfl rfl<|oxI sl_23 ti_3 (aO 5 rfl) om9 rfl<|.nl)<|gte 5 (ins.b:Int) ti_3 om9 rfl rfl<|nN<|fun a43 w43 h43=> ?_
  try simp only [Exit.then,Exit.inBlock,if_true]
  refine x_end0 (fn:=Tryz.f123) rfl h43 ?_
  have hz:=(h43.sh.sel (L' := [_,_,_,_,_,_,_,_,_,_]) [2,3,4,5,6,7,8,9,10,11] rfl)
  refine ⟨rfl,⟨regs.v,regs.l.set ins.a.toNat ins.b⟩,⟨words.v,words.l⟩,⟨owner.v,owner.l⟩,⟨prints.v,prints.l⟩,q,nth (M.qs q) n,(nth thr.l n).pc+1,fell,(list_set_nth _ _).symm, ?_, ?_⟩
  · refine Eq.trans ?_ (doT_0 (by omega)).symm;show _=execT M.m n (nextIns (nth code.l n).l (nth thr.l n).pc) _;rw [←hins];(refine Eq.trans ?_ (execT_1 (by assumption)).symm;rfl)
  · rw [htl] at hz;exact hz
 refine sG (oeqI _ _ rfl<|oM 1 rfl<|.nl)<|gcd rfl (fun hb45 hp45=> ?_) fun hb45 hp45=> ?_
 ·skip
  have q9:=hR.o2 (by omega)
  refine gNl (aO 5 rfl) fun hl46=>rT 9 [] (oM 1 rfl<|ofB fl_32_1 rfl<|olB 0 ti_3 rfl rfl<|oM 1 rfl<|ofB fl_32_2 rfl<|olB 0 ti_3 rfl rfl<|oxI sl_23 ti_3 (aO 5 rfl) om9 rfl<|olI ti_3 (aO 5 rfl) om9 rfl<|oxI sl_23 ti_3 (aO 5 rfl) om9 rfl<|.nl)<|gte 5 (nth regs.l ins.b.toNat:Int) ti_3 om9 rfl rfl<|nN<|fun a48 w48 h48=> ?_
  try simp only [Exit.then,Exit.inBlock,if_true]
  refine x_end0 (fn:=Tryz.f123) rfl h48 ?_
  have hz:=(h48.sh.sel (L' := [_,_,_,_,_,_,_,_,_,_]) [2,3,4,5,6,7,8,9,10,11] rfl)
  refine ⟨rfl,⟨regs.v,regs.l.set ins.a.toNat (nth regs.l ins.b.toNat)⟩,⟨words.v,words.l⟩,⟨owner.v,owner.l⟩,⟨prints.v,prints.l⟩,q,nth (M.qs q) n,(nth thr.l n).pc+1,fell,(list_set_nth _ _).symm, ?_, ?_⟩
  · refine Eq.trans ?_ (doT_0 (by omega)).symm;show _=execT M.m n (nextIns (nth code.l n).l (nth thr.l n).pc) _;rw [←hins];(refine Eq.trans ?_ (execT_2 (by assumption)).symm;rfl)
  · rw [htl] at hz;exact hz
 refine sG (oeqI _ _ rfl<|oM 1 rfl<|.nl)<|gcd rfl (fun hb50 hp50=> ?_) fun hb50 hp50=> ?_
 ·skip
  have q9:=hR.o3 (by omega)
  refine gNl (aO 5 rfl) fun hl51=>rT 15 [] (oM 1 rfl<|ofB fl_32_1 rfl<|olB 0 ti_3 rfl rfl<|oM 1 rfl<|ofB fl_32_2 rfl<|olB 0 ti_3 rfl rfl<|oxI sl_23 ti_3 (aO 5 rfl) om9 rfl<|olI ti_3 (aO 5 rfl) om9 rfl<|oM 1 rfl<|ofB fl_32_3 rfl<|olB 0 ti_3 rfl rfl<|oxI sl_23 ti_3 (aO 5 rfl) om9 rfl<|olI ti_3 (aO 5 rfl) om9 rfl<|oV (r_addW (p:=nth regs.l ins.b.toNat) (q:=nth regs.l ins.c.toNat) rfl rfl rfl) rfl<|oxI sl_23 ti_3 (aO 5 rfl) om9 rfl<|.nl)<|gte 5 (wrap64 ((nth regs.l ins.b.toNat)+(nth regs.l ins.c.toNat)):Int) ti_3 om9 rfl rfl<|nN<|fun a53 w53 h53=> ?_
  try simp only [Exit.then,Exit.inBlock,if_true]
  refine x_end0 (fn:=Tryz.f123) rfl h53 ?_
  have hz:=(h53.sh.sel (L' := [_,_,_,_,_,_,_,_,_,_]) [2,3,4,5,6,7,8,9,10,11] rfl)
  refine ⟨rfl,⟨regs.v,regs.l.set ins.a.toNat (wrap64 ((nth regs.l ins.b.toNat)+(nth regs.l ins.c.toNat)))⟩,⟨words.v,words.l⟩,⟨owner.v,owner.l⟩,⟨prints.v,prints.l⟩,q,nth (M.qs q) n,(nth thr.l n).pc+1,fell,(list_set_nth _ _).symm, ?_, ?_⟩
  · refine Eq.trans ?_ (doT_0 (by omega)).symm;show _=execT M.m n (nextIns (nth code.l n).l (nth thr.l n).pc) _;rw [←hins];(refine Eq.trans ?_ (execT_3 (by assumption)).symm;rfl)
  · rw [htl] at hz;exact hz
 refine sG (oeqI _ _ rfl<|oM 1 rfl<|.nl)<|gcd rfl (fun hb55 hp55=> ?_) fun hb55 hp55=> ?_
 ·skip
  have q9:=hR.o3 (by omega)
  refine gNl (aO 5 rfl) fun hl56=>rT 15 [] (oM 1 rfl<|ofB fl_32_1 rfl<|olB 0 ti_3 rfl rfl<|oM 1 rfl<|ofB fl_32_2 rfl<|olB 0 ti_3 rfl rfl<|oxI sl_23 ti_3 (aO 5 rfl) om9 rfl<|olI ti_3 (aO 5 rfl) om9 rfl<|oM 1 rfl<|ofB fl_32_3 rfl<|olB 0 ti_3 rfl rfl<|oxI sl_23 ti_3 (aO 5 rfl) om9 rfl<|olI ti_3 (aO 5 rfl) om9 rfl<|oV (r_subW (p:=nth regs.l ins.b.toNat) (q:=nth regs.l ins.c.toNat) rfl rfl rfl) rfl<|oxI sl_23 ti_3 (aO 5 rfl) om9 rfl<|.nl)<|gte 5 (wrap64 ((nth regs.l ins.b.toNat)-(nth regs.l ins.c.toNat)):Int) ti_3 om9 rfl rfl<|nN<|fun a58 w58 h58=> ?_
  try simp only [Exit.then,Exit.inBlock,if_true]
  refine x_end0 (fn:=Tryz.f123) rfl h58 ?_
  have hz:=(h58.sh.sel (L' := [_,_,_,_,_,_,_,_,_,_]) [2,3,4,5,6,7,8,9,10,11] rfl)
  refine ⟨rfl,⟨regs.v,regs.l.set ins.a.toNat (wrap64 ((nth regs.l ins.b.toNat)-(nth regs.l ins.c.toNat)))⟩,⟨words.v,words.l⟩,⟨owner.v,owner.l⟩,⟨prints.v,prints.l⟩,q,nth (M.qs q) n,(nth thr.l n).pc+1,fell,(list_set_nth _ _).symm, ?_, ?_⟩
  · refine Eq.trans ?_ (doT_0 (by omega)).symm;show _=execT M.m n (nextIns (nth code.l n).l (nth thr.l n).pc) _;rw [←hins];(refine Eq.trans ?_ (execT_4 (by assumption)).symm;rfl)
  · rw [htl] at hz;exact hz
 refine sG (oeqI _ _ rfl<|oM 1 rfl<|.nl)<|gcd rfl (fun hb60 hp60=> ?_) fun hb60 hp60=> ?_
 ·skip
  have q9:=hR.o3 (by omega)
  refine gNl (aO 5 rfl) fun hl61=>rT 15 [] (oM 1 rfl<|ofB fl_32_1 rfl<|olB 0 ti_3 rfl rfl<|oM 1 rfl<|ofB fl_32_2 rfl<|olB 0 ti_3 rfl rfl<|oxI sl_23 ti_3 (aO 5 rfl) om9 rfl<|olI ti_3 (aO 5 rfl) om9 rfl<|oM 1 rfl<|ofB fl_32_3 rfl<|olB 0 ti_3 rfl rfl<|oxI sl_23 ti_3 (aO 5 rfl) om9 rfl<|olI ti_3 (aO 5 rfl) om9 rfl<|oV (r_mulW (p:=nth regs.l ins.b.toNat) (q:=nth regs.l ins.c.toNat) rfl rfl rfl) rfl<|oxI sl_23 ti_3 (aO 5 rfl) om9 rfl<|.nl)<|gte 5 (wrap64 ((nth regs.l ins.b.toNat)*(nth regs.l ins.c.toNat)):Int) ti_3 om9 rfl rfl<|nN<|fun a63 w63 h63=> ?_
  try simp only [Exit.then,Exit.inBlock,if_true]
  refine x_end0 (fn:=Tryz.f123) rfl h63 ?_
  have hz:=(h63.sh.sel (L' := [_,_,_,_,_,_,_,_,_,_]) [2,3,4,5,6,7,8,9,10,11] rfl)
  refine ⟨rfl,⟨regs.v,regs.l.set ins.a.toNat (wrap64 ((nth regs.l ins.b.toNat)*(nth regs.l ins.c.toNat)))⟩,⟨words.v,words.l⟩,⟨owner.v,owner.l⟩,⟨prints.v,prints.l⟩,q,nth (M.qs q) n,(nth thr.l n).pc+1,fell,(list_set_nth _ _).symm, ?_, ?_⟩
  · refine Eq.trans ?_ (doT_0 (by omega)).symm;show _=execT M.m n (nextIns (nth code.l n).l (nth thr.l n).pc) _;rw [←hins];(refine Eq.trans ?_ (execT_5 (by assumption)).symm;rfl)
  · rw [htl] at hz;exact hz
 refine sG (oeqI _ _ rfl<|oM 1 rfl<|.nl)<|gcd rfl (fun hb65 hp65=> ?_) fun hb65 hp65=> ?_
 ·skip
  have q9:=hR.o3 (by omega)
  intro a67 w67 h67
  refine x_tail 16 [] (by kernel_rfl) (by kernel_rfl) h67 fun _ z68=>qQ h67.fr<|qRn (oM 1 rfl<|ofB fl_32_1 rfl<|olB 0 ti_3 rfl rfl<|oM 1 rfl<|ofB fl_32_2 rfl<|olB 0 ti_3 rfl rfl<|.nl)<|?_
  have hl69:regs.l.length≤140737488355328:=(h67.sh.own 5 rfl).len
  refine qRn (oxI sl_23 ti_3 (aO 5 rfl) om9 rfl<|olI ti_3 (aO 5 rfl) om9 rfl<|oM 1 rfl<|ofB fl_32_3 rfl<|olB 0 ti_3 rfl rfl<|oxI sl_23 ti_3 (aO 5 rfl) om9 rfl<|olI ti_3 (aO 5 rfl) om9 rfl<|oltI _ _ rfl<|.nl)<|qP bd_145 rfl (fun w h=>(pbit_c (decide (nth regs.l ins.b.toNat<nth regs.l ins.c.toNat)) _))<|qRn (oxI sl_23 ti_3 (aO 5 rfl) om9 rfl<|.nl)<|qN z68<|gte 5 (bit (decide (nth regs.l ins.b.toNat<nth regs.l ins.c.toNat)):Int) ti_3 om9 rfl rfl<|nN<|fun a71 w71 h71=> ?_;clear h67
  try simp only [Exit.then,Exit.inBlock,if_true]
  refine x_end0 (fn:=Tryz.f123) rfl h71 ?_
  have hz:=(h71.sh.sel (L' := [_,_,_,_,_,_,_,_,_,_]) [2,3,4,5,6,7,8,9,10,11] rfl)
  refine ⟨rfl,⟨regs.v,regs.l.set ins.a.toNat (bit (decide (nth regs.l ins.b.toNat<nth regs.l ins.c.toNat)))⟩,⟨words.v,words.l⟩,⟨owner.v,owner.l⟩,⟨prints.v,prints.l⟩,q,nth (M.qs q) n,(nth thr.l n).pc+1,fell,(list_set_nth _ _).symm, ?_, ?_⟩
  · refine Eq.trans ?_ (doT_0 (by omega)).symm;show _=execT M.m n (nextIns (nth code.l n).l (nth thr.l n).pc) _;rw [←hins];(refine Eq.trans ?_ (execT_6 (by assumption)).symm;rfl)
  · rw [htl] at hz;exact hz
 refine sG (oeqI _ _ rfl<|oM 1 rfl<|.nl)<|gcd rfl (fun hb73 hp73=> ?_) fun hb73 hp73=> ?_
 ·skip
  have q9:=hR.o3 (by omega)
  intro a75 w75 h75
  refine x_tail 16 [] (by kernel_rfl) (by kernel_rfl) h75 fun _ z76=>qQ h75.fr<|qRn (oM 1 rfl<|ofB fl_32_1 rfl<|olB 0 ti_3 rfl rfl<|oM 1 rfl<|ofB fl_32_2 rfl<|olB 0 ti_3 rfl rfl<|.nl)<|?_
  have hl77:regs.l.length≤140737488355328:=(h75.sh.own 5 rfl).len
  refine qRn (oxI sl_23 ti_3 (aO 5 rfl) om9 rfl<|olI ti_3 (aO 5 rfl) om9 rfl<|oM 1 rfl<|ofB fl_32_3 rfl<|olB 0 ti_3 rfl rfl<|oxI sl_23 ti_3 (aO 5 rfl) om9 rfl<|olI ti_3 (aO 5 rfl) om9 rfl<|oeqI _ _ rfl<|.nl)<|qP bd_145 rfl (fun w h=>(pbit_c (decide (nth regs.l ins.b.toNat=nth regs.l ins.c.toNat)) _))<|qRn (oxI sl_23 ti_3 (aO 5 rfl) om9 rfl<|.nl)<|qN z76<|gte 5 (bit (decide (nth regs.l ins.b.toNat=nth regs.l ins.c.toNat)):Int) ti_3 om9 rfl rfl<|nN<|fun a79 w79 h79=> ?_;clear h75
  try simp only [Exit.then,Exit.inBlock,if_true]
  refine x_end0 (fn:=Tryz.f123) rfl h79 ?_
  have hz:=(h79.sh.sel (L' := [_,_,_,_,_,_,_,_,_,_]) [2,3,4,5,6,7,8,9,10,11] rfl)
  refine ⟨rfl,⟨regs.v,regs.l.set ins.a.toNat (bit (decide (nth regs.l ins.b.toNat=nth regs.l ins.c.toNat)))⟩,⟨words.v,words.l⟩,⟨owner.v,owner.l⟩,⟨prints.v,prints.l⟩,q,nth (M.qs q) n,(nth thr.l n).pc+1,fell,(list_set_nth _ _).symm, ?_, ?_⟩
  · refine Eq.trans ?_ (doT_0 (by omega)).symm;show _=execT M.m n (nextIns (nth code.l n).l (nth thr.l n).pc) _;rw [←hins];(refine Eq.trans ?_ (execT_7 (by assumption)).symm;rfl)
  · rw [htl] at hz;exact hz
 refine sG (oeqI _ _ rfl<|oM 1 rfl<|.nl)<|gcd rfl (fun hb81 hp81=> ?_) fun hb81 hp81=> ?_
 ·skip
  refine gL<|gRn (oM 1 rfl<|ofB fl_32_1 rfl<|olB 0 ti_3 rfl rfl<|onl rfl<|ofE fl_189_0 rfl<|.nl)<|gte 4 ({ nth tl n with pc:=ins.a } :ThQ) ti_3 om9 rfl rfl<|nN<|fun a83 w83 h83=> ?_
  try simp only [Exit.then,Exit.inBlock,if_true]
  refine x_end0 (fn:=Tryz.f123) rfl h83 ?_
  have hz:=(h83.sh.sel (L' := [_,_,_,_,_,_,_,_,_,_]) [2,3,4,5,6,7,8,9,10,11] rfl)
  refine ⟨rfl,⟨regs.v,regs.l⟩,⟨words.v,words.l⟩,⟨owner.v,owner.l⟩,⟨prints.v,prints.l⟩,q,nth (M.qs q) n,ins.a,fell,(list_set_nth _ _).symm, ?_, ?_⟩
  · refine Eq.trans ?_ (doT_0 (by omega)).symm;show _=execT M.m n (nextIns (nth code.l n).l (nth thr.l n).pc) _;rw [←hins];(refine Eq.trans ?_ (execT_14 (by assumption)).symm;rfl)
  · rw [qset_pc ht htl] at hz;exact hz
 refine sG (oeqI _ _ rfl<|oM 1 rfl<|.nl)<|gcd rfl (fun hb85 hp85=> ?_) fun hb85 hp85=> ?_
 ·skip
  have q9:=hR.o15 (by omega)
  refine sK fun _ k86=>gNl (aO 5 rfl) fun hl87=>gRn (oM 1 rfl<|ofB fl_32_1 rfl<|olB 0 ti_3 rfl rfl<|oxI sl_23 ti_3 (aO 5 rfl) om9 rfl<|olI ti_3 (aO 5 rfl) om9 rfl<|oeqI _ _ rfl<|.nl)<|nK k86<|gF [4,5,172] rfl<|gcd rfl (fun hb88 hp88=> ?_) fun hb88 hp88=> ?_
  ·skip
   refine gL<|gRn (oM 1 rfl<|ofB fl_32_2 rfl<|olB 0 ti_3 rfl rfl<|onl rfl<|ofE fl_189_0 rfl<|.nl)<|gte 4 ({ nth tl n with pc:=ins.b } :ThQ) ti_3 om9 rfl rfl<|nN<|fun a90 w90 h90=> ?_
   try simp only [Exit.then,Exit.inBlock,if_true]
   refine x_end0 (fn:=Tryz.f123) rfl h90 ?_
   have hz:=(h90.sh.sel (L' := [_,_,_,_,_,_,_,_,_,_]) [2,3,4,5,6,7,8,9,10,11] rfl)
   refine ⟨rfl,⟨regs.v,regs.l⟩,⟨words.v,words.l⟩,⟨owner.v,owner.l⟩,⟨prints.v,prints.l⟩,q,nth (M.qs q) n,ins.b,fell,(list_set_nth _ _).symm, ?_, ?_⟩
   · refine Eq.trans ?_ (doT_0 (by omega)).symm;show _=execT M.m n (nextIns (nth code.l n).l (nth thr.l n).pc) _;rw [←hins];first|(refine Eq.trans ?_ (execT_15t (by assumption) (by assumption)).symm;rfl)|(refine Eq.trans ?_ (execT_15f (by assumption) (by assumption)).symm;rfl)
   · rw [qset_pc ht htl] at hz;exact hz
  refine gS<|fun a91 w91 h91=> ?_
  try simp only [Exit.then,Exit.inBlock,if_true]
  refine x_end0 (fn:=Tryz.f123) rfl h91 ?_
  have hz:=(h91.sh.sel (L' := [_,_,_,_,_,_,_,_,_,_]) [2,3,4,5,6,7,8,9,10,11] rfl)
  refine ⟨rfl,⟨regs.v,regs.l⟩,⟨words.v,words.l⟩,⟨owner.v,owner.l⟩,⟨prints.v,prints.l⟩,q,nth (M.qs q) n,(nth thr.l n).pc+1,fell,(list_set_nth _ _).symm, ?_, ?_⟩
  · refine Eq.trans ?_ (doT_0 (by omega)).symm;show _=execT M.m n (nextIns (nth code.l n).l (nth thr.l n).pc) _;rw [←hins];first|(refine Eq.trans ?_ (execT_15t (by assumption) (by assumption)).symm;rfl)|(refine Eq.trans ?_ (execT_15f (by assumption) (by assumption)).symm;rfl)
  · rw [htl] at hz;exact hz
 refine sG (oeqI _ _ rfl<|oM 1 rfl<|.nl)<|gF [0,3,5,7,178] rfl<|gcd rfl (fun hb93 hp93=> ?_) fun hb93 hp93=> ?_
 ·skip
  have q9:=hR.o15 (by omega)
  refine gNl (aO 5 rfl) fun hl94=>rC [12,13,16] rfl<|pR [0,1,2,3,4,5,6,7,8,9,10,11] rfl (oM 2 rfl<|onfl 2 fl_173_3 ti_23 rfl rfl<|ofB fl_179_0 rfl<|olB 1 ti_3 rfl rfl<|oM 1 rfl<|ofB fl_32_1 rfl<|olB 0 ti_3 rfl rfl<|oxI sl_23 ti_3 (aO 5 rfl) om9 rfl<|olI ti_3 (aO 5 rfl) om9 rfl<|.nl) rfl<|pX (fun _ _ h_=>x_lit (n:=2) (cs:= [.int .i64 ((n:Nat):Int), .int .i64 (nth regs.l ins.a.toNat)]) ([((n:Nat):Int),nth regs.l ins.a.toNat]:List Int) h_ sl_23 ti_3 rfl rfl rfl (by decide) rfl (by kernel_rfl) rfl (fun q hq w h=>Flat.inner _ _) (fun q hq b hb=>(Flat.on _ _ hb).elim) rfl rfl) rfl fun v95=>pR [0,1,2,3,4] rfl (oM 2 rfl<|onfl 3 fl_173_3 ti_23 rfl rfl<|.nl) rfl<|pX (fun _ _ h_=>x_app (r:=7) (rm:=0) (s:=prints) (m:=(⟨v95, [((n:Nat):Int),nth regs.l ins.a.toNat]⟩:Ls Int)) h_ sl_23 ti_3 rfl rfl rfl rfl rfl rfl rfl (fun w h=>(h.own 0 rfl)) (fun b hb=>own_on (h_.sh.ok _ (List.mem_of_getElem? (i:=0) rfl)) hb) (fun q hq b hb=>⟨q,hq,hb⟩) rfl rfl rfl inferInstance (show (prints.l.length+([((n:Nat):Int),nth regs.l ins.a.toNat]).length)*8≤140737488355328∧prints.l.length+([((n:Nat):Int),nth regs.l ins.a.toNat]).length≤140737488355328 from om9) rfl rfl) rfl fun v96=>pR [0,14,15] rfl (oM 1 rfl<|onf fl_173_3 rfl<|.nl) rfl<|pS (fun _ _ h_=>x_stb (i:=3) (vs:= [v96]) (cs' := [.iface M.T (.pointer (some M.u)), .pointer (some ⟨gp,0,none⟩),thr.v,v96, .bool fell]) h_ ti_23 rfl rfl rfl rfl rfl (cells_oneL ((h_.sh.own 7 rfl)).one) rfl (allOne_cons ((h_.sh.own 7 rfl)).one allOne_nil) (Nat.le_of_ble_eq_true rfl) rfl) rfl<|pE [] rfl (.nl) rfl<|fun a98 w98 h98=> ?_
  try simp only [Exit.then,Exit.inBlock,if_true]
  refine x_end0 (fn:=Tryz.f123) rfl h98 ?_
  have hz:=(h98.sh.sel (L' := [_,_,_,_,_,_,_,_,_,_]) [3,4,5,6,7,8,9,10,11,12] rfl)
  refine ⟨rfl,⟨regs.v,regs.l⟩,⟨words.v,words.l⟩,⟨owner.v,owner.l⟩,⟨v96,prints.l++([((n:Nat):Int),nth regs.l ins.a.toNat])⟩,q,nth (M.qs q) n,(nth thr.l n).pc+1,fell,(list_set_nth _ _).symm, ?_, ?_⟩
  · refine Eq.trans ?_ (doT_0 (by omega)).symm;show _=execT M.m n (nextIns (nth code.l n).l (nth thr.l n).pc) _;rw [←hins];(refine Eq.trans ?_ (execT_16 (by assumption)).symm;rfl)
  · rw [htl] at hz;exact hz
 refine gL<|gRn (oM 1 rfl<|ofB fl_179_0 rfl<|olB 1 ti_3 rfl rfl<|olw 0 ti_32 rfl rfl<|.nl)<|gO [2,3,4,5,6,7,8,9,10,11,0,1] rfl<|fun a104 w104 h104=> ?_
 have hp103:=h104.sh.passL (Lp:= [_,_,_,_,_,_,_,_,_,_])
 refine wl_ex (x_call h104 bd_146 rfl rfl rfl rfl rfl (pmem_c _ M g gp code (⟨thr.v,tl⟩:Ls ThQ) regs prints words owner q _ _ _ fell n ins _ hM hp103 (by show n<tl.length;omega) htn hrv2 hqn hwl hwh0 hge hR (by omega) hab)) (wanted_none rfl _) ?_
 rintro a105 w105 ⟨_,⟨rfl,regs105,words105,owner105,prints105,q105,wt105,pc105,fell105,hmq105,hmy105,hs105⟩,hf105⟩
 change Sh _ _ _ [.blk g 173 [.iface M.T (.pointer (some M.u)), .pointer (some ⟨gp,0,none⟩),thr.v,prints105.v, .bool fell105], .rblk gp 25 [code.v,pw, .int .i64 locks, .int .i64 nregs], .own 189 (⟨thr.v,tl.set n ⟨pc105,regs105.v⟩⟩:Ls ThQ), .own 3 regs105, .own 3 prints105, .blk M.g0 182 [words105.v,owner105.v], .own 3 words105, .own 3 owner105,M.X q105, .at_ code] at hs105
 have h105:St 196 K W a105 w105 _ [_,_,_,_,_,_,_,_,_,_,_,_]:=⟨hf105,h104.sh.backL (Lp:= [_,_,_,_,_,_,_,_,_,_]) hs105 (by intro A hA b hb;simp only [List.mem_cons,List.not_mem_nil,or_false] at hA;rcases hA with rfl|rfl|rfl|rfl|rfl|rfl|rfl|rfl|rfl|rfl<;>first|exact (hb:False).elim|exact Flat.noRd hb|exact .inl ⟨_,List.mem_cons_self .., .inr hb⟩|exact rdX hM hb|exact .inl ⟨_,List.mem_of_getElem? (i:=1) rfl, .inr hb⟩|exact .inl ⟨_,List.mem_of_getElem? (i:=9) rfl, .inr hb⟩|exact .inl ⟨_,by simp, .inr hb⟩)⟩
 clear hf105 hs105
 clear h104
 refine gG h105<|nN<|fun a106 w106 h106=> ?_;clear h105
 try simp only [Exit.then,Exit.inBlock,if_true]
 refine x_end0 (fn:=Tryz.f123) rfl h106 ?_
 have hz:=(h106.sh.sel (L' := [_,_,_,_,_,_,_,_,_,_]) [0,1,2,3,4,5,6,7,8,9] rfl)
 refine ⟨rfl,regs105,words105,owner105,prints105,q105,wt105,pc105,fell105,hmq105, ?_, ?_⟩
 · refine Eq.trans hmy105 ?_;refine Eq.trans ?_ (doT_0 (by omega)).symm;show _=execT M.m n (nextIns (nth code.l n).l (nth thr.l n).pc) _;rw [←hins];show execT M.m n ins ⟨(nth tl n).pc,_,_,_,_,_,_⟩=_;rw [hpc2]
 · rw [htl,List.set_set] at hz;exact hz
theorem ok_lenP {code:Ls (Ls Ins)}{words:Ls Int}{Lk R:Nat}(h:OkPg (pgN code words Lk R)):1≤code.l.length∧code.l.length≤4∧words.l.length≤64∧Lk≤4∧R≤200:=by
 have h1:=h.code
 have h2:=h.words
 have h3:=h.locks
 have h4:=h.regs
 simp only [pgN,pgOf,List.length_map] at h1 h2 h3 h4
 omega
theorem ok_clen {code:Ls (Ls Ins)}{words:Ls Int}{Lk R:Nat}(h:OkPg (pgN code words Lk R)):∀t,t<code.l.length→(nth code.l t).l.length≤400:=fun t ht=>by
 have h9:=h.len t (by rw [pgN_len];exact ht)
 rwa [pgN_code ht] at h9
theorem St.toR {N:Nat}{K:Nat→Prop}{W w:World}{a:Act}{F:List (Nat×Value)}{L:List Asn}(i:Nat){g:Nat}{E:TypeId}{cs:List Value}(h:St N K W a w F L)(hi:L[i]? =some (.blk g E cs)):St N K W a w F (L.set i (.rblk g E cs)):=
 ⟨h.fr,h.sh.put hi (Chg.refl _ _) (h.sh.blk i hi) (fun b hb=>hb.elim) (fun b hb=> .inl hb) (fun b hb=>hb.elim)⟩
def pstA (M:MemS)(g gp:Nat)(pc:List Value)(vt:Value)(rows:List ThR)(prints words owner:Ls Int)(q:M.σ)(fell:Bool)(code:Ls (Ls Ins)):List Asn:=
 [.blk g 173 [.iface M.T (.pointer (some M.u)), .pointer (some ⟨gp,0,none⟩),vt,prints.v, .bool fell], .rblk gp 25 pc, .own 189 (⟨vt,rows.map ThR.toQ⟩:Ls ThQ), .big (regA 3 rows), .own 3 prints, .blk M.g0 182 [words.v,owner.v], .own 3 words, .own 3 owner,M.X q, .at_ code]
theorem pdo_full (K:Nat→Prop)(M:MemS)(g gp:Nat)(code:Ls (Ls Ins))(vt:Value)(rows:List ThR)(prints words owner:Ls Int)(q:M.σ)(pw:Value)(locks nregs:Int)(fell:Bool)(t k:Nat)(W:World)(hM:MemI Tryz.prog 182 3 M)
  (hS:Sh K W W (pstA M g gp [code.v,pw, .int .i64 locks, .int .i64 nregs] vt rows prints words owner q fell code)) (hn:t<rows.length) (h1000:t≤1000) (hqn:t<(M.qs q).length) (hwl:(nth (M.qs q) t).length≤3) (hwh0:∀x∈nth (M.qs q) t,x.lock=true→x.what=0) (hge:∀v∈owner.l,-1≤v) (htc:t<code.l.length)
  (hpcr:0≤(nth rows t).pc∧(nth rows t).pc≤(nth code.l t).l.length) (hpcl:(nth code.l t).l.length≤1000000) (hmk:mvOK M.m (nth code.l t).l ⟨(nth rows t).pc,(nth rows t).regs.l,nth (M.qs q) t,words.l,owner.l,prints.l,fell⟩ k=true) (hpl:prints.l.length≤100000000)
  (hwt:∀j,j<(nth (M.qs q) t).length→WtOk (nth (nth (M.qs q) t) j) words owner) (hio:k=0→InsR (nth rows t).regs.l.length words.l.length owner.l.length (nextIns (nth code.l t).l (nth rows t).pc)):
  Rets Tryz.prog 123 [.pointer (some ⟨g,0,none⟩), .agg #[.int .i64 ((t:Nat):Int), .int .i64 (((k:Nat):Int)-1)]] W (fun v w' =>v= .tuple #[]∧∃(rows' :List ThR) (words' owner' prints' :Ls Int) (q' :M.σ) (fell' :Bool) (x:ThR) (y:TS),
   y=doT M.m t (nth code.l t).l k ⟨(nth rows t).pc,(nth rows t).regs.l,nth (M.qs q) t,words.l,owner.l,prints.l,fell⟩∧rows' =rows.set t x∧x.pc=y.pc∧x.regs.l=y.regs∧M.qs q' =(M.qs q).set t y.wait∧words'.l=y.words∧owner'.l=y.owner∧prints'.l=y.prints∧fell' =y.fell∧
   Sh K W w' (pstA M g gp [code.v,pw, .int .i64 locks, .int .i64 nregs] vt rows' prints' words' owner' q' fell' code)):=by
 have h1:Sh K W W (.big (regA 3 rows):: [.blk g 173 [.iface M.T (.pointer (some M.u)), .pointer (some ⟨gp,0,none⟩),vt,prints.v, .bool fell], .rblk gp 25 [code.v,pw, .int .i64 locks, .int .i64 nregs], .own 189 (⟨vt,rows.map ThR.toQ⟩:Ls ThQ), .own 3 prints, .blk M.g0 182 [words.v,owner.v], .own 3 words, .own 3 owner,M.X q, .at_ code]):=
  hS.sel [3,0,1,2,4,5,6,7,8,9] rfl
 have h2:=h1.openR t hn
 have h3:Sh K W W ([.blk g 173 [.iface M.T (.pointer (some M.u)), .pointer (some ⟨gp,0,none⟩),vt,prints.v, .bool fell], .rblk gp 25 [code.v,pw, .int .i64 locks, .int .i64 nregs], .own 189 (⟨vt,rows.map ThR.toQ⟩:Ls ThQ), .own 3 (nth rows t).regs, .own 3 prints, .blk M.g0 182 [words.v,owner.v], .own 3 words, .own 3 owner,M.X q, .at_ code]++ [.big (regA 3 (rows.eraseIdx t))]):=
  h2.sel (L' := [.blk g 173 [.iface M.T (.pointer (some M.u)), .pointer (some ⟨gp,0,none⟩),vt,prints.v, .bool fell], .rblk gp 25 [code.v,pw, .int .i64 locks, .int .i64 nregs], .own 189 (⟨vt,rows.map ThR.toQ⟩:Ls ThQ), .own 3 (nth rows t).regs, .own 3 prints, .blk M.g0 182 [words.v,owner.v], .own 3 words, .own 3 owner,M.X q, .at_ code, .big (regA 3 (rows.eraseIdx t))]) [2,3,4,0,5,6,7,8,9,10,1] rfl
 have hnt:nth (rows.map ThR.toQ) t=(nth rows t).toQ:=toQ_at hn
 refine Rets.mono (pdo_c _ M g gp code (⟨vt,rows.map ThR.toQ⟩:Ls ThQ) (nth rows t).regs prints words owner q pw locks nregs fell t k W hM h3.passL (by simpa using hn) h1000 (by rw [hnt];rfl) hqn hwl hwh0 hge htc (by rw [hnt];exact hpcr) hpcl (by rw [hnt];exact hmk) hpl hwt (by rw [hnt];exact hio)) ?_
 rintro v w' ⟨rfl,regs',words',owner',prints',q',wt,pc',fell',hq,hy,hs⟩
 have h4:=h3.backL hs (by intro A hA b hb;simp only [List.mem_cons,List.not_mem_nil,or_false] at hA;rcases hA with rfl|rfl|rfl|rfl|rfl|rfl|rfl|rfl|rfl|rfl<;>first|exact (hb:False).elim|exact Flat.noRd hb|exact rdX hM hb|exact .inl ⟨_,List.mem_of_getElem? (i:=1) rfl, .inr hb⟩|exact .inl ⟨_,List.mem_of_getElem? (i:=9) rfl, .inr hb⟩)
 have h5:=h4.sel (L' := .own 3 regs' :: .big (regA 3 (rows.eraseIdx t)):: [.blk g 173 [.iface M.T (.pointer (some M.u)), .pointer (some ⟨gp,0,none⟩),vt,prints'.v, .bool fell'], .rblk gp 25 [code.v,pw, .int .i64 locks, .int .i64 nregs], .own 189 (⟨vt,(rows.map ThR.toQ).set t ⟨pc',regs'.v⟩⟩:Ls ThQ), .own 3 prints', .blk M.g0 182 [words'.v,owner'.v], .own 3 words', .own 3 owner',M.X q', .at_ code]) [3,10,0,1,2,4,5,6,7,8,9] rfl
 have h6:=Sh.closeR (x:=⟨pc',regs'⟩) t hn h5
 rw [show (rows.map ThR.toQ).set t ⟨pc',regs'.v⟩=(rows.set t ⟨pc',regs'⟩).map ThR.toQ by rw [List.map_set];rfl] at h6
 have h7:=h6.sel (L' :=pstA M g gp [code.v,pw, .int .i64 locks, .int .i64 nregs] vt (rows.set t ⟨pc',regs'⟩) prints' words' owner' q' fell' code) [1,2,3,0,4,5,6,7,8,9] rfl
 rw [hnt] at hy
 exact ⟨rfl,rows.set t ⟨pc',regs'⟩,words',owner',prints',q',fell',⟨pc',regs'⟩,(⟨pc',regs'.l,wt,words'.l,owner'.l,prints'.l,fell'⟩:TS),hy,rfl,rfl,rfl,hq,rfl,rfl,rfl,rfl,h7⟩
theorem pbegin_c (M:MemS)(gp:Nat)(code:Ls (Ls Ins))(pw:Value)(Lk R:Nat)(W:World)(hP:Blk W gp 25 #[code.v,pw, .int .i64 ((Lk:Nat):Int), .int .i64 ((R:Nat):Int)])(hcode:code.At W)(hcl:code.l.length≤4)(hR:R≤200):
    Rets Tryz.prog 100 [.pointer (some ⟨gp,0,none⟩), .iface M.T (.pointer (some M.u))] W (fun v w' =>∃(g:Nat) (rows:List ThR) (vt:Value),v= .pointer (some ⟨g,0,none⟩)∧rows.map ThR.th=List.replicate code.l.length ⟨0,List.replicate R 0, []⟩∧Sh0 W w' [.blk g 173 [.iface M.T (.pointer (some M.u)), .pointer (some ⟨gp,0,none⟩),vt, .slice none 0 0, .bool false], .own 189 (⟨vt,rows.map ThR.toQ⟩:Ls ThQ), .big (regA 3 rows), .own 3 (⟨.slice none 0 0, []⟩:Ls Int)]):=by
 refine gen Tryz.func100 Tryz.ntmps100 (Sh0.ext (by intro A hA;simp only [List.mem_cons,List.not_mem_nil,or_false] at hA;rcases hA with rfl|rfl;exact hP;exact hcode) (by intro A hA b hb;simp only [List.mem_cons,List.not_mem_nil,or_false] at hA;rcases hA with rfl|rfl<;>exact hb):Sh (fun _=>False) W W [.rblk gp 25 [code.v,pw, .int .i64 ((Lk:Nat):Int), .int .i64 ((R:Nat):Int)], .at_ code]) rfl fun a10 h10=>gG h10<|sG (oM 1 rfl<|.nl)<|sK fun _ k12=>gRn (oM 2 rfl<|oV (r_build (cs:= [.iface M.T (.pointer (some M.u)), .pointer (some ⟨gp,0,none⟩),(.slice none 0 0),(.slice none 0 0), .bool false]) rfl rfl (by kernel_rfl)) rfl<|.nl)<|gbx rfl rfl fun b13=>gRn (oM 1 rfl<|.nl)<|nK k12<|gK fun _ k14=>sK fun _ k15=>gNl (aA 2 rfl) fun hl16=>gRn (oM 1 rfl<|onf fl_25_0 rfl<|olR 1 ti_22 rfl rfl<|oln sl_22 (aA 2 rfl) rfl<|oM 1 rfl<|.nl)<|nK k15<|gB<|fun a19 w19 h19=> ?_;clear h10
 have h18:=h19.nil (α:=ThQ) 189
 clear h19
 have h20:=h18.bigR0 3
 clear h18
 refine x_loop (fun m a w=>∃(i:Nat) (rows:List ThR) (vt:Value),(i≤code.l.length)∧(rows.length=i)∧(rows.map ThR.th=List.replicate i ⟨0,List.replicate R 0, []⟩)∧St 34 (fun _=>False) W a w [(0, .pointer (some ⟨gp,0,none⟩)),(5, .pointer (some ⟨b13,0,none⟩)),(14, .int .i64 ((code.l.length:Nat):Int)),(15, .int .i64 ((i:Nat):Int))] [.blk b13 173 [.iface M.T (.pointer (some M.u)), .pointer (some ⟨gp,0,none⟩),vt,(.slice none 0 0), .bool false], .rblk gp 25 [code.v,pw, .int .i64 ((Lk:Nat):Int), .int .i64 ((R:Nat):Int)], .at_ code, .own 189 (⟨vt,rows.map ThR.toQ⟩:Ls ThQ), .big (regA 3 rows)]∧m=code.l.length-i) ⟨_,0, [],_,(by omega),(rfl),(rfl),h20.nrm ⟨rfl,rfl,rfl,rfl,trivial⟩ [2,3,4,1,0] rfl,rfl⟩ ?_
 clear h20
 rintro m17 a17 w17 ⟨i,rows,vt,hi,hrl,hrw,h17,hm17⟩
 refine gG h17<|sG (oltN _ _ rfl<|.nl)<|gK fun _ k22=>gcd rfl (fun hb23 hp23=> ?_) fun hb23 hp23=> ?_;clear h17
 ·skip
  refine gS<|hK k22<|gK fun _ k24=>gB<|rC [9,11,12,15] rfl<|pR [0,1,2,3,4,5,6,7,8] rfl (oM 2 rfl<|onfl 0 fl_173_2 ti_171 rfl rfl<|oM 1 rfl<|onf fl_25_3 rfl<|olR 1 ti_3 rfl rfl<|.nl) rfl<|pX (fun _ _ h_=>x_make (n:=R) (0:Int) h_ sl_23 ti_3 rfl rfl rfl rfl rfl (show 8*R≤140737488355328∧R≤140737488355328 from om9) (fun w=>Flat.inner _ _) (fun b=>Flat.on _ _) rfl rfl) rfl fun v25=>pR [0,1,2,3,4,10] rfl (oM 2 rfl<|onfl 1 fl_173_2 ti_171 rfl rfl<|oV (r_buildS (cs:= [.int .i64 0,v25]) rfl rfl (fun w h=>by obtain ⟨A26,n26,c26,(e26:v25=_)⟩:=((h.own 0 rfl)).form;rw [e26];kernel_rfl)) rfl<|.nl) rfl<|pX (fun _ _ h_=>x_lit (n:=1) (cs:= [.int .i64 0,v25]) ([(⟨0,v25⟩:ThQ)]:List ThQ) h_ sl_171 ti_189 rfl rfl rfl (by decide) rfl (by kernel_rfl) rfl (fun q hq w h=>Flat.inner _ _) (fun q hq b hb=>(Flat.on _ _ hb).elim) rfl rfl) rfl fun v27=>pR [0,1,2,3,4] rfl (oM 2 rfl<|onfl 2 fl_173_2 ti_171 rfl rfl<|.nl) rfl<|pX (fun _ _ h_=>x_app1 (r:=5) (rm:=0) (s:=(⟨vt,rows.map ThR.toQ⟩:Ls ThQ)) (m:=(⟨v27, [(⟨0,v25⟩:ThQ)]⟩:Ls ThQ)) h_ sl_171 ti_189 rfl rfl rfl rfl rfl rfl rfl (fun w h=>(h.own 0 rfl)) (fun b hb=>own_on (h_.sh.ok _ (List.mem_of_getElem? (i:=0) rfl)) hb) (fun q hq b hb=>⟨q,hq,hb⟩) rfl rfl rfl (fun w h q hq j hj=>by obtain rfl:q=0:=(by simpa using hq);rcases j with _|_|j;exact rfl;exact ((h.own 1 rfl)).one;exact absurd hj (by show¬(j+2<2);omega)) (show ((rows.map ThR.toQ).length+([(⟨0,v25⟩:ThQ)]).length)*32≤140737488355328∧(rows.map ThR.toQ).length+([(⟨0,v25⟩:ThQ)]).length≤140737488355328 from om9) rfl rfl) rfl fun v28=>pR [0,13,14] rfl (oM 1 rfl<|onf fl_173_2 rfl<|.nl) rfl<|pS (fun _ _ h_=>x_stb (i:=2) (vs:= [v28]) (cs' := [.iface M.T (.pointer (some M.u)), .pointer (some ⟨gp,0,none⟩),v28,(.slice none 0 0), .bool false]) h_ ti_171 rfl rfl rfl rfl rfl (cells_oneL ((h_.sh.own 5 rfl)).one) rfl (allOne_cons ((h_.sh.own 5 rfl)).one allOne_nil) (Nat.le_of_ble_eq_true rfl) rfl) rfl<|pE [] rfl (.nl) rfl<|hK k24<|gL<|gRn (oadN _ 1 om9 rfl<|oM 1 rfl<|.nl)<|nN<|gO [1,6,0,2,3,4,5] rfl<|fun a32 w32 h32=> ?_
  have h31:=h32.foldR (x:=(⟨0,(⟨v25,List.replicate R 0⟩:Ls Int)⟩:ThR))
  clear h32
  have h33:=h31.relist (i:=5) (l' :=(rows++ [(⟨0,(⟨v25,List.replicate R 0⟩:Ls Int)⟩:ThR)]).map ThR.toQ) rfl (by simp [ThR.toQ])
  clear h31
  refine x_again ⟨_, ?_,(i+1),(rows++ [(⟨0,(⟨v25,List.replicate R 0⟩:Ls Int)⟩:ThR)]),v28, ?_, ?_, ?_,h33.nrm ⟨rfl,rfl,rfl,rfl,trivial⟩ [2,3,4,5,0] rfl,rfl⟩
  · rw [hm17];first|omega|(simp only [lens9];omega)
  · omega
  · simp [hrl]
  · rw [List.map_append,hrw,List.replicate_succ'];rfl
 refine gX<|hK k14<|sG (oM 2 rfl<|.nl)<|gR<|fun a35 w35 h35=>x_ret1 (fn:=Tryz.f100) (t:=4) rfl h35 rfl ?_
 have h36:=h35.nil (α:=Int) 3
 clear h35
 refine ⟨b13,rows,vt,rfl, ?_,(h36.sh.sel [1,4,5,0] rfl)⟩
 rw [hrw,show i=code.l.length by omega]
def Asn.emp :Asn:=⟨fun _=>False,fun _=>False,fun _=>True,fun _ _ _ _=>trivial,fun _ _ _ h=>by rcases h with h|h<;>exact h.elim⟩
theorem Sh.emp {K:Nat→Prop}{W w:World}{L:List Asn}(h:Sh K W w L):Sh K W w (Asn.emp::L):=h.push (Chg.refl _ _) trivial (fun b hb=>hb.elim) (fun b hb=>hb.elim) (fun b hb=>hb.elim)
theorem eq_wtv (x y:Wt)(w:World):(binOp .eql 266 (.agg #[.bool x.lock, .int .i64 x.wh, .int .i64 x.what]) (.agg #[.bool y.lock, .int .i64 y.wh, .int .i64 y.what])).run Tryz.prog w= .ok (.bool (decide (x=y))) w:=by
 obtain ⟨a,b,c⟩:=x
 obtain ⟨a',b',c'⟩:=y
 simp [binOp,Op.equal,Op.maxDepth,go_sem]
 by_cases h1:a=a' <;>by_cases h2:b=b' <;>by_cases h3:c=c' <;>simp [h1,h2,h3]
theorem eq_wtvG (p q:Operand)(x y:Wt)(w:World):(eqGuard .eql 266 p q (.agg #[.bool x.lock, .int .i64 x.wh, .int .i64 x.what]) (.agg #[.bool y.lock, .int .i64 y.wh, .int .i64 y.what])).run Tryz.prog w= .ok () w:=by
 simp [eqGuard]
 try kernel_rfl
theorem Sh.holeAt {K:Nat→Prop}{W w:World}{L:List Asn}{α:Type}[Enc α]{R:Ls α→Asn}{E:TypeId}{v:Value}{M:List (Ls α)}{q:Nat}(h:Sh K W w L)(i:Nat)(hi:L[i]? =some (.big (holeX R E v M q))):(⟨v,rvs M⟩:Ls RV).At w:=
 own_at (E:=E) ((h.ok _ (List.mem_of_getElem? hi)).1 _ (List.mem_cons_self ..))
theorem hold_yes {l:List Wt}{ad:Int}{n:Nat}(hn:n<l.length)(e:nth l n=⟨true,ad,0⟩):(l.any fun x=>x.lock&&decide (x.wh=ad))=true:=
 List.any_eq_true.2 ⟨_,nth_mem _ _ hn,by rw [e];simp⟩
theorem hold_no {l:List Wt}{ad:Int}(hlk:∀x∈l,x.lock=true→x.what=0)(h:∀i,i<l.length→nth l i≠⟨true,ad,0⟩):(l.any fun x=>x.lock&&decide (x.wh=ad))=false:=by
 rw [List.any_eq_false]
 intro x hx hc
 obtain ⟨i,hi,rfl⟩:=List.mem_iff_getElem.1 hx
 simp only [Bool.and_eq_true,decide_eq_true_eq] at hc
 have h3:=hlk _ hx hc.1
 refine h i hi ?_
 rw [nth_lt _ _ hi]
 generalize l[i]=y at hc h3
 obtain ⟨a,b,c⟩:=y
 simp only at hc h3
 rw [hc.1,hc.2,h3]
theorem snoc_ne {l:List Wt}{y:Wt}{n:Nat}(h:∀i,i<n→nth l i≠y)(h2:¬nth l n=y):∀i,i<n+1→nth l i≠y:=fun i hi=>by
 rcases Nat.lt_or_eq_of_le (Nat.le_of_lt_succ hi) with h3|h3
 ·exact h i h3
 ·subst h3;exact h2
theorem eraseIdx_td {α:Type}(l:List α)(k:Nat):l.eraseIdx k=l.take k++l.drop (k+1):=List.eraseIdx_eq_take_drop_succ l k
theorem cloneW_c (x:Ls Wt)(W:World)(hx:x.At W)(hl:x.l.length≤100000):
    Rets Tryz.prog 219 [x.v] W (fun v w' =>∃s:Ls Wt,v=s.v∧Sh0 W w' [.own 266 (⟨s.v,x.l⟩:Ls Wt)]):=by
 refine gen Tryz.func219 Tryz.ntmps219 (Sh0.ext1 hx:Sh (fun _=>False) W W [.at_ x]) rfl fun a10 h10=>gG h10<|sG (oM 1 rfl<|.nl)<|gK fun _ k12=>sG (oM 1 rfl<|oV (r_eqnil (s:=x) sl_267 rfl rfl rfl (fun w h=>(h.at 0 rfl))) rfl<|.nl)<|?_;clear h10
 refine gCb rfl (fun hb14=> ?_) fun hb14=> ?_
 ·skip
  refine sG (oM 1 rfl<|.nl)<|gR<|uT<|fun a16 w16 h16=>x_ret1 (fn:=Tryz.f219) (t:=2) rfl h16 rfl<|⟨⟨.slice none 0 0, []⟩,rfl, ?_⟩
  rw [nilB_nil hx (by assumption)]
  exact (h16.sh.nil (α:=Wt) 266).sel (L' := [_]) [0] rfl
 refine gS<|hK k12<|sK fun _ k17=>gE1 (fun _ _ h_=>x_lit0 (α:=Wt) h_ sl_267 ti_266 rfl rfl rfl) rfl fun v18=>gRn (oM 1 rfl<|.nl)<|gE1 (fun _ _ h_=>x_app (r:=0) (rm:=1) (s:=(⟨v18, []⟩:Ls Wt)) (m:=x) h_ sl_267 ti_266 rfl rfl rfl rfl rfl rfl rfl (fun w h=>(h.at 1 rfl)) (fun b hb=> .inr hb) (fun q hq b hb=> .inr ⟨q,hq,hb⟩) rfl rfl rfl inferInstance (show (([]).length+x.l.length)*24≤140737488355328∧([]).length+x.l.length≤140737488355328 from om9) rfl rfl) rfl fun v19=>gRn (oM 1 rfl<|.nl)<|nK k17<|gR<|fun a20 w20 h20=>x_ret1 (fn:=Tryz.f219) (t:=2) rfl h20 rfl<|⟨⟨v19, []⟩,rfl, ?_⟩
 exact (h20.sh.sel [0] rfl)
theorem deleteW_c (K:Nat→Prop)(x:Ls Wt)(i j:Nat)(W:World)(hS:Sh K W W [.own 266 x])(hij:i<j∧j≤x.l.length):
    Rets Tryz.prog 218 [x.v, .int .i64 ((i:Nat):Int), .int .i64 ((j:Nat):Int)] W (fun v w' =>∃u:Ls Wt,v=u.v∧Sh K W w' [.own 266 (⟨u.v,x.l.take i++x.l.drop j⟩:Ls Wt)]):=by
 have hcx:=own_vcap (hS.ok _ (List.mem_cons_self ..))
 have hll:(x.l.take i++x.l.drop j).length=x.l.length-(j-i):=by rw [List.length_append,List.length_take,List.length_drop];omega
 refine gen Tryz.func218 Tryz.ntmps218 hS rfl fun a10 h10=>gG h10<|sG (oM 1 rfl<|.nl)<|sK fun _ k12=>gNl (aO 0 rfl) fun hl13=>gRn (oM 4 rfl<|oln sl_267 (aO 0 rfl) rfl<|oV (r_sl3 (s:=x) (lo:=i) (hi:=j) (mx:=x.l.length) sl_267 ti_266 rfl rfl rfl rfl rfl (fun w h=>(h.own 0 rfl)) (show i≤j∧j≤x.l.length∧x.l.length≤x.l.length from om9)) rfl<|.nl)<|nK k12<|gK fun _ k14=>sG (oM 2 rfl<|oeqN _ _ rfl<|.nl)<|?_;clear h10
 refine gcd rfl (fun hb16 hp16=> ?_) fun hb16 hp16=> ?_
 ·skip
  exfalso
  omega
 refine gS<|hK k14<|sG (oM 1 rfl<|oln sl_267 (aO 0 rfl) rfl<|oM 1 rfl<|.nl)<|gK fun _ k18=>rT 6 [] (oM 2 rfl<|oV (r_slH (s:=x) (j:=i) sl_267 ti_266 rfl rfl rfl (fun w h=>(h.own 0 rfl)) (show i≤x.l.length from om9) (show 0<x.l.length from om9)) rfl<|oM 2 rfl<|oV (r_slL (s:=x) (k:=j) sl_267 ti_266 rfl rfl rfl (fun w h=>(h.own 0 rfl)) (show j≤x.l.length from om9)) rfl<|.nl)<|fun a20 w20 h20=>wl_ex (x_del2 (r:=0) (j:=i) (k:=j) (s:=x) h20 sl_267 ti_266 rfl rfl rfl rfl rfl rfl inferInstance (show i≤j∧j≤x.l.length∧0<x.l.length from (by omega)) rfl rfl) (wanted_none rfl _) ?_
 rintro a21 w21 ⟨v21,hc21,h21⟩;clear h20
 refine gG h21<|gRn (oM 1 rfl<|.nl)<|nK k18<|sK fun _ k22=>gRn (oM 2 rfl<|oln (n:=(x.l.take i++x.l.drop j).length) sl_267 (aO 0 rfl) rfl<|oM 1 rfl<|oV (r_slTail (s:=(⟨v21,x.l.take i++x.l.drop j⟩:Ls Wt)) (lo:=(x.l.take i++x.l.drop j).length) (hi:=x.l.length) sl_267 ti_266 rfl rfl rfl rfl (fun w h=>(h.own 0 rfl)) (show (x.l.take i++x.l.drop j).length≤x.l.length∧x.l.length≤vcap v21 from om9)) rfl<|.nl)<|gE (fun _ _ h_=>x_clearT (r:=0) (hi:=x.l.length) (s:=(⟨v21,x.l.take i++x.l.drop j⟩:Ls Wt)) h_ sl_267 ti_266 rfl rfl rfl rfl rfl rfl (show (x.l.take i++x.l.drop j).length<x.l.length∧x.l.length≤vcap v21 from om9) rfl) rfl<|nK k22<|gF [0] rfl<|sG (oM 2 rfl<|.nl)<|gR<|fun a25 w25 h25=>x_ret1 (fn:=Tryz.f218) (t:=6) rfl h25 rfl ?_;clear h21
 exact ⟨⟨v21, []⟩,rfl,h25.sh⟩
theorem tbWaits_c (g1 g0:Nat)(wait:Ls (Ls Wt))(t:Nat)(ad:Int)(W:World)(hB:Blk W g1 185 #[.pointer (some ⟨g0,0,none⟩),wait.v])(hw:wait.At W)(ht:t<wait.l.length):
    Rets Tryz.prog 216 [.pointer (some ⟨g1,0,none⟩), .int .i64 ((t:Nat):Int)] W (fun v w' =>v= .int .i64 (((nth wait.l t).l.length:Nat):Int)∧Sh0 W w' []):=by
 refine gen Tryz.func216 Tryz.ntmps216 (Sh0.ext (by intro A hA;simp only [List.mem_cons,List.not_mem_nil,or_false] at hA;rcases hA with rfl|rfl;exact hB;exact hw) (by intro A hA b hb;simp only [List.mem_cons,List.not_mem_nil,or_false] at hA;rcases hA with rfl|rfl<;>exact hb):Sh (fun _=>False) W W [.rblk g1 185 [.pointer (some ⟨g0,0,none⟩),wait.v], .at_ wait]) rfl fun a10 h10=>gG h10<|sG (oM 1 rfl<|.nl)<|sK fun _ k12=>gNl (aA 1 rfl) fun hl13=>gNl (fun w h=>((h.at 1 rfl).nth t (show t<wait.l.length from (by omega)))) fun (hl14:((nth wait.l t).l).length≤140737488355328)=>gRn (oM 1 rfl<|onf fl_185_1 rfl<|olR 0 ti_183 rfl rfl<|oM 1 rfl<|oxN sl_183 ti_267 (aA 1 rfl) _ om9 rfl<|olE ((nth wait.l t).v) ti_267 (aA 1 rfl) om9 rfl<|oln (n:=((nth wait.l t).l).length) sl_267 (fun w h=>((h.at 1 rfl).nth t (show t<wait.l.length from (by omega)))) rfl<|oM 1 rfl<|.nl)<|nK k12<|gR<|fun a15 w15 h15=>x_ret1 (fn:=Tryz.f216) (t:=4) rfl h15 rfl ?_;clear h10
 exact ⟨rfl,(h15.sh.sel [] rfl)⟩
theorem tbReady_c (g1 g0:Nat)(wait:Ls (Ls Wt))(t:Nat)(ad:Int)(W:World)(hB:Blk W g1 185 #[.pointer (some ⟨g0,0,none⟩),wait.v])(hw:wait.At W)(ht:t<wait.l.length):
    Rets Tryz.prog 213 [.pointer (some ⟨g1,0,none⟩), .int .i64 ((t:Nat):Int)] W (fun v w' =>∃s:Ls Int,v=s.v∧s.l=(if (nth wait.l t).l.length=0 then [] else [0])∧Sh0 W w' [.own 3 s]):=by
 refine gen Tryz.func213 Tryz.ntmps213 (Sh0.ext (by intro A hA;simp only [List.mem_cons,List.not_mem_nil,or_false] at hA;rcases hA with rfl|rfl;exact hB;exact hw) (by intro A hA b hb;simp only [List.mem_cons,List.not_mem_nil,or_false] at hA;rcases hA with rfl|rfl<;>exact hb):Sh (fun _=>False) W W [.rblk g1 185 [.pointer (some ⟨g0,0,none⟩),wait.v], .at_ wait]) rfl fun a10 h10=>gG h10<|sG (oM 1 rfl<|.nl)<|gK fun _ k12=>sK fun _ k13=>gNl (aA 1 rfl) fun hl14=>gNl (fun w h=>((h.at 1 rfl).nth t (show t<wait.l.length from (by omega)))) fun (hl15:((nth wait.l t).l).length≤140737488355328)=>gRn (oM 1 rfl<|onf fl_185_1 rfl<|olR 0 ti_183 rfl rfl<|oM 1 rfl<|oxN sl_183 ti_267 (aA 1 rfl) _ om9 rfl<|olE ((nth wait.l t).v) ti_267 (aA 1 rfl) om9 rfl<|oln (n:=((nth wait.l t).l).length) sl_267 (fun w h=>((h.at 1 rfl).nth t (show t<wait.l.length from (by omega)))) rfl<|oeqN _ 0 rfl<|.nl)<|nK k13<|?_;clear h10
 refine gcd rfl (fun hb16 hp16=> ?_) fun hb16 hp16=> ?_
 ·skip
  refine sG (oM 1 rfl<|.nl)<|gR<|uT<|fun a18 w18 h18=>x_ret1 (fn:=Tryz.f213) (t:=4) rfl h18 rfl ?_
  exact ⟨⟨.slice none 0 0, []⟩,rfl,by rw [if_pos (by assumption)],(h18.sh.nil (α:=Int) 3).sel (L' := [_]) [0] rfl⟩
 refine gS<|hK k12<|sK fun _ k19=>gE1 (fun _ _ h_=>x_lit (n:=1) (cs:= [.int .i64 0]) ([0]:List Int) h_ sl_23 ti_3 rfl rfl rfl (by decide) rfl (by kernel_rfl) rfl (fun q hq w h=>Flat.inner _ _) (fun q hq b hb=>(Flat.on _ _ hb).elim) rfl rfl) rfl fun v20=>gRn (oM 1 rfl<|.nl)<|nK k19<|gR<|fun a21 w21 h21=>x_ret1 (fn:=Tryz.f213) (t:=4) rfl h21 rfl ?_
 exact ⟨⟨v20, [0]⟩,rfl,by rw [if_neg (by assumption)],(h21.sh.sel [0] rfl)⟩
theorem tbFreeing_c (g1 g0:Nat)(wait:Ls (Ls Wt))(t:Nat)(ad:Int)(W:World)(hB:Blk W g1 185 #[.pointer (some ⟨g0,0,none⟩),wait.v])(hw:wait.At W)(ht:t<wait.l.length)(hlk:∀x∈(nth wait.l t).l,x.lock=true→x.what=0):
    Rets Tryz.prog 211 [.pointer (some ⟨g1,0,none⟩), .int .i64 ((t:Nat):Int), .int .i64 ad] W (fun v w' =>v= .bool ((nth wait.l t).l.any fun x=>x.lock&&decide (x.wh=ad))∧Sh0 W w' []):=by
 refine gen Tryz.func211 Tryz.ntmps211 (Sh0.ext (by intro A hA;simp only [List.mem_cons,List.not_mem_nil,or_false] at hA;rcases hA with rfl|rfl;exact hB;exact hw) (by intro A hA b hb;simp only [List.mem_cons,List.not_mem_nil,or_false] at hA;rcases hA with rfl|rfl<;>exact hb):Sh (fun _=>False) W W [.rblk g1 185 [.pointer (some ⟨g0,0,none⟩),wait.v], .at_ wait]) rfl fun a10 h10=>gG h10<|sG (oM 1 rfl<|.nl)<|gK fun _ k12=>sK fun _ k13=>gNl (aA 1 rfl) fun hl14=>gNl (fun w h=>((h.at 1 rfl).nth t (show t<wait.l.length from (by omega)))) fun (hl15:((nth wait.l t).l).length≤140737488355328)=>gRn (oM 1 rfl<|onf fl_185_1 rfl<|olR 0 ti_183 rfl rfl<|oM 1 rfl<|oxN sl_183 ti_267 (aA 1 rfl) _ om9 rfl<|olE ((nth wait.l t).v) ti_267 (aA 1 rfl) om9 rfl<|oln (n:=((nth wait.l t).l).length) sl_267 (fun w h=>((h.at 1 rfl).nth t (show t<wait.l.length from (by omega)))) rfl<|oM 1 rfl<|.nl)<|nK k13<|gB<|fun a17 w17 h17=>x_loop (fun m a w=>∃(n:Nat),(n≤(nth wait.l t).l.length)∧(∀i,i<n→nth (nth wait.l t).l i≠⟨true,ad,0⟩)∧St 26 (fun _=>False) W a w [(2, .int .i64 ad),(15,(nth wait.l t).v),(16, .int .i64 ((((nth wait.l t).l).length:Nat):Int)),(17, .int .i64 ((n:Nat):Int))] [.rblk g1 185 [.pointer (some ⟨g0,0,none⟩),wait.v], .at_ wait]∧m=(nth wait.l t).l.length-n) ⟨_,0,(by omega),(fun i hi=>absurd hi (by omega)),h17.nf ⟨rfl,rfl,rfl,rfl,trivial⟩,rfl⟩ ?_;clear h10
 clear h17
 rintro m16 a16 w16 ⟨n,hn,hno,h16,hm16⟩
 refine gG h16<|sG (oltN _ _ rfl<|.nl)<|gK fun _ k19=>gcd rfl (fun hb20 hp20=> ?_) fun hb20 hp20=> ?_;clear h16
 ·skip
  refine gS<|hK k19<|gK fun _ k21=>gB<|sK fun _ k22=>gRn (oxN sl_267 ti_266 (fun w h=>((h.at 1 rfl).nth t (show t<wait.l.length from (by omega)))) _ om9 rfl<|olw2 [.bool ((nth ((nth wait.l t).l) n).lock), .int .i64 ((nth ((nth wait.l t).l) n).wh), .int .i64 ((nth ((nth wait.l t).l) n).what)] ti_266 (fun w h=>((h.at 1 rfl).nth t (show t<wait.l.length from (by omega)))) om9 rfl<|.nl)<|gal ti_266 rfl fun b23=>gsw 0 ti_266 rfl rfl rfl<|nK k22<|sG (olw 0 ti_266 rfl rfl<|oM 1 rfl<|oV (r_build (cs:= [.bool true, .int .i64 ad, .int .i64 0]) rfl rfl (by kernel_rfl)) rfl<|oV (r_eqS rfl rfl rfl (fun w=>eq_wtvG _ _ (⟨(nth ((nth wait.l t).l) n).lock,(nth ((nth wait.l t).l) n).wh,(nth ((nth wait.l t).l) n).what⟩:Wt) (⟨true,ad,0⟩:Wt) w) (fun w=>eq_wtv (⟨(nth ((nth wait.l t).l) n).lock,(nth ((nth wait.l t).l) n).wh,(nth ((nth wait.l t).l) n).what⟩:Wt) (⟨true,ad,0⟩:Wt) w)) rfl<|.nl)<|gcd rfl (fun hb26 hp26=> ?_) fun hb26 hp26=> ?_
  ·skip
   refine sG (oM 1 rfl<|.nl)<|gR<|uB<|uT<|uT<|uB<|uT<|fun a28 w28 h28=>x_ret1 (fn:=Tryz.f211) (t:=6) rfl h28 rfl ?_
   exact ⟨by rw [hold_yes (show n<(nth wait.l t).l.length by omega) (by assumption)],(h28.sh.sel [] rfl)⟩
  refine gS<|hK k21<|gL<|gRn (oadN _ 1 om9 rfl<|oM 1 rfl<|.nl)<|nN<|fun a29 w29 h29=>x_again ⟨_, ?_,n+1, ?_, ?_,h29.nrm ⟨rfl,rfl,rfl,rfl,trivial⟩ [1,2] rfl,rfl⟩
  · rw [hm16];first|omega|(simp only [lens9];omega)
  · omega
  · exact snoc_ne hno (by assumption)
 refine gX<|hK k12<|sG (oM 1 rfl<|.nl)<|gR<|fun a31 w31 h31=>x_ret1 (fn:=Tryz.f211) (t:=6) rfl h31 rfl ?_
 exact ⟨by rw [hold_no hlk fun i hi=>hno i (by omega)],(h31.sh.sel [] rfl)⟩
theorem tbStore_c (K:Nat→Prop)(g1 g0:Nat)(v9:Value)(M:List (Ls Wt))(t:Nat)(ad wd:Int)(W:World)(hS:Sh K W W [.blk g1 185 [.pointer (some ⟨g0,0,none⟩),v9], .big (matX (.own 266) 267 v9 M)])(ht:t<M.length)(hl:(nth M t).l.length≤100):
    Rets Tryz.prog 214 [.pointer (some ⟨g1,0,none⟩), .int .i64 ((t:Nat):Int), .int .i64 ad, .int .i64 wd] W (fun v w' =>v= .tuple #[]∧∃u:Ls Wt,u.l=(nth M t).l++ [⟨false,ad,wd⟩]∧Sh K W w' [.blk g1 185 [.pointer (some ⟨g0,0,none⟩),v9], .big (matX (.own 266) 267 v9 (M.set t u))]):=by
 refine gen Tryz.func214 Tryz.ntmps214 hS rfl fun a10 h10=>gG h10<|rC [15,16,18] rfl<|pR [0,1,2,3,4,5,6,7,8,9,10,11,12,13,14] rfl (oM 1 rfl<|onfl 0 fl_185_1 ti_183 rfl rfl<|oM 2 rfl<|onfl 0 fl_185_1 ti_183 rfl rfl<|oM 1 rfl<|oxN sl_183 ti_267 (fun w h=>(h.matAt 1 rfl)) _ (by rw [rvs_len];exact (show t<M.length from (by omega))) rfl<|oV (Rn.same (r_lde (s:=(⟨v9,rvs M⟩:Ls RV)) (i:=t) (v:=(nth (rvs M) t).v) ti_267 rfl rfl rfl (fun w h=>h.matAt 1 rfl) (by rw [rvs_len];exact (show t<M.length from om9)) (Nat.le_of_ble_eq_true rfl) rfl) (nth_rvs M t)) rfl<|oM 2 rfl<|oV (r_build (cs:= [.bool false, .int .i64 ad, .int .i64 wd]) rfl rfl (by kernel_rfl)) rfl<|.nl) rfl<|pX (fun _ _ h_=>x_lit (n:=1) (cs:= [.bool false, .int .i64 ad, .int .i64 wd]) ([(⟨false,ad,wd⟩:Wt)]:List Wt) h_ sl_267 ti_266 rfl rfl rfl (by decide) rfl (by kernel_rfl) rfl (fun q hq w h=>Flat.inner _ _) (fun q hq b hb=>(Flat.on _ _ hb).elim) rfl rfl) rfl fun v11=>pR [0,1,2,3,4,5,6,7,8,9,10,11] rfl (oM 1 rfl<|onfl 1 fl_185_1 ti_183 rfl rfl<|oM 2 rfl<|onfl 1 fl_185_1 ti_183 rfl rfl<|oM 1 rfl<|oxN sl_183 ti_267 (fun w h=>(h.matAt 2 rfl)) _ (by rw [rvs_len];exact (show t<M.length from (by omega))) rfl<|oV (Rn.same (r_lde (s:=(⟨v9,rvs M⟩:Ls RV)) (i:=t) (v:=(nth (rvs M) t).v) ti_267 rfl rfl rfl (fun w h=>h.matAt 2 rfl) (by rw [rvs_len];exact (show t<M.length from om9)) (Nat.le_of_ble_eq_true rfl) rfl) (nth_rvs M t)) rfl<|.nl) rfl<|pX (fun _ _ h_=>x_appMat (i:=t) (r:=2) (rm:=0) (m:=(⟨v11, [(⟨false,ad,wd⟩:Wt)]⟩:Ls Wt)) h_ sl_267 ti_266 rfl rfl rfl rfl (show t<M.length from om9) rfl rfl rfl (fun w h=>(h.own 0 rfl)) (fun b hb=>own_on (h_.sh.ok _ (List.mem_of_getElem? (i:=0) rfl)) hb) rfl rfl rfl inferInstance (show (((nth M t).l).length+([(⟨false,ad,wd⟩:Wt)]).length)*24≤140737488355328∧((nth M t).l).length+([(⟨false,ad,wd⟩:Wt)]).length≤140737488355328 from om9) rfl rfl) rfl fun v12=>pR [0,1,2,3,4,17] rfl (oM 1 rfl<|onfl 2 fl_185_1 ti_183 rfl rfl<|oM 1 rfl<|oxN sl_183 ti_267 (fun w h=>(h.holeAt 3 rfl)) _ (by rw [rvs_len];exact (show t<M.length from (by omega))) rfl<|.nl) rfl<|pS (fun _ _ h_=>x_stHole (i:=t) (r:=2) (s:=(⟨v12,(nth M t).l++([(⟨false,ad,wd⟩:Wt)])⟩:Ls Wt)) h_ ti_267 rfl rfl rfl rfl rfl (show t<M.length from om9) (h_.sh.own 0 rfl)) rfl<|pE [] rfl (.nl) rfl<|fun a14 w14 h14=> ?_;clear h10
 try simp only [Exit.then,Exit.inBlock,if_true]
 refine x_end0 (fn:=Tryz.f214) rfl h14 ?_
 exact ⟨rfl,(⟨v12,(nth M t).l++([(⟨false,ad,wd⟩:Wt)])⟩:Ls Wt),rfl,(h14.sh.sel [1,2] rfl)⟩
theorem tbFree_c (K:Nat→Prop)(g1 g0:Nat)(v9:Value)(M:List (Ls Wt))(t:Nat)(ad wd:Int)(W:World)(hS:Sh K W W [.blk g1 185 [.pointer (some ⟨g0,0,none⟩),v9], .big (matX (.own 266) 267 v9 M)])(ht:t<M.length)(hl:(nth M t).l.length≤100):
    Rets Tryz.prog 210 [.pointer (some ⟨g1,0,none⟩), .int .i64 ((t:Nat):Int), .int .i64 ad] W (fun v w' =>v= .tuple #[]∧∃u:Ls Wt,u.l=(nth M t).l++ [⟨true,ad,0⟩]∧Sh K W w' [.blk g1 185 [.pointer (some ⟨g0,0,none⟩),v9], .big (matX (.own 266) 267 v9 (M.set t u))]):=by
 refine gen Tryz.func210 Tryz.ntmps210 hS rfl fun a10 h10=>gG h10<|rC [14,15,17] rfl<|pR [0,1,2,3,4,5,6,7,8,9,10,11,12,13] rfl (oM 1 rfl<|onfl 0 fl_185_1 ti_183 rfl rfl<|oM 2 rfl<|onfl 0 fl_185_1 ti_183 rfl rfl<|oM 1 rfl<|oxN sl_183 ti_267 (fun w h=>(h.matAt 1 rfl)) _ (by rw [rvs_len];exact (show t<M.length from (by omega))) rfl<|oV (Rn.same (r_lde (s:=(⟨v9,rvs M⟩:Ls RV)) (i:=t) (v:=(nth (rvs M) t).v) ti_267 rfl rfl rfl (fun w h=>h.matAt 1 rfl) (by rw [rvs_len];exact (show t<M.length from om9)) (Nat.le_of_ble_eq_true rfl) rfl) (nth_rvs M t)) rfl<|oM 1 rfl<|oV (r_build (cs:= [.bool true, .int .i64 ad, .int .i64 0]) rfl rfl (by kernel_rfl)) rfl<|.nl) rfl<|pX (fun _ _ h_=>x_lit (n:=1) (cs:= [.bool true, .int .i64 ad, .int .i64 0]) ([(⟨true,ad,0⟩:Wt)]:List Wt) h_ sl_267 ti_266 rfl rfl rfl (by decide) rfl (by kernel_rfl) rfl (fun q hq w h=>Flat.inner _ _) (fun q hq b hb=>(Flat.on _ _ hb).elim) rfl rfl) rfl fun v11=>pR [0,1,2,3,4,5,6,7,8,9,10,11] rfl (oM 1 rfl<|onfl 1 fl_185_1 ti_183 rfl rfl<|oM 2 rfl<|onfl 1 fl_185_1 ti_183 rfl rfl<|oM 1 rfl<|oxN sl_183 ti_267 (fun w h=>(h.matAt 2 rfl)) _ (by rw [rvs_len];exact (show t<M.length from (by omega))) rfl<|oV (Rn.same (r_lde (s:=(⟨v9,rvs M⟩:Ls RV)) (i:=t) (v:=(nth (rvs M) t).v) ti_267 rfl rfl rfl (fun w h=>h.matAt 2 rfl) (by rw [rvs_len];exact (show t<M.length from om9)) (Nat.le_of_ble_eq_true rfl) rfl) (nth_rvs M t)) rfl<|.nl) rfl<|pX (fun _ _ h_=>x_appMat (i:=t) (r:=2) (rm:=0) (m:=(⟨v11, [(⟨true,ad,0⟩:Wt)]⟩:Ls Wt)) h_ sl_267 ti_266 rfl rfl rfl rfl (show t<M.length from om9) rfl rfl rfl (fun w h=>(h.own 0 rfl)) (fun b hb=>own_on (h_.sh.ok _ (List.mem_of_getElem? (i:=0) rfl)) hb) rfl rfl rfl inferInstance (show (((nth M t).l).length+([(⟨true,ad,0⟩:Wt)]).length)*24≤140737488355328∧((nth M t).l).length+([(⟨true,ad,0⟩:Wt)]).length≤140737488355328 from om9) rfl rfl) rfl fun v12=>pR [0,1,2,3,4,16] rfl (oM 1 rfl<|onfl 2 fl_185_1 ti_183 rfl rfl<|oM 1 rfl<|oxN sl_183 ti_267 (fun w h=>(h.holeAt 3 rfl)) _ (by rw [rvs_len];exact (show t<M.length from (by omega))) rfl<|.nl) rfl<|pS (fun _ _ h_=>x_stHole (i:=t) (r:=2) (s:=(⟨v12,(nth M t).l++([(⟨true,ad,0⟩:Wt)])⟩:Ls Wt)) h_ ti_267 rfl rfl rfl rfl rfl (show t<M.length from om9) (h_.sh.own 0 rfl)) rfl<|pE [] rfl (.nl) rfl<|fun a14 w14 h14=> ?_;clear h10
 try simp only [Exit.then,Exit.inBlock,if_true]
 refine x_end0 (fn:=Tryz.f210) rfl h14 ?_
 exact ⟨rfl,(⟨v12,(nth M t).l++([(⟨true,ad,0⟩:Wt)])⟩:Ls Wt),rfl,(h14.sh.sel [1,2] rfl)⟩
theorem tbFlush_c (K:Nat→Prop)(g1 g0:Nat)(v9:Value)(M:List (Ls Wt))(words owner:Ls Int)(t k:Nat)(W:World)(hS:Sh K W W [.blk g1 185 [.pointer (some ⟨g0,0,none⟩),v9], .big (matX (.own 266) 267 v9 M), .blk g0 182 [words.v,owner.v], .own 3 words, .own 3 owner])(ht:t<M.length)(hl:(nth M t).l.length≤100)(hk:k<(nth M t).l.length)(hx:WtOk (nth (nth M t).l k) words owner):
    Rets Tryz.prog 209 [.pointer (some ⟨g1,0,none⟩), .int .i64 ((t:Nat):Int), .int .i64 ((k:Nat):Int)] W (fun v w' =>v= .tuple #[]∧∃u:Ls Wt,u.l=(nth M t).l.eraseIdx k∧Sh K W w' [.blk g1 185 [.pointer (some ⟨g0,0,none⟩),v9], .big (matX (.own 266) 267 v9 (M.set t u)), .blk g0 182 [words.v,owner.v], .own 3 (⟨words.v,if (nth (nth M t).l k).lock=true then words.l else words.l.set (nth (nth M t).l k).wh.toNat (nth (nth M t).l k).what⟩:Ls Int), .own 3 (⟨owner.v,if (nth (nth M t).l k).lock=true then owner.l.set (nth (nth M t).l k).wh.toNat (-1) else owner.l⟩:Ls Int)]):=by
 refine gen Tryz.func209 Tryz.ntmps209 hS rfl fun a10 h10=>gG h10<|sK fun _ k11=>gNl (fun w h=>(h.matRow 1 rfl t (show t<M.length from (by omega)))) fun (hl12:((nth M t).l).length≤140737488355328)=>gRn (oM 1 rfl<|onfl 0 fl_185_1 ti_183 rfl rfl<|oM 1 rfl<|oxN sl_183 ti_267 (fun w h=>(h.matAt 1 rfl)) _ (by rw [rvs_len];exact (show t<M.length from (by omega))) rfl<|oV (Rn.same (r_lde (s:=(⟨v9,rvs M⟩:Ls RV)) (i:=t) (v:=(nth (rvs M) t).v) ti_267 rfl rfl rfl (fun w h=>h.matAt 1 rfl) (by rw [rvs_len];exact (show t<M.length from om9)) (Nat.le_of_ble_eq_true rfl) rfl) (nth_rvs M t)) rfl<|oM 1 rfl<|oxN sl_267 ti_266 (fun w h=>(h.matRow 1 rfl t (show t<M.length from (by omega)))) _ om9 rfl<|olw2 [.bool ((nth ((nth M t).l) k).lock), .int .i64 ((nth ((nth M t).l) k).wh), .int .i64 ((nth ((nth M t).l) k).what)] ti_266 (fun w h=>(h.matRow 1 rfl t (show t<M.length from (by omega)))) om9 rfl<|.nl)<|gal ti_266 rfl fun b13=>gsw 0 ti_266 rfl rfl rfl<|nK k11<|gK fun _ k15=>gF [0,1,2,6,7,8,9,10,11,12,13,14,15,16] rfl<|fun a19 w19 h19=>x_any ((fun Φ Ψ S a w=>(S 12=false∧S 16=false∧S 18=false∧FrI 55 S Φ Ψ a∧Sh K W w [.blk b13 266 [.bool ((nth ((nth M t).l) k).lock), .int .i64 ((nth ((nth M t).l) k).wh), .int .i64 ((nth ((nth M t).l) k).what)], .blk g1 185 [.pointer (some ⟨g0,0,none⟩),v9], .big (matX (.own 266) 267 v9 M), .blk g0 182 [words.v,owner.v], .own 3 words, .own 3 owner])∨(S 12=true∧S 16=false∧S 18=false∧∃(s7012:Ls Wt),FrI 55 S Φ (Ψ++ [(12,29,s7012.v)]) a∧Sh K W w [.own 266 (⟨s7012.v,(nth M t).l⟩:Ls Wt), .blk b13 266 [.bool ((nth ((nth M t).l) k).lock), .int .i64 ((nth ((nth M t).l) k).wh), .int .i64 ((nth ((nth M t).l) k).what)], .blk g1 185 [.pointer (some ⟨g0,0,none⟩),v9], .big (matX (.own 266) 267 v9 M), .blk g0 182 [words.v,owner.v], .own 3 words, .own 3 owner])∨(S 12=true∧S 16=true∧S 18=false∧∃(s7012:Ls Wt) (u7016:Ls Wt),FrI 55 S Φ (Ψ++ [(12,29,s7012.v),(16,33,u7016.v),(17,34, .pointer (some (padr v9 1 t 0)))]) a∧Sh K W w [.own 266 (⟨u7016.v,((nth M t).l).take k++((nth M t).l).drop (k+1)⟩:Ls Wt), .blk b13 266 [.bool ((nth ((nth M t).l) k).lock), .int .i64 ((nth ((nth M t).l) k).wh), .int .i64 ((nth ((nth M t).l) k).what)], .blk g1 185 [.pointer (some ⟨g0,0,none⟩),v9], .big (matX (.own 266) 267 v9 M), .blk g0 182 [words.v,owner.v], .own 3 words, .own 3 owner])∨(S 12=true∧S 16=true∧S 18=true∧∃(s7012:Ls Wt) (u7016:Ls Wt),FrI 55 S Φ (Ψ++ [(12,29,s7012.v),(16,33,u7016.v),(17,34, .pointer (some (padr v9 1 t 0)))]) a∧Sh K W w [.big (matX (.own 266) 267 v9 (M.set t (⟨u7016.v,((nth M t).l).take k++((nth M t).l).drop (k+1)⟩:Ls Wt))), .blk b13 266 [.bool ((nth ((nth M t).l) k).lock), .int .i64 ((nth ((nth M t).l) k).wh), .int .i64 ((nth ((nth M t).l) k).what)], .blk g1 185 [.pointer (some ⟨g0,0,none⟩),v9], .blk g0 182 [words.v,owner.v], .own 3 words, .own 3 owner])) [(0, .pointer (some ⟨g1,0,none⟩)),(1, .int .i64 ((t:Nat):Int)),(2, .int .i64 ((k:Nat):Int)),(6, .pointer (some ⟨b13,0,none⟩)),(7, .pointer (some ⟨g1,0,none⟩)),(8, .pointer (some ⟨g1,0,none⟩)),(9, .pointer (some ⟨g1,1,none⟩)),(10,v9),(11, .int .i64 ((t:Nat):Int)),(12, .pointer (some (padr v9 1 t 0))),(13,(nth M t).v),(14, .int .i64 ((k:Nat):Int)),(15, .pointer (some (padr ((nth M t).v) 3 k 0))),(16, .agg #[.bool ((nth ((nth M t).l) k).lock), .int .i64 ((nth ((nth M t).l) k).wh), .int .i64 ((nth ((nth M t).l) k).what)])] [(0,17, .pointer (some ⟨g1,0,none⟩)),(1,18, .pointer (some ⟨g1,0,none⟩)),(2,19, .pointer (some ⟨g1,1,none⟩)),(3,20,v9),(4,21, .int .i64 ((t:Nat):Int)),(5,22, .pointer (some ⟨g1,0,none⟩)),(6,23, .pointer (some ⟨g1,0,none⟩)),(7,24, .pointer (some ⟨g1,1,none⟩)),(8,25,v9),(9,26, .int .i64 ((t:Nat):Int)),(10,27, .pointer (some (padr v9 1 t 0))),(11,28,(nth M t).v),(13,30, .int .i64 ((k:Nat):Int)),(14,31, .int .i64 ((k:Nat):Int)),(15,32, .int .i64 ((k+1:Nat):Int))]) (by kernel_rfl) (by kernel_rfl) (Or.inl (⟨rfl,rfl,rfl,FrI.start h19.fr,h19.sh.drew⟩)) ?_ ?_;clear h10
 ·intro S i o ho hSi hcl hdep a w hI
  clear h19
  rcases i with _|_|_|_|_|_|_|_|_|_|_|_|_|_|_|_|_|_|_|i
  ·obtain rfl:_=o:=Option.some.inj ho
   rcases hI with ⟨ν12,ν16,ν18,φ,ς⟩|⟨ν12,ν16,ν18,s7012,φ,ς⟩|⟨ν12,ν16,ν18,s7012,u7016,φ,ς⟩|⟨_,_,ν18,_⟩
   ·exact sq φ φ.fr0 ς (r_move rfl rfl) 0 rfl rfl rfl rfl rfl rfl fun a hg=>Or.inl (⟨un rfl ν12,un rfl ν16,un rfl ν18,hg,ς⟩)
   ·exact sq φ φ.fr0 ς (r_move rfl rfl) 0 rfl rfl rfl rfl rfl rfl fun a hg=>Or.inr (Or.inl (⟨un rfl ν12,un rfl ν16,un rfl ν18,s7012,hg,ς⟩))
   ·exact sq φ φ.fr0 ς (r_move rfl rfl) 0 rfl rfl rfl rfl rfl rfl fun a hg=>Or.inr (Or.inr (Or.inl (⟨un rfl ν12,un rfl ν16,un rfl ν18,s7012,u7016,hg,ς⟩)))
   ·exact no_way (cA hcl 18 0 rfl ν18) hSi
  ·obtain rfl:_=o:=Option.some.inj ho
   have hd0:S 0=true:=depAt hdep 0 rfl rfl
   rcases hI with ⟨ν12,ν16,ν18,φ,ς⟩|⟨ν12,ν16,ν18,s7012,φ,ς⟩|⟨ν12,ν16,ν18,s7012,u7016,φ,ς⟩|⟨_,_,ν18,_⟩
   ·exact sq φ (Fr.cons φ.fr0 (φ.at_ 0 0 17 _ rfl hd0)) ς (r_nil rfl rfl) 1 rfl rfl rfl rfl rfl rfl fun a hg=>Or.inl (⟨un rfl ν12,un rfl ν16,un rfl ν18,hg,ς⟩)
   ·exact sq φ (Fr.cons φ.fr0 (φ.at_ 0 0 17 _ rfl hd0)) ς (r_nil rfl rfl) 1 rfl rfl rfl rfl rfl rfl fun a hg=>Or.inr (Or.inl (⟨un rfl ν12,un rfl ν16,un rfl ν18,s7012,hg,ς⟩))
   ·exact sq φ (Fr.cons φ.fr0 (φ.at_ 0 0 17 _ rfl hd0)) ς (r_nil rfl rfl) 1 rfl rfl rfl rfl rfl rfl fun a hg=>Or.inr (Or.inr (Or.inl (⟨un rfl ν12,un rfl ν16,un rfl ν18,s7012,u7016,hg,ς⟩)))
   ·exact no_way (cA hcl 18 1 rfl ν18) hSi
  ·obtain rfl:_=o:=Option.some.inj ho
   have hd1:S 1=true:=depAt hdep 0 rfl rfl
   rcases hI with ⟨ν12,ν16,ν18,φ,ς⟩|⟨ν12,ν16,ν18,s7012,φ,ς⟩|⟨ν12,ν16,ν18,s7012,u7016,φ,ς⟩|⟨_,_,ν18,_⟩
   ·exact sq φ (Fr.cons φ.fr0 (φ.at_ 1 1 18 _ rfl hd1)) ς (r_fieldB (r:=1) fl_185_1 rfl rfl rfl) 2 rfl rfl rfl rfl rfl rfl fun a hg=>Or.inl (⟨un rfl ν12,un rfl ν16,un rfl ν18,hg,ς⟩)
   ·exact sq φ (Fr.cons φ.fr0 (φ.at_ 1 1 18 _ rfl hd1)) ς (r_fieldB (r:=1) fl_185_1 rfl rfl rfl) 2 rfl rfl rfl rfl rfl rfl fun a hg=>Or.inr (Or.inl (⟨un rfl ν12,un rfl ν16,un rfl ν18,s7012,hg,ς⟩))
   ·exact sq φ (Fr.cons φ.fr0 (φ.at_ 1 1 18 _ rfl hd1)) ς (r_fieldB (r:=1) fl_185_1 rfl rfl rfl) 2 rfl rfl rfl rfl rfl rfl fun a hg=>Or.inr (Or.inr (Or.inl (⟨un rfl ν12,un rfl ν16,un rfl ν18,s7012,u7016,hg,ς⟩)))
   ·exact no_way (cA hcl 18 2 rfl ν18) hSi
  ·obtain rfl:_=o:=Option.some.inj ho
   have hd2:S 2=true:=depAt hdep 0 rfl rfl
   rcases hI with ⟨ν12,ν16,ν18,φ,ς⟩|⟨ν12,ν16,ν18,s7012,φ,ς⟩|⟨ν12,ν16,ν18,s7012,u7016,φ,ς⟩|⟨_,_,ν18,_⟩
   ·exact sq φ (Fr.cons φ.fr0 (φ.at_ 2 2 19 _ rfl hd2)) ς (r_ldb (i:=1) ti_183 rfl rfl rfl rfl) 3 rfl rfl rfl rfl rfl rfl fun a hg=>Or.inl (⟨un rfl ν12,un rfl ν16,un rfl ν18,hg,ς⟩)
   ·exact sq φ (Fr.cons φ.fr0 (φ.at_ 2 2 19 _ rfl hd2)) ς (r_ldb (i:=2) ti_183 rfl rfl rfl rfl) 3 rfl rfl rfl rfl rfl rfl fun a hg=>Or.inr (Or.inl (⟨un rfl ν12,un rfl ν16,un rfl ν18,s7012,hg,ς⟩))
   ·exact sq φ (Fr.cons φ.fr0 (φ.at_ 2 2 19 _ rfl hd2)) ς (r_ldb (i:=2) ti_183 rfl rfl rfl rfl) 3 rfl rfl rfl rfl rfl rfl fun a hg=>Or.inr (Or.inr (Or.inl (⟨un rfl ν12,un rfl ν16,un rfl ν18,s7012,u7016,hg,ς⟩)))
   ·exact no_way (cA hcl 18 3 rfl ν18) hSi
  ·obtain rfl:_=o:=Option.some.inj ho
   rcases hI with ⟨ν12,ν16,ν18,φ,ς⟩|⟨ν12,ν16,ν18,s7012,φ,ς⟩|⟨ν12,ν16,ν18,s7012,u7016,φ,ς⟩|⟨_,_,ν18,_⟩
   ·exact sq φ φ.fr0 ς (r_move rfl rfl) 4 rfl rfl rfl rfl rfl rfl fun a hg=>Or.inl (⟨un rfl ν12,un rfl ν16,un rfl ν18,hg,ς⟩)
   ·exact sq φ φ.fr0 ς (r_move rfl rfl) 4 rfl rfl rfl rfl rfl rfl fun a hg=>Or.inr (Or.inl (⟨un rfl ν12,un rfl ν16,un rfl ν18,s7012,hg,ς⟩))
   ·exact sq φ φ.fr0 ς (r_move rfl rfl) 4 rfl rfl rfl rfl rfl rfl fun a hg=>Or.inr (Or.inr (Or.inl (⟨un rfl ν12,un rfl ν16,un rfl ν18,s7012,u7016,hg,ς⟩)))
   ·exact no_way (cA hcl 18 4 rfl ν18) hSi
  ·obtain rfl:_=o:=Option.some.inj ho
   rcases hI with ⟨ν12,ν16,ν18,φ,ς⟩|⟨ν12,_⟩|⟨ν12,_⟩|⟨ν12,_⟩
   ·exact sq φ φ.fr0 ς (r_move rfl rfl) 5 rfl rfl rfl rfl rfl rfl fun a hg=>Or.inl (⟨un rfl ν12,un rfl ν16,un rfl ν18,hg,ς⟩)
   ·exact no_way (cA hcl 12 5 rfl ν12) hSi
   ·exact no_way (cA hcl 12 5 rfl ν12) hSi
   ·exact no_way (cA hcl 12 5 rfl ν12) hSi
  ·obtain rfl:_=o:=Option.some.inj ho
   have hd5:S 5=true:=depAt hdep 0 rfl rfl
   rcases hI with ⟨ν12,ν16,ν18,φ,ς⟩|⟨ν12,_⟩|⟨ν12,_⟩|⟨ν12,_⟩
   ·exact sq φ (Fr.cons φ.fr0 (φ.at_ 5 5 22 _ rfl hd5)) ς (r_nil rfl rfl) 6 rfl rfl rfl rfl rfl rfl fun a hg=>Or.inl (⟨un rfl ν12,un rfl ν16,un rfl ν18,hg,ς⟩)
   ·exact no_way (cA hcl 12 6 rfl ν12) hSi
   ·exact no_way (cA hcl 12 6 rfl ν12) hSi
   ·exact no_way (cA hcl 12 6 rfl ν12) hSi
  ·obtain rfl:_=o:=Option.some.inj ho
   have hd6:S 6=true:=depAt hdep 0 rfl rfl
   rcases hI with ⟨ν12,ν16,ν18,φ,ς⟩|⟨ν12,_⟩|⟨ν12,_⟩|⟨ν12,_⟩
   ·exact sq φ (Fr.cons φ.fr0 (φ.at_ 6 6 23 _ rfl hd6)) ς (r_fieldB (r:=1) fl_185_1 rfl rfl rfl) 7 rfl rfl rfl rfl rfl rfl fun a hg=>Or.inl (⟨un rfl ν12,un rfl ν16,un rfl ν18,hg,ς⟩)
   ·exact no_way (cA hcl 12 7 rfl ν12) hSi
   ·exact no_way (cA hcl 12 7 rfl ν12) hSi
   ·exact no_way (cA hcl 12 7 rfl ν12) hSi
  ·obtain rfl:_=o:=Option.some.inj ho
   have hd7:S 7=true:=depAt hdep 0 rfl rfl
   rcases hI with ⟨ν12,ν16,ν18,φ,ς⟩|⟨ν12,_⟩|⟨ν12,_⟩|⟨ν12,_⟩
   ·exact sq φ (Fr.cons φ.fr0 (φ.at_ 7 7 24 _ rfl hd7)) ς (r_ldb (i:=1) ti_183 rfl rfl rfl rfl) 8 rfl rfl rfl rfl rfl rfl fun a hg=>Or.inl (⟨un rfl ν12,un rfl ν16,un rfl ν18,hg,ς⟩)
   ·exact no_way (cA hcl 12 8 rfl ν12) hSi
   ·exact no_way (cA hcl 12 8 rfl ν12) hSi
   ·exact no_way (cA hcl 12 8 rfl ν12) hSi
  ·obtain rfl:_=o:=Option.some.inj ho
   rcases hI with ⟨ν12,ν16,ν18,φ,ς⟩|⟨ν12,_⟩|⟨ν12,_⟩|⟨ν12,_⟩
   ·exact sq φ φ.fr0 ς (r_move rfl rfl) 9 rfl rfl rfl rfl rfl rfl fun a hg=>Or.inl (⟨un rfl ν12,un rfl ν16,un rfl ν18,hg,ς⟩)
   ·exact no_way (cA hcl 12 9 rfl ν12) hSi
   ·exact no_way (cA hcl 12 9 rfl ν12) hSi
   ·exact no_way (cA hcl 12 9 rfl ν12) hSi
  ·obtain rfl:_=o:=Option.some.inj ho
   have hd8:S 8=true:=depAt hdep 0 rfl rfl
   have hd9:S 9=true:=depAt hdep 1 rfl rfl
   rcases hI with ⟨ν12,ν16,ν18,φ,ς⟩|⟨ν12,_⟩|⟨ν12,_⟩|⟨ν12,_⟩
   ·exact sq φ (Fr.cons (Fr.cons φ.fr0 (φ.at_ 8 8 25 _ rfl hd8)) (φ.at_ 9 9 26 _ rfl hd9)) ς (r_ixN (s:=(⟨v9,rvs M⟩:Ls RV)) (q:=t) sl_183 ti_267 rfl rfl rfl (fun w h=>(h.matAt 2 rfl)) (by rw [rvs_len];exact (show t<M.length from (by omega)))) 10 rfl rfl rfl rfl rfl rfl fun a hg=>Or.inl (⟨un rfl ν12,un rfl ν16,un rfl ν18,hg,ς⟩)
   ·exact no_way (cA hcl 12 10 rfl ν12) hSi
   ·exact no_way (cA hcl 12 10 rfl ν12) hSi
   ·exact no_way (cA hcl 12 10 rfl ν12) hSi
  ·obtain rfl:_=o:=Option.some.inj ho
   have hd10:S 10=true:=depAt hdep 0 rfl rfl
   rcases hI with ⟨ν12,ν16,ν18,φ,ς⟩|⟨ν12,_⟩|⟨ν12,_⟩|⟨ν12,_⟩
   ·exact sq φ (Fr.cons φ.fr0 (φ.at_ 10 10 27 _ rfl hd10)) ς (Rn.same (r_lde (s:=(⟨v9,rvs M⟩:Ls RV)) (i:=t) (v:=(nth (rvs M) t).v) ti_267 rfl rfl rfl (fun w h=>h.matAt 2 rfl) (by rw [rvs_len];exact (show t<M.length from (by omega))) (Nat.le_of_ble_eq_true rfl) rfl) (nth_rvs M t)) 11 rfl rfl rfl rfl rfl rfl fun a hg=>Or.inl (⟨un rfl ν12,un rfl ν16,un rfl ν18,hg,ς⟩)
   ·exact no_way (cA hcl 12 11 rfl ν12) hSi
   ·exact no_way (cA hcl 12 11 rfl ν12) hSi
   ·exact no_way (cA hcl 12 11 rfl ν12) hSi
  ·obtain rfl:_=o:=Option.some.inj ho
   have hd11:S 11=true:=depAt hdep 0 rfl rfl
   rcases hI with ⟨ν12,ν16,ν18,φ,ς⟩|⟨ν12,_⟩|⟨ν12,_⟩|⟨ν12,_⟩
   ·have hs:=St.mk (Fr.cons φ.fr0 (φ.at_ 11 11 28 _ rfl hd11)) ς
    refine step_ex (x_call hs bd_219 rfl rfl rfl rfl rfl (cloneW_c (nth M t) _ (hs.sh.matRow 2 rfl t (show t<M.length from (by omega))) (by first|omega|(simp only [lens9];omega)))) (wanted_none rfl _) ?_
    rintro a47 w47 ⟨_,⟨s47,rfl,hs47⟩,hf47⟩ ⟨v0,ht47⟩
    have h47:St _ K W a47 w47 _ _:=⟨hf47,hs.sh.callI hs47⟩
    clear hf47 hs47
    exact Or.inr (Or.inl (⟨upd_self _ _,un rfl ν16,un rfl ν18,s47,φ.stepW hcl hSi [0,1,2,3,4,5,6,7,8,9,10,11,12,13,14] (by kernel_rfl) (by kernel_rfl) ht47 h47.fr.defers (h47.fr.at_ 29 _ rfl) 15 rfl rfl rfl rfl,(h47.sh.sel [0,1,2,3,4,5,6] rfl)⟩))
   ·exact no_way ν12 hSi
   ·exact no_way ν12 hSi
   ·exact no_way ν12 hSi
  ·obtain rfl:_=o:=Option.some.inj ho
   rcases hI with ⟨ν12,ν16,ν18,φ,ς⟩|⟨ν12,ν16,ν18,s7012,φ,ς⟩|⟨_,ν16,_⟩|⟨_,ν16,_⟩
   ·exact sq φ φ.fr0 ς (r_move rfl rfl) 12 rfl rfl rfl rfl rfl rfl fun a hg=>Or.inl (⟨un rfl ν12,un rfl ν16,un rfl ν18,hg,ς⟩)
   ·exact sq φ φ.fr0 ς (r_move rfl rfl) 12 rfl rfl rfl rfl rfl rfl fun a hg=>Or.inr (Or.inl (⟨un rfl ν12,un rfl ν16,un rfl ν18,s7012,hg,ς⟩))
   ·exact no_way (cA hcl 16 13 rfl ν16) hSi
   ·exact no_way (cA hcl 16 13 rfl ν16) hSi
  ·obtain rfl:_=o:=Option.some.inj ho
   rcases hI with ⟨ν12,ν16,ν18,φ,ς⟩|⟨ν12,ν16,ν18,s7012,φ,ς⟩|⟨_,ν16,_⟩|⟨_,ν16,_⟩
   ·exact sq φ φ.fr0 ς (r_move rfl rfl) 13 rfl rfl rfl rfl rfl rfl fun a hg=>Or.inl (⟨un rfl ν12,un rfl ν16,un rfl ν18,hg,ς⟩)
   ·exact sq φ φ.fr0 ς (r_move rfl rfl) 13 rfl rfl rfl rfl rfl rfl fun a hg=>Or.inr (Or.inl (⟨un rfl ν12,un rfl ν16,un rfl ν18,s7012,hg,ς⟩))
   ·exact no_way (cA hcl 16 14 rfl ν16) hSi
   ·exact no_way (cA hcl 16 14 rfl ν16) hSi
  ·obtain rfl:_=o:=Option.some.inj ho
   have hd14:S 14=true:=depAt hdep 0 rfl rfl
   rcases hI with ⟨ν12,ν16,ν18,φ,ς⟩|⟨ν12,ν16,ν18,s7012,φ,ς⟩|⟨_,ν16,_⟩|⟨_,ν16,_⟩
   ·exact sq φ (Fr.cons φ.fr0 (φ.at_ 13 14 31 _ rfl hd14)) ς (r_addN (p:=k) (q:=1) rfl rfl rfl (show k+1<9223372036854775808 from (by omega))) 14 rfl rfl rfl rfl rfl rfl fun a hg=>Or.inl (⟨un rfl ν12,un rfl ν16,un rfl ν18,hg,ς⟩)
   ·exact sq φ (Fr.cons φ.fr0 (φ.at_ 13 14 31 _ rfl hd14)) ς (r_addN (p:=k) (q:=1) rfl rfl rfl (show k+1<9223372036854775808 from (by omega))) 14 rfl rfl rfl rfl rfl rfl fun a hg=>Or.inr (Or.inl (⟨un rfl ν12,un rfl ν16,un rfl ν18,s7012,hg,ς⟩))
   ·exact no_way (cA hcl 16 15 rfl ν16) hSi
   ·exact no_way (cA hcl 16 15 rfl ν16) hSi
  ·obtain rfl:_=o:=Option.some.inj ho
   have hd12:S 12=true:=depAt hdep 0 rfl rfl
   have hd13:S 13=true:=depAt hdep 1 rfl rfl
   have hd15:S 15=true:=depAt hdep 2 rfl rfl
   rcases hI with ⟨ν12,_⟩|⟨ν12,ν16,ν18,s7012,φ,ς⟩|⟨_,ν16,_⟩|⟨_,ν16,_⟩
   ·exact no_way hd12 ν12
   ·have hs:=St.mk (Fr.cons (Fr.cons (Fr.cons φ.fr0 (φ.at_ 15 12 29 _ rfl hd12)) (φ.at_ 12 13 30 _ rfl hd13)) (φ.at_ 14 15 32 _ rfl hd15)) ς
    have hp54:=hs.sh.passL (Lp:= [_])
    refine step_ex (x_call hs bd_218 rfl rfl rfl rfl rfl (deleteW_c _ (⟨s7012.v,(nth M t).l⟩:Ls Wt) k (k+1) _ hp54 (by first|omega|(simp only [lens9];omega)))) (wanted_none rfl _) ?_
    rintro a55 w55 ⟨_,⟨u55,rfl,hs55⟩,hf55⟩ ⟨v0,ht55⟩
    have h55:St _ K W a55 w55 _ [_,_,_,_,_,_,_]:=⟨hf55,hs.sh.backI (Lp:= [_]) hs55⟩
    clear hf55 hs55
    exact Or.inr (Or.inr (Or.inl (⟨un rfl ν12,upd_self _ _,un rfl ν18,s7012,u55,φ.stepW hcl hSi [0,1,2,3,4,5,6,7,8,9,10,11,12,13,14,15] (by kernel_rfl) (by kernel_rfl) ht55 h55.fr.defers (h55.fr.at_ 33 _ rfl) 16 rfl rfl rfl rfl,(h55.sh.sel [0,1,2,3,4,5,6] rfl)⟩)))
   ·exact no_way ν16 hSi
   ·exact no_way ν16 hSi
  ·obtain rfl:_=o:=Option.some.inj ho
   have hd3:S 3=true:=depAt hdep 0 rfl rfl
   have hd4:S 4=true:=depAt hdep 1 rfl rfl
   have hd12:S 12=true:=depAt hdep 14 rfl rfl
   have hd16:S 16=true:=depAt hdep 18 rfl rfl
   rcases hI with ⟨ν12,_⟩|⟨_,ν16,_⟩|⟨ν12,ν16,ν18,s7012,u7016,φ,ς⟩|⟨_,_,ν18,_⟩
   ·exact no_way hd12 ν12
   ·exact no_way hd16 ν16
   ·exact sq φ (Fr.cons (Fr.cons φ.fr0 (φ.at_ 3 3 20 _ rfl hd3)) (φ.at_ 4 4 21 _ rfl hd4)) ς (r_ixN (s:=(⟨v9,rvs M⟩:Ls RV)) (q:=t) sl_183 ti_267 rfl rfl rfl (fun w h=>(h.matAt 3 rfl)) (by rw [rvs_len];exact (show t<M.length from (by omega)))) 17 rfl rfl rfl rfl rfl rfl fun a hg=>Or.inr (Or.inr (Or.inl (⟨un rfl ν12,un rfl ν16,un rfl ν18,s7012,u7016,hg,ς⟩)))
   ·exact no_way (cA hcl 18 17 rfl ν18) hSi
  ·obtain rfl:_=o:=Option.some.inj ho
   have hd17:S 17=true:=depAt hdep 0 rfl rfl
   have hd16:S 16=true:=depAt hdep 1 rfl rfl
   have hd12:S 12=true:=depAt hdep 15 rfl rfl
   rcases hI with ⟨ν12,_⟩|⟨_,ν16,_⟩|⟨ν12,ν16,ν18,s7012,u7016,φ,ς⟩|⟨_,_,ν18,_⟩
   ·exact no_way hd12 ν12
   ·exact no_way hd16 ν16
   ·have hs:=St.mk (Fr.cons (Fr.cons φ.fr0 (φ.at_ 16 16 33 _ rfl hd16)) (φ.at_ 17 17 34 _ rfl hd17)) ς
    have ha57:=(hs.sh.own 0 rfl)
    have h58:=hs.sel (L' := [_,_,_,_,_,_,_]) [3,0,1,2,4,5,6] rfl
    refine step_ex (x_stMat (i:=t) (s:=(⟨u7016.v,((nth M t).l).take k++((nth M t).l).drop (k+1)⟩:Ls Wt)) h58 ti_267 rfl rfl rfl rfl (show t<M.length from (by omega)) ha57) (wanted_none rfl _) ?_
    rintro a59 w59 h59 ⟨v0,ht59⟩
    exact Or.inr (Or.inr (Or.inr (⟨un rfl ν12,un rfl ν16,upd_self _ _,s7012,u7016,φ.noneW hcl hSi [0,1,2,3,4,5,6,7,8,9,10,11,12,13,14,15,16,17] (by kernel_rfl) (by kernel_rfl) ht59 h59.fr.defers rfl,(h59.sh.sel [0,1,2,3,4,5] rfl)⟩)))
   ·exact no_way ν18 hSi
  · simp at ho
 intro S hall a w hI
 clear h19
 rcases hI with ⟨ν12,ν16,ν18,φ,ς⟩|⟨ν12,ν16,ν18,s7012,φ,ς⟩|⟨ν12,ν16,ν18,s7012,u7016,φ,ς⟩|⟨ν12,ν16,ν18,s7012,u7016,φ,ς⟩
 · exact no_way (hall 12 (by decide)) ν12
 · exact no_way (hall 16 (by decide)) ν16
 · exact no_way (hall 18 (by decide)) ν18
 have h60:St 55 K W a w _ _:=⟨φ.fr0,ς⟩
 clear hall φ ς ν12 ν16 ν18
 refine gG h60<|hK k15<|sG (ofB fl_266_0 rfl<|olB 1 ti_4 rfl rfl<|.nl)<|?_;clear h60
 refine gCb rfl (fun hb62=> ?_) fun hb62=> ?_
 ·skip
  unfold WtOk at hx
  rw [if_pos (by assumption)] at hx
  refine rT 7 [] (oM 1 rfl<|onfl 2 fl_185_0 ti_123 rfl rfl<|oM 1 rfl<|ofB fl_266_1 rfl<|olB 1 ti_3 rfl rfl<|.nl)<|gO [3,4,5,0,1,2] rfl<|gM 3 rfl (fun _ _ h_=>xCl h_ bd_200 rfl (plFree_c _ g0 words owner ((t:Nat):Int) ((nth ((nth M t).l) k).wh) 0 _ (pKl 3 h_ rfl) hx)) rfl<|?_
  rintro _ _ w65 ⟨rfl,hs65⟩
  refine gBk hs65 rfl<|gU<|nN<|fun a66 w66 h66=> ?_;clear hs65
  try simp only [Exit.then,Exit.inBlock,if_true]
  refine x_end0 (fn:=Tryz.f209) rfl h66 ?_
  first|rw [if_pos (by assumption),if_pos (by assumption)]|rw [if_neg (by rw [show (nth (nth M t).l k).lock=false by assumption];decide),if_neg (by rw [show (nth (nth M t).l k).lock=false by assumption];decide)]
  exact ⟨rfl,(⟨u7016.v,((nth M t).l).take k++((nth M t).l).drop (k+1)⟩:Ls Wt),(eraseIdx_td _ _).symm,(h66.sh.sel [5,3,0,1,2] rfl)⟩
 unfold WtOk at hx
 rw [if_neg (by rw [show (nth (nth M t).l k).lock=false by assumption];decide)] at hx
 refine rT 9 [] (oM 1 rfl<|onfl 2 fl_185_0 ti_123 rfl rfl<|oM 1 rfl<|ofB fl_266_1 rfl<|olB 1 ti_3 rfl rfl<|ofB fl_266_2 rfl<|olB 1 ti_3 rfl rfl<|.nl)<|gO [3,4,5,0,1,2] rfl<|gM 3 rfl (fun _ _ h_=>xCl h_ bd_204 rfl (plStore_c _ g0 words owner ((t:Nat):Int) ((nth ((nth M t).l) k).wh) ((nth ((nth M t).l) k).what) _ (pKl 3 h_ rfl) hx)) rfl<|?_
 rintro _ _ w69 ⟨rfl,hs69⟩
 refine gBk hs69 rfl<|gU<|nN<|fun a70 w70 h70=> ?_;clear hs69
 try simp only [Exit.then,Exit.inBlock,if_true]
 refine x_end0 (fn:=Tryz.f209) rfl h70 ?_
 first|rw [if_pos (by assumption),if_pos (by assumption)]|rw [if_neg (by rw [show (nth (nth M t).l k).lock=false by assumption];decide),if_neg (by rw [show (nth (nth M t).l k).lock=false by assumption];decide)]
 exact ⟨rfl,(⟨u7016.v,((nth M t).l).take k++((nth M t).l).drop (k+1)⟩:Ls Wt),(eraseIdx_td _ _).symm,(h70.sh.sel [5,3,0,1,2] rfl)⟩
theorem matX_rd {E E2:TypeId}{v:Value}{M:List (Ls Wt)}{b:Nat}(h:(Asn.big (matX (.own E) E2 v M)).rd b):False:=by
 obtain ⟨A,hA,hb⟩:=h
 rcases List.mem_cons.1 hA with rfl|hA
 ·exact Flat.noRd hb
 ·obtain ⟨s,_,rfl⟩:=List.mem_map.1 hA
  exact Flat.noRd hb
def memT (g1 g0:Nat):MemS:=⟨Ls (Ls Wt),fun q=>q.l.map (·.l),fun q=> .big [.blk g1 185 [.pointer (some ⟨g0,0,none⟩),q.v], .big (matX (.own 266) 267 q.v q.l)],125,⟨g1,0,none⟩,g0,1⟩
theorem memT_rd {g1 g0:Nat}{q:Ls (Ls Wt)}{b:Nat}(h:((memT g1 g0).X q).rd b):False:=by
 obtain ⟨A,hA,hb⟩:=h
 simp only [List.mem_cons,List.not_mem_nil,or_false] at hA
 rcases hA with rfl|rfl
 ·exact hb
 ·exact matX_rd hb
theorem memT_nth {q:Ls (Ls Wt)}{t:Nat}(h:t<(q.l.map (·.l)).length):nth (q.l.map (·.l)) t=(nth q.l t).l:=nth_map' (fun x:Ls Wt=>x.l) q.l t (by simpa using h)
theorem memT_at {g1 g0:Nat}{q:Ls (Ls Wt)}{w:World}(h:((memT g1 g0).X q).ok w):Blk w g1 185 #[.pointer (some ⟨g0,0,none⟩),q.v]∧q.At w:=by
 obtain ⟨h1,h2,h3⟩:=h
 refine ⟨h1 _ (List.mem_cons_self ..), ?_⟩
 have hb:=h1 _ (List.mem_cons_of_mem _ (List.mem_cons_self ..))
 have hs:Sh (fun _=>True) w w [.big (matX (.own 266) 267 q.v q.l)]:=⟨Chg.refl _ _,by simpa using hb,fun _ _ _ _=> .inl trivial,by
  intro A hA b _ hr
  obtain rfl:=List.mem_singleton.1 hA
  exact matX_rd hr,List.pairwise_singleton _ _⟩
 exact (hs.matDeep own_mat).deep 0 rfl
theorem memT_open {g1 g0:Nat}{K:Nat→Prop}{W w:World}{words owner:Ls Int}{q:Ls (Ls Wt)}(h:Sh K W w (memA 182 3 (memT g1 g0) words owner q)):Sh K W w ([.blk g1 185 [.pointer (some ⟨g0,0,none⟩),q.v], .big (matX (.own 266) 267 q.v q.l)]++ [.blk g0 182 [words.v,owner.v], .own 3 words, .own 3 owner]):=
 (h.sel (L' := [(memT g1 g0).X q, .blk g0 182 [words.v,owner.v], .own 3 words, .own 3 owner]) [3,0,1,2] rfl).open_
theorem memT_close {g1 g0:Nat}{K:Nat→Prop}{W w:World}{words owner:Ls Int}{q:Ls (Ls Wt)}(h:Sh K W w ([.blk g1 185 [.pointer (some ⟨g0,0,none⟩),q.v], .big (matX (.own 266) 267 q.v q.l)]++ [.blk g0 182 [words.v,owner.v], .own 3 words, .own 3 owner])):Sh K W w (memA 182 3 (memT g1 g0) words owner q):=
 (Sh.close h).sel [1,2,3,0] rfl
theorem memT_st {g1 g0 t:Nat}{x:Wt}{words owner:Ls Int}{q:Ls (Ls Wt)}{u:Ls Wt}(h:t<(q.l.map (·.l)).length)(e:u.l=(nth q.l t).l++ [x]):StoreP (memT g1 g0) t x words owner q words owner (⟨q.v,q.l.set t u⟩:Ls (Ls Wt)):=by
 refine ⟨u.l, ?_,fun pc regs prints fell=> ?_⟩
 ·show (q.l.set t u).map (·.l)=(q.l.map (·.l)).set t u.l
  rw [List.map_set]
 ·show _=TS.store 1 ⟨pc,regs,nth (q.l.map (·.l)) t,words.l,owner.l,prints,fell⟩ x
  rw [memT_nth h,e]
  unfold TS.store
  rw [if_pos (by decide)]
def embI (P:Program)(T:TypeId)(name:String):Option (FuncId×TypeId):=
 match P.info? T with
 |none=>none
 |some i=>match i.methods.find? (·.name==name) with
  |none=>none
  |some m=>match m.path.toList,m.func with
   | [st],some (f,true)=>match P.underlying st.struct with
    |some (.struct fs)=>match fs[st.index]? with
     |none=>none
     |some fd=>match P.info? fd.type,P.underlying fd.type with
      |some fi,some (.pointer _)=>if st.deref=true∧fd.offset=0∧fi.size≠0 then some (f,fd.type) else none
      |_,_=>none
    |_=>none
   |_,_=>none
theorem meth_emb {P:Program}{n g1:Nat}{T xt:TypeId}{name:String}{f:FuncId}{r:Value}{w:World}(hn:Nat.blt 0 n=true)(hI:embI P T name=some (f,xt))(hl:(loadVar xt ⟨g1,0,none⟩).run P w= .ok r w):(method n T (.pointer (some ⟨g1,0,none⟩)) name).run P w= .ok (f,r) w:=by
 obtain ⟨n,rfl⟩:∃n',n=n' +1:=⟨n-1,by rw [Nat.blt_eq] at hn;omega⟩
 unfold embI at hI
 split at hI
 ·cases hI
 rename_i i hi
 split at hI
 ·cases hI
 rename_i m hm
 split at hI
 ·rename_i st f' hp hf
  split at hI
  ·rename_i fs hfs
   split at hI
   ·cases hI
   rename_i fd hfd
   split at hI
   ·rename_i fi e hfi hfu
    split at hI
    ·rename_i hc
     cases hI
     obtain ⟨h1,h2,h3⟩:=hc
     unfold method
     simp [typeInfo,hi,hm,hp,hf,follow,run_underlying hfs,hfd,h1,Place.get,asAddr,fieldPlace,sizeOf,hfi,h3,h2,receiverAt,run_underlying hfu,hl,Addr.add]
    ·cases hI
   ·cases hI
  ·cases hI
 ·cases hI
theorem methT_ld {g1 g0:Nat}{w:World}{v:Value}(h:Blk w g1 185 #[.pointer (some ⟨g0,0,none⟩),v]):(loadVar 123 ⟨g1,0,none⟩).run Tryz.prog w= .ok (.pointer (some ⟨g0,0,none⟩)) w:=by
 have hc:=h.cells2.1
 unfold Blk at h
 simp [loadVar,World.cell?,h]
theorem mayK_tso (l:List Wt):((List.range l.length).filter (mayK 1 l)).map (fun k=>((k:Nat):Int))=if l.length=0 then [] else [0]:=by
 have e:mayK 1 l=fun k=>decide (k=0):=by
  funext k
  unfold mayK
  simp
 rw [e]
 cases h:l.length with
 |zero=>rfl
 |succ n=>
  rw [if_neg (by omega),List.range_succ_eq_map,List.filter_cons,if_pos (by rfl),List.filter_eq_nil_iff.2]
  ·rfl
  ·intro x hx
   obtain ⟨y,_,rfl⟩:=List.mem_map.1 hx
   simp
theorem memT_ok (g1 g0:Nat):MemI Tryz.prog 182 3 (memT g1 g0) where
 load w words owner q t wd h ht hl hwd:=⟨212,⟨g1,0,none⟩,by kernel_rfl,bd_212,by
  have e:nth ((memT g1 g0).qs q) t=(nth q.l t).l:=memT_nth ht
  rw [e] at hl⊢
  have ht' :t<q.l.length:=by simpa [memT] using ht
  obtain ⟨hB,hq⟩:=memT_at h.x
  obtain ⟨A,cap,hv,hA⟩:=hq
  have hr:=hA.inner t ht'
  obtain ⟨A2,cap2,hv2,hA2⟩:=hr
  have hB' :=hB
  rw [hv] at hB'
  have hc:=callsIn_wide.1 (bufLoad_in g1 g0 t ⟨A,cap,q.l⟩ ⟨A2,cap2,(nth q.l t).l⟩ words owner wd w hB' h.blk h.wa h.oa hA ht' hv2 hA2 hl hwd)
  exact Calls.mono hc fun e w' he=>⟨_,he.1,rfl,⟨Chg.below he.2,fun A hA=>(by cases hA),fun A hA=>(by cases hA),fun A hA=>(by cases hA),List.Pairwise.nil⟩⟩⟩
 waits w words owner q t h ht hl:=⟨216,⟨g1,0,none⟩,by kernel_rfl,bd_216,by
  have e:nth ((memT g1 g0).qs q) t=(nth q.l t).l:=memT_nth ht
  rw [e]
  obtain ⟨hB,hq⟩:=memT_at h.x
  exact tbWaits_c g1 g0 q t 0 w hB hq (by simpa [memT] using ht)⟩
 freeing w words owner q t a h ht hl hlk:=⟨211,⟨g1,0,none⟩,by kernel_rfl,bd_211,by
  have e:nth ((memT g1 g0).qs q) t=(nth q.l t).l:=memT_nth ht
  rw [e] at hlk⊢
  obtain ⟨hB,hq⟩:=memT_at h.x
  exact tbFreeing_c g1 g0 q t a w hB hq (by simpa [memT] using ht) hlk⟩
 ready w words owner q t h ht hl:=⟨213,⟨g1,0,none⟩,by kernel_rfl,bd_213,by
  have e:nth ((memT g1 g0).qs q) t=(nth q.l t).l:=memT_nth ht
  rw [e]
  obtain ⟨hB,hq⟩:=memT_at h.x
  refine Rets.mono (tbReady_c g1 g0 q t 0 w hB hq (by simpa [memT] using ht)) ?_
  rintro v w' ⟨s,rfl,hs,h9⟩
  exact ⟨s,rfl,hs.trans (mayK_tso _).symm,h9⟩⟩
 base w words owner q h:=⟨197,⟨g0,0,none⟩,meth_emb (xt:=123) (by kernel_rfl) (by kernel_rfl) (methT_ld (memT_at h.x).1),bd_197,plBase_c g0 words owner 0 0 0 w h.blk h.wa h.oa⟩
 store K W words owner q t wd what hS ht hl hwd:=⟨214,⟨g1,0,none⟩,by kernel_rfl,bd_214,by
  have h:=memT_open hS
  have e:nth ((memT g1 g0).qs q) t=(nth q.l t).l:=memT_nth ht
  rw [e] at hl
  refine Rets.mono (tbStore_c _ g1 g0 q.v q.l t wd what W h.passL (by simpa [memT] using ht) (by omega)) ?_
  rintro v w' ⟨rfl,u,hu,hs⟩
  exact ⟨rfl,words,owner,⟨q.v,q.l.set t u⟩,memT_st ht hu,memT_close (q:=⟨q.v,q.l.set t u⟩) (h.backL hs (by intro A hA b hb;simp only [List.mem_cons,List.not_mem_nil,or_false] at hA;rcases hA with rfl|rfl<;>first|exact (hb:False).elim|exact Flat.noRd hb|exact (matX_rd hb).elim))⟩⟩
 free K W words owner q t a hS ht hl ha:=⟨210,⟨g1,0,none⟩,by kernel_rfl,bd_210,by
  have h:=memT_open hS
  have e:nth ((memT g1 g0).qs q) t=(nth q.l t).l:=memT_nth ht
  rw [e] at hl
  refine Rets.mono (tbFree_c _ g1 g0 q.v q.l t a 0 W h.passL (by simpa [memT] using ht) (by omega)) ?_
  rintro v w' ⟨rfl,u,hu,hs⟩
  exact ⟨rfl,words,owner,⟨q.v,q.l.set t u⟩,memT_st ht hu,memT_close (q:=⟨q.v,q.l.set t u⟩) (h.backL hs (by intro A hA b hb;simp only [List.mem_cons,List.not_mem_nil,or_false] at hA;rcases hA with rfl|rfl<;>first|exact (hb:False).elim|exact Flat.noRd hb|exact (matX_rd hb).elim))⟩⟩
 swap K W words owner q t wd what hS hwd:=⟨205,⟨g0,0,none⟩,meth_emb (xt:=123) (by kernel_rfl) (by kernel_rfl) (methT_ld (memT_at (hS.ok _ (List.mem_cons_of_mem _ (List.mem_cons_of_mem _ (List.mem_cons_of_mem _ (List.mem_cons_self ..)))))).1),bd_205,by
  have h:Sh K W W ([.blk g0 182 [words.v,owner.v], .own 3 words, .own 3 owner]++ [(memT g1 g0).X q]):=hS
  refine Rets.mono (plSwap_c _ g0 words owner _ wd what W h.passL hwd) ?_
  rintro v w' ⟨rfl,hs⟩
  exact ⟨rfl,⟨words.v,words.l.set wd.toNat what⟩,owner,q,⟨rfl,rfl,rfl⟩,h.backL hs (by intro A hA b hb;simp only [List.mem_cons,List.not_mem_nil,or_false] at hA;rcases hA with rfl|rfl|rfl<;>first|exact (hb:False).elim|exact Flat.noRd hb)⟩⟩
 flush K W words owner q t k hS ht hl hk hw:=⟨209,⟨g1,0,none⟩,by kernel_rfl,bd_209,by
  have h:=memT_open hS
  have e:nth ((memT g1 g0).qs q) t=(nth q.l t).l:=memT_nth ht
  rw [e] at hl hk hw
  refine Rets.mono (tbFlush_c K g1 g0 q.v q.l words owner t k W h (by simpa [memT] using ht) (by omega) hk (hw k hk)) ?_
  rintro v w' ⟨rfl,u,hu,hs⟩
  refine ⟨rfl,_,_,⟨q.v,q.l.set t u⟩,⟨u.l, ?_,fun pc regs prints fell=> ?_⟩,memT_close (words:=⟨words.v,if (nth (nth q.l t).l k).lock=true then words.l else words.l.set (nth (nth q.l t).l k).wh.toNat (nth (nth q.l t).l k).what⟩) (owner:=⟨owner.v,if (nth (nth q.l t).l k).lock=true then owner.l.set (nth (nth q.l t).l k).wh.toNat (-1) else owner.l⟩) (q:=⟨q.v,q.l.set t u⟩) hs⟩
  ·show (q.l.set t u).map (·.l)=(q.l.map (·.l)).set t u.l
   rw [List.map_set]
  ·rw [e,hu]
   rfl⟩
 xrd q b h:=memT_rd h
theorem tnew_c (code:Ls (Ls Ins))(words0:Ls Int)(Lk:Nat)(nregs:Int)(W:World)(hcode:code.At W)(hwords:words0.At W)(hcl:code.l.length≤100)(hwn:words0.l.length≤64)(hlk:Lk≤4):
    Rets Tryz.prog 82 [.agg #[code.v,words0.v, .int .i64 ((Lk:Nat):Int), .int .i64 nregs]] W (fun v w' =>∃(gt g:Nat) (words' owner' :Ls Int) (q:Ls (Ls Wt)),v= .pointer (some ⟨gt,0,none⟩)∧words'.l=words0.l∧owner'.l=List.replicate Lk (-1)∧(memT gt g).qs q=List.replicate code.l.length []∧Sh0 W w' (memA 182 3 (memT gt g) words' owner' q)):=by
 refine gen Tryz.func82 Tryz.ntmps82 (Sh0.ext2 hcode hwords:Sh (fun _=>False) W W [.at_ code, .at_ words0]) rfl fun a10 h10=>gG h10<|sK fun _ k11=>gbx rfl rfl fun b12=>gRn (oM 1 rfl<|.nl)<|nK k11<|gK fun _ k13=>gF [0,1] rfl<|fun a14 w14 h14=>x_any ((fun Φ Ψ S a w=>(S 1=false∧S 5=false∧S 7=false∧FrI 11 S Φ Ψ a∧Sh (fun _=>False) W w [.blk b12 25 [code.v,words0.v, .int .i64 ((Lk:Nat):Int), .int .i64 nregs], .at_ code, .at_ words0])∨(S 1=true∧S 5=false∧S 7=false∧∃(g7001:Nat) (mw7001:Ls Int) (mo7001:Ls Int),(mw7001.l=words0.l)∧(mo7001.l=List.replicate Lk (-1))∧FrI 11 S Φ (Ψ++ [(1,4, .pointer (some ⟨g7001,0,none⟩))]) a∧Sh (fun _=>False) W w [.blk g7001 182 [mw7001.v,mo7001.v], .own 3 mw7001, .own 3 mo7001, .blk b12 25 [code.v,words0.v, .int .i64 ((Lk:Nat):Int), .int .i64 nregs], .at_ code, .at_ words0])∨(S 1=false∧S 5=true∧S 7=false∧∃(v7005:Value),FrI 11 S Φ (Ψ++ [(5,8,v7005)]) a∧Sh (fun _=>False) W w [.big (matX (.own 266) 267 v7005 (List.replicate code.l.length (⟨.slice none 0 0, []⟩:Ls Wt))), .blk b12 25 [code.v,words0.v, .int .i64 ((Lk:Nat):Int), .int .i64 nregs], .at_ code, .at_ words0])∨(S 1=true∧S 5=true∧S 7=false∧∃(g7001:Nat) (mw7001:Ls Int) (mo7001:Ls Int) (v7005:Value),(mw7001.l=words0.l)∧(mo7001.l=List.replicate Lk (-1))∧FrI 11 S Φ (Ψ++ [(1,4, .pointer (some ⟨g7001,0,none⟩)),(5,8,v7005),(6,9, .agg #[.pointer (some ⟨g7001,0,none⟩),v7005])]) a∧Sh (fun _=>False) W w [.big (matX (.own 266) 267 v7005 (List.replicate code.l.length (⟨.slice none 0 0, []⟩:Ls Wt))), .blk g7001 182 [mw7001.v,mo7001.v], .own 3 mw7001, .own 3 mo7001, .blk b12 25 [code.v,words0.v, .int .i64 ((Lk:Nat):Int), .int .i64 nregs], .at_ code, .at_ words0])∨(S 1=true∧S 5=true∧S 7=true∧∃(g7001:Nat) (mw7001:Ls Int) (mo7001:Ls Int) (v7005:Value) (b7007:Nat),(mw7001.l=words0.l)∧(mo7001.l=List.replicate Lk (-1))∧FrI 11 S Φ (Ψ++ [(1,4, .pointer (some ⟨g7001,0,none⟩)),(5,8,v7005),(6,9, .agg #[.pointer (some ⟨g7001,0,none⟩),v7005]),(7,10, .pointer (some ⟨b7007,0,none⟩)),(8,2, .pointer (some ⟨b7007,0,none⟩))]) a∧Sh (fun _=>False) W w [.blk b7007 185 [.pointer (some ⟨g7001,0,none⟩),v7005], .big (matX (.own 266) 267 v7005 (List.replicate code.l.length (⟨.slice none 0 0, []⟩:Ls Wt))), .blk g7001 182 [mw7001.v,mo7001.v], .own 3 mw7001, .own 3 mo7001, .blk b12 25 [code.v,words0.v, .int .i64 ((Lk:Nat):Int), .int .i64 nregs], .at_ code, .at_ words0])) [(0, .agg #[code.v,words0.v, .int .i64 ((Lk:Nat):Int), .int .i64 nregs]),(1, .pointer (some ⟨b12,0,none⟩))] [(0,3, .agg #[code.v,words0.v, .int .i64 ((Lk:Nat):Int), .int .i64 nregs]),(2,5, .pointer (some ⟨b12,0,none⟩)),(3,6,code.v),(4,7, .int .i64 ((code.l.length:Nat):Int))]) (by kernel_rfl) (by kernel_rfl) (Or.inl (⟨rfl,rfl,rfl,FrI.start h14.fr,h14.sh.drew⟩)) ?_ ?_;clear h10
 ·intro S i o ho hSi hcl hdep a w hI
  clear h14
  rcases i with _|_|_|_|_|_|_|_|_|i
  ·obtain rfl:_=o:=Option.some.inj ho
   rcases hI with ⟨ν1,ν5,ν7,φ,ς⟩|⟨ν1,_⟩|⟨ν1,ν5,ν7,v7005,φ,ς⟩|⟨ν1,_⟩|⟨ν1,_⟩
   ·exact sq φ φ.fr0 ς (r_ldbw (i:=0) (vs:= [code.v,words0.v, .int .i64 ((Lk:Nat):Int), .int .i64 nregs]) ti_25 rfl rfl rfl rfl rfl) 0 rfl rfl rfl rfl rfl rfl fun a hg=>Or.inl (⟨un rfl ν1,un rfl ν5,un rfl ν7,hg,ς⟩)
   ·exact no_way (cA hcl 1 0 rfl ν1) hSi
   ·exact sq φ φ.fr0 ς (r_ldbw (i:=1) (vs:= [code.v,words0.v, .int .i64 ((Lk:Nat):Int), .int .i64 nregs]) ti_25 rfl rfl rfl rfl rfl) 0 rfl rfl rfl rfl rfl rfl fun a hg=>Or.inr (Or.inr (Or.inl (⟨un rfl ν1,un rfl ν5,un rfl ν7,v7005,hg,ς⟩)))
   ·exact no_way (cA hcl 1 0 rfl ν1) hSi
   ·exact no_way (cA hcl 1 0 rfl ν1) hSi
  ·obtain rfl:_=o:=Option.some.inj ho
   have hd0:S 0=true:=depAt hdep 0 rfl rfl
   rcases hI with ⟨ν1,ν5,ν7,φ,ς⟩|⟨ν1,_⟩|⟨ν1,ν5,ν7,v7005,φ,ς⟩|⟨ν1,_⟩|⟨ν1,_⟩
   ·have hs:=St.mk (Fr.cons φ.fr0 (φ.at_ 0 0 3 _ rfl hd0)) ς
    refine step_ex (x_call hs bd_81 rfl rfl rfl rfl rfl (pnew_c words0 Lk code.v nregs _ (hs.sh.at 2 rfl) (by omega) (by omega))) (wanted_none rfl _) ?_
    rintro a25 w25 ⟨_,⟨g25,mw25,mo25,rfl,hmw25,hmo25,hs25⟩,hf25⟩ ⟨v0,ht25⟩
    have h25:=(⟨hf25,hs.sh.call hs25 (by intro A hA b hb;simp only [memA,List.mem_cons,List.not_mem_nil,or_false] at hA;first|(subst hA;exact Flat.noRd hb)|(rcases hA with rfl|rfl|rfl|rfl<;>first|exact (hb:False).elim|exact Flat.noRd hb|exact (memT_rd hb).elim))⟩:St 11 (fun _=>False) W a25 w25 _ _)
    clear hf25 hs25
    exact Or.inr (Or.inl (⟨upd_self _ _,un rfl ν5,un rfl ν7,g25,mw25,mo25,hmw25,hmo25,φ.stepW hcl hSi [0,1,2,3] (by kernel_rfl) (by kernel_rfl) ht25 h25.fr.defers (h25.fr.at_ 4 _ rfl) 4 rfl rfl rfl rfl,(h25.sh.sel [0,1,2,3,4,5] rfl)⟩))
   ·exact no_way ν1 hSi
   ·have hs:=St.mk (Fr.cons φ.fr0 (φ.at_ 0 0 3 _ rfl hd0)) ς
    refine step_ex (x_call hs bd_81 rfl rfl rfl rfl rfl (pnew_c words0 Lk code.v nregs _ (hs.sh.at 3 rfl) (by omega) (by omega))) (wanted_none rfl _) ?_
    rintro a26 w26 ⟨_,⟨g26,mw26,mo26,rfl,hmw26,hmo26,hs26⟩,hf26⟩ ⟨v0,ht26⟩
    have h26:=(⟨hf26,hs.sh.call hs26 (by intro A hA b hb;simp only [memA,List.mem_cons,List.not_mem_nil,or_false] at hA;first|(subst hA;exact Flat.noRd hb)|(rcases hA with rfl|rfl|rfl|rfl<;>first|exact (hb:False).elim|exact Flat.noRd hb|exact (memT_rd hb).elim))⟩:St 11 (fun _=>False) W a26 w26 _ _)
    clear hf26 hs26
    exact Or.inr (Or.inr (Or.inr (Or.inl (⟨upd_self _ _,un rfl ν5,un rfl ν7,g26,mw26,mo26,v7005,hmw26,hmo26,φ.stepW hcl hSi [0,1,2,3,5] (by kernel_rfl) (by kernel_rfl) ht26 h26.fr.defers (h26.fr.at_ 4 _ rfl) 4 rfl rfl rfl rfl,(h26.sh.sel [3,0,1,2,4,5,6] rfl)⟩))))
   ·exact no_way ν1 hSi
   ·exact no_way ν1 hSi
  ·obtain rfl:_=o:=Option.some.inj ho
   rcases hI with ⟨ν1,ν5,ν7,φ,ς⟩|⟨ν1,ν5,ν7,g7001,mw7001,mo7001,hmw7001,hmo7001,φ,ς⟩|⟨_,ν5,_⟩|⟨_,ν5,_⟩|⟨_,ν5,_⟩
   ·exact sq φ φ.fr0 ς (r_fieldB (r:=0) fl_25_0 rfl rfl rfl) 1 rfl rfl rfl rfl rfl rfl fun a hg=>Or.inl (⟨un rfl ν1,un rfl ν5,un rfl ν7,hg,ς⟩)
   ·exact sq φ φ.fr0 ς (r_fieldB (r:=0) fl_25_0 rfl rfl rfl) 1 rfl rfl rfl rfl rfl rfl fun a hg=>Or.inr (Or.inl (⟨un rfl ν1,un rfl ν5,un rfl ν7,g7001,mw7001,mo7001,hmw7001,hmo7001,hg,ς⟩))
   ·exact no_way (cA hcl 5 2 rfl ν5) hSi
   ·exact no_way (cA hcl 5 2 rfl ν5) hSi
   ·exact no_way (cA hcl 5 2 rfl ν5) hSi
  ·obtain rfl:_=o:=Option.some.inj ho
   have hd2:S 2=true:=depAt hdep 0 rfl rfl
   rcases hI with ⟨ν1,ν5,ν7,φ,ς⟩|⟨ν1,ν5,ν7,g7001,mw7001,mo7001,hmw7001,hmo7001,φ,ς⟩|⟨_,ν5,_⟩|⟨_,ν5,_⟩|⟨_,ν5,_⟩
   ·exact sq φ (Fr.cons φ.fr0 (φ.at_ 1 2 5 _ rfl hd2)) ς (r_ldb (i:=0) ti_22 rfl rfl rfl rfl) 2 rfl rfl rfl rfl rfl rfl fun a hg=>Or.inl (⟨un rfl ν1,un rfl ν5,un rfl ν7,hg,ς⟩)
   ·exact sq φ (Fr.cons φ.fr0 (φ.at_ 1 2 5 _ rfl hd2)) ς (r_ldb (i:=3) ti_22 rfl rfl rfl rfl) 2 rfl rfl rfl rfl rfl rfl fun a hg=>Or.inr (Or.inl (⟨un rfl ν1,un rfl ν5,un rfl ν7,g7001,mw7001,mo7001,hmw7001,hmo7001,hg,ς⟩))
   ·exact no_way (cA hcl 5 3 rfl ν5) hSi
   ·exact no_way (cA hcl 5 3 rfl ν5) hSi
   ·exact no_way (cA hcl 5 3 rfl ν5) hSi
  ·obtain rfl:_=o:=Option.some.inj ho
   have hd3:S 3=true:=depAt hdep 0 rfl rfl
   rcases hI with ⟨ν1,ν5,ν7,φ,ς⟩|⟨ν1,ν5,ν7,g7001,mw7001,mo7001,hmw7001,hmo7001,φ,ς⟩|⟨_,ν5,_⟩|⟨_,ν5,_⟩|⟨_,ν5,_⟩
   ·have hs:=St.mk (Fr.cons φ.fr0 (φ.at_ 2 3 6 _ rfl hd3)) ς
    have hl31:code.l.length≤140737488355328:=(hs.sh.at 1 rfl).len
    exact sq φ (Fr.cons φ.fr0 (φ.at_ 2 3 6 _ rfl hd3)) ς (r_len (s:=code) (n:=code.l.length) sl_22 rfl rfl (fun w h=>(h.at 1 rfl)) rfl) 3 rfl rfl rfl rfl rfl rfl fun a hg=>Or.inl (⟨un rfl ν1,un rfl ν5,un rfl ν7,hg,ς⟩)
   ·have hs:=St.mk (Fr.cons φ.fr0 (φ.at_ 2 3 6 _ rfl hd3)) ς
    have hl33:code.l.length≤140737488355328:=(hs.sh.at 4 rfl).len
    exact sq φ (Fr.cons φ.fr0 (φ.at_ 2 3 6 _ rfl hd3)) ς (r_len (s:=code) (n:=code.l.length) sl_22 rfl rfl (fun w h=>(h.at 4 rfl)) rfl) 3 rfl rfl rfl rfl rfl rfl fun a hg=>Or.inr (Or.inl (⟨un rfl ν1,un rfl ν5,un rfl ν7,g7001,mw7001,mo7001,hmw7001,hmo7001,hg,ς⟩))
   ·exact no_way (cA hcl 5 4 rfl ν5) hSi
   ·exact no_way (cA hcl 5 4 rfl ν5) hSi
   ·exact no_way (cA hcl 5 4 rfl ν5) hSi
  ·obtain rfl:_=o:=Option.some.inj ho
   have hd4:S 4=true:=depAt hdep 0 rfl rfl
   rcases hI with ⟨ν1,ν5,ν7,φ,ς⟩|⟨ν1,ν5,ν7,g7001,mw7001,mo7001,hmw7001,hmo7001,φ,ς⟩|⟨_,ν5,_⟩|⟨_,ν5,_⟩|⟨_,ν5,_⟩
   ·have hs:=St.mk (Fr.cons φ.fr0 (φ.at_ 3 4 7 _ rfl hd4)) ς
    refine step_ex (x_makeMat (n:=code.l.length) hs sl_183 ti_267 rfl rfl rfl (show 24*code.l.length≤140737488355328∧code.l.length≤140737488355328 from (by omega)) rfl rfl 266 Wt) (wanted_none rfl _) ?_
    rintro a35 w35 ⟨v35,h35⟩ ⟨v0,ht35⟩
    exact Or.inr (Or.inr (Or.inl (⟨un rfl ν1,upd_self _ _,un rfl ν7,v35,φ.stepW hcl hSi [0,1,2,3] (by kernel_rfl) (by kernel_rfl) ht35 h35.fr.defers (h35.fr.at_ 8 _ rfl) 4 rfl rfl rfl rfl,(h35.sh.sel [0,1,2,3] rfl)⟩)))
   ·have hs:=St.mk (Fr.cons φ.fr0 (φ.at_ 3 4 7 _ rfl hd4)) ς
    refine step_ex (x_makeMat (n:=code.l.length) hs sl_183 ti_267 rfl rfl rfl (show 24*code.l.length≤140737488355328∧code.l.length≤140737488355328 from (by omega)) rfl rfl 266 Wt) (wanted_none rfl _) ?_
    rintro a36 w36 ⟨v36,h36⟩ ⟨v0,ht36⟩
    exact Or.inr (Or.inr (Or.inr (Or.inl (⟨un rfl ν1,upd_self _ _,un rfl ν7,g7001,mw7001,mo7001,v36,hmw7001,hmo7001,φ.stepW hcl hSi [0,1,2,3,4] (by kernel_rfl) (by kernel_rfl) ht36 h36.fr.defers (h36.fr.at_ 8 _ rfl) 5 rfl rfl rfl rfl,(h36.sh.sel [0,1,2,3,4,5,6] rfl)⟩))))
   ·exact no_way ν5 hSi
   ·exact no_way ν5 hSi
   ·exact no_way ν5 hSi
  ·obtain rfl:_=o:=Option.some.inj ho
   have hd1:S 1=true:=depAt hdep 0 rfl rfl
   have hd5:S 5=true:=depAt hdep 1 rfl rfl
   rcases hI with ⟨ν1,_⟩|⟨_,ν5,_⟩|⟨ν1,_⟩|⟨ν1,ν5,ν7,g7001,mw7001,mo7001,v7005,hmw7001,hmo7001,φ,ς⟩|⟨_,_,ν7,_⟩
   ·exact no_way hd1 ν1
   ·exact no_way hd5 ν5
   ·exact no_way hd1 ν1
   ·exact sq φ (Fr.cons (Fr.cons φ.fr0 (φ.at_ 4 1 4 _ rfl hd1)) (φ.at_ 5 5 8 _ rfl hd5)) ς (r_buildS (cs:= [.pointer (some ⟨g7001,0,none⟩),v7005]) rfl rfl (fun w h=>by obtain ⟨A37,n37,c37,(e37:v7005=_)⟩:=((h.matAt 0 rfl)).form;rw [e37];kernel_rfl)) 6 rfl rfl rfl rfl rfl rfl fun a hg=>Or.inr (Or.inr (Or.inr (Or.inl (⟨un rfl ν1,un rfl ν5,un rfl ν7,g7001,mw7001,mo7001,v7005,hmw7001,hmo7001,hg,ς⟩))))
   ·exact no_way (cA hcl 7 6 rfl ν7) hSi
  ·obtain rfl:_=o:=Option.some.inj ho
   have hd6:S 6=true:=depAt hdep 0 rfl rfl
   rcases hI with ⟨ν1,_⟩|⟨_,ν5,_⟩|⟨ν1,_⟩|⟨ν1,ν5,ν7,g7001,mw7001,mo7001,v7005,hmw7001,hmo7001,φ,ς⟩|⟨_,_,ν7,_⟩
   ·exact no_way (cA hcl 6 1 rfl hd6) ν1
   ·exact no_way (cA hcl 6 5 rfl hd6) ν5
   ·exact no_way (cA hcl 6 1 rfl hd6) ν1
   ·have hs:=St.mk (Fr.cons φ.fr0 (φ.at_ 6 6 9 _ rfl hd6)) ς
    refine step_ex (x_box (cs:= [.pointer (some ⟨g7001,0,none⟩),v7005]) hs rfl rfl rfl rfl rfl) (wanted_none rfl _) ?_
    rintro a39 w39 ⟨b39,h39⟩ ⟨v0,ht39⟩
    exact Or.inr (Or.inr (Or.inr (Or.inr (⟨un rfl ν1,un rfl ν5,upd_self _ _,g7001,mw7001,mo7001,v7005,b39,hmw7001,hmo7001,φ.stepW hcl hSi [0,1,2,3,4,5,6] (by kernel_rfl) (by kernel_rfl) ht39 h39.fr.defers (h39.fr.at_ 10 _ rfl) 7 rfl rfl rfl rfl,(h39.sh.sel [0,1,2,3,4,5,6,7] rfl)⟩))))
   ·exact no_way ν7 hSi
  ·obtain rfl:_=o:=Option.some.inj ho
   have hd7:S 7=true:=depAt hdep 0 rfl rfl
   have hd1:S 1=true:=depAt hdep 1 rfl rfl
   have hd5:S 5=true:=depAt hdep 7 rfl rfl
   rcases hI with ⟨ν1,_⟩|⟨_,ν5,_⟩|⟨ν1,_⟩|⟨_,_,ν7,_⟩|⟨ν1,ν5,ν7,g7001,mw7001,mo7001,v7005,b7007,hmw7001,hmo7001,φ,ς⟩
   ·exact no_way hd1 ν1
   ·exact no_way hd5 ν5
   ·exact no_way hd1 ν1
   ·exact no_way hd7 ν7
   ·exact sq φ (Fr.cons φ.fr0 (φ.at_ 7 7 10 _ rfl hd7)) ς (r_assign rfl rfl) 8 rfl rfl rfl rfl rfl rfl fun a hg=>Or.inr (Or.inr (Or.inr (Or.inr (⟨un rfl ν1,un rfl ν5,un rfl ν7,g7001,mw7001,mo7001,v7005,b7007,hmw7001,hmo7001,hg,ς⟩))))
  · simp at ho
 intro S hall a w hI
 clear h14
 rcases hI with ⟨ν1,ν5,ν7,φ,ς⟩|⟨ν1,ν5,ν7,g7001,mw7001,mo7001,hmw7001,hmo7001,φ,ς⟩|⟨ν1,ν5,ν7,v7005,φ,ς⟩|⟨ν1,ν5,ν7,g7001,mw7001,mo7001,v7005,hmw7001,hmo7001,φ,ς⟩|⟨ν1,ν5,ν7,g7001,mw7001,mo7001,v7005,b7007,hmw7001,hmo7001,φ,ς⟩
 · exact no_way (hall 1 (by decide)) ν1
 · exact no_way (hall 5 (by decide)) ν5
 · exact no_way (hall 1 (by decide)) ν1
 · exact no_way (hall 7 (by decide)) ν7
 have h41:St 11 (fun _=>False) W a w _ _:=⟨(Fr.cons φ.fr0 (φ.at_ 8 8 2 _ rfl (hall 8 (by decide)))),ς⟩
 clear hall φ ς ν1 ν5 ν7
 refine gG h41<|hK k13<|gR<|fun a42 w42 h42=>x_ret1 (fn:=Tryz.f82) (t:=2) rfl h42 rfl ?_;clear h41
 exact ⟨b7007,g7001,mw7001,mo7001,⟨v7005,List.replicate code.l.length (⟨.slice none 0 0, []⟩:Ls Wt)⟩,rfl,hmw7001,hmo7001,by simp [memT],memT_close (q:=⟨v7005,List.replicate code.l.length (⟨.slice none 0 0, []⟩:Ls Wt)⟩) (h42.sh.sel [0,1,2,3,4] rfl)⟩
def vs (l:List Int):List (Int×Value):=l.map fun k=>(k, .bool true)
def Asn.setO (g:Nat)(l:List Int):Asn where
 fp b:=g=b
 rd _:=False
 ok w:=MapI w g (vs l)
 keep w w' h hb:=h.of_block (hb g (.inl rfl))
 lt w h b hb:=by
  rcases hb with rfl|hb
  ·exact h.lt
  ·exact hb.elim
structure MapTS (P:Program)(T kT eT:TypeId):Prop where
 map:P.underlying T=some (.map kT eT)
 int:P.underlying kT=some (.int .i64)
 zero:∀w,(zeroValue eT).run P w= .ok (.bool false) w
section
variable {P:Program}{o:Oper}{N:Nat}{K:Nat→Prop}{W w:World}{a:Act}{F:List (Nat×Value)}{L:List Asn}{T kT eT:TypeId}{l:List Int}{k:Int}{g:Nat}
end
theorem rvs_app {α:Type}(M:List (Ls α))(s:Ls α):rvs (M++ [s])=rvs M++ [⟨s.v⟩]:=by simp [rvs]
section
variable {P:Program}{o:Oper}{N:Nat}{K:Nat→Prop}{W w:World}{a:Act}{F:List (Nat×Value)}{L:List Asn}{α:Type}[Enc α]{E IE:TypeId}{v:Value}{M:List (Ls α)}
theorem x_appRow {d:Nat}{T e:TypeId}{gg:Bool}{by_:Nat}{z:List Value}{x y:Operand}{s:Ls α}{mv:Value}(h:St N K W a w F (.big (matX (.own IE) E v M):: .own IE s:: .own e (⟨mv, [⟨s.v⟩]⟩:Ls RV)::L))(hT:slI P T=some e)(he:tyI P e=some (gg,1,by_,z))(ho:o.op= .call ⟨.builtin .append, #[x,y], #[T,T]⟩)
  (hx:ev F x=some v) (hy:ev F y=some mv) (hE:E=e) (hz:z.length=1) (hn:(M.length+1)*by_≤140737488355328∧M.length+1≤140737488355328) (hd:o.dst=some d) (hdN:Nat.blt d N=true):
  Ex P o a w (fun a' w' =>∃u:Value,St N K W a' w' ((d,u)::F) (.big (matX (.own IE) E u (M++ [s]))::L)):=by
 have h1:Sh K W w (.own E (⟨v,rvs M⟩:Ls RV):: .own e (⟨mv, [⟨s.v⟩]⟩:Ls RV)::(M.map (Asn.own IE)++(.own IE s::L))):=h.sh.open_.perm (by
  unfold matX
  refine List.Perm.cons _ ?_
  refine (List.Perm.append_left _ (List.Perm.swap _ _ _)).trans ?_
  exact List.perm_middle)
 refine (x_app1 (r:=0) (rm:=1) (s:=(⟨v,rvs M⟩:Ls RV)) (m:=(⟨mv, [⟨s.v⟩]⟩:Ls RV)) ⟨h.fr,h1⟩ hT he ho hx hy rfl hE rfl rfl (fun w h=>h.own 1 rfl) (fun b hb=>own_on (h1.ok _ (List.mem_of_getElem? (i:=1) rfl)) hb) (fun q hq b hb=>hb.elim) rfl rfl hz (fun w h q hq j hj=>by
   obtain rfl:q=0:=by simpa using hq
   exact (own_at (h.ok (.own IE s) (by simp))).one)
  (by rw [rvs_len];exact hn) hd hdN).mono fun a' w' ⟨u,h2⟩=>⟨u,h2.fr, ?_⟩
 have h3:Sh K W w' (.own E (⟨u,rvs M++ [⟨s.v⟩]⟩:Ls RV):: .own e (⟨mv, [⟨s.v⟩]⟩:Ls RV)::(M.map (Asn.own IE)++(.own IE s::L))):=h2.sh
 refine Sh.close ((h3.perm (List.Perm.swap _ _ _)).tail.perm ?_)
 unfold matX
 rw [rvs_app,List.map_append]
 refine List.Perm.cons _ ?_
 simp
theorem Sh.nilMat (h:Sh K W w L):Sh K W w (.big (matX (.own IE) E (.slice none 0 0) ([]:List (Ls α)))::L):=
 Sh.matMk (n:=0) (α:=α) (IE:=IE) (h.nil (α:=RV) E)
end
theorem put_take {l:List Int}{k:Nat}(h:k<l.length){b:List UInt8}{c d:List UInt8}(hb:b=c++by8 ((l.take k).flatMap fun n=>num36 n++ [32]))(hd:d=b++by8 (num36 (nth l k))):d++ [32]=c++by8 ((l.take (k+1)).flatMap fun n=>num36 n++ [32]):=by
 rw [hd,hb,take_succ_nth _ _ h,List.flatMap_append,by8_app]
 simp only [List.flatMap_cons,List.flatMap_nil,List.append_nil,by8_app,List.append_assoc]
 rfl
theorem put_all {l:List Int}{k:Nat}(h:k=l.length){b c:List UInt8}(hb:b=c++by8 ((l.take k).flatMap fun n=>num36 n++ [32])):b++ [59]=c++by8 (putB l):=by
 rw [hb,h,List.take_length,putB,by8_app,List.append_assoc];rfl
theorem tel_take {l:List Wt}{k:Nat}{b c d:List UInt8}{row:List Int}(h:k<l.length)(hb:b=c++by8 (((l.take k).map wtN).flatMap putB))(hd:d=b++by8 (putB row))(e:row=wtN (nth l k)):d=c++by8 (((l.take (k+1)).map wtN).flatMap putB):=by
 rw [hd,hb,e,take_succ_nth _ _ h,List.map_append,List.flatMap_append,by8_app]
 simp only [List.map_cons,List.map_nil,List.flatMap_cons,List.flatMap_nil,List.append_nil,List.append_assoc]
theorem tel_row {q:List (Ls Wt)}{t k:Nat}{b c d f:List UInt8}(h:t<q.length)(hk:k=(nth q t).l.length)(hb:b=c++by8 ((tqB ((q.take t).map (·.l))).flatMap putB))(hd:d=b++by8 ((((nth q t).l.take k).map wtN).flatMap putB))(hf:f=d++by8 (putB [])):f=c++by8 ((tqB ((q.take (t+1)).map (·.l))).flatMap putB):=by
 rw [hf,hd,hb,hk,List.take_length,take_succ_nth _ _ h,List.map_append]
 unfold tqB
 simp only [List.flatMap_append,by8_app,List.map_cons,List.map_nil,List.flatMap_cons,List.flatMap_nil,List.append_nil,List.append_assoc]
theorem R64L.row {x:Wt}{k:Int}(h:R64 x.wh∧R64 x.what)(hk:R64 k):R64L [k,x.wh,x.what]:=fun n hn=>by
 simp only [List.mem_cons,List.not_mem_nil,or_false] at hn
 rcases hn with rfl|rfl|rfl
 ·exact hk
 ·exact h.1
 ·exact h.2
theorem R64L.nil :R64L []:=fun n hn=>by cases hn
theorem by8_len (l:List Nat):(by8 l).length=l.length:=List.length_map _
theorem put1_c (K:Nat→Prop)(gb:Nat)(bs:Ls UInt8)(l:Ls Int)(W:World)(hS:Sh K W W [.blk gb 204 [bs.v], .own 5 bs, .at_ l])(hR:R64L l.l)(hn:bs.l.length+66*l.l.length≤9000000000000):
    Rets Tryz.prog 141 [l.v, .pointer (some ⟨gb,0,none⟩)] W (fun v w' =>v= .tuple #[]∧∃bs' :Ls UInt8,bs'.l=bs.l++by8 (putB l.l)∧Sh K W w' [.blk gb 204 [bs'.v], .own 5 bs', .at_ l]):=by
 refine gen Tryz.func141 Tryz.ntmps141 hS rfl fun a10 h10=>gG h10<|gK fun _ k11=>sK fun _ k12=>gNl (aA 2 rfl) fun hl13=>gRn (oM 1 rfl<|oln sl_23 (aA 2 rfl) rfl<|oM 1 rfl<|.nl)<|nK k12<|gB<|fun a15 w15 h15=>x_loop (fun m a w=>∃(k:Nat) (bl:List UInt8) (vb:Value),(k≤l.l.length)∧(bl=bs.l++by8 ((l.l.take k).flatMap fun n=>num36 n++ [32]))∧(bl.length≤bs.l.length+66*k)∧St 20 K W a w [(1, .pointer (some ⟨gb,0,none⟩)),(5,l.v),(6, .int .i64 ((l.l.length:Nat):Int)),(7, .int .i64 ((k:Nat):Int))] [.blk gb 204 [vb], .own 5 (⟨vb,bl⟩:Ls UInt8), .at_ l]∧m=l.l.length-k) ⟨_,0,bs.l,bs.v,(by omega),(by simp [by8]),(by omega),h15.nf ⟨rfl,rfl,rfl,rfl,trivial⟩,rfl⟩ ?_;clear h10
 clear h15
 rintro m14 a14 w14 ⟨k,bl,vb,hk,hbl,hbn,h14,hm14⟩
 refine gG h14<|sG (oltN _ _ rfl<|.nl)<|gK fun _ k17=>gcd rfl (fun hb18 hp18=> ?_) fun hb18 hp18=> ?_;clear h14
 ·skip
  refine gS<|hK k17<|gK fun _ k19=>gB<|sG (oxN sl_23 ti_3 (aA 2 rfl) _ om9 rfl<|olI ti_3 (aA 2 rfl) om9 rfl<|oM 1 rfl<|.nl)<|?_
  have hrk:=hR _ (nth_mem l.l k (by omega))
  have hnk:=num36_len _ hrk
  refine gL<|gRn (olB 0 ti_204 rfl rfl<|oM 1 rfl<|.nl)<|gO [1,0,2] rfl<|gM 1 rfl (fun _ _ h_=>xCl h_ bd_142 rfl (sappI_c _ (⟨vb,bl⟩:Ls UInt8) (nth l.l k) _ (pKl 1 h_ rfl) hrk (by show bl.length≤_;omega))) rfl<|?_
  rintro _ _ w23 ⟨bs23,rfl,hbl23,hs23⟩
  refine gBk hs23 rfl<|gU<|?_;clear hs23
  have hbx:=hbl23;try dsimp only at hbx
  refine gE1 (fun _ _ h_=>x_lit (n:=1) (cs:= [.int .u8 32]) ([32]:List UInt8) h_ sl_204 ti_5 rfl rfl rfl (by decide) rfl (by kernel_rfl) rfl (fun q hq w h=>Flat.inner _ _) (fun q hq b hb=>(Flat.on _ _ hb).elim) rfl rfl) rfl fun v24=>gE1 (fun _ _ h_=>x_app (r:=1) (rm:=0) (s:=bs23) (m:=(⟨v24, [32]⟩:Ls UInt8)) h_ sl_204 ti_5 rfl rfl rfl rfl rfl rfl rfl (fun w h=>(h.own 0 rfl)) (fun b hb=>own_on (h_.sh.ok _ (List.mem_of_getElem? (i:=0) rfl)) hb) (fun q hq b hb=>⟨q,hq,hb⟩) rfl rfl rfl inferInstance (show (bs23.l.length+([32]).length)*1≤140737488355328∧bs23.l.length+([32]).length≤140737488355328 from (by first|omega|(simp only [List.length_cons,List.length_nil];omega)|(rw [hbx,List.length_append,by8_len];simp only [List.length_cons,List.length_nil];omega))) rfl rfl) rfl fun v25=>gsr 2 ti_204 rfl (aO 1 rfl) rfl<|nK k19<|gL<|gRn (oadN _ 1 om9 rfl<|oM 1 rfl<|.nl)<|nN<|fun a27 w27 h27=>x_again ⟨_, ?_,(k+1),bs23.l++([32]),v25, ?_, ?_, ?_,h27.nrm ⟨rfl,rfl,rfl,rfl,trivial⟩ [2,1,3] rfl,rfl⟩
  · rw [hm14];first|omega|(simp only [lens9];omega)
  · omega
  · exact put_take (by omega) hbl (by assumption)
  · (rw [List.length_append,hbx,List.length_append,by8_len];simp only [List.length_cons,List.length_nil];omega)
 refine gX<|hK k11<|gL<|gRn (olB 0 ti_204 rfl rfl<|.nl)<|gE1 (fun _ _ h_=>x_lit (n:=1) (cs:= [.int .u8 59]) ([59]:List UInt8) h_ sl_204 ti_5 rfl rfl rfl (by decide) rfl (by kernel_rfl) rfl (fun q hq w h=>Flat.inner _ _) (fun q hq b hb=>(Flat.on _ _ hb).elim) rfl rfl) rfl fun v28=>gE1 (fun _ _ h_=>x_app (r:=2) (rm:=0) (s:=(⟨vb,bl⟩:Ls UInt8)) (m:=(⟨v28, [59]⟩:Ls UInt8)) h_ sl_204 ti_5 rfl rfl rfl rfl rfl rfl rfl (fun w h=>(h.own 0 rfl)) (fun b hb=>own_on (h_.sh.ok _ (List.mem_of_getElem? (i:=0) rfl)) hb) (fun q hq b hb=>⟨q,hq,hb⟩) rfl rfl rfl inferInstance (show (bl.length+([59]).length)*1≤140737488355328∧bl.length+([59]).length≤140737488355328 from (by first|omega|(simp only [List.length_cons,List.length_nil];omega)|(rw [hbx,List.length_append,by8_len];simp only [List.length_cons,List.length_nil];omega))) rfl rfl) rfl fun v29=>gsr 1 ti_204 rfl (aO 2 rfl) rfl<|nN<|fun a31 w31 h31=> ?_
 try simp only [Exit.then,Exit.inBlock,if_true]
 refine x_end0 (fn:=Tryz.f141) rfl h31<|⟨rfl,⟨v29,bl++([59])⟩,put_all (by omega) hbl,(h31.sh.sel [1,2,3] rfl)⟩
theorem plTell_c (K:Nat→Prop)(gb:Nat)(bs:Ls UInt8)(g0:Nat)(words owner:Ls Int)(W:World)(hS:Sh K W W [.blk gb 204 [bs.v], .own 5 bs, .rblk g0 182 [words.v,owner.v], .at_ words, .at_ owner])(hwl:words.l.length≤64)(hol:owner.l.length≤4)(hRw:R64L words.l)(hRo:R64L owner.l)(hbn:bs.l.length≤5000000000000):
    Rets Tryz.prog 206 [.pointer (some ⟨g0,0,none⟩), .func (.func 141) #[] #[.pointer (some ⟨gb,0,none⟩)]] W (fun v w' =>v= .tuple #[]∧∃bs' :Ls UInt8,bs'.l=bs.l++by8 ([words.l,owner.l].flatMap putB)∧bs'.l.length≤bs.l.length+5000∧Sh K W w' [.blk gb 204 [bs'.v], .own 5 bs', .rblk g0 182 [words.v,owner.v], .at_ words, .at_ owner]):=by
 refine gen Tryz.func206 Tryz.ntmps206 hS rfl fun a10 h10=>gG h10<|sK fun _ k11=>gRn (oM 2 rfl<|onf fl_182_0 rfl<|olR 2 ti_23 rfl rfl<|.nl)<|gO [0,1,3,2,4] rfl<|fun a17 w17 h17=> ?_;clear h10
 have hp16:=h17.sh.passL (Lp:= [_,_,_])
 refine wl_ex (x_call h17 bd_141 rfl rfl rfl rfl rfl (put1_c _ gb bs words _ hp16 (by assumption) (by show bs.l.length+66*words.l.length≤9000000000000;first|omega|(simp only [List.length_cons,List.length_nil];omega)))) (wanted_none rfl _) ?_
 rintro a18 w18 ⟨_,⟨rfl,bs18,hbl18,hs18⟩,hf18⟩
 have hbn18:=congrArg List.length hbl18;rw [List.length_append,by8_len] at hbn18;have hbm18:=putB_len (l:=words.l) (by assumption)
 try dsimp only at hbn18 hbm18
 try simp only [List.length_cons,List.length_nil] at hbm18
 change Sh _ _ _ [.blk gb 204 [bs18.v], .own 5 bs18, .at_ words] at hs18
 have h18:St _ K W a18 w18 _ [_,_,_,_,_]:=⟨hf18,h17.sh.backI (Lp:= [_,_,_]) hs18⟩
 clear hf18 hs18
 clear h17
 refine gG h18<|nK k11<|gL<|gRn (oM 2 rfl<|onf fl_182_1 rfl<|olR 3 ti_23 rfl rfl<|.nl)<|gO [0,1,4,2,3] rfl<|fun a24 w24 h24=> ?_;clear h18
 have hp23:=h24.sh.passL (Lp:= [_,_,_])
 refine wl_ex (x_call h24 bd_141 rfl rfl rfl rfl rfl (put1_c _ gb bs18 owner _ hp23 (by assumption) (by show bs18.l.length+66*owner.l.length≤9000000000000;first|omega|(simp only [List.length_cons,List.length_nil];omega)))) (wanted_none rfl _) ?_
 rintro a25 w25 ⟨_,⟨rfl,bs25,hbl25,hs25⟩,hf25⟩
 have hbn25:=congrArg List.length hbl25;rw [List.length_append,by8_len] at hbn25;have hbm25:=putB_len (l:=owner.l) (by assumption)
 try dsimp only at hbn25 hbm25
 try simp only [List.length_cons,List.length_nil] at hbm25
 change Sh _ _ _ [.blk gb 204 [bs25.v], .own 5 bs25, .at_ owner] at hs25
 have h25:St _ K W a25 w25 _ [_,_,_,_,_]:=⟨hf25,h24.sh.backI (Lp:= [_,_,_]) hs25⟩
 clear hf25 hs25
 clear h24
 refine gG h25<|nN<|fun a26 w26 h26=> ?_;clear h25
 try simp only [Exit.then,Exit.inBlock,if_true]
 refine x_end0 (fn:=Tryz.f206) rfl h26<|⟨rfl,⟨bs25.v,bs25.l⟩, ?_, ?_,(h26.sh.sel [0,1,4,3,2] rfl)⟩
 ·show bs25.l=_
  rw [hbl25,hbl18];simp only [List.flatMap_cons,List.flatMap_nil,by8_app,List.append_nil,List.append_assoc]
 ·show bs25.l.length≤_
  omega
theorem tbTell_c (K:Nat→Prop)(gb:Nat)(bs:Ls UInt8)(g1 g0:Nat)(words owner:Ls Int)(wait:Ls (Ls Wt))(W:World)(hS:Sh K W W [.blk gb 204 [bs.v], .own 5 bs, .rblk g0 182 [words.v,owner.v], .at_ words, .at_ owner, .rblk g1 185 [.pointer (some ⟨g0,0,none⟩),wait.v], .at_ wait])(hwl:words.l.length≤64)(hol:owner.l.length≤4)(hRw:R64L words.l)(hRo:R64L owner.l)(hbn:bs.l.length≤4000000000000)(hwc:wait.l.length≤4)(hql:∀t,t<wait.l.length→(nth wait.l t).l.length≤3)(hRq:∀t,t<wait.l.length→R64W (nth wait.l t).l):
    Rets Tryz.prog 215 [.pointer (some ⟨g1,0,none⟩), .func (.func 141) #[] #[.pointer (some ⟨gb,0,none⟩)]] W (fun v w' =>v= .tuple #[]∧∃bs' :Ls UInt8,bs'.l=bs.l++by8 (([words.l,owner.l]++tqB (wait.l.map (·.l))).flatMap putB)∧bs'.l.length≤bs.l.length+9000∧Sh K W w' [.blk gb 204 [bs'.v], .own 5 bs', .rblk g0 182 [words.v,owner.v], .at_ words, .at_ owner, .rblk g1 185 [.pointer (some ⟨g0,0,none⟩),wait.v], .at_ wait]):=by
 refine gen Tryz.func215 Tryz.ntmps215 hS rfl fun a10 h10=>gG h10<|sK fun _ k11=>gRn (oM 1 rfl<|onf fl_185_0 rfl<|olR 5 ti_123 rfl rfl<|oM 1 rfl<|.nl)<|gM 5 rfl (fun _ _ h_=>xCl h_ bd_206 rfl (plTell_c _ gb bs g0 words owner _ (pKl 5 h_ rfl) hwl hol hRw hRo (by omega))) rfl<|?_;clear h10
 rintro _ _ w13 ⟨rfl,bs13,hbl13,hbn13,hs13⟩
 refine gBk hs13 rfl<|gU<|nK k11<|sK fun _ k14=>gNl (aA 6 rfl) fun hl15=>gRn (oM 1 rfl<|onf fl_185_1 rfl<|olR 5 ti_183 rfl rfl<|oln sl_183 (aA 6 rfl) rfl<|oM 1 rfl<|.nl)<|nK k14<|gB<|fun a17 w17 h17=> ?_;clear hs13
 refine x_loop (fun m a w=>∃(t:Nat) (bl:List UInt8) (vb:Value),(t≤wait.l.length)∧(bl=bs13.l++by8 ((tqB ((wait.l.take t).map (·.l))).flatMap putB))∧(bl.length≤bs13.l.length+700*t)∧St 44 K W a w [(1, .func (.func 141) #[] #[.pointer (some ⟨gb,0,none⟩)]),(18,wait.v),(19, .int .i64 ((wait.l.length:Nat):Int)),(20, .int .i64 ((t:Nat):Int))] [.blk gb 204 [vb], .own 5 (⟨vb,bl⟩:Ls UInt8), .rblk g0 182 [words.v,owner.v], .at_ words, .at_ owner, .rblk g1 185 [.pointer (some ⟨g0,0,none⟩),wait.v], .at_ wait]∧m=wait.l.length-t) ⟨_,0,bs13.l,bs13.v,(by omega),(by simp [tqB,by8]),(by omega),h17.nf ⟨rfl,rfl,rfl,rfl,trivial⟩,rfl⟩ ?_
 clear h17
 rintro m16 a16 w16 ⟨t,bl,vb,ht,hbo,hbq,h16,hm16⟩
 refine gG h16<|sG (oltN _ _ rfl<|.nl)<|gK fun _ k19=>gcd rfl (fun hb20 hp20=> ?_) fun hb20 hp20=> ?_;clear h16
 ·skip
  refine gS<|hK k19<|gK fun _ k21=>gB<|sG (oxN sl_183 ti_267 (aA 6 rfl) _ om9 rfl<|olE ((nth wait.l t).v) ti_267 (aA 6 rfl) om9 rfl<|oM 1 rfl<|.nl)<|gK fun _ k23=>sK fun _ k24=>gNl (fun w h=>((h.at 6 rfl).nth t (show t<wait.l.length from (by omega)))) fun (hl25:((nth wait.l t).l).length≤140737488355328)=>gRn (oM 1 rfl<|oln (n:=((nth wait.l t).l).length) sl_267 (fun w h=>((h.at 6 rfl).nth t (show t<wait.l.length from (by omega)))) rfl<|oM 1 rfl<|.nl)<|nK k24<|gB<|?_
  have hq3:=hql t (by omega)
  intro a27 w27 h27
  refine x_loop (fun m a w=>∃(k:Nat) (bl2:List UInt8) (vb2:Value),(k≤(nth wait.l t).l.length)∧(bl2=bl++by8 ((((nth wait.l t).l.take k).map wtN).flatMap putB))∧(bl2.length≤bl.length+200*k)∧St 44 K W a w [(1, .func (.func 141) #[] #[.pointer (some ⟨gb,0,none⟩)]),(18,wait.v),(19, .int .i64 ((wait.l.length:Nat):Int)),(20, .int .i64 ((t:Nat):Int)),(24,(nth wait.l t).v),(25, .int .i64 ((((nth wait.l t).l).length:Nat):Int)),(26, .int .i64 ((k:Nat):Int))] [.blk gb 204 [vb2], .own 5 (⟨vb2,bl2⟩:Ls UInt8), .rblk g0 182 [words.v,owner.v], .at_ words, .at_ owner, .rblk g1 185 [.pointer (some ⟨g0,0,none⟩),wait.v], .at_ wait]∧m=(nth wait.l t).l.length-k) ⟨_,0,bl,vb,(by omega),(by simp [by8]),(by omega),h27.nf ⟨rfl,rfl,rfl,rfl,rfl,rfl,rfl,trivial⟩,rfl⟩ ?_
  clear h27
  rintro m26 a26 w26 ⟨k,bl2,vb2,hk,hbi,hbj,h26,hm26⟩
  refine gG h26<|sG (oltN _ _ rfl<|.nl)<|gK fun _ k29=>gcd rfl (fun hb30 hp30=> ?_) fun hb30 hp30=> ?_;clear h26
  ·skip
   refine gS<|hK k29<|gK fun _ k31=>gB<|sK fun _ k32=>gRn (oxN sl_267 ti_266 (fun w h=>((h.at 6 rfl).nth t (show t<wait.l.length from (by omega)))) _ om9 rfl<|olw2 [.bool ((nth ((nth wait.l t).l) k).lock), .int .i64 ((nth ((nth wait.l t).l) k).wh), .int .i64 ((nth ((nth wait.l t).l) k).what)] ti_266 (fun w h=>((h.at 6 rfl).nth t (show t<wait.l.length from (by omega)))) om9 rfl<|.nl)<|gal ti_266 rfl fun b33=>gsw 0 ti_266 rfl rfl rfl<|nK k32<|sG (oM 1 rfl<|.nl)<|?_
   have hxr:=hRq t (by omega) _ (nth_mem (nth wait.l t).l k (by omega))
   refine gK fun _ k36=>sG (ofB fl_266_0 rfl<|olB 0 ti_4 rfl rfl<|.nl)<|gCb rfl (fun hb38=> ?_) fun hb38=> ?_
   ·skip
    refine gL<|gRn (oM 1 rfl<|.nl)<|nK k36<|gL<|gRn (oM 2 rfl<|ofB fl_266_1 rfl<|olB 0 ti_3 rfl rfl<|ofB fl_266_2 rfl<|olB 0 ti_3 rfl rfl<|.nl)<|gE1 (fun _ _ h_=>x_lit (n:=3) (cs:= [.int .i64 1, .int .i64 ((nth ((nth wait.l t).l) k).wh), .int .i64 ((nth ((nth wait.l t).l) k).what)]) ([1,(nth ((nth wait.l t).l) k).wh,(nth ((nth wait.l t).l) k).what]:List Int) h_ sl_23 ti_3 rfl rfl rfl (by decide) rfl (by kernel_rfl) rfl (fun q hq w h=>Flat.inner _ _) (fun q hq b hb=>(Flat.on _ _ hb).elim) rfl rfl) rfl fun v39=>fun a41 w41 h41=> ?_
    have h40:St _ _ _ _ _ _ _:=⟨h41.fr,h41.sh.share 0 rfl⟩
    clear h41
    have h42:=h40.sel (L' := [_,_,_,_,_,_,_,_,_]) [2,3,0,1,4,5,6,7,8] rfl
    have hp43:=h42.sh.passL (Lp:= [_,_,_])
    refine wl_ex (x_call h42 bd_141 rfl rfl rfl rfl rfl (put1_c _ gb (⟨vb2,bl2⟩:Ls UInt8) (⟨v39, [1,(nth ((nth wait.l t).l) k).wh,(nth ((nth wait.l t).l) k).what]⟩:Ls Int) _ hp43 (R64L.row hxr (by unfold R64;omega)) (by show bl2.length+66*([1,(nth ((nth wait.l t).l) k).wh,(nth ((nth wait.l t).l) k).what]).length≤9000000000000;first|omega|(simp only [List.length_cons,List.length_nil];omega)))) (wanted_none rfl _) ?_
    rintro a44 w44 ⟨_,⟨rfl,bs44,hbl44,hs44⟩,hf44⟩
    have hbn44:=congrArg List.length hbl44;rw [List.length_append,by8_len] at hbn44;have hbm44:=putB_len (l:= [1,(nth ((nth wait.l t).l) k).wh,(nth ((nth wait.l t).l) k).what]) (R64L.row hxr (by unfold R64;omega))
    try dsimp only at hbn44 hbm44
    try simp only [List.length_cons,List.length_nil] at hbm44
    change Sh _ _ _ [.blk gb 204 [bs44.v], .own 5 bs44, .at_ (⟨v39, [1,(nth ((nth wait.l t).l) k).wh,(nth ((nth wait.l t).l) k).what]⟩:Ls Int)] at hs44
    have h44:St _ K W a44 w44 _ [_,_,_,_,_,_,_,_,_]:=⟨hf44,h42.sh.backI (Lp:= [_,_,_]) hs44⟩
    clear hf44 hs44
    clear h42
    refine gG h44<|nK k31<|gL<|gRn (oadN _ 1 om9 rfl<|oM 1 rfl<|.nl)<|nN<|fun a45 w45 h45=>x_again ⟨_, ?_,(k+1),bs44.l,bs44.v, ?_, ?_, ?_,h45.nrm ⟨rfl,rfl,rfl,rfl,rfl,rfl,rfl,trivial⟩ [0,1,4,5,6,7,8] rfl,rfl⟩;clear h44
    · rw [hm26];first|omega|(simp only [lens9];omega)
    · omega
    · exact tel_take (by omega) hbi (by assumption) (by unfold wtN;first|rw [if_pos (by assumption)]|rw [if_neg (by simp [*])])
    · first|omega|(simp only [List.length_cons,List.length_nil] at*;omega)
   refine gS<|hK k36<|gL<|gRn (oM 2 rfl<|ofB fl_266_1 rfl<|olB 0 ti_3 rfl rfl<|ofB fl_266_2 rfl<|olB 0 ti_3 rfl rfl<|.nl)<|gE1 (fun _ _ h_=>x_lit (n:=3) (cs:= [.int .i64 0, .int .i64 ((nth ((nth wait.l t).l) k).wh), .int .i64 ((nth ((nth wait.l t).l) k).what)]) ([0,(nth ((nth wait.l t).l) k).wh,(nth ((nth wait.l t).l) k).what]:List Int) h_ sl_23 ti_3 rfl rfl rfl (by decide) rfl (by kernel_rfl) rfl (fun q hq w h=>Flat.inner _ _) (fun q hq b hb=>(Flat.on _ _ hb).elim) rfl rfl) rfl fun v46=>fun a48 w48 h48=> ?_
   have h47:St _ _ _ _ _ _ _:=⟨h48.fr,h48.sh.share 0 rfl⟩
   clear h48
   have h49:=h47.sel (L' := [_,_,_,_,_,_,_,_,_]) [2,3,0,1,4,5,6,7,8] rfl
   have hp50:=h49.sh.passL (Lp:= [_,_,_])
   refine wl_ex (x_call h49 bd_141 rfl rfl rfl rfl rfl (put1_c _ gb (⟨vb2,bl2⟩:Ls UInt8) (⟨v46, [0,(nth ((nth wait.l t).l) k).wh,(nth ((nth wait.l t).l) k).what]⟩:Ls Int) _ hp50 (R64L.row hxr (by unfold R64;omega)) (by show bl2.length+66*([0,(nth ((nth wait.l t).l) k).wh,(nth ((nth wait.l t).l) k).what]).length≤9000000000000;first|omega|(simp only [List.length_cons,List.length_nil];omega)))) (wanted_none rfl _) ?_
   rintro a51 w51 ⟨_,⟨rfl,bs51,hbl51,hs51⟩,hf51⟩
   have hbn51:=congrArg List.length hbl51;rw [List.length_append,by8_len] at hbn51;have hbm51:=putB_len (l:= [0,(nth ((nth wait.l t).l) k).wh,(nth ((nth wait.l t).l) k).what]) (R64L.row hxr (by unfold R64;omega))
   try dsimp only at hbn51 hbm51
   try simp only [List.length_cons,List.length_nil] at hbm51
   change Sh _ _ _ [.blk gb 204 [bs51.v], .own 5 bs51, .at_ (⟨v46, [0,(nth ((nth wait.l t).l) k).wh,(nth ((nth wait.l t).l) k).what]⟩:Ls Int)] at hs51
   have h51:St _ K W a51 w51 _ [_,_,_,_,_,_,_,_,_]:=⟨hf51,h49.sh.backI (Lp:= [_,_,_]) hs51⟩
   clear hf51 hs51
   clear h49
   refine gG h51<|nK k31<|gL<|gRn (oadN _ 1 om9 rfl<|oM 1 rfl<|.nl)<|nN<|fun a52 w52 h52=>x_again ⟨_, ?_,(k+1),bs51.l,bs51.v, ?_, ?_, ?_,h52.nrm ⟨rfl,rfl,rfl,rfl,rfl,rfl,rfl,trivial⟩ [0,1,4,5,6,7,8] rfl,rfl⟩;clear h51
   · rw [hm26];first|omega|(simp only [lens9];omega)
   · omega
   · exact tel_take (by omega) hbi (by assumption) (by unfold wtN;first|rw [if_pos (by assumption)]|rw [if_neg (by simp [*])])
   · first|omega|(simp only [List.length_cons,List.length_nil] at*;omega)
  refine gX<|hK k23<|gL<|gRn (oM 1 rfl<|.nl)<|fun a55 w55 h55=> ?_
  have h54:=h55.nil (α:=Int) 3
  clear h55
  have h56:St _ _ _ _ _ _ _:=⟨h54.fr,h54.sh.share 0 rfl⟩
  clear h54
  have h57:=h56.sel (L' := [_,_,_,_,_,_,_,_]) [1,2,0,3,4,5,6,7] rfl
  have hp58:=h57.sh.passL (Lp:= [_,_,_])
  refine wl_ex (x_call h57 bd_141 rfl rfl rfl rfl rfl (put1_c _ gb (⟨vb2,bl2⟩:Ls UInt8) (⟨.slice none 0 0, []⟩:Ls Int) _ hp58 R64L.nil (by show bl2.length+66*([]).length≤9000000000000;first|omega|(simp only [List.length_cons,List.length_nil];omega)))) (wanted_none rfl _) ?_
  rintro a59 w59 ⟨_,⟨rfl,bs59,hbl59,hs59⟩,hf59⟩
  have hbn59:=congrArg List.length hbl59;rw [List.length_append,by8_len] at hbn59;have hbm59:=putB_len (l:= []) R64L.nil
  try dsimp only at hbn59 hbm59
  try simp only [List.length_cons,List.length_nil] at hbm59
  change Sh _ _ _ [.blk gb 204 [bs59.v], .own 5 bs59, .at_ (⟨.slice none 0 0, []⟩:Ls Int)] at hs59
  have h59:St _ K W a59 w59 _ [_,_,_,_,_,_,_,_]:=⟨hf59,h57.sh.backI (Lp:= [_,_,_]) hs59⟩
  clear hf59 hs59
  clear h57
  refine gG h59<|nK k21<|gL<|gRn (oadN _ 1 om9 rfl<|oM 1 rfl<|.nl)<|nN<|fun a60 w60 h60=>x_again ⟨_, ?_,(t+1),bs59.l,bs59.v, ?_, ?_, ?_,h60.nrm ⟨rfl,rfl,rfl,rfl,trivial⟩ [0,1,3,4,5,6,7] rfl,rfl⟩;clear h59
  · rw [hm16];first|omega|(simp only [lens9];omega)
  · omega
  · exact tel_row (by omega) (by omega) hbo hbi (by assumption)
  · first|omega|(simp only [List.length_nil] at*;omega)
 refine gX<|fun a61 w61 h61=> ?_
 try simp only [Exit.then,Exit.inBlock,if_true]
 refine x_end0 (fn:=Tryz.f215) rfl h61<|⟨rfl,⟨vb,bl⟩, ?_, ?_,h61.sh⟩
 ·show bl=_
  rw [hbo,show t=wait.l.length by omega,List.take_length,hbl13,List.flatMap_append,by8_app,List.append_assoc]
 ·show bl.length≤_
  omega
theorem tbTwin_c (g1 g0:Nat)(words owner:Ls Int)(wait:Ls (Ls Wt))(W:World)(hB:Blk W g1 185 #[.pointer (some ⟨g0,0,none⟩),wait.v])(hq:wait.At W)(hM:Blk W g0 182 #[words.v,owner.v])(hw:words.At W)(ho:owner.At W)(hwl:words.l.length≤64)(hol:owner.l.length≤4)(hwc:wait.l.length≤4)(hql:∀t,t<wait.l.length→(nth wait.l t).l.length≤3):
    Rets Tryz.prog 217 [.pointer (some ⟨g1,0,none⟩)] W (fun v w' =>∃(gt g:Nat) (words' owner' :Ls Int) (q:Ls (Ls Wt)),v= .pointer (some ⟨gt,0,none⟩)∧words'.l=words.l∧owner'.l=owner.l∧(memT gt g).qs q=wait.l.map (·.l)∧Sh0 W w' (memA 182 3 (memT gt g) words' owner' q)):=by
 refine gen Tryz.func217 Tryz.ntmps217 (Sh0.ext (by intro A hA;simp only [List.mem_cons,List.not_mem_nil,or_false] at hA;rcases hA with rfl|rfl|rfl|rfl|rfl;exact hB;exact hq;exact hM;exact hw;exact ho) (by intro A hA b hb;simp only [List.mem_cons,List.not_mem_nil,or_false] at hA;rcases hA with rfl|rfl|rfl|rfl|rfl<;>exact hb):Sh (fun _=>False) W W [.rblk g1 185 [.pointer (some ⟨g0,0,none⟩),wait.v], .at_ wait, .rblk g0 182 [words.v,owner.v], .at_ words, .at_ owner]) rfl fun a10 h10=>gG h10<|sG (oM 1 rfl<|.nl)<|sK fun _ k12=>gRn (oM 1 rfl<|onf fl_185_0 rfl<|olR 0 ti_123 rfl rfl<|onf fl_182_0 rfl<|olR 2 ti_23 rfl rfl<|oV (r_buildS (cs:= [(.slice none 0 0),words.v, .int .i64 0, .int .i64 0]) rfl rfl (fun w h=>by obtain ⟨A13,n13,c13,(e13:words.v=_)⟩:=((h.at 3 rfl)).form;rw [e13];kernel_rfl)) rfl<|.nl)<|gC (fun _ _ h_=>xCl h_ bd_81 rfl (pnew_c words 0 (.slice none 0 0) 0 _ (h_.sh.at 3 rfl) (by omega) (by omega))) rfl<|?_;clear h10
 rintro _ _ w14 ⟨g14,mw14,mo14,rfl,hmw14,hmo14,hs14⟩
 refine gWk hs14 rfl<|fun a14 h14=> ?_;clear hs14
 refine gG h14<|gRn (oV (r_build (cs:= [.pointer (some ⟨g14,0,none⟩),(.slice none 0 0)]) rfl rfl (by kernel_rfl)) rfl<|.nl)<|gbx rfl rfl fun b15=>gRn (oM 1 rfl<|.nl)<|nK k12<|gK fun _ k16=>rC [11,14] rfl<|pR [0,1,2,3,4,5,6,7,8,9,10] rfl (oM 1 rfl<|onfl 0 fl_185_0 ti_123 rfl rfl<|oM 1 rfl<|onf fl_185_0 rfl<|olR 4 ti_123 rfl rfl<|onf fl_182_1 rfl<|olR 6 ti_23 rfl rfl<|.nl) rfl<|pC (fun _ _ h_=>xCl h_ bd_44 rfl (cloneI_c owner _ (h_.sh.at 8 rfl) (by first|omega|(simp only [lens9];omega)))) rfl<|?_;clear h14
 rintro _ _ w17 ⟨s17,rfl,hs17⟩
 refine pWk hs17 rfl<|pR [0,1,2,3,12,13] rfl (oM 1 rfl<|onfl 1 fl_185_0 ti_123 rfl rfl<|onf fl_182_1 rfl<|.nl) rfl<|pS (fun _ _ h_=>x_stb (i:=2) (vs:= [s17.v]) (cs' := [mw14.v,s17.v]) h_ ti_23 rfl rfl rfl rfl rfl (cells_oneL ((h_.sh.own 0 rfl)).one) rfl (allOne_cons ((h_.sh.own 0 rfl)).one allOne_nil) (Nat.le_of_ble_eq_true rfl) rfl) rfl<|pE [] rfl (.nl) rfl<|hK k16<|gF [0,3] rfl<|gK fun _ k19=>sK fun _ k20=>gNl (aA 6 rfl) fun hl21=>gRn (oM 1 rfl<|onf fl_185_1 rfl<|olR 5 ti_183 rfl rfl<|oln sl_183 (aA 6 rfl) rfl<|oM 1 rfl<|.nl)<|nK k20<|gB<|fun a24 w24 h24=> ?_;clear hs17
 have h23:St _ _ _ _ _ _ _:=⟨h24.fr,Sh.nilMat (α:=Wt) (IE:=266) (E:=267) h24.sh⟩
 clear h24
 refine x_loop (fun m a w=>∃(t:Nat) (M:List (Ls Wt)) (vm:Value),(t≤wait.l.length)∧(M.map (·.l)=(wait.l.take t).map (·.l))∧(M.length=t)∧St 53 (fun _=>False) W a w [(3, .pointer (some ⟨b15,0,none⟩)),(34,wait.v),(35, .int .i64 ((wait.l.length:Nat):Int)),(36, .int .i64 ((t:Nat):Int))] [.own 3 (⟨s17.v,owner.l⟩:Ls Int), .blk b15 185 [.pointer (some ⟨g14,0,none⟩),vm], .blk g14 182 [mw14.v,s17.v], .own 3 mw14, .own 3 mo14, .rblk g1 185 [.pointer (some ⟨g0,0,none⟩),wait.v], .at_ wait, .rblk g0 182 [words.v,owner.v], .at_ words, .at_ owner, .big (matX (.own 266) 267 vm M)]∧m=wait.l.length-t) ⟨_,0, [],(.slice none 0 0),(by omega),(rfl),(rfl),h23.nrm ⟨rfl,rfl,rfl,rfl,trivial⟩ [1,2,3,4,5,6,7,8,9,10,0] rfl,rfl⟩ ?_
 clear h23
 rintro m22 a22 w22 ⟨t,M,vm,ht,hM9,hMn,h22,hm22⟩
 refine gG h22<|sG (oltN _ _ rfl<|.nl)<|gK fun _ k26=>gcd rfl (fun hb27 hp27=> ?_) fun hb27 hp27=> ?_;clear h22
 ·skip
  refine gS<|hK k26<|gK fun _ k28=>gB<|sG (oxN sl_183 ti_267 (aA 6 rfl) _ om9 rfl<|olE ((nth wait.l t).v) ti_267 (aA 6 rfl) om9 rfl<|oM 1 rfl<|.nl)<|rC [6,7,8,11] rfl<|pR [0,1,2,3,4,5] rfl (oM 2 rfl<|onfl 1 fl_185_1 ti_183 rfl rfl<|oM 1 rfl<|.nl) rfl<|pC (fun _ _ h_=>xCl h_ bd_219 rfl (cloneW_c (nth wait.l t) _ ((h_.sh.at 6 rfl).nth t (show t<wait.l.length from (by omega))) (by have:=hql t (by omega);omega))) rfl<|?_
  rintro _ _ w30 ⟨s30,rfl,hs30⟩
  refine pWk hs30 rfl<|pR [0,1,2,3,4] rfl (oM 2 rfl<|onfl 2 fl_185_1 ti_183 rfl rfl<|.nl) rfl<|pX (fun _ _ h_=>x_lit (n:=1) (cs:= [s30.v]) ([⟨s30.v⟩]:List RV) h_ sl_183 ti_267 rfl rfl rfl (by decide) rfl (by obtain ⟨A31,n31,c31,(e31:s30.v=_)⟩:=((h_.sh.own 0 rfl)).form;rw [e31];kernel_rfl) rfl (fun _ _ _ _=>trivial) (fun q hq b hb=>(Flat.on _ _ hb).elim) rfl rfl) rfl fun v32=>pR [0,1,2,3,4] rfl (oM 2 rfl<|onfl 3 fl_185_1 ti_183 rfl rfl<|.nl) rfl<|pO [12,1,0,2,3,4,5,6,7,8,9,10,11] rfl<|pX (fun _ _ h_=>x_appRow h_ sl_183 ti_267 rfl rfl rfl rfl rfl (show (M.length+1)*24≤140737488355328∧M.length+1≤140737488355328 from om9) rfl rfl) rfl fun v34=>pR [0,9,10] rfl (oM 1 rfl<|onf fl_185_1 rfl<|.nl) rfl<|pS (fun _ _ h_=>x_stb (i:=2) (vs:= [v34]) (cs' := [.pointer (some ⟨g14,0,none⟩),v34]) h_ ti_183 rfl rfl rfl rfl rfl (cells_oneL ((h_.sh.matAt 0 rfl)).one) rfl (allOne_cons ((h_.sh.matAt 0 rfl)).one allOne_nil) (Nat.le_of_ble_eq_true rfl) rfl) rfl<|pE [] rfl (.nl) rfl<|hK k28<|gL<|gRn (oadN _ 1 om9 rfl<|oM 1 rfl<|.nl)<|nN<|fun a36 w36 h36=> ?_;clear hs30
  refine x_again ⟨_, ?_,(t+1),M++ [(⟨s30.v,(nth wait.l t).l⟩:Ls Wt)],v34, ?_, ?_, ?_,h36.nrm ⟨rfl,rfl,rfl,rfl,trivial⟩ [1,2,3,4,5,6,7,8,9,10,0] rfl,rfl⟩
  · rw [hm22];first|omega|(simp only [lens9];omega)
  · omega
  · rw [take_succ_nth _ _ (by omega),List.map_append,List.map_append,hM9];rfl
  · (rw [List.length_append];simp only [List.length_cons,List.length_nil];omega)
 refine gX<|hK k19<|sG (oM 2 rfl<|.nl)<|gR<|fun a38 w38 h38=>x_ret1 (fn:=Tryz.f217) (t:=2) rfl h38 rfl ?_
 exact ⟨b15,g14,⟨mw14.v,mw14.l⟩,⟨s17.v,owner.l⟩,⟨vm,M⟩,rfl,hmw14,rfl,(by show M.map (·.l)=wait.l.map (·.l);rw [hM9,show t=wait.l.length by omega,List.take_length]),memT_close (q:=⟨vm,M⟩) (h38.sh.sel [1,10,2,3,0] rfl)⟩
theorem tbCopy_c (g1 g0:Nat)(words owner:Ls Int)(wait:Ls (Ls Wt))(W:World)(hB:Blk W g1 185 #[.pointer (some ⟨g0,0,none⟩),wait.v])(hq:wait.At W)(hM:Blk W g0 182 #[words.v,owner.v])(hw:words.At W)(ho:owner.At W)(hwl:words.l.length≤64)(hol:owner.l.length≤4)(hwc:wait.l.length≤4)(hql:∀t,t<wait.l.length→(nth wait.l t).l.length≤3):
    Rets Tryz.prog 208 [.pointer (some ⟨g1,0,none⟩)] W (fun v w' =>∃(gt g:Nat) (words' owner' :Ls Int) (q:Ls (Ls Wt)),v= .iface 125 (.pointer (some ⟨gt,0,none⟩))∧words'.l=words.l∧owner'.l=owner.l∧(memT gt g).qs q=wait.l.map (·.l)∧Sh0 W w' (memA 182 3 (memT gt g) words' owner' q)):=by
 refine gen Tryz.func208 Tryz.ntmps208 (Sh0.ext (by intro A hA;simp only [List.mem_cons,List.not_mem_nil,or_false] at hA;rcases hA with rfl|rfl|rfl|rfl|rfl;exact hB;exact hq;exact hM;exact hw;exact ho) (by intro A hA b hb;simp only [List.mem_cons,List.not_mem_nil,or_false] at hA;rcases hA with rfl|rfl|rfl|rfl|rfl<;>exact hb):Sh (fun _=>False) W W [.rblk g1 185 [.pointer (some ⟨g0,0,none⟩),wait.v], .at_ wait, .rblk g0 182 [words.v,owner.v], .at_ words, .at_ owner]) rfl fun a10 h10=>gG h10<|sG (oM 1 rfl<|.nl)<|sK fun _ k12=>gRn (oM 1 rfl<|.nl)<|fun a14 w14 h14=>wl_ex (x_call h14 bd_217 rfl rfl rfl rfl rfl (tbTwin_c g1 g0 words owner wait _ (h14.sh.rblk 0 rfl) (h14.sh.at 1 rfl) (h14.sh.rblk 2 rfl) (h14.sh.at 3 rfl) (h14.sh.at 4 rfl) hwl hol hwc hql)) (wanted_none rfl _) ?_;clear h10
 rintro a15 w15 ⟨_,⟨gt15,g15,mw15,mo15,q15,rfl,hmw15,hmo15,hq15,hs15⟩,hf15⟩
 have h15:=(⟨hf15,h14.sh.call hs15 (by intro A hA b hb;simp only [memA,List.mem_cons,List.not_mem_nil,or_false] at hA;first|(subst hA;exact Flat.noRd hb)|(rcases hA with rfl|rfl|rfl|rfl<;>first|exact (hb:False).elim|exact Flat.noRd hb|exact (memT_rd hb).elim))⟩:St 6 (fun _=>False) W a15 w15 _ _)
 clear hf15 hs15
 clear h14
 refine gG h15<|gRn (oV (Rn.same (r_mkIfP (T:=125) Tryz.underlying125 rfl rfl) rfl) rfl<|oM 1 rfl<|.nl)<|nK k12<|gR<|fun a16 w16 h16=>x_ret1 (fn:=Tryz.f208) (t:=2) rfl h16 rfl ?_;clear h15
 exact ⟨gt15,g15,mw15,mo15,q15,rfl,hmw15,hmo15,hq15,(h16.sh.sel [0,1,2,3] rfl)⟩
theorem matX_on {IE E:TypeId}{v:Value}{M:List (Ls Wt)}{w:World}{b:Nat}(h:(Asn.big (matX (.own IE) E v M)).ok w)(hb:(⟨v,M⟩:Ls (Ls Wt)).on b):(Asn.big (matX (.own IE) E v M)).fp b:=by
 rcases hb with ⟨h0,hb⟩|⟨i,hi,hb⟩
 ·refine ⟨_,List.mem_cons_self .., ?_⟩
  have h1:(⟨v,rvs M⟩:Ls RV).on b:= .inl ⟨by show 0<(rvs M).length;rw [rvs_len];exact h0,hb⟩
  exact (own_on (h.1 _ (List.mem_cons_self ..)) h1).elim id fun h9=>Flat.noRd h9
 ·have hm:Asn.own IE (nth M i)∈matX (.own IE) E v M:=List.mem_cons_of_mem _ (List.mem_map.2 ⟨_,nth_mem _ _ hi,rfl⟩)
  exact ⟨_,hm,(own_mat (nth M i) w (h.1 _ hm)).2 b hb⟩
theorem memT_on {g1 g0:Nat}{q:Ls (Ls Wt)}{w:World}{b:Nat}(h:((memT g1 g0).X q).ok w)(hb:q.on b):((memT g1 g0).X q).fp b:=
 ⟨_,List.mem_cons_of_mem _ (List.mem_cons_self ..),matX_on (h.1 _ (List.mem_cons_of_mem _ (List.mem_cons_self ..))) hb⟩
def FT :MemF:=⟨Nat×Nat,fun i=>memT i.1 i.2,125,1,tqB,fun _=>True,(0,0),(default:Ls (Ls Wt))⟩
theorem FT_ok :MemFI Tryz.prog 182 3 204 5 141 FT where
 ok i:=memT_ok i.1 i.2
 hT _:=rfl
 hm _:=rfl
 tq:=tqB_ok
 qQ _ _:=trivial
 copy w i words owner q h hwl hol hqc hq3:=⟨208,⟨i.1,0,none⟩,by kernel_rfl,bd_208,by
  obtain ⟨hB,hq⟩:=memT_at h.x
  have hql' :q.l.length≤4:=by have h9:(q.l.map (·.l)).length≤4:=hqc;rwa [List.length_map] at h9
  refine Rets.mono (tbCopy_c i.1 i.2 words owner q w hB hq h.blk h.wa h.oa hwl hol hql' (fun t ht=>hq3 _ (List.mem_map.2 ⟨_,nth_mem _ _ ht,rfl⟩))) ?_
  rintro v w' ⟨gt,g,words',owner',q',rfl,h1,h2,h3,hs⟩
  exact ⟨(gt,g),words',owner',q',rfl,h1,h2,h3,hs⟩⟩
 tell K W i words owner q gb bs hS hwl hol hqc hq3 hRw hRo hRq hbn:=⟨215,⟨i.1,0,none⟩,by kernel_rfl,bd_215,by
  have hx:((memT i.1 i.2).X q).ok W:=hS.ok (.ro [(memT i.1 i.2).X q]) (List.mem_of_getElem? (i:=5) rfl) _ (List.mem_singleton.2 rfl)
  have hxt:((memT i.1 i.2).X q).ok W:=hx
  obtain ⟨hB,hq⟩:=memT_at hxt
  have h1:=(hS.addRd (A:= .at_ q) hq (fun b hb=>hb) (fun b hb=>⟨.ro [(memT i.1 i.2).X q],List.mem_of_getElem? (i:=5) rfl,_,List.mem_singleton.2 rfl, .inl ((memT_on hxt hb))⟩)).addRd (A:= .rblk i.1 185 [.pointer (some ⟨i.2,0,none⟩),q.v]) hB (fun b hb=>hb) (fun b hb=>⟨.ro [(memT i.1 i.2).X q],List.mem_of_getElem? (i:=6) rfl,_,List.mem_singleton.2 rfl, .inl (⟨_,List.mem_cons_self ..,hb⟩)⟩)
  have h2:Sh K W W ([.blk gb 204 [bs.v], .own 5 bs, .rblk i.2 182 [words.v,owner.v], .at_ words, .at_ owner, .rblk i.1 185 [.pointer (some ⟨i.2,0,none⟩),q.v], .at_ q]++ [.ro [(memT i.1 i.2).X q]]):=h1.sel [2,3,4,5,6,0,1,7] rfl
  have hl:∀t,t<q.l.length→(nth q.l t).l∈(memT i.1 i.2).qs q:=fun t ht=>List.mem_map.2 ⟨_,nth_mem _ _ ht,rfl⟩
  have hql' :q.l.length≤4:=by have h9:(q.l.map (·.l)).length≤4:=hqc;rwa [List.length_map] at h9
  refine Rets.mono (tbTell_c _ gb bs i.1 i.2 words owner q W h2.passL hwl hol hRw hRo (by omega) hql' (fun t ht=>hq3 _ (hl t ht)) (fun t ht=>hRq _ (hl t ht))) ?_
  rintro v w' ⟨rfl,bs',e,hn,hs⟩
  refine ⟨rfl,bs',e,by omega,(h2.backL hs (by
   intro C hC b hb
   simp only [List.mem_cons,List.not_mem_nil,or_false] at hC
   rcases hC with rfl|rfl|rfl|rfl|rfl|rfl|rfl
   ·exact (hb:False).elim
   ·exact Flat.noRd hb
   all_goals exact .inl ⟨_,by simp, .inr hb⟩)).sel [0,1,2,3,4,7] rfl⟩⟩
end Go.Proofs.YtmjkobhkkjgplaaGreatDoor
