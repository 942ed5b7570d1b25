/- What a memory tells. -/
import Derived.Test.YtmjkobhkkjgplaaGreatDoorS35
import Derived.Test.YtmjkobhkkjgplaaGreatDoorS27
import Derived.Test.YtmjkobhkkjgplaaGreatDoorS22
import Derived.Test.YtmjkobhkkjgplaaGreatDoorX6
import Derived.Test.YtmjkobhkkjgplaaGreatDoorS31
import Derived.Test.YtmjkobhkkjgplaaGreatDoorS15
import Derived.Test.YtmjkobhkkjgplaaGreatDoorX69
import Derived.Test.YtmjkobhkkjgplaaGreatDoorX72
import Derived.Test.YtmjkobhkkjgplaaGreatDoorX3
section
section
namespace Go.Proofs.YtmjkobhkkjgplaaGreatDoor
open Go.RowKit
set_option linter.unusedSimpArgs false
set_option linter.unusedVariables false
section
variable {P:Program} {o:Oper} {N:Nat} {K:Nat→Prop} {W w:World} {F:List (Nat×Value)} {L:List Asn} {T U D:TypeId} {x y:Operand}
theorem r_quoU {p q:Nat} (ho:o.op= .binOp .quo T x y U) (hx:ev F x=some (.int .u64 ((p:Nat):Int))) (hy:ev F y=some (.int .u64 ((q:Nat):Int))) (hq:0<q∧p<18446744073709551616):Rn P o N K W F L (.int .u64 (((p/q:Nat)):Int)):=r_bin ho hx hy fun w=>by
 have h1:¬(q:Int)=0:=by omega
 have h0:¬q=0:=by omega
 have h2:(p:Int).tdiv q=((p/q:Nat):Int):=by rw [Int.tdiv_eq_ediv_of_nonneg (by omega)];rfl
 have h3:(((p/q:Nat):Int))%18446744073709551616=((p/q:Nat):Int):=by
  have hz:p/q<18446744073709551616:=Nat.lt_of_le_of_lt (Nat.div_le_self _ _) hq.2
  generalize p/q=z at hz
  omega
 rw [Int.natCast_ediv] at h3
 simp [go_sem,h0,h1,h2,IntKind.wrap_u64,h3]
theorem r_subU {p q:Nat} (ho:o.op= .binOp .sub T x y U) (hx:ev F x=some (.int .u64 ((p:Nat):Int))) (hy:ev F y=some (.int .u64 ((q:Nat):Int))) (hq:q≤p∧p<18446744073709551616):Rn P o N K W F L (.int .u64 (((p-q:Nat)):Int)):=r_bin ho hx hy fun w=>by
 have:(((p:Nat):Int)-(q:Nat))%18446744073709551616=((p-q:Nat):Int):=by omega
 simp [go_sem,IntKind.wrap_u64,this]
theorem r_negU {p:Nat} (ho:o.op= .unOp .neg T x) (hx:ev F x=some (.int .u64 ((p:Nat):Int))):Rn P o N K W F L (.int .u64 (((toU (-(p:Int)):Nat)):Int)):=fun a w h=>by
 have e:(-(p:Int))%18446744073709551616=((toU (-(p:Int)):Nat):Int):=by unfold toU;omega
 unfold execOp
 simp only [ho,h.fr.ev hx]
 simp [unary_neg,Op.intArith,IntKind.wrap_u64,e]
theorem r_ixStrU {s:ByteArray} {q:Nat} (hT:P.underlying T=some .string) (ho:o.op= .index T x y) (hx:ev F x=some (.string s)) (hz:ev F y=some (.int .u64 ((q:Nat):Int))) (hq:q<s.size):Rn P o N K W F L (.int .u8 ((s[q]'hq).toNat:Int)):=fun a w h=>by
 have key:(Instr.index T (.string s) (.int .u64 (q:Int))).run P w= .ok (.int .u8 ((s[q]'hq).toNat:Int)) w:=by
  rw [run_index_string _ _ _ _ _ hT]
  simp [hq]
 unfold execOp
 simp only [ho,h.fr.ev hx,h.fr.ev hz,Sem.run_bind,key,Result.andThen_ok,Sem.run_pure]
end
theorem toU_neg {n:Int} (h:n<0∧-9223372036854775808≤n):toU (-((toU n:Nat):Int))=n.natAbs:=by unfold toU;omega
theorem toU_pos {n:Int} (h:¬n<0) (h2:n<9223372036854775808):toU n=n.natAbs:=by unfold toU;omega
def digS :ByteArray:=⟨#[48,49,50,51,52,53,54,55,56,57,97,98,99,100,101,102,103,104,105,106,107,108,109,110,111,112,113,114,115,116,117,118,119,120,121,122]⟩
theorem digS_at {q:Nat} (h:q<digS.size):digS[q]'h=UInt8.ofNat (dg q):=by
 have key:∀i:Fin 36,digS[i.1]'i.2=UInt8.ofNat (dg i.1):=by decide
 exact key ⟨q,h⟩
theorem dig_room {u k:Nat} (h:u≤18446744073709551615/36^k) (hu:36≤u):k<12:=by
 apply Classical.byContradiction
 intro hk
 have h1:36^12≤36^k:=Nat.pow_le_pow_right (by decide) (by omega)
 have h2:18446744073709551615/36^k≤18446744073709551615/36^12:=Nat.div_le_div_left h1 (by decide)
 have h3:18446744073709551615/36^12=3:=by decide
 omega
theorem dig_next {u k:Nat} (h:u≤18446744073709551615/36^k):u/36≤18446744073709551615/36^(k+1):=by
 rw [Nat.pow_succ,←Nat.div_div_eq_div_mul]
 exact Nat.div_le_div_right h
theorem dig_step {u0 u i:Nat} {l:List UInt8} {b:UInt8} (h:by8 (digs u0)=by8 (digs u)++l.drop (i+1)) (hu:36≤u) (hi:i<l.length) (hb:b=UInt8.ofNat (dg (u-u/36*36))):by8 (digs u0)=by8 (digs (u/36))++(l.set i b).drop i:=by
 have e:u-u/36*36=u%36:=by omega
 rw [h,digs_hi (by omega),by8_app,hb,e,List.drop_eq_getElem_cons (show i<(l.set i _).length by rw [List.length_set];exact hi),List.getElem_set_self,List.drop_set_of_lt (by omega),List.append_assoc]
 rfl
theorem dig_last {u0 u i:Nat} {l:List UInt8} {b:UInt8} (h:by8 (digs u0)=by8 (digs u)++l.drop (i+1)) (hu:¬36≤u) (hi:i<l.length) (hb:b=UInt8.ofNat (dg u)):by8 (digs u0)=(l.set i b).drop i:=by
 rw [h,digs_lo (by omega),hb,List.drop_eq_getElem_cons (show i<(l.set i _).length by rw [List.length_set];exact hi),List.getElem_set_self,List.drop_set_of_lt (by omega)]
 rfl
end Go.Proofs.YtmjkobhkkjgplaaGreatDoor
end
namespace Go.Proofs.YtmjkobhkkjgplaaGreatDoor
open Go.RowKit
set_option linter.unusedSimpArgs false
set_option linter.unusedVariables false
set_option maxRecDepth 100000
set_option maxHeartbeats 4000000
theorem ar_247 :arI Tryz.prog 247=some (65,5):=by kernel_rfl
theorem pow36_c (W:World):
    Rets Tryz.prog 178 [.int .i64 36] W (fun v w' =>v= .bool false∧Sh0 W w' []):=by
 refine gen Tryz.func178 Tryz.ntmps178 (Sh0.start _:Sh (fun _=>False) W W []) rfl fun a10 h10=>gG h10<|sG (oM 1 rfl<|.nl)<|sG (oM 2 rfl<|osbN 36 1 om9 rfl<|oV (r_bin (v:= .int .i64 32) rfl rfl rfl (fun w=>by first|kernel_rfl|rfl|simp [go_sem])) rfl<|oeqN 32 0 rfl<|oM 1 rfl<|.nl)<|gR<|fun a13 w13 h13=> ?_;clear h10
 try simp only [Exit.then,Exit.inBlock]
 refine x_ret1 (fn:=Tryz.f178) (t:=2) rfl h13 rfl ?_
 exact ⟨rfl,(h13.sh.sel [] rfl)⟩
theorem fmtB_c (K:Nat→Prop) (bs:Ls UInt8) (u0:Nat) (W:World) (hS:Sh K W W [.own 5 bs]) (hu0:u0<18446744073709551616) (hbn:bs.l.length≤100000000000000):
    Rets Tryz.prog 174 [bs.v, .int .u64 ((u0:Nat):Int), .int .i64 36, .bool false, .bool true] W (fun v w' =>∃bs' :Ls UInt8,v= .tuple #[bs'.v, .string ⟨#[]⟩]∧bs'.l=bs.l++by8 (digs u0)∧Sh K W w' [.own 5 bs']):=by
 refine gen Tryz.func174 Tryz.ntmps174 hS rfl fun a10 h10=>gG h10<|sG (oM 2 rfl<|.nl)<|gK fun _ k12=>sG (oM 1 rfl<|oltN 36 2 rfl<|oM 1 rfl<|oG (by decide) (r_move rfl rfl) rfl<|oG (by decide) (r_eqlN (p:=36) (q:=10) rfl rfl rfl) rfl<|opF (by decide) rfl<|oM 1 rfl<|oG (by decide) (r_move rfl rfl) rfl<|oG (by decide) (r_gtrN (p:=36) (q:=36) rfl rfl rfl) rfl<|opF (by decide) rfl<|.nl)<|gcF rfl (by decide)<|gS<|hK k12<|sK fun _ k14=>gE1 (fun _ _ h_=>x_allocBy (k:=65) h_ ti_247 (by kernel_rfl) rfl rfl rfl) rfl fun b15=>nK k14<|sG (oM 1 rfl<|.nl)<|gK fun _ k17=>sG (oM 1 rfl<|.nl)<|gcF rfl rfl<|gS<|hK k17<|gK fun _ k19=>sK fun _ k20=>gRn (oM 1 rfl<|.nl)<|gP (fun _ _ h_=>xCl h_ bd_178 rfl (pow36_c _)) rfl<|nK k20<|gcF rfl rfl<|sG (oM 1 rfl<|oV (r_cvUN Tryz.underlying3 Tryz.underlying202 rfl rfl (show 36<18446744073709551616 from om9)) rfl<|oM 1 rfl<|.nl)<|gK fun _ k23=>gB<|fun a25 w25 h25=>x_loop (fun m a w=>∃(i k u:Nat) (al:List UInt8),(i+k=65∧k≤12)∧(u≤18446744073709551615/36^k)∧(u≤18446744073709551615)∧(al.length=65)∧(by8 (digs u0)=by8 (digs u)++al.drop i)∧St 102 K W a w [(0,bs.v),(1, .int .u64 ((u:Nat):Int)),(3, .bool false),(4, .bool true),(10,(.slice none 0 0)),(11, .string ({ data:= #[] })),(12, .pointer (some ⟨b15,0,none⟩)),(13, .int .i64 ((i:Nat):Int)),(17, .int .u64 ((36:Nat):Int))] [.blk b15 247 (al.map bv), .own 5 bs]∧m=u) ⟨_,65,0,u0,List.replicate 65 (0:UInt8),(by omega),(by simpa using (by omega:u0≤18446744073709551615)),(by omega),(by simp),(by simp),h25.nf ⟨rfl,rfl,rfl,rfl,rfl,rfl,rfl,rfl,rfl,trivial⟩,rfl⟩ ?_;clear h10
 clear h25
 rintro m24 a24 w24 ⟨i,k,u,al,hik,hu,hu2,hal,hd,h24,hm24⟩
 refine gG h24<|gK fun _ k26=>sG (oM 2 rfl<|ogeN _ 36 rfl<|.nl)<|?_;clear h24
 refine gcd rfl (fun hb28 hp28=> ?_) fun hb28 hp28=> ?_
 ·skip
  refine gS<|hK k26<|?_
  have hk12:=dig_room hu (by assumption)
  refine gB<|sG (oM 1 rfl<|osbN _ 1 om9 rfl<|oM 1 rfl<|.nl)<|sG (oM 2 rfl<|oV (r_quoU (p:=u) (q:=36) rfl rfl rfl (show 0<36∧u<18446744073709551616 from om9)) rfl<|oM 1 rfl<|.nl)<|sK fun _ k31=>gRn (oM 4 rfl<|oV (r_mulS (p:=u/36) (q:=36) (r:=(u/36)*36) rfl rfl rfl rfl (show (u/36)*36<18446744073709551616 from om9)) rfl<|oV (r_subU (p:=u) (q:=(u/36)*36) rfl rfl rfl (show (u/36)*36≤u∧u<18446744073709551616 from om9)) rfl<|.nl)<|?_
  have hx32:u-((u/36)*36)<digS.size:=(by first|omega|(show _<36;omega))
  intro a34 w34 h34
  refine wv h34 (r_ixStrU (s:=digS) (q:=u-((u/36)*36)) Tryz.underlying9 rfl rfl rfl hx32) rfl rfl fun a33 h33=>gG h33<|gRn (oV (r_ixAr (q:=i-1) ar_247 ti_5 rfl rfl rfl rfl (show i-1<65 from (by first|omega|(show _<36;omega)))) rfl<|.nl)<|gE (fun _ _ h_=>x_stBy (i:=0) (l:=al) (n:=(digS[u-((u/36)*36)]'hx32)) h_ ti_5 rfl rfl rfl rfl rfl (show i-1<al.length from om9)) rfl<|nK k31<|gL<|gRn (oM 2 rfl<|.nl)<|nN<|fun a36 w36 h36=> ?_;clear h34 h33
  change∃_m,_m<_∧_
  refine ⟨_, ?_,(i-1),(k+1),(u/36),al.set (i-1) (digS[u-((u/36)*36)]'hx32), ?_, ?_, ?_, ?_, ?_,h36.nf ⟨rfl,rfl,rfl,rfl,rfl,rfl,rfl,rfl,rfl,trivial⟩,rfl⟩
  · rw [hm24];omega
  · omega
  · exact dig_next hu
  · omega
  · simpa using hal
  · exact dig_step (by rw [show i-1+1=i by omega];exact hd) (by assumption) (by omega) (digS_at _)
 refine gX<|hK k23<|sG (oM 1 rfl<|osbN _ 1 om9 rfl<|oM 1 rfl<|.nl)<|gL<|gRn (oM 2 rfl<|.nl)<|?_
 have hx38:u<digS.size:=(by first|omega|(show _<36;omega))
 intro a40 w40 h40
 refine wv h40 (r_ixStrU (s:=digS) (q:=u) Tryz.underlying9 rfl rfl rfl hx38) rfl rfl fun a39 h39=>gG h39<|gRn (oV (r_ixAr (q:=i-1) ar_247 ti_5 rfl rfl rfl rfl (show i-1<65 from (by first|omega|(show _<36;omega)))) rfl<|.nl)<|gE (fun _ _ h_=>x_stBy (i:=0) (l:=al) (n:=(digS[u]'hx38)) h_ ti_5 rfl rfl rfl rfl rfl (show i-1<al.length from om9)) rfl<|nK k19<|gK fun _ k42=>sG (oM 1 rfl<|.nl)<|gcF rfl rfl<|gS<|hK k42<|gK fun _ k44=>sG (oM 1 rfl<|.nl)<|gcT rfl rfl<|sK fun _ k46=>gRn (oM 2 rfl<|oV (r_slBy (q:=i-1) ar_247 ti_5 rfl rfl rfl rfl (show i-1<65 from om9)) rfl<|.nl)<|gE1 (fun _ _ h_=>x_app (r:=1) (rm:=0) (s:=bs) (m:=(⟨(arrS b15 (i-1) 65),((al.set (i-1) (digS[u]'hx38)).drop (i-1))⟩:Ls UInt8)) h_ sl_204 ti_5 rfl rfl rfl rfl rfl rfl rfl (fun w h=>(arr_at h (i:=0) rfl (by simpa using hal) (show i-1≤65 from om9) (by decide))) (fun b hb=> .inl (arr_on hb)) (fun q hq b hb=>(Flat.on _ _ hb).elim) rfl rfl rfl inferInstance (show (bs.l.length+((al.set (i-1) (digS[u]'hx38)).drop (i-1)).length)*1≤140737488355328∧bs.l.length+((al.set (i-1) (digS[u]'hx38)).drop (i-1)).length≤140737488355328 from (by first|omega|(simp only [List.length_drop,List.length_set,hal];omega))) rfl rfl) rfl fun v47=>gRn (oM 1 rfl<|.nl)<|nK k46<|gR<|fun a48 w48 h48=> ?_;clear h40 h39
 try simp only [Exit.then,Exit.inBlock]
 refine x_ret2 (fn:=Tryz.f174) (t:=10) (u:=11) rfl h48 rfl rfl<|⟨⟨v47,bs.l++((al.set (i-1) (digS[u]'hx38)).drop (i-1))⟩,rfl, ?_,(h48.sh.sel [1] rfl)⟩
 show bs.l++_=bs.l++_
 congr 1
 exact (dig_last (by rw [show i-1+1=i by omega];exact hd) (by assumption) (by omega) (digS_at _)).symm
theorem appU_c (K:Nat→Prop) (bs:Ls UInt8) (u0:Nat) (W:World) (hS:Sh K W W [.own 5 bs]) (hu0:u0<18446744073709551616) (hbn:bs.l.length≤100000000000000):
    Rets Tryz.prog 167 [bs.v, .int .u64 ((u0:Nat):Int), .int .i64 36] W (fun v w' =>∃bs' :Ls UInt8,v=bs'.v∧bs'.l=bs.l++by8 (digs u0)∧Sh K W w' [.own 5 bs']):=by
 refine gen Tryz.func167 Tryz.ntmps167 hS rfl fun a10 h10=>gG h10<|sG (oM 1 rfl<|.nl)<|gK fun _ k12=>sG (oM 1 rfl<|oeqN 36 10 rfl<|.nl)<|gcF rfl (by decide)<|gS<|hK k12<|sK fun _ k14=>gRn (oM 3 rfl<|.nl)<|gM 1 rfl (fun _ _ h_=>xCl h_ bd_174 rfl (fmtB_c _ bs (u0) _ (pKl 1 h_ rfl) (by omega) (by omega))) rfl<|?_;clear h10
 rintro _ _ w16 ⟨bs16,rfl,hbl16,hs16⟩
 refine gBk hs16 rfl<|gU<|gRn (oM 1 rfl<|oxt rfl<|oxt rfl<|oM 1 rfl<|.nl)<|nK k14<|sG (oM 2 rfl<|.nl)<|gR<|fun a18 w18 h18=> ?_;clear hs16
 try simp only [Exit.then,Exit.inBlock]
 refine x_ret1 (fn:=Tryz.f167) (t:=6) rfl h18 rfl ?_
 exact ⟨bs16,rfl,hbl16,h18.sh⟩
theorem appI_c (K:Nat→Prop) (bs:Ls UInt8) (n0:Int) (W:World) (hS:Sh K W W [.own 5 bs]) (hn0: -9223372036854775808≤n0∧n0<9223372036854775808) (hbn:bs.l.length≤10000000000000):
    Rets Tryz.prog 153 [bs.v, .int .i64 n0, .int .i64 36] W (fun v w' =>∃bs' :Ls UInt8,v=bs'.v∧bs'.l=bs.l++by8 (num36 n0)∧Sh K W w' [.own 5 bs']):=by
 refine gen Tryz.func153 Tryz.ntmps153 hS rfl fun a10 h10=>gG h10<|sG (oM 1 rfl<|.nl)<|sG (oM 1 rfl<|oV (r_cvU Tryz.underlying2 Tryz.underlying202 rfl rfl) rfl<|oM 1 rfl<|.nl)<|gK fun _ k13=>sG (oM 1 rfl<|oltI _ _ rfl<|.nl)<|?_;clear h10
 refine gcd rfl (fun hb15 hp15=> ?_) fun hb15 hp15=> ?_
 ·skip
  refine sK fun _ k16=>gRn (oM 1 rfl<|.nl)<|gE1 (fun _ _ h_=>x_lit (n:=1) (cs:= [.int .u8 45]) ([45]:List UInt8) h_ sl_204 ti_5 rfl rfl rfl (by decide) rfl (by kernel_rfl) rfl (fun q hq w h=>Flat.inner _ _) (fun q hq b hb=>(Flat.on _ _ hb).elim) rfl rfl) rfl fun v17=>gE1 (fun _ _ h_=>x_app (r:=1) (rm:=0) (s:=bs) (m:=(⟨v17, [45]⟩:Ls UInt8)) h_ sl_204 ti_5 rfl rfl rfl rfl rfl rfl rfl (fun w h=>(h.own 0 rfl)) (fun b hb=>own_on (h_.sh.ok _ (List.mem_of_getElem? (i:=0) rfl)) hb) (fun q hq b hb=>⟨q,hq,hb⟩) rfl rfl rfl inferInstance (show (bs.l.length+([45]).length)*1≤140737488355328∧bs.l.length+([45]).length≤140737488355328 from om9) rfl rfl) rfl fun v18=>gRn (oM 1 rfl<|.nl)<|nK k16<|gL<|gRn (oM 1 rfl<|oV (r_negU (p:=toU n0) rfl rfl) rfl<|oM 1 rfl<|.nl)<|nK k13<|sK fun _ k19=>gRn (oM 3 rfl<|.nl)<|gO [1,0] rfl<|gM 1 rfl (fun _ _ h_=>xCl h_ bd_167 rfl (appU_c _ (⟨v18,bs.l++([45])⟩:Ls UInt8) (toU (-((toU n0:Nat):Int))) _ (pKl 1 h_ rfl) (by first|exact toU_lt _|omega) (by first|omega|(rw [List.length_append];simp;omega)|(simp;omega)))) rfl<|?_
  rintro _ _ w22 ⟨bs22,rfl,hbl22,hs22⟩
  refine gBk hs22 rfl<|gU<|gRn (oM 1 rfl<|.nl)<|nK k19<|gR<|fun a23 w23 h23=> ?_;clear hs22
  try simp only [Exit.then,Exit.inBlock]
  refine x_ret1 (fn:=Tryz.f153) (t:=6) rfl h23 rfl<|⟨bs22,rfl,hbl22.trans ?_,(h23.sh.sel [0] rfl)⟩
  unfold num36
  first|(rw [if_pos (by assumption),toU_neg (by omega),List.append_assoc];rfl)|(rw [if_neg (by assumption),toU_pos (by assumption) (by omega)])
 refine gS<|hK k13<|sK fun _ k24=>gRn (oM 3 rfl<|.nl)<|gM 1 rfl (fun _ _ h_=>xCl h_ bd_167 rfl (appU_c _ bs (toU n0) _ (pKl 1 h_ rfl) (by first|exact toU_lt _|omega) (by first|omega|(rw [List.length_append];simp;omega)|(simp;omega)))) rfl<|?_
 rintro _ _ w26 ⟨bs26,rfl,hbl26,hs26⟩
 refine gBk hs26 rfl<|gU<|gRn (oM 1 rfl<|.nl)<|nK k24<|gR<|fun a27 w27 h27=> ?_;clear hs26
 try simp only [Exit.then,Exit.inBlock]
 refine x_ret1 (fn:=Tryz.f153) (t:=6) rfl h27 rfl<|⟨bs26,rfl,hbl26.trans ?_,h27.sh⟩
 unfold num36
 first|(rw [if_pos (by assumption),toU_neg (by omega),List.append_assoc];rfl)|(rw [if_neg (by assumption),toU_pos (by assumption) (by omega)])
theorem sappI_c (K:Nat→Prop) (bs:Ls UInt8) (n0:Int) (W:World) (hS:Sh K W W [.own 5 bs]) (hn0: -9223372036854775808≤n0∧n0<9223372036854775808) (hbn:bs.l.length≤10000000000000):
    Rets Tryz.prog 142 [bs.v, .int .i64 n0, .int .i64 36] W (fun v w' =>∃bs' :Ls UInt8,v=bs'.v∧bs'.l=bs.l++by8 (num36 n0)∧Sh K W w' [.own 5 bs']):=by
 refine gen Tryz.func142 Tryz.ntmps142 hS rfl fun a10 h10=>gG h10<|sG (oM 1 rfl<|.nl)<|sK fun _ k12=>gRn (oM 3 rfl<|.nl)<|gM 1 rfl (fun _ _ h_=>xCl h_ bd_153 rfl (appI_c _ bs (n0) _ (pKl 1 h_ rfl) (by omega) (by omega))) rfl<|?_;clear h10
 rintro _ _ w14 ⟨bs14,rfl,hbl14,hs14⟩
 refine gBk hs14 rfl<|gU<|gRn (oM 1 rfl<|.nl)<|nK k12<|gR<|fun a15 w15 h15=> ?_;clear hs14
 try simp only [Exit.then,Exit.inBlock]
 refine x_ret1 (fn:=Tryz.f142) (t:=6) rfl h15 rfl ?_
 exact ⟨bs14,rfl,hbl14,h15.sh⟩
end Go.Proofs.YtmjkobhkkjgplaaGreatDoor
end
section
namespace Go.Proofs.YtmjkobhkkjgplaaGreatDoor
open Go.RowKit
set_option linter.unusedSimpArgs false
set_option linter.unusedVariables false
theorem rvs_app {α:Type} (M:List (Ls α)) (s:Ls α):rvs (M++ [s])=rvs M++ [⟨s.v⟩]:=by simp [rvs]
section
variable {P:Program} {o:Oper} {N:Nat} {K:Nat→Prop} {W w:World} {a:Act} {F:List (Nat×Value)} {L:List Asn} {α:Type} [Enc α] {E IE:TypeId} {v:Value} {M:List (Ls α)}
theorem x_appRow {d:Nat} {T e:TypeId} {gg:Bool} {by_:Nat} {z:List Value} {x y:Operand} {s:Ls α} {mv:Value} (h:St N K W a w F (.big (matX (.own IE) E v M):: .own IE s:: .own e (⟨mv, [⟨s.v⟩]⟩:Ls RV)::L)) (hT:slI P T=some e) (he:tyI P e=some (gg,1,by_,z)) (ho:o.op= .call ⟨.builtin .append, #[x,y], #[T,T]⟩)
  (hx:ev F x=some v) (hy:ev F y=some mv) (hE:E=e) (hz:z.length=1) (hn:(M.length+1)*by_≤140737488355328∧M.length+1≤140737488355328) (hd:o.dst=some d) (hdN:Nat.blt d N=true):
  Ex P o a w (fun a' w' =>∃u:Value,St N K W a' w' ((d,u)::F) (.big (matX (.own IE) E u (M++ [s]))::L)):=by
 have h1:Sh K W w (.own E (⟨v,rvs M⟩:Ls RV):: .own e (⟨mv, [⟨s.v⟩]⟩:Ls RV)::(M.map (Asn.own IE)++(.own IE s::L))):=h.sh.open_.perm (by
  unfold matX
  refine List.Perm.cons _ ?_
  refine (List.Perm.append_left _ (List.Perm.swap _ _ _)).trans ?_
  exact List.perm_middle)
 refine (x_app1 (r:=0) (rm:=1) (s:=(⟨v,rvs M⟩:Ls RV)) (m:=(⟨mv, [⟨s.v⟩]⟩:Ls RV)) ⟨h.fr,h1⟩ hT he ho hx hy rfl hE rfl rfl (fun w h=>h.own 1 rfl) (fun b hb=>own_on (h1.ok _ (List.mem_of_getElem? (i:=1) rfl)) hb) (fun q hq b hb=>hb.elim) rfl rfl hz (fun w h q hq j hj=>by
   obtain rfl:q=0:=by simpa using hq
   exact (own_at (h.ok (.own IE s) (by simp))).one)
  (by rw [rvs_len];exact hn) hd hdN).mono fun a' w' ⟨u,h2⟩=>⟨u,h2.fr, ?_⟩
 have h3:Sh K W w' (.own E (⟨u,rvs M++ [⟨s.v⟩]⟩:Ls RV):: .own e (⟨mv, [⟨s.v⟩]⟩:Ls RV)::(M.map (Asn.own IE)++(.own IE s::L))):=h2.sh
 refine Sh.close ((h3.perm (List.Perm.swap _ _ _)).tail.perm ?_)
 unfold matX
 rw [rvs_app,List.map_append]
 refine List.Perm.cons _ ?_
 simp
theorem Sh.nilMat (h:Sh K W w L):Sh K W w (.big (matX (.own IE) E (.slice none 0 0) ([]:List (Ls α)))::L):=
 Sh.matMk (n:=0) (α:=α) (IE:=IE) (h.nil (α:=RV) E)
end
end Go.Proofs.YtmjkobhkkjgplaaGreatDoor
end
namespace Go.Proofs.YtmjkobhkkjgplaaGreatDoor
open Go.RowKit
set_option linter.unusedSimpArgs false
set_option linter.unusedVariables false
set_option maxRecDepth 100000
set_option maxHeartbeats 4000000
theorem put_take {l:List Int} {k:Nat} (h:k<l.length) {b:List UInt8} {c d:List UInt8} (hb:b=c++by8 ((l.take k).flatMap fun n=>num36 n++ [32])) (hd:d=b++by8 (num36 (nth l k))):d++ [32]=c++by8 ((l.take (k+1)).flatMap fun n=>num36 n++ [32]):=by
 rw [hd,hb,take_succ_nth _ _ h,List.flatMap_append,by8_app]
 simp only [List.flatMap_cons,List.flatMap_nil,List.append_nil,by8_app,List.append_assoc]
 rfl
theorem put_all {l:List Int} {k:Nat} (h:k=l.length) {b c:List UInt8} (hb:b=c++by8 ((l.take k).flatMap fun n=>num36 n++ [32])):b++ [59]=c++by8 (putB l):=by
 rw [hb,h,List.take_length,putB,by8_app,List.append_assoc];rfl
theorem tel_take {l:List Wt} {k:Nat} {b c d:List UInt8} {row:List Int} (h:k<l.length) (hb:b=c++by8 (((l.take k).map wtN).flatMap putB)) (hd:d=b++by8 (putB row)) (e:row=wtN (nth l k)):d=c++by8 (((l.take (k+1)).map wtN).flatMap putB):=by
 rw [hd,hb,e,take_succ_nth _ _ h,List.map_append,List.flatMap_append,by8_app]
 simp only [List.map_cons,List.map_nil,List.flatMap_cons,List.flatMap_nil,List.append_nil,List.append_assoc]
theorem tel_row {q:List (Ls Wt)} {t k:Nat} {b c d f:List UInt8} (h:t<q.length) (hk:k=(nth q t).l.length) (hb:b=c++by8 ((tqB ((q.take t).map (·.l))).flatMap putB)) (hd:d=b++by8 ((((nth q t).l.take k).map wtN).flatMap putB)) (hf:f=d++by8 (putB [])):f=c++by8 ((tqB ((q.take (t+1)).map (·.l))).flatMap putB):=by
 rw [hf,hd,hb,hk,List.take_length,take_succ_nth _ _ h,List.map_append]
 unfold tqB
 simp only [List.flatMap_append,by8_app,List.map_cons,List.map_nil,List.flatMap_cons,List.flatMap_nil,List.append_nil,List.append_assoc]
theorem R64L.row {x:Wt} {k:Int} (h:R64 x.wh∧R64 x.what) (hk:R64 k):R64L [k,x.wh,x.what]:=fun n hn=>by
 simp only [List.mem_cons,List.not_mem_nil,or_false] at hn
 rcases hn with rfl|rfl|rfl
 ·exact hk
 ·exact h.1
 ·exact h.2
theorem R64L.nil :R64L []:=fun n hn=>by cases hn
theorem by8_len (l:List Nat):(by8 l).length=l.length:=List.length_map _
theorem put1_c (K:Nat→Prop) (gb:Nat) (bs:Ls UInt8) (l:Ls Int) (W:World) (hS:Sh K W W [.blk gb 204 [bs.v], .own 5 bs, .at_ l]) (hR:R64L l.l) (hn:bs.l.length+66*l.l.length≤9000000000000):
    Rets Tryz.prog 141 [l.v, .pointer (some ⟨gb,0,none⟩)] W (fun v w' =>v= .tuple #[]∧∃bs' :Ls UInt8,bs'.l=bs.l++by8 (putB l.l)∧Sh K W w' [.blk gb 204 [bs'.v], .own 5 bs', .at_ l]):=by
 refine gen Tryz.func141 Tryz.ntmps141 hS rfl fun a10 h10=>gG h10<|gK fun _ k11=>sK fun _ k12=>gNl (aA 2 rfl) fun hl13=>gRn (oM 1 rfl<|oln sl_23 (aA 2 rfl) rfl<|oM 1 rfl<|.nl)<|nK k12<|gB<|fun a15 w15 h15=>x_loop (fun m a w=>∃(k:Nat) (bl:List UInt8) (vb:Value),(k≤l.l.length)∧(bl=bs.l++by8 ((l.l.take k).flatMap fun n=>num36 n++ [32]))∧(bl.length≤bs.l.length+66*k)∧St 20 K W a w [(1, .pointer (some ⟨gb,0,none⟩)),(5,l.v),(6, .int .i64 ((l.l.length:Nat):Int)),(7, .int .i64 ((k:Nat):Int))] [.blk gb 204 [vb], .own 5 (⟨vb,bl⟩:Ls UInt8), .at_ l]∧m=l.l.length-k) ⟨_,0,bs.l,bs.v,(by omega),(by simp [by8]),(by omega),h15.nf ⟨rfl,rfl,rfl,rfl,trivial⟩,rfl⟩ ?_;clear h10
 clear h15
 rintro m14 a14 w14 ⟨k,bl,vb,hk,hbl,hbn,h14,hm14⟩
 refine gG h14<|sG (oltN _ _ rfl<|.nl)<|gK fun _ k17=>gcd rfl (fun hb18 hp18=> ?_) fun hb18 hp18=> ?_;clear h14
 ·skip
  refine gS<|hK k17<|gK fun _ k19=>gB<|sG (oxN sl_23 ti_3 (aA 2 rfl) _ om9 rfl<|olI ti_3 (aA 2 rfl) om9 rfl<|oM 1 rfl<|.nl)<|?_
  have hrk:=hR _ (nth_mem l.l k (by omega))
  have hnk:=num36_len _ hrk
  refine gL<|gRn (olB 0 ti_204 rfl rfl<|oM 1 rfl<|.nl)<|gO [1,0,2] rfl<|gM 1 rfl (fun _ _ h_=>xCl h_ bd_142 rfl (sappI_c _ (⟨vb,bl⟩:Ls UInt8) (nth l.l k) _ (pKl 1 h_ rfl) hrk (by show bl.length≤_;omega))) rfl<|?_
  rintro _ _ w23 ⟨bs23,rfl,hbl23,hs23⟩
  refine gBk hs23 rfl<|gU<|?_;clear hs23
  have hbx:=hbl23;try dsimp only at hbx
  refine gE1 (fun _ _ h_=>x_lit (n:=1) (cs:= [.int .u8 32]) ([32]:List UInt8) h_ sl_204 ti_5 rfl rfl rfl (by decide) rfl (by kernel_rfl) rfl (fun q hq w h=>Flat.inner _ _) (fun q hq b hb=>(Flat.on _ _ hb).elim) rfl rfl) rfl fun v24=>gE1 (fun _ _ h_=>x_app (r:=1) (rm:=0) (s:=bs23) (m:=(⟨v24, [32]⟩:Ls UInt8)) h_ sl_204 ti_5 rfl rfl rfl rfl rfl rfl rfl (fun w h=>(h.own 0 rfl)) (fun b hb=>own_on (h_.sh.ok _ (List.mem_of_getElem? (i:=0) rfl)) hb) (fun q hq b hb=>⟨q,hq,hb⟩) rfl rfl rfl inferInstance (show (bs23.l.length+([32]).length)*1≤140737488355328∧bs23.l.length+([32]).length≤140737488355328 from (by first|omega|(simp only [List.length_cons,List.length_nil];omega)|(rw [hbx,List.length_append,by8_len];simp only [List.length_cons,List.length_nil];omega))) rfl rfl) rfl fun v25=>gsr 2 ti_204 rfl (aO 1 rfl) rfl<|nK k19<|gL<|gRn (oadN _ 1 om9 rfl<|oM 1 rfl<|.nl)<|nN<|fun a27 w27 h27=>x_again ⟨_, ?_,(k+1),bs23.l++([32]),v25, ?_, ?_, ?_,h27.nrm ⟨rfl,rfl,rfl,rfl,trivial⟩ [2,1,3] rfl,rfl⟩
  · rw [hm14];first|omega|(simp only [lens9];omega)
  · omega
  · exact put_take (by omega) hbl (by assumption)
  · (rw [List.length_append,hbx,List.length_append,by8_len];simp only [List.length_cons,List.length_nil];omega)
 refine gX<|hK k11<|gL<|gRn (olB 0 ti_204 rfl rfl<|.nl)<|gE1 (fun _ _ h_=>x_lit (n:=1) (cs:= [.int .u8 59]) ([59]:List UInt8) h_ sl_204 ti_5 rfl rfl rfl (by decide) rfl (by kernel_rfl) rfl (fun q hq w h=>Flat.inner _ _) (fun q hq b hb=>(Flat.on _ _ hb).elim) rfl rfl) rfl fun v28=>gE1 (fun _ _ h_=>x_app (r:=2) (rm:=0) (s:=(⟨vb,bl⟩:Ls UInt8)) (m:=(⟨v28, [59]⟩:Ls UInt8)) h_ sl_204 ti_5 rfl rfl rfl rfl rfl rfl rfl (fun w h=>(h.own 0 rfl)) (fun b hb=>own_on (h_.sh.ok _ (List.mem_of_getElem? (i:=0) rfl)) hb) (fun q hq b hb=>⟨q,hq,hb⟩) rfl rfl rfl inferInstance (show (bl.length+([59]).length)*1≤140737488355328∧bl.length+([59]).length≤140737488355328 from (by first|omega|(simp only [List.length_cons,List.length_nil];omega)|(rw [hbx,List.length_append,by8_len];simp only [List.length_cons,List.length_nil];omega))) rfl rfl) rfl fun v29=>gsr 1 ti_204 rfl (aO 2 rfl) rfl<|nN<|fun a31 w31 h31=> ?_
 try simp only [Exit.then,Exit.inBlock,if_true]
 refine x_end0 (fn:=Tryz.f141) rfl h31<|⟨rfl,⟨v29,bl++([59])⟩,put_all (by omega) hbl,(h31.sh.sel [1,2,3] rfl)⟩
theorem plTell_c (K:Nat→Prop) (gb:Nat) (bs:Ls UInt8) (g0:Nat) (words owner:Ls Int) (W:World) (hS:Sh K W W [.blk gb 204 [bs.v], .own 5 bs, .rblk g0 182 [words.v,owner.v], .at_ words, .at_ owner]) (hwl:words.l.length≤64) (hol:owner.l.length≤4) (hRw:R64L words.l) (hRo:R64L owner.l) (hbn:bs.l.length≤5000000000000):
    Rets Tryz.prog 206 [.pointer (some ⟨g0,0,none⟩), .func (.func 141) #[] #[.pointer (some ⟨gb,0,none⟩)]] W (fun v w' =>v= .tuple #[]∧∃bs' :Ls UInt8,bs'.l=bs.l++by8 ([words.l,owner.l].flatMap putB)∧bs'.l.length≤bs.l.length+5000∧Sh K W w' [.blk gb 204 [bs'.v], .own 5 bs', .rblk g0 182 [words.v,owner.v], .at_ words, .at_ owner]):=by
 refine gen Tryz.func206 Tryz.ntmps206 hS rfl fun a10 h10=>gG h10<|sK fun _ k11=>gRn (oM 2 rfl<|onf fl_182_0 rfl<|olR 2 ti_23 rfl rfl<|.nl)<|gO [0,1,3,2,4] rfl<|fun a17 w17 h17=> ?_;clear h10
 have hp16:=h17.sh.passL (Lp:= [_,_,_])
 refine wl_ex (x_call h17 bd_141 rfl rfl rfl rfl rfl (put1_c _ gb bs words _ hp16 (by assumption) (by show bs.l.length+66*words.l.length≤9000000000000;first|omega|(simp only [List.length_cons,List.length_nil];omega)))) (wanted_none rfl _) ?_
 rintro a18 w18 ⟨_,⟨rfl,bs18,hbl18,hs18⟩,hf18⟩
 have hbn18:=congrArg List.length hbl18;rw [List.length_append,by8_len] at hbn18;have hbm18:=putB_len (l:=words.l) (by assumption)
 try dsimp only at hbn18 hbm18
 try simp only [List.length_cons,List.length_nil] at hbm18
 change Sh _ _ _ [.blk gb 204 [bs18.v], .own 5 bs18, .at_ words] at hs18
 have h18:St _ K W a18 w18 _ [_,_,_,_,_]:=⟨hf18,h17.sh.backI (Lp:= [_,_,_]) hs18⟩
 clear hf18 hs18
 clear h17
 refine gG h18<|nK k11<|gL<|gRn (oM 2 rfl<|onf fl_182_1 rfl<|olR 3 ti_23 rfl rfl<|.nl)<|gO [0,1,4,2,3] rfl<|fun a24 w24 h24=> ?_;clear h18
 have hp23:=h24.sh.passL (Lp:= [_,_,_])
 refine wl_ex (x_call h24 bd_141 rfl rfl rfl rfl rfl (put1_c _ gb bs18 owner _ hp23 (by assumption) (by show bs18.l.length+66*owner.l.length≤9000000000000;first|omega|(simp only [List.length_cons,List.length_nil];omega)))) (wanted_none rfl _) ?_
 rintro a25 w25 ⟨_,⟨rfl,bs25,hbl25,hs25⟩,hf25⟩
 have hbn25:=congrArg List.length hbl25;rw [List.length_append,by8_len] at hbn25;have hbm25:=putB_len (l:=owner.l) (by assumption)
 try dsimp only at hbn25 hbm25
 try simp only [List.length_cons,List.length_nil] at hbm25
 change Sh _ _ _ [.blk gb 204 [bs25.v], .own 5 bs25, .at_ owner] at hs25
 have h25:St _ K W a25 w25 _ [_,_,_,_,_]:=⟨hf25,h24.sh.backI (Lp:= [_,_,_]) hs25⟩
 clear hf25 hs25
 clear h24
 refine gG h25<|nN<|fun a26 w26 h26=> ?_;clear h25
 try simp only [Exit.then,Exit.inBlock,if_true]
 refine x_end0 (fn:=Tryz.f206) rfl h26<|⟨rfl,⟨bs25.v,bs25.l⟩, ?_, ?_,(h26.sh.sel [0,1,4,3,2] rfl)⟩
 ·show bs25.l=_
  rw [hbl25,hbl18];simp only [List.flatMap_cons,List.flatMap_nil,by8_app,List.append_nil,List.append_assoc]
 ·show bs25.l.length≤_
  omega
theorem tbTell_c (K:Nat→Prop) (gb:Nat) (bs:Ls UInt8) (g1 g0:Nat) (words owner:Ls Int) (wait:Ls (Ls Wt)) (W:World) (hS:Sh K W W [.blk gb 204 [bs.v], .own 5 bs, .rblk g0 182 [words.v,owner.v], .at_ words, .at_ owner, .rblk g1 185 [.pointer (some ⟨g0,0,none⟩),wait.v], .at_ wait]) (hwl:words.l.length≤64) (hol:owner.l.length≤4) (hRw:R64L words.l) (hRo:R64L owner.l) (hbn:bs.l.length≤4000000000000) (hwc:wait.l.length≤4) (hql:∀t,t<wait.l.length→(nth wait.l t).l.length≤3) (hRq:∀t,t<wait.l.length→R64W (nth wait.l t).l):
    Rets Tryz.prog 215 [.pointer (some ⟨g1,0,none⟩), .func (.func 141) #[] #[.pointer (some ⟨gb,0,none⟩)]] W (fun v w' =>v= .tuple #[]∧∃bs' :Ls UInt8,bs'.l=bs.l++by8 (([words.l,owner.l]++tqB (wait.l.map (·.l))).flatMap putB)∧bs'.l.length≤bs.l.length+9000∧Sh K W w' [.blk gb 204 [bs'.v], .own 5 bs', .rblk g0 182 [words.v,owner.v], .at_ words, .at_ owner, .rblk g1 185 [.pointer (some ⟨g0,0,none⟩),wait.v], .at_ wait]):=by
 refine gen Tryz.func215 Tryz.ntmps215 hS rfl fun a10 h10=>gG h10<|sK fun _ k11=>gRn (oM 1 rfl<|onf fl_185_0 rfl<|olR 5 ti_123 rfl rfl<|oM 1 rfl<|.nl)<|gM 5 rfl (fun _ _ h_=>xCl h_ bd_206 rfl (plTell_c _ gb bs g0 words owner _ (pKl 5 h_ rfl) hwl hol hRw hRo (by omega))) rfl<|?_;clear h10
 rintro _ _ w13 ⟨rfl,bs13,hbl13,hbn13,hs13⟩
 refine gBk hs13 rfl<|gU<|nK k11<|sK fun _ k14=>gNl (aA 6 rfl) fun hl15=>gRn (oM 1 rfl<|onf fl_185_1 rfl<|olR 5 ti_183 rfl rfl<|oln sl_183 (aA 6 rfl) rfl<|oM 1 rfl<|.nl)<|nK k14<|gB<|fun a17 w17 h17=> ?_;clear hs13
 refine x_loop (fun m a w=>∃(t:Nat) (bl:List UInt8) (vb:Value),(t≤wait.l.length)∧(bl=bs13.l++by8 ((tqB ((wait.l.take t).map (·.l))).flatMap putB))∧(bl.length≤bs13.l.length+700*t)∧St 44 K W a w [(1, .func (.func 141) #[] #[.pointer (some ⟨gb,0,none⟩)]),(18,wait.v),(19, .int .i64 ((wait.l.length:Nat):Int)),(20, .int .i64 ((t:Nat):Int))] [.blk gb 204 [vb], .own 5 (⟨vb,bl⟩:Ls UInt8), .rblk g0 182 [words.v,owner.v], .at_ words, .at_ owner, .rblk g1 185 [.pointer (some ⟨g0,0,none⟩),wait.v], .at_ wait]∧m=wait.l.length-t) ⟨_,0,bs13.l,bs13.v,(by omega),(by simp [tqB,by8]),(by omega),h17.nf ⟨rfl,rfl,rfl,rfl,trivial⟩,rfl⟩ ?_
 clear h17
 rintro m16 a16 w16 ⟨t,bl,vb,ht,hbo,hbq,h16,hm16⟩
 refine gG h16<|sG (oltN _ _ rfl<|.nl)<|gK fun _ k19=>gcd rfl (fun hb20 hp20=> ?_) fun hb20 hp20=> ?_;clear h16
 ·skip
  refine gS<|hK k19<|gK fun _ k21=>gB<|sG (oxN sl_183 ti_267 (aA 6 rfl) _ om9 rfl<|olE ((nth wait.l t).v) ti_267 (aA 6 rfl) om9 rfl<|oM 1 rfl<|.nl)<|gK fun _ k23=>sK fun _ k24=>gNl (fun w h=>((h.at 6 rfl).nth t (show t<wait.l.length from (by omega)))) fun (hl25:((nth wait.l t).l).length≤140737488355328)=>gRn (oM 1 rfl<|oln (n:=((nth wait.l t).l).length) sl_267 (fun w h=>((h.at 6 rfl).nth t (show t<wait.l.length from (by omega)))) rfl<|oM 1 rfl<|.nl)<|nK k24<|gB<|?_
  have hq3:=hql t (by omega)
  intro a27 w27 h27
  refine x_loop (fun m a w=>∃(k:Nat) (bl2:List UInt8) (vb2:Value),(k≤(nth wait.l t).l.length)∧(bl2=bl++by8 ((((nth wait.l t).l.take k).map wtN).flatMap putB))∧(bl2.length≤bl.length+200*k)∧St 44 K W a w [(1, .func (.func 141) #[] #[.pointer (some ⟨gb,0,none⟩)]),(18,wait.v),(19, .int .i64 ((wait.l.length:Nat):Int)),(20, .int .i64 ((t:Nat):Int)),(24,(nth wait.l t).v),(25, .int .i64 ((((nth wait.l t).l).length:Nat):Int)),(26, .int .i64 ((k:Nat):Int))] [.blk gb 204 [vb2], .own 5 (⟨vb2,bl2⟩:Ls UInt8), .rblk g0 182 [words.v,owner.v], .at_ words, .at_ owner, .rblk g1 185 [.pointer (some ⟨g0,0,none⟩),wait.v], .at_ wait]∧m=(nth wait.l t).l.length-k) ⟨_,0,bl,vb,(by omega),(by simp [by8]),(by omega),h27.nf ⟨rfl,rfl,rfl,rfl,rfl,rfl,rfl,trivial⟩,rfl⟩ ?_
  clear h27
  rintro m26 a26 w26 ⟨k,bl2,vb2,hk,hbi,hbj,h26,hm26⟩
  refine gG h26<|sG (oltN _ _ rfl<|.nl)<|gK fun _ k29=>gcd rfl (fun hb30 hp30=> ?_) fun hb30 hp30=> ?_;clear h26
  ·skip
   refine gS<|hK k29<|gK fun _ k31=>gB<|sK fun _ k32=>gRn (oxN sl_267 ti_266 (fun w h=>((h.at 6 rfl).nth t (show t<wait.l.length from (by omega)))) _ om9 rfl<|olw2 [.bool ((nth ((nth wait.l t).l) k).lock), .int .i64 ((nth ((nth wait.l t).l) k).wh), .int .i64 ((nth ((nth wait.l t).l) k).what)] ti_266 (fun w h=>((h.at 6 rfl).nth t (show t<wait.l.length from (by omega)))) om9 rfl<|.nl)<|gal ti_266 rfl fun b33=>gsw 0 ti_266 rfl rfl rfl<|nK k32<|sG (oM 1 rfl<|.nl)<|?_
   have hxr:=hRq t (by omega) _ (nth_mem (nth wait.l t).l k (by omega))
   refine gK fun _ k36=>sG (ofB fl_266_0 rfl<|olB 0 ti_4 rfl rfl<|.nl)<|gCb rfl (fun hb38=> ?_) fun hb38=> ?_
   ·skip
    refine gL<|gRn (oM 1 rfl<|.nl)<|nK k36<|gL<|gRn (oM 2 rfl<|ofB fl_266_1 rfl<|olB 0 ti_3 rfl rfl<|ofB fl_266_2 rfl<|olB 0 ti_3 rfl rfl<|.nl)<|gE1 (fun _ _ h_=>x_lit (n:=3) (cs:= [.int .i64 1, .int .i64 ((nth ((nth wait.l t).l) k).wh), .int .i64 ((nth ((nth wait.l t).l) k).what)]) ([1,(nth ((nth wait.l t).l) k).wh,(nth ((nth wait.l t).l) k).what]:List Int) h_ sl_23 ti_3 rfl rfl rfl (by decide) rfl (by kernel_rfl) rfl (fun q hq w h=>Flat.inner _ _) (fun q hq b hb=>(Flat.on _ _ hb).elim) rfl rfl) rfl fun v39=>fun a41 w41 h41=> ?_
    have h40:St _ _ _ _ _ _ _:=⟨h41.fr,h41.sh.share 0 rfl⟩
    clear h41
    have h42:=h40.sel (L' := [_,_,_,_,_,_,_,_,_]) [2,3,0,1,4,5,6,7,8] rfl
    have hp43:=h42.sh.passL (Lp:= [_,_,_])
    refine wl_ex (x_call h42 bd_141 rfl rfl rfl rfl rfl (put1_c _ gb (⟨vb2,bl2⟩:Ls UInt8) (⟨v39, [1,(nth ((nth wait.l t).l) k).wh,(nth ((nth wait.l t).l) k).what]⟩:Ls Int) _ hp43 (R64L.row hxr (by unfold R64;omega)) (by show bl2.length+66*([1,(nth ((nth wait.l t).l) k).wh,(nth ((nth wait.l t).l) k).what]).length≤9000000000000;first|omega|(simp only [List.length_cons,List.length_nil];omega)))) (wanted_none rfl _) ?_
    rintro a44 w44 ⟨_,⟨rfl,bs44,hbl44,hs44⟩,hf44⟩
    have hbn44:=congrArg List.length hbl44;rw [List.length_append,by8_len] at hbn44;have hbm44:=putB_len (l:= [1,(nth ((nth wait.l t).l) k).wh,(nth ((nth wait.l t).l) k).what]) (R64L.row hxr (by unfold R64;omega))
    try dsimp only at hbn44 hbm44
    try simp only [List.length_cons,List.length_nil] at hbm44
    change Sh _ _ _ [.blk gb 204 [bs44.v], .own 5 bs44, .at_ (⟨v39, [1,(nth ((nth wait.l t).l) k).wh,(nth ((nth wait.l t).l) k).what]⟩:Ls Int)] at hs44
    have h44:St _ K W a44 w44 _ [_,_,_,_,_,_,_,_,_]:=⟨hf44,h42.sh.backI (Lp:= [_,_,_]) hs44⟩
    clear hf44 hs44
    clear h42
    refine gG h44<|nK k31<|gL<|gRn (oadN _ 1 om9 rfl<|oM 1 rfl<|.nl)<|nN<|fun a45 w45 h45=>x_again ⟨_, ?_,(k+1),bs44.l,bs44.v, ?_, ?_, ?_,h45.nrm ⟨rfl,rfl,rfl,rfl,rfl,rfl,rfl,trivial⟩ [0,1,4,5,6,7,8] rfl,rfl⟩;clear h44
    · rw [hm26];first|omega|(simp only [lens9];omega)
    · omega
    · exact tel_take (by omega) hbi (by assumption) (by unfold wtN;first|rw [if_pos (by assumption)]|rw [if_neg (by simp [*])])
    · first|omega|(simp only [List.length_cons,List.length_nil] at*;omega)
   refine gS<|hK k36<|gL<|gRn (oM 2 rfl<|ofB fl_266_1 rfl<|olB 0 ti_3 rfl rfl<|ofB fl_266_2 rfl<|olB 0 ti_3 rfl rfl<|.nl)<|gE1 (fun _ _ h_=>x_lit (n:=3) (cs:= [.int .i64 0, .int .i64 ((nth ((nth wait.l t).l) k).wh), .int .i64 ((nth ((nth wait.l t).l) k).what)]) ([0,(nth ((nth wait.l t).l) k).wh,(nth ((nth wait.l t).l) k).what]:List Int) h_ sl_23 ti_3 rfl rfl rfl (by decide) rfl (by kernel_rfl) rfl (fun q hq w h=>Flat.inner _ _) (fun q hq b hb=>(Flat.on _ _ hb).elim) rfl rfl) rfl fun v46=>fun a48 w48 h48=> ?_
   have h47:St _ _ _ _ _ _ _:=⟨h48.fr,h48.sh.share 0 rfl⟩
   clear h48
   have h49:=h47.sel (L' := [_,_,_,_,_,_,_,_,_]) [2,3,0,1,4,5,6,7,8] rfl
   have hp50:=h49.sh.passL (Lp:= [_,_,_])
   refine wl_ex (x_call h49 bd_141 rfl rfl rfl rfl rfl (put1_c _ gb (⟨vb2,bl2⟩:Ls UInt8) (⟨v46, [0,(nth ((nth wait.l t).l) k).wh,(nth ((nth wait.l t).l) k).what]⟩:Ls Int) _ hp50 (R64L.row hxr (by unfold R64;omega)) (by show bl2.length+66*([0,(nth ((nth wait.l t).l) k).wh,(nth ((nth wait.l t).l) k).what]).length≤9000000000000;first|omega|(simp only [List.length_cons,List.length_nil];omega)))) (wanted_none rfl _) ?_
   rintro a51 w51 ⟨_,⟨rfl,bs51,hbl51,hs51⟩,hf51⟩
   have hbn51:=congrArg List.length hbl51;rw [List.length_append,by8_len] at hbn51;have hbm51:=putB_len (l:= [0,(nth ((nth wait.l t).l) k).wh,(nth ((nth wait.l t).l) k).what]) (R64L.row hxr (by unfold R64;omega))
   try dsimp only at hbn51 hbm51
   try simp only [List.length_cons,List.length_nil] at hbm51
   change Sh _ _ _ [.blk gb 204 [bs51.v], .own 5 bs51, .at_ (⟨v46, [0,(nth ((nth wait.l t).l) k).wh,(nth ((nth wait.l t).l) k).what]⟩:Ls Int)] at hs51
   have h51:St _ K W a51 w51 _ [_,_,_,_,_,_,_,_,_]:=⟨hf51,h49.sh.backI (Lp:= [_,_,_]) hs51⟩
   clear hf51 hs51
   clear h49
   refine gG h51<|nK k31<|gL<|gRn (oadN _ 1 om9 rfl<|oM 1 rfl<|.nl)<|nN<|fun a52 w52 h52=>x_again ⟨_, ?_,(k+1),bs51.l,bs51.v, ?_, ?_, ?_,h52.nrm ⟨rfl,rfl,rfl,rfl,rfl,rfl,rfl,trivial⟩ [0,1,4,5,6,7,8] rfl,rfl⟩;clear h51
   · rw [hm26];first|omega|(simp only [lens9];omega)
   · omega
   · exact tel_take (by omega) hbi (by assumption) (by unfold wtN;first|rw [if_pos (by assumption)]|rw [if_neg (by simp [*])])
   · first|omega|(simp only [List.length_cons,List.length_nil] at*;omega)
  refine gX<|hK k23<|gL<|gRn (oM 1 rfl<|.nl)<|fun a55 w55 h55=> ?_
  have h54:=h55.nil (α:=Int) 3
  clear h55
  have h56:St _ _ _ _ _ _ _:=⟨h54.fr,h54.sh.share 0 rfl⟩
  clear h54
  have h57:=h56.sel (L' := [_,_,_,_,_,_,_,_]) [1,2,0,3,4,5,6,7] rfl
  have hp58:=h57.sh.passL (Lp:= [_,_,_])
  refine wl_ex (x_call h57 bd_141 rfl rfl rfl rfl rfl (put1_c _ gb (⟨vb2,bl2⟩:Ls UInt8) (⟨.slice none 0 0, []⟩:Ls Int) _ hp58 R64L.nil (by show bl2.length+66*([]).length≤9000000000000;first|omega|(simp only [List.length_cons,List.length_nil];omega)))) (wanted_none rfl _) ?_
  rintro a59 w59 ⟨_,⟨rfl,bs59,hbl59,hs59⟩,hf59⟩
  have hbn59:=congrArg List.length hbl59;rw [List.length_append,by8_len] at hbn59;have hbm59:=putB_len (l:= []) R64L.nil
  try dsimp only at hbn59 hbm59
  try simp only [List.length_cons,List.length_nil] at hbm59
  change Sh _ _ _ [.blk gb 204 [bs59.v], .own 5 bs59, .at_ (⟨.slice none 0 0, []⟩:Ls Int)] at hs59
  have h59:St _ K W a59 w59 _ [_,_,_,_,_,_,_,_]:=⟨hf59,h57.sh.backI (Lp:= [_,_,_]) hs59⟩
  clear hf59 hs59
  clear h57
  refine gG h59<|nK k21<|gL<|gRn (oadN _ 1 om9 rfl<|oM 1 rfl<|.nl)<|nN<|fun a60 w60 h60=>x_again ⟨_, ?_,(t+1),bs59.l,bs59.v, ?_, ?_, ?_,h60.nrm ⟨rfl,rfl,rfl,rfl,trivial⟩ [0,1,3,4,5,6,7] rfl,rfl⟩;clear h59
  · rw [hm16];first|omega|(simp only [lens9];omega)
  · omega
  · exact tel_row (by omega) (by omega) hbo hbi (by assumption)
  · first|omega|(simp only [List.length_nil] at*;omega)
 refine gX<|fun a61 w61 h61=> ?_
 try simp only [Exit.then,Exit.inBlock,if_true]
 refine x_end0 (fn:=Tryz.f215) rfl h61<|⟨rfl,⟨vb,bl⟩, ?_, ?_,h61.sh⟩
 ·show bl=_
  rw [hbo,show t=wait.l.length by omega,List.take_length,hbl13,List.flatMap_append,by8_app,List.append_assoc]
 ·show bl.length≤_
  omega
theorem tbTwin_c (g1 g0:Nat) (words owner:Ls Int) (wait:Ls (Ls Wt)) (W:World) (hB:Blk W g1 185 #[.pointer (some ⟨g0,0,none⟩),wait.v]) (hq:wait.At W) (hM:Blk W g0 182 #[words.v,owner.v]) (hw:words.At W) (ho:owner.At W) (hwl:words.l.length≤64) (hol:owner.l.length≤4) (hwc:wait.l.length≤4) (hql:∀t,t<wait.l.length→(nth wait.l t).l.length≤3):
    Rets Tryz.prog 217 [.pointer (some ⟨g1,0,none⟩)] W (fun v w' =>∃(gt g:Nat) (words' owner' :Ls Int) (q:Ls (Ls Wt)),v= .pointer (some ⟨gt,0,none⟩)∧words'.l=words.l∧owner'.l=owner.l∧(memT gt g).qs q=wait.l.map (·.l)∧Sh0 W w' (memA 182 3 (memT gt g) words' owner' q)):=by
 refine gen Tryz.func217 Tryz.ntmps217 (Sh0.ext (by intro A hA;simp only [List.mem_cons,List.not_mem_nil,or_false] at hA;rcases hA with rfl|rfl|rfl|rfl|rfl;exact hB;exact hq;exact hM;exact hw;exact ho) (by intro A hA b hb;simp only [List.mem_cons,List.not_mem_nil,or_false] at hA;rcases hA with rfl|rfl|rfl|rfl|rfl<;>exact hb):Sh (fun _=>False) W W [.rblk g1 185 [.pointer (some ⟨g0,0,none⟩),wait.v], .at_ wait, .rblk g0 182 [words.v,owner.v], .at_ words, .at_ owner]) rfl fun a10 h10=>gG h10<|sG (oM 1 rfl<|.nl)<|sK fun _ k12=>gRn (oM 1 rfl<|onf fl_185_0 rfl<|olR 0 ti_123 rfl rfl<|onf fl_182_0 rfl<|olR 2 ti_23 rfl rfl<|.nl)<|fun a15 w15 h15=>wv h15 (r_build (cs:= [(.slice none 0 0),words.v, .int .i64 0, .int .i64 0]) rfl rfl (by obtain ⟨A14,n14,c14,(e14:words.v=_)⟩:=((h15.sh.at 3 rfl)).form;rw [e14];kernel_rfl)) rfl rfl fun a16 h16=>gG h16<|gC (fun _ _ h_=>xCl h_ bd_81 rfl (pnew_c words 0 (.slice none 0 0) 0 _ (h_.sh.at 3 rfl) (by omega) (by omega))) rfl<|?_;clear h10 h15 h16
 rintro _ _ w17 ⟨g17,mw17,mo17,rfl,hmw17,hmo17,hs17⟩
 refine gWk hs17 rfl<|fun a17 h17=> ?_;clear hs17
 refine gG h17<|gRn (oV (r_build (cs:= [.pointer (some ⟨g17,0,none⟩),(.slice none 0 0)]) rfl rfl (by kernel_rfl)) rfl<|.nl)<|gbx rfl rfl fun b18=>gRn (oM 1 rfl<|.nl)<|nK k12<|gK fun _ k19=>rC [11,14] (by kernel_rfl) (by kernel_rfl) rfl<|pR [0,1,2,3,4,5,6,7,8,9,10] rfl (by kernel_rfl) (oM 1 rfl<|onfl 0 fl_185_0 ti_123 rfl rfl<|oM 1 rfl<|onf fl_185_0 rfl<|olR 4 ti_123 rfl rfl<|onf fl_182_1 rfl<|olR 6 ti_23 rfl rfl<|.nl) rfl<|pC (fun _ _ h_=>xCl h_ bd_44 rfl (cloneI_c owner _ (h_.sh.at 8 rfl) (by first|omega|(simp only [lens9];omega)))) rfl<|?_;clear h17
 rintro _ _ w20 ⟨s20,rfl,hs20⟩
 refine pWk hs20 rfl<|pR [0,1,2,3,12,13] rfl (by kernel_rfl) (oM 1 rfl<|onfl 1 fl_185_0 ti_123 rfl rfl<|onf fl_182_1 rfl<|.nl) rfl<|pS (fun _ _ h_=>x_stb (i:=2) (vs:= [s20.v]) (cs' := [mw17.v,s20.v]) h_ ti_23 rfl rfl rfl rfl rfl (cells_oneL ((h_.sh.own 0 rfl)).one) rfl (allOne_cons ((h_.sh.own 0 rfl)).one allOne_nil) (Nat.le_of_ble_eq_true rfl) rfl) rfl<|pE [] rfl (by kernel_rfl) (.nl) rfl<|hK k19<|gF [0,3] rfl<|gK fun _ k22=>sK fun _ k23=>gNl (aA 6 rfl) fun hl24=>gRn (oM 1 rfl<|onf fl_185_1 rfl<|olR 5 ti_183 rfl rfl<|oln sl_183 (aA 6 rfl) rfl<|oM 1 rfl<|.nl)<|nK k23<|gB<|fun a27 w27 h27=> ?_;clear hs20
 have h26:St _ _ _ _ _ _ _:=⟨h27.fr,Sh.nilMat (α:=Wt) (IE:=266) (E:=267) h27.sh⟩
 clear h27
 refine x_loop (fun m a w=>∃(t:Nat) (M:List (Ls Wt)) (vm:Value),(t≤wait.l.length)∧(M.map (·.l)=(wait.l.take t).map (·.l))∧(M.length=t)∧St 53 (fun _=>False) W a w [(3, .pointer (some ⟨b18,0,none⟩)),(34,wait.v),(35, .int .i64 ((wait.l.length:Nat):Int)),(36, .int .i64 ((t:Nat):Int))] [.own 3 (⟨s20.v,owner.l⟩:Ls Int), .blk b18 185 [.pointer (some ⟨g17,0,none⟩),vm], .blk g17 182 [mw17.v,s20.v], .own 3 mw17, .own 3 mo17, .rblk g1 185 [.pointer (some ⟨g0,0,none⟩),wait.v], .at_ wait, .rblk g0 182 [words.v,owner.v], .at_ words, .at_ owner, .big (matX (.own 266) 267 vm M)]∧m=wait.l.length-t) ⟨_,0, [],(.slice none 0 0),(by omega),(rfl),(rfl),h26.nrm ⟨rfl,rfl,rfl,rfl,trivial⟩ [1,2,3,4,5,6,7,8,9,10,0] rfl,rfl⟩ ?_
 clear h26
 rintro m25 a25 w25 ⟨t,M,vm,ht,hM9,hMn,h25,hm25⟩
 refine gG h25<|sG (oltN _ _ rfl<|.nl)<|gK fun _ k29=>gcd rfl (fun hb30 hp30=> ?_) fun hb30 hp30=> ?_;clear h25
 ·skip
  refine gS<|hK k29<|gK fun _ k31=>gB<|sG (oxN sl_183 ti_267 (aA 6 rfl) _ om9 rfl<|olE ((nth wait.l t).v) ti_267 (aA 6 rfl) om9 rfl<|oM 1 rfl<|.nl)<|rC [6,7,8,11] (by kernel_rfl) (by kernel_rfl) rfl<|pR [0,1,2,3,4,5] rfl (by kernel_rfl) (oM 2 rfl<|onfl 1 fl_185_1 ti_183 rfl rfl<|oM 1 rfl<|.nl) rfl<|pC (fun _ _ h_=>xCl h_ bd_219 rfl (cloneW_c (nth wait.l t) _ ((h_.sh.at 6 rfl).nth t (show t<wait.l.length from (by omega))) (by have:=hql t (by omega);omega))) rfl<|?_
  rintro _ _ w33 ⟨s33,rfl,hs33⟩
  refine pWk hs33 rfl<|pR [0,1,2,3,4] rfl (by kernel_rfl) (oM 2 rfl<|onfl 2 fl_185_1 ti_183 rfl rfl<|.nl) rfl<|pX (fun _ _ h_=>x_lit (n:=1) (cs:= [s33.v]) ([⟨s33.v⟩]:List RV) h_ sl_183 ti_267 rfl rfl rfl (by decide) rfl (by obtain ⟨A34,n34,c34,(e34:s33.v=_)⟩:=((h_.sh.own 0 rfl)).form;rw [e34];kernel_rfl) rfl (fun _ _ _ _=>trivial) (fun q hq b hb=>(Flat.on _ _ hb).elim) rfl rfl) rfl fun v35=>pR [0,1,2,3,4] rfl (by kernel_rfl) (oM 2 rfl<|onfl 3 fl_185_1 ti_183 rfl rfl<|.nl) rfl<|pO [12,1,0,2,3,4,5,6,7,8,9,10,11] rfl<|pX (fun _ _ h_=>x_appRow h_ sl_183 ti_267 rfl rfl rfl rfl rfl (show (M.length+1)*24≤140737488355328∧M.length+1≤140737488355328 from om9) rfl rfl) rfl fun v37=>pR [0,9,10] rfl (by kernel_rfl) (oM 1 rfl<|onf fl_185_1 rfl<|.nl) rfl<|pS (fun _ _ h_=>x_stb (i:=2) (vs:= [v37]) (cs' := [.pointer (some ⟨g17,0,none⟩),v37]) h_ ti_183 rfl rfl rfl rfl rfl (cells_oneL ((h_.sh.matAt 0 rfl)).one) rfl (allOne_cons ((h_.sh.matAt 0 rfl)).one allOne_nil) (Nat.le_of_ble_eq_true rfl) rfl) rfl<|pE [] rfl (by kernel_rfl) (.nl) rfl<|hK k31<|gL<|gRn (oadN _ 1 om9 rfl<|oM 1 rfl<|.nl)<|nN<|fun a39 w39 h39=> ?_;clear hs33
  refine x_again ⟨_, ?_,(t+1),M++ [(⟨s33.v,(nth wait.l t).l⟩:Ls Wt)],v37, ?_, ?_, ?_,h39.nrm ⟨rfl,rfl,rfl,rfl,trivial⟩ [1,2,3,4,5,6,7,8,9,10,0] rfl,rfl⟩
  · rw [hm25];first|omega|(simp only [lens9];omega)
  · omega
  · rw [take_succ_nth _ _ (by omega),List.map_append,List.map_append,hM9];rfl
  · (rw [List.length_append];simp only [List.length_cons,List.length_nil];omega)
 refine gX<|hK k22<|sG (oM 2 rfl<|.nl)<|gR<|fun a41 w41 h41=> ?_
 try simp only [Exit.then,Exit.inBlock]
 refine x_ret1 (fn:=Tryz.f217) (t:=2) rfl h41 rfl ?_
 exact ⟨b18,g17,⟨mw17.v,mw17.l⟩,⟨s20.v,owner.l⟩,⟨vm,M⟩,rfl,hmw17,rfl,(by show M.map (·.l)=wait.l.map (·.l);rw [hM9,show t=wait.l.length by omega,List.take_length]),memT_close (q:=⟨vm,M⟩) (h41.sh.sel [1,10,2,3,0] rfl)⟩
theorem psCopy_c (g2 g1 g0:Nat) (words owner:Ls Int) (wait:Ls (Ls Wt)) (W:World) (hL:Blk W g2 159 #[.pointer (some ⟨g1,0,none⟩)]) (hB:Blk W g1 185 #[.pointer (some ⟨g0,0,none⟩),wait.v]) (hq:wait.At W) (hM:Blk W g0 182 #[words.v,owner.v]) (hw:words.At W) (ho:owner.At W) (hwl:words.l.length≤64) (hol:owner.l.length≤4) (hwc:wait.l.length≤4) (hql:∀t,t<wait.l.length→(nth wait.l t).l.length≤3):
    Rets Tryz.prog 222 [.pointer (some ⟨g2,0,none⟩)] W (fun v w' =>∃(gl gt g:Nat) (words' owner' :Ls Int) (q:Ls (Ls Wt)),v= .iface 157 (.pointer (some ⟨gl,0,none⟩))∧words'.l=words.l∧owner'.l=owner.l∧(memL gl gt g).qs q=wait.l.map (·.l)∧Sh0 W w' (memA 182 3 (memL gl gt g) words' owner' q)):=by
 refine gen Tryz.func222 Tryz.ntmps222 (Sh0.ext (by intro A hA;simp only [List.mem_cons,List.not_mem_nil,or_false] at hA;rcases hA with rfl|rfl|rfl|rfl|rfl|rfl;exact hL;exact hB;exact hq;exact hM;exact hw;exact ho) (by intro A hA b hb;simp only [List.mem_cons,List.not_mem_nil,or_false] at hA;rcases hA with rfl|rfl|rfl|rfl|rfl|rfl<;>exact hb):Sh (fun _=>False) W W [.rblk g2 159 [.pointer (some ⟨g1,0,none⟩)], .rblk g1 185 [.pointer (some ⟨g0,0,none⟩),wait.v], .at_ wait, .rblk g0 182 [words.v,owner.v], .at_ words, .at_ owner]) rfl fun a10 h10=>gG h10<|sG (oM 1 rfl<|.nl)<|sK fun _ k12=>gRn (oM 1 rfl<|onf fl_159_0 rfl<|olR 0 ti_125 rfl rfl<|.nl)<|fun a14 w14 h14=>wl_ex (x_call h14 bd_217 rfl rfl rfl rfl rfl (tbTwin_c g1 g0 words owner wait _ (h14.sh.rblk 1 rfl) (h14.sh.at 2 rfl) (h14.sh.rblk 3 rfl) (h14.sh.at 4 rfl) (h14.sh.at 5 rfl) hwl hol hwc hql)) (wanted_none rfl _) ?_;clear h10
 rintro a15 w15 ⟨_,⟨gt15,g15,mw15,mo15,q15,rfl,hmw15,hmo15,hq15,hs15⟩,hf15⟩
 have h15:=(⟨hf15,h14.sh.call hs15 (by intro A hA b hb;simp only [memA,List.mem_cons,List.not_mem_nil,or_false] at hA;first|(subst hA;exact Flat.noRd hb)|(rcases hA with rfl|rfl|rfl|rfl<;>first|exact (hb:False).elim|exact Flat.noRd hb|exact (memT_rd hb).elim))⟩:St 11 (fun _=>False) W a15 w15 _ _)
 clear hf15 hs15
 clear h14
 refine gG h15<|gRn (oV (r_build (cs:= [.pointer (some ⟨gt15,0,none⟩)]) rfl rfl (by kernel_rfl)) rfl<|.nl)<|gbx rfl rfl fun b16=>gRn (oV (Rn.same (r_mkIfP (T:=157) Tryz.underlying157 rfl rfl) rfl) rfl<|oM 1 rfl<|.nl)<|nK k12<|gR<|fun a17 w17 h17=> ?_;clear h15
 try simp only [Exit.then,Exit.inBlock]
 refine x_ret1 (fn:=Tryz.f222) (t:=2) rfl h17 rfl ?_
 exact ⟨b16,gt15,g15,mw15,mo15,q15,rfl,hmw15,hmo15,hq15,memL_close (h17.sh.sel [1,2,3,4,0] rfl)⟩
end Go.Proofs.YtmjkobhkkjgplaaGreatDoor
