/- Part 3 of the texts. -/
import Derived.Test.YtmbfcgpneflbmaaQ2
import Derived.Laws.IdiomCopy
import Derived.ProofKit
import Derived.OpenShut
import Derived.Deep.Slices
import Derived.Carry
import Derived.SizedLaws
namespace Go.Proofs.Ytmbfcgpneflbmaa
open Go.RowKit
set_option linter.unusedSimpArgs false
set_option linter.unusedVariables false
set_option maxRecDepth 100000
set_option maxHeartbeats 1000000
def kAt (s:ByteArray)(k:Nat):Int:=if h:k<s.size then ((s[k]'h).toNat:Int) else 0
theorem kAt_at {s:ByteArray}{k:Nat}(h:k<s.size):kAt s k=((s[k]'h).toNat:Int):=dif_pos h
theorem kinds_small (op:Int):(kindsB op).size≤3∧∀k (h:k<(kindsB op).size),((kindsB op)[k]'h).toNat<128:=by
 by_cases h:1≤op∧op≤18
 ·rcases cases18 op h with h|h|h|h|h|h|h|h|h|h|h|h|h|h|h|h|h|h<;>subst h<;>decide+kernel
 ·rw [kindsB_none op h]
  exact ⟨by decide+kernel,fun k hk=>absurd hk (Nat.not_lt_zero k)⟩
def rdK (x:Ins)(k:Nat):Bool:=decide (kAt (kindsB x.op) k=114)&& !(decide (k=0)&&decide (x.op≠13)&&decide (0≤wrG x))
def rdTo (x:Ins)(n:Nat):List Int:=(List.range n).flatMap fun k=>if rdK x k=true then [nth [x.a,x.b,x.c] k] else []
theorem rdTo_succ (x:Ins)(n:Nat):rdTo x (n+1)=rdTo x n++if rdK x n=true then [nth [x.a,x.b,x.c] n] else []:=by
 unfold rdTo
 rw [List.range_succ,List.flatMap_append]
 simp
theorem rdTo_yes {x:Ins}{n:Nat}{ol:List Int}(h:ol=rdTo x n)(hk:rdK x n=true):ol++ [nth [x.a,x.b,x.c] n]=rdTo x (n+1):=by rw [rdTo_succ,h,if_pos hk]
theorem rdTo_no {x:Ins}{n:Nat}{ol:List Int}(h:ol=rdTo x n)(hk:rdK x n=false):ol=rdTo x (n+1):=by rw [rdTo_succ,h,if_neg (by rw [hk];decide),List.append_nil]
theorem rdK_no {x:Ins}{n:Nat}(h:¬kAt (kindsB x.op) n=114):rdK x n=false:=by unfold rdK;rw [decide_eq_false h,Bool.false_and]
theorem rdK_off {x:Ins}{n:Nat}(h1:n=0)(h2:x.op≠13)(h3:0≤wrG x):rdK x n=false:=by unfold rdK;rw [decide_eq_true h1,decide_eq_true h2,decide_eq_true h3];simp
theorem rdK_on {x:Ins}{n:Nat}(h:kAt (kindsB x.op) n=114)(h2:n≠0∨x.op=13∨¬0≤wrG x):rdK x n=true:=by
 unfold rdK
 rw [decide_eq_true h,Bool.true_and]
 rcases h2 with h2|h2|h2
 ·rw [decide_eq_false h2];rfl
 ·rw [decide_eq_false (show¬x.op≠13 from fun e=>e h2)];simp
 ·rw [decide_eq_false h2];simp
theorem rdTo_all (x:Ins)(hop:1≤x.op∧x.op≤18)(hw:x.op≤8∨x.op=10→0≤x.a):rdTo x (kindsB x.op).size=rdG x:=by
 obtain ⟨op,a,b,c⟩:=x
 simp only at hop hw
 have key:∀(l:List UInt8),kindsB op=⟨l.toArray⟩→∀k,kAt (kindsB op) k=((l[k]?).map fun b=>(b.toNat:Int)).getD 0:=by
  intro l hl k
  rw [hl]
  unfold kAt
  by_cases h:k<l.length
  ·rw [dif_pos (by simpa [ByteArray.size] using h),List.getElem?_eq_getElem h];rfl
  ·rw [dif_neg (by simpa [ByteArray.size] using h),List.getElem?_eq_none (by omega)];rfl
 rcases cases18 op hop with h|h|h|h|h|h|h|h|h|h|h|h|h|h|h|h|h|h<;>subst h
 ·have e:kindsB 1=⟨[114,110].toArray⟩:=by unfold kindsB;simp
  have hk:=key _ e
  have e0:=hk 0
  have e1:=hk 1
  have e2:=hk 2
  simp at e0 e1 e2
  have ez:(kindsB 1).size=2:=by rw [e];rfl
  have h0:0≤a:=hw (by decide)
  simp [rdTo,rdK,ez,e0,e1,e2,wrG,rdG,nth,List.range_succ,h0]
 ·have e:kindsB 2=⟨[114,114].toArray⟩:=by unfold kindsB;simp
  have hk:=key _ e
  have e0:=hk 0
  have e1:=hk 1
  have e2:=hk 2
  simp at e0 e1 e2
  have ez:(kindsB 2).size=2:=by rw [e];rfl
  have h0:0≤a:=hw (by decide)
  simp [rdTo,rdK,ez,e0,e1,e2,wrG,rdG,nth,List.range_succ,h0]
 ·have e:kindsB 3=⟨[114,114,114].toArray⟩:=by unfold kindsB;simp
  have hk:=key _ e
  have e0:=hk 0
  have e1:=hk 1
  have e2:=hk 2
  simp at e0 e1 e2
  have ez:(kindsB 3).size=3:=by rw [e];rfl
  have h0:0≤a:=hw (by decide)
  simp [rdTo,rdK,ez,e0,e1,e2,wrG,rdG,nth,List.range_succ,h0]
 ·have e:kindsB 4=⟨[114,114,114].toArray⟩:=by unfold kindsB;simp
  have hk:=key _ e
  have e0:=hk 0
  have e1:=hk 1
  have e2:=hk 2
  simp at e0 e1 e2
  have ez:(kindsB 4).size=3:=by rw [e];rfl
  have h0:0≤a:=hw (by decide)
  simp [rdTo,rdK,ez,e0,e1,e2,wrG,rdG,nth,List.range_succ,h0]
 ·have e:kindsB 5=⟨[114,114,114].toArray⟩:=by unfold kindsB;simp
  have hk:=key _ e
  have e0:=hk 0
  have e1:=hk 1
  have e2:=hk 2
  simp at e0 e1 e2
  have ez:(kindsB 5).size=3:=by rw [e];rfl
  have h0:0≤a:=hw (by decide)
  simp [rdTo,rdK,ez,e0,e1,e2,wrG,rdG,nth,List.range_succ,h0]
 ·have e:kindsB 6=⟨[114,114,114].toArray⟩:=by unfold kindsB;simp
  have hk:=key _ e
  have e0:=hk 0
  have e1:=hk 1
  have e2:=hk 2
  simp at e0 e1 e2
  have ez:(kindsB 6).size=3:=by rw [e];rfl
  have h0:0≤a:=hw (by decide)
  simp [rdTo,rdK,ez,e0,e1,e2,wrG,rdG,nth,List.range_succ,h0]
 ·have e:kindsB 7=⟨[114,114,114].toArray⟩:=by unfold kindsB;simp
  have hk:=key _ e
  have e0:=hk 0
  have e1:=hk 1
  have e2:=hk 2
  simp at e0 e1 e2
  have ez:(kindsB 7).size=3:=by rw [e];rfl
  have h0:0≤a:=hw (by decide)
  simp [rdTo,rdK,ez,e0,e1,e2,wrG,rdG,nth,List.range_succ,h0]
 ·have e:kindsB 8=⟨[114,119].toArray⟩:=by unfold kindsB;simp
  have hk:=key _ e
  have e0:=hk 0
  have e1:=hk 1
  have e2:=hk 2
  simp at e0 e1 e2
  have ez:(kindsB 8).size=2:=by rw [e];rfl
  have h0:0≤a:=hw (by decide)
  simp [rdTo,rdK,ez,e0,e1,e2,wrG,rdG,nth,List.range_succ,h0]
 ·have e:kindsB 9=⟨[119,114].toArray⟩:=by unfold kindsB;simp
  have hk:=key _ e
  have e0:=hk 0
  have e1:=hk 1
  have e2:=hk 2
  simp at e0 e1 e2
  have ez:(kindsB 9).size=2:=by rw [e];rfl
  simp [rdTo,rdK,ez,e0,e1,e2,wrG,rdG,nth,List.range_succ]
 ·have e:kindsB 10=⟨[114,114].toArray⟩:=by unfold kindsB;simp
  have hk:=key _ e
  have e0:=hk 0
  have e1:=hk 1
  have e2:=hk 2
  simp at e0 e1 e2
  have ez:(kindsB 10).size=2:=by rw [e];rfl
  have h0:0≤a:=hw (by decide)
  simp [rdTo,rdK,ez,e0,e1,e2,wrG,rdG,nth,List.range_succ,h0]
 ·have e:kindsB 11=⟨[114,114].toArray⟩:=by unfold kindsB;simp
  have hk:=key _ e
  have e0:=hk 0
  have e1:=hk 1
  have e2:=hk 2
  simp at e0 e1 e2
  have ez:(kindsB 11).size=2:=by rw [e];rfl
  simp [rdTo,rdK,ez,e0,e1,e2,wrG,rdG,nth,List.range_succ]
 ·have e:kindsB 12=⟨[].toArray⟩:=by unfold kindsB;simp
  have hk:=key _ e
  have e0:=hk 0
  have e1:=hk 1
  have e2:=hk 2
  simp at e0 e1 e2
  have ez:(kindsB 12).size=0:=by rw [e];rfl
  simp [rdTo,rdK,ez,e0,e1,e2,wrG,rdG,nth,List.range_succ]
 ·have e:kindsB 13=⟨[119,114,114].toArray⟩:=by unfold kindsB;simp
  have hk:=key _ e
  have e0:=hk 0
  have e1:=hk 1
  have e2:=hk 2
  simp at e0 e1 e2
  have ez:(kindsB 13).size=3:=by rw [e];rfl
  simp [rdTo,rdK,ez,e0,e1,e2,wrG,rdG,nth,List.range_succ]
 ·have e:kindsB 14=⟨[99].toArray⟩:=by unfold kindsB;simp
  have hk:=key _ e
  have e0:=hk 0
  have e1:=hk 1
  have e2:=hk 2
  simp at e0 e1 e2
  have ez:(kindsB 14).size=1:=by rw [e];rfl
  simp [rdTo,rdK,ez,e0,e1,e2,wrG,rdG,nth,List.range_succ]
 ·have e:kindsB 15=⟨[114,99].toArray⟩:=by unfold kindsB;simp
  have hk:=key _ e
  have e0:=hk 0
  have e1:=hk 1
  have e2:=hk 2
  simp at e0 e1 e2
  have ez:(kindsB 15).size=2:=by rw [e];rfl
  simp [rdTo,rdK,ez,e0,e1,e2,wrG,rdG,nth,List.range_succ]
 ·have e:kindsB 16=⟨[114].toArray⟩:=by unfold kindsB;simp
  have hk:=key _ e
  have e0:=hk 0
  have e1:=hk 1
  have e2:=hk 2
  simp at e0 e1 e2
  have ez:(kindsB 16).size=1:=by rw [e];rfl
  simp [rdTo,rdK,ez,e0,e1,e2,wrG,rdG,nth,List.range_succ]
 ·have e:kindsB 17=⟨[108].toArray⟩:=by unfold kindsB;simp
  have hk:=key _ e
  have e0:=hk 0
  have e1:=hk 1
  have e2:=hk 2
  simp at e0 e1 e2
  have ez:(kindsB 17).size=1:=by rw [e];rfl
  simp [rdTo,rdK,ez,e0,e1,e2,wrG,rdG,nth,List.range_succ]
 ·have e:kindsB 18=⟨[108].toArray⟩:=by unfold kindsB;simp
  have hk:=key _ e
  have e0:=hk 0
  have e1:=hk 1
  have e2:=hk 2
  simp at e0 e1 e2
  have ez:(kindsB 18).size=1:=by rw [e];rfl
  simp [rdTo,rdK,ez,e0,e1,e2,wrG,rdG,nth,List.range_succ]
theorem kinds_c (op:Int)(W:World):
    Rets Try.prog 71 [.int .i64 op] W (fun v w' =>v= .string (kindsB op)∧Sh0 W w' []):=by
 refine gen Try.func71 Try.ntmps71 (Sh0.start W:Sh (fun _=>False) W W []) rfl fun a10 h10=>gG h10<|sG (oM 1 rfl<|.nl)<|sK fun _ k12=>fun a14 w14 h14=>wl_ex (x_call h14 bd_54 rfl rfl rfl rfl rfl (shapes_c _)) (wanted_none rfl _) ?_;clear h10
 rintro a15 w15 ⟨_,⟨g15,rfl,hs15⟩,hf15⟩
 have h15:=(⟨hf15,h14.sh.call hs15 (by intro A hA b hb;first|(simp at hA;done)|(simp at hA;subst hA;first|exact Flat.noRd hb|exact (hb:False).elim)|(simp at hA;rcases hA with rfl|rfl<;>first|exact Flat.noRd hb|exact (hb:False).elim))⟩:St 7 (fun _=>False) W a15 w15 _ _)
 clear hf15 hs15
 clear h14
 refine gG h15<|gRn (oM 1 rfl<|oV (r_lookShp (i:=0) rfl rfl rfl rfl) rfl<|oV (r_fieldK rfl rfl) rfl<|oM 1 rfl<|.nl)<|nK k12<|gR<|fun a16 w16 h16=>x_ret1 (fn:=Try.f71) (t:=2) rfl h16 rfl ?_;clear h15
 exact ⟨rfl,(h16.sh.sel [] rfl)⟩
theorem reads_c (x:Ins)(W:World)(hop:1≤x.op∧x.op≤18)(hw:x.op≤8∨x.op=10→0≤x.a):
    Rets Try.prog 69 [.agg #[.int .i64 x.op, .int .i64 x.a, .int .i64 x.b, .int .i64 x.c]] W (fun v w' =>∃s:Ls Int,v=s.v∧s.l=rdG x∧Sh0 W w' [.own 3 s]):=by
 refine gen Try.func69 Try.ntmps69 (Sh0.start W:Sh (fun _=>False) W W []) rfl fun a10 h10=>gG h10<|sK fun _ k11=>gbx rfl rfl fun b12=>gRn (oM 1 rfl<|.nl)<|nK k11<|sG (oM 1 rfl<|.nl)<|gK fun _ k14=>sK fun _ k15=>gRn (ofB fl_47_0 rfl<|olB 0 ti_3 rfl rfl<|.nl)<|gP (fun _ _ h_=>xCl h_ bd_71 rfl (kinds_c x.op _)) rfl<|gE1 (fun _ _ h_=>x_range (s:=kindsB x.op) h_ Try.underlying9 rfl rfl rfl rfl) rfl fun b17=>nK k15<|gB<|fun a20 w20 h20=> ?_;clear h10
 have h19:=h20.nil (α:=Int) 3
 clear h20
 refine x_loop (fun m a w=>∃(i:Nat) (ol:List Int) (vo:Value),(i≤(kindsB x.op).size)∧(ol=rdTo x i)∧(ol.length≤i)∧St 47 (fun _=>False) W a w [(1, .pointer (some ⟨b12,0,none⟩)),(3,vo),(10, .pointer (some ⟨b17,0,none⟩))] [.iter b17 (kindsB x.op) i, .blk b12 47 [.int .i64 x.op, .int .i64 x.a, .int .i64 x.b, .int .i64 x.c], .own 3 (⟨vo,ol⟩:Ls Int)]∧m=(kindsB x.op).size-i) ⟨_,0, [],(.slice none 0 0),(Nat.zero_le _),(rfl),(Nat.le_refl _),h19.nrm ⟨rfl,rfl,rfl,trivial⟩ [1,2,0] rfl,rfl⟩ ?_
 clear h19
 rintro m18 a18 w18 ⟨i,ol,vo,hi,hol,hoi,h18,hm18⟩
 have h3:=(kinds_small x.op).1
 refine gG h18<|sK fun _ k21=> ?_;clear h18
 by_cases hn22:i<(kindsB x.op).size
 ·intro a23 w23 h23
  refine wl_ex (x_next (i:=0) (s:=(kindsB x.op)) (pos:=i) h23 rfl rfl rfl hn22 ((kinds_small x.op).2 _ hn22) rfl rfl) (wanted_none rfl _) ?_
  rintro a24 w24 h24
  clear h23
  refine gG h24<|gRn (oxt rfl<|.nl)<|nK k21<|gK fun _ k25=>gcT rfl rfl<|gS<|hK k25<|gB<|sG (oxt rfl<|oxt rfl<|oM 2 rfl<|.nl)<|sK fun _ k27=>gRn (ofB fl_47_1 rfl<|olB 1 ti_3 rfl rfl<|ofB fl_47_2 rfl<|olB 1 ti_3 rfl rfl<|ofB fl_47_3 rfl<|olB 1 ti_3 rfl rfl<|.nl)<|gE1 (fun _ _ h_=>x_lit (n:=3) (cs:= [.int .i64 x.a, .int .i64 x.b, .int .i64 x.c]) ([x.a,x.b,x.c]:List Int) h_ sl_23 ti_3 rfl rfl rfl (by decide) rfl (by kernel_rfl) rfl (fun q hq w h=>Flat.inner _ _) (fun q hq b hb=>(Flat.on _ _ hb).elim) rfl rfl) rfl fun v28=>gNl (aO 0 rfl) fun (hl29:([x.a,x.b,x.c]).length≤140737488355328)=>gRn (oM 1 rfl<|oxN sl_23 ti_3 (aO 0 rfl) _ (show i<([x.a,x.b,x.c]).length from om9) rfl<|olE (.int .i64 (nth ([x.a,x.b,x.c]) i)) ti_3 (aO 0 rfl) (show i<([x.a,x.b,x.c]).length from om9) rfl<|oM 1 rfl<|.nl)<|nK k27<|sK fun _ k30=>gRn (oM 1 rfl<|oeqI _ _ rfl<|oM 1 rfl<|.nl)<|?_;clear h24
  rcases dsp ((((kindsB x.op)[i]'hn22).toNat:Int)=114) with ⟨hb31,hp31⟩|⟨hb31,hp31⟩
  ·skip
   refine gRn (oG hb31 (r_move rfl rfl) rfl<|oG hb31 (r_eqlN (p:=i) (q:=0) rfl rfl rfl) rfl<|oG hb31 (r_move rfl rfl) rfl<|.nl)<|?_
   rcases dsp (i=0) with ⟨hb32,hp32⟩|⟨hb32,hp32⟩
   ·skip
    refine gRn (oG hb32 (r_fieldB (r:=0) fl_47_0 rfl rfl rfl) rfl<|oG hb32 (r_ldb (i:=2) ti_3 rfl rfl rfl rfl) rfl<|oG hb32 (r_neqI (p:=x.op) (q:=13) rfl rfl rfl) rfl<|oG hb31 (r_pickT rfl rfl hb32 rfl) rfl<|oG hb31 (r_move rfl rfl) rfl<|.nl)<|?_
    rcases dsp (x.op≠13) with ⟨hb33,hp33⟩|⟨hb33,hp33⟩
    ·skip
     refine gRn (oG hb33 (r_ldbw (i:=2) (vs:= [.int .i64 x.op, .int .i64 x.a, .int .i64 x.b, .int .i64 x.c]) ti_47 rfl rfl rfl rfl rfl) rfl<|.nl)<|fun a34 w34 h34=>wl_ex (x_call h34 bd_61 rfl rfl rfl rfl rfl (writes_c x _ (by omega))) (wanted_yes h34.fr rfl rfl rfl rfl hb33) ?_
     rintro a35 w35 ⟨_,⟨rfl,hs35⟩,hf35⟩
     have h35:St 47 (fun _=>False) W a35 w35 _ _:=⟨hf35,h34.sh.call0 hs35⟩
     clear hf35 hs35
     clear h34
     refine gG h35<|gRn (oG hb33 (r_geqI (p:=wrG x) (q:=0) rfl rfl rfl) rfl<|oG hb31 (r_pickT rfl rfl hb33 rfl) rfl<|oG hb31 (r_not rfl rfl) rfl<|opT hb31 rfl<|.nl)<|nK k30<|gF [1,3,6,10,41] rfl<|?_;clear h35
     refine gCb rfl (fun hb36=> ?_) fun hb36=> ?_
     ·have hp36:¬(0≤wrG x):=by simpa using hb36
      refine gL<|gRn (oM 2 rfl<|.nl)<|gE1 (fun _ _ h_=>x_lit (n:=1) (cs:= [.int .i64 (nth ([x.a,x.b,x.c]) i)]) ([nth ([x.a,x.b,x.c]) i]:List Int) h_ sl_23 ti_3 rfl rfl rfl (by decide) rfl (by kernel_rfl) rfl (fun q hq w h=>Flat.inner _ _) (fun q hq b hb=>(Flat.on _ _ hb).elim) rfl rfl) rfl fun v37=>gE1 (fun _ _ h_=>x_app (r:=4) (rm:=0) (s:=(⟨vo,ol⟩:Ls Int)) (m:=(⟨v37, [nth ([x.a,x.b,x.c]) i]⟩:Ls Int)) h_ sl_23 ti_3 rfl rfl rfl rfl rfl rfl rfl (fun w h=>(h.own 0 rfl)) (fun b hb=>own_on (h_.sh.ok _ (List.mem_of_getElem? (i:=0) rfl)) hb) (fun q hq b hb=>⟨q,hq,hb⟩) rfl rfl rfl inferInstance (show (ol.length+([nth ([x.a,x.b,x.c]) i]).length)*8≤140737488355328∧ol.length+([nth ([x.a,x.b,x.c]) i]).length≤140737488355328 from om9) rfl rfl) rfl fun v38=>gRn (oM 1 rfl<|.nl)<|nN<|fun a39 w39 h39=> ?_
      change∃_m,_m<_∧_
      refine ⟨_, ?_,i+1,ol++([nth ([x.a,x.b,x.c]) i]),v38, ?_, ?_, ?_,h39.nrm ⟨rfl,rfl,rfl,trivial⟩ [2,3,4] rfl,rfl⟩
      · rw [hm18];first|omega|(simp only [lens9];omega)
      · omega
      · first|exact rdTo_yes hol (rdK_on (by rw [kAt_at (by assumption)];assumption) (by first|(left;assumption)|(right;left;omega)|(right;right;assumption)))|exact rdTo_no hol (rdK_no (by rw [kAt_at (by assumption)];assumption))|exact rdTo_no hol (rdK_off (by assumption) (by assumption) (by assumption))
      · first|omega|(simp;omega)
     have hp36:0≤wrG x:=by simpa using hb36
     refine gS<|fun a40 w40 h40=> ?_
     change∃_m,_m<_∧_
     refine ⟨_, ?_,i+1,ol,vo, ?_, ?_, ?_,h40.nrm ⟨rfl,rfl,rfl,trivial⟩ [1,2,3] rfl,rfl⟩
     · rw [hm18];first|omega|(simp only [lens9];omega)
     · omega
     · first|exact rdTo_yes hol (rdK_on (by rw [kAt_at (by assumption)];assumption) (by first|(left;assumption)|(right;left;omega)|(right;right;assumption)))|exact rdTo_no hol (rdK_no (by rw [kAt_at (by assumption)];assumption))|exact rdTo_no hol (rdK_off (by assumption) (by assumption) (by assumption))
     · first|omega|(simp;omega)
    refine gRn (oKs 3 hb33 rfl rfl<|oG hb31 (r_pickF rfl rfl hb33 rfl) rfl<|oG hb31 (r_not rfl rfl) rfl<|opT hb31 rfl<|.nl)<|nK k30<|gF [1,3,6,10,41] rfl<|gcT rfl rfl<|gL<|gRn (oM 2 rfl<|.nl)<|gE1 (fun _ _ h_=>x_lit (n:=1) (cs:= [.int .i64 (nth ([x.a,x.b,x.c]) i)]) ([nth ([x.a,x.b,x.c]) i]:List Int) h_ sl_23 ti_3 rfl rfl rfl (by decide) rfl (by kernel_rfl) rfl (fun q hq w h=>Flat.inner _ _) (fun q hq b hb=>(Flat.on _ _ hb).elim) rfl rfl) rfl fun v41=>gE1 (fun _ _ h_=>x_app (r:=4) (rm:=0) (s:=(⟨vo,ol⟩:Ls Int)) (m:=(⟨v41, [nth ([x.a,x.b,x.c]) i]⟩:Ls Int)) h_ sl_23 ti_3 rfl rfl rfl rfl rfl rfl rfl (fun w h=>(h.own 0 rfl)) (fun b hb=>own_on (h_.sh.ok _ (List.mem_of_getElem? (i:=0) rfl)) hb) (fun q hq b hb=>⟨q,hq,hb⟩) rfl rfl rfl inferInstance (show (ol.length+([nth ([x.a,x.b,x.c]) i]).length)*8≤140737488355328∧ol.length+([nth ([x.a,x.b,x.c]) i]).length≤140737488355328 from om9) rfl rfl) rfl fun v42=>gRn (oM 1 rfl<|.nl)<|nN<|fun a43 w43 h43=> ?_
    change∃_m,_m<_∧_
    refine ⟨_, ?_,i+1,ol++([nth ([x.a,x.b,x.c]) i]),v42, ?_, ?_, ?_,h43.nrm ⟨rfl,rfl,rfl,trivial⟩ [2,3,4] rfl,rfl⟩
    · rw [hm18];first|omega|(simp only [lens9];omega)
    · omega
    · first|exact rdTo_yes hol (rdK_on (by rw [kAt_at (by assumption)];assumption) (by first|(left;assumption)|(right;left;omega)|(right;right;assumption)))|exact rdTo_no hol (rdK_no (by rw [kAt_at (by assumption)];assumption))|exact rdTo_no hol (rdK_off (by assumption) (by assumption) (by assumption))
    · first|omega|(simp;omega)
   refine gRn (oKs 3 hb32 rfl rfl<|oG hb31 (r_pickF rfl rfl hb32 rfl) rfl<|oG hb31 (r_move rfl rfl) rfl<|oKs 3 rfl rfl rfl<|oG hb31 (r_pickF rfl rfl rfl rfl) rfl<|oG hb31 (r_not rfl rfl) rfl<|opT hb31 rfl<|.nl)<|nK k30<|gF [1,3,6,10,41] rfl<|gcT rfl rfl<|gL<|gRn (oM 2 rfl<|.nl)<|gE1 (fun _ _ h_=>x_lit (n:=1) (cs:= [.int .i64 (nth ([x.a,x.b,x.c]) i)]) ([nth ([x.a,x.b,x.c]) i]:List Int) h_ sl_23 ti_3 rfl rfl rfl (by decide) rfl (by kernel_rfl) rfl (fun q hq w h=>Flat.inner _ _) (fun q hq b hb=>(Flat.on _ _ hb).elim) rfl rfl) rfl fun v44=>gE1 (fun _ _ h_=>x_app (r:=4) (rm:=0) (s:=(⟨vo,ol⟩:Ls Int)) (m:=(⟨v44, [nth ([x.a,x.b,x.c]) i]⟩:Ls Int)) h_ sl_23 ti_3 rfl rfl rfl rfl rfl rfl rfl (fun w h=>(h.own 0 rfl)) (fun b hb=>own_on (h_.sh.ok _ (List.mem_of_getElem? (i:=0) rfl)) hb) (fun q hq b hb=>⟨q,hq,hb⟩) rfl rfl rfl inferInstance (show (ol.length+([nth ([x.a,x.b,x.c]) i]).length)*8≤140737488355328∧ol.length+([nth ([x.a,x.b,x.c]) i]).length≤140737488355328 from om9) rfl rfl) rfl fun v45=>gRn (oM 1 rfl<|.nl)<|nN<|fun a46 w46 h46=> ?_
   change∃_m,_m<_∧_
   refine ⟨_, ?_,i+1,ol++([nth ([x.a,x.b,x.c]) i]),v45, ?_, ?_, ?_,h46.nrm ⟨rfl,rfl,rfl,trivial⟩ [2,3,4] rfl,rfl⟩
   · rw [hm18];first|omega|(simp only [lens9];omega)
   · omega
   · first|exact rdTo_yes hol (rdK_on (by rw [kAt_at (by assumption)];assumption) (by first|(left;assumption)|(right;left;omega)|(right;right;assumption)))|exact rdTo_no hol (rdK_no (by rw [kAt_at (by assumption)];assumption))|exact rdTo_no hol (rdK_off (by assumption) (by assumption) (by assumption))
   · first|omega|(simp;omega)
  refine gRn (oKs 3 hb31 rfl rfl<|oK2 rfl<|oK2 rfl<|oK2 rfl<|oKs 2 hb31 rfl rfl<|oK2 rfl<|oK2 rfl<|oK2 rfl<|oKs 2 hb31 rfl rfl<|opF hb31 rfl<|.nl)<|nK k30<|gF [1,3,6,10,41] rfl<|gcF rfl rfl<|gS<|fun a47 w47 h47=> ?_
  change∃_m,_m<_∧_
  refine ⟨_, ?_,i+1,ol,vo, ?_, ?_, ?_,h47.nrm ⟨rfl,rfl,rfl,trivial⟩ [1,2,3] rfl,rfl⟩
  · rw [hm18];first|omega|(simp only [lens9];omega)
  · omega
  · first|exact rdTo_yes hol (rdK_on (by rw [kAt_at (by assumption)];assumption) (by first|(left;assumption)|(right;left;omega)|(right;right;assumption)))|exact rdTo_no hol (rdK_no (by rw [kAt_at (by assumption)];assumption))|exact rdTo_no hol (rdK_off (by assumption) (by assumption) (by assumption))
  · first|omega|(simp;omega)
 intro a49 w49 h49
 refine wv h49 (r_nextEnd (i:=0) (s:=(kindsB x.op)) (pos:=i) rfl rfl rfl hn22) rfl rfl fun a48 h48=>gG h48<|gRn (oxt rfl<|.nl)<|nK k21<|gK fun _ k50=>gcF rfl rfl<|gX<|hK k14<|sG (oM 2 rfl<|.nl)<|gR<|fun a52 w52 h52=>x_ret1 (fn:=Try.f69) (t:=2) rfl h52 rfl<|⟨⟨vo,ol⟩,rfl, ?_,(h52.sh.sel [2] rfl)⟩;clear h49 h48
 show ol=_
 rw [hol,show i=(kindsB x.op).size by omega]
 exact rdTo_all x hop hw
theorem rReads_c (x:Ins)(W:World)(hop:1≤x.op∧x.op≤18)(hw:x.op≤8∨x.op=10→0≤x.a):
    Rets Try.prog 99 [.agg #[.int .i64 x.op, .int .i64 x.a, .int .i64 x.b, .int .i64 x.c]] W (fun v w' =>∃s:Ls Int,v=s.v∧s.l=rdG x∧Sh0 W w' [.own 3 s]):=by
 refine gen Try.func99 Try.ntmps99 (Sh0.start W:Sh (fun _=>False) W W []) rfl fun a10 h10=>gG h10<|sK fun _ k11=>gbx rfl rfl fun b12=>gRn (oM 1 rfl<|.nl)<|nK k11<|gK fun _ k13=>sG (ofB fl_47_0 rfl<|olB 0 ti_3 rfl rfl<|.nl)<|gB<|gK fun _ k15=>sG (oeqI _ _ rfl<|oM 1 rfl<|.nl)<|?_;clear h10
 refine gcd rfl (fun hb17 hp17=> ?_) fun hb17 hp17=> ?_
 ·skip
  refine gS<|hK k15<|gcT rfl hb17<|sK fun _ k18=>gRn (ofB fl_47_2 rfl<|olB 0 ti_3 rfl rfl<|.nl)<|gE1 (fun _ _ h_=>x_lit (n:=1) (cs:= [.int .i64 x.b]) ([x.b]:List Int) h_ sl_23 ti_3 rfl rfl rfl (by decide) rfl (by kernel_rfl) rfl (fun q hq w h=>Flat.inner _ _) (fun q hq b hb=>(Flat.on _ _ hb).elim) rfl rfl) rfl fun v19=>gRn (oM 1 rfl<|.nl)<|nK k18<|gR<|uB<|uT<|fun a20 w20 h20=>x_ret1 (fn:=Try.f99) (t:=2) rfl h20 rfl<|⟨⟨v19, [x.b]⟩,rfl, ?_,(h20.sh.sel [0] rfl)⟩
  show [x.b]=_
  unfold rdG
  (repeat' split)<;>first|rfl|(exfalso;omega)
 refine gL<|gRn (oeqI _ _ rfl<|oM 1 rfl<|.nl)<|nK k15<|gcd rfl (fun hb21 hp21=> ?_) fun hb21 hp21=> ?_
 ·skip
  refine sK fun _ k22=>gRn (ofB fl_47_2 rfl<|olB 0 ti_3 rfl rfl<|.nl)<|gE1 (fun _ _ h_=>x_lit (n:=1) (cs:= [.int .i64 x.b]) ([x.b]:List Int) h_ sl_23 ti_3 rfl rfl rfl (by decide) rfl (by kernel_rfl) rfl (fun q hq w h=>Flat.inner _ _) (fun q hq b hb=>(Flat.on _ _ hb).elim) rfl rfl) rfl fun v23=>gRn (oM 1 rfl<|.nl)<|nK k22<|gR<|uB<|uT<|fun a24 w24 h24=>x_ret1 (fn:=Try.f99) (t:=2) rfl h24 rfl<|⟨⟨v23, [x.b]⟩,rfl, ?_,(h24.sh.sel [0] rfl)⟩
  show [x.b]=_
  unfold rdG
  (repeat' split)<;>first|rfl|(exfalso;omega)
 refine gK fun _ k25=>sG (oeqI _ _ rfl<|oM 1 rfl<|.nl)<|gcd rfl (fun hb27 hp27=> ?_) fun hb27 hp27=> ?_
 ·skip
  refine gS<|hK k25<|gcT rfl hb27<|sK fun _ k28=>gRn (ofB fl_47_2 rfl<|olB 0 ti_3 rfl rfl<|ofB fl_47_3 rfl<|olB 0 ti_3 rfl rfl<|.nl)<|gE1 (fun _ _ h_=>x_lit (n:=2) (cs:= [.int .i64 x.b, .int .i64 x.c]) ([x.b,x.c]:List Int) h_ sl_23 ti_3 rfl rfl rfl (by decide) rfl (by kernel_rfl) rfl (fun q hq w h=>Flat.inner _ _) (fun q hq b hb=>(Flat.on _ _ hb).elim) rfl rfl) rfl fun v29=>gRn (oM 1 rfl<|.nl)<|nK k28<|gR<|uB<|uT<|fun a30 w30 h30=>x_ret1 (fn:=Try.f99) (t:=2) rfl h30 rfl<|⟨⟨v29, [x.b,x.c]⟩,rfl, ?_,(h30.sh.sel [0] rfl)⟩
  show [x.b,x.c]=_
  unfold rdG
  (repeat' split)<;>first|rfl|(exfalso;omega)
 refine sG (oeqI _ _ rfl<|oM 1 rfl<|.nl)<|gcd rfl (fun hb32 hp32=> ?_) fun hb32 hp32=> ?_
 ·skip
  refine gS<|hK k25<|gcT rfl hb32<|sK fun _ k33=>gRn (ofB fl_47_2 rfl<|olB 0 ti_3 rfl rfl<|ofB fl_47_3 rfl<|olB 0 ti_3 rfl rfl<|.nl)<|gE1 (fun _ _ h_=>x_lit (n:=2) (cs:= [.int .i64 x.b, .int .i64 x.c]) ([x.b,x.c]:List Int) h_ sl_23 ti_3 rfl rfl rfl (by decide) rfl (by kernel_rfl) rfl (fun q hq w h=>Flat.inner _ _) (fun q hq b hb=>(Flat.on _ _ hb).elim) rfl rfl) rfl fun v34=>gRn (oM 1 rfl<|.nl)<|nK k33<|gR<|uB<|uT<|fun a35 w35 h35=>x_ret1 (fn:=Try.f99) (t:=2) rfl h35 rfl<|⟨⟨v34, [x.b,x.c]⟩,rfl, ?_,(h35.sh.sel [0] rfl)⟩
  show [x.b,x.c]=_
  unfold rdG
  (repeat' split)<;>first|rfl|(exfalso;omega)
 refine sG (oeqI _ _ rfl<|oM 1 rfl<|.nl)<|gcd rfl (fun hb37 hp37=> ?_) fun hb37 hp37=> ?_
 ·skip
  refine gS<|hK k25<|gcT rfl hb37<|sK fun _ k38=>gRn (ofB fl_47_2 rfl<|olB 0 ti_3 rfl rfl<|ofB fl_47_3 rfl<|olB 0 ti_3 rfl rfl<|.nl)<|gE1 (fun _ _ h_=>x_lit (n:=2) (cs:= [.int .i64 x.b, .int .i64 x.c]) ([x.b,x.c]:List Int) h_ sl_23 ti_3 rfl rfl rfl (by decide) rfl (by kernel_rfl) rfl (fun q hq w h=>Flat.inner _ _) (fun q hq b hb=>(Flat.on _ _ hb).elim) rfl rfl) rfl fun v39=>gRn (oM 1 rfl<|.nl)<|nK k38<|gR<|uB<|uT<|fun a40 w40 h40=>x_ret1 (fn:=Try.f99) (t:=2) rfl h40 rfl<|⟨⟨v39, [x.b,x.c]⟩,rfl, ?_,(h40.sh.sel [0] rfl)⟩
  show [x.b,x.c]=_
  unfold rdG
  (repeat' split)<;>first|rfl|(exfalso;omega)
 refine sG (oeqI _ _ rfl<|oM 1 rfl<|.nl)<|gcd rfl (fun hb42 hp42=> ?_) fun hb42 hp42=> ?_
 ·skip
  refine gS<|hK k25<|gcT rfl hb42<|sK fun _ k43=>gRn (ofB fl_47_2 rfl<|olB 0 ti_3 rfl rfl<|ofB fl_47_3 rfl<|olB 0 ti_3 rfl rfl<|.nl)<|gE1 (fun _ _ h_=>x_lit (n:=2) (cs:= [.int .i64 x.b, .int .i64 x.c]) ([x.b,x.c]:List Int) h_ sl_23 ti_3 rfl rfl rfl (by decide) rfl (by kernel_rfl) rfl (fun q hq w h=>Flat.inner _ _) (fun q hq b hb=>(Flat.on _ _ hb).elim) rfl rfl) rfl fun v44=>gRn (oM 1 rfl<|.nl)<|nK k43<|gR<|uB<|uT<|fun a45 w45 h45=>x_ret1 (fn:=Try.f99) (t:=2) rfl h45 rfl<|⟨⟨v44, [x.b,x.c]⟩,rfl, ?_,(h45.sh.sel [0] rfl)⟩
  show [x.b,x.c]=_
  unfold rdG
  (repeat' split)<;>first|rfl|(exfalso;omega)
 refine sG (oeqI _ _ rfl<|oM 1 rfl<|.nl)<|gcd rfl (fun hb47 hp47=> ?_) fun hb47 hp47=> ?_
 ·skip
  refine gS<|hK k25<|gcT rfl hb47<|sK fun _ k48=>gRn (ofB fl_47_2 rfl<|olB 0 ti_3 rfl rfl<|ofB fl_47_3 rfl<|olB 0 ti_3 rfl rfl<|.nl)<|gE1 (fun _ _ h_=>x_lit (n:=2) (cs:= [.int .i64 x.b, .int .i64 x.c]) ([x.b,x.c]:List Int) h_ sl_23 ti_3 rfl rfl rfl (by decide) rfl (by kernel_rfl) rfl (fun q hq w h=>Flat.inner _ _) (fun q hq b hb=>(Flat.on _ _ hb).elim) rfl rfl) rfl fun v49=>gRn (oM 1 rfl<|.nl)<|nK k48<|gR<|uB<|uT<|fun a50 w50 h50=>x_ret1 (fn:=Try.f99) (t:=2) rfl h50 rfl<|⟨⟨v49, [x.b,x.c]⟩,rfl, ?_,(h50.sh.sel [0] rfl)⟩
  show [x.b,x.c]=_
  unfold rdG
  (repeat' split)<;>first|rfl|(exfalso;omega)
 refine gL<|gRn (oeqI _ _ rfl<|oM 1 rfl<|.nl)<|nK k25<|gcd rfl (fun hb51 hp51=> ?_) fun hb51 hp51=> ?_
 ·skip
  refine sK fun _ k52=>gRn (ofB fl_47_2 rfl<|olB 0 ti_3 rfl rfl<|ofB fl_47_3 rfl<|olB 0 ti_3 rfl rfl<|.nl)<|gE1 (fun _ _ h_=>x_lit (n:=2) (cs:= [.int .i64 x.b, .int .i64 x.c]) ([x.b,x.c]:List Int) h_ sl_23 ti_3 rfl rfl rfl (by decide) rfl (by kernel_rfl) rfl (fun q hq w h=>Flat.inner _ _) (fun q hq b hb=>(Flat.on _ _ hb).elim) rfl rfl) rfl fun v53=>gRn (oM 1 rfl<|.nl)<|nK k52<|gR<|uB<|uT<|fun a54 w54 h54=>x_ret1 (fn:=Try.f99) (t:=2) rfl h54 rfl<|⟨⟨v53, [x.b,x.c]⟩,rfl, ?_,(h54.sh.sel [0] rfl)⟩
  show [x.b,x.c]=_
  unfold rdG
  (repeat' split)<;>first|rfl|(exfalso;omega)
 refine sG (oeqI _ _ rfl<|oM 1 rfl<|.nl)<|gcd rfl (fun hb56 hp56=> ?_) fun hb56 hp56=> ?_
 ·skip
  refine sK fun _ k57=>gRn (ofB fl_47_2 rfl<|olB 0 ti_3 rfl rfl<|.nl)<|gE1 (fun _ _ h_=>x_lit (n:=1) (cs:= [.int .i64 x.b]) ([x.b]:List Int) h_ sl_23 ti_3 rfl rfl rfl (by decide) rfl (by kernel_rfl) rfl (fun q hq w h=>Flat.inner _ _) (fun q hq b hb=>(Flat.on _ _ hb).elim) rfl rfl) rfl fun v58=>gRn (oM 1 rfl<|.nl)<|nK k57<|gR<|uB<|uT<|fun a59 w59 h59=>x_ret1 (fn:=Try.f99) (t:=2) rfl h59 rfl<|⟨⟨v58, [x.b]⟩,rfl, ?_,(h59.sh.sel [0] rfl)⟩
  show [x.b]=_
  unfold rdG
  (repeat' split)<;>first|rfl|(exfalso;omega)
 refine sG (oeqI _ _ rfl<|oM 1 rfl<|.nl)<|gcd rfl (fun hb61 hp61=> ?_) fun hb61 hp61=> ?_
 ·skip
  refine sK fun _ k62=>gRn (ofB fl_47_1 rfl<|olB 0 ti_3 rfl rfl<|ofB fl_47_2 rfl<|olB 0 ti_3 rfl rfl<|.nl)<|gE1 (fun _ _ h_=>x_lit (n:=2) (cs:= [.int .i64 x.a, .int .i64 x.b]) ([x.a,x.b]:List Int) h_ sl_23 ti_3 rfl rfl rfl (by decide) rfl (by kernel_rfl) rfl (fun q hq w h=>Flat.inner _ _) (fun q hq b hb=>(Flat.on _ _ hb).elim) rfl rfl) rfl fun v63=>gRn (oM 1 rfl<|.nl)<|nK k62<|gF [2] rfl<|gR<|uB<|uT<|fun a64 w64 h64=>x_ret1 (fn:=Try.f99) (t:=2) rfl h64 rfl<|⟨⟨v63, [x.a,x.b]⟩,rfl, ?_,(h64.sh.sel [0] rfl)⟩
  show [x.a,x.b]=_
  unfold rdG
  (repeat' split)<;>first|rfl|(exfalso;omega)
 refine gK fun _ k65=>sG (oeqI _ _ rfl<|oM 1 rfl<|.nl)<|gcd rfl (fun hb67 hp67=> ?_) fun hb67 hp67=> ?_
 ·skip
  refine gS<|hK k65<|gcT rfl hb67<|sK fun _ k68=>gRn (ofB fl_47_1 rfl<|olB 0 ti_3 rfl rfl<|.nl)<|gE1 (fun _ _ h_=>x_lit (n:=1) (cs:= [.int .i64 x.a]) ([x.a]:List Int) h_ sl_23 ti_3 rfl rfl rfl (by decide) rfl (by kernel_rfl) rfl (fun q hq w h=>Flat.inner _ _) (fun q hq b hb=>(Flat.on _ _ hb).elim) rfl rfl) rfl fun v69=>gRn (oM 1 rfl<|.nl)<|nK k68<|gF [2] rfl<|gR<|uB<|uT<|fun a70 w70 h70=>x_ret1 (fn:=Try.f99) (t:=2) rfl h70 rfl<|⟨⟨v69, [x.a]⟩,rfl, ?_,(h70.sh.sel [0] rfl)⟩
  show [x.a]=_
  unfold rdG
  (repeat' split)<;>first|rfl|(exfalso;omega)
 refine gL<|gRn (oeqI _ _ rfl<|oM 1 rfl<|.nl)<|nK k65<|gcd rfl (fun hb71 hp71=> ?_) fun hb71 hp71=> ?_
 ·skip
  refine sK fun _ k72=>gRn (ofB fl_47_1 rfl<|olB 0 ti_3 rfl rfl<|.nl)<|gE1 (fun _ _ h_=>x_lit (n:=1) (cs:= [.int .i64 x.a]) ([x.a]:List Int) h_ sl_23 ti_3 rfl rfl rfl (by decide) rfl (by kernel_rfl) rfl (fun q hq w h=>Flat.inner _ _) (fun q hq b hb=>(Flat.on _ _ hb).elim) rfl rfl) rfl fun v73=>gRn (oM 1 rfl<|.nl)<|nK k72<|gF [2] rfl<|gR<|uB<|uT<|fun a74 w74 h74=>x_ret1 (fn:=Try.f99) (t:=2) rfl h74 rfl<|⟨⟨v73, [x.a]⟩,rfl, ?_,(h74.sh.sel [0] rfl)⟩
  show [x.a]=_
  unfold rdG
  (repeat' split)<;>first|rfl|(exfalso;omega)
 refine gS<|hK k13<|sG (oM 1 rfl<|.nl)<|gR<|fun a76 w76 h76=>x_ret1 (fn:=Try.f99) (t:=2) rfl h76 rfl ?_
 have h77:=h76.nil (α:=Int) 3
 clear h76
 refine ⟨⟨(.slice none 0 0), []⟩,rfl, ?_,(h77.sh.sel [0] rfl)⟩
 show []=_
 unfold rdG
 (repeat' split)<;>first|rfl|(exfalso;omega)
theorem reads_ls {f:FuncId}{vs:List Value}{W:World}{l:List Int}(h:Rets Try.prog f vs W (fun v w' =>∃s:Ls Int,v=s.v∧s.l=l∧Sh0 W w' [.own 3 s])):Rets Try.prog f vs W (fun v w' =>∃s:Ls Int,v=s.v∧Sh0 W w' [.own 3 (⟨s.v,l⟩:Ls Int)]):=
 h.mono fun v w' ⟨s,h1,h2,h3⟩=>⟨s,h1,by subst h2;exact h3⟩
set_option maxHeartbeats 4000000
theorem fit114 {p:Pg}{size:Int}{x:Ins}{k:Nat}(h:okNumG p size x k=true)(hk:kAt (kindsB x.op) k=114):0≤x.num k∧x.num k<p.regs:=by
 unfold okNumG at h
 unfold kAt at hk
 split at h
 ·rename_i hlt
  rw [dif_pos hlt] at hk
  rw [hk] at h
  unfold fitsG at h
  simp only [Int.reduceEq,if_false,if_true,Bool.and_eq_true,decide_eq_true_eq] at h
  exact h
 ·rename_i hlt
  rw [dif_neg hlt] at hk
  cases hk
theorem kAt_a (op:Int)(h:1≤op∧op≤18)(h2:op≤8∨op=10)(h3:op≠9):kAt (kindsB op) 0=114:=by
 rcases cases18 op h with h|h|h|h|h|h|h|h|h|h|h|h|h|h|h|h|h|h<;>subst h<;>first|decide+kernel|(exfalso;omega)
theorem kAt_b :kAt (kindsB 13) 1=114:=by decide+kernel
theorem okV_ins {p:Pg}{size:Int}{x:Ins}(hr:1≤p.regs)(h:OkIns p size x):(1≤x.op∧x.op≤18)∧(x.op≤8∨x.op=10→0≤x.a)∧(-1≤wrG x∧wrG x<p.regs)∧∀v∈rdG x,0≤v∧v<p.regs:=by
 have ha:x.op≤8∨x.op=10→0≤x.a∧x.a<p.regs:=fun e=>fit114 (k:=0) h.n0 (kAt_a _ h.op e (by omega))
 refine ⟨h.op,fun e=>(ha e).1, ?_,fun v hv=> ?_⟩
 ·unfold wrG
  split
  ·rename_i e
   have:=fit114 (k:=1) h.n1 (by rw [e];exact kAt_b)
   have e2:x.num 1=x.b:=rfl
   omega
  ·split
   ·rename_i e;have:=ha (by omega);omega
   ·omega
 ·rw [←rdTo_all x h.op fun e=>(ha e).1] at hv
  unfold rdTo at hv
  obtain ⟨k,hk,hv⟩:=List.mem_flatMap.1 hv
  split at hv
  ·rename_i hd
   have hv:v=nth [x.a,x.b,x.c] k:=by simpa using hv
   subst hv
   have hk3:k<3:=by have:=(kinds_small x.op).1;have:=List.mem_range.1 hk;omega
   unfold rdK at hd
   have hd:=of_decide_eq_true ((Bool.and_eq_true _ _).mp hd).1
   rcases (by omega:k=0∨k=1∨k=2) with rfl|rfl|rfl
   ·exact fit114 (k:=0) h.n0 hd
   ·exact fit114 (k:=1) h.n1 hd
   ·exact fit114 (k:=2) h.n2 hd
  ·cases hv
theorem okV_of {code:Ls (Ls Ins)}{words:Ls Int}{locks regs:Int}(h:OkPg (pgOf code words locks regs))(t:Nat)(ht:t<code.l.length):OkV (nth code.l t).l regs:=by
 intro i hi
 have ht2:t<(pgOf code words locks regs).code.length:=by show t<(code.l.map (·.l)).length;simpa using ht
 have e:nth (pgOf code words locks regs).code t=(nth code.l t).l:=nth_map' _ _ _ ht
 have:=okV_ins h.regs.1 (h.ins t i ht2 (by rw [e];exact hi))
 rw [e] at this
 exact this
theorem sets_c (x:Ls Ins)(rg:Int)(f:Nat→Nat→Bool)(W:World)(hx:x.At W)(hl:x.l.length≤5000)(hj:JumpsOK x.l)(hok:OkV x.l rg)(hf:∀r j,(f r j=true↔LiveI x.l r j))(hrg:0≤rg∧rg≤200):
    Rets Try.prog 60 [x.v] W (fun v w' =>∃s:Ls BArr,v=s.v∧s.l=liveA f x.l.length∧Sh0 W w' [.own 119 s]):=by
 refine gen Try.func60 Try.ntmps60 (Sh0.ext1 hx:Sh (fun _=>False) W W [.at_ x]) rfl fun a10 h10=>gG h10<|sG (oM 1 rfl<|.nl)<|sK fun _ k12=>gNl (aA 0 rfl) fun hl13=>gRn (oM 1 rfl<|oln sl_45 (aA 0 rfl) rfl<|oadN _ 1 om9 rfl<|.nl)<|gE1 (fun _ _ h_=>x_makeAr (n:=x.l.length+1) h_ sl_115 ti_119 (by kernel_rfl) rfl rfl rfl (show 200*(x.l.length+1)≤140737488355328∧x.l.length+1≤140737488355328 from om9) rfl rfl) rfl fun v14=>gRn (oM 1 rfl<|.nl)<|nK k12<|gK fun _ k15=>sG (oM 1 rfl<|.nl)<|gB<|fun a18 w18 h18=>x_loop (fun m a w=>∃(a1:List BArr) (ag:Bool),(AI x.l a1)∧(ag=false→∀i,i<x.l.length→ClA x.l a1 i)∧St 85 (fun _=>False) W a w [(0,x.v),(3,v14),(4, .bool ag)] [.own 119 (⟨v14,a1⟩:Ls BArr), .at_ x]∧m=(bif ag then 1 else 0)+2*(200*(x.l.length+1)-cntA a1)) ⟨_,List.replicate (x.l.length+1) ⟨List.replicate 200 false⟩,true,(AI.start x.l),(fun h=>by cases h),h18.nf ⟨rfl,rfl,rfl,trivial⟩,rfl⟩ ?_;clear h10
 clear h18
 rintro m17 a17 w17 ⟨a1,ag,hai,hcl,h17,hm17⟩
 have hd1:=hai.l1
 refine gG h17<|gK fun _ k19=>sG (oM 1 rfl<|.nl)<|?_;clear h17
 refine gCb rfl (fun hb21=> ?_) fun hb21=> ?_
 ·skip
  refine gS<|hK k19<|gB<|sG (oM 1 rfl<|.nl)<|sG (oM 1 rfl<|oln sl_45 (aA 1 rfl) rfl<|osbI _ _ om9 rfl<|oM 1 rfl<|.nl)<|gB<|fun a25 w25 h25=>x_loop (fun m a w=>∃(k:Nat) (a2:List BArr) (ag2:Bool),(k≤x.l.length)∧(AI x.l a2)∧(ag2=false→a2=a1∧∀i,k≤i→i<x.l.length→ClA x.l a2 i)∧(ag2=true→cntA a1<cntA a2)∧St 85 (fun _=>False) W a w [(0,x.v),(3,v14),(4, .bool ag2),(5, .int .i64 (((k:Nat):Int)-1))] [.own 119 (⟨v14,a2⟩:Ls BArr), .at_ x]∧m=k) ⟨_,x.l.length,a1,false,(by omega),(hai),(fun _=>⟨rfl,fun i hi hi2=>absurd hi (by omega)⟩),(fun h=>by cases h),h25.nf ⟨rfl,rfl,rfl,rfl,trivial⟩,rfl⟩ ?_
  clear h25
  rintro m24 a24 w24 ⟨k,a2,ag2,hk,hai2,h20,h21,h24,hm24⟩
  have hd3:=hai2.l1
  refine gG h24<|gK fun _ k26=>sG (oM 1 rfl<|ogeI _ _ rfl<|.nl)<|?_;clear h24
  refine gcd rfl (fun hb28 hp28=> ?_) fun hb28 hp28=> ?_
  ·skip
   obtain ⟨j,rfl⟩:∃j,k=j+1:=⟨k-1,by omega⟩
   intro a30 w30 h30
   have h29:St 85 (fun _=>False) W a30 w30 [(0,x.v),(3,v14),(4, .bool ag2),(5, .int .i64 ((j:Nat):Int)),(22, .int .i64 ((j:Nat):Int))] [.own 119 (⟨v14,a2⟩:Ls BArr), .at_ x]:=(h30.sub (F' := [(0,x.v),(3,v14),(4, .bool ag2),(5, .int .i64 (((j+1:Nat):Int)-1)),(22, .int .i64 (((j+1:Nat):Int)-1))]) ⟨rfl,rfl,rfl,rfl,rfl,trivial⟩).cg (by simp only [show (((j+1:Nat):Int)-1)=((j:Nat):Int) by omega])
   clear h30
   refine gG h29<|gS<|hK k26<|gK fun _ k31=>gB<|sK fun _ k32=>gE1 (fun _ _ h_=>x_allocAr (k:=200) h_ ti_119 (by kernel_rfl) rfl rfl rfl) rfl fun b33=>nK k32<|gK fun _ k34=>sK fun _ k35=>gRn (oM 2 rfl<|.nl)<|gC (fun _ _ h_=>xCl h_ bd_62 rfl (nexts_c x j _ (h_.sh.at 2 rfl) (by omega) (by omega))) rfl<|?_;clear h29
   rintro _ _ w36 ⟨s36,rfl,hs36⟩
   refine gWk hs36 rfl<|gU<|gNl (aO 0 rfl) fun (hl37:(nextsL x.l j).length≤140737488355328)=>gRn (oln (n:=(nextsL x.l j).length) sl_23 (aO 0 rfl) rfl<|oM 1 rfl<|.nl)<|nK k35<|gB<|?_;clear hs36
   have hnl9:=nextsV_len x.l j
   intro a39 w39 h39
   refine x_loop (fun m a w=>∃(q:Nat) (nw:List Bool),(q≤(nextsL x.l j).length)∧(nw.length=200)∧(∀b,b<200→nth nw b=((nextsL x.l j).take q).any fun y=>col a2 b y.toNat)∧St 85 (fun _=>False) W a w [(0,x.v),(3,v14),(4, .bool ag2),(5, .int .i64 ((j:Nat):Int)),(6, .pointer (some ⟨b33,0,none⟩)),(28,s36.v),(29, .int .i64 (((nextsL x.l j).length:Nat):Int)),(30, .int .i64 ((q:Nat):Int))] [.own 3 (⟨s36.v,nextsL x.l j⟩:Ls Int), .blk b33 119 (nw.map Value.bool), .own 119 (⟨v14,a2⟩:Ls BArr), .at_ x]∧m=(nextsL x.l j).length-q) ⟨_,0,List.replicate 200 false,(by omega),(List.length_replicate),(fun b _=>by rw [zerosV,any_zero]),h39.nf ⟨rfl,rfl,rfl,rfl,rfl,rfl,rfl,rfl,trivial⟩,rfl⟩ ?_
   clear h39
   rintro m38 a38 w38 ⟨q,nw,hq,hnl,hnw,h38,hm38⟩
   refine gG h38<|sG (oltN _ _ rfl<|.nl)<|gK fun _ k41=>gcd rfl (fun hb42 hp42=> ?_) fun hb42 hp42=> ?_;clear h38
   ·skip
    refine gS<|hK k41<|gK fun _ k43=>gB<|sG (oxN sl_23 ti_3 (aO 0 rfl) _ om9 rfl<|olE (.int .i64 (nth (nextsL x.l j) q)) ti_3 (aO 0 rfl) om9 rfl<|oM 1 rfl<|.nl)<|?_
    have hmm:nth (nextsL x.l j) q∈nextsL x.l j:=nth_mem _ _ (by omega)
    have hnx:=nextsV_ok hj (by omega) hmm
    have hA2:(nth a2 (nth (nextsL x.l j) q).toNat).l.length=200:=hai2.l2 _ (by omega)
    refine sK fun _ k45=>gNl (aO 2 rfl) fun (hl46:a2.length≤140737488355328)=>gRn (oM 2 rfl<|oxI sl_115 ti_119 (aO 2 rfl) om9 rfl<|oV (r_ldewAr (n:=0) (i:=(nth (nextsL x.l j) q).toNat) (s:=(⟨v14,a2⟩:Ls BArr)) ti_119 rfl rfl (fun w h=>(h.own 2 rfl)) (show (nth (nextsL x.l j) q).toNat<a2.length from om9)) rfl<|oM 1 rfl<|.nl)<|nK k45<|gB<|fun a48 w48 h48=>x_loop (fun m a w=>∃(r:Nat) (nw2:List Bool),(r≤200)∧(nw2.length=200)∧(∀b,b<200→nth nw2 b=(nth nw b||(decide (b<r)&&nth (nth a2 (nth (nextsL x.l j) q).toNat).l b)))∧St 85 (fun _=>False) W a w [(0,x.v),(3,v14),(4, .bool ag2),(5, .int .i64 ((j:Nat):Int)),(6, .pointer (some ⟨b33,0,none⟩)),(28,s36.v),(29, .int .i64 (((nextsL x.l j).length:Nat):Int)),(30, .int .i64 ((q:Nat):Int)),(37, .agg (((nth a2 ((nth (nextsL x.l j) q).toNat)).l).map Value.bool).toArray),(38, .int .i64 ((r:Nat):Int))] [.own 3 (⟨s36.v,nextsL x.l j⟩:Ls Int), .blk b33 119 (nw2.map Value.bool), .own 119 (⟨v14,a2⟩:Ls BArr), .at_ x]∧m=200-r) ⟨_,0,nw,(by omega),(hnl),(or_zero),h48.nf ⟨rfl,rfl,rfl,rfl,rfl,rfl,rfl,rfl,rfl,rfl,trivial⟩,rfl⟩ ?_
    clear h48
    rintro m47 a47 w47 ⟨r,nw2,hr,hnl2,hnw2,h47,hm47⟩
    refine gG h47<|sG (oltN _ 200 rfl<|.nl)<|gK fun _ k50=>gcd rfl (fun hb51 hp51=> ?_) fun hb51 hp51=> ?_;clear h47
    ·skip
     refine gS<|hK k50<|gK fun _ k52=>gB<|sG (oM 1 rfl<|oV (r_ixV (cs:=((nth a2 ((nth (nextsL x.l j) q).toNat)).l).map Value.bool) (q:=r) ar_119 ti_4 rfl rfl rfl (show r<200 from om9) (nth_bool (by rw [show ((nth a2 ((nth (nextsL x.l j) q).toNat)).l).length=200 from (by first|assumption|(simp only [lens9];done)|(simp only [lens9];first|assumption|omega)|rfl)];omega))) rfl<|oM 2 rfl<|.nl)<|gL<|gRn (oM 2 rfl<|oV (r_ixAr (q:=r) ar_119 ti_4 rfl rfl rfl rfl (show r<200 from om9)) rfl<|oV (r_ldAr (i:=1) (l:=nw2) ti_4 rfl rfl rfl (show r<nw2.length from (by rw [show nw2.length=200 from (by first|assumption|(simp only [lens9];done)|(simp only [lens9];first|assumption|omega)|rfl)];omega))) rfl<|oM 1 rfl<|.nl)<|?_
     rcases Bool.eq_false_or_eq_true (nth nw2 r) with hb54|hb54
     ·skip
      refine gRn (oK hb54 rfl<|opT hb54 rfl<|oV (r_ixAr (q:=r) ar_119 ti_4 rfl rfl rfl rfl (show r<200 from om9)) rfl<|.nl)<|gE (fun _ _ h_=>x_stAr (i:=1) (l:=nw2) (b:=true) h_ ti_4 rfl rfl rfl rfl rfl (show r<nw2.length from (by rw [show nw2.length=200 from (by first|assumption|(simp only [lens9];done)|(simp only [lens9];first|assumption|omega)|rfl)];omega))) rfl<|nK k52<|gL<|gRn (oadN _ 1 om9 rfl<|oM 1 rfl<|.nl)<|nN<|fun a56 w56 h56=> ?_
      refine x_again ⟨_, ?_,r+1,nw2.set r true, ?_, ?_, ?_,h56.nf ⟨rfl,rfl,rfl,rfl,rfl,rfl,rfl,rfl,rfl,rfl,trivial⟩,rfl⟩
      · rw [hm47];first|omega|(simp only [lens9];omega)
      · omega
      · first|assumption|(simp only [List.length_set];assumption)
      · first|exact or_step hnl2 (by omega) hnw2 (by rw [show nth nw2 r=true by assumption];rfl)|exact or_step hnl2 (by omega) hnw2 (by rw [show nth nw2 r=false by assumption];rfl)
     refine gRn (oG hb54 (r_move rfl rfl) rfl<|opF hb54 rfl<|oV (r_ixAr (q:=r) ar_119 ti_4 rfl rfl rfl rfl (show r<200 from om9)) rfl<|.nl)<|gE (fun _ _ h_=>x_stAr (i:=1) (l:=nw2) (b:=(nth ((nth a2 ((nth (nextsL x.l j) q).toNat)).l) r)) h_ ti_4 rfl rfl rfl rfl rfl (show r<nw2.length from (by rw [show nw2.length=200 from (by first|assumption|(simp only [lens9];done)|(simp only [lens9];first|assumption|omega)|rfl)];omega))) rfl<|nK k52<|gL<|gRn (oadN _ 1 om9 rfl<|oM 1 rfl<|.nl)<|nN<|fun a58 w58 h58=> ?_
     refine x_again ⟨_, ?_,r+1,nw2.set r (nth ((nth a2 ((nth (nextsL x.l j) q).toNat)).l) r), ?_, ?_, ?_,h58.nf ⟨rfl,rfl,rfl,rfl,rfl,rfl,rfl,rfl,rfl,rfl,trivial⟩,rfl⟩
     · rw [hm47];first|omega|(simp only [lens9];omega)
     · omega
     · first|assumption|(simp only [List.length_set];assumption)
     · first|exact or_step hnl2 (by omega) hnw2 (by rw [show nth nw2 r=true by assumption];rfl)|exact or_step hnl2 (by omega) hnw2 (by rw [show nth nw2 r=false by assumption];rfl)
    refine gX<|hK k43<|gL<|gRn (oadN _ 1 om9 rfl<|oM 1 rfl<|.nl)<|nN<|fun a59 w59 h59=>x_again ⟨_, ?_,q+1,nw2, ?_, ?_, ?_,h59.nf ⟨rfl,rfl,rfl,rfl,rfl,rfl,rfl,rfl,trivial⟩,rfl⟩
    · rw [hm38];first|omega|(simp only [lens9];omega)
    · omega
    · exact hnl2
    · exact or_end (by omega) (by omega) hnw hnw2
   refine gX<|hK k34<|?_
   have hww:=(hok j (by omega)).2.2.1
   refine gK fun _ k60=>sK fun _ k61=>gRn (oM 2 rfl<|oxN sl_45 ti_47 (aA 3 rfl) _ om9 rfl<|olw2 [.int .i64 ((nth x.l j).op), .int .i64 ((nth x.l j).a), .int .i64 ((nth x.l j).b), .int .i64 ((nth x.l j).c)] ti_47 (aA 3 rfl) om9 rfl<|.nl)<|gP (fun _ _ h_=>xCl h_ bd_61 rfl (writes_c (nth x.l j) _ (by have h8:=(hok j (by omega)).1;omega))) rfl<|gRn (oM 1 rfl<|.nl)<|nK k61<|sG (oM 1 rfl<|ogeI _ _ rfl<|.nl)<|gcd rfl (fun hb64 hp64=> ?_) fun hb64 hp64=> ?_
   ·skip
    refine gL<|gRn (oM 1 rfl<|oV (r_ixArI (q:=wrG (nth x.l j)) ar_119 ti_4 rfl rfl rfl rfl (show 0≤wrG (nth x.l j)∧wrG (nth x.l j)<200 from om9)) rfl<|.nl)<|gE (fun _ _ h_=>x_stAr (i:=1) (l:=nw) (b:=false) h_ ti_4 rfl rfl rfl rfl rfl (show (wrG (nth x.l j)).toNat<nw.length from (by rw [show nw.length=200 from (by first|assumption|(simp only [lens9];done)|(simp only [lens9];first|assumption|omega)|rfl)];omega))) rfl<|nK k60<|gK fun _ k66=>sK fun _ k67=>gRn (oM 2 rfl<|oxN sl_45 ti_47 (aA 3 rfl) _ om9 rfl<|olw2 [.int .i64 ((nth x.l j).op), .int .i64 ((nth x.l j).a), .int .i64 ((nth x.l j).b), .int .i64 ((nth x.l j).c)] ti_47 (aA 3 rfl) om9 rfl<|.nl)<|gC (fun _ _ h_=>xCl h_ bd_69 rfl (reads_ls (reads_c (nth x.l j) _ (by have h8:=(hok j (by omega)).1;omega) (hok j (by omega)).2.1))) rfl<|?_
    rintro _ _ w68 ⟨s68,rfl,hs68⟩
    refine gWk hs68 rfl<|gU<|gNl (aO 0 rfl) fun (hl69:(rdG (nth x.l j)).length≤140737488355328)=>gRn (oln (n:=(rdG (nth x.l j)).length) sl_23 (aO 0 rfl) rfl<|oM 1 rfl<|.nl)<|nK k67<|gB<|?_;clear hs68
    have hrl:=rdG_len (nth x.l j)
    have hall:∀b,b<200→nth nw b=(nextsL x.l j).any fun y=>col a2 b y.toNat:=fun b hb=>by rw [hnw b hb,any_all (by omega)]
    intro a71 w71 h71
    refine x_loop (fun m a w=>∃(q5:Nat) (nw3:List Bool),(q5≤(rdG (nth x.l j)).length)∧(nw3.length=200)∧(∀b,b<200→nth nw3 b=((decide (wrG (nth x.l j)≠(b:Int))&&(nextsL x.l j).any fun y=>col a2 b y.toNat)||((rdG (nth x.l j)).take q5).any fun v=>decide (v=(b:Int))))∧St 85 (fun _=>False) W a w [(0,x.v),(3,v14),(4, .bool ag2),(5, .int .i64 ((j:Nat):Int)),(6, .pointer (some ⟨b33,0,none⟩)),(65,s68.v),(66, .int .i64 (((rdG (nth x.l j)).length:Nat):Int)),(67, .int .i64 ((q5:Nat):Int))] [.own 3 (⟨s68.v,rdG (nth x.l j)⟩:Ls Int), .own 3 (⟨s36.v,nextsL x.l j⟩:Ls Int), .blk b33 119 (nw3.map Value.bool), .own 119 (⟨v14,a2⟩:Ls BArr), .at_ x]∧m=(rdG (nth x.l j)).length-q5) ⟨_,0,nw.set ((wrG (nth x.l j)).toNat) false,(by omega),(by first|assumption|(simp only [List.length_set];assumption)),(by first|exact wr_off hnl hall (by assumption)|exact wr_none hall (by assumption)),h71.nf ⟨rfl,rfl,rfl,rfl,rfl,rfl,rfl,rfl,trivial⟩,rfl⟩ ?_
    clear h71
    rintro m70 a70 w70 ⟨q5,nw3,hq5,hnl3,hnw3,h70,hm70⟩
    refine gG h70<|sG (oltN _ _ rfl<|.nl)<|gK fun _ k73=>gcd rfl (fun hb74 hp74=> ?_) fun hb74 hp74=> ?_;clear h70
    ·skip
     refine gS<|hK k73<|gK fun _ k75=>gB<|sG (oxN sl_23 ti_3 (aO 0 rfl) _ om9 rfl<|olE (.int .i64 (nth (rdG (nth x.l j)) q5)) ti_3 (aO 0 rfl) om9 rfl<|oM 1 rfl<|.nl)<|?_
     have hr5:=(hok j (by omega)).2.2.2 _ (nth_mem (rdG (nth x.l j)) q5 (by omega))
     refine gL<|gRn (oM 1 rfl<|oV (r_ixArI (q:=nth (rdG (nth x.l j)) q5) ar_119 ti_4 rfl rfl rfl rfl (show 0≤nth (rdG (nth x.l j)) q5∧nth (rdG (nth x.l j)) q5<200 from om9)) rfl<|.nl)<|gE (fun _ _ h_=>x_stAr (i:=2) (l:=nw3) (b:=true) h_ ti_4 rfl rfl rfl rfl rfl (show (nth (rdG (nth x.l j)) q5).toNat<nw3.length from (by rw [show nw3.length=200 from (by first|assumption|(simp only [lens9];done)|(simp only [lens9];first|assumption|omega)|rfl)];omega))) rfl<|nK k75<|gL<|gRn (oadN _ 1 om9 rfl<|oM 1 rfl<|.nl)<|nN<|fun a78 w78 h78=> ?_
     refine x_again ⟨_, ?_,q5+1,nw3.set ((nth (rdG (nth x.l j)) q5).toNat) true, ?_, ?_, ?_,h78.nf ⟨rfl,rfl,rfl,rfl,rfl,rfl,rfl,rfl,trivial⟩,rfl⟩
     · rw [hm70];first|omega|(simp only [lens9];omega)
     · omega
     · first|assumption|(simp only [List.length_set];assumption)
     · exact rd_step hnl3 (by omega) hr5.1 hnw3
    refine gX<|hK k66<|?_
    have hnow:NowIs x.l a2 j nw3:=now_is (by omega) hnw3
    have hA3:(nth a2 j).l.length=200:=hai2.l2 _ (by omega)
    refine gK fun _ k79=>gNl (aO 3 rfl) fun (hl80:a2.length≤140737488355328)=>rQ (oV (r_ldwAr (i:=2) (l:=nw3) ti_119 rfl rfl rfl (by first|assumption|(simp only [lens9];done)|(simp only [lens9];first|assumption|omega)|rfl)) rfl<|oM 2 rfl<|oxN sl_115 ti_119 (aO 3 rfl) _ om9 rfl<|oV (r_ldewAr (n:=0) (i:=j) (s:=(⟨v14,a2⟩:Ls BArr)) ti_119 rfl rfl (fun w h=>(h.own 3 rfl)) (show j<a2.length from om9)) rfl<|oV (r_neqAr (l:=nw3) (m:=((nth a2 j).l)) ar_119 ti_4 Try.underlying4 (by kernel_rfl) rfl rfl rfl (by first|assumption|(simp only [lens9];done)|(simp only [lens9];first|assumption|omega)|rfl) (by first|assumption|(simp only [lens9];done)|(simp only [lens9];first|assumption|omega)|rfl)) rfl<|.nl)<|hK k79<|gcd rfl (fun hb81 hp81=> ?_) fun hb81 hp81=> ?_
    ·skip
     refine gL<|gRn (oM 2 rfl<|oV (r_ldwAr (i:=2) (l:=nw3) ti_119 rfl rfl rfl (by first|assumption|(simp only [lens9];done)|(simp only [lens9];first|assumption|omega)|rfl)) rfl<|oxN sl_115 ti_119 (aO 3 rfl) _ om9 rfl<|.nl)<|gE (fun _ _ h_=>x_stewAr (r:=3) (i:=j) (s:=(⟨v14,a2⟩:Ls BArr)) (l:=nw3) h_ ti_119 rfl rfl rfl rfl (show j<a2.length from om9) (by first|assumption|(simp only [lens9];done)|(simp only [lens9];first|assumption|omega)|rfl) rfl) rfl<|gRn (oM 1 rfl<|.nl)<|nK k31<|gL<|gRn (oM 1 rfl<|osbI _ _ om9 rfl<|oM 1 rfl<|.nl)<|nN<|fun a83 w83 h83=> ?_
     refine x_again ⟨_, ?_,j,a2.set j ⟨nw3⟩,true, ?_, ?_, ?_, ?_,h83.nrm ⟨rfl,rfl,rfl,rfl,trivial⟩ [3,4] rfl,rfl⟩
     · rw [hm24];omega
     · omega
     · first|exact hai2|exact hai2.set (by omega) hnl3 hnow
     · first|(intro h;cases h;done)|exact vr_same h20 (clA_same hnow (Classical.byContradiction fun h9=>absurd h9 (by assumption)))
     · first|exact h21|(intro _;exact Nat.lt_of_le_of_lt (vr_le h20 (fun e=>by rw [e]) h21) (hai2.grow (by omega) hnl3 hnow (by assumption)))
    refine gS<|hK k31<|gL<|gRn (oM 1 rfl<|osbI _ _ om9 rfl<|oM 1 rfl<|.nl)<|nN<|fun a84 w84 h84=>x_again ⟨_, ?_,j,a2,ag2, ?_, ?_, ?_, ?_,h84.nrm ⟨rfl,rfl,rfl,rfl,trivial⟩ [3,4] rfl,rfl⟩
    · rw [hm24];omega
    · omega
    · first|exact hai2|exact hai2.set (by omega) hnl3 hnow
    · first|(intro h;cases h;done)|exact vr_same h20 (clA_same hnow (Classical.byContradiction fun h9=>absurd h9 (by assumption)))
    · first|exact h21|(intro _;exact Nat.lt_of_le_of_lt (vr_le h20 (fun e=>by rw [e]) h21) (hai2.grow (by omega) hnl3 hnow (by assumption)))
   refine gS<|hK k60<|gK fun _ k85=>sK fun _ k86=>gRn (oM 2 rfl<|oxN sl_45 ti_47 (aA 3 rfl) _ om9 rfl<|olw2 [.int .i64 ((nth x.l j).op), .int .i64 ((nth x.l j).a), .int .i64 ((nth x.l j).b), .int .i64 ((nth x.l j).c)] ti_47 (aA 3 rfl) om9 rfl<|.nl)<|gC (fun _ _ h_=>xCl h_ bd_69 rfl (reads_ls (reads_c (nth x.l j) _ (by have h8:=(hok j (by omega)).1;omega) (hok j (by omega)).2.1))) rfl<|?_
   rintro _ _ w87 ⟨s87,rfl,hs87⟩
   refine gWk hs87 rfl<|gU<|gNl (aO 0 rfl) fun (hl88:(rdG (nth x.l j)).length≤140737488355328)=>gRn (oln (n:=(rdG (nth x.l j)).length) sl_23 (aO 0 rfl) rfl<|oM 1 rfl<|.nl)<|nK k86<|gB<|?_;clear hs87
   have hrl:=rdG_len (nth x.l j)
   have hall:∀b,b<200→nth nw b=(nextsL x.l j).any fun y=>col a2 b y.toNat:=fun b hb=>by rw [hnw b hb,any_all (by omega)]
   intro a90 w90 h90
   refine x_loop (fun m a w=>∃(q5:Nat) (nw3:List Bool),(q5≤(rdG (nth x.l j)).length)∧(nw3.length=200)∧(∀b,b<200→nth nw3 b=((decide (wrG (nth x.l j)≠(b:Int))&&(nextsL x.l j).any fun y=>col a2 b y.toNat)||((rdG (nth x.l j)).take q5).any fun v=>decide (v=(b:Int))))∧St 85 (fun _=>False) W a w [(0,x.v),(3,v14),(4, .bool ag2),(5, .int .i64 ((j:Nat):Int)),(6, .pointer (some ⟨b33,0,none⟩)),(65,s87.v),(66, .int .i64 (((rdG (nth x.l j)).length:Nat):Int)),(67, .int .i64 ((q5:Nat):Int))] [.own 3 (⟨s87.v,rdG (nth x.l j)⟩:Ls Int), .own 3 (⟨s36.v,nextsL x.l j⟩:Ls Int), .blk b33 119 (nw3.map Value.bool), .own 119 (⟨v14,a2⟩:Ls BArr), .at_ x]∧m=(rdG (nth x.l j)).length-q5) ⟨_,0,nw,(by omega),(by first|assumption|(simp only [List.length_set];assumption)),(by first|exact wr_off hnl hall (by assumption)|exact wr_none hall (by assumption)),h90.nf ⟨rfl,rfl,rfl,rfl,rfl,rfl,rfl,rfl,trivial⟩,rfl⟩ ?_
   clear h90
   rintro m89 a89 w89 ⟨q5,nw3,hq5,hnl3,hnw3,h89,hm89⟩
   refine gG h89<|sG (oltN _ _ rfl<|.nl)<|gK fun _ k92=>gcd rfl (fun hb93 hp93=> ?_) fun hb93 hp93=> ?_;clear h89
   ·skip
    refine gS<|hK k92<|gK fun _ k94=>gB<|sG (oxN sl_23 ti_3 (aO 0 rfl) _ om9 rfl<|olE (.int .i64 (nth (rdG (nth x.l j)) q5)) ti_3 (aO 0 rfl) om9 rfl<|oM 1 rfl<|.nl)<|?_
    have hr5:=(hok j (by omega)).2.2.2 _ (nth_mem (rdG (nth x.l j)) q5 (by omega))
    refine gL<|gRn (oM 1 rfl<|oV (r_ixArI (q:=nth (rdG (nth x.l j)) q5) ar_119 ti_4 rfl rfl rfl rfl (show 0≤nth (rdG (nth x.l j)) q5∧nth (rdG (nth x.l j)) q5<200 from om9)) rfl<|.nl)<|gE (fun _ _ h_=>x_stAr (i:=2) (l:=nw3) (b:=true) h_ ti_4 rfl rfl rfl rfl rfl (show (nth (rdG (nth x.l j)) q5).toNat<nw3.length from (by rw [show nw3.length=200 from (by first|assumption|(simp only [lens9];done)|(simp only [lens9];first|assumption|omega)|rfl)];omega))) rfl<|nK k94<|gL<|gRn (oadN _ 1 om9 rfl<|oM 1 rfl<|.nl)<|nN<|fun a97 w97 h97=> ?_
    refine x_again ⟨_, ?_,q5+1,nw3.set ((nth (rdG (nth x.l j)) q5).toNat) true, ?_, ?_, ?_,h97.nf ⟨rfl,rfl,rfl,rfl,rfl,rfl,rfl,rfl,trivial⟩,rfl⟩
    · rw [hm89];first|omega|(simp only [lens9];omega)
    · omega
    · first|assumption|(simp only [List.length_set];assumption)
    · exact rd_step hnl3 (by omega) hr5.1 hnw3
   refine gX<|hK k85<|?_
   have hnow:NowIs x.l a2 j nw3:=now_is (by omega) hnw3
   have hA3:(nth a2 j).l.length=200:=hai2.l2 _ (by omega)
   refine gK fun _ k98=>gNl (aO 3 rfl) fun (hl99:a2.length≤140737488355328)=>rQ (oV (r_ldwAr (i:=2) (l:=nw3) ti_119 rfl rfl rfl (by first|assumption|(simp only [lens9];done)|(simp only [lens9];first|assumption|omega)|rfl)) rfl<|oM 2 rfl<|oxN sl_115 ti_119 (aO 3 rfl) _ om9 rfl<|oV (r_ldewAr (n:=0) (i:=j) (s:=(⟨v14,a2⟩:Ls BArr)) ti_119 rfl rfl (fun w h=>(h.own 3 rfl)) (show j<a2.length from om9)) rfl<|oV (r_neqAr (l:=nw3) (m:=((nth a2 j).l)) ar_119 ti_4 Try.underlying4 (by kernel_rfl) rfl rfl rfl (by first|assumption|(simp only [lens9];done)|(simp only [lens9];first|assumption|omega)|rfl) (by first|assumption|(simp only [lens9];done)|(simp only [lens9];first|assumption|omega)|rfl)) rfl<|.nl)<|hK k98<|gcd rfl (fun hb100 hp100=> ?_) fun hb100 hp100=> ?_
   ·skip
    refine gL<|gRn (oM 2 rfl<|oV (r_ldwAr (i:=2) (l:=nw3) ti_119 rfl rfl rfl (by first|assumption|(simp only [lens9];done)|(simp only [lens9];first|assumption|omega)|rfl)) rfl<|oxN sl_115 ti_119 (aO 3 rfl) _ om9 rfl<|.nl)<|gE (fun _ _ h_=>x_stewAr (r:=3) (i:=j) (s:=(⟨v14,a2⟩:Ls BArr)) (l:=nw3) h_ ti_119 rfl rfl rfl rfl (show j<a2.length from om9) (by first|assumption|(simp only [lens9];done)|(simp only [lens9];first|assumption|omega)|rfl) rfl) rfl<|gRn (oM 1 rfl<|.nl)<|nK k31<|gL<|gRn (oM 1 rfl<|osbI _ _ om9 rfl<|oM 1 rfl<|.nl)<|nN<|fun a102 w102 h102=> ?_
    refine x_again ⟨_, ?_,j,a2.set j ⟨nw3⟩,true, ?_, ?_, ?_, ?_,h102.nrm ⟨rfl,rfl,rfl,rfl,trivial⟩ [3,4] rfl,rfl⟩
    · rw [hm24];omega
    · omega
    · first|exact hai2|exact hai2.set (by omega) hnl3 hnow
    · first|(intro h;cases h;done)|exact vr_same h20 (clA_same hnow (Classical.byContradiction fun h9=>absurd h9 (by assumption)))
    · first|exact h21|(intro _;exact Nat.lt_of_le_of_lt (vr_le h20 (fun e=>by rw [e]) h21) (hai2.grow (by omega) hnl3 hnow (by assumption)))
   refine gS<|hK k31<|gL<|gRn (oM 1 rfl<|osbI _ _ om9 rfl<|oM 1 rfl<|.nl)<|nN<|fun a103 w103 h103=>x_again ⟨_, ?_,j,a2,ag2, ?_, ?_, ?_, ?_,h103.nrm ⟨rfl,rfl,rfl,rfl,trivial⟩ [3,4] rfl,rfl⟩
   · rw [hm24];omega
   · omega
   · first|exact hai2|exact hai2.set (by omega) hnl3 hnow
   · first|(intro h;cases h;done)|exact vr_same h20 (clA_same hnow (Classical.byContradiction fun h9=>absurd h9 (by assumption)))
   · first|exact h21|(intro _;exact Nat.lt_of_le_of_lt (vr_le h20 (fun e=>by rw [e]) h21) (hai2.grow (by omega) hnl3 hnow (by assumption)))
  refine gX<|fun a104 w104 h104=> ?_
  change∃_m,_m<_∧_
  refine ⟨_, ?_,a2,ag2, ?_, ?_,h104.nf ⟨rfl,rfl,rfl,trivial⟩,rfl⟩
  · rw [hm17];exact vr_down (by assumption) (by have h8:=cntA_le hai2.l2;rw [hai2.l1] at h8;exact h8) h20 (fun e=>by rw [e]) h21
  · exact hai2
  · exact fun h i hi=>(h20 h).2 i (by omega) hi
 refine gX<|hK k15<|sG (oM 2 rfl<|.nl)<|gR<|fun a106 w106 h106=>x_ret1 (fn:=Try.f60) (t:=2) rfl h106 rfl<|⟨⟨v14,a1⟩,rfl,ra_fin hf hai (hcl (by assumption)),(h106.sh.sel [0] rfl)⟩
theorem sets_ls {f:FuncId}{vs:List Value}{W:World}{l:List BArr}(h:Rets Try.prog f vs W (fun v w' =>∃s:Ls BArr,v=s.v∧s.l=l∧Sh0 W w' [.own 119 s])):Rets Try.prog f vs W (fun v w' =>∃s:Ls BArr,v=s.v∧Sh0 W w' [.own 119 (⟨s.v,l⟩:Ls BArr)]):=
 h.mono fun v w' ⟨s,h1,h2,h3⟩=>⟨s,h1,by subst h2;exact h3⟩
theorem liveA_len (f:Nat→Nat→Bool)(n:Nat):(liveA f n).length=n+1:=by simp [liveA]
theorem liveA_nth {f:Nat→Nat→Bool}{n j:Nat}(h:j<n+1):(nth (liveA f n) j).l=(List.range 200).map fun r=>f r j:=by
 unfold liveA
 rw [nth_mapR h]
theorem liveA_200 {f:Nat→Nat→Bool}{n j:Nat}(h:j<n+1):(nth (liveA f n) j).l.length=200:=by rw [liveA_nth h,List.length_map,List.length_range]
def clashL (code:List Ins)(f:Nat→Nat→Bool)(m:Nat):List (List Int):=(List.range m).map fun r=>listB ((List.range 200).map fun b=>clTo code f code.length r b)
theorem zerosA (n a b:Nat):get2 BArr.l (List.replicate n ⟨List.replicate 200 false⟩) a b=false:=col_zero n b a
theorem set_lenA {M:List BArr}{i q:Nat}{b:Bool}(h:∀a,a<M.length→(nth M a).l.length=200):∀a,a<(M.set i ⟨(nth M i).l.set q b⟩).length→(nth (M.set i ⟨(nth M i).l.set q b⟩) a).l.length=200:=by
 intro a ha
 rw [List.length_set] at ha
 rw [nth_set]
 split
 ·rename_i h9;rw [List.length_set,h9.1];exact h a ha
 ·exact h a ha
theorem lenA_zero (n:Nat):∀a,a<(List.replicate n (⟨List.replicate 200 false⟩:BArr)).length→(nth (List.replicate n (⟨List.replicate 200 false⟩:BArr)) a).l.length=200:=by
 intro a ha
 rw [List.length_replicate] at ha
 have:nth (List.replicate n (⟨List.replicate 200 false⟩:BArr)) a=⟨List.replicate 200 false⟩:=by simp [nth,ha]
 rw [this]
 exact List.length_replicate
theorem rowsI_eq {M:List (Ls Int)}{m:Nat}{h:Nat→List Int}(hl:M.length=m)(hv:∀a,a<m→(nth M a).l=h a):M.map (·.l)=(List.range m).map h:=by
 apply List.ext_getElem (by simp [hl])
 intro i h1 h2
 have:=hv i (by simpa [hl] using h1)
 rw [nth_lt _ _ (by simpa using h1)] at this
 simpa using this
theorem barr_noRd {E:TypeId}{s:Ls BArr}{X:Prop}{b:Nat}(h:(Asn.own E s).rd b):X:=by
 obtain ⟨i,_,hi⟩:=h
 exact hi.elim
theorem list_ls {P:Program}{f:FuncId}{vs:List Value}{W:World}{l:List Int}{E:TypeId}(h:Rets P f vs W (fun v w' =>∃s:Ls Int,v=s.v∧s.l=l∧Sh0 W w' [.own E s])):Rets P f vs W (fun v w' =>∃s:Ls Int,v=s.v∧Sh0 W w' [.own E (⟨s.v,l⟩:Ls Int)]):=
 h.mono fun v w' ⟨s,h1,h2,h3⟩=>⟨s,h1,by subst h2;exact h3⟩
theorem clip_c (s:Ls Int)(W:World)(hs:s.At W):
    Rets Try.prog 63 [s.v] W (fun v w' =>v=vclip s.v∧Sh0 W w' []):=by
 refine gen Try.func63 Try.ntmps63 (Sh0.ext1 hs:Sh (fun _=>False) W W [.at_ s]) rfl fun a10 h10=>gG h10<|sG (oM 1 rfl<|.nl)<|sK fun _ k12=>gNl (aA 0 rfl) fun hl13=>gRn (oM 2 rfl<|oln sl_23 (aA 0 rfl) rfl<|oM 1 rfl<|oln sl_23 (aA 0 rfl) rfl<|oV (r_slClip (s:=s) sl_23 ti_3 rfl rfl rfl rfl (fun w h=>(h.at 0 rfl))) rfl<|oM 1 rfl<|.nl)<|nK k12<|gR<|fun a14 w14 h14=>x_ret1 (fn:=Try.f63) (t:=2) rfl h14 rfl ?_;clear h10
 exact ⟨rfl,(h14.sh.sel [] rfl)⟩
theorem clash_k (code:Ls (Ls Ins))(words:Ls Int)(locks regs:Int)(f:Nat→Nat→Nat→Bool)(W:World)(hcode:code.At W)(hwords:words.At W)(hok:OkPg (pgOf code words locks regs))(hF:∀t,t<code.l.length→∀r j,(f t r j=true↔LiveI (nth code.l t).l r j)):
    Rets Try.prog 29 [.agg #[code.v,words.v, .int .i64 locks, .int .i64 regs]] W (fun v w' =>∃s:Ls (Ls (Ls Int)),v= .tuple #[s.v, .agg #[.int .i64 0, .int .i64 0, .int .i64 0]]∧s.l.map (fun y=>y.l.map (·.l))=(List.range code.l.length).map (fun t=>clashL (nth code.l t).l (f t) regs.toNat)∧Sh0 W w' [.deep 26 s]):=by
 have hz:=checkG_ok hok
 obtain ⟨hl1,hl2,hl3,hl4',hl5,hl6,hl7⟩:=ok_len hok
 have hrg:=hok.regs
 have hrg1:(pgOf code words locks regs).regs=regs:=rfl
 rw [hrg1] at hrg
 refine gen Try.func29 Try.ntmps29 (Sh0.ext2 hcode hwords:Sh (fun _=>False) W W [.at_ code, .at_ words]) rfl fun a10 h10=>gG h10<|sK fun _ k11=>gbx rfl rfl fun b12=>gRn (oM 1 rfl<|.nl)<|gal ti_30 rfl fun b13=>nK k11<|gK fun _ k14=>sK fun _ k15=>gRn (olw 1 ti_25 rfl rfl<|.nl)<|fun a17 w17 h17=>wl_ex (x_call h17 bd_27 rfl rfl rfl rfl rfl (asmCheck_c (code:=code) (words:=words) (locks:=locks) (regs:=regs) (h17.sh.at 2 rfl) (h17.sh.at 3 rfl))) (wanted_none rfl _) ?_;clear h10
 rintro a18 w18 ⟨_,⟨rfl,hs18⟩,hf18⟩
 have h18:St 110 (fun _=>False) W a18 w18 _ _:=⟨hf18,h17.sh.call0 hs18⟩
 clear hf18 hs18
 clear h17
 refine gG h18<|gal ti_30 rfl fun b19=>gsw 0 ti_30 rfl rfl rfl<|nK k15<|sG (ofB fl_30_0 rfl<|olB 0 ti_28 rfl rfl<|oneI _ _ rfl<|.nl)<|gcF rfl (by rw [hz];rfl)<|gS<|hK k14<|sG (oM 1 rfl<|.nl)<|gK fun _ k23=>sK fun _ k24=>gNl (aA 3 rfl) fun hl25=>gRn (ofB fl_25_0 rfl<|olB 2 ti_22 rfl rfl<|oln sl_22 (aA 3 rfl) rfl<|oM 1 rfl<|.nl)<|nK k24<|gB<|fun a28 w28 h28=> ?_;clear h18
 have h27:=h28.nilDeep (α:=Ls (Ls Int)) 26
 clear h28
 refine x_loop (fun m a w=>∃(t:Nat) (os:List (Ls (Ls Int))) (vo:Value),(t≤code.l.length)∧(os.map (fun y=>y.l.map (·.l))=(List.range t).map (fun t=>clashL (nth code.l t).l (f t) regs.toNat))∧(os.length=t)∧St 110 (fun _=>False) W a w [(1, .pointer (some ⟨b12,0,none⟩)),(3, .pointer (some ⟨b13,0,none⟩)),(5,vo),(26,code.v),(27, .int .i64 ((code.l.length:Nat):Int)),(28, .int .i64 ((t:Nat):Int))] [.blk b19 30 [.int .i64 ((checkG (pgOf code words locks regs)).code), .int .i64 ((checkG (pgOf code words locks regs)).thread), .int .i64 ((checkG (pgOf code words locks regs)).at_)], .blk b13 30 [.int .i64 0, .int .i64 0, .int .i64 0], .blk b12 25 [code.v,words.v, .int .i64 locks, .int .i64 regs], .at_ code, .at_ words, .deep 26 (⟨vo,os⟩:Ls (Ls (Ls Int)))]∧m=code.l.length-t) ⟨_,0, [],(.slice none 0 0),(by omega),(rfl),(rfl),h27.nrm ⟨rfl,rfl,rfl,rfl,rfl,rfl,trivial⟩ [1,2,3,4,5,0] rfl,rfl⟩ ?_
 clear h27
 rintro m26 a26 w26 ⟨t,os,vo,ht,hos,hol,h26,hm26⟩
 refine gG h26<|sG (oltN _ _ rfl<|.nl)<|gK fun _ k30=>gcd rfl (fun hb31 hp31=> ?_) fun hb31 hp31=> ?_;clear h26
 ·skip
  refine gS<|hK k30<|gK fun _ k32=>gB<|sG (oxN sl_22 ti_45 (aA 3 rfl) _ om9 rfl<|olE ((nth code.l t).v) ti_45 (aA 3 rfl) om9 rfl<|oM 1 rfl<|.nl)<|?_
  obtain ⟨hl4,hjt⟩:=ok_thread hok t (by omega)
  refine sK fun _ k34=>gRn (ofB fl_25_3 rfl<|olB 2 ti_3 rfl rfl<|.nl)<|gE1 (fun _ _ h_=>x_makeAr (n:=regs.toNat) h_ sl_115 ti_119 (by kernel_rfl) rfl (ev_nat (show 0≤regs from om9) rfl) (ev_nat (show 0≤regs from om9) rfl) (show 200*regs.toNat≤140737488355328∧regs.toNat≤140737488355328 from om9) rfl rfl) rfl fun v35=>gRn (oM 1 rfl<|.nl)<|nK k34<|sK fun _ k36=>gRn (oM 1 rfl<|.nl)<|fun a38 w38 h38=>wl_ex (x_call h38 bd_60 rfl rfl rfl rfl rfl (sets_ls (sets_c (nth code.l t) regs (f t) _ ((h38.sh.at 4 rfl).nth t (show t<code.l.length from (by omega))) (by omega) hjt (okV_of hok t (by omega)) (hF t (by omega)) (by omega)))) (wanted_none rfl _) ?_
  rintro a39 w39 ⟨_,⟨s39,rfl,hs39⟩,hf39⟩
  have h39:=(⟨hf39,h38.sh.call hs39 (by intro A hA b hb;first|(simp at hA;done)|(simp at hA;subst hA;first|exact Flat.noRd hb|exact barr_noRd hb|exact (hb:False).elim))⟩:St 110 (fun _=>False) W a39 w39 _ _)
  clear hf39 hs39
  clear h38
  refine gG h39<|gRn (oM 1 rfl<|.nl)<|nK k36<|gK fun _ k40=>sK fun _ k41=>gNl (fun w h=>((h.at 5 rfl).nth t (show t<code.l.length from (by omega)))) fun (hl42:((nth code.l t).l).length≤140737488355328)=>gRn (oM 1 rfl<|oln (n:=((nth code.l t).l).length) sl_45 (fun w h=>((h.at 5 rfl).nth t (show t<code.l.length from (by omega)))) rfl<|oM 1 rfl<|.nl)<|nK k41<|gB<|?_;clear h39
  have hal:=liveA_len (f t) (nth code.l t).l.length
  intro a44 w44 h44
  refine x_loop (fun m a w=>∃(k:Nat) (M2:List BArr),(k≤(nth code.l t).l.length)∧(M2.length=regs.toNat)∧(∀a,a<M2.length→(nth M2 a).l.length=200)∧(∀a b,a<regs.toNat→b<200→get2 BArr.l M2 a b=clTo (nth code.l t).l (f t) k a b)∧St 110 (fun _=>False) W a w [(1, .pointer (some ⟨b12,0,none⟩)),(3, .pointer (some ⟨b13,0,none⟩)),(5,vo),(7,(nth code.l t).v),(8,v35),(9,s39.v),(26,code.v),(27, .int .i64 ((code.l.length:Nat):Int)),(28, .int .i64 ((t:Nat):Int)),(37,(nth code.l t).v),(38, .int .i64 ((((nth code.l t).l).length:Nat):Int)),(39, .int .i64 ((k:Nat):Int))] [.own 119 (⟨s39.v,liveA (f t) (nth code.l t).l.length⟩:Ls BArr), .own 119 (⟨v35,M2⟩:Ls BArr), .blk b19 30 [.int .i64 ((checkG (pgOf code words locks regs)).code), .int .i64 ((checkG (pgOf code words locks regs)).thread), .int .i64 ((checkG (pgOf code words locks regs)).at_)], .blk b13 30 [.int .i64 0, .int .i64 0, .int .i64 0], .blk b12 25 [code.v,words.v, .int .i64 locks, .int .i64 regs], .at_ code, .at_ words, .deep 26 (⟨vo,os⟩:Ls (Ls (Ls Int)))]∧m=(nth code.l t).l.length-k) ⟨_,0,List.replicate regs.toNat ⟨List.replicate 200 false⟩,(by omega),(List.length_replicate),(lenA_zero _),(fun a b _ _=>zerosA _ a b),h44.nf ⟨rfl,rfl,rfl,rfl,rfl,rfl,rfl,rfl,rfl,rfl,rfl,rfl,trivial⟩,rfl⟩ ?_
  clear h44
  rintro m43 a43 w43 ⟨k,M2,hk,hM2,hw2,hv2,h43,hm43⟩
  refine gG h43<|sG (oltN _ _ rfl<|.nl)<|gK fun _ k46=>gcd rfl (fun hb47 hp47=> ?_) fun hb47 hp47=> ?_;clear h43
  ·skip
   refine gS<|hK k46<|gK fun _ k48=>gB<|sK fun _ k49=>gRn (oM 1 rfl<|oxN sl_45 ti_47 (fun w h=>((h.at 5 rfl).nth t (show t<code.l.length from (by omega)))) _ om9 rfl<|olw2 [.int .i64 ((nth ((nth code.l t).l) k).op), .int .i64 ((nth ((nth code.l t).l) k).a), .int .i64 ((nth ((nth code.l t).l) k).b), .int .i64 ((nth ((nth code.l t).l) k).c)] ti_47 (fun w h=>((h.at 5 rfl).nth t (show t<code.l.length from (by omega)))) om9 rfl<|.nl)<|gal ti_47 rfl fun b50=>gRn (oM 1 rfl<|.nl)<|gsw 0 ti_47 rfl rfl rfl<|nK k49<|sK fun _ k52=>gRn (olw 0 ti_47 rfl rfl<|.nl)<|gP (fun _ _ h_=>xCl h_ bd_61 rfl (writes_c (nth ((nth code.l t).l) k) _ (by have h8:=(okV_of hok t (by omega) k (by omega)).1;omega))) rfl<|gRn (oM 1 rfl<|.nl)<|nK k52<|sK fun _ k54=>gRn (oM 2 rfl<|.nl)<|fun a56 w56 h56=>wl_ex (x_call h56 bd_62 rfl rfl rfl rfl rfl (nexts_c (nth code.l t) k _ ((h56.sh.at 6 rfl).nth t (show t<code.l.length from (by omega))) (by omega) (by omega))) (wanted_none rfl _) ?_
   rintro a57 w57 ⟨_,⟨s57,rfl,hs57⟩,hf57⟩
   have h57:=(⟨hf57,h56.sh.call hs57 (by intro A hA b hb;first|(simp at hA;done)|(simp at hA;subst hA;first|exact Flat.noRd hb|exact barr_noRd hb|exact (hb:False).elim))⟩:St 110 (fun _=>False) W a57 w57 _ _)
   clear hf57 hs57
   clear h56
   refine gG h57<|gNl (aO 0 rfl) fun (hl58:(nextsL ((nth code.l t).l) k).length≤140737488355328)=>gRn (oln (n:=(nextsL ((nth code.l t).l) k).length) sl_23 (aO 0 rfl) rfl<|oM 1 rfl<|.nl)<|nK k54<|gB<|?_;clear h57
   have hnl:=nextsV_len (nth code.l t).l k
   have hww:=(okV_of hok t (by omega) k (by omega)).2.2.1
   intro a60 w60 h60
   refine x_loop (fun m a w=>∃(q:Nat) (M3:List BArr),(q≤(nextsL (nth code.l t).l k).length)∧(M3.length=regs.toNat)∧(∀a,a<M3.length→(nth M3 a).l.length=200)∧(∀a b,a<regs.toNat→b<200→get2 BArr.l M3 a b=(clTo (nth code.l t).l (f t) k a b||((nextsL (nth code.l t).l k).take q).any fun y=>clE (wrG (nth (nth code.l t).l k)) (f t) y.toNat a b))∧St 110 (fun _=>False) W a w [(1, .pointer (some ⟨b12,0,none⟩)),(3, .pointer (some ⟨b13,0,none⟩)),(5,vo),(7,(nth code.l t).v),(8,v35),(9,s39.v),(12, .int .i64 (wrG (nth ((nth code.l t).l) k))),(26,code.v),(27, .int .i64 ((code.l.length:Nat):Int)),(28, .int .i64 ((t:Nat):Int)),(37,(nth code.l t).v),(38, .int .i64 ((((nth code.l t).l).length:Nat):Int)),(39, .int .i64 ((k:Nat):Int)),(48,s57.v),(49, .int .i64 (((nextsL ((nth code.l t).l) k).length:Nat):Int)),(50, .int .i64 ((q:Nat):Int))] [.own 3 (⟨s57.v,nextsL ((nth code.l t).l) k⟩:Ls Int), .blk b50 47 [.int .i64 ((nth ((nth code.l t).l) k).op), .int .i64 ((nth ((nth code.l t).l) k).a), .int .i64 ((nth ((nth code.l t).l) k).b), .int .i64 ((nth ((nth code.l t).l) k).c)], .own 119 (⟨s39.v,liveA (f t) (nth code.l t).l.length⟩:Ls BArr), .own 119 (⟨v35,M3⟩:Ls BArr), .blk b19 30 [.int .i64 ((checkG (pgOf code words locks regs)).code), .int .i64 ((checkG (pgOf code words locks regs)).thread), .int .i64 ((checkG (pgOf code words locks regs)).at_)], .blk b13 30 [.int .i64 0, .int .i64 0, .int .i64 0], .blk b12 25 [code.v,words.v, .int .i64 locks, .int .i64 regs], .at_ code, .at_ words, .deep 26 (⟨vo,os⟩:Ls (Ls (Ls Int)))]∧m=(nextsL (nth code.l t).l k).length-q) ⟨_,0,M2,(by omega),(hM2),(hw2),(fun a b ha hb=>by rw [any_zero,Bool.or_false];exact hv2 a b ha hb),h60.nf ⟨rfl,rfl,rfl,rfl,rfl,rfl,rfl,rfl,rfl,rfl,rfl,rfl,rfl,rfl,rfl,rfl,trivial⟩,rfl⟩ ?_
   clear h60
   rintro m59 a59 w59 ⟨q,M3,hq,hM3,hw3,hv3,h59,hm59⟩
   refine gG h59<|sG (oltN _ _ rfl<|.nl)<|gK fun _ k62=>gcd rfl (fun hb63 hp63=> ?_) fun hb63 hp63=> ?_;clear h59
   ·skip
    refine gS<|hK k62<|gK fun _ k64=>gB<|sG (oxN sl_23 ti_3 (aO 0 rfl) _ om9 rfl<|olE (.int .i64 (nth (nextsL ((nth code.l t).l) k) q)) ti_3 (aO 0 rfl) om9 rfl<|oM 1 rfl<|.nl)<|?_
    have hi0:=nth_mem (nextsL (nth code.l t).l k) q (by omega)
    have hnx:=nextsV_ok hjt (by omega) hi0
    have hA2:=liveA_200 (f:=f t) (n:=(nth code.l t).l.length) (j:=(nth (nextsL (nth code.l t).l k) q).toNat) (by omega)
    refine sK fun _ k66=>gNl (aO 2 rfl) fun (hl67:(liveA (f t) (nth code.l t).l.length).length≤140737488355328)=>gRn (oM 2 rfl<|oxI sl_115 ti_119 (aO 2 rfl) om9 rfl<|oV (r_ldewAr (n:=0) (i:=(nth (nextsL ((nth code.l t).l) k) q).toNat) (s:=(⟨s39.v,liveA (f t) (nth code.l t).l.length⟩:Ls BArr)) ti_119 rfl rfl (fun w h=>(h.own 2 rfl)) (show (nth (nextsL ((nth code.l t).l) k) q).toNat<(liveA (f t) (nth code.l t).l.length).length from om9)) rfl<|oM 1 rfl<|.nl)<|nK k66<|gB<|fun a69 w69 h69=>x_loop (fun m a w=>∃(r:Nat) (M4:List BArr),(r≤200)∧(M4.length=regs.toNat)∧(∀a,a<M4.length→(nth M4 a).l.length=200)∧(∀a b,a<regs.toNat→b<200→get2 BArr.l M4 a b=((clTo (nth code.l t).l (f t) k a b||((nextsL (nth code.l t).l k).take q).any fun y=>clE (wrG (nth (nth code.l t).l k)) (f t) y.toNat a b)||clJ (wrG (nth (nth code.l t).l k)) (f t) (nth (nextsL (nth code.l t).l k) q).toNat r a b))∧St 110 (fun _=>False) W a w [(1, .pointer (some ⟨b12,0,none⟩)),(3, .pointer (some ⟨b13,0,none⟩)),(5,vo),(7,(nth code.l t).v),(8,v35),(9,s39.v),(12, .int .i64 (wrG (nth ((nth code.l t).l) k))),(26,code.v),(27, .int .i64 ((code.l.length:Nat):Int)),(28, .int .i64 ((t:Nat):Int)),(37,(nth code.l t).v),(38, .int .i64 ((((nth code.l t).l).length:Nat):Int)),(39, .int .i64 ((k:Nat):Int)),(48,s57.v),(49, .int .i64 (((nextsL ((nth code.l t).l) k).length:Nat):Int)),(50, .int .i64 ((q:Nat):Int)),(57, .agg (((nth (liveA (f t) (nth code.l t).l.length) ((nth (nextsL ((nth code.l t).l) k) q).toNat)).l).map Value.bool).toArray),(58, .int .i64 ((r:Nat):Int))] [.own 3 (⟨s57.v,nextsL ((nth code.l t).l) k⟩:Ls Int), .blk b50 47 [.int .i64 ((nth ((nth code.l t).l) k).op), .int .i64 ((nth ((nth code.l t).l) k).a), .int .i64 ((nth ((nth code.l t).l) k).b), .int .i64 ((nth ((nth code.l t).l) k).c)], .own 119 (⟨s39.v,liveA (f t) (nth code.l t).l.length⟩:Ls BArr), .own 119 (⟨v35,M4⟩:Ls BArr), .blk b19 30 [.int .i64 ((checkG (pgOf code words locks regs)).code), .int .i64 ((checkG (pgOf code words locks regs)).thread), .int .i64 ((checkG (pgOf code words locks regs)).at_)], .blk b13 30 [.int .i64 0, .int .i64 0, .int .i64 0], .blk b12 25 [code.v,words.v, .int .i64 locks, .int .i64 regs], .at_ code, .at_ words, .deep 26 (⟨vo,os⟩:Ls (Ls (Ls Int)))]∧m=200-r) ⟨_,0,M3,(by omega),(hM3),(hw3),(fun a b ha hb=>by rw [clJ_zero,Bool.or_false];exact hv3 a b ha hb),h69.nf ⟨rfl,rfl,rfl,rfl,rfl,rfl,rfl,rfl,rfl,rfl,rfl,rfl,rfl,rfl,rfl,rfl,rfl,rfl,trivial⟩,rfl⟩ ?_
    clear h69
    rintro m68 a68 w68 ⟨r,M4,hr,hM4,hw4,hv4,h68,hm68⟩
    refine gG h68<|sG (oltN _ 200 rfl<|.nl)<|gK fun _ k71=>gcd rfl (fun hb72 hp72=> ?_) fun hb72 hp72=> ?_;clear h68
    ·skip
     refine gS<|hK k71<|gK fun _ k73=>gB<|sG (oM 1 rfl<|oV (r_ixV (cs:=((nth (liveA (f t) (nth code.l t).l.length) ((nth (nextsL ((nth code.l t).l) k) q).toNat)).l).map Value.bool) (q:=r) ar_119 ti_4 rfl rfl rfl (show r<200 from om9) (nth_bool (by rw [show ((nth (liveA (f t) (nth code.l t).l.length) ((nth (nextsL ((nth code.l t).l) k) q).toNat)).l).length=200 from (by first|assumption|(simp only [lens9];done)|(simp only [lens9];first|assumption|omega)|rfl)];omega))) rfl<|oM 2 rfl<|.nl)<|?_
     have hfr:nth (nth (liveA (f t) (nth code.l t).l.length) (nth (nextsL (nth code.l t).l k) q).toNat).l r=f t r (nth (nextsL (nth code.l t).l k) q).toNat:=by rw [liveA_nth (by omega)];exact nth_mapR (by omega)
     have hrr:nth (nth (liveA (f t) (nth code.l t).l.length) (nth (nextsL (nth code.l t).l k) q).toNat).l r=true→(r:Int)<regs:=fun h9=>live_lt (okV_of hok t (by omega)) ((hF t (by omega) _ _).1 (hfr.symm.trans h9))
     refine sK fun _ k75=>gRn (oM 1 rfl<|ogeI _ _ rfl<|oM 1 rfl<|.nl)<|?_
     rcases dsp (0≤wrG (nth ((nth code.l t).l) k)) with ⟨hb76,hp76⟩|⟨hb76,hp76⟩
     ·skip
      refine gRn (oG hb76 (r_move rfl rfl) rfl<|opT hb76 rfl<|oM 1 rfl<|.nl)<|?_
      rcases Bool.eq_false_or_eq_true (nth ((nth (liveA (f t) (nth code.l t).l.length) ((nth (nextsL ((nth code.l t).l) k) q).toNat)).l) r) with hb77|hb77
      ·skip
       refine gRn (oG hb77 (r_move rfl rfl) rfl<|oG hb77 (r_move rfl rfl) rfl<|oG hb77 (r_neqI (p:=((r:Nat):Int)) (q:=wrG (nth ((nth code.l t).l) k)) rfl rfl rfl) rfl<|opT hb77 rfl<|.nl)<|nK k75<|gcd rfl (fun hb78 hp78=> ?_) fun hb78 hp78=> ?_
       ·skip
        have hrr2:=hrr (by assumption)
        refine gNl (aO 3 rfl) fun (hl79:M4.length≤140737488355328)=>rC [8,11] rfl<|pR [0,1,2,3,4,5,6,7,9] rfl (oM 6 rfl<|oxN sl_115 ti_119 (aO 3 rfl) _ om9 rfl<|oV (r_ixArEI (q:=wrG (nth ((nth code.l t).l) k)) ar_119 ti_4 rfl rfl rfl rfl (show 0≤wrG (nth ((nth code.l t).l) k)∧wrG (nth ((nth code.l t).l) k)<200 from om9)) rfl<|oxI sl_115 ti_119 (aO 3 rfl) om9 rfl<|.nl) rfl<|pS (fun _ _ h_=>x_steAr (r:=3) (i:=r) (s:=(⟨v35,M4⟩:Ls BArr)) (j:=(wrG (nth ((nth code.l t).l) k)).toNat) (b:=true) h_ ti_4 rfl rfl rfl rfl (show r<M4.length from om9) (show (wrG (nth ((nth code.l t).l) k)).toNat<200 from om9) rfl) rfl<|pR [3,4,5,9,10] rfl (oM 3 rfl<|oxI sl_115 ti_119 (aO 3 rfl) (show 0≤wrG (nth ((nth code.l t).l) k)∧wrG (nth ((nth code.l t).l) k)<(M4.set r ⟨(nth M4 r).l.set ((wrG (nth ((nth code.l t).l) k)).toNat) true⟩).length from om9) rfl<|oV (r_ixArE (q:=r) ar_119 ti_4 rfl rfl rfl rfl (show r<200 from om9)) rfl<|.nl) rfl<|pS (fun _ _ h_=>x_steAr (r:=3) (i:=(wrG (nth ((nth code.l t).l) k)).toNat) (s:=(⟨v35,M4.set r ⟨(nth M4 r).l.set ((wrG (nth ((nth code.l t).l) k)).toNat) true⟩⟩:Ls BArr)) (j:=r) (b:=true) h_ ti_4 rfl rfl rfl rfl (show (wrG (nth ((nth code.l t).l) k)).toNat<(M4.set r ⟨(nth M4 r).l.set ((wrG (nth ((nth code.l t).l) k)).toNat) true⟩).length from om9) (show r<200 from om9) rfl) rfl<|pE [] rfl (.nl) rfl<|hK k73<|gF [1,3,5,7,8,9,12,26,27,28,37,38,39,48,49,50,57,58] rfl<|gL<|gRn (oadN _ 1 om9 rfl<|oM 1 rfl<|.nl)<|nN<|fun a82 w82 h82=>x_again ⟨_, ?_,r+1,(M4.set r ⟨(nth M4 r).l.set ((wrG (nth ((nth code.l t).l) k)).toNat) true⟩).set ((wrG (nth ((nth code.l t).l) k)).toNat) ⟨(nth (M4.set r ⟨(nth M4 r).l.set ((wrG (nth ((nth code.l t).l) k)).toNat) true⟩) ((wrG (nth ((nth code.l t).l) k)).toNat)).l.set r true⟩, ?_, ?_, ?_, ?_,h82.nf ⟨rfl,rfl,rfl,rfl,rfl,rfl,rfl,rfl,rfl,rfl,rfl,rfl,rfl,rfl,rfl,rfl,rfl,rfl,trivial⟩,rfl⟩
        · rw [hm68];first|omega|(simp only [lens9];omega)
        · omega
        · first|exact hM4|(simp only [List.length_set];exact hM4)
        · first|exact hw4|exact set_lenA (set_lenA hw4)
        · first|exact cl_upd (wn:=(wrG (nth (nth code.l t).l k)).toNat) (fun a b=>get2_set (by omega) rfl (by rw [hw4 _ (by omega)];omega)) (fun a b=>get2_set (by simp only [List.length_set];omega) rfl (by rw [set_lenA hw4 _ (by simp only [List.length_set];omega)];omega)) hv4 (by omega) (by rw [←hfr];assumption) (by omega)|(intro a b ha hb;rw [clJ_skip (by first|exact .inl (by omega)|exact .inr (.inl (by rw [←hfr];assumption))|exact .inr (.inr (by omega))),hv4 a b ha hb])
       refine gS<|hK k73<|gL<|gRn (oadN _ 1 om9 rfl<|oM 1 rfl<|.nl)<|nN<|fun a83 w83 h83=>x_again ⟨_, ?_,r+1,M4, ?_, ?_, ?_, ?_,h83.nf ⟨rfl,rfl,rfl,rfl,rfl,rfl,rfl,rfl,rfl,rfl,rfl,rfl,rfl,rfl,rfl,rfl,rfl,rfl,trivial⟩,rfl⟩
       · rw [hm68];first|omega|(simp only [lens9];omega)
       · omega
       · first|exact hM4|(simp only [List.length_set];exact hM4)
       · first|exact hw4|exact set_lenA (set_lenA hw4)
       · first|exact cl_upd (wn:=(wrG (nth (nth code.l t).l k)).toNat) (fun a b=>get2_set (by omega) rfl (by rw [hw4 _ (by omega)];omega)) (fun a b=>get2_set (by simp only [List.length_set];omega) rfl (by rw [set_lenA hw4 _ (by simp only [List.length_set];omega)];omega)) hv4 (by omega) (by rw [←hfr];assumption) (by omega)|(intro a b ha hb;rw [clJ_skip (by first|exact .inl (by omega)|exact .inr (.inl (by rw [←hfr];assumption))|exact .inr (.inr (by omega))),hv4 a b ha hb])
      refine gRn (oKs 3 hb77 rfl rfl<|opF hb77 rfl<|.nl)<|nK k75<|gcF rfl rfl<|gS<|hK k73<|gL<|gRn (oadN _ 1 om9 rfl<|oM 1 rfl<|.nl)<|nN<|fun a84 w84 h84=>x_again ⟨_, ?_,r+1,M4, ?_, ?_, ?_, ?_,h84.nf ⟨rfl,rfl,rfl,rfl,rfl,rfl,rfl,rfl,rfl,rfl,rfl,rfl,rfl,rfl,rfl,rfl,rfl,rfl,trivial⟩,rfl⟩
      · rw [hm68];first|omega|(simp only [lens9];omega)
      · omega
      · first|exact hM4|(simp only [List.length_set];exact hM4)
      · first|exact hw4|exact set_lenA (set_lenA hw4)
      · first|exact cl_upd (wn:=(wrG (nth (nth code.l t).l k)).toNat) (fun a b=>get2_set (by omega) rfl (by rw [hw4 _ (by omega)];omega)) (fun a b=>get2_set (by simp only [List.length_set];omega) rfl (by rw [set_lenA hw4 _ (by simp only [List.length_set];omega)];omega)) hv4 (by omega) (by rw [←hfr];assumption) (by omega)|(intro a b ha hb;rw [clJ_skip (by first|exact .inl (by omega)|exact .inr (.inl (by rw [←hfr];assumption))|exact .inr (.inr (by omega))),hv4 a b ha hb])
     refine gRn (oK hb76 rfl<|opF hb76 rfl<|oM 1 rfl<|oKs 3 rfl rfl rfl<|opF rfl rfl<|.nl)<|nK k75<|gcF rfl rfl<|gS<|hK k73<|gL<|gRn (oadN _ 1 om9 rfl<|oM 1 rfl<|.nl)<|nN<|fun a85 w85 h85=>x_again ⟨_, ?_,r+1,M4, ?_, ?_, ?_, ?_,h85.nf ⟨rfl,rfl,rfl,rfl,rfl,rfl,rfl,rfl,rfl,rfl,rfl,rfl,rfl,rfl,rfl,rfl,rfl,rfl,trivial⟩,rfl⟩
     · rw [hm68];first|omega|(simp only [lens9];omega)
     · omega
     · first|exact hM4|(simp only [List.length_set];exact hM4)
     · first|exact hw4|exact set_lenA (set_lenA hw4)
     · first|exact cl_upd (wn:=(wrG (nth (nth code.l t).l k)).toNat) (fun a b=>get2_set (by omega) rfl (by rw [hw4 _ (by omega)];omega)) (fun a b=>get2_set (by simp only [List.length_set];omega) rfl (by rw [set_lenA hw4 _ (by simp only [List.length_set];omega)];omega)) hv4 (by omega) (by rw [←hfr];assumption) (by omega)|(intro a b ha hb;rw [clJ_skip (by first|exact .inl (by omega)|exact .inr (.inl (by rw [←hfr];assumption))|exact .inr (.inr (by omega))),hv4 a b ha hb])
    refine gX<|hK k64<|gL<|gRn (oadN _ 1 om9 rfl<|oM 1 rfl<|.nl)<|nN<|fun a86 w86 h86=>x_again ⟨_, ?_,q+1,M4, ?_, ?_, ?_, ?_,h86.nf ⟨rfl,rfl,rfl,rfl,rfl,rfl,rfl,rfl,rfl,rfl,rfl,rfl,rfl,rfl,rfl,rfl,trivial⟩,rfl⟩
    · rw [hm59];first|omega|(simp only [lens9];omega)
    · omega
    · exact hM4
    · exact hw4
    · intro a b ha hb;rw [any_step (by omega),←Bool.or_assoc,hv4 a b ha hb,clJ_all (by omega) (by omega)]
   refine gX<|hK k48<|gL<|gRn (oadN _ 1 om9 rfl<|oM 1 rfl<|.nl)<|nN<|fun a87 w87 h87=>x_again ⟨_, ?_,k+1,M3, ?_, ?_, ?_, ?_,h87.nrm ⟨rfl,rfl,rfl,rfl,rfl,rfl,rfl,rfl,rfl,rfl,rfl,rfl,trivial⟩ [2,3,4,5,6,7,8,9] rfl,rfl⟩
   · rw [hm43];first|omega|(simp only [lens9];omega)
   · omega
   · exact hM3
   · exact hw3
   · intro a b ha hb;rw [clTo_succ,hv3 a b ha hb,any_all (by omega)]
  refine gX<|hK k40<|sK fun _ k88=>gRn (ofB fl_25_3 rfl<|olB 4 ti_3 rfl rfl<|.nl)<|gE1 (fun _ _ h_=>x_makeMatH (n:=regs.toNat) h_ sl_26 ti_23 rfl (ev_nat (show 0≤regs from om9) rfl) (ev_nat (show 0≤regs from om9) rfl) (show 24*regs.toNat≤140737488355328∧regs.toNat≤140737488355328 from om9) rfl rfl Int) rfl fun v89=>gRn (oM 1 rfl<|.nl)<|nK k88<|gK fun _ k90=>sK fun _ k91=>gNl (aO 2 rfl) fun (hl92:M2.length≤140737488355328)=>gRn (oM 1 rfl<|oln (n:=M2.length) sl_115 (aO 2 rfl) rfl<|oM 1 rfl<|.nl)<|nK k91<|gB<|fun a94 w94 h94=>x_loop (fun m a w=>∃(i5:Nat) (N:List (Ls Int)),(i5≤regs.toNat)∧(N.length=regs.toNat)∧(∀a,a<i5→(nth N a).l=listB (nth M2 a).l)∧St 110 (fun _=>False) W a w [(1, .pointer (some ⟨b12,0,none⟩)),(3, .pointer (some ⟨b13,0,none⟩)),(5,vo),(8,v35),(17,v89),(26,code.v),(27, .int .i64 ((code.l.length:Nat):Int)),(28, .int .i64 ((t:Nat):Int)),(89, .int .i64 ((M2.length:Nat):Int)),(90, .int .i64 ((i5:Nat):Int))] [.big (matX .hold 23 v89 N), .own 119 (⟨s39.v,liveA (f t) (nth code.l t).l.length⟩:Ls BArr), .own 119 (⟨v35,M2⟩:Ls BArr), .blk b19 30 [.int .i64 ((checkG (pgOf code words locks regs)).code), .int .i64 ((checkG (pgOf code words locks regs)).thread), .int .i64 ((checkG (pgOf code words locks regs)).at_)], .blk b13 30 [.int .i64 0, .int .i64 0, .int .i64 0], .blk b12 25 [code.v,words.v, .int .i64 locks, .int .i64 regs], .at_ code, .at_ words, .deep 26 (⟨vo,os⟩:Ls (Ls (Ls Int)))]∧m=regs.toNat-i5) ⟨_,0,List.replicate regs.toNat (⟨.slice none 0 0, []⟩:Ls Int),(by omega),(List.length_replicate),(fun a ha=>absurd ha (by omega)),h94.nf ⟨rfl,rfl,rfl,rfl,rfl,rfl,rfl,rfl,rfl,rfl,trivial⟩,rfl⟩ ?_
  clear h94
  rintro m93 a93 w93 ⟨i5,N,hi5,hN,hn5,h93,hm93⟩
  refine gG h93<|sG (oltN _ _ rfl<|.nl)<|gK fun _ k96=>gcd rfl (fun hb97 hp97=> ?_) fun hb97 hp97=> ?_;clear h93
  ·skip
   refine gS<|hK k96<|gK fun _ k98=>gB<|sG (oM 2 rfl<|.nl)<|gL<|gRn (oM 4 rfl<|oxN sl_115 ti_119 (aO 2 rfl) _ om9 rfl<|oV (r_ldewAr (n:=0) (i:=i5) (s:=(⟨v35,M2⟩:Ls BArr)) ti_119 rfl rfl (fun w h=>(h.own 2 rfl)) (show i5<M2.length from om9)) rfl<|.nl)<|fun a101 w101 h101=>wl_ex (x_call h101 bd_64 rfl rfl rfl rfl rfl (list_ls (list_c ((nth M2 i5).l) _ (hw2 _ (by omega))))) (wanted_none rfl _) ?_
   rintro a102 w102 ⟨_,⟨s102,rfl,hs102⟩,hf102⟩
   have h102:=(⟨hf102,h101.sh.call hs102 (by intro A hA b hb;first|(simp at hA;done)|(simp at hA;subst hA;first|exact Flat.noRd hb|exact barr_noRd hb|exact (hb:False).elim))⟩:St 110 (fun _=>False) W a102 w102 _ _)
   clear hf102 hs102
   clear h101
   refine gG h102<|gP (fun _ _ h_=>xCl h_ bd_63 rfl (clip_c (⟨s102.v,listB ((nth M2 i5).l)⟩:Ls Int) _ (h_.sh.own 0 rfl))) rfl<|gRn (oxN sl_26 ti_23 (fun w h=>(h.matAt 1 rfl)) _ (by rw [rvs_len];exact (show i5<N.length from (by omega))) rfl<|.nl)<|fun a104 w104 h104=> ?_;clear h102
   have ha105:=(clip_at (h104.sh.own 0 rfl))
   have h106:St 110 (fun _=>False) W a104 w104 _ _:=⟨h104.fr,h104.sh.toHoldClip⟩
   clear h104
   have h107:=h106.sel (L' := [_,_,_,_,_,_,_,_,_,_]) [1,0,2,3,4,5,6,7,8,9] rfl
   refine wl_ex (x_stMat (i:=i5) (s:=(⟨vclip s102.v,listB ((nth M2 i5).l)⟩:Ls Int)) h107 ti_23 rfl rfl rfl rfl (show i5<N.length from (by omega)) ha105) (wanted_none rfl _) ?_
   rintro a108 w108 h108
   clear h107
   refine gG h108<|nK k98<|gL<|gRn (oadN _ 1 om9 rfl<|oM 1 rfl<|.nl)<|nN<|fun a109 w109 h109=>x_again ⟨_, ?_,i5+1,N.set i5 (⟨vclip s102.v,listB ((nth M2 i5).l)⟩:Ls Int), ?_, ?_, ?_,h109.nf ⟨rfl,rfl,rfl,rfl,rfl,rfl,rfl,rfl,rfl,rfl,trivial⟩,rfl⟩;clear h108
   · rw [hm93];first|omega|(simp only [lens9];omega)
   · omega
   · rw [List.length_set];exact hN
   · intro a ha;rw [nth_set];split;(rename_i h9;rw [h9.1]);(rename_i h9;exact hn5 a (by omega))
  refine gX<|hK k90<|fun a111 w111 h111=> ?_
  have h110:St 110 (fun _=>False) W a111 w111 _ _:=⟨h111.fr,h111.sh.matDeep hold_mat⟩
  clear h111
  have hN2:N.map (·.l)=clashL (nth code.l t).l (f t) regs.toNat:=rowsI_eq hN fun a ha=>by rw [hn5 a (by omega)];congr 1;exact eq_mapR (hw2 a (by omega)) fun b hb=>by rw [←show k=(nth code.l t).l.length by omega];exact hv2 a b ha hb
  refine gG h110<|gL<|gRn (oM 2 rfl<|.nl)<|gE1 (fun _ _ h_=>x_litD (E:=0) (x:=(⟨v89,N⟩:Ls (Ls Int))) h_ sl_58 ti_26 rfl rfl rfl ((h_.sh.deep 0 rfl)) (fun b hb=>by rcases hb with ⟨h0,rfl⟩|hb;exact .inl (own_blk h0 (h_.sh.ok _ (List.mem_of_getElem? (i:=0) rfl)).1);exact .inr hb) (fun b hb=>hb) rfl rfl) rfl fun v112=>gO [8,0,1,2,3,4,5,6,7] rfl<|gE1 (fun _ _ h_=>x_appD (s:=(⟨vo,os⟩:Ls (Ls (Ls Int)))) (m:=(⟨v112, [(⟨v89,N⟩:Ls (Ls Int))]⟩:Ls (Ls (Ls Int)))) h_ sl_58 ti_26 rfl rfl rfl rfl rfl rfl rfl inferInstance (show (os.length+([(⟨v89,N⟩:Ls (Ls Int))]).length)*24≤140737488355328∧os.length+([(⟨v89,N⟩:Ls (Ls Int))]).length≤140737488355328 from om9) rfl rfl) rfl fun v114=>gRn (oM 1 rfl<|.nl)<|nK k32<|gL<|gRn (oadN _ 1 om9 rfl<|oM 1 rfl<|.nl)<|nN<|fun a115 w115 h115=>x_again ⟨_, ?_,t+1,os++([(⟨v89,N⟩:Ls (Ls Int))]),v114, ?_, ?_, ?_,h115.nrm ⟨rfl,rfl,rfl,rfl,rfl,rfl,trivial⟩ [3,4,5,6,7,0] rfl,rfl⟩;clear h110
  · rw [hm26];first|omega|(simp only [lens9];omega)
  · omega
  · rw [List.map_append,hos,List.range_succ,List.map_append];congr 1;show [N.map (·.l)]= [_];rw [hN2]
  · simp [hol]
 refine gX<|hK k23<|sK fun _ k116=>gRn (oM 1 rfl<|oV (r_build (cs:= [.int .i64 0, .int .i64 0, .int .i64 0]) rfl rfl (by kernel_rfl)) rfl<|oM 1 rfl<|.nl)<|gsw 1 ti_30 rfl rfl rfl<|nK k116<|gR<|fun a118 w118 h118=>x_rettc (fn:=Try.f29) (t:=3) (u:=2) (i:=1) ti_30 rfl h118 rfl rfl rfl rfl<|⟨⟨vo,os⟩,rfl, ?_,(h118.sh.sel [5] rfl)⟩
 show os.map _=_
 rw [hos,show t=code.l.length by omega]
theorem clash_b (code:Ls (Ls Ins))(words:Ls Int)(locks regs:Int)(W:World)(hcode:code.At W)(hwords:words.At W)(hz:(checkG (pgOf code words locks regs)).code≠0):
    Rets Try.prog 29 [.agg #[code.v,words.v, .int .i64 locks, .int .i64 regs]] W (fun v w' =>v= .tuple #[.slice none 0 0,(checkG (pgOf code words locks regs)).val]∧Sh0 W w' []):=by
 refine gen Try.func29 Try.ntmps29 (Sh0.ext2 hcode hwords:Sh (fun _=>False) W W [.at_ code, .at_ words]) rfl fun a10 h10=>gG h10<|sK fun _ k11=>gbx rfl rfl fun b12=>gRn (oM 1 rfl<|.nl)<|gal ti_30 rfl fun b13=>nK k11<|gK fun _ k14=>sK fun _ k15=>gRn (olw 1 ti_25 rfl rfl<|.nl)<|gC (fun _ _ h_=>xCl h_ bd_27 rfl (asmCheck_c (code:=code) (words:=words) (locks:=locks) (regs:=regs) (h_.sh.at 2 rfl) (h_.sh.at 3 rfl))) rfl<|?_;clear h10
 rintro _ _ w16 ⟨rfl,hs16⟩
 refine gWk hs16 rfl<|gU<|gal ti_30 rfl fun b17=>gsw 0 ti_30 rfl rfl rfl<|nK k15<|sG (ofB fl_30_0 rfl<|olB 0 ti_28 rfl rfl<|oneI _ _ rfl<|.nl)<|gcT rfl (decide_eq_true hz)<|gK fun _ k20=>rT 2 [] (olw 0 ti_30 rfl rfl<|oM 1 rfl<|.nl)<|gsw 1 ti_30 rfl rfl rfl<|nK k20<|gR<|uT<|fun a22 w22 h22=> ?_;clear hs16
 refine x_rettc (fn:=Try.f29) (t:=3) (u:=2) (i:=1) ti_30 rfl h22 rfl rfl rfl rfl ?_
 exact ⟨rfl,(h22.sh.sel [] rfl)⟩
theorem rows_eq {M:List (Ls Bool)}{m:Nat}{h:Nat→List Bool}(hl:M.length=m)(hv:∀a,a<m→(nth M a).l=h a):M.map (·.l)=(List.range m).map h:=by
 apply List.ext_getElem (by simp [hl])
 intro i h1 h2
 have:=hv i (by simpa [hl] using h1)
 rw [nth_lt _ _ (by simpa using h1)] at this
 simpa using this
theorem set_len2 {M:List (Ls Bool)}{i q n A:Nat}{v:Value}{b:Bool}(h:∀a,a<A→(nth M a).l.length=n):∀a,a<A→(nth (M.set i ⟨v,(nth M i).l.set q b⟩) a).l.length=n:=by
 intro a ha
 rw [nth_set]
 split
 ·rename_i h9;rw [List.length_set,h9.1];exact h a ha
 ·exact h a ha
theorem rAhead_c (x:Ls Ins)(r:Nat)(rg:Int)(f:Nat→Nat→Bool)(W:World)(hx:x.At W)(hl:x.l.length≤5000)(hj:JumpsOK x.l)(hok:OkV x.l rg)(hf:∀r j,(f r j=true↔LiveI x.l r j)):
    Rets Try.prog 93 [x.v, .int .i64 ((r:Nat):Int)] W (fun v w' =>∃s:Ls Bool,v=s.v∧s.l=(List.range (x.l.length+1)).map (f r)∧Sh0 W w' [.own 4 s]):=by
 refine gen Try.func93 Try.ntmps93 (Sh0.ext1 hx:Sh (fun _=>False) W W [.at_ x]) rfl fun a10 h10=>gG h10<|sG (oM 1 rfl<|.nl)<|sK fun _ k12=>gNl (aA 0 rfl) fun hl13=>gRn (oM 1 rfl<|oln sl_45 (aA 0 rfl) rfl<|oadN _ 1 om9 rfl<|.nl)<|gE1 (fun _ _ h_=>x_make (n:=x.l.length+1) (false:Bool) h_ sl_64 ti_4 rfl rfl rfl rfl rfl (show 1*(x.l.length+1)≤140737488355328∧x.l.length+1≤140737488355328 from om9) (fun w=>Flat.inner _ _) (fun b=>Flat.on _ _) rfl rfl) rfl fun v14=>gRn (oM 1 rfl<|.nl)<|nK k12<|gK fun _ k15=>sG (oM 1 rfl<|.nl)<|gB<|fun a18 w18 h18=>x_loop (fun m a w=>∃(l:List Bool) (ag:Bool),(VI x.l r l)∧(ag=false→∀i,i<x.l.length→ClV x.l r l i)∧St 87 (fun _=>False) W a w [(0,x.v),(1, .int .i64 ((r:Nat):Int)),(5,v14),(6, .bool ag)] [.own 4 (⟨v14,l⟩:Ls Bool), .at_ x]∧m=(bif ag then 1 else 0)+2*((x.l.length+1)-cntV l)) ⟨_,List.replicate (x.l.length+1) false,true,(VI.start x.l r),(fun h=>by cases h),h18.nf ⟨rfl,rfl,rfl,rfl,trivial⟩,rfl⟩ ?_;clear h10
 clear h18
 rintro m17 a17 w17 ⟨l,ag,hdi,hcl,h17,hm17⟩
 have hd1:=hdi.l1
 refine gG h17<|gK fun _ k19=>sG (oM 1 rfl<|.nl)<|?_;clear h17
 refine gCb rfl (fun hb21=> ?_) fun hb21=> ?_
 ·skip
  refine gS<|hK k19<|gB<|sG (oM 1 rfl<|.nl)<|sG (oM 1 rfl<|oln sl_45 (aA 1 rfl) rfl<|osbI _ _ om9 rfl<|oM 1 rfl<|.nl)<|gB<|fun a25 w25 h25=>x_loop (fun m a w=>∃(k:Nat) (l2:List Bool) (ag2:Bool),(k≤x.l.length)∧(VI x.l r l2)∧(ag2=false→l2=l∧∀i,k≤i→i<x.l.length→ClV x.l r l2 i)∧(ag2=true→cntV l<cntV l2)∧St 87 (fun _=>False) W a w [(0,x.v),(1, .int .i64 ((r:Nat):Int)),(5,v14),(6, .bool ag2),(7, .int .i64 (((k:Nat):Int)-1))] [.own 4 (⟨v14,l2⟩:Ls Bool), .at_ x]∧m=k) ⟨_,x.l.length,l,false,(by omega),(hdi),(fun _=>⟨rfl,fun i hi hi2=>absurd hi (by omega)⟩),(fun h=>by cases h),h25.nf ⟨rfl,rfl,rfl,rfl,rfl,trivial⟩,rfl⟩ ?_
  clear h25
  rintro m24 a24 w24 ⟨k,l2,ag2,hk,hdi2,h20,h21,h24,hm24⟩
  have hd3:=hdi2.l1
  refine gG h24<|gK fun _ k26=>sG (oM 1 rfl<|ogeI _ _ rfl<|.nl)<|?_;clear h24
  refine gcd rfl (fun hb28 hp28=> ?_) fun hb28 hp28=> ?_
  ·skip
   obtain ⟨j,rfl⟩:∃j,k=j+1:=⟨k-1,by omega⟩
   intro a30 w30 h30
   have h29:St 87 (fun _=>False) W a30 w30 [(0,x.v),(1, .int .i64 ((r:Nat):Int)),(5,v14),(6, .bool ag2),(7, .int .i64 ((j:Nat):Int)),(22, .int .i64 ((j:Nat):Int))] [.own 4 (⟨v14,l2⟩:Ls Bool), .at_ x]:=(h30.sub (F' := [(0,x.v),(1, .int .i64 ((r:Nat):Int)),(5,v14),(6, .bool ag2),(7, .int .i64 (((j+1:Nat):Int)-1)),(22, .int .i64 (((j+1:Nat):Int)-1))]) ⟨rfl,rfl,rfl,rfl,rfl,rfl,trivial⟩).cg (by simp only [show (((j+1:Nat):Int)-1)=((j:Nat):Int) by omega])
   clear h30
   refine gG h29<|gS<|hK k26<|gK fun _ k31=>gB<|sK fun _ k32=>gRn (oM 2 rfl<|oxN sl_45 ti_47 (aA 1 rfl) _ om9 rfl<|olw2 [.int .i64 ((nth x.l j).op), .int .i64 ((nth x.l j).a), .int .i64 ((nth x.l j).b), .int .i64 ((nth x.l j).c)] ti_47 (aA 1 rfl) om9 rfl<|.nl)<|gC (fun _ _ h_=>xCl h_ bd_99 rfl (reads_ls (rReads_c (nth x.l j) _ (by have h8:=(hok j (by omega)).1;omega) (hok j (by omega)).2.1))) rfl<|?_;clear h29
   rintro _ _ w33 ⟨s33,rfl,hs33⟩
   refine gWk hs33 rfl<|gU<|gRn (oM 1 rfl<|.nl)<|nK k32<|sG (oM 1 rfl<|.nl)<|gK fun _ k35=>sG (oM 1 rfl<|.nl)<|gB<|?_;clear hs33
   have hrl:=rdG_len (nth x.l j)
   intro a38 w38 h38
   refine x_loop (fun m a w=>∃(q:Nat) (ib:Bool),(q≤(rdG (nth x.l j)).length)∧(ib=((rdG (nth x.l j)).take q).any fun v=>decide (v=(r:Int)))∧St 87 (fun _=>False) W a w [(0,x.v),(1, .int .i64 ((r:Nat):Int)),(5,v14),(6, .bool ag2),(7, .int .i64 ((j:Nat):Int)),(8,s33.v),(9, .bool ib),(10, .int .i64 ((q:Nat):Int))] [.own 3 (⟨s33.v,rdG (nth x.l j)⟩:Ls Int), .own 4 (⟨v14,l2⟩:Ls Bool), .at_ x]∧m=(rdG (nth x.l j)).length-q) ⟨_,0,false,(by omega),(any_zero.symm),h38.nf ⟨rfl,rfl,rfl,rfl,rfl,rfl,rfl,rfl,trivial⟩,rfl⟩ ?_
   clear h38
   rintro m37 a37 w37 ⟨q,ib,hq,hib,h37,hm37⟩
   refine gG h37<|gK fun _ k39=>sK fun _ k40=>gNl (aO 0 rfl) fun (hl41:(rdG (nth x.l j)).length≤140737488355328)=>gRn (oM 2 rfl<|oln (n:=(rdG (nth x.l j)).length) sl_23 (aO 0 rfl) rfl<|oltN _ _ rfl<|.nl)<|nK k40<|?_;clear h37
   refine gcd rfl (fun hb42 hp42=> ?_) fun hb42 hp42=> ?_
   ·skip
    refine gS<|hK k39<|gK fun _ k43=>gB<|gL<|gRn (oM 2 rfl<|.nl)<|?_
    rcases Bool.eq_false_or_eq_true ib with hb44|hb44
    ·skip
     refine gRn (oKs 6 hb44 rfl rfl<|opT hb44 rfl<|oM 1 rfl<|.nl)<|nK k43<|gL<|gRn (oM 1 rfl<|oadN _ 1 om9 rfl<|oM 1 rfl<|.nl)<|nN<|fun a45 w45 h45=>x_again ⟨_, ?_,q+1,true, ?_, ?_,h45.nf ⟨rfl,rfl,rfl,rfl,rfl,rfl,rfl,rfl,trivial⟩,rfl⟩
     · rw [hm37];first|omega|(simp only [lens9];omega)
     · omega
     · first|(rw [any_step (by omega),←hib,show ib=true by assumption];rfl)|(rw [any_step (by omega),←hib,show ib=false by assumption];rfl)
    refine gRn (oG hb44 (r_move rfl rfl) rfl<|oG hb44 (r_move rfl rfl) rfl<|oG hb44 (r_ixN (s:=(⟨s33.v,rdG (nth x.l j)⟩:Ls Int)) (q:=q) sl_23 ti_3 rfl rfl rfl (fun w h=>(h.own 0 rfl)) (show q<(rdG (nth x.l j)).length from om9)) rfl<|oG hb44 (r_lde (s:=(⟨s33.v,rdG (nth x.l j)⟩:Ls Int)) (i:=q) (v:= .int .i64 (nth (rdG (nth x.l j)) q)) ti_3 rfl rfl rfl (fun w h=>(h.own 0 rfl)) (show q<(rdG (nth x.l j)).length from om9) (Nat.le_of_ble_eq_true rfl) rfl) rfl<|oG hb44 (r_move rfl rfl) rfl<|oG hb44 (r_eqlI (p:=nth (rdG (nth x.l j)) q) (q:=((r:Nat):Int)) rfl rfl rfl) rfl<|opF hb44 rfl<|oM 1 rfl<|.nl)<|nK k43<|gL<|gRn (oM 1 rfl<|oadN _ 1 om9 rfl<|oM 1 rfl<|.nl)<|nN<|fun a46 w46 h46=>x_again ⟨_, ?_,q+1,decide (nth (rdG (nth x.l j)) q=((r:Nat):Int)), ?_, ?_,h46.nf ⟨rfl,rfl,rfl,rfl,rfl,rfl,rfl,rfl,trivial⟩,rfl⟩
    · rw [hm37];first|omega|(simp only [lens9];omega)
    · omega
    · first|(rw [any_step (by omega),←hib,show ib=true by assumption];rfl)|(rw [any_step (by omega),←hib,show ib=false by assumption];rfl)
   refine gX<|hK k35<|sK fun _ k47=>gRn (oM 2 rfl<|oxN sl_45 ti_47 (aA 2 rfl) _ om9 rfl<|olw2 [.int .i64 ((nth x.l j).op), .int .i64 ((nth x.l j).a), .int .i64 ((nth x.l j).b), .int .i64 ((nth x.l j).c)] ti_47 (aA 2 rfl) om9 rfl<|.nl)<|gP (fun _ _ h_=>xCl h_ bd_68 rfl (rWrites_c (nth x.l j) _ (by have h8:=(hok j (by omega)).1;omega))) rfl<|gRn (oM 1 rfl<|.nl)<|nK k47<|sK fun _ k49=>gRn (oM 2 rfl<|.nl)<|gC (fun _ _ h_=>xCl h_ bd_53 rfl (rNexts_c x j _ (h_.sh.at 2 rfl) (by omega) (by omega))) rfl<|?_
   rintro _ _ w50 ⟨s50,rfl,hs50⟩
   refine gWk hs50 rfl<|gU<|gRn (oM 1 rfl<|.nl)<|nK k49<|gK fun _ k51=>sG (oM 1 rfl<|.nl)<|gB<|?_;clear hs50
   have hnl:=nextsV_len x.l j
   intro a54 w54 h54
   refine x_loop (fun m a w=>∃(q2:Nat) (ib2:Bool),(q2≤(nextsL x.l j).length)∧(ib2=(((rdG (nth x.l j)).any fun v=>decide (v=(r:Int)))||(decide (wrG (nth x.l j)≠(r:Int))&&((nextsL x.l j).take q2).any fun y=>nth l2 y.toNat)))∧St 87 (fun _=>False) W a w [(0,x.v),(1, .int .i64 ((r:Nat):Int)),(5,v14),(6, .bool ag2),(7, .int .i64 ((j:Nat):Int)),(9, .bool ib2),(11, .int .i64 (wrG (nth x.l j))),(12,s50.v),(13, .int .i64 ((q2:Nat):Int))] [.own 3 (⟨s50.v,nextsL x.l j⟩:Ls Int), .own 3 (⟨s33.v,rdG (nth x.l j)⟩:Ls Int), .own 4 (⟨v14,l2⟩:Ls Bool), .at_ x]∧m=(nextsL x.l j).length-q2) ⟨_,0,ib,(by omega),(by rw [any_zero,Bool.and_false,Bool.or_false,hib,any_all (by omega)]),h54.nf ⟨rfl,rfl,rfl,rfl,rfl,rfl,rfl,rfl,rfl,trivial⟩,rfl⟩ ?_
   clear h54
   rintro m53 a53 w53 ⟨q2,ib2,hq2,hib2,h53,hm53⟩
   refine gG h53<|gK fun _ k55=>sK fun _ k56=>gNl (aO 0 rfl) fun (hl57:(nextsL x.l j).length≤140737488355328)=>gRn (oM 2 rfl<|oln (n:=(nextsL x.l j).length) sl_23 (aO 0 rfl) rfl<|oltN _ _ rfl<|oM 1 rfl<|.nl)<|?_;clear h53
   rcases dsp (q2<(nextsL x.l j).length) with ⟨hb58,hp58⟩|⟨hb58,hp58⟩
   ·skip
    refine gRn (oG hb58 (r_move rfl rfl) rfl<|oG hb58 (r_move rfl rfl) rfl<|oG hb58 (r_neqI (p:=wrG (nth x.l j)) (q:=((r:Nat):Int)) rfl rfl rfl) rfl<|opT hb58 rfl<|.nl)<|nK k56<|gcd rfl (fun hb59 hp59=> ?_) fun hb59 hp59=> ?_
    ·skip
     refine gS<|hK k55<|?_
     have hmm:nth (nextsL x.l j) q2∈nextsL x.l j:=nth_mem _ _ (by omega)
     have hnx:=nextsV_ok hj (by omega) hmm
     refine gK fun _ k60=>gB<|gL<|gRn (oM 2 rfl<|.nl)<|?_
     rcases Bool.eq_false_or_eq_true ib2 with hb61|hb61
     ·skip
      refine gRn (oKs 7 hb61 rfl rfl<|opT hb61 rfl<|oM 1 rfl<|.nl)<|nK k60<|gL<|gRn (oM 1 rfl<|oadN _ 1 om9 rfl<|oM 1 rfl<|.nl)<|nN<|fun a62 w62 h62=>x_again ⟨_, ?_,q2+1,true, ?_, ?_,h62.nf ⟨rfl,rfl,rfl,rfl,rfl,rfl,rfl,rfl,rfl,trivial⟩,rfl⟩
      · rw [hm53];first|omega|(simp only [lens9];omega)
      · omega
      · rw [any_step (by omega)];first|exact (need_more hib2 (decide_eq_true (by assumption))).1 (by assumption)|exact (need_more hib2 (decide_eq_true (by assumption))).2 (by assumption)
     refine gNl (aO 2 rfl) fun (hl63:l2.length≤140737488355328)=>gRn (oG hb61 (r_move rfl rfl) rfl<|oG hb61 (r_move rfl rfl) rfl<|oG hb61 (r_move rfl rfl) rfl<|oG hb61 (r_ixN (s:=(⟨s50.v,nextsL x.l j⟩:Ls Int)) (q:=q2) sl_23 ti_3 rfl rfl rfl (fun w h=>(h.own 0 rfl)) (show q2<(nextsL x.l j).length from om9)) rfl<|oG hb61 (r_lde (s:=(⟨s50.v,nextsL x.l j⟩:Ls Int)) (i:=q2) (v:= .int .i64 (nth (nextsL x.l j) q2)) ti_3 rfl rfl rfl (fun w h=>(h.own 0 rfl)) (show q2<(nextsL x.l j).length from om9) (Nat.le_of_ble_eq_true rfl) rfl) rfl<|oG hb61 (r_ixI (s:=(⟨v14,l2⟩:Ls Bool)) (q:=nth (nextsL x.l j) q2) sl_64 ti_4 rfl rfl rfl (fun w h=>(h.own 2 rfl)) (show 0≤nth (nextsL x.l j) q2∧nth (nextsL x.l j) q2<l2.length from om9)) rfl<|oG hb61 (r_lde (s:=(⟨v14,l2⟩:Ls Bool)) (i:=(nth (nextsL x.l j) q2).toNat) (v:= .bool (nth l2 ((nth (nextsL x.l j) q2).toNat))) ti_4 rfl rfl rfl (fun w h=>(h.own 2 rfl)) (show (nth (nextsL x.l j) q2).toNat<l2.length from om9) (Nat.le_of_ble_eq_true rfl) rfl) rfl<|opF hb61 rfl<|oM 1 rfl<|.nl)<|nK k60<|gL<|gRn (oM 1 rfl<|oadN _ 1 om9 rfl<|oM 1 rfl<|.nl)<|nN<|fun a64 w64 h64=>x_again ⟨_, ?_,q2+1,nth l2 ((nth (nextsL x.l j) q2).toNat), ?_, ?_,h64.nf ⟨rfl,rfl,rfl,rfl,rfl,rfl,rfl,rfl,rfl,trivial⟩,rfl⟩
     · rw [hm53];first|omega|(simp only [lens9];omega)
     · omega
     · rw [any_step (by omega)];first|exact (need_more hib2 (decide_eq_true (by assumption))).1 (by assumption)|exact (need_more hib2 (decide_eq_true (by assumption))).2 (by assumption)
    refine gX<|hK k51<|?_
    have hneed:ib2=needB (nth l2) x.l j r:=need_end hib2 (by first|exact .inr (any_all (by omega))|exact .inl (decide_eq_false (by omega)))
    refine sK fun _ k65=>gRn (oM 2 rfl<|.nl)<|?_
    rcases Bool.eq_false_or_eq_true ib2 with hb66|hb66
    ·skip
     refine gNl (aO 2 rfl) fun (hl67:l2.length≤140737488355328)=>gRn (oG hb66 (r_move rfl rfl) rfl<|oG hb66 (r_move rfl rfl) rfl<|oG hb66 (r_ixN (s:=(⟨v14,l2⟩:Ls Bool)) (q:=j) sl_64 ti_4 rfl rfl rfl (fun w h=>(h.own 2 rfl)) (show j<l2.length from om9)) rfl<|oG hb66 (r_lde (s:=(⟨v14,l2⟩:Ls Bool)) (i:=j) (v:= .bool (nth l2 j)) ti_4 rfl rfl rfl (fun w h=>(h.own 2 rfl)) (show j<l2.length from om9) (Nat.le_of_ble_eq_true rfl) rfl) rfl<|oG hb66 (r_not rfl rfl) rfl<|opT hb66 rfl<|.nl)<|nK k65<|gCb rfl (fun hb68=> ?_) fun hb68=> ?_
     ·have hn68:nth l2 j=false:=(Bool.not_eq_true' _).mp hb68
      refine sK fun _ k69=>gRn (oM 2 rfl<|oxN sl_64 ti_4 (aO 2 rfl) _ om9 rfl<|.nl)<|gte 2 (true:Bool) ti_4 om9 rfl rfl<|nK k69<|gF [0,1,5,7] rfl<|gL<|gRn (oM 1 rfl<|.nl)<|nK k31<|gL<|gRn (oM 1 rfl<|osbI _ _ om9 rfl<|oM 1 rfl<|.nl)<|nN<|fun a71 w71 h71=>x_again ⟨_, ?_,j,l2.set j true,true, ?_, ?_, ?_, ?_,h71.nrm ⟨rfl,rfl,rfl,rfl,rfl,trivial⟩ [2,3] rfl,rfl⟩
      · rw [hm24];omega
      · omega
      · first|exact hdi2|exact hdi2.set (by omega) (hneed▸(by assumption))
      · first|(intro h;cases h;done)|exact vr_same h20 (fun h=>by first|assumption|exact absurd (h.symm.trans (hneed.symm.trans (show ib2=false by assumption))) (by decide))
      · first|exact h21|(intro _;exact Nat.lt_of_le_of_lt (vr_le h20 (fun e=>by rw [e]) h21) (cntV_set (by omega) (by assumption)))
     have hn68:nth l2 j=true:=(Bool.not_eq_false' _).mp hb68
     refine gS<|hK k31<|gL<|gRn (oM 1 rfl<|osbI _ _ om9 rfl<|oM 1 rfl<|.nl)<|nN<|fun a72 w72 h72=>x_again ⟨_, ?_,j,l2,ag2, ?_, ?_, ?_, ?_,h72.nrm ⟨rfl,rfl,rfl,rfl,rfl,trivial⟩ [2,3] rfl,rfl⟩
     · rw [hm24];omega
     · omega
     · first|exact hdi2|exact hdi2.set (by omega) (hneed▸(by assumption))
     · first|(intro h;cases h;done)|exact vr_same h20 (fun h=>by first|assumption|exact absurd (h.symm.trans (hneed.symm.trans (show ib2=false by assumption))) (by decide))
     · first|exact h21|(intro _;exact Nat.lt_of_le_of_lt (vr_le h20 (fun e=>by rw [e]) h21) (cntV_set (by omega) (by assumption)))
    refine gRn (oKs 5 hb66 rfl rfl<|opF hb66 rfl<|.nl)<|nK k65<|gcF rfl rfl<|gS<|hK k31<|gL<|gRn (oM 1 rfl<|osbI _ _ om9 rfl<|oM 1 rfl<|.nl)<|nN<|fun a73 w73 h73=>x_again ⟨_, ?_,j,l2,ag2, ?_, ?_, ?_, ?_,h73.nrm ⟨rfl,rfl,rfl,rfl,rfl,trivial⟩ [2,3] rfl,rfl⟩
    · rw [hm24];omega
    · omega
    · first|exact hdi2|exact hdi2.set (by omega) (hneed▸(by assumption))
    · first|(intro h;cases h;done)|exact vr_same h20 (fun h=>by first|assumption|exact absurd (h.symm.trans (hneed.symm.trans (show ib2=false by assumption))) (by decide))
    · first|exact h21|(intro _;exact Nat.lt_of_le_of_lt (vr_le h20 (fun e=>by rw [e]) h21) (cntV_set (by omega) (by assumption)))
   refine gRn (oKs 3 hb58 rfl rfl<|opF hb58 rfl<|.nl)<|nK k56<|gcF rfl rfl<|gX<|hK k51<|?_
   have hneed:ib2=needB (nth l2) x.l j r:=need_end hib2 (by first|exact .inr (any_all (by omega))|exact .inl (decide_eq_false (by omega)))
   refine sK fun _ k74=>gRn (oM 2 rfl<|.nl)<|?_
   rcases Bool.eq_false_or_eq_true ib2 with hb75|hb75
   ·skip
    refine gNl (aO 2 rfl) fun (hl76:l2.length≤140737488355328)=>gRn (oG hb75 (r_move rfl rfl) rfl<|oG hb75 (r_move rfl rfl) rfl<|oG hb75 (r_ixN (s:=(⟨v14,l2⟩:Ls Bool)) (q:=j) sl_64 ti_4 rfl rfl rfl (fun w h=>(h.own 2 rfl)) (show j<l2.length from om9)) rfl<|oG hb75 (r_lde (s:=(⟨v14,l2⟩:Ls Bool)) (i:=j) (v:= .bool (nth l2 j)) ti_4 rfl rfl rfl (fun w h=>(h.own 2 rfl)) (show j<l2.length from om9) (Nat.le_of_ble_eq_true rfl) rfl) rfl<|oG hb75 (r_not rfl rfl) rfl<|opT hb75 rfl<|.nl)<|nK k74<|gCb rfl (fun hb77=> ?_) fun hb77=> ?_
    ·have hn77:nth l2 j=false:=(Bool.not_eq_true' _).mp hb77
     refine sK fun _ k78=>gRn (oM 2 rfl<|oxN sl_64 ti_4 (aO 2 rfl) _ om9 rfl<|.nl)<|gte 2 (true:Bool) ti_4 om9 rfl rfl<|nK k78<|gF [0,1,5,7] rfl<|gL<|gRn (oM 1 rfl<|.nl)<|nK k31<|gL<|gRn (oM 1 rfl<|osbI _ _ om9 rfl<|oM 1 rfl<|.nl)<|nN<|fun a80 w80 h80=>x_again ⟨_, ?_,j,l2.set j true,true, ?_, ?_, ?_, ?_,h80.nrm ⟨rfl,rfl,rfl,rfl,rfl,trivial⟩ [2,3] rfl,rfl⟩
     · rw [hm24];omega
     · omega
     · first|exact hdi2|exact hdi2.set (by omega) (hneed▸(by assumption))
     · first|(intro h;cases h;done)|exact vr_same h20 (fun h=>by first|assumption|exact absurd (h.symm.trans (hneed.symm.trans (show ib2=false by assumption))) (by decide))
     · first|exact h21|(intro _;exact Nat.lt_of_le_of_lt (vr_le h20 (fun e=>by rw [e]) h21) (cntV_set (by omega) (by assumption)))
    have hn77:nth l2 j=true:=(Bool.not_eq_false' _).mp hb77
    refine gS<|hK k31<|gL<|gRn (oM 1 rfl<|osbI _ _ om9 rfl<|oM 1 rfl<|.nl)<|nN<|fun a81 w81 h81=>x_again ⟨_, ?_,j,l2,ag2, ?_, ?_, ?_, ?_,h81.nrm ⟨rfl,rfl,rfl,rfl,rfl,trivial⟩ [2,3] rfl,rfl⟩
    · rw [hm24];omega
    · omega
    · first|exact hdi2|exact hdi2.set (by omega) (hneed▸(by assumption))
    · first|(intro h;cases h;done)|exact vr_same h20 (fun h=>by first|assumption|exact absurd (h.symm.trans (hneed.symm.trans (show ib2=false by assumption))) (by decide))
    · first|exact h21|(intro _;exact Nat.lt_of_le_of_lt (vr_le h20 (fun e=>by rw [e]) h21) (cntV_set (by omega) (by assumption)))
   refine gRn (oKs 5 hb75 rfl rfl<|opF hb75 rfl<|.nl)<|nK k74<|gcF rfl rfl<|gS<|hK k31<|gL<|gRn (oM 1 rfl<|osbI _ _ om9 rfl<|oM 1 rfl<|.nl)<|nN<|fun a82 w82 h82=>x_again ⟨_, ?_,j,l2,ag2, ?_, ?_, ?_, ?_,h82.nrm ⟨rfl,rfl,rfl,rfl,rfl,trivial⟩ [2,3] rfl,rfl⟩
   · rw [hm24];omega
   · omega
   · first|exact hdi2|exact hdi2.set (by omega) (hneed▸(by assumption))
   · first|(intro h;cases h;done)|exact vr_same h20 (fun h=>by first|assumption|exact absurd (h.symm.trans (hneed.symm.trans (show ib2=false by assumption))) (by decide))
   · first|exact h21|(intro _;exact Nat.lt_of_le_of_lt (vr_le h20 (fun e=>by rw [e]) h21) (cntV_set (by omega) (by assumption)))
  refine gX<|fun a83 w83 h83=> ?_
  change∃_m,_m<_∧_
  refine ⟨_, ?_,l2,ag2, ?_, ?_,h83.nf ⟨rfl,rfl,rfl,rfl,trivial⟩,rfl⟩
  · rw [hm17];exact vr_down (by assumption) (by have h8:=cntV_le l2;rw [hdi2.l1] at h8;exact h8) h20 (fun e=>by rw [e]) h21
  · exact hdi2
  · exact fun h i hi=>(h20 h).2 i (by omega) hi
 refine gX<|hK k15<|sG (oM 2 rfl<|.nl)<|gR<|fun a85 w85 h85=>x_ret1 (fn:=Try.f93) (t:=4) rfl h85 rfl<|⟨⟨v14,l⟩,rfl,rv_fin hf hdi (hcl (by assumption)),(h85.sh.sel [0] rfl)⟩
theorem rSets_c (x:Ls Ins)(rg:Int)(f:Nat→Nat→Bool)(W:World)(hx:x.At W)(hl:x.l.length≤5000)(hj:JumpsOK x.l)(hok:OkV x.l rg)(hf:∀r j,(f r j=true↔LiveI x.l r j))(hrg:0≤rg∧rg≤200):
    Rets Try.prog 67 [x.v, .int .i64 ((rg.toNat:Nat):Int)] W (fun v w' =>∃s:Ls (Ls Bool),v=s.v∧s.l.map (·.l)=(List.range (x.l.length+1)).map (fun a=>(List.range rg.toNat).map fun b=>f b a)∧Sh0 W w' [.deep 64 s]):=by
 refine gen Try.func67 Try.ntmps67 (Sh0.ext1 hx:Sh (fun _=>False) W W [.at_ x]) rfl fun a10 h10=>gG h10<|sG (oM 1 rfl<|.nl)<|sK fun _ k12=>gNl (aA 0 rfl) fun hl13=>gRn (oM 1 rfl<|oln sl_45 (aA 0 rfl) rfl<|oadN _ 1 om9 rfl<|.nl)<|gE1 (fun _ _ h_=>x_makeMat (n:=x.l.length+1) h_ sl_61 ti_64 rfl rfl rfl (show 24*(x.l.length+1)≤140737488355328∧x.l.length+1≤140737488355328 from om9) rfl rfl 4 Bool) rfl fun v14=>gRn (oM 1 rfl<|.nl)<|nK k12<|gK fun _ k15=>sG (oM 1 rfl<|.nl)<|gB<|fun a18 w18 h18=>x_loop (fun m a w=>∃(i:Nat) (M:List (Ls Bool)),(i≤x.l.length+1)∧(M.length=x.l.length+1)∧(∀a,a<i→(nth M a).l=List.replicate rg.toNat false)∧St 50 (fun _=>False) W a w [(0,x.v),(1, .int .i64 ((rg.toNat:Nat):Int)),(5,v14),(6, .int .i64 ((i:Nat):Int))] [.big (matX (.own 4) 64 v14 M), .at_ x]∧m=x.l.length+1-i) ⟨_,0,List.replicate (x.l.length+1) (⟨.slice none 0 0, []⟩:Ls Bool),(by omega),(by simp),(fun a ha=>absurd ha (by omega)),h18.nf ⟨rfl,rfl,rfl,rfl,trivial⟩,rfl⟩ ?_;clear h10
 clear h18
 rintro m17 a17 w17 ⟨i,M,hi,hM,hz,h17,hm17⟩
 refine gG h17<|gK fun _ k19=>sG (oM 2 rfl<|oln sl_45 (aA 1 rfl) rfl<|oleN _ _ rfl<|.nl)<|?_;clear h17
 refine gcd rfl (fun hb21 hp21=> ?_) fun hb21 hp21=> ?_
 ·skip
  refine gS<|hK k19<|gK fun _ k22=>gB<|gL<|gRn (oM 3 rfl<|.nl)<|gE1 (fun _ _ h_=>x_make (n:=rg.toNat) (false:Bool) h_ sl_64 ti_4 rfl rfl rfl rfl rfl (show 1*rg.toNat≤140737488355328∧rg.toNat≤140737488355328 from om9) (fun w=>Flat.inner _ _) (fun b=>Flat.on _ _) rfl rfl) rfl fun v23=>gRn (oxN sl_61 ti_64 (fun w h=>(h.matAt 1 rfl)) _ (by rw [rvs_len];exact (show i<M.length from (by first|omega|(rw [hw3 _ (by omega)];omega)|(simp only [lens9];omega)))) rfl<|.nl)<|fun a24 w24 h24=> ?_
  have ha25:=(h24.sh.own 0 rfl)
  have h26:=h24.sel (L' := [_,_,_]) [1,0,2] rfl
  refine wl_ex (x_stMat (i:=i) (s:=(⟨v23,List.replicate rg.toNat false⟩:Ls Bool)) h26 ti_64 rfl rfl rfl rfl (show i<M.length from (by omega)) ha25) (wanted_none rfl _) ?_
  rintro a27 w27 h27
  clear h26
  refine gG h27<|nK k22<|gL<|gRn (oM 1 rfl<|oadN _ 1 om9 rfl<|oM 1 rfl<|.nl)<|nN<|fun a28 w28 h28=>x_again ⟨_, ?_,i+1,M.set i (⟨v23,List.replicate rg.toNat false⟩:Ls Bool), ?_, ?_, ?_,h28.nf ⟨rfl,rfl,rfl,rfl,trivial⟩,rfl⟩;clear h27
  · rw [hm17];first|omega|(simp only [lens9];omega)
  · omega
  · rw [List.length_set];exact hM
  · intro a ha;rw [nth_set];split;rfl;exact hz a (by omega)
 refine gX<|hK k15<|gK fun _ k29=>sG (oM 1 rfl<|.nl)<|gB<|fun a32 w32 h32=>x_loop (fun m a w=>∃(r:Nat) (M2:List (Ls Bool)),(r≤rg.toNat)∧(M2.length=x.l.length+1)∧(∀a,a<x.l.length+1→(nth M2 a).l.length=rg.toNat)∧(∀a,a<x.l.length+1→∀b,b<r→nth (nth M2 a).l b=f b a)∧St 50 (fun _=>False) W a w [(0,x.v),(1, .int .i64 ((rg.toNat:Nat):Int)),(5,v14),(7, .int .i64 ((r:Nat):Int))] [.big (matX (.own 4) 64 v14 M2), .at_ x]∧m=rg.toNat-r) ⟨_,0,M,(by omega),(hM),(fun a ha=>by rw [hz a (by omega)];simp),(fun a ha b hb=>absurd hb (by omega)),h32.nf ⟨rfl,rfl,rfl,rfl,trivial⟩,rfl⟩ ?_
 clear h32
 rintro m31 a31 w31 ⟨r,M2,hr,hM2,hw2,hv2,h31,hm31⟩
 refine gG h31<|gK fun _ k33=>sG (oM 2 rfl<|oltN _ _ rfl<|.nl)<|?_;clear h31
 refine gcd rfl (fun hb35 hp35=> ?_) fun hb35 hp35=> ?_
 ·skip
  refine gS<|hK k33<|gK fun _ k36=>gB<|sK fun _ k37=>gRn (oM 2 rfl<|.nl)<|fun a39 w39 h39=>wl_ex (x_call h39 bd_93 rfl rfl rfl rfl rfl (rAhead_c x r rg f _ (h39.sh.at 1 rfl) hl hj hok hf)) (wanted_none rfl _) ?_
  rintro a40 w40 ⟨_,⟨s40,rfl,ha40,hs40⟩,hf40⟩
  have h40:=(⟨hf40,h39.sh.call hs40 (by intro A hA b hb;first|(simp at hA;done)|(simp at hA;subst hA;first|exact Flat.noRd hb|exact (hb:False).elim)|(simp at hA;rcases hA with rfl|rfl<;>first|exact Flat.noRd hb|exact (hb:False).elim))⟩:St 50 (fun _=>False) W a40 w40 _ _)
  clear hf40 hs40
  clear h39
  refine gG h40<|gRn (oM 1 rfl<|.nl)<|nK k37<|sG (oM 1 rfl<|.nl)<|gB<|?_;clear h40
  have hal:s40.l.length=x.l.length+1:=by rw [ha40];simp
  have han:∀q,q<x.l.length+1→nth s40.l q=f r q:=fun q hq=>by rw [ha40];exact nth_mapR hq
  intro a43 w43 h43
  refine x_loop (fun m a w=>∃(i3:Nat) (M3:List (Ls Bool)),(i3≤x.l.length+1)∧(M3.length=x.l.length+1)∧(∀a,a<x.l.length+1→(nth M3 a).l.length=rg.toNat)∧(∀a,a<x.l.length+1→∀b,b<r→nth (nth M3 a).l b=f b a)∧(∀a,a<i3→nth (nth M3 a).l r=f r a)∧St 50 (fun _=>False) W a w [(0,x.v),(1, .int .i64 ((rg.toNat:Nat):Int)),(5,v14),(7, .int .i64 ((r:Nat):Int)),(8,s40.v),(9, .int .i64 ((i3:Nat):Int))] [.own 4 s40, .big (matX (.own 4) 64 v14 M3), .at_ x]∧m=x.l.length+1-i3) ⟨_,0,M2,(by omega),(hM2),(hw2),(hv2),(fun a ha=>absurd ha (by omega)),h43.nf ⟨rfl,rfl,rfl,rfl,rfl,rfl,trivial⟩,rfl⟩ ?_
  clear h43
  rintro m42 a42 w42 ⟨i3,M3,hi3,hM3,hw3,hv3,hn3,h42,hm42⟩
  refine gG h42<|gK fun _ k44=>sG (oM 2 rfl<|oln sl_45 (aA 2 rfl) rfl<|oleN _ _ rfl<|.nl)<|?_;clear h42
  refine gcd rfl (fun hb46 hp46=> ?_) fun hb46 hp46=> ?_
  ·skip
   refine gS<|hK k44<|gK fun _ k47=>gB<|gNl (aO 0 rfl) fun hl48=>gNl (fun w h=>(h.matRow 1 rfl i3 (show i3<M3.length from (by omega)))) fun (hl49:((nth M3 i3).l).length≤140737488355328)=>rT 10 [] (oM 2 rfl<|oxN sl_61 ti_64 (fun w h=>(h.matAt 1 rfl)) _ (by rw [rvs_len];exact (show i3<M3.length from (by first|omega|(rw [hw3 _ (by omega)];omega)|(simp only [lens9];omega)))) rfl<|oV (Rn.same (r_lde (s:=(⟨v14,rvs M3⟩:Ls RV)) (i:=i3) (v:=(nth (rvs M3) i3).v) ti_64 rfl rfl rfl (fun w h=>h.matAt 1 rfl) (by rw [rvs_len];exact (show i3<M3.length from om9)) (Nat.le_of_ble_eq_true rfl) rfl) (nth_rvs M3 i3)) rfl<|oM 3 rfl<|oxN sl_64 ti_4 (aO 0 rfl) _ (show i3<s40.l.length from (by first|omega|(rw [hw3 _ (by omega)];omega)|(simp only [lens9];omega))) rfl<|olE (.bool (nth s40.l i3)) ti_4 (aO 0 rfl) om9 rfl<|oxN sl_64 ti_4 (fun w h=>(h.matRow 1 rfl i3 (show i3<M3.length from (by omega)))) _ (show r<((nth M3 i3).l).length from (by first|omega|(rw [hw3 _ (by omega)];omega)|(simp only [lens9];omega))) rfl<|.nl)<|gO [1,0,2] rfl<|gE (fun _ _ h_=>x_stMatE (i:=i3) (q:=r) (x' :=(nth s40.l i3:Bool)) h_ ti_4 rfl rfl rfl rfl (show i3<M3.length from om9) (show r<(nth M3 i3).l.length from (by rw [hw3 _ (by omega)];omega)) rfl rfl rfl rfl) rfl<|nK k47<|gL<|gRn (oM 1 rfl<|oadN _ 1 om9 rfl<|oM 1 rfl<|.nl)<|nN<|fun a52 w52 h52=> ?_
   refine x_again ⟨_, ?_,i3+1,M3.set i3 ⟨(nth M3 i3).v,(nth M3 i3).l.set r (nth s40.l i3)⟩, ?_, ?_, ?_, ?_, ?_,h52.nrm ⟨rfl,rfl,rfl,rfl,rfl,rfl,trivial⟩ [1,0,2] rfl,rfl⟩
   · rw [hm42];first|omega|(simp only [lens9];omega)
   · omega
   · rw [List.length_set];exact hM3
   · intro a ha;rw [nth_set];split;(rename_i h9;rw [List.length_set,h9.1];exact hw3 a ha);exact hw3 a ha
   · intro a ha b hb;rw [nth_set];split;(rename_i h9;rw [nth_set,if_neg (by omega),h9.1];exact hv3 a ha b hb);exact hv3 a ha b hb
   · intro a ha;rw [nth_set];split;(rename_i h9;rw [nth_set,if_pos ⟨rfl,by rw [hw3 _ (by omega)];omega⟩,han _ (by omega),h9.1]);(rename_i h9;exact hn3 a (by omega))
  refine gX<|hK k36<|gL<|gRn (oM 1 rfl<|oadN _ 1 om9 rfl<|oM 1 rfl<|.nl)<|nN<|fun a53 w53 h53=>x_again ⟨_, ?_,r+1,M3, ?_, ?_, ?_, ?_,h53.nrm ⟨rfl,rfl,rfl,rfl,trivial⟩ [1,2] rfl,rfl⟩
  · rw [hm31];first|omega|(simp only [lens9];omega)
  · omega
  · exact hM3
  · exact hw3
  · intro a ha b hb;rcases Nat.lt_or_ge b r with h9|h9;(exact hv3 a ha b h9);obtain rfl:b=r:=(by omega);exact hn3 a (by omega)
 refine gX<|hK k29<|sG (oM 2 rfl<|.nl)<|gR<|fun a55 w55 h55=>x_ret1 (fn:=Try.f67) (t:=4) rfl h55 rfl ?_
 have hD:=h55.sh.matDeep own_mat
 have hD2:Sh0 W w55 [.deep 64 (⟨v14,M2⟩:Ls (Ls Bool))]:=hD.sel [0] rfl
 refine ⟨⟨v14,M2⟩,rfl, ?_,hD2⟩
 refine rows_eq hM2 fun a ha=>eq_mapR (hw2 a ha) fun b hb=>hv2 a ha b (by omega)
theorem rClash_c (x:Ls Ins)(rg:Int)(f:Nat→Nat→Bool)(W:World)(hx:x.At W)(hl:x.l.length≤5000)(hj:JumpsOK x.l)(hok:OkV x.l rg)(hf:∀r j,(f r j=true↔LiveI x.l r j))(hrg:0≤rg∧rg≤200):
    Rets Try.prog 37 [x.v, .int .i64 ((rg.toNat:Nat):Int)] W (fun v w' =>∃s:Ls (Ls Bool),v=s.v∧s.l.map (·.l)=(List.range rg.toNat).map (fun a=>(List.range rg.toNat).map fun b=>clTo x.l f x.l.length a b)∧Sh0 W w' [.deep 64 s]):=by
 refine gen Try.func37 Try.ntmps37 (Sh0.ext1 hx:Sh (fun _=>False) W W [.at_ x]) rfl fun a10 h10=>gG h10<|sG (oM 1 rfl<|.nl)<|sK fun _ k12=>gRn (oM 2 rfl<|.nl)<|gC (fun _ _ h_=>xCl h_ bd_67 rfl (rSets_c x rg f _ (h_.sh.at 0 rfl) hl hj hok hf hrg)) rfl<|?_;clear h10
 rintro _ _ w13 ⟨s13,rfl,hse,hs13⟩
 refine gWk hs13 rfl<|gU<|gRn (oM 1 rfl<|.nl)<|nK k12<|sK fun _ k14=>gRn (oM 1 rfl<|.nl)<|gE1 (fun _ _ h_=>x_makeMat (n:=rg.toNat) h_ sl_61 ti_64 rfl rfl rfl (show 24*rg.toNat≤140737488355328∧rg.toNat≤140737488355328 from om9) rfl rfl 4 Bool) rfl fun v15=>gRn (oM 1 rfl<|.nl)<|nK k14<|gK fun _ k16=>sG (oM 1 rfl<|.nl)<|gB<|?_;clear hs13
 obtain ⟨hsl,hsv⟩:=rowsV hse
 intro a19 w19 h19
 refine x_loop (fun m a w=>∃(i:Nat) (M:List (Ls Bool)),(i≤rg.toNat)∧(M.length=rg.toNat)∧(∀a,a<i→(nth M a).l=List.replicate rg.toNat false)∧St 83 (fun _=>False) W a w [(0,x.v),(1, .int .i64 ((rg.toNat:Nat):Int)),(5,s13.v),(6,v15),(7, .int .i64 ((i:Nat):Int))] [.big (matX (.own 4) 64 v15 M), .deep 64 s13, .at_ x]∧m=rg.toNat-i) ⟨_,0,List.replicate rg.toNat (⟨.slice none 0 0, []⟩:Ls Bool),(by omega),(by simp),(fun a ha=>absurd ha (by omega)),h19.nf ⟨rfl,rfl,rfl,rfl,rfl,trivial⟩,rfl⟩ ?_
 clear h19
 rintro m18 a18 w18 ⟨i,M,hi,hM,hz,h18,hm18⟩
 refine gG h18<|gK fun _ k20=>sG (oM 2 rfl<|oltN _ _ rfl<|.nl)<|?_;clear h18
 refine gcd rfl (fun hb22 hp22=> ?_) fun hb22 hp22=> ?_
 ·skip
  refine gS<|hK k20<|gK fun _ k23=>gB<|gL<|gRn (oM 3 rfl<|.nl)<|gE1 (fun _ _ h_=>x_make (n:=rg.toNat) (false:Bool) h_ sl_64 ti_4 rfl rfl rfl rfl rfl (show 1*rg.toNat≤140737488355328∧rg.toNat≤140737488355328 from om9) (fun w=>Flat.inner _ _) (fun b=>Flat.on _ _) rfl rfl) rfl fun v24=>gRn (oxN sl_61 ti_64 (fun w h=>(h.matAt 1 rfl)) _ (by rw [rvs_len];exact (show i<M.length from (by first|omega|(rw [hw4 _ (by omega)];omega)|(rw [set_len2 hw4 _ (by omega)];omega)|(simp only [lens9];omega)))) rfl<|.nl)<|fun a25 w25 h25=> ?_
  have ha26:=(h25.sh.own 0 rfl)
  have h27:=h25.sel (L' := [_,_,_,_]) [1,0,2,3] rfl
  refine wl_ex (x_stMat (i:=i) (s:=(⟨v24,List.replicate rg.toNat false⟩:Ls Bool)) h27 ti_64 rfl rfl rfl rfl (show i<M.length from (by omega)) ha26) (wanted_none rfl _) ?_
  rintro a28 w28 h28
  clear h27
  refine gG h28<|nK k23<|gL<|gRn (oM 1 rfl<|oadN _ 1 om9 rfl<|oM 1 rfl<|.nl)<|nN<|fun a29 w29 h29=>x_again ⟨_, ?_,i+1,M.set i (⟨v24,List.replicate rg.toNat false⟩:Ls Bool), ?_, ?_, ?_,h29.nf ⟨rfl,rfl,rfl,rfl,rfl,trivial⟩,rfl⟩;clear h28
  · rw [hm18];first|omega|(simp only [lens9];omega)
  · omega
  · rw [List.length_set];exact hM
  · intro a ha;rw [nth_set];split;rfl;exact hz a (by omega)
 refine gX<|hK k16<|gK fun _ k30=>sG (oM 1 rfl<|.nl)<|gB<|fun a33 w33 h33=>x_loop (fun m a w=>∃(k:Nat) (M2:List (Ls Bool)),(k≤x.l.length)∧(M2.length=rg.toNat)∧(∀a,a<rg.toNat→(nth M2 a).l.length=rg.toNat)∧(∀a b,a<rg.toNat→b<rg.toNat→get2 (fun s:Ls Bool=>s.l) M2 a b=clTo x.l f k a b)∧St 83 (fun _=>False) W a w [(0,x.v),(1, .int .i64 ((rg.toNat:Nat):Int)),(5,s13.v),(6,v15),(8, .int .i64 ((k:Nat):Int))] [.big (matX (.own 4) 64 v15 M2), .deep 64 s13, .at_ x]∧m=x.l.length-k) ⟨_,0,M,(by omega),(hM),(fun a ha=>by rw [hz a (by omega)];simp),(fun a b ha hb=>by show nth (nth M a).l b=_;rw [hz a (by omega),zerosV];rfl),h33.nf ⟨rfl,rfl,rfl,rfl,rfl,trivial⟩,rfl⟩ ?_
 clear h33
 rintro m32 a32 w32 ⟨k,M2,hk,hM2,hw2,hv2,h32,hm32⟩
 refine gG h32<|gK fun _ k34=>sK fun _ k35=>gNl (aA 2 rfl) fun hl36=>gRn (oM 2 rfl<|oln sl_45 (aA 2 rfl) rfl<|oltN _ _ rfl<|.nl)<|nK k35<|?_;clear h32
 refine gcd rfl (fun hb37 hp37=> ?_) fun hb37 hp37=> ?_
 ·skip
  refine gS<|hK k34<|gK fun _ k38=>gB<|sK fun _ k39=>gRn (oM 2 rfl<|oxN sl_45 ti_47 (aA 2 rfl) _ (show k<x.l.length from (by first|omega|(rw [hw4 _ (by omega)];omega)|(rw [set_len2 hw4 _ (by omega)];omega)|(simp only [lens9];omega))) rfl<|olw2 [.int .i64 ((nth x.l k).op), .int .i64 ((nth x.l k).a), .int .i64 ((nth x.l k).b), .int .i64 ((nth x.l k).c)] ti_47 (aA 2 rfl) om9 rfl<|.nl)<|gP (fun _ _ h_=>xCl h_ bd_68 rfl (rWrites_c (nth x.l k) _ (by have h8:=(hok k (by omega)).1;omega))) rfl<|gRn (oM 1 rfl<|.nl)<|nK k39<|gK fun _ k41=>sG (oM 1 rfl<|oltI _ _ rfl<|.nl)<|gcd rfl (fun hb43 hp43=> ?_) fun hb43 hp43=> ?_
  ·skip
   refine gX<|hK k38<|gL<|gRn (oM 1 rfl<|oadN _ 1 om9 rfl<|oM 1 rfl<|.nl)<|nN<|fun a44 w44 h44=>x_again ⟨_, ?_,k+1,M2, ?_, ?_, ?_, ?_,h44.nf ⟨rfl,rfl,rfl,rfl,rfl,trivial⟩,rfl⟩
   · rw [hm32];first|omega|(simp only [lens9];omega)
   · omega
   · first|exact hM3|exact hM2
   · first|exact hw3|exact hw2
   · first|(intro a b ha hb;rw [clTo_succ,hv3 a b ha hb,any_all (by omega)];done)|(intro a b ha hb;rw [clTo_skip (by assumption)];exact hv2 a b ha hb)
  refine gS<|hK k41<|sK fun _ k45=>gRn (oM 2 rfl<|.nl)<|gC (fun _ _ h_=>xCl h_ bd_53 rfl (rNexts_c x k _ (h_.sh.at 2 rfl) (by omega) (by omega))) rfl<|?_
  rintro _ _ w46 ⟨s46,rfl,hs46⟩
  refine gWk hs46 rfl<|gU<|gRn (oM 1 rfl<|.nl)<|nK k45<|sG (oM 1 rfl<|.nl)<|gB<|?_;clear hs46
  have hnl:=nextsV_len x.l k
  intro a49 w49 h49
  refine x_loop (fun m a w=>∃(q:Nat) (M3:List (Ls Bool)),(q≤(nextsL x.l k).length)∧(M3.length=rg.toNat)∧(∀a,a<rg.toNat→(nth M3 a).l.length=rg.toNat)∧(∀a b,a<rg.toNat→b<rg.toNat→get2 (fun s:Ls Bool=>s.l) M3 a b=(clTo x.l f k a b||((nextsL x.l k).take q).any fun y=>clE (wrG (nth x.l k)) f y.toNat a b))∧St 83 (fun _=>False) W a w [(0,x.v),(1, .int .i64 ((rg.toNat:Nat):Int)),(5,s13.v),(6,v15),(8, .int .i64 ((k:Nat):Int)),(9, .int .i64 (wrG (nth x.l k))),(10,s46.v),(11, .int .i64 ((q:Nat):Int))] [.own 3 (⟨s46.v,nextsL x.l k⟩:Ls Int), .big (matX (.own 4) 64 v15 M3), .deep 64 s13, .at_ x]∧m=(nextsL x.l k).length-q) ⟨_,0,M2,(by omega),(hM2),(hw2),(fun a b ha hb=>by rw [any_zero,Bool.or_false];exact hv2 a b ha hb),h49.nf ⟨rfl,rfl,rfl,rfl,rfl,rfl,rfl,rfl,trivial⟩,rfl⟩ ?_
  clear h49
  rintro m48 a48 w48 ⟨q,M3,hq,hM3,hw3,hv3,h48,hm48⟩
  refine gG h48<|gK fun _ k50=>sK fun _ k51=>gNl (aO 0 rfl) fun (hl52:(nextsL x.l k).length≤140737488355328)=>gRn (oM 2 rfl<|oln (n:=(nextsL x.l k).length) sl_23 (aO 0 rfl) rfl<|oltN _ _ rfl<|.nl)<|nK k51<|?_;clear h48
  refine gcd rfl (fun hb53 hp53=> ?_) fun hb53 hp53=> ?_
  ·skip
   refine gS<|hK k50<|gK fun _ k54=>gB<|sG (oM 1 rfl<|.nl)<|gB<|?_
   have hmm:nth (nextsL x.l k) q∈nextsL x.l k:=nth_mem _ _ (by omega)
   have hnx:=nextsV_ok hj (by omega) hmm
   have hsr:=hsv (nth (nextsL x.l k) q).toNat (by omega)
   have hsrl:(nth s13.l (nth (nextsL x.l k) q).toNat).l.length=rg.toNat:=by rw [hsr];simp
   have hww:=(hok k (by omega)).2.2.1
   intro a57 w57 h57
   refine x_loop (fun m a w=>∃(r:Nat) (M4:List (Ls Bool)),(r≤rg.toNat)∧(M4.length=rg.toNat)∧(∀a,a<rg.toNat→(nth M4 a).l.length=rg.toNat)∧(∀a b,a<rg.toNat→b<rg.toNat→get2 (fun s:Ls Bool=>s.l) M4 a b=((clTo x.l f k a b||((nextsL x.l k).take q).any fun y=>clE (wrG (nth x.l k)) f y.toNat a b)||clJ (wrG (nth x.l k)) f (nth (nextsL x.l k) q).toNat r a b))∧St 83 (fun _=>False) W a w [(0,x.v),(1, .int .i64 ((rg.toNat:Nat):Int)),(5,s13.v),(6,v15),(8, .int .i64 ((k:Nat):Int)),(9, .int .i64 (wrG (nth x.l k))),(10,s46.v),(11, .int .i64 ((q:Nat):Int)),(12, .int .i64 ((r:Nat):Int))] [.own 3 (⟨s46.v,nextsL x.l k⟩:Ls Int), .big (matX (.own 4) 64 v15 M4), .deep 64 s13, .at_ x]∧m=rg.toNat-r) ⟨_,0,M3,(by omega),(hM3),(hw3),(fun a b ha hb=>by rw [clJ_zero,Bool.or_false];exact hv3 a b ha hb),h57.nf ⟨rfl,rfl,rfl,rfl,rfl,rfl,rfl,rfl,rfl,trivial⟩,rfl⟩ ?_
   clear h57
   rintro m56 a56 w56 ⟨r,M4,hr,hM4,hw4,hv4,h56,hm56⟩
   refine gG h56<|gK fun _ k58=>sG (oM 2 rfl<|oltN _ _ rfl<|.nl)<|?_;clear h56
   refine gcd rfl (fun hb60 hp60=> ?_) fun hb60 hp60=> ?_
   ·skip
    refine gS<|hK k58<|?_
    have hfr:nth (nth s13.l (nth (nextsL x.l k) q).toNat).l r=f r (nth (nextsL x.l k) q).toNat:=by rw [hsr];exact nth_mapR (by omega)
    refine gK fun _ k61=>gB<|sK fun _ k62=>gNl (aD 2 rfl) fun hl63=>gNl (fun w h=>((h.deep 2 rfl).nth ((nth (nextsL x.l k) q).toNat) (show (nth (nextsL x.l k) q).toNat<s13.l.length from (by omega)))) fun (hl64:((nth s13.l ((nth (nextsL x.l k) q).toNat)).l).length≤140737488355328)=>gRn (oM 3 rfl<|oxN sl_23 ti_3 (aO 0 rfl) _ (show q<(nextsL x.l k).length from (by first|omega|(rw [hw4 _ (by omega)];omega)|(rw [set_len2 hw4 _ (by omega)];omega)|(simp only [lens9];omega))) rfl<|olE (.int .i64 (nth (nextsL x.l k) q)) ti_3 (aO 0 rfl) om9 rfl<|oxI sl_61 ti_64 (aD 2 rfl) (show 0≤nth (nextsL x.l k) q∧nth (nextsL x.l k) q<s13.l.length from (by first|omega|(rw [hw4 _ (by omega)];omega)|(rw [set_len2 hw4 _ (by omega)];omega)|(simp only [lens9];omega))) rfl<|olE ((nth s13.l ((nth (nextsL x.l k) q).toNat)).v) ti_64 (aD 2 rfl) om9 rfl<|oM 1 rfl<|oxN sl_64 ti_4 (fun w h=>((h.deep 2 rfl).nth ((nth (nextsL x.l k) q).toNat) (show (nth (nextsL x.l k) q).toNat<s13.l.length from (by omega)))) _ (show r<((nth s13.l ((nth (nextsL x.l k) q).toNat)).l).length from (by first|omega|(rw [hw4 _ (by omega)];omega)|(rw [set_len2 hw4 _ (by omega)];omega)|(simp only [lens9];omega))) rfl<|olE (.bool (nth ((nth s13.l ((nth (nextsL x.l k) q).toNat)).l) r)) ti_4 (fun w h=>((h.deep 2 rfl).nth ((nth (nextsL x.l k) q).toNat) (show (nth (nextsL x.l k) q).toNat<s13.l.length from (by omega)))) om9 rfl<|oM 1 rfl<|.nl)<|?_
    rcases Bool.eq_false_or_eq_true (nth ((nth s13.l ((nth (nextsL x.l k) q).toNat)).l) r) with hb65|hb65
    ·skip
     refine gRn (oG hb65 (r_move rfl rfl) rfl<|oG hb65 (r_move rfl rfl) rfl<|oG hb65 (r_neqI (p:=((r:Nat):Int)) (q:=wrG (nth x.l k)) rfl rfl rfl) rfl<|opT hb65 rfl<|.nl)<|nK k62<|gcd rfl (fun hb66 hp66=> ?_) fun hb66 hp66=> ?_
     ·skip
      refine sK fun _ k67=>gNl (fun w h=>(h.matRow 1 rfl r (show r<M4.length from (by omega)))) fun (hl68:((nth M4 r).l).length≤140737488355328)=>gRn (oM 2 rfl<|oxN sl_61 ti_64 (fun w h=>(h.matAt 1 rfl)) _ (by rw [rvs_len];exact (show r<M4.length from (by first|omega|(rw [hw4 _ (by omega)];omega)|(rw [set_len2 hw4 _ (by omega)];omega)|(simp only [lens9];omega)))) rfl<|oV (Rn.same (r_lde (s:=(⟨v15,rvs M4⟩:Ls RV)) (i:=r) (v:=(nth (rvs M4) r).v) ti_64 rfl rfl rfl (fun w h=>h.matAt 1 rfl) (by rw [rvs_len];exact (show r<M4.length from om9)) (Nat.le_of_ble_eq_true rfl) rfl) (nth_rvs M4 r)) rfl<|oM 1 rfl<|oxI sl_64 ti_4 (fun w h=>(h.matRow 1 rfl r (show r<M4.length from (by omega)))) (show 0≤wrG (nth x.l k)∧wrG (nth x.l k)<((nth M4 r).l).length from (by first|omega|(rw [hw4 _ (by omega)];omega)|(rw [set_len2 hw4 _ (by omega)];omega)|(simp only [lens9];omega))) rfl<|.nl)<|gO [1,0,2,3] rfl<|gE (fun _ _ h_=>x_stMatE (i:=r) (q:=(wrG (nth x.l k)).toNat) (x' :=(true:Bool)) h_ ti_4 rfl rfl rfl rfl (show r<M4.length from om9) (show (wrG (nth x.l k)).toNat<(nth M4 r).l.length from (by first|(rw [hw4 _ (by omega)];omega)|(rw [set_len2 hw4 _ (by omega)];omega))) rfl rfl rfl rfl) rfl<|nK k67<|gF [0,1,5,6,8,9,10,11,12] rfl<|gL<|gRn (oM 2 rfl<|oxI sl_61 ti_64 (fun w h=>(h.matAt 0 rfl)) (by rw [rvs_len];exact (show 0≤wrG (nth x.l k)∧wrG (nth x.l k)<(M4.set r ⟨(nth M4 r).v,(nth M4 r).l.set ((wrG (nth x.l k)).toNat) true⟩).length from (by first|omega|(rw [hw4 _ (by omega)];omega)|(rw [set_len2 hw4 _ (by omega)];omega)|(simp only [lens9];omega)))) rfl<|oV (Rn.same (r_lde (s:=(⟨v15,rvs (M4.set r ⟨(nth M4 r).v,(nth M4 r).l.set ((wrG (nth x.l k)).toNat) true⟩)⟩:Ls RV)) (i:=(wrG (nth x.l k)).toNat) (v:=(nth (rvs (M4.set r ⟨(nth M4 r).v,(nth M4 r).l.set ((wrG (nth x.l k)).toNat) true⟩)) ((wrG (nth x.l k)).toNat)).v) ti_64 rfl rfl rfl (fun w h=>h.matAt 0 rfl) (by rw [rvs_len];exact (show (wrG (nth x.l k)).toNat<(M4.set r ⟨(nth M4 r).v,(nth M4 r).l.set ((wrG (nth x.l k)).toNat) true⟩).length from om9)) (Nat.le_of_ble_eq_true rfl) rfl) (nth_rvs (M4.set r ⟨(nth M4 r).v,(nth M4 r).l.set ((wrG (nth x.l k)).toNat) true⟩) ((wrG (nth x.l k)).toNat))) rfl<|oM 1 rfl<|oxN sl_64 ti_4 (fun w h=>(h.matRow 0 rfl ((wrG (nth x.l k)).toNat) (show (wrG (nth x.l k)).toNat<(M4.set r ⟨(nth M4 r).v,(nth M4 r).l.set ((wrG (nth x.l k)).toNat) true⟩).length from (by first|omega|(simp only [lens9];omega))))) _ (show r<((nth (M4.set r ⟨(nth M4 r).v,(nth M4 r).l.set ((wrG (nth x.l k)).toNat) true⟩) ((wrG (nth x.l k)).toNat)).l).length from (by first|omega|(rw [hw4 _ (by omega)];omega)|(rw [set_len2 hw4 _ (by omega)];omega)|(simp only [lens9];omega))) rfl<|.nl)<|gE (fun _ _ h_=>x_stMatE (i:=(wrG (nth x.l k)).toNat) (q:=r) (x' :=(true:Bool)) h_ ti_4 rfl rfl rfl rfl (show (wrG (nth x.l k)).toNat<(M4.set r ⟨(nth M4 r).v,(nth M4 r).l.set ((wrG (nth x.l k)).toNat) true⟩).length from om9) (show r<(nth (M4.set r ⟨(nth M4 r).v,(nth M4 r).l.set ((wrG (nth x.l k)).toNat) true⟩) ((wrG (nth x.l k)).toNat)).l.length from (by first|(rw [hw4 _ (by omega)];omega)|(rw [set_len2 hw4 _ (by omega)];omega))) rfl rfl rfl rfl) rfl<|nK k61<|gL<|gRn (oM 1 rfl<|oadN _ 1 om9 rfl<|oM 1 rfl<|.nl)<|nN<|fun a72 w72 h72=> ?_
      refine x_again ⟨_, ?_,r+1,(M4.set r ⟨(nth M4 r).v,(nth M4 r).l.set ((wrG (nth x.l k)).toNat) true⟩).set ((wrG (nth x.l k)).toNat) ⟨(nth (M4.set r ⟨(nth M4 r).v,(nth M4 r).l.set ((wrG (nth x.l k)).toNat) true⟩) ((wrG (nth x.l k)).toNat)).v,(nth (M4.set r ⟨(nth M4 r).v,(nth M4 r).l.set ((wrG (nth x.l k)).toNat) true⟩) ((wrG (nth x.l k)).toNat)).l.set r true⟩, ?_, ?_, ?_, ?_,h72.nrm ⟨rfl,rfl,rfl,rfl,rfl,rfl,rfl,rfl,rfl,trivial⟩ [1,0,2,3] rfl,rfl⟩
      · rw [hm56];first|omega|(simp only [lens9];omega)
      · omega
      · first|exact hM4|(simp only [List.length_set];exact hM4)
      · first|exact hw4|exact set_len2 (set_len2 hw4)
      · first|exact cl_upd (wn:=(wrG (nth x.l k)).toNat) (fun a b=>get2_set (by omega) rfl (by rw [hw4 _ (by omega)];omega)) (fun a b=>get2_set (by simp only [List.length_set];omega) rfl (by rw [set_len2 hw4 _ (by omega)];omega)) hv4 (by omega) (by rw [←hfr];assumption) (by omega)|(intro a b ha hb;rw [clJ_skip (by first|exact .inr (.inl (by rw [←hfr];assumption))|exact .inr (.inr (by omega))),hv4 a b ha hb])
     refine gS<|hK k61<|gL<|gRn (oM 1 rfl<|oadN _ 1 om9 rfl<|oM 1 rfl<|.nl)<|nN<|fun a73 w73 h73=>x_again ⟨_, ?_,r+1,M4, ?_, ?_, ?_, ?_,h73.nf ⟨rfl,rfl,rfl,rfl,rfl,rfl,rfl,rfl,rfl,trivial⟩,rfl⟩
     · rw [hm56];first|omega|(simp only [lens9];omega)
     · omega
     · first|exact hM4|(simp only [List.length_set];exact hM4)
     · first|exact hw4|exact set_len2 (set_len2 hw4)
     · first|exact cl_upd (wn:=(wrG (nth x.l k)).toNat) (fun a b=>get2_set (by omega) rfl (by rw [hw4 _ (by omega)];omega)) (fun a b=>get2_set (by simp only [List.length_set];omega) rfl (by rw [set_len2 hw4 _ (by omega)];omega)) hv4 (by omega) (by rw [←hfr];assumption) (by omega)|(intro a b ha hb;rw [clJ_skip (by first|exact .inr (.inl (by rw [←hfr];assumption))|exact .inr (.inr (by omega))),hv4 a b ha hb])
    refine gRn (oKs 3 hb65 rfl rfl<|opF hb65 rfl<|.nl)<|nK k62<|gcF rfl rfl<|gS<|hK k61<|gL<|gRn (oM 1 rfl<|oadN _ 1 om9 rfl<|oM 1 rfl<|.nl)<|nN<|fun a74 w74 h74=>x_again ⟨_, ?_,r+1,M4, ?_, ?_, ?_, ?_,h74.nf ⟨rfl,rfl,rfl,rfl,rfl,rfl,rfl,rfl,rfl,trivial⟩,rfl⟩
    · rw [hm56];first|omega|(simp only [lens9];omega)
    · omega
    · first|exact hM4|(simp only [List.length_set];exact hM4)
    · first|exact hw4|exact set_len2 (set_len2 hw4)
    · first|exact cl_upd (wn:=(wrG (nth x.l k)).toNat) (fun a b=>get2_set (by omega) rfl (by rw [hw4 _ (by omega)];omega)) (fun a b=>get2_set (by simp only [List.length_set];omega) rfl (by rw [set_len2 hw4 _ (by omega)];omega)) hv4 (by omega) (by rw [←hfr];assumption) (by omega)|(intro a b ha hb;rw [clJ_skip (by first|exact .inr (.inl (by rw [←hfr];assumption))|exact .inr (.inr (by omega))),hv4 a b ha hb])
   refine gX<|hK k54<|gL<|gRn (oM 1 rfl<|oadN _ 1 om9 rfl<|oM 1 rfl<|.nl)<|nN<|fun a75 w75 h75=>x_again ⟨_, ?_,q+1,M4, ?_, ?_, ?_, ?_,h75.nf ⟨rfl,rfl,rfl,rfl,rfl,rfl,rfl,rfl,trivial⟩,rfl⟩
   · rw [hm48];first|omega|(simp only [lens9];omega)
   · omega
   · exact hM4
   · exact hw4
   · intro a b ha hb;rw [any_step (by omega),←Bool.or_assoc,hv4 a b ha hb,clJ_all (by omega) (by omega)]
  refine gX<|hK k38<|gL<|gRn (oM 1 rfl<|oadN _ 1 om9 rfl<|oM 1 rfl<|.nl)<|nN<|fun a76 w76 h76=>x_again ⟨_, ?_,k+1,M3, ?_, ?_, ?_, ?_,h76.nrm ⟨rfl,rfl,rfl,rfl,rfl,trivial⟩ [1,2,3] rfl,rfl⟩
  · rw [hm32];first|omega|(simp only [lens9];omega)
  · omega
  · first|exact hM3|exact hM2
  · first|exact hw3|exact hw2
  · first|(intro a b ha hb;rw [clTo_succ,hv3 a b ha hb,any_all (by omega)];done)|(intro a b ha hb;rw [clTo_skip (by assumption)];exact hv2 a b ha hb)
 refine gX<|hK k30<|sG (oM 2 rfl<|.nl)<|gR<|fun a78 w78 h78=>x_ret1 (fn:=Try.f37) (t:=4) rfl h78 rfl ?_
 have hD:=h78.sh.matDeep own_mat
 have hD2:Sh0 W w78 [.deep 64 (⟨v15,M2⟩:Ls (Ls Bool))]:=hD.sel [0] rfl
 refine ⟨⟨v15,M2⟩,rfl, ?_,hD2⟩
 refine rows_eq hM2 fun a ha=>eq_mapR (hw2 a ha) fun b hb=> ?_
 rw [show x.l.length=k by omega]
 exact hv2 a b ha hb
theorem rets_nat {P:Program}{f:FuncId}{x:Value}{z:Int}{W:World}{R:Value→World→Prop}(h0:0≤z)(h:Rets P f [x, .int .i64 ((z.toNat:Nat):Int)] W R):Rets P f [x, .int .i64 z] W R:=by rwa [Int.toNat_of_nonneg h0] at h
theorem liveF3 (code:Ls (Ls Ins)):∃f:Nat→Nat→Nat→Bool,∀t r j,(f t r j=true↔LiveI (nth code.l t).l r j):=
 ⟨fun t=>Classical.choose (liveF_ex (nth code.l t).l),fun t=>Classical.choose_spec (liveF_ex (nth code.l t).l)⟩
theorem cl_lt {code:List Ins}{f:Nat→Nat→Bool}{regs:Int}(hok:OkV code regs)(hf:∀r j,(f r j=true↔LiveI code r j)){k a b:Nat}(hk:k≤code.length)(h:clTo code f k a b=true):(a:Int)<regs∧(b:Int)<regs∧a≠b:=by
 unfold clTo at h
 obtain ⟨i,hi,h⟩:=List.any_eq_true.1 h
 have hi:i<code.length:=by have:=List.mem_range.1 hi;omega
 obtain ⟨y,hy,h⟩:=List.any_eq_true.1 h
 unfold clE at h
 obtain ⟨h0,h⟩:=(Bool.and_eq_true _ _).mp h
 have hw:=(hok i hi).2.2.1
 rcases (Bool.or_eq_true _ _).mp h with h|h
 ·obtain ⟨h1,h2⟩:=(Bool.and_eq_true _ _).mp h
  have h1:=of_decide_eq_true h1
  have:=live_lt hok ((hf _ _).1 h2)
  exact ⟨this,by omega,of_decide_eq_true h0⟩
 ·obtain ⟨h1,h2⟩:=(Bool.and_eq_true _ _).mp h
  have h1:=of_decide_eq_true h1
  have:=live_lt hok ((hf _ _).1 h2)
  exact ⟨by omega,this,of_decide_eq_true h0⟩
theorem row_clash {code:List Ins}{f:Nat→Nat→Bool}{regs:Int}(hok:OkV code regs)(hr:0≤regs∧regs≤200)(hf:∀r j,(f r j=true↔LiveI code r j))(a:Nat):listB ((List.range 200).map fun b=>clTo code f code.length a b)=listB ((List.range regs.toNat).map fun b=>clTo code f code.length a b):=
 listB_cut (by omega) fun r hr2=>Bool.eq_false_iff.2 fun h9=>by have:=(cl_lt hok hf (Nat.le_refl _) h9).2.1;omega
set_option maxHeartbeats 8000000
def cellB (c:List Ins)(cl:List Int)(f:Nat→Nat→Bool)(r s:Nat):Bool:=decide (0≤nth cl r)&&(clTo c f c.length r s&&decide (nth cl s=nth cl r))
def rowB (c:List Ins)(cl:List Int)(f:Nat→Nat→Bool)(R r:Nat):Bool:=decide (-1≤nth cl r∧nth cl r<6)&&(List.range R).all fun s=> !cellB c cl f r s
def thB (c:List Ins)(cl:List Int)(f:Nat→Nat→Bool)(R:Nat):Bool:=decide (cl.length=R)&&(List.range R).all (rowB c cl f R)
def colsB (code:List (Ls Ins))(cols:List (Ls Int))(f:Nat→Nat→Nat→Bool)(R:Nat):Bool:=decide (cols.length=code.length)&&(List.range cols.length).all fun t=>thB (nth code t).l (nth cols t).l (f t) R
theorem cellB_f {c:List Ins}{cl:List Int}{f:Nat→Nat→Bool}{r s:Nat}(h:¬0≤nth cl r∨clTo c f c.length r s=false∨¬nth cl s=nth cl r):cellB c cl f r s=false:=by
 unfold cellB
 rcases h with h|h|h
 ·rw [decide_eq_false h];rfl
 ·rw [h];simp
 ·rw [decide_eq_false h];simp
theorem cellB_t {c:List Ins}{cl:List Int}{f:Nat→Nat→Bool}{r s:Nat}(h1:0≤nth cl r)(h2:clTo c f c.length r s=true)(h3:nth cl s=nth cl r):cellB c cl f r s=true:=by
 unfold cellB;rw [decide_eq_true h1,h2,decide_eq_true h3];rfl
theorem rowB_t {c:List Ins}{cl:List Int}{f:Nat→Nat→Bool}{R r:Nat}(h: -1≤nth cl r∧nth cl r<6)(hs:∀s,s<R→cellB c cl f r s=false):rowB c cl f R r=true:=by
 unfold rowB;rw [decide_eq_true h,Bool.true_and,List.all_eq_true];intro s h9;rw [hs s (by simpa using h9)];rfl
theorem rowB_f1 {c:List Ins}{cl:List Int}{f:Nat→Nat→Bool}{R r:Nat}(h:¬(-1≤nth cl r∧nth cl r<6)):rowB c cl f R r=false:=by unfold rowB;rw [decide_eq_false h];rfl
theorem rowB_f2 {c:List Ins}{cl:List Int}{f:Nat→Nat→Bool}{R r s:Nat}(hs:s<R)(h:cellB c cl f r s=true):rowB c cl f R r=false:=by
 unfold rowB
 rw [Bool.and_eq_false_iff]
 refine .inr (List.all_eq_false.2 ⟨s,by simpa using hs, ?_⟩)
 rw [h];decide
theorem thB_t {c:List Ins}{cl:List Int}{f:Nat→Nat→Bool}{R:Nat}(h:cl.length=R)(hr:∀r,r<R→rowB c cl f R r=true):thB c cl f R=true:=by
 unfold thB;rw [decide_eq_true h,Bool.true_and,List.all_eq_true];intro r h9;exact hr r (by simpa using h9)
theorem thB_f1 {c:List Ins}{cl:List Int}{f:Nat→Nat→Bool}{R:Nat}(h:¬cl.length=R):thB c cl f R=false:=by unfold thB;rw [decide_eq_false h];rfl
theorem thB_f2 {c:List Ins}{cl:List Int}{f:Nat→Nat→Bool}{R r:Nat}(hr:r<R)(h:rowB c cl f R r=false):thB c cl f R=false:=by
 unfold thB
 rw [Bool.and_eq_false_iff]
 refine .inr (List.all_eq_false.2 ⟨r,by simpa using hr, ?_⟩)
 rw [h];decide
theorem colsB_t {code:List (Ls Ins)}{cols:List (Ls Int)}{f:Nat→Nat→Nat→Bool}{R:Nat}(h:cols.length=code.length)(ht:∀t,t<cols.length→thB (nth code t).l (nth cols t).l (f t) R=true):colsB code cols f R=true:=by
 unfold colsB;rw [decide_eq_true h,Bool.true_and,List.all_eq_true];intro t h9;exact ht t (by simpa using h9)
theorem colsB_f1 {code:List (Ls Ins)}{cols:List (Ls Int)}{f:Nat→Nat→Nat→Bool}{R:Nat}(h:¬cols.length=code.length):colsB code cols f R=false:=by unfold colsB;rw [decide_eq_false h];rfl
theorem colsB_f2 {code:List (Ls Ins)}{cols:List (Ls Int)}{f:Nat→Nat→Nat→Bool}{R t:Nat}(ht:t<cols.length)(h:thB (nth code t).l (nth cols t).l (f t) R=false):colsB code cols f R=false:=by
 unfold colsB
 rw [Bool.and_eq_false_iff]
 refine .inr (List.all_eq_false.2 ⟨t,by simpa using ht, ?_⟩)
 rw [h];decide
theorem clash_at {s:Ls (Ls Bool)}{R:Nat}{g:Nat→Nat→Bool}(h:s.l.map (·.l)=(List.range R).map (fun a=>(List.range R).map fun b=>g a b)):s.l.length=R∧∀a,a<R→(nth s.l a).l.length=R∧∀b,b<R→nth (nth s.l a).l b=g a b:=by
 have hl:s.l.length=R:=by have:=congrArg List.length h;simpa using this
 refine ⟨hl,fun a ha=> ?_⟩
 have e:(nth s.l a).l=(List.range R).map fun b=>g a b:=by rw [←nth_map' (fun x:Ls Bool=>x.l) s.l a (by omega),h];exact nth_mapR ha
 rw [e]
 exact ⟨by simp,fun b hb=>nth_mapR hb⟩
theorem all_step {n:Nat}{P:Nat→Prop}(h:∀j,j<n→P j)(h2:P n):∀j,j<n+1→P j:=fun j hj=>by
 rcases Nat.lt_or_eq_of_le (Nat.le_of_lt_succ hj) with h3|h3
 ·exact h j h3
 ·subst h3;exact h2
theorem rColours_c (code:Ls (Ls Ins))(words:Ls Int)(locks regs:Int)(cols:Ls (Ls Int))(f:Nat→Nat→Nat→Bool)(W:World)(hcode:code.At W)(hwords:words.At W)(hcols:cols.At W)(hok:OkPg (pgOf code words locks regs))(hF:∀t,t<code.l.length→∀r j,(f t r j=true↔LiveI (nth code.l t).l r j)):
    Rets Try.prog 12 [.agg #[code.v,words.v, .int .i64 locks, .int .i64 regs],cols.v] W (fun v w' =>v= .bool (colsB code.l cols.l f regs.toNat)∧Sh0 W w' []):=by
 have hz:=checkG_ok hok
 obtain ⟨hl1,hl2,hl3,hl4',hl5,hl6,hl7⟩:=ok_len hok
 have hrg:=hok.regs
 have hrg1:(pgOf code words locks regs).regs=regs:=rfl
 rw [hrg1] at hrg
 refine gen Try.func12 Try.ntmps12 (Sh0.ext3 hcode hwords hcols:Sh (fun _=>False) W W [.at_ code, .at_ words, .at_ cols]) rfl fun a10 h10=>gG h10<|sK fun _ k11=>gbx rfl rfl fun b12=>gRn (oM 1 rfl<|.nl)<|nK k11<|gK fun _ k13=>sK fun _ k14=>gNl (aA 3 rfl) fun hl15=>gNl (aA 1 rfl) fun hl16=>gRn (oM 1 rfl<|oln sl_26 (aA 3 rfl) rfl<|ofB fl_25_0 rfl<|olB 0 ti_22 rfl rfl<|oln sl_22 (aA 1 rfl) rfl<|oneN _ _ rfl<|.nl)<|nK k14<|?_;clear h10
 refine gcd rfl (fun hb17 hp17=> ?_) fun hb17 hp17=> ?_
 ·skip
  refine sG (oM 1 rfl<|.nl)<|gR<|uT<|fun a19 w19 h19=>x_ret1 (fn:=Try.f12) (t:=4) rfl h19 rfl<|⟨?_,(h19.sh.sel [] rfl)⟩
  congr 1
  first|exact (colsB_t (by omega) fun j hj=>hall j (by omega)).symm|exact (colsB_f1 (by omega)).symm|exact (colsB_f2 (t:=t) (by omega) (thB_f1 (by omega))).symm|exact (colsB_f2 (t:=t) (by omega) (thB_f2 (r:=r) (by omega) (rowB_f1 (by omega)))).symm|exact (colsB_f2 (t:=t) (by omega) (thB_f2 (r:=r) (by omega) (rowB_f2 (s:=q) (by omega) (cellB_t (by assumption) (by rw [←hk4 q (by omega)];assumption) (by assumption))))).symm
 refine gS<|hK k13<|gK fun _ k20=>sG (oM 1 rfl<|.nl)<|gB<|fun a23 w23 h23=>x_loop (fun m a w=>∃(t:Nat),(t≤cols.l.length)∧(∀j,j<t→thB (nth code.l j).l (nth cols.l j).l (f j) regs.toNat=true)∧St 85 (fun _=>False) W a w [(1,cols.v),(2, .pointer (some ⟨b12,0,none⟩)),(5, .int .i64 ((t:Nat):Int))] [.blk b12 25 [code.v,words.v, .int .i64 locks, .int .i64 regs], .at_ code, .at_ words, .at_ cols]∧m=cols.l.length-t) ⟨_,0,(by omega),(fun j hj=>absurd hj (by omega)),h23.nf ⟨rfl,rfl,rfl,trivial⟩,rfl⟩ ?_
 clear h23
 rintro m22 a22 w22 ⟨t,ht,hall,h22,hm22⟩
 refine gG h22<|gK fun _ k24=>sG (oM 2 rfl<|oln sl_26 (aA 3 rfl) rfl<|oltN _ _ rfl<|.nl)<|?_;clear h22
 refine gcd rfl (fun hb26 hp26=> ?_) fun hb26 hp26=> ?_
 ·skip
  refine gS<|hK k24<|gK fun _ k27=>gB<|gK fun _ k28=>gK fun _ k29=>gNl (fun w h=>((h.at 3 rfl).nth t (show t<cols.l.length from (by omega)))) fun (hl30:((nth cols.l t).l).length≤140737488355328)=>rQ (oM 2 rfl<|oxN sl_26 ti_23 (aA 3 rfl) _ om9 rfl<|olE ((nth cols.l t).v) ti_23 (aA 3 rfl) om9 rfl<|oln (n:=((nth cols.l t).l).length) sl_23 (fun w h=>((h.at 3 rfl).nth t (show t<cols.l.length from (by omega)))) rfl<|ofB fl_25_3 rfl<|olB 0 ti_3 rfl rfl<|oneI _ _ rfl<|.nl)<|hK k29<|gcd rfl (fun hb31 hp31=> ?_) fun hb31 hp31=> ?_
  ·skip
   refine sG (oM 1 rfl<|.nl)<|gR<|uT<|uB<|uT<|uT<|uB<|uT<|fun a33 w33 h33=>x_ret1 (fn:=Try.f12) (t:=4) rfl h33 rfl<|⟨?_,(h33.sh.sel [] rfl)⟩
   congr 1
   first|exact (colsB_t (by omega) fun j hj=>hall j (by omega)).symm|exact (colsB_f1 (by omega)).symm|exact (colsB_f2 (t:=t) (by omega) (thB_f1 (by omega))).symm|exact (colsB_f2 (t:=t) (by omega) (thB_f2 (r:=r) (by omega) (rowB_f1 (by omega)))).symm|exact (colsB_f2 (t:=t) (by omega) (thB_f2 (r:=r) (by omega) (rowB_f2 (s:=q) (by omega) (cellB_t (by assumption) (by rw [←hk4 q (by omega)];assumption) (by assumption))))).symm
  refine gS<|hK k28<|?_
  obtain ⟨hl4,hjt⟩:=ok_thread hok t (by omega)
  refine gK fun _ k34=>rT 7 [] (ofB fl_25_0 rfl<|olB 0 ti_22 rfl rfl<|oM 1 rfl<|oxN sl_22 ti_45 (aA 1 rfl) _ om9 rfl<|olE ((nth code.l t).v) ti_45 (aA 1 rfl) om9 rfl<|ofB fl_25_3 rfl<|olB 0 ti_3 rfl rfl<|.nl)<|gC (fun _ _ h_=>xCl h_ bd_37 rfl (rets_nat (by omega) (rClash_c (nth code.l t) regs (f t) _ ((h_.sh.at 1 rfl).nth t (show t<code.l.length from (by omega))) (by omega) hjt (okV_of hok t (by omega)) (hF t (by omega)) (by omega)))) rfl<|?_
  rintro _ _ w35 ⟨s35,rfl,hce35,hs35⟩
  refine gWk hs35 rfl<|gU<|gRn (oM 1 rfl<|.nl)<|nK k34<|sG (oM 1 rfl<|.nl)<|gB<|?_;clear hs35
  obtain ⟨hk1,hk2⟩:=clash_at hce35
  intro a38 w38 h38
  refine x_loop (fun m a w=>∃(r:Nat),(r≤regs.toNat)∧(∀j,j<r→rowB (nth code.l t).l (nth cols.l t).l (f t) regs.toNat j=true)∧St 85 (fun _=>False) W a w [(1,cols.v),(2, .pointer (some ⟨b12,0,none⟩)),(5, .int .i64 ((t:Nat):Int)),(6,s35.v),(7, .int .i64 ((r:Nat):Int))] [.deep 64 s35, .blk b12 25 [code.v,words.v, .int .i64 locks, .int .i64 regs], .at_ code, .at_ words, .at_ cols]∧m=regs.toNat-r) ⟨_,0,(by omega),(fun j hj=>absurd hj (by omega)),h38.nf ⟨rfl,rfl,rfl,rfl,rfl,trivial⟩,rfl⟩ ?_
  clear h38
  rintro m37 a37 w37 ⟨r,hr,hrow,h37,hm37⟩
  refine gG h37<|gK fun _ k39=>sG (oM 1 rfl<|ofB fl_25_3 rfl<|olB 1 ti_3 rfl rfl<|oltI _ _ rfl<|.nl)<|?_;clear h37
  refine gcd rfl (fun hb41 hp41=> ?_) fun hb41 hp41=> ?_
  ·skip
   refine gS<|hK k39<|gK fun _ k42=>gB<|sG (oM 2 rfl<|oxN sl_26 ti_23 (aA 4 rfl) _ om9 rfl<|olE ((nth cols.l t).v) ti_23 (aA 4 rfl) om9 rfl<|oM 1 rfl<|oxN sl_23 ti_3 (fun w h=>((h.at 4 rfl).nth t (show t<cols.l.length from (by omega)))) _ om9 rfl<|olE (.int .i64 (nth ((nth cols.l t).l) r)) ti_3 (fun w h=>((h.at 4 rfl).nth t (show t<cols.l.length from (by omega)))) om9 rfl<|oM 1 rfl<|.nl)<|gK fun _ k44=>sK fun _ k45=>gRn (oM 1 rfl<|oltI _ _ rfl<|oM 1 rfl<|.nl)<|?_
   rcases dsp (nth ((nth cols.l t).l) r<(-1)) with ⟨hb46,hp46⟩|⟨hb46,hp46⟩
   ·skip
    refine gRn (oKs 2 hb46 rfl rfl<|opT hb46 rfl<|.nl)<|nK k45<|gcT rfl rfl<|sG (oM 1 rfl<|.nl)<|gF [4] rfl<|gR<|uT<|uB<|uT<|uT<|uB<|uB<|uT<|uT<|uB<|uT<|fun a48 w48 h48=>x_ret1 (fn:=Try.f12) (t:=4) rfl h48 rfl<|⟨?_,(h48.sh.sel [] rfl)⟩
    congr 1
    first|exact (colsB_t (by omega) fun j hj=>hall j (by omega)).symm|exact (colsB_f1 (by omega)).symm|exact (colsB_f2 (t:=t) (by omega) (thB_f1 (by omega))).symm|exact (colsB_f2 (t:=t) (by omega) (thB_f2 (r:=r) (by omega) (rowB_f1 (by omega)))).symm|exact (colsB_f2 (t:=t) (by omega) (thB_f2 (r:=r) (by omega) (rowB_f2 (s:=q) (by omega) (cellB_t (by assumption) (by rw [←hk4 q (by omega)];assumption) (by assumption))))).symm
   refine gRn (oG hb46 (r_move rfl rfl) rfl<|oG hb46 (r_geqI (p:=nth ((nth cols.l t).l) r) (q:=6) rfl rfl rfl) rfl<|opF hb46 rfl<|.nl)<|nK k45<|gcd rfl (fun hb49 hp49=> ?_) fun hb49 hp49=> ?_
   ·skip
    refine sG (oM 1 rfl<|.nl)<|gF [4] rfl<|gR<|uT<|uB<|uT<|uT<|uB<|uB<|uT<|uT<|uB<|uT<|fun a51 w51 h51=>x_ret1 (fn:=Try.f12) (t:=4) rfl h51 rfl<|⟨?_,(h51.sh.sel [] rfl)⟩
    congr 1
    first|exact (colsB_t (by omega) fun j hj=>hall j (by omega)).symm|exact (colsB_f1 (by omega)).symm|exact (colsB_f2 (t:=t) (by omega) (thB_f1 (by omega))).symm|exact (colsB_f2 (t:=t) (by omega) (thB_f2 (r:=r) (by omega) (rowB_f1 (by omega)))).symm|exact (colsB_f2 (t:=t) (by omega) (thB_f2 (r:=r) (by omega) (rowB_f2 (s:=q) (by omega) (cellB_t (by assumption) (by rw [←hk4 q (by omega)];assumption) (by assumption))))).symm
   refine gS<|hK k44<|sG (oM 1 rfl<|.nl)<|gB<|?_
   obtain ⟨hk3,hk4⟩:=hk2 r (by omega)
   intro a54 w54 h54
   refine x_loop (fun m a w=>∃(q:Nat),(q≤regs.toNat)∧(∀j,j<q→cellB (nth code.l t).l (nth cols.l t).l (f t) r j=false)∧St 85 (fun _=>False) W a w [(1,cols.v),(2, .pointer (some ⟨b12,0,none⟩)),(5, .int .i64 ((t:Nat):Int)),(6,s35.v),(7, .int .i64 ((r:Nat):Int)),(8, .int .i64 (nth ((nth cols.l t).l) r)),(9, .int .i64 ((q:Nat):Int))] [.deep 64 s35, .blk b12 25 [code.v,words.v, .int .i64 locks, .int .i64 regs], .at_ code, .at_ words, .at_ cols]∧m=regs.toNat-q) ⟨_,0,(by omega),(fun j hj=>absurd hj (by omega)),h54.nf ⟨rfl,rfl,rfl,rfl,rfl,rfl,rfl,trivial⟩,rfl⟩ ?_
   clear h54
   rintro m53 a53 w53 ⟨q,hq,hcell,h53,hm53⟩
   refine gG h53<|gK fun _ k55=>sG (oM 1 rfl<|ofB fl_25_3 rfl<|olB 1 ti_3 rfl rfl<|oltI _ _ rfl<|.nl)<|?_;clear h53
   refine gcd rfl (fun hb57 hp57=> ?_) fun hb57 hp57=> ?_
   ·skip
    refine gS<|hK k55<|gK fun _ k58=>gB<|sK fun _ k59=>gRn (oM 1 rfl<|ogeI _ _ rfl<|oM 1 rfl<|.nl)<|?_
    rcases dsp (0≤nth ((nth cols.l t).l) r) with ⟨hb60,hp60⟩|⟨hb60,hp60⟩
    ·skip
     refine gNl (aD 0 rfl) fun hl61=>gNl (fun w h=>((h.deep 0 rfl).nth r (show r<s35.l.length from (by omega)))) fun (hl62:((nth s35.l r).l).length≤140737488355328)=>gRn (oG hb60 (r_move rfl rfl) rfl<|oG hb60 (r_move rfl rfl) rfl<|oG hb60 (r_ixN (s:=s35) (q:=r) sl_61 ti_64 rfl rfl rfl (fun w h=>(h.deep 0 rfl)) (show r<s35.l.length from om9)) rfl<|oG hb60 (r_lde (s:=s35) (i:=r) (v:=(nth s35.l r).v) ti_64 rfl rfl rfl (fun w h=>(h.deep 0 rfl)) (show r<s35.l.length from om9) (Nat.le_of_ble_eq_true rfl) rfl) rfl<|oG hb60 (r_move rfl rfl) rfl<|oG hb60 (r_ixN (s:=nth s35.l r) (q:=q) sl_64 ti_4 rfl rfl rfl (fun w h=>((h.deep 0 rfl).nth r (show r<s35.l.length from om9))) (show q<((nth s35.l r).l).length from om9)) rfl<|oG hb60 (r_lde (s:=nth s35.l r) (i:=q) (v:= .bool (nth ((nth s35.l r).l) q)) ti_4 rfl rfl rfl (fun w h=>((h.deep 0 rfl).nth r (show r<s35.l.length from om9))) (show q<((nth s35.l r).l).length from om9) (Nat.le_of_ble_eq_true rfl) rfl) rfl<|opT hb60 rfl<|oM 1 rfl<|.nl)<|?_
     rcases Bool.eq_false_or_eq_true (nth ((nth s35.l r).l) q) with hb63|hb63
     ·skip
      refine gRn (oG hb63 (r_move rfl rfl) rfl<|oG hb63 (r_move rfl rfl) rfl<|oG hb63 (r_ixN (s:=cols) (q:=t) sl_26 ti_23 rfl rfl rfl (fun w h=>(h.at 4 rfl)) (show t<cols.l.length from om9)) rfl<|oG hb63 (r_lde (s:=cols) (i:=t) (v:=(nth cols.l t).v) ti_23 rfl rfl rfl (fun w h=>(h.at 4 rfl)) (show t<cols.l.length from om9) (Nat.le_of_ble_eq_true rfl) rfl) rfl<|oG hb63 (r_move rfl rfl) rfl<|oG hb63 (r_ixN (s:=nth cols.l t) (q:=q) sl_23 ti_3 rfl rfl rfl (fun w h=>((h.at 4 rfl).nth t (show t<cols.l.length from om9))) (show q<((nth cols.l t).l).length from om9)) rfl<|oG hb63 (r_lde (s:=nth cols.l t) (i:=q) (v:= .int .i64 (nth ((nth cols.l t).l) q)) ti_3 rfl rfl rfl (fun w h=>((h.at 4 rfl).nth t (show t<cols.l.length from om9))) (show q<((nth cols.l t).l).length from om9) (Nat.le_of_ble_eq_true rfl) rfl) rfl<|oG hb63 (r_move rfl rfl) rfl<|oG hb63 (r_eqlI (p:=nth ((nth cols.l t).l) q) (q:=nth ((nth cols.l t).l) r) rfl rfl rfl) rfl<|opT hb63 rfl<|.nl)<|nK k59<|gF [1,2,5,6,7,8,9,84] rfl<|gcd rfl (fun hb64 hp64=> ?_) fun hb64 hp64=> ?_
      ·skip
       refine sG (oM 1 rfl<|.nl)<|gR<|uB<|uT<|uT<|uB<|uB<|uT<|uT<|uB<|uB<|uT<|uT<|uB<|uT<|fun a66 w66 h66=>x_ret1 (fn:=Try.f12) (t:=4) rfl h66 rfl<|⟨?_,(h66.sh.sel [] rfl)⟩
       congr 1
       first|exact (colsB_t (by omega) fun j hj=>hall j (by omega)).symm|exact (colsB_f1 (by omega)).symm|exact (colsB_f2 (t:=t) (by omega) (thB_f1 (by omega))).symm|exact (colsB_f2 (t:=t) (by omega) (thB_f2 (r:=r) (by omega) (rowB_f1 (by omega)))).symm|exact (colsB_f2 (t:=t) (by omega) (thB_f2 (r:=r) (by omega) (rowB_f2 (s:=q) (by omega) (cellB_t (by assumption) (by rw [←hk4 q (by omega)];assumption) (by assumption))))).symm
      refine gS<|hK k58<|gL<|gRn (oM 1 rfl<|oadN _ 1 om9 rfl<|oM 1 rfl<|.nl)<|nN<|fun a67 w67 h67=>x_again ⟨_, ?_,q+1, ?_, ?_,h67.nf ⟨rfl,rfl,rfl,rfl,rfl,rfl,rfl,trivial⟩,rfl⟩
      · rw [hm53];first|omega|(simp only [lens9];omega)
      · omega
      · exact all_step hcell (cellB_f (by rw [←hk4 q (by omega)];first|exact .inl (by assumption)|exact .inr (.inl (by assumption))|exact .inr (.inr (by assumption))))
     refine gRn (oKs 9 hb63 rfl rfl<|opF hb63 rfl<|.nl)<|nK k59<|gF [1,2,5,6,7,8,9,84] rfl<|gcF rfl rfl<|gS<|hK k58<|gL<|gRn (oM 1 rfl<|oadN _ 1 om9 rfl<|oM 1 rfl<|.nl)<|nN<|fun a68 w68 h68=>x_again ⟨_, ?_,q+1, ?_, ?_,h68.nf ⟨rfl,rfl,rfl,rfl,rfl,rfl,rfl,trivial⟩,rfl⟩
     · rw [hm53];first|omega|(simp only [lens9];omega)
     · omega
     · exact all_step hcell (cellB_f (by rw [←hk4 q (by omega)];first|exact .inl (by assumption)|exact .inr (.inl (by assumption))|exact .inr (.inr (by assumption))))
    refine gRn (oKs 7 hb60 rfl rfl<|opF hb60 rfl<|oM 1 rfl<|oKs 9 rfl rfl rfl<|opF rfl rfl<|.nl)<|nK k59<|gF [1,2,5,6,7,8,9,84] rfl<|gcF rfl rfl<|gS<|hK k58<|gL<|gRn (oM 1 rfl<|oadN _ 1 om9 rfl<|oM 1 rfl<|.nl)<|nN<|fun a69 w69 h69=>x_again ⟨_, ?_,q+1, ?_, ?_,h69.nf ⟨rfl,rfl,rfl,rfl,rfl,rfl,rfl,trivial⟩,rfl⟩
    · rw [hm53];first|omega|(simp only [lens9];omega)
    · omega
    · exact all_step hcell (cellB_f (by rw [←hk4 q (by omega)];first|exact .inl (by assumption)|exact .inr (.inl (by assumption))|exact .inr (.inr (by assumption))))
   refine gX<|hK k42<|gL<|gRn (oM 1 rfl<|oadN _ 1 om9 rfl<|oM 1 rfl<|.nl)<|nN<|fun a70 w70 h70=>x_again ⟨_, ?_,r+1, ?_, ?_,h70.nf ⟨rfl,rfl,rfl,rfl,rfl,trivial⟩,rfl⟩
   · rw [hm37];first|omega|(simp only [lens9];omega)
   · omega
   · exact all_step hrow (rowB_t (by omega) fun q hq=>hcell q (by omega))
  refine gX<|hK k27<|gL<|gRn (oM 1 rfl<|oadN _ 1 om9 rfl<|oM 1 rfl<|.nl)<|nN<|fun a71 w71 h71=>x_again ⟨_, ?_,t+1, ?_, ?_,h71.nrm ⟨rfl,rfl,rfl,trivial⟩ [1,2,3,4] rfl,rfl⟩
  · rw [hm22];first|omega|(simp only [lens9];omega)
  · omega
  · exact all_step hall (thB_t (by omega) fun q hq=>hrow q (by omega))
 refine gX<|hK k20<|sG (oM 1 rfl<|.nl)<|gR<|fun a73 w73 h73=>x_ret1 (fn:=Try.f12) (t:=4) rfl h73 rfl<|⟨?_,(h73.sh.sel [] rfl)⟩
 congr 1
 first|exact (colsB_t (by omega) fun j hj=>hall j (by omega)).symm|exact (colsB_f1 (by omega)).symm|exact (colsB_f2 (t:=t) (by omega) (thB_f1 (by omega))).symm|exact (colsB_f2 (t:=t) (by omega) (thB_f2 (r:=r) (by omega) (rowB_f1 (by omega)))).symm|exact (colsB_f2 (t:=t) (by omega) (thB_f2 (r:=r) (by omega) (rowB_f2 (s:=q) (by omega) (cellB_t (by assumption) (by rw [←hk4 q (by omega)];assumption) (by assumption))))).symm
theorem listB_mem {f:Nat→Bool}{m:Nat}{v:Int} :v∈listB ((List.range m).map f)↔∃b:Nat,v=(b:Int)∧b<m∧f b=true:=by
 rw [listB_range,List.mem_map]
 constructor
 ·rintro ⟨b,hb,rfl⟩
  obtain ⟨h1,h2⟩:=List.mem_filter.1 hb
  exact ⟨b,rfl,List.mem_range.1 h1,h2⟩
 ·rintro ⟨b,rfl,h1,h2⟩
  exact ⟨b,List.mem_filter.2 ⟨List.mem_range.2 h1,h2⟩,rfl⟩
theorem any_listB {g:Nat→Bool}{R:Nat}{pd:Int→Bool} :(listB ((List.range R).map g)).any pd=(List.range R).any fun s=>g s&&pd (s:Int):=by
 rw [listB_range,List.any_map,List.any_filter]
 rfl
theorem roE {A B C:Asn}{w:World}(h:(Asn.ro [A,B,C]).ok w):A.ok w∧B.ok w∧C.ok w:=⟨h _ (by simp),h _ (by simp),h _ (by simp)⟩
theorem roI {A B C:Asn}{w:World}(h1:A.ok w)(h2:B.ok w)(h3:C.ok w):(Asn.ro [A,B,C]).ok w:=by
 intro D hD
 simp only [List.mem_cons,List.not_mem_nil,or_false] at hD
 rcases hD with rfl|rfl|rfl
 ·exact h1
 ·exact h2
 ·exact h3
theorem cells_no {c:List Ins}{cl row:List Int}{f:Nat→Nat→Bool}{R r:Nat}(hrow:row=listB ((List.range R).map fun b=>clTo c f c.length r b))(h:¬0≤nth cl r∨(row.any fun q=>decide (nth cl q.toNat=nth cl r))=false):∀s,s<R→cellB c cl f r s=false:=by
 intro s hs
 rcases h with h|h
 ·exact cellB_f (.inl h)
 ·rw [hrow,any_listB,List.any_eq_false] at h
  have h2:=h s (List.mem_range.2 hs)
  cases hc:clTo c f c.length r s
  ·exact cellB_f (.inr (.inl hc))
  ·rw [hc,Bool.true_and] at h2
   exact cellB_f (.inr (.inr (by simpa using h2)))
theorem cells_yes {c:List Ins}{cl row:List Int}{f:Nat→Nat→Bool}{R r:Nat}(hrow:row=listB ((List.range R).map fun b=>clTo c f c.length r b))(h0:0≤nth cl r)(h:(row.any fun q=>decide (nth cl q.toNat=nth cl r))=true):rowB c cl f R r=false:=by
 rw [hrow,any_listB,List.any_eq_true] at h
 obtain ⟨s,hs,h⟩:=h
 simp only [Bool.and_eq_true,decide_eq_true_eq] at h
 exact rowB_f2 (List.mem_range.1 hs) (cellB_t h0 h.1 (by simpa using h.2))
theorem range_no {cl:List Int}{R:Nat}(hl:cl.length=R)(h:(cl.any fun x=>decide (x< -1)||decide (6≤x))=false):∀r,r<R→-1≤nth cl r∧nth cl r<6:=by
 intro r hr
 rw [List.any_eq_false] at h
 have:=h (nth cl r) (nth_mem _ _ (by omega))
 simp at this
 omega
theorem range_yes {c:List Ins}{cl:List Int}{f:Nat→Nat→Bool}{R:Nat}(h:(cl.any fun x=>decide (x< -1)||decide (6≤x))=true):thB c cl f R=false:=by
 by_cases hl:cl.length=R
 ·obtain ⟨x,hx,h⟩:=List.any_eq_true.1 h
  obtain ⟨i,hi,rfl⟩:=List.mem_iff_getElem.1 hx
  simp only [Bool.or_eq_true,decide_eq_true_eq] at h
  refine thB_f2 (r:=i) (by omega) (rowB_f1 ?_)
  rw [nth_lt _ _ hi]
  omega
 ·exact thB_f1 hl
theorem listB_in {f:Nat→Bool}{m i:Nat}(hi:i<(listB ((List.range m).map f)).length):0≤nth (listB ((List.range m).map f)) i∧nth (listB ((List.range m).map f)) i<(m:Int):=by
 obtain ⟨b,e,hb,_⟩:=listB_mem.1 (nth_mem _ _ hi)
 rw [e];omega
theorem indexP_c (x:Ls Int)(bf:FuncId)(us ws:List Value)(Env:Asn)(pd:Int→Bool)(W:World)(hx:x.At W)(hbd:bodyI Try.prog bf=true)(hEf:∀b,¬Env.fp b)(hEo:Env.ok W)(hpd:∀(w:World) (i:Nat),Env.ok w→i<x.l.length→Rets Try.prog bf (us++ [.int .i64 (nth x.l i)]++ws) w (fun v w' =>v= .bool (pd (nth x.l i))∧Sh0 w w' [])):
    Rets Try.prog 88 [x.v, .func (.func bf) us.toArray ws.toArray] W (fun v w' =>∃r:Int,v= .int .i64 r∧(0≤r↔(x.l.any pd)=true)∧Sh0 W w' []):=by
 refine gen Try.func88 Try.ntmps88 (Sh0.ext (by intro A hA;simp only [List.mem_cons,List.not_mem_nil,or_false] at hA;rcases hA with rfl|rfl;exact hx;exact hEo) (by intro A hA b hb;simp only [List.mem_cons,List.not_mem_nil,or_false] at hA;rcases hA with rfl|rfl;exact hb;exact hEf b hb):Sh (fun _=>False) W W [.at_ x,Env]) rfl fun a10 h10=>gG h10<|sG (oM 1 rfl<|.nl)<|gK fun _ k12=>sK fun _ k13=>gNl (aA 0 rfl) fun hl14=>gRn (oM 1 rfl<|oln sl_23 (aA 0 rfl) rfl<|oM 1 rfl<|.nl)<|nK k13<|gB<|fun a16 w16 h16=>x_loop (fun m a w=>∃(k:Nat),(k≤x.l.length)∧(((x.l.take k).any pd)=false)∧St 19 (fun _=>False) W a w [(0,x.v),(1, .func (.func bf) us.toArray ws.toArray),(7, .int .i64 ((x.l.length:Nat):Int)),(8, .int .i64 ((k:Nat):Int))] [.at_ x,Env]∧m=x.l.length-k) ⟨_,0,(by omega),(by simp),h16.nf ⟨rfl,rfl,rfl,rfl,trivial⟩,rfl⟩ ?_;clear h10
 clear h16
 rintro m15 a15 w15 ⟨k,hk,hno,h15,hm15⟩
 refine gG h15<|sG (oltN _ _ rfl<|.nl)<|gK fun _ k18=>gcd rfl (fun hb19 hp19=> ?_) fun hb19 hp19=> ?_;clear h15
 ·skip
  refine gS<|hK k18<|gK fun _ k20=>gB<|sG (oM 2 rfl<|.nl)<|sK fun _ k22=>gRn (oM 3 rfl<|oxN sl_23 ti_3 (aA 0 rfl) _ om9 rfl<|olI ti_3 (aA 0 rfl) om9 rfl<|.nl)<|gC (fun _ _ h_=>xCl h_ hbd rfl (hpd _ k (h_.sh.ok Env (List.mem_of_getElem? (i:=1) rfl)) (by omega))) rfl<|?_
  rintro _ _ w23 ⟨rfl,hs23⟩
  refine gWk hs23 rfl<|gU<|nK k22<|?_;clear hs23
  refine gCb rfl (fun hb24=> ?_) fun hb24=> ?_
  ·skip
   refine sG (oM 2 rfl<|.nl)<|gR<|uB<|uT<|uT<|uB<|uT<|fun a26 w26 h26=>x_ret1 (fn:=Try.f88) (t:=4) rfl h26 rfl<|⟨_,rfl, ?_,(h26.sh.sel [] rfl)⟩
   first|(refine ⟨fun _=>List.any_eq_true.2 ⟨_,nth_mem x.l k (by omega),by assumption⟩,fun _=>by omega⟩)|(rw [List.take_of_length_le (by omega)] at hno;rw [hno];constructor<;>intro h9<;>first|omega|cases h9)
  refine gS<|hK k20<|gL<|gRn (oadN _ 1 om9 rfl<|oM 1 rfl<|.nl)<|nN<|fun a27 w27 h27=>x_again ⟨_, ?_,k+1, ?_, ?_,h27.nf ⟨rfl,rfl,rfl,rfl,trivial⟩,rfl⟩
  · rw [hm15];first|omega|(simp only [lens9];omega)
  · omega
  · rw [List.take_add_one,List.any_append,hno,List.getElem?_eq_getElem (by omega)];have h9:=(by assumption:pd (nth x.l k)=false);rw [nth_lt _ _ (by omega)] at h9;simp [h9]
 refine gX<|hK k12<|sG (oM 1 rfl<|.nl)<|gR<|fun a29 w29 h29=>x_ret1 (fn:=Try.f88) (t:=4) rfl h29 rfl<|⟨_,rfl, ?_,(h29.sh.sel [] rfl)⟩
 first|(refine ⟨fun _=>List.any_eq_true.2 ⟨_,nth_mem x.l k (by omega),by assumption⟩,fun _=>by omega⟩)|(rw [List.take_of_length_le (by omega)] at hno;rw [hno];constructor<;>intro h9<;>first|omega|cases h9)
theorem containsP_c (x:Ls Int)(bf:FuncId)(us ws:List Value)(Env:Asn)(pd:Int→Bool)(W:World)(hx:x.At W)(hbd:bodyI Try.prog bf=true)(hEf:∀b,¬Env.fp b)(hEo:Env.ok W)(hpd:∀(w:World) (i:Nat),Env.ok w→i<x.l.length→Rets Try.prog bf (us++ [.int .i64 (nth x.l i)]++ws) w (fun v w' =>v= .bool (pd (nth x.l i))∧Sh0 w w' [])):
    Rets Try.prog 57 [x.v, .func (.func bf) us.toArray ws.toArray] W (fun v w' =>v= .bool (x.l.any pd)∧Sh0 W w' []):=by
 refine gen Try.func57 Try.ntmps57 (Sh0.ext (by intro A hA;simp only [List.mem_cons,List.not_mem_nil,or_false] at hA;rcases hA with rfl|rfl;exact hx;exact hEo) (by intro A hA b hb;simp only [List.mem_cons,List.not_mem_nil,or_false] at hA;rcases hA with rfl|rfl;exact hb;exact hEf b hb):Sh (fun _=>False) W W [.at_ x,Env]) rfl fun a10 h10=>gG h10<|sG (oM 1 rfl<|.nl)<|sK fun _ k12=>gRn (oM 2 rfl<|.nl)<|gC (fun _ _ h_=>xCl h_ bd_88 rfl (indexP_c x bf us ws Env pd _ (h_.sh.at 0 rfl) hbd hEf (h_.sh.ok Env (List.mem_of_getElem? (i:=1) rfl)) hpd)) rfl<|?_;clear h10
 rintro _ _ w13 ⟨r13,rfl,hr13,hs13⟩
 refine gWk hs13 rfl<|gU<|gRn (ogeI _ _ rfl<|oM 1 rfl<|.nl)<|nK k12<|gR<|fun a14 w14 h14=> ?_;clear hs13
 refine x_ret1 (fn:=Try.f57) (t:=4) rfl h14 rfl<|⟨?_,(h14.sh.sel [] rfl)⟩
 congr 1
 rw [Bool.eq_iff_iff,decide_eq_true_eq]
 exact hr13
theorem is1_c (x:Int)(W:World):
    Rets Try.prog 58 [.int .i64 x] W (fun v w' =>v= .bool (decide (x< -1)||decide (6≤x))∧Sh0 W w' []):=by
 refine gen Try.func58 Try.ntmps58 (Sh0.start _:Sh (fun _=>False) W W []) rfl fun a10 h10=>gG h10<|sG (oM 1 rfl<|.nl)<|sK fun _ k12=>gRn (oM 1 rfl<|oltI _ _ rfl<|oM 1 rfl<|.nl)<|?_;clear h10
 rcases dsp (x<(-1)) with ⟨hb13,hp13⟩|⟨hb13,hp13⟩
 ·skip
  refine gRn (oKs 2 hb13 rfl rfl<|opT hb13 rfl<|oM 1 rfl<|.nl)<|nK k12<|gR<|fun a14 w14 h14=>x_ret1 (fn:=Try.f58) (t:=2) rfl h14 rfl<|⟨?_,(h14.sh.sel [] rfl)⟩
  congr 1
  first|(rw [decide_eq_true (by assumption:x< -1)];rfl)|(rw [decide_eq_false (by omega:¬x< -1)];rfl)
 refine gRn (oG hb13 (r_move rfl rfl) rfl<|oG hb13 (r_geqI (p:=x) (q:=6) rfl rfl rfl) rfl<|opF hb13 rfl<|oM 1 rfl<|.nl)<|nK k12<|gR<|fun a15 w15 h15=>x_ret1 (fn:=Try.f58) (t:=2) rfl h15 rfl<|⟨?_,(h15.sh.sel [] rfl)⟩
 congr 1
 first|(rw [decide_eq_true (by assumption:x< -1)];rfl)|(rw [decide_eq_false (by omega:¬x< -1)];rfl)
theorem is2_c (x:Int)(b1 b2:Nat)(cl:Ls Int)(c:Int)(W:World)(h1:Blk W b1 23 #[cl.v])(h2:Blk W b2 3 #[.int .i64 c])(h3:cl.At W)(hx:0≤x∧x<(cl.l.length:Int)):
    Rets Try.prog 59 [.int .i64 x, .pointer (some ⟨b1,0,none⟩), .pointer (some ⟨b2,0,none⟩)] W (fun v w' =>v= .bool (decide (nth cl.l x.toNat=c))∧Sh0 W w' []):=by
 refine gen Try.func59 Try.ntmps59 (Sh0.ext (by intro A hA;simp only [List.mem_cons,List.not_mem_nil,or_false] at hA;rcases hA with rfl|rfl|rfl;exact h1;exact h2;exact h3) (by intro A hA b hb;simp only [List.mem_cons,List.not_mem_nil,or_false] at hA;rcases hA with rfl|rfl|rfl<;>exact hb):Sh (fun _=>False) W W [.rblk b1 23 [cl.v], .rblk b2 3 [.int .i64 c], .at_ cl]) rfl fun a10 h10=>gG h10<|sG (oM 1 rfl<|.nl)<|gK fun _ k12=>gNl (aA 2 rfl) fun hl13=>rQ (olR 0 ti_23 rfl rfl<|oM 1 rfl<|oxI sl_23 ti_3 (aA 2 rfl) om9 rfl<|olI ti_3 (aA 2 rfl) om9 rfl<|olR 1 ti_3 rfl rfl<|oeqI _ _ rfl<|oM 1 rfl<|.nl)<|hK k12<|gR<|fun a14 w14 h14=>x_ret1 (fn:=Try.f59) (t:=4) rfl h14 rfl ?_;clear h10
 exact ⟨rfl,(h14.sh.sel [] rfl)⟩
theorem is_c (code:Ls (Ls Ins))(words:Ls Int)(locks regs:Int)(cols:Ls (Ls Int))(f:Nat→Nat→Nat→Bool)(W:World)(hcode:code.At W)(hwords:words.At W)(hcols:cols.At W)(hok:OkPg (pgOf code words locks regs))(hF:∀t,t<code.l.length→∀r j,(f t r j=true↔LiveI (nth code.l t).l r j)):
    Rets Try.prog 28 [.agg #[code.v,words.v, .int .i64 locks, .int .i64 regs],cols.v] W (fun v w' =>v= .bool (colsB code.l cols.l f regs.toNat)∧Sh0 W w' []):=by
 have hz:=checkG_ok hok
 obtain ⟨hl1,hl2,hl3,hl4',hl5,hl6,hl7⟩:=ok_len hok
 have hrg:=hok.regs
 have hrg1:(pgOf code words locks regs).regs=regs:=rfl
 rw [hrg1] at hrg
 refine gen Try.func28 Try.ntmps28 (Sh0.ext3 hcode hwords hcols:Sh (fun _=>False) W W [.at_ code, .at_ words, .at_ cols]) rfl fun a10 h10=>gG h10<|sK fun _ k11=>gbx rfl rfl fun b12=>gRn (oM 1 rfl<|.nl)<|nK k11<|sK fun _ k13=>gRn (olw 0 ti_25 rfl rfl<|.nl)<|gC (fun _ _ h_=>xCl h_ bd_29 rfl (clash_k code words locks regs f _ (h_.sh.at 1 rfl) (h_.sh.at 2 rfl) hok hF)) rfl<|?_;clear h10
 rintro _ _ w14 ⟨s14,rfl,hcl,hs14⟩
 refine gWk hs14 rfl<|gU<|gRn (oM 1 rfl<|oxt rfl<|oxt rfl<|.nl)<|gal ti_30 rfl fun b15=>gRn (oM 1 rfl<|.nl)<|gsw 0 ti_30 rfl rfl rfl<|nK k13<|?_;clear hs14
 obtain ⟨hcl1,hcv⟩:=rowsV hcl
 refine gK fun _ k17=>sK fun _ k18=>gNl (aA 5 rfl) fun hl19=>gNl (aA 3 rfl) fun hl20=>gRn (oM 1 rfl<|oln sl_26 (aA 5 rfl) rfl<|ofB fl_25_0 rfl<|olB 2 ti_22 rfl rfl<|oln sl_22 (aA 3 rfl) rfl<|oneN _ _ rfl<|.nl)<|nK k18<|gcd rfl (fun hb21 hp21=> ?_) fun hb21 hp21=> ?_
 ·skip
  refine sG (oM 1 rfl<|.nl)<|gR<|uT<|fun a23 w23 h23=>x_ret1 (fn:=Try.f28) (t:=4) rfl h23 rfl<|⟨?_,(h23.sh.sel [] rfl)⟩
  congr 1
  first|exact (colsB_t (by omega) fun j hj=>hall j (by omega)).symm|exact (colsB_f1 (by omega)).symm|exact (colsB_f2 (t:=t) (by omega) (thB_f1 (by omega))).symm|exact (colsB_f2 (t:=t) (by omega) (range_yes (by assumption))).symm|exact (colsB_f2 (t:=t) (by omega) (thB_f2 (r:=r) (by omega) (cells_yes heq (by assumption) (by assumption)))).symm
 refine gS<|hK k17<|gK fun _ k24=>sG (oM 1 rfl<|oln sl_26 (aA 5 rfl) rfl<|oM 1 rfl<|.nl)<|gB<|fun a27 w27 h27=>x_loop (fun m a w=>∃(t:Nat),(t≤cols.l.length)∧(∀j,j<t→thB (nth code.l j).l (nth cols.l j).l (f j) regs.toNat=true)∧St 60 (fun _=>False) W a w [(2, .pointer (some ⟨b12,0,none⟩)),(5,s14.v),(22,cols.v),(23, .int .i64 ((cols.l.length:Nat):Int)),(24, .int .i64 ((t:Nat):Int))] [.blk b15 30 [.int .i64 0, .int .i64 0, .int .i64 0], .deep 26 s14, .blk b12 25 [code.v,words.v, .int .i64 locks, .int .i64 regs], .at_ code, .at_ words, .at_ cols]∧m=cols.l.length-t) ⟨_,0,(by omega),(fun j hj=>absurd hj (by omega)),h27.nf ⟨rfl,rfl,rfl,rfl,rfl,trivial⟩,rfl⟩ ?_
 clear h27
 rintro m26 a26 w26 ⟨t,ht,hall,h26,hm26⟩
 refine gG h26<|sG (oltN _ _ rfl<|.nl)<|gK fun _ k29=>gcd rfl (fun hb30 hp30=> ?_) fun hb30 hp30=> ?_;clear h26
 ·skip
  refine gS<|hK k29<|gK fun _ k31=>gB<|sK fun _ k32=>gRn (oM 1 rfl<|oxN sl_26 ti_23 (aA 5 rfl) _ om9 rfl<|olE ((nth cols.l t).v) ti_23 (aA 5 rfl) om9 rfl<|.nl)<|gal ti_23 rfl fun b33=>gRn (oM 1 rfl<|.nl)<|gE (fun _ _ h_=>x_stb (i:=0) (vs:= [(nth cols.l t).v]) (cs' := [(nth cols.l t).v]) h_ ti_23 rfl rfl rfl rfl rfl (cells_oneL (((h_.sh.at 6 rfl).nth t (show t<cols.l.length from om9))).one) rfl (allOne_cons (((h_.sh.at 6 rfl).nth t (show t<cols.l.length from om9))).one allOne_nil) (Nat.le_of_ble_eq_true rfl) rfl) rfl<|nK k32<|?_
  obtain ⟨hl4,hjt⟩:=ok_thread hok t (by omega)
  refine gK fun _ k35=>sK fun _ k36=>gNl (fun w h=>((h.at 6 rfl).nth t (show t<cols.l.length from (by omega)))) fun (hl37:((nth cols.l t).l).length≤140737488355328)=>gRn (olB 0 ti_23 rfl rfl<|oln (n:=((nth cols.l t).l).length) sl_23 (fun w h=>((h.at 6 rfl).nth t (show t<cols.l.length from (by omega)))) rfl<|ofB fl_25_3 rfl<|olB 3 ti_3 rfl rfl<|oneI _ _ rfl<|oM 1 rfl<|.nl)<|?_
  rcases dsp (((((nth cols.l t).l).length:Nat):Int)≠regs) with ⟨hb38,hp38⟩|⟨hb38,hp38⟩
  ·skip
   refine gRn (oKs 2 hb38 rfl rfl<|opT hb38 rfl<|.nl)<|nK k36<|gcT rfl rfl<|sG (oM 1 rfl<|.nl)<|gR<|uT<|uB<|uT<|uT<|uB<|uT<|fun a40 w40 h40=>x_ret1 (fn:=Try.f28) (t:=4) rfl h40 rfl<|⟨?_,(h40.sh.sel [] rfl)⟩
   congr 1
   first|exact (colsB_t (by omega) fun j hj=>hall j (by omega)).symm|exact (colsB_f1 (by omega)).symm|exact (colsB_f2 (t:=t) (by omega) (thB_f1 (by omega))).symm|exact (colsB_f2 (t:=t) (by omega) (range_yes (by assumption))).symm|exact (colsB_f2 (t:=t) (by omega) (thB_f2 (r:=r) (by omega) (cells_yes heq (by assumption) (by assumption)))).symm
  refine gRn (oG hb38 (r_ldb (i:=0) ti_23 rfl rfl rfl rfl) rfl<|.nl)<|fun a41 w41 h41=>wl_ex (x_call h41 bd_57 rfl rfl rfl rfl rfl (containsP_c (nth cols.l t) 58 [] [] (Asn.ro []) (fun x=>decide (x< -1)||decide (6≤x)) _ ((h41.sh.at 6 rfl).nth t (show t<cols.l.length from (by omega))) bd_58 (fun _ h=>h) (fun _ h=>by cases h) (fun w i _ _=>is1_c _ w))) (wanted_yes h41.fr rfl rfl rfl rfl hb38) ?_
  rintro a42 w42 ⟨_,⟨rfl,hs42⟩,hf42⟩
  have h42:St 60 (fun _=>False) W a42 w42 _ _:=⟨hf42,h41.sh.call0 hs42⟩
  clear hf42 hs42
  clear h41
  refine gG h42<|gRn (opF hb38 rfl<|.nl)<|nK k36<|?_;clear h42
  refine gCb rfl (fun hb43=> ?_) fun hb43=> ?_
  ·skip
   refine sG (oM 1 rfl<|.nl)<|gR<|uT<|uB<|uT<|uT<|uB<|uT<|fun a45 w45 h45=>x_ret1 (fn:=Try.f28) (t:=4) rfl h45 rfl<|⟨?_,(h45.sh.sel [] rfl)⟩
   congr 1
   first|exact (colsB_t (by omega) fun j hj=>hall j (by omega)).symm|exact (colsB_f1 (by omega)).symm|exact (colsB_f2 (t:=t) (by omega) (thB_f1 (by omega))).symm|exact (colsB_f2 (t:=t) (by omega) (range_yes (by assumption))).symm|exact (colsB_f2 (t:=t) (by omega) (thB_f2 (r:=r) (by omega) (cells_yes heq (by assumption) (by assumption)))).symm
  refine gS<|hK k35<|sG (olB 0 ti_23 rfl rfl<|oln (n:=((nth cols.l t).l).length) sl_23 (fun w h=>((h.at 6 rfl).nth t (show t<cols.l.length from (by omega)))) rfl<|oM 1 rfl<|.nl)<|gB<|?_
  have hrn:=range_no (R:=regs.toNat) (show (nth cols.l t).l.length=regs.toNat by omega) (by assumption)
  obtain ⟨hc1,hc2⟩:=rowsV (hcv t (by omega))
  have hov:=okV_of hok t (by omega)
  intro a48 w48 h48
  refine x_loop (fun m a w=>∃(r:Nat),(r≤regs.toNat)∧(∀j,j<r→rowB (nth code.l t).l (nth cols.l t).l (f t) regs.toNat j=true)∧St 60 (fun _=>False) W a w [(2, .pointer (some ⟨b12,0,none⟩)),(5,s14.v),(7, .int .i64 ((t:Nat):Int)),(8, .pointer (some ⟨b33,0,none⟩)),(22,cols.v),(23, .int .i64 ((cols.l.length:Nat):Int)),(24, .int .i64 ((t:Nat):Int)),(38,(nth cols.l t).v),(39, .int .i64 ((((nth cols.l t).l).length:Nat):Int)),(40, .int .i64 ((r:Nat):Int))] [.blk b33 23 [(nth cols.l t).v], .blk b15 30 [.int .i64 0, .int .i64 0, .int .i64 0], .deep 26 s14, .blk b12 25 [code.v,words.v, .int .i64 locks, .int .i64 regs], .at_ code, .at_ words, .at_ cols]∧m=regs.toNat-r) ⟨_,0,(by omega),(fun j hj=>absurd hj (by omega)),h48.nf ⟨rfl,rfl,rfl,rfl,rfl,rfl,rfl,rfl,rfl,rfl,trivial⟩,rfl⟩ ?_
  clear h48
  rintro m47 a47 w47 ⟨r,hr,hrow,h47,hm47⟩
  refine gG h47<|sG (oltN _ _ rfl<|.nl)<|gK fun _ k50=>gcd rfl (fun hb51 hp51=> ?_) fun hb51 hp51=> ?_;clear h47
  ·skip
   refine gS<|hK k50<|gK fun _ k52=>gB<|sK fun _ k53=>gRn (oM 1 rfl<|oxN sl_23 ti_3 (fun w h=>((h.at 6 rfl).nth t (show t<cols.l.length from (by omega)))) _ om9 rfl<|olE (.int .i64 (nth ((nth cols.l t).l) r)) ti_3 (fun w h=>((h.at 6 rfl).nth t (show t<cols.l.length from (by omega)))) om9 rfl<|.nl)<|gal ti_3 rfl fun b54=>gRn (oM 1 rfl<|.nl)<|gst 0 ti_3 rfl rfl rfl<|nK k53<|?_
   have heq:(nth (nth s14.l t).l r).l=listB ((List.range regs.toNat).map fun b=>clTo (nth code.l t).l (f t) (nth code.l t).l.length r b):=by rw [hc2 r (by omega)];exact row_clash hov (by omega) (hF t (by omega)) r
   have hin:∀i,i<(nth (nth s14.l t).l r).l.length→0≤nth (nth (nth s14.l t).l r).l i∧nth (nth (nth s14.l t).l r).l i<((nth cols.l t).l.length:Int):=by rw [heq];intro i hi;have h9:=listB_in hi;omega
   refine sK fun _ k56=>gRn (olB 0 ti_3 rfl rfl<|ogeI _ _ rfl<|oM 1 rfl<|.nl)<|?_
   rcases dsp (0≤nth ((nth cols.l t).l) r) with ⟨hb57,hp57⟩|⟨hb57,hp57⟩
   ·skip
    refine gNl (aD 3 rfl) fun hl58=>gNl (fun w h=>((h.deep 3 rfl).nth t (show t<s14.l.length from (by omega)))) fun (hl59:((nth s14.l t).l).length≤140737488355328)=>gRn (oG hb57 (r_move rfl rfl) rfl<|oG hb57 (r_move rfl rfl) rfl<|oG hb57 (r_ixN (s:=s14) (q:=t) sl_58 ti_26 rfl rfl rfl (fun w h=>(h.deep 3 rfl)) (show t<s14.l.length from om9)) rfl<|oG hb57 (r_lde (s:=s14) (i:=t) (v:=(nth s14.l t).v) ti_26 rfl rfl rfl (fun w h=>(h.deep 3 rfl)) (show t<s14.l.length from om9) (Nat.le_of_ble_eq_true rfl) rfl) rfl<|oG hb57 (r_move rfl rfl) rfl<|oG hb57 (r_ixN (s:=nth s14.l t) (q:=r) sl_26 ti_23 rfl rfl rfl (fun w h=>((h.deep 3 rfl).nth t (show t<s14.l.length from om9))) (show r<((nth s14.l t).l).length from om9)) rfl<|oG hb57 (r_lde (s:=nth s14.l t) (i:=r) (v:=(nth ((nth s14.l t).l) r).v) ti_23 rfl rfl rfl (fun w h=>((h.deep 3 rfl).nth t (show t<s14.l.length from om9))) (show r<((nth s14.l t).l).length from om9) (Nat.le_of_ble_eq_true rfl) rfl) rfl<|oG hb57 (r_makeFunc rfl rfl rfl) rfl<|.nl)<|fun a60 w60 h60=>wl_ex (x_call h60 bd_57 rfl rfl rfl rfl rfl (containsP_c (nth ((nth s14.l t).l) r) 59 [] [.pointer (some ⟨b33,0,none⟩), .pointer (some ⟨b54,0,none⟩)] (Asn.ro [.blk b33 23 [(nth cols.l t).v], .blk b54 3 [.int .i64 (nth ((nth cols.l t).l) r)], .at_ (nth cols.l t)]) (fun q=>decide (nth ((nth cols.l t).l) q.toNat=nth ((nth cols.l t).l) r)) _ (((h60.sh.deep 3 rfl).nth t (show t<s14.l.length from (by omega))).nth r (show r<((nth s14.l t).l).length from (by omega))) bd_59 (fun _ h=>h) (roI (h60.sh.ok _ (List.mem_of_getElem? (i:=1) rfl)) (h60.sh.ok _ (List.mem_of_getElem? (i:=0) rfl)) ((h60.sh.at 7 rfl).nth t (show t<cols.l.length from (by omega)))) (fun w i hw hi=>is2_c _ b33 b54 (nth cols.l t) (nth ((nth cols.l t).l) r) w (roE hw).1 (roE hw).2.1 (roE hw).2.2 (hin i hi)))) (wanted_yes h60.fr rfl rfl rfl rfl hb57) ?_
    rintro a61 w61 ⟨_,⟨rfl,hs61⟩,hf61⟩
    have h61:St 60 (fun _=>False) W a61 w61 _ _:=⟨hf61,h60.sh.call0 hs61⟩
    clear hf61 hs61
    clear h60
    refine gG h61<|gRn (opT hb57 rfl<|.nl)<|nK k56<|?_;clear h61
    refine gCb rfl (fun hb62=> ?_) fun hb62=> ?_
    ·skip
     refine sG (oM 1 rfl<|.nl)<|gF [4] rfl<|gR<|uB<|uT<|uT<|uB<|uB<|uT<|uT<|uB<|uT<|fun a64 w64 h64=>x_ret1 (fn:=Try.f28) (t:=4) rfl h64 rfl<|⟨?_,(h64.sh.sel [] rfl)⟩
     congr 1
     first|exact (colsB_t (by omega) fun j hj=>hall j (by omega)).symm|exact (colsB_f1 (by omega)).symm|exact (colsB_f2 (t:=t) (by omega) (thB_f1 (by omega))).symm|exact (colsB_f2 (t:=t) (by omega) (range_yes (by assumption))).symm|exact (colsB_f2 (t:=t) (by omega) (thB_f2 (r:=r) (by omega) (cells_yes heq (by assumption) (by assumption)))).symm
    refine gS<|hK k52<|gL<|gRn (oadN _ 1 om9 rfl<|oM 1 rfl<|.nl)<|nN<|fun a65 w65 h65=>x_again ⟨_, ?_,r+1, ?_, ?_,h65.nrm ⟨rfl,rfl,rfl,rfl,rfl,rfl,rfl,rfl,rfl,rfl,trivial⟩ [1,2,3,4,5,6,7] rfl,rfl⟩
    · rw [hm47];first|omega|(simp only [lens9];omega)
    · omega
    · exact all_step hrow (rowB_t (hrn r (by omega)) (cells_no heq (by first|exact .inl (by assumption)|exact .inr (by assumption))))
   refine gRn (oKs 9 hb57 rfl rfl<|opF hb57 rfl<|.nl)<|nK k56<|gcF rfl rfl<|gS<|hK k52<|gL<|gRn (oadN _ 1 om9 rfl<|oM 1 rfl<|.nl)<|nN<|fun a66 w66 h66=>x_again ⟨_, ?_,r+1, ?_, ?_,h66.nrm ⟨rfl,rfl,rfl,rfl,rfl,rfl,rfl,rfl,rfl,rfl,trivial⟩ [1,2,3,4,5,6,7] rfl,rfl⟩
   · rw [hm47];first|omega|(simp only [lens9];omega)
   · omega
   · exact all_step hrow (rowB_t (hrn r (by omega)) (cells_no heq (by first|exact .inl (by assumption)|exact .inr (by assumption))))
  refine gX<|hK k31<|gL<|gRn (oadN _ 1 om9 rfl<|oM 1 rfl<|.nl)<|nN<|fun a67 w67 h67=>x_again ⟨_, ?_,t+1, ?_, ?_,h67.nrm ⟨rfl,rfl,rfl,rfl,rfl,trivial⟩ [1,2,3,4,5,6] rfl,rfl⟩
  · rw [hm26];first|omega|(simp only [lens9];omega)
  · omega
  · exact all_step hall (thB_t (by omega) fun q hq=>hrow q (by omega))
 refine gX<|hK k24<|sG (oM 1 rfl<|.nl)<|gR<|fun a69 w69 h69=>x_ret1 (fn:=Try.f28) (t:=4) rfl h69 rfl<|⟨?_,(h69.sh.sel [] rfl)⟩
 congr 1
 first|exact (colsB_t (by omega) fun j hj=>hall j (by omega)).symm|exact (colsB_f1 (by omega)).symm|exact (colsB_f2 (t:=t) (by omega) (thB_f1 (by omega))).symm|exact (colsB_f2 (t:=t) (by omega) (range_yes (by assumption))).symm|exact (colsB_f2 (t:=t) (by omega) (thB_f2 (r:=r) (by omega) (cells_yes heq (by assumption) (by assumption)))).symm
structure ColI (c:List Ins)(f:Nat→Nat→Bool)(R:Nat)(cl:List Int)(dn:Nat→Prop):Prop where
 len:cl.length=R
 rng:∀s,s<R→-2≤nth cl s∧nth cl s<6
 dn:∀s,s<R→dn s→-1≤nth cl s
 ok:∀r s,r<R→s<R→0≤nth cl r→clTo c f c.length r s=true→nth cl s≠nth cl r
section
variable {c:List Ins}{f:Nat→Nat→Bool}{R r0:Nat}{cl:List Int}{dn dn' :Nat→Prop}{x:Int}
theorem nth_setC (l:List Int)(i k:Nat)(v:Int)(hi:i<l.length):nth (l.set i v) k=if k=i then v else nth l k:=by
 simp only [nth,List.getD,List.getElem?_set]
 by_cases h:k=i
 ·subst h;simp [hi]
 ·rw [if_neg (fun e=>h e.symm),if_neg h]
theorem ColI.start :ColI c f R (List.replicate R (-2)) fun _=>False:=by
 have e:∀s,s<R→nth (List.replicate R (-2:Int)) s= -2:=fun s hs=>by simp [nth,List.getD,List.getElem?_replicate,hs]
 refine ⟨by simp,fun s hs=>by rw [e s hs];omega,fun s hs h=>h.elim,fun r s hr hs h=> ?_⟩
 rw [e r hr] at h;omega
theorem ColI.iff (h:ColI c f R cl dn)(h2:∀s,s<R→dn' s→dn s):ColI c f R cl dn' :=⟨h.len,h.rng,fun s hs h3=>h.dn s hs (h2 s hs h3),h.ok⟩
theorem ColI.put (h:ColI c f R cl dn)(h0:r0<R)(hx: -1≤x∧x<6)(hn:0≤x→∀s,s<R→clTo c f c.length r0 s=true→nth cl s≠x):ColI c f R (cl.set r0 x) fun s=>dn s∨s=r0:=by
 have hl:=h.len
 have e:∀s,nth (cl.set r0 x) s=if s=r0 then x else nth cl s:=fun s=>nth_setC _ _ _ _ (by omega)
 refine ⟨by rw [List.length_set];exact hl,fun s hs=> ?_,fun s hs h1=> ?_,fun r s hr hs h1 h2=> ?_⟩
 ·rw [e];split;omega;exact h.rng s hs
 ·rw [e];split;omega;rename_i h3;exact h.dn s hs (h1.resolve_right h3)
 ·rw [e] at h1⊢
  rw [e]
  by_cases e1:r=r0
  ·subst e1
   rw [if_pos rfl] at h1⊢
   by_cases e2:s=r
   ·subst e2;rw [clTo_self] at h2;cases h2
   ·rw [if_neg e2];exact hn h1 s hs h2
  ·rw [if_neg e1] at h1⊢
   by_cases e2:s=r0
   ·subst e2
    rw [if_pos rfl]
    intro e3
    rw [clTo_symm] at h2
    exact hn (by omega) r hr h2 e3.symm
   ·rw [if_neg e2];exact h.ok r s hr hs h1 h2
theorem ColI.end_ (h:ColI c f R cl dn)(hd:∀s,s<R→dn s):thB c cl f R=true:=by
 refine thB_t h.len fun r hr=>rowB_t ⟨h.dn r hr (hd r hr),(h.rng r hr).2⟩ fun s hs=> ?_
 by_cases h1:0≤nth cl r
 ·cases h2:clTo c f c.length r s with
  |false=>exact cellB_f (.inr (.inl h2))
  |true=>exact cellB_f (.inr (.inr (h.ok r s hr hs h1 h2)))
 ·exact cellB_f (.inl h1)
theorem nth_setD (l:List Bool)(i k:Nat)(v:Bool)(hi:i<l.length):nth (l.set i v) k=if k=i then v else nth l k:=by
 simp only [nth,List.getD,List.getElem?_set]
 by_cases h:k=i
 ·subst h;simp [hi]
 ·rw [if_neg (fun e=>h e.symm),if_neg h]
structure FreI (cl row:List Int)(q:Nat)(fr:List Bool):Prop where
 len:fr.length=6
 v:∀k,k<6→(nth fr k=true↔∃i,i<q∧nth cl (nth row i).toNat=(k:Int))
variable {row:List Int}{q:Nat}{fr:List Bool}
theorem FreI.start :FreI cl row 0 (List.replicate 6 false):=by
 refine ⟨rfl,fun k hk=>⟨fun h=> ?_,fun ⟨i,hi,_⟩=>absurd hi (Nat.not_lt_zero _)⟩⟩
 have:nth (List.replicate 6 false) k=false:=by unfold nth List.getD;rw [List.getElem?_replicate,if_pos hk];rfl
 rw [this] at h;cases h
theorem FreI.yes (h:FreI cl row q fr)(h0:0≤nth cl (nth row q).toNat)(h6:nth cl (nth row q).toNat<6):FreI cl row (q+1) (fr.set (nth cl (nth row q).toNat).toNat true):=by
 have hl:=h.len
 refine ⟨by rw [List.length_set];exact hl,fun k hk=> ?_⟩
 have e:nth (fr.set (nth cl (nth row q).toNat).toNat true) k=if k=(nth cl (nth row q).toNat).toNat then true else nth fr k:=nth_setD _ _ _ _ (by omega)
 rw [e]
 by_cases e1:k=(nth cl (nth row q).toNat).toNat
 ·rw [if_pos e1]
  exact ⟨fun _=>⟨q,by omega,by omega⟩,fun _=>rfl⟩
 ·rw [if_neg e1,h.v k hk]
  constructor
  ·rintro ⟨i,h1,h2⟩;exact ⟨i,by omega,h2⟩
  ·rintro ⟨i,h1,h2⟩
   refine ⟨i,Nat.lt_of_le_of_ne (by omega) fun h3=>e1 ?_,h2⟩
   rw [h3] at h2;omega
theorem FreI.no (h:FreI cl row q fr)(h0:¬0≤nth cl (nth row q).toNat):FreI cl row (q+1) fr:=by
 refine ⟨h.len,fun k hk=>(h.v k hk).trans ⟨?_, ?_⟩⟩
 ·rintro ⟨i,h1,h2⟩;exact ⟨i,by omega,h2⟩
 ·rintro ⟨i,h1,h2⟩
  refine ⟨i,Nat.lt_of_le_of_ne (by omega) fun h3=>h0 ?_,h2⟩
  rw [h3] at h2;omega
theorem FreI.end_ (h:FreI cl row q fr)(hq:¬q<row.length)(hq2:q≤row.length)(hr:row=listB ((List.range R).map fun b=>clTo c f c.length r0 b))(hx:x<6)(hf:0≤x→nth fr x.toNat=false):0≤x→∀s,s<R→clTo c f c.length r0 s=true→nth cl s≠x:=by
 intro h0 s hs h2 e
 have hm:(s:Int)∈row:=by rw [hr];exact listB_mem.2 ⟨s,rfl,hs,h2⟩
 obtain ⟨i,hi,e2⟩:=List.getElem_of_mem hm
 have h3:=(h.v x.toNat (by omega)).2 ⟨i,by omega,by rw [nth_lt _ _ hi,e2,Int.toNat_natCast,e];omega⟩
 rw [hf h0] at h3;cases h3
end
theorem perm_all {R:Nat}{k od:List Int}(hp:k.Perm od)(hl:od.length=R)(ho:∀i,i<R→nth od i=(i:Int)):(∀x∈k,0≤x∧x<(R:Int))∧∀s,s<R→∃q,q<R∧nth k q=(s:Int):=by
 have h1:∀x,x∈od↔0≤x∧x<(R:Int):=fun x=>by
  constructor
  ·intro hx
   obtain ⟨i,hi,e⟩:=List.getElem_of_mem hx
   have:=ho i (by omega)
   rw [nth_lt _ _ hi,e] at this
   omega
  ·rintro ⟨h0,h2⟩
   have:=ho x.toNat (by omega)
   rw [show ((x.toNat:Nat):Int)=x by omega] at this
   rw [←this]
   exact nth_mem _ _ (by omega)
 refine ⟨fun x hx=>(h1 x).1 (hp.mem_iff.1 hx),fun s hs=> ?_⟩
 have h3:(s:Int)∈k:=hp.mem_iff.2 ((h1 _).2 (by omega))
 obtain ⟨i,hi,e⟩:=List.getElem_of_mem h3
 exact ⟨i,by have:=hp.length_eq;omega,by rw [nth_lt _ _ hi,e]⟩
section
variable {P:Program}{o:Oper}{N:Nat}{K:Nat→Prop}{W w:World}{a:Act}{F:List (Nat×Value)}{L:List Asn}
end
section
variable {P:Program}{o:Oper}{N:Nat}{K:Nat→Prop}{W w:World}{a:Act}{F:List (Nat×Value)}{L:List Asn}
theorem encL_ints (l:List Int):encL l=l.map (Value.int .i64):=by
 induction l with
 |nil=>rfl
 |cons x l ih=>rw [List.map_cons,←ih];rfl
theorem x_copy {d:Nat}{T T2 e:TypeId}{gg:Bool}{by_ r n k:Nat}{z:List Value}{x y:Operand}{s m:Ls Int}{E:TypeId}{vd:Value}
  (h:St N K W a w F L) (hT:slI P T=some e) (he:tyI P e=some (gg,1,by_,z)) (ho:o.op= .call ⟨.builtin .copy, #[x,y], #[T,T2]⟩) (hx:ev F x=some vd) (hvd:(vd=s.v∧n=0)∨vd=vdrop s.v 1 n) (hy:ev F y=some m.v)
  (hr:L[r]? =some (.own E s)) (hat:m.At w) (hn:n≤s.l.length) (hk:k=min m.l.length (s.l.length-n)) (hd:o.dst=some d) (hdN:Nat.blt d N=true):
  Ex P o a w (fun a' w' =>St N K W a' w' ((d, .int .i64 ((k:Nat):Int))::F) (L.set r (.own E ⟨s.v,s.l.take n++m.l.take k++s.l.drop (n+k)⟩))):=by
 obtain ⟨ti,ed,zv,hi,hed,_,hs1,_⟩:=tyI_parts he
 have hu:=slI_parts hT
 have hsz:(P.info? e).map (·.size)=some 1:=by rw [hi];simp [hs1]
 have hok:=h.sh.ok _ (List.mem_of_getElem? hr)
 obtain ⟨hown,hlen,hinn⟩:=hok
 obtain ⟨mA,mcap,hmv,hmA⟩:=hat
 have hform:∃A c,vd= .slice A (s.l.length-n) c∧(0<k→A=some ⟨vblk s.v,n,none⟩):=by
  rcases hown.2 with ⟨hv,h0⟩|⟨g,cap,cur,hv,hb0,hg,hn2,hm2,hcs,htk⟩
  ·have hn0:n=0:=by omega
   subst hn0
   refine ⟨none,0, ?_,fun hk0=>by omega⟩
   rcases hvd with ⟨e1,_⟩|e1
   ·rw [e1,hv,h0]
   ·rw [e1,hv,h0];rfl
  ·rcases hvd with ⟨e1,e2⟩|e1
   ·subst e2
    exact ⟨some ⟨g,0,none⟩,cap,by rw [e1,hv];rfl,fun _=>by rw [hv];rfl⟩
   ·refine ⟨_,cap-n,by rw [e1,hv];rfl,fun hk0=> ?_⟩
    have:¬cap=n:=by omega
    rw [if_neg this,hv]
    simp [Addr.add_lit,vblk]
 obtain ⟨A,c,hvd',hA⟩:=hform
 by_cases h0:k=0
 ·have hrun:=run_copy_none (P:=P) w T T2 o.type e A mA (s.l.length-n) c m.l.length mcap hu hsz (by show min _ _=0;omega)
  refine Ex.of_run (v:= .int .i64 ((k:Nat):Int)) (w' :=w) ?_ ?_
  ·unfold execOp
   simp only [ho,resolve,invoke,builtin,Sem.run_bind,Sem.run_pure,Result.andThen_ok,List.map_toArray,List.map_cons,List.map_nil,h.fr.ev hx,h.fr.ev hy,hvd',hmv,hrun,h0]
   rfl
  ·rw [hd]
   have hh:St N K W (a.put (some d) (.int .i64 ((k:Nat):Int))) w ((d, .int .i64 ((k:Nat):Int))::F) L:=⟨h.fr.put d (by simpa [Nat.blt_eq] using hdN) _,h.sh⟩
   obtain ⟨sv,sl⟩:=s
   have:=hh.relist (i:=r) (l' :=sl.take n++m.l.take k++sl.drop (n+k)) hr (by rw [h0];simp)
   exact this
 ·have hk0:0<k:=by omega
  rcases hown.2 with ⟨hv,h00⟩|⟨g,cap,cur,hv,hb0,hg,hn2,hm2,hcs,htk⟩
  ·omega
  have hsz1:Enc.sz Int=1:=rfl
  rw [hsz1,Nat.mul_one] at hcs htk
  have hvb:vblk s.v=g:=by rw [hv];rfl
  obtain ⟨ad,hmA2,hsp⟩:=hmA.some (by show 0<m.l.length;omega)
  simp only at hmA2
  subst hmA2
  have hAe:=hA hk0
  rw [hvb] at hAe
  subst hAe
  have hcl:((m.l.take k).map (Value.int .i64)).length=k:=by rw [List.length_map,List.length_take];omega
  have hB:Blk w g E cur:=hg
  have hlc:s.l.length≤cur.size:=by rw [hcs];exact hn2
  have hrun:=run_copy_row (P:=P) w T T2 o.type e g n (s.l.length-n) c ad m.l.length mcap cur E ((m.l.take k).map (Value.int .i64)) hu hsz hg (by rw [hcl,hk];try rfl) (fun j v hj=>by
    have hjk:j<k:=by have:=(List.getElem?_eq_some_iff.1 hj).1;rw [hcl] at this;exact this
    have hc:=hmA.cell j 0 (by show j<m.l.length;omega) (by decide)
    obtain ⟨blk,off,sp⟩:=ad
    simp only at hsp
    subst hsp
    rw [Addr.add_lit]
    have e1:(⟨some ⟨blk,off,none⟩,mcap,m.l⟩:Sl Int).adr 1 j 0=⟨blk,off+j,none⟩:=by simp [Sl.adr]
    have e2:(Enc.cell (nth m.l j) 0:Value)=v:=by
     rw [List.getElem?_map,List.getElem?_take,if_pos hjk,getElem?_nth _ _ (by omega)] at hj
     show Value.int .i64 (nth m.l j)=v
     simpa using hj
    rw [←e1,←e2]
    exact hc) (by rw [hcl];omega) (fun v hv9=>by
    obtain ⟨q,_,rfl⟩:=List.mem_map.1 hv9;rfl)
  rw [hcl] at hrun
  refine Ex.of_run (v:= .int .i64 ((k:Nat):Int)) (w' :=w.setRow g (cur.toList.take n++(m.l.take k).map (Value.int .i64)++cur.toList.drop (n+k)).toArray) ?_ ?_
  ·unfold execOp
   simp only [ho,resolve,invoke,builtin,Sem.run_bind,Sem.run_pure,Result.andThen_ok,List.map_toArray,List.map_cons,List.map_nil,h.fr.ev hx,h.fr.ev hy,hvd',hmv,hrun]
   rfl
  ·rw [hd]
   have hfp:(Asn.own E s).fp g:=by show s.v.ownBlock=some g;rw [hv];rfl
   have hnl:(s.l.take n++m.l.take k++s.l.drop (n+k)).length=s.l.length:=by
    simp only [List.length_append,List.length_take,List.length_drop];omega
   refine ⟨h.fr.put d (by simpa [Nat.blt_eq] using hdN) _,h.sh.put hr ⟨rfl,rfl,rfl,by simp [World.setRow],fun b hb hne=>setRow_other w g b _ (fun e=>hne (by rw [e];exact hfp))⟩ ⟨⟨?_, .inr ⟨g,cap,_, ?_,hb0,setRow_heap w g _ _ E (0,0) hB, ?_, ?_, ?_, ?_⟩⟩, ?_,fun q hq=>trivial⟩ (fun b hb=> .inl hb) (fun b hb=> ?_) (fun b hb hb' => ?_)⟩
   ·rw [length_encL]
   ·show s.v=_
    rw [hv,hnl]
   ·show (s.l.take n++m.l.take k++s.l.drop (n+k)).length≤cap
    rw [hnl];exact hn2
   ·exact hm2
   ·have hcl2:cur.toList.length=cap:=by simpa using hcs
    simp only [List.size_toArray,List.length_append,List.length_take,List.length_drop,hcl,hcl2,hsz1]
    try rw [show ((m.l.take k).map (Value.int .i64)).length=k from hcl]
    omega
   ·show List.take ((s.l.take n++m.l.take k++s.l.drop (n+k)).length*Enc.sz Int) _=_
    rw [hnl,hsz1,Nat.mul_one,encL_append,encL_append,encL_take,encL_drop,encL_ints (m.l.take k),hsz1,Nat.mul_one,Nat.mul_one,←htk]
    have hcl2:cur.toList.length=cap:=by simpa using hcs
    have hks:n+k≤s.l.length:=by omega
    apply List.ext_getElem?
    intro q
    simp only [List.toList_toArray,List.getElem?_take,List.getElem?_append,List.getElem?_drop,List.length_take,List.length_append,hcl,List.length_drop,hcl2]
    have e1:min n cap=n:=by omega
    have e2:min n (min s.l.length cap)=n:=by omega
    simp only [e1,e2]
    repeat' split
    all_goals first|rfl|(exfalso;omega)|(congr 1;omega)
   ·show (s.l.take n++m.l.take k++s.l.drop (n+k)).length≤_
    rw [hnl];exact hlen
   ·obtain ⟨q,_,hb⟩:=hb;exact hb.elim
   ·obtain ⟨q,_,hb'⟩:=hb';exact hb'.elim
end
structure ThQ where
 pc:Int
 rv:Value
instance : Inhabited ThQ:=⟨⟨0, .slice none 0 0⟩⟩
def ThQ.cell (x:ThQ):Nat→Value
 |0=> .int .i64 x.pc
 |_=>x.rv
def ThQ.val (x:ThQ):Value:= .agg #[.int .i64 x.pc,x.rv]
instance : Enc ThQ where
 sz:=2
 cell:=ThQ.cell
 whole:=ThQ.val
 agg:=true
 inner _ _:=True
 on _ _:=False
 one h:=by cases h
 many _ _:=rfl
 keep _ _ _ h _:=h
 lt _ _ _ _ h:=h.elim
instance : Flat ThQ:=⟨fun _ _ h=>h,fun _ _=>trivial⟩
structure ThR where
 pc:Int
 regs:Ls Int
instance : Inhabited ThR:=⟨⟨0,default⟩⟩
def ThR.th (x:ThR):Th:=⟨x.pc,x.regs.l, []⟩
section
variable {N:Nat}{K:Nat→Prop}{W w:World}{a:Act}{F:List (Nat×Value)}{L:List Asn}{INT:TypeId}
end
def InvM (P:Program)(T:TypeId)(u:Addr)(name:String)(vs:List Value)(w:World)(R:Value→World→Prop):Prop:=
 ∃f r,(method (P.types.size+Made.depth) T (.pointer (some u)) name).run P w= .ok (f, .pointer (some r)) w∧bodyI P f=true∧Rets P f (.pointer (some r)::vs) w R
section
variable {P:Program}{o:Oper}{N:Nat}{K:Nat→Prop}{W w:World}{a:Act}{F:List (Nat×Value)}{L:List Asn}
end
structure MemS where
 σ:Type
 qs:σ→List (List Wt)
 X:σ→Asn
 T:TypeId
 u:Addr
 g0:Nat
 m:Int
structure MemRd (PL:TypeId)(M:MemS)(w:World)(words owner:Ls Int)(q:M.σ):Prop where
 blk:Blk w M.g0 PL #[words.v,owner.v]
 wa:words.At w
 oa:owner.At w
 x:(M.X q).ok w
def memA (PL INT:TypeId)(M:MemS)(words owner:Ls Int)(q:M.σ):List Asn:= [.blk M.g0 PL [words.v,owner.v], .own INT words, .own INT owner,M.X q]
def StoreP (M:MemS)(t:Nat)(x:Wt)(words owner:Ls Int)(q:M.σ)(words' owner' :Ls Int)(q' :M.σ):Prop:=
 ∃wt,M.qs q' =(M.qs q).set t wt∧∀pc regs prints fell,(⟨pc,regs,wt,words'.l,owner'.l,prints,fell⟩:TS)=TS.store M.m ⟨pc,regs,nth (M.qs q) t,words.l,owner.l,prints,fell⟩ x
def FlushP (M:MemS)(t k:Nat)(words owner:Ls Int)(q:M.σ)(words' owner' :Ls Int)(q' :M.σ):Prop:=
 ∃wt,M.qs q' =(M.qs q).set t wt∧∀pc regs prints fell,(⟨pc,regs,wt,words'.l,owner'.l,prints,fell⟩:TS)= { TS.done ⟨pc,regs,nth (M.qs q) t,words.l,owner.l,prints,fell⟩ (nth (nth (M.qs q) t) k) with wait:=(nth (M.qs q) t).eraseIdx k }
def SwapP (M:MemS)(wd what:Int)(words owner:Ls Int)(q:M.σ)(words' owner' :Ls Int)(q' :M.σ):Prop:=
 M.qs q' =M.qs q∧words'.l=words.l.set wd.toNat what∧owner'.l=owner.l
def WtOk (x:Wt)(words owner:Ls Int):Prop:=if x.lock=true then 0≤x.wh∧x.wh<owner.l.length else 0≤x.wh∧x.wh<words.l.length
structure MemI (P:Program)(PL INT:TypeId)(M:MemS):Prop where
 load:∀(w:World) (words owner:Ls Int) (q:M.σ) (t:Nat) (wd:Int),MemRd PL M w words owner q→t<(M.qs q).length→(nth (M.qs q) t).length≤3→0≤wd∧wd<words.l.length→
  InvM P M.T M.u "Load" [.int .i64 ((t:Nat):Int), .int .i64 wd] w (fun v w' =>v= .int .i64 (findsL (nth (M.qs q) t) words.l wd)∧Sh0 w w' [])
 waits:∀(w:World) (words owner:Ls Int) (q:M.σ) (t:Nat),MemRd PL M w words owner q→t<(M.qs q).length→(nth (M.qs q) t).length≤3→
  InvM P M.T M.u "Waits" [.int .i64 ((t:Nat):Int)] w (fun v w' =>v= .int .i64 (((nth (M.qs q) t).length:Nat):Int)∧Sh0 w w' [])
 freeing:∀(w:World) (words owner:Ls Int) (q:M.σ) (t:Nat) (a:Int),MemRd PL M w words owner q→t<(M.qs q).length→(nth (M.qs q) t).length≤3→(∀x∈nth (M.qs q) t,x.lock=true→x.what=0)→
  InvM P M.T M.u "Freeing" [.int .i64 ((t:Nat):Int), .int .i64 a] w (fun v w' =>v= .bool ((nth (M.qs q) t).any fun x=>x.lock&&decide (x.wh=a))∧Sh0 w w' [])
 ready:∀(w:World) (words owner:Ls Int) (q:M.σ) (t:Nat),MemRd PL M w words owner q→t<(M.qs q).length→(nth (M.qs q) t).length≤3→
  InvM P M.T M.u "Ready" [.int .i64 ((t:Nat):Int)] w (fun v w' =>∃s:Ls Int,v=s.v∧s.l=((List.range (nth (M.qs q) t).length).filter (mayK M.m (nth (M.qs q) t))).map (fun k=>((k:Nat):Int))∧Sh0 w w' [.own INT s])
 base:∀(w:World) (words owner:Ls Int) (q:M.σ),MemRd PL M w words owner q→InvM P M.T M.u "Base" [] w (fun v w' =>v= .pointer (some ⟨M.g0,0,none⟩)∧Sh0 w w' [])
 store:∀(K:Nat→Prop) (W:World) (words owner:Ls Int) (q:M.σ) (t:Nat) (wd what:Int),Sh K W W (memA PL INT M words owner q)→t<(M.qs q).length→(nth (M.qs q) t).length<3→0≤wd∧wd<words.l.length→
  InvM P M.T M.u "Store" [.int .i64 ((t:Nat):Int), .int .i64 wd, .int .i64 what] W (fun v w' =>v= .tuple #[]∧∃(words' owner' :Ls Int) (q' :M.σ),StoreP M t ⟨false,wd,what⟩ words owner q words' owner' q' ∧Sh K W w' (memA PL INT M words' owner' q'))
 free:∀(K:Nat→Prop) (W:World) (words owner:Ls Int) (q:M.σ) (t:Nat) (a:Int),Sh K W W (memA PL INT M words owner q)→t<(M.qs q).length→(nth (M.qs q) t).length<3→0≤a∧a<owner.l.length→
  InvM P M.T M.u "Free" [.int .i64 ((t:Nat):Int), .int .i64 a] W (fun v w' =>v= .tuple #[]∧∃(words' owner' :Ls Int) (q' :M.σ),StoreP M t ⟨true,a,0⟩ words owner q words' owner' q' ∧Sh K W w' (memA PL INT M words' owner' q'))
 swap:∀(K:Nat→Prop) (W:World) (words owner:Ls Int) (q:M.σ) (t:Nat) (wd what:Int),Sh K W W (memA PL INT M words owner q)→0≤wd∧wd<words.l.length→
  InvM P M.T M.u "Swap" [.int .i64 ((t:Nat):Int), .int .i64 wd, .int .i64 what] W (fun v w' =>v= .tuple #[]∧∃(words' owner' :Ls Int) (q' :M.σ),SwapP M wd what words owner q words' owner' q' ∧Sh K W w' (memA PL INT M words' owner' q'))
 flush:∀(K:Nat→Prop) (W:World) (words owner:Ls Int) (q:M.σ) (t k:Nat),Sh K W W (memA PL INT M words owner q)→t<(M.qs q).length→(nth (M.qs q) t).length≤3→k<(nth (M.qs q) t).length→(∀j,j<(nth (M.qs q) t).length→WtOk (nth (nth (M.qs q) t) j) words owner)→
  InvM P M.T M.u "Flush" [.int .i64 ((t:Nat):Int), .int .i64 ((k:Nat):Int)] W (fun v w' =>v= .tuple #[]∧∃(words' owner' :Ls Int) (q' :M.σ),FlushP M t k words owner q words' owner' q' ∧Sh K W w' (memA PL INT M words' owner' q'))
 xrd:∀q b,¬(M.X q).rd b
section
variable {P:Program}{o:Oper}{N:Nat}{K:Nat→Prop}{W w:World}{a:Act}{F:List (Nat×Value)}{L:List Asn}{TH INT WT:TypeId}{vt:Value}{rows:List ThL}
end
theorem rep_of {c:Nat}{e:Int}{l:List Int}(h1:l.length=c)(h2:∀i,i<c→nth l i=e):l=List.replicate c e:=by
 refine ext_nth _ _ (by simpa using h1) fun i hi=> ?_
 rw [h2 i (by omega),nth_replicate _ _ _ (by omega)]
theorem nth_copy (l m:List Int)(n k i:Nat)(h1:n+k≤l.length)(h2:k≤m.length):nth (l.take n++m.take k++l.drop (n+k)) i=if i<n then nth l i else if i<n+k then nth m (i-n) else nth l i:=by
 have e1:(l.take n).length=n:=by rw [List.length_take];omega
 have e2:(m.take k).length=k:=by rw [List.length_take];omega
 have e3:(l.take n++m.take k).length=n+k:=by rw [List.length_append,e1,e2]
 rw [nth_append,e3]
 by_cases h:i<n+k
 ·rw [if_pos h,nth_append,e1]
  by_cases h3:i<n
  ·rw [if_pos h3,if_pos h3,nth_take0 h3]
  ·rw [if_neg h3,if_neg h3,if_pos h,nth_take0 (by omega)]
 ·rw [if_neg h,if_neg (by omega),if_neg h,nth_drop0,show n+k+(i-(n+k))=i by omega]
theorem mul64_c (x y:Nat)(W:World)(hx:x≤100000)(hy:y≤100000)(hxy:x*y≤100000):
    Rets Try.prog 90 [.int .u64 ((x:Nat):Int), .int .u64 ((y:Nat):Int)] W (fun v w' =>v= .tuple #[.int .u64 ((0:Nat):Int), .int .u64 ((x*y:Nat):Int)]∧Sh0 W w' []):=by
 refine gen Try.func90 Try.ntmps90 (Sh0.start _:Sh (fun _=>False) W W []) rfl fun a10 h10=>gG h10<|sG (oM 2 rfl<|.nl)<|sG (oM 1 rfl<|oV (r_andS (p:=x) rfl rfl rfl (show x<4294967296 from om9)) rfl<|oM 1 rfl<|.nl)<|sG (oM 1 rfl<|oV (r_shrS (p:=x) rfl rfl rfl (show x<4294967296 from om9)) rfl<|oM 1 rfl<|.nl)<|sG (oM 1 rfl<|oV (r_andS (p:=y) rfl rfl rfl (show y<4294967296 from om9)) rfl<|oM 1 rfl<|.nl)<|sG (oM 1 rfl<|oV (r_shrS (p:=y) rfl rfl rfl (show y<4294967296 from om9)) rfl<|oM 1 rfl<|.nl)<|sG (oM 2 rfl<|oV (r_mulS (p:=x) (q:=y) (r:=x*y) rfl rfl rfl rfl (show x*y<18446744073709551616 from om9)) rfl<|oM 1 rfl<|.nl)<|sG (oM 2 rfl<|oV (r_mulS (p:=0) (q:=y) (r:=0) rfl rfl rfl (by simp) (show 0<18446744073709551616 from om9)) rfl<|oM 1 rfl<|oV (r_shrS (p:=x*y) rfl rfl rfl (show x*y<4294967296 from om9)) rfl<|oV (r_addS (p:=0) (q:=0) (r:=0) rfl rfl rfl (by simp) (show 0<18446744073709551616 from om9)) rfl<|oM 1 rfl<|.nl)<|sG (oM 1 rfl<|oV (r_andS (p:=0) rfl rfl rfl (show 0<4294967296 from om9)) rfl<|oM 1 rfl<|.nl)<|gF [0,1,6,7,9,11,12] rfl<|sG (oM 1 rfl<|oV (r_shrS (p:=0) rfl rfl rfl (show 0<4294967296 from om9)) rfl<|oM 1 rfl<|.nl)<|sG (oM 3 rfl<|oV (r_mulS (p:=x) (q:=0) (r:=0) rfl rfl rfl (by simp) (show 0<18446744073709551616 from om9)) rfl<|oV (r_addS (p:=0) (q:=0) (r:=0) rfl rfl rfl (by simp) (show 0<18446744073709551616 from om9)) rfl<|oM 1 rfl<|.nl)<|sG (oM 2 rfl<|oV (r_mulS (p:=0) (q:=0) (r:=0) rfl rfl rfl (by simp) (show 0<18446744073709551616 from om9)) rfl<|oM 1 rfl<|oV (r_addS (p:=0) (q:=0) (r:=0) rfl rfl rfl (by simp) (show 0<18446744073709551616 from om9)) rfl<|oM 1 rfl<|oV (r_shrS (p:=0) rfl rfl rfl (show 0<4294967296 from om9)) rfl<|oV (r_addS (p:=0) (q:=0) (r:=0) rfl rfl rfl (by simp) (show 0<18446744073709551616 from om9)) rfl<|oM 1 rfl<|.nl)<|sG (oM 2 rfl<|oV (r_mulS (p:=x) (q:=y) (r:=x*y) rfl rfl rfl rfl (show x*y<18446744073709551616 from om9)) rfl<|oM 1 rfl<|.nl)<|gF [4,5] rfl<|gR<|fun a23 w23 h23=>x_ret2 (fn:=Try.f90) (t:=4) (u:=5) rfl h23 rfl rfl ?_;clear h10
 exact ⟨rfl,(h23.sh.sel [] rfl)⟩
theorem mul_c (x y:Nat)(W:World)(hx:x≤100000)(hy:y≤100000)(hxy:x*y≤100000):
    Rets Try.prog 65 [.int .u64 ((x:Nat):Int), .int .u64 ((y:Nat):Int)] W (fun v w' =>v= .tuple #[.int .u64 ((0:Nat):Int), .int .u64 ((x*y:Nat):Int)]∧Sh0 W w' []):=by
 refine gen Try.func65 Try.ntmps65 (Sh0.start _:Sh (fun _=>False) W W []) rfl fun a10 h10=>gG h10<|sG (oM 2 rfl<|.nl)<|gK fun _ k12=>gcF rfl rfl<|gS<|hK k12<|sK fun _ k13=>gRn (oM 2 rfl<|.nl)<|gP (fun _ _ h_=>xCl h_ bd_90 rfl (mul64_c x y _ (by omega) (by omega) (by omega))) rfl<|gRn (oM 1 rfl<|oxt rfl<|oxt rfl<|oM 2 rfl<|.nl)<|nK k13<|sG (oM 4 rfl<|.nl)<|gR<|fun a16 w16 h16=>x_ret2 (fn:=Try.f65) (t:=4) (u:=5) rfl h16 rfl rfl ?_;clear h10
 exact ⟨rfl,(h16.sh.sel [] rfl)⟩
theorem repeat_c (x:Ls Int)(c:Nat)(W:World)(hx:x.At W)(hx1:x.l.length=1)(hc:c≤1000):
    Rets Try.prog 30 [x.v, .int .i64 ((c:Nat):Int)] W (fun v w' =>∃s:Ls Int,v=s.v∧Sh0 W w' [.own 3 (⟨s.v,List.replicate c (nth x.l 0)⟩:Ls Int)]):=by
 have hxc:x.l.length*c=c:=by rw [hx1,Nat.one_mul]
 refine gen Try.func30 Try.ntmps30 (Sh0.ext1 hx:Sh (fun _=>False) W W [.at_ x]) rfl fun a10 h10=>gG h10<|sG (oM 1 rfl<|.nl)<|gK fun _ k12=>sG (oM 1 rfl<|oltN _ 0 rfl<|.nl)<|?_;clear h10
 refine gcd rfl (fun hb14 hp14=> ?_) fun hb14 hp14=> ?_
 ·skip
  exfalso
  omega
 refine gS<|hK k12<|sK fun _ k15=>gNl (aA 0 rfl) fun hl16=>gRn (oM 1 rfl<|oln sl_23 (aA 0 rfl) rfl<|oV (r_cvUN Try.underlying3 Try.underlying121 rfl rfl (show x.l.length<18446744073709551616 from om9)) rfl<|oM 1 rfl<|oV (r_cvUN Try.underlying3 Try.underlying121 rfl rfl (show c<18446744073709551616 from om9)) rfl<|.nl)<|gP (fun _ _ h_=>xCl h_ bd_65 rfl (mul_c x.l.length c _ (by omega) (by omega) (by rw [hxc];omega))) rfl<|gRn (oM 1 rfl<|oxt rfl<|oxt rfl<|oM 2 rfl<|.nl)<|nK k15<|fun a19 w19 h19=> ?_
 have h18:=h19.same (d:=6) (v' := .int .u64 ((c:Nat):Int)) rfl (by rw [hx1,Nat.one_mul];rfl)
 clear h19
 refine gG h18<|gK fun _ k20=>sG (oM 1 rfl<|ogtN 0 0 rfl<|oM 1 rfl<|oG (by decide) (r_move rfl rfl) rfl<|oG (by decide) (r_gtrN (p:=c) (q:=9223372036854775807) rfl rfl rfl) rfl<|opF (by decide) rfl<|.nl)<|?_;clear h18
 refine gcd rfl (fun hb22 hp22=> ?_) fun hb22 hp22=> ?_
 ·skip
  exfalso
  omega
 refine gS<|hK k20<|sK fun _ k23=>gRn (oM 1 rfl<|oV (r_cvI Try.underlying121 Try.underlying3 rfl rfl (show c<9223372036854775808 from om9)) rfl<|.nl)<|gE1 (fun _ _ h_=>x_make (n:=c) (0:Int) h_ sl_23 ti_3 rfl rfl rfl rfl rfl (show 8*c≤140737488355328∧c≤140737488355328 from om9) (fun w=>Flat.inner _ _) (fun b=>Flat.on _ _) rfl rfl) rfl fun v24=>gRn (oM 1 rfl<|.nl)<|nK k23<|gF [0,7] rfl<|sK fun _ k25=>gRn (oM 2 rfl<|.nl)<|gE (fun _ _ h_=>x_copy (r:=0) (n:=0) (k:=min x.l.length ((List.replicate c 0).length-0)) (s:=(⟨v24,List.replicate c 0⟩:Ls Int)) (m:=(⟨x.v,x.l⟩:Ls Int)) h_ sl_23 ti_3 rfl rfl (.inl ⟨rfl,rfl⟩) rfl rfl (h_.sh.at 1 rfl) (show 0≤(List.replicate c 0).length from om9) rfl rfl rfl) rfl<|gRn (oM 1 rfl<|.nl)<|nK k25<|gK fun _ k27=>gB<|?_
 have hk0:min x.l.length ((List.replicate c (0:Int)).length-0)=if c=0 then 0 else 1:=by rw [hx1,List.length_replicate];split<;>omega
 intro a29 w29 h29
 refine x_loop (fun m a w=>∃(n:Nat) (ro:List Int),(n≤c)∧(ro.length=c)∧(c=0∨1≤n)∧(∀i,i<n→nth ro i=nth x.l 0)∧St 48 (fun _=>False) W a w [(7,v24),(8, .int .i64 ((n:Nat):Int))] [.own 3 (⟨v24,ro⟩:Ls Int), .at_ x]∧m=c-n) ⟨_,min x.l.length ((List.replicate c 0).length-0),(List.replicate c 0).take 0++x.l.take (min x.l.length ((List.replicate c 0).length-0))++(List.replicate c 0).drop (0+min x.l.length ((List.replicate c 0).length-0)),(by rw [hk0];split<;>omega),(by simp only [List.length_append,List.length_take,List.length_drop,List.length_replicate];omega),(by rw [hk0];split<;>omega),(fun i hi=>by rw [hk0] at hi⊢;rw [nth_copy _ _ _ _ _ (by rw [List.length_replicate];split<;>omega) (by rw [hx1];split<;>omega),if_neg (by omega),if_pos (by omega),show i-0=0 by split at hi<;>omega]),h29.nf ⟨rfl,rfl,trivial⟩,rfl⟩ ?_
 clear h29
 rintro m28 a28 w28 ⟨n,ro,hn,hro,hn1,hall,h28,hm28⟩
 refine gG h28<|gK fun _ k30=>sK fun _ k31=>gNl (aO 0 rfl) fun (hl32:ro.length≤140737488355328)=>gRn (oM 2 rfl<|oln (n:=ro.length) sl_23 (aO 0 rfl) rfl<|oltN _ _ rfl<|.nl)<|nK k31<|?_;clear h28
 refine gcd rfl (fun hb33 hp33=> ?_) fun hb33 hp33=> ?_
 ·skip
  refine gS<|hK k30<|gB<|rT 7 [0] (oM 3 rfl<|oV (r_slL (s:=(⟨v24,ro⟩:Ls Int)) (k:=n) sl_23 ti_3 rfl rfl rfl (fun w h=>(h.own 0 rfl)) (show n≤ro.length from om9)) rfl<|oM 2 rfl<|oV (r_slH (s:=(⟨v24,ro⟩:Ls Int)) (j:=n) sl_23 ti_3 rfl rfl rfl (fun w h=>(h.own 0 rfl)) (show n≤ro.length from om9) (show 0<ro.length from om9)) rfl<|.nl)<|gE (fun _ _ h_=>x_copy (r:=0) (n:=n) (k:=min (ro.take n).length (ro.length-n)) (s:=(⟨v24,ro⟩:Ls Int)) (m:=(⟨(vtake v24 n),(ro.take n)⟩:Ls Int)) h_ sl_23 ti_3 rfl rfl (.inr rfl) rfl rfl (take_at (h_.sh.own 0 rfl) (show n≤ro.length from om9)) (show n≤ro.length from om9) rfl rfl rfl) rfl<|gRn (oadN _ _ (show n+(min (ro.take n).length (ro.length-n))<9223372036854775808 from om9) rfl<|oM 1 rfl<|.nl)<|nN<|fun a35 w35 h35=> ?_
  change∃_m,_m<_∧_
  refine ⟨_, ?_,n+(min (ro.take n).length (ro.length-n)),ro.take n++(ro.take n).take (min (ro.take n).length (ro.length-n))++ro.drop (n+min (ro.take n).length (ro.length-n)), ?_, ?_, ?_, ?_,h35.nf ⟨rfl,rfl,trivial⟩,rfl⟩
  · rw [hm28];rw [List.length_take,hro];omega
  · rw [List.length_take,hro] at*;omega
  · simp only [List.length_append,List.length_take,List.length_drop,hro];omega
  · omega
  · intro i hi;rw [List.length_take,hro] at hi⊢;rw [nth_copy _ _ _ _ _ (by rw [hro];omega) (by rw [List.length_take,hro];omega)];split;(exact hall i (by assumption));(try rw [if_pos (by omega)]);rw [nth_take0 (by omega)];exact hall _ (by omega)
 refine gX<|hK k27<|sG (oM 2 rfl<|.nl)<|gR<|fun a37 w37 h37=>x_ret1 (fn:=Try.f30) (t:=4) rfl h37 rfl ?_
 have he9:ro=List.replicate c (nth x.l 0):=rep_of hro (fun i hi=>hall i (by omega))
 rw [he9] at h37
 exact ⟨⟨v24, []⟩,rfl,(h37.sh.sel [0] rfl)⟩
def arrB (g n:Nat):Value:= .slice (some ⟨g,0,none⟩) n n
section
variable {P:Program}{o:Oper}{N:Nat}{K:Nat→Prop}{W w:World}{a:Act}{F:List (Nat×Value)}{L:List Asn}
theorem r_slBo {T e:TypeId}{n m by_ g:Nat}{gg:Bool}{z:List Value}{x:Operand}(hT:arI P T=some (n,e))(he:tyI P e=some (gg,m,by_,z))(hm:m=1)(ho:o.op= .slice T x none none none)
  (hx:ev F x=some (.pointer (some ⟨g,0,none⟩))):Rn P o N K W F L (arrB g n):=fun a w h=>by
 subst hm
 obtain ⟨ti,d,zv,hi,hd,_,hs,_⟩:=tyI_parts he
 have hu:=arI_parts hT
 have hel:P.elem T=e:=by simp [Program.elem,hu]
 have hal:P.arrayLen T=n:=by simp [Program.arrayLen,hu]
 have hu' :P.underlying T=some (.array (P.arrayLen T) (P.elem T)):=by rw [hel,hal];exact hu
 have e2:=run_sliceAt_array_all (P:=P) w T ⟨g,0,none⟩ hu'
 have hs1:ti.size=1:=by first|exact hs|exact hs.symm
 rw [hel,run_sizeOf hi,Result.andThen_ok,hal,hs1] at e2
 unfold execOp
 simp only [ho,h.fr.ev hx,Option.map_some,Option.map_none,Sem.run_bind,e2,Result.andThen_ok,Sem.run_pure,slicedAt,arrB]
 simp [Addr.add]
theorem arrB_at {g n i:Nat}{E:TypeId}{l:List Bool}(h:Sh K W w L)(hi:L[i]? =some (.blk g E (l.map Value.bool)))(hl:l.length=n)(hn:n≤1000):(⟨arrB g n,l⟩:Ls Bool).At w:=by
 have hb:Blk w g E (l.map Value.bool).toArray:=h.ok _ (List.mem_of_getElem? hi)
 refine ⟨some ⟨g,0,none⟩,n, ?_, ?_, ?_, ?_, ?_, ?_, ?_, ?_⟩
 ·show arrB g n= .slice _ l.length _
  unfold arrB
  rw [hl]
 ·show l.length≤n
  omega
 ·show n≤maxLen
  have:(1000:Nat)≤maxLen:=by decide
  omega
 ·show l.length≤_
  omega
 ·intro _;exact ⟨_,rfl,rfl⟩
 ·intro _;exact hb.lt
 ·intro i' j hi' hj
  have hi2:i' <l.length:=hi'
  have hj0:j=0:=by have:Enc.sz Bool=1:=rfl;omega
  subst hj0
  show w.cell? ⟨g,0+i' *1+0,none⟩=some (Value.bool (nth l i'))
  rw [Nat.mul_one,Nat.add_zero,Nat.zero_add]
  exact (hb.cell i').trans (by rw [nth_lt _ _ hi2];simp [hi2])
 ·intro i' _;trivial
end
section
variable {P:Program}{o:Oper}{N:Nat}{K:Nat→Prop}{W w:World}{a:Act}{F:List (Nat×Value)}{L:List Asn}
theorem cells4 (x:Ins):cellsOf x= [.int .i64 x.op, .int .i64 x.a, .int .i64 x.b, .int .i64 x.c]:=rfl
theorem r_eqBB {T U:TypeId}{x y:Operand}{p q:Bool}(ho:o.op= .binOp .eql T x y U)(hx:ev F x=some (.bool p))(hy:ev F y=some (.bool q))(hT:P.underlying T=some .bool):Rn P o N K W F L (.bool (p==q)):=fun a w h=>by
 have e1:(eqGuard .eql T x y (.bool p) (.bool q)).run P w= .ok () w:=by simp [eqGuard]
 have e2:(binOp .eql T (.bool p) (.bool q)).run P w= .ok (.bool (p==q)) w:=by simp [binOp,Op.equal,Op.maxDepth,go_sem,hT]
 unfold execOp
 simp only [ho,h.fr.ev hx,h.fr.ev hy,Sem.run_bind,Sem.run_pure,Result.andThen_ok,e1,e2]
end
set_option maxHeartbeats 16000000
theorem ar_70 :arI Try.prog 70=some (6,4):=by kernel_rfl
def lenF (s:List (Ls (Ls Int)))(t:Nat)(x:Int):Int:=(((nth (nth s t).l x.toNat).l.length:Nat):Int)
theorem bigE {A B C:Asn}{w:World}(h:(Asn.big [A,B,C]).ok w):A.ok w∧B.ok w∧C.ok w:=⟨h.1 _ (by simp),h.1 _ (by simp),h.1 _ (by simp)⟩
theorem clash_row {code:Ls (Ls Ins)}{words:Ls Int}{locks:Int}{R:Nat}{f:Nat→Nat→Nat→Bool}{s:Ls (Ls (Ls Int))}(hok:OkPg (pgOf code words locks ((R:Nat):Int)))(hF:∀t,t<code.l.length→∀r j,(f t r j=true↔LiveI (nth code.l t).l r j))
  (h:s.l.map (fun y=>y.l.map (·.l))=(List.range code.l.length).map (fun t=>clashL (nth code.l t).l (f t) (((R:Nat):Int)).toNat)):s.l.length=code.l.length∧∀t,t<code.l.length→(nth s.l t).l.length=R∧∀r,r<R→(nth (nth s.l t).l r).l=listB ((List.range R).map fun b=>clTo (nth code.l t).l (f t) (nth code.l t).l.length r b):=by
 obtain ⟨h1,h2⟩:=rowsV h
 refine ⟨h1,fun t ht=> ?_⟩
 obtain ⟨h3,h4⟩:=rowsV (h2 t ht)
 rw [Int.toNat_natCast] at h3 h4
 refine ⟨h3,fun r hr=> ?_⟩
 have hrg:=hok.regs
 have hrg1:(pgOf code words locks ((R:Nat):Int)).regs=((R:Nat):Int):=rfl
 rw [hrg1] at hrg
 have:=row_clash (okV_of hok t ht) (by omega) (hF t ht) r
 rw [Int.toNat_natCast] at this
 rw [h4 r hr]
 exact this
theorem snoc_thA {α:Type}[Inhabited α]{os:List α}{x:α}{t:Nat}{A:α→Nat→Prop}(hl:os.length=t)(h:∀u,u<t→A (nth os u) u)(hx:A x t):∀u,u<t+1→A (nth (os++ [x]) u) u:=by
 intro u hu
 rcases Nat.lt_or_ge u t with h9|h9
 ·have e:nth (os++ [x]) u=nth os u:=by unfold nth List.getD;rw [List.getElem?_append_left (by omega)]
  rw [e];exact h u h9
 ·obtain rfl:u=t:=by omega
  have e:nth (os++ [x]) u=x:=by unfold nth List.getD;rw [List.getElem?_append_right (by omega),hl,Nat.sub_self];rfl
  rw [e];exact hx
theorem indexB_c (x:Ls Bool)(W:World)(hx:x.At W)(hl:x.l.length≤1000):
    Rets Try.prog 33 [x.v, .bool false] W (fun v w' =>∃r:Int,v= .int .i64 r∧(-1≤r∧r<x.l.length∧(0≤r→nth x.l r.toNat=false))∧Sh0 W w' []):=by
 refine gen Try.func33 Try.ntmps33 (Sh0.ext1 hx:Sh (fun _=>False) W W [.at_ x]) rfl fun a10 h10=>gG h10<|sG (oM 1 rfl<|.nl)<|gK fun _ k12=>sK fun _ k13=>gNl (aA 0 rfl) fun hl14=>gRn (oM 1 rfl<|oln sl_64 (aA 0 rfl) rfl<|oM 1 rfl<|.nl)<|nK k13<|gB<|fun a16 w16 h16=>x_loop (fun m a w=>∃(k:Nat),(k≤x.l.length)∧St 19 (fun _=>False) W a w [(0,x.v),(1, .bool false),(7, .int .i64 ((x.l.length:Nat):Int)),(8, .int .i64 ((k:Nat):Int))] [.at_ x]∧m=x.l.length-k) ⟨_,0,(by omega),h16.nf ⟨rfl,rfl,rfl,rfl,trivial⟩,rfl⟩ ?_;clear h10
 clear h16
 rintro m15 a15 w15 ⟨k,hk,h15,hm15⟩
 refine gG h15<|sG (oltN _ _ rfl<|.nl)<|gK fun _ k18=>gcd rfl (fun hb19 hp19=> ?_) fun hb19 hp19=> ?_;clear h15
 ·skip
  refine gS<|hK k18<|gK fun _ k20=>gB<|sG (oM 2 rfl<|.nl)<|sG (oM 3 rfl<|oxN sl_64 ti_4 (aA 0 rfl) _ om9 rfl<|olE (.bool (nth x.l k)) ti_4 (aA 0 rfl) om9 rfl<|oV (r_eqBB rfl rfl rfl (by kernel_rfl)) rfl<|.nl)<|gCb rfl (fun hb23=> ?_) fun hb23=> ?_
  ·skip
   refine sG (oM 2 rfl<|.nl)<|gR<|uB<|uT<|uT<|uB<|uT<|fun a25 w25 h25=>x_ret1 (fn:=Try.f33) (t:=4) rfl h25 rfl<|⟨_,rfl,⟨by omega,by omega,fun h9=> ?_⟩,(h25.sh.sel [] rfl)⟩
   first|omega|(have h8:=(by assumption:(false==nth x.l k)=true);rw [Int.toNat_natCast];cases h7:nth x.l k;rfl;rw [h7] at h8;cases h8)
  refine gS<|hK k20<|gL<|gRn (oadN _ 1 om9 rfl<|oM 1 rfl<|.nl)<|nN<|fun a26 w26 h26=>x_again ⟨_, ?_,k+1, ?_,h26.nf ⟨rfl,rfl,rfl,rfl,trivial⟩,rfl⟩
  · rw [hm15];first|omega|(simp only [lens9];omega)
  · omega
 refine gX<|hK k12<|sG (oM 1 rfl<|.nl)<|gR<|fun a28 w28 h28=>x_ret1 (fn:=Try.f33) (t:=4) rfl h28 rfl<|⟨_,rfl,⟨by omega,by omega,fun h9=> ?_⟩,(h28.sh.sel [] rfl)⟩
 first|omega|(have h8:=(by assumption:(false==nth x.l k)=true);rw [Int.toNat_natCast];cases h7:nth x.l k;rfl;rw [h7] at h8;cases h8)
theorem colF_c (x y:Int)(b1 b2:Nat)(cs:Ls (Ls (Ls Int)))(t:Nat)(W:World)(h1:Blk W b1 58 #[cs.v])(h2:Blk W b2 3 #[.int .i64 ((t:Nat):Int)])(h3:cs.At W)(ht:t<cs.l.length)(hx:0≤x∧x<((nth cs.l t).l.length:Int))(hy:0≤y∧y<((nth cs.l t).l.length:Int)):
    Rets Try.prog 32 [.int .i64 x, .int .i64 y, .pointer (some ⟨b1,0,none⟩), .pointer (some ⟨b2,0,none⟩)] W (fun v w' =>v= .int .i64 (lenF cs.l t x-lenF cs.l t y)∧Sh0 W w' []):=by
 refine gen Try.func32 Try.ntmps32 (Sh0.ext (by intro A hA;simp only [List.mem_cons,List.not_mem_nil,or_false] at hA;rcases hA with rfl|rfl|rfl;exact h1;exact h2;exact h3) (by intro A hA b hb;simp only [List.mem_cons,List.not_mem_nil,or_false] at hA;rcases hA with rfl|rfl|rfl<;>exact hb):Sh (fun _=>False) W W [.rblk b1 58 [cs.v], .rblk b2 3 [.int .i64 ((t:Nat):Int)], .at_ cs]) rfl fun a10 h10=>gG h10<|sG (oM 1 rfl<|.nl)<|gK fun _ k12=>gNl (aA 2 rfl) fun hl13=>gNl (fun w h=>((h.at 2 rfl).nth t (show t<cs.l.length from (by omega)))) fun (hl14:((nth cs.l t).l).length≤140737488355328)=>gNl (fun w h=>(((h.at 2 rfl).nth t (show t<cs.l.length from (by omega))).nth x.toNat (show x.toNat<((nth cs.l t).l).length from (by omega)))) fun (hl15:((nth ((nth cs.l t).l) x.toNat).l).length≤140737488355328)=>gNl (fun w h=>(((h.at 2 rfl).nth t (show t<cs.l.length from (by omega))).nth y.toNat (show y.toNat<((nth cs.l t).l).length from (by omega)))) fun (hl16:((nth ((nth cs.l t).l) y.toNat).l).length≤140737488355328)=>rQ (olR 0 ti_58 rfl rfl<|olR 1 ti_3 rfl rfl<|oxN sl_58 ti_26 (aA 2 rfl) _ om9 rfl<|olE ((nth cs.l t).v) ti_26 (aA 2 rfl) om9 rfl<|oM 1 rfl<|oxI sl_26 ti_23 (fun w h=>((h.at 2 rfl).nth t (show t<cs.l.length from (by omega)))) om9 rfl<|olE ((nth ((nth cs.l t).l) x.toNat).v) ti_23 (fun w h=>((h.at 2 rfl).nth t (show t<cs.l.length from (by omega)))) om9 rfl<|oln (n:=((nth ((nth cs.l t).l) x.toNat).l).length) sl_23 (fun w h=>(((h.at 2 rfl).nth t (show t<cs.l.length from (by omega))).nth x.toNat (show x.toNat<((nth cs.l t).l).length from (by omega)))) rfl<|olR 0 ti_58 rfl rfl<|olR 1 ti_3 rfl rfl<|oxN sl_58 ti_26 (aA 2 rfl) _ om9 rfl<|olE ((nth cs.l t).v) ti_26 (aA 2 rfl) om9 rfl<|oM 1 rfl<|oxI sl_26 ti_23 (fun w h=>((h.at 2 rfl).nth t (show t<cs.l.length from (by omega)))) om9 rfl<|olE ((nth ((nth cs.l t).l) y.toNat).v) ti_23 (fun w h=>((h.at 2 rfl).nth t (show t<cs.l.length from (by omega)))) om9 rfl<|oln (n:=((nth ((nth cs.l t).l) y.toNat).l).length) sl_23 (fun w h=>(((h.at 2 rfl).nth t (show t<cs.l.length from (by omega))).nth y.toNat (show y.toNat<((nth cs.l t).l).length from (by omega)))) rfl<|osbI _ _ om9 rfl<|oM 1 rfl<|.nl)<|hK k12<|gR<|fun a17 w17 h17=>x_ret1 (fn:=Try.f32) (t:=6) rfl h17 rfl ?_;clear h10
 exact ⟨rfl,(h17.sh.sel [] rfl)⟩
theorem colours_k (code:Ls (Ls Ins))(words:Ls Int)(Lk R:Nat)(f:Nat→Nat→Nat→Bool)(W:World)(hcode:code.At W)(hwords:words.At W)(hok:OkPg (pgOf code words ((Lk:Nat):Int) ((R:Nat):Int)))(hF:∀t,t<code.l.length→∀r j,(f t r j=true↔LiveI (nth code.l t).l r j)):
    Rets Try.prog 10 [.agg #[code.v,words.v, .int .i64 ((Lk:Nat):Int), .int .i64 ((R:Nat):Int)]] W (fun v w' =>∃c:Ls (Ls Int),v= .tuple #[c.v, .agg #[.int .i64 0, .int .i64 0, .int .i64 0]]∧colsB code.l c.l f R=true∧Sh0 W w' [.deep 23 c]):=by
 have hz:=checkG_ok hok
 obtain ⟨hl1,hl2,hl3,hl4',hl5,hl6,hl7⟩:=ok_len hok
 refine gen Try.func10 Try.ntmps10 (Sh0.ext2 hcode hwords:Sh (fun _=>False) W W [.at_ code, .at_ words]) rfl fun a10 h10=>gG h10<|sK fun _ k11=>gbx rfl rfl fun b12=>gRn (oM 1 rfl<|.nl)<|gal ti_30 rfl fun b13=>nK k11<|sK fun _ k14=>gRn (olw 1 ti_25 rfl rfl<|.nl)<|gC (fun _ _ h_=>xCl h_ bd_29 rfl (clash_k code words ((Lk:Nat):Int) ((R:Nat):Int) f _ (h_.sh.at 2 rfl) (h_.sh.at 3 rfl) hok hF)) rfl<|?_;clear h10
 rintro _ _ w15 ⟨s15,rfl,hcl15,hs15⟩
 refine gWk hs15 rfl<|gU<|gRn (oM 1 rfl<|oxt rfl<|oxt rfl<|.nl)<|gal ti_58 rfl fun b16=>gal ti_30 rfl fun b17=>gsr 1 ti_58 rfl (aD 2 rfl) rfl<|gsw 0 ti_30 rfl rfl rfl<|nK k14<|gK fun _ k20=>sG (ofB fl_30_0 rfl<|olB 0 ti_28 rfl rfl<|oneN 0 0 rfl<|.nl)<|gcF rfl (by decide)<|gS<|hK k20<|sG (oM 1 rfl<|.nl)<|gK fun _ k23=>sK fun _ k24=>gNl (aA 5 rfl) fun hl25=>gRn (ofB fl_25_0 rfl<|olB 4 ti_22 rfl rfl<|oln sl_22 (aA 5 rfl) rfl<|oM 1 rfl<|.nl)<|nK k24<|gB<|fun a28 w28 h28=> ?_;clear hs15
 have h27:=h28.nilDeep (α:=Ls Int) 23
 clear h28
 obtain ⟨hcs1,hcs2⟩:=clash_row hok hF hcl15
 refine x_loop (fun m a w=>∃(t:Nat) (os:List (Ls Int)) (vo:Value),(t≤code.l.length)∧(os.length=t)∧(∀j,j<t→thB (nth code.l j).l (nth os j).l (f j) R=true)∧St 94 (fun _=>False) W a w [(1, .pointer (some ⟨b12,0,none⟩)),(3, .pointer (some ⟨b13,0,none⟩)),(4, .pointer (some ⟨b16,0,none⟩)),(5, .pointer (some ⟨b17,0,none⟩)),(6,vo),(27, .int .i64 ((code.l.length:Nat):Int)),(28, .int .i64 ((t:Nat):Int))] [.blk b17 30 [.int .i64 0, .int .i64 0, .int .i64 0], .blk b16 58 [s15.v], .deep 26 s15, .blk b13 30 [.int .i64 0, .int .i64 0, .int .i64 0], .blk b12 25 [code.v,words.v, .int .i64 ((Lk:Nat):Int), .int .i64 ((R:Nat):Int)], .at_ code, .at_ words, .deep 23 (⟨vo,os⟩:Ls (Ls Int))]∧m=code.l.length-t) ⟨_,0, [],(.slice none 0 0),(by omega),(rfl),(fun j hj=>absurd hj (by omega)),h27.nrm ⟨rfl,rfl,rfl,rfl,rfl,rfl,rfl,trivial⟩ [1,2,3,4,5,6,7,0] rfl,rfl⟩ ?_
 clear h27
 rintro m26 a26 w26 ⟨t,os,vo,ht,hol,hos,h26,hm26⟩
 refine gG h26<|sG (oltN _ _ rfl<|.nl)<|gK fun _ k30=>gcd rfl (fun hb31 hp31=> ?_) fun hb31 hp31=> ?_;clear h26
 ·skip
  refine gS<|hK k30<|gK fun _ k32=>gB<|sK fun _ k33=>gRn (oM 1 rfl<|.nl)<|gal ti_3 rfl fun b34=>gst 0 ti_3 rfl rfl rfl<|nK k33<|?_
  obtain ⟨hl4,hjt⟩:=ok_thread hok t (by omega)
  refine sK fun _ k36=>gE1 (fun _ _ h_=>x_lit (n:=1) (cs:= [.int .i64 (-2)]) ([(-2)]:List Int) h_ sl_23 ti_3 rfl rfl rfl (by decide) rfl (by kernel_rfl) rfl (fun q hq w h=>Flat.inner _ _) (fun q hq b hb=>(Flat.on _ _ hb).elim) rfl rfl) rfl fun v37=>gRn (ofB fl_25_3 rfl<|olB 6 ti_3 rfl rfl<|.nl)<|gC (fun _ _ h_=>xCl h_ bd_30 rfl (repeat_c (⟨v37, [(-2)]⟩:Ls Int) R _ (h_.sh.own 0 rfl) rfl (by omega))) rfl<|?_
  rintro _ _ w38 ⟨s38,rfl,hs38⟩
  refine gWk hs38 rfl<|gU<|gRn (oM 1 rfl<|.nl)<|nK k36<|sK fun _ k39=>gRn (ofB fl_25_3 rfl<|olB 7 ti_3 rfl rfl<|.nl)<|gE1 (fun _ _ h_=>x_make (n:=R) (0:Int) h_ sl_23 ti_3 rfl rfl rfl rfl rfl (show 8*R≤140737488355328∧R≤140737488355328 from om9) (fun w=>Flat.inner _ _) (fun b=>Flat.on _ _) rfl rfl) rfl fun v40=>gRn (oM 1 rfl<|.nl)<|nK k39<|gK fun _ k41=>sG (oM 1 rfl<|oln (n:=(List.replicate R 0).length) sl_23 (aO 0 rfl) rfl<|oM 1 rfl<|.nl)<|gB<|?_;clear hs38
  have hrl9:(List.replicate R (0:Int)).length=R:=List.length_replicate
  intro a44 w44 h44
  refine x_loop (fun m a w=>∃(r:Nat) (od:List Int),(r≤R)∧(od.length=R)∧(∀i,i<r→nth od i=(i:Int))∧St 94 (fun _=>False) W a w [(1, .pointer (some ⟨b12,0,none⟩)),(3, .pointer (some ⟨b13,0,none⟩)),(4, .pointer (some ⟨b16,0,none⟩)),(5, .pointer (some ⟨b17,0,none⟩)),(6,vo),(7, .pointer (some ⟨b34,0,none⟩)),(8,s38.v),(9,v40),(27, .int .i64 ((code.l.length:Nat):Int)),(28, .int .i64 ((t:Nat):Int)),(39, .int .i64 (((List.replicate R 0).length:Nat):Int)),(40, .int .i64 ((r:Nat):Int))] [.own 3 (⟨v40,od⟩:Ls Int), .own 3 (⟨s38.v,List.replicate R (nth ([(-2)]) 0)⟩:Ls Int), .own 3 (⟨v37, [(-2)]⟩:Ls Int), .blk b34 3 [.int .i64 ((t:Nat):Int)], .blk b17 30 [.int .i64 0, .int .i64 0, .int .i64 0], .blk b16 58 [s15.v], .deep 26 s15, .blk b13 30 [.int .i64 0, .int .i64 0, .int .i64 0], .blk b12 25 [code.v,words.v, .int .i64 ((Lk:Nat):Int), .int .i64 ((R:Nat):Int)], .at_ code, .at_ words, .deep 23 (⟨vo,os⟩:Ls (Ls Int))]∧m=R-r) ⟨_,0,List.replicate R 0,(by omega),(by simp),(fun i hi=>absurd hi (by omega)),h44.nf ⟨rfl,rfl,rfl,rfl,rfl,rfl,rfl,rfl,rfl,rfl,rfl,rfl,trivial⟩,rfl⟩ ?_
  clear h44
  rintro m43 a43 w43 ⟨r,od,hr,hodl,hod,h43,hm43⟩
  refine gG h43<|sG (oltN _ _ rfl<|.nl)<|gK fun _ k46=>gcd rfl (fun hb47 hp47=> ?_) fun hb47 hp47=> ?_;clear h43
  ·skip
   refine gS<|hK k46<|gK fun _ k48=>gB<|sG (oM 2 rfl<|.nl)<|gL<|gNl (aO 0 rfl) fun (hl50:od.length≤140737488355328)=>gRn (oM 3 rfl<|oxN sl_23 ti_3 (aO 0 rfl) _ om9 rfl<|.nl)<|gte 0 (((r:Nat):Int):Int) ti_3 om9 rfl rfl<|nK k48<|gL<|gRn (oadN _ 1 om9 rfl<|oM 1 rfl<|.nl)<|nN<|fun a52 w52 h52=>x_again ⟨_, ?_,(r+1),od.set r ((r:Nat):Int), ?_, ?_, ?_,h52.nf ⟨rfl,rfl,rfl,rfl,rfl,rfl,rfl,rfl,rfl,rfl,rfl,rfl,trivial⟩,rfl⟩
   · rw [hm43];first|omega|(simp only [lens9];omega)
   · omega
   · rw [List.length_set];exact hodl
   · intro i hi;rw [nth_setC _ _ _ _ (by omega)];split;(rename_i e9;rw [e9]);exact hod i (by omega)
  refine gX<|hK k41<|?_
  have hod2:∀x∈od,0≤x∧x<(R:Int):=fun x hx=>by obtain ⟨i9,hi9,e9⟩:=List.getElem_of_mem hx;have:=hod i9 (by omega);rw [nth_lt _ _ hi9,e9] at this;omega
  have hrow:=(hcs2 t (by omega)).1
  refine sK fun _ k53=>gRn (oM 1 rfl<|oV (r_makeFunc rfl rfl rfl) rfl<|.nl)<|fun a54 w54 h54=> ?_
  have h55:=h54.sel (L' := [_,_,_,_,_,_,_,_,_,_,_,_]) [5,3,6,0,1,2,4,7,8,9,10,11] rfl
  have h56:St 94 (fun _=>False) W a54 w54 _ (.big [.blk b16 58 [s15.v], .blk b34 3 [.int .i64 ((t:Nat):Int)], .deep 26 s15]::_):=⟨h55.fr,Sh.close (B:= [.blk b16 58 [s15.v], .blk b34 3 [.int .i64 ((t:Nat):Int)], .deep 26 s15]) h55.sh⟩
  clear h55
  have h57:=h56.sel (L' := [_,_,_,_,_,_,_,_,_,_]) [1,0,2,3,4,5,6,7,8,9] rfl
  have hp58:=h57.sh.passL (Lp:= [_,_])
  refine wl_ex (x_call h57 bd_31 rfl rfl rfl rfl rfl (stabF_c 32 [] [.pointer (some ⟨b16,0,none⟩), .pointer (some ⟨b34,0,none⟩)] (fun x y=>lenF s15.l t x-lenF s15.l t y) (.big [.blk b16 58 [s15.v], .blk b34 3 [.int .i64 ((t:Nat):Int)], .deep 26 s15]) (fun x=>0≤x∧x<(R:Int)) _ v40 od _ bd_32 (fun w x y hE hx hy=>by obtain ⟨q1,q2,q3⟩:=bigE hE;exact colF_c x y b16 b34 s15 t w q1 q2 (deep_at q3) (by omega) (by omega) (by omega)) hp58 hod2 (by omega))) (wanted_none rfl _) ?_
  rintro a59 w59 ⟨_,⟨rfl,k59,hpk59,hs59⟩,hf59⟩
  have h59:St _ (fun _=>False) W a59 w59 _ [_,_,_,_,_,_,_,_,_,_]:=⟨hf59,h57.sh.backI (Lp:= [_,_]) hs59⟩
  clear hf59 hs59
  clear h57
  refine gG h59<|nK k53<|fun a60 w60 h60=> ?_;clear h59
  have h61:=h60.sel (L' := [_,_,_,_,_,_,_,_,_,_]) [1,0,2,3,4,5,6,7,8,9] rfl
  have h62:St 94 (fun _=>False) W a60 w60 _ (.blk b16 58 [s15.v]:: .blk b34 3 [.int .i64 ((t:Nat):Int)]:: .deep 26 s15::_):=⟨h61.fr,h61.sh.open_⟩
  clear h61
  obtain ⟨hkr,hka⟩:=perm_all hpk59 hodl (fun i hi=>hod i (by omega))
  have hkl:k59.length=R:=by rw [hpk59.length_eq];exact hodl
  refine gG h62<|gK fun _ k63=>sK fun _ k64=>gNl (aO 3 rfl) fun (hl65:k59.length≤140737488355328)=>gRn (oM 1 rfl<|oln (n:=k59.length) sl_23 (aO 3 rfl) rfl<|oM 1 rfl<|.nl)<|nK k64<|gB<|fun a67 w67 h67=>x_loop (fun m a w=>∃(j:Nat) (cl:List Int),(j≤R)∧(ColI (nth code.l t).l (f t) R cl fun s=>∃q,q<j∧nth k59 q=(s:Int))∧St 94 (fun _=>False) W a w [(1, .pointer (some ⟨b12,0,none⟩)),(3, .pointer (some ⟨b13,0,none⟩)),(4, .pointer (some ⟨b16,0,none⟩)),(5, .pointer (some ⟨b17,0,none⟩)),(6,vo),(7, .pointer (some ⟨b34,0,none⟩)),(8,s38.v),(27, .int .i64 ((code.l.length:Nat):Int)),(28, .int .i64 ((t:Nat):Int)),(51,v40),(52, .int .i64 ((k59.length:Nat):Int)),(53, .int .i64 ((j:Nat):Int))] [.blk b16 58 [s15.v], .blk b34 3 [.int .i64 ((t:Nat):Int)], .deep 26 s15, .own 3 (⟨v40,k59⟩:Ls Int), .own 3 (⟨s38.v,cl⟩:Ls Int), .own 3 (⟨v37, [(-2)]⟩:Ls Int), .blk b17 30 [.int .i64 0, .int .i64 0, .int .i64 0], .blk b13 30 [.int .i64 0, .int .i64 0, .int .i64 0], .blk b12 25 [code.v,words.v, .int .i64 ((Lk:Nat):Int), .int .i64 ((R:Nat):Int)], .at_ code, .at_ words, .deep 23 (⟨vo,os⟩:Ls (Ls Int))]∧m=R-j) ⟨_,0,List.replicate R (nth ([(-2)]) 0),(by omega),(ColI.start.iff fun s hs ⟨q,hq,_⟩=>absurd hq (by omega)),h67.nf ⟨rfl,rfl,rfl,rfl,rfl,rfl,rfl,rfl,rfl,rfl,rfl,rfl,trivial⟩,rfl⟩ ?_;clear h62
  clear h67
  rintro m66 a66 w66 ⟨j,cl,hj,hci,h66,hm66⟩
  have hcll:=hci.len
  refine gG h66<|sG (oltN _ _ rfl<|.nl)<|gK fun _ k69=>gcd rfl (fun hb70 hp70=> ?_) fun hb70 hp70=> ?_;clear h66
  ·skip
   refine gS<|hK k69<|gK fun _ k71=>gB<|sG (oxN sl_23 ti_3 (aO 3 rfl) _ om9 rfl<|olE (.int .i64 (nth k59 j)) ti_3 (aO 3 rfl) om9 rfl<|oM 1 rfl<|.nl)<|?_
   have hkj:=hkr _ (nth_mem k59 j (by omega))
   refine sK fun _ k73=>gRn (oV (r_build (cs:= [.bool false, .bool false, .bool false, .bool false, .bool false, .bool false]) rfl rfl (by kernel_rfl)) rfl<|.nl)<|gal ti_70 rfl fun b74=>gsw 0 ti_70 rfl rfl rfl<|nK k73<|fun a76 w76 h76=> ?_
   have h77:St 94 (fun _=>False) W a76 w76 [(1, .pointer (some ⟨b12,0,none⟩)),(3, .pointer (some ⟨b13,0,none⟩)),(4, .pointer (some ⟨b16,0,none⟩)),(5, .pointer (some ⟨b17,0,none⟩)),(6,vo),(7, .pointer (some ⟨b34,0,none⟩)),(8,s38.v),(12, .int .i64 (nth k59 j)),(13, .pointer (some ⟨b74,0,none⟩)),(27, .int .i64 ((code.l.length:Nat):Int)),(28, .int .i64 ((t:Nat):Int)),(51,v40),(52, .int .i64 ((k59.length:Nat):Int)),(53, .int .i64 ((j:Nat):Int)),(54, .bool (decide (j<k59.length))),(55, .pointer (some (padr v40 1 j 0))),(56, .int .i64 (nth k59 j)),(57, .agg #[.bool false, .bool false, .bool false, .bool false, .bool false, .bool false])] [.blk b74 70 ((List.replicate 6 false).map Value.bool), .blk b16 58 [s15.v], .blk b34 3 [.int .i64 ((t:Nat):Int)], .deep 26 s15, .own 3 (⟨v40,k59⟩:Ls Int), .own 3 (⟨s38.v,cl⟩:Ls Int), .own 3 (⟨v37, [(-2)]⟩:Ls Int), .blk b17 30 [.int .i64 0, .int .i64 0, .int .i64 0], .blk b13 30 [.int .i64 0, .int .i64 0, .int .i64 0], .blk b12 25 [code.v,words.v, .int .i64 ((Lk:Nat):Int), .int .i64 ((R:Nat):Int)], .at_ code, .at_ words, .deep 23 (⟨vo,os⟩:Ls (Ls Int))]:=⟨h76.fr.sub ⟨rfl,rfl,rfl,rfl,rfl,rfl,rfl,rfl,rfl,rfl,rfl,rfl,rfl,rfl,rfl,rfl,rfl,rfl,trivial⟩,h76.sh⟩
   clear h76
   have heq:=(hcs2 t (by omega)).2 (nth k59 j).toNat (by omega)
   have hrin:∀i,i<(nth (nth s15.l t).l (nth k59 j).toNat).l.length→0≤nth (nth (nth s15.l t).l (nth k59 j).toNat).l i∧nth (nth (nth s15.l t).l (nth k59 j).toNat).l i<(R:Int):=by rw [heq];intro i hi;exact listB_in hi
   refine gG h77<|gK fun _ k78=>sK fun _ k79=>gNl (aD 3 rfl) fun hl80=>gNl (fun w h=>((h.deep 3 rfl).nth t (show t<s15.l.length from (by omega)))) fun (hl81:((nth s15.l t).l).length≤140737488355328)=>gNl (fun w h=>(((h.deep 3 rfl).nth t (show t<s15.l.length from (by omega))).nth ((nth k59 j).toNat) (show (nth k59 j).toNat<((nth s15.l t).l).length from (by omega)))) fun (hl82:((nth ((nth s15.l t).l) ((nth k59 j).toNat)).l).length≤140737488355328)=>gRn (olB 1 ti_58 rfl rfl<|olB 2 ti_3 rfl rfl<|oxN sl_58 ti_26 (aD 3 rfl) _ om9 rfl<|olE ((nth s15.l t).v) ti_26 (aD 3 rfl) om9 rfl<|oM 1 rfl<|oxI sl_26 ti_23 (fun w h=>((h.deep 3 rfl).nth t (show t<s15.l.length from (by omega)))) om9 rfl<|olE ((nth ((nth s15.l t).l) ((nth k59 j).toNat)).v) ti_23 (fun w h=>((h.deep 3 rfl).nth t (show t<s15.l.length from (by omega)))) om9 rfl<|oln (n:=((nth ((nth s15.l t).l) ((nth k59 j).toNat)).l).length) sl_23 (fun w h=>(((h.deep 3 rfl).nth t (show t<s15.l.length from (by omega))).nth ((nth k59 j).toNat) (show (nth k59 j).toNat<((nth s15.l t).l).length from (by omega)))) rfl<|oM 1 rfl<|.nl)<|nK k79<|gB<|fun a84 w84 h84=>x_loop (fun m a w=>∃(q:Nat) (fr:List Bool),(q≤(nth (nth s15.l t).l (nth k59 j).toNat).l.length)∧(FreI cl (nth (nth s15.l t).l (nth k59 j).toNat).l q fr)∧St 94 (fun _=>False) W a w [(1, .pointer (some ⟨b12,0,none⟩)),(3, .pointer (some ⟨b13,0,none⟩)),(4, .pointer (some ⟨b16,0,none⟩)),(5, .pointer (some ⟨b17,0,none⟩)),(6,vo),(7, .pointer (some ⟨b34,0,none⟩)),(8,s38.v),(12, .int .i64 (nth k59 j)),(13, .pointer (some ⟨b74,0,none⟩)),(27, .int .i64 ((code.l.length:Nat):Int)),(28, .int .i64 ((t:Nat):Int)),(51,v40),(52, .int .i64 ((k59.length:Nat):Int)),(53, .int .i64 ((j:Nat):Int)),(64,(nth ((nth s15.l t).l) ((nth k59 j).toNat)).v),(65, .int .i64 ((((nth ((nth s15.l t).l) ((nth k59 j).toNat)).l).length:Nat):Int)),(66, .int .i64 ((q:Nat):Int))] [.blk b74 70 (fr.map Value.bool), .blk b16 58 [s15.v], .blk b34 3 [.int .i64 ((t:Nat):Int)], .deep 26 s15, .own 3 (⟨v40,k59⟩:Ls Int), .own 3 (⟨s38.v,cl⟩:Ls Int), .own 3 (⟨v37, [(-2)]⟩:Ls Int), .blk b17 30 [.int .i64 0, .int .i64 0, .int .i64 0], .blk b13 30 [.int .i64 0, .int .i64 0, .int .i64 0], .blk b12 25 [code.v,words.v, .int .i64 ((Lk:Nat):Int), .int .i64 ((R:Nat):Int)], .at_ code, .at_ words, .deep 23 (⟨vo,os⟩:Ls (Ls Int))]∧m=(nth (nth s15.l t).l (nth k59 j).toNat).l.length-q) ⟨_,0,List.replicate 6 false,(by omega),(FreI.start),h84.nf ⟨rfl,rfl,rfl,rfl,rfl,rfl,rfl,rfl,rfl,rfl,rfl,rfl,rfl,rfl,rfl,rfl,rfl,trivial⟩,rfl⟩ ?_;clear h77
   clear h84
   rintro m83 a83 w83 ⟨q,fr,hq,hfr,h83,hm83⟩
   have hfl:=hfr.len
   refine gG h83<|sG (oltN _ _ rfl<|.nl)<|gK fun _ k86=>gcd rfl (fun hb87 hp87=> ?_) fun hb87 hp87=> ?_;clear h83
   ·skip
    refine gS<|hK k86<|gK fun _ k88=>gB<|sG (oxN sl_23 ti_3 (fun w h=>(((h.deep 3 rfl).nth t (show t<s15.l.length from (by omega))).nth ((nth k59 j).toNat) (show (nth k59 j).toNat<((nth s15.l t).l).length from (by omega)))) _ om9 rfl<|olE (.int .i64 (nth ((nth ((nth s15.l t).l) ((nth k59 j).toNat)).l) q)) ti_3 (fun w h=>(((h.deep 3 rfl).nth t (show t<s15.l.length from (by omega))).nth ((nth k59 j).toNat) (show (nth k59 j).toNat<((nth s15.l t).l).length from (by omega)))) om9 rfl<|oM 1 rfl<|.nl)<|?_
    have hri:=hrin q (by omega)
    have hrg:=hci.rng (nth (nth (nth s15.l t).l (nth k59 j).toNat).l q).toNat (by omega)
    refine sK fun _ k90=>gNl (aO 5 rfl) fun (hl91:cl.length≤140737488355328)=>gRn (oM 2 rfl<|oxI sl_23 ti_3 (aO 5 rfl) om9 rfl<|olE (.int .i64 (nth cl ((nth ((nth ((nth s15.l t).l) ((nth k59 j).toNat)).l) q).toNat))) ti_3 (aO 5 rfl) om9 rfl<|ogeI _ _ rfl<|.nl)<|nK k90<|gcd rfl (fun hb92 hp92=> ?_) fun hb92 hp92=> ?_
    ·skip
     refine gL<|gRn (oM 2 rfl<|oxI sl_23 ti_3 (aO 5 rfl) om9 rfl<|olE (.int .i64 (nth cl ((nth ((nth ((nth s15.l t).l) ((nth k59 j).toNat)).l) q).toNat))) ti_3 (aO 5 rfl) om9 rfl<|oV (r_ixArI (q:=nth cl ((nth ((nth ((nth s15.l t).l) ((nth k59 j).toNat)).l) q).toNat)) ar_70 ti_4 rfl rfl rfl rfl (show 0≤nth cl ((nth ((nth ((nth s15.l t).l) ((nth k59 j).toNat)).l) q).toNat)∧nth cl ((nth ((nth ((nth s15.l t).l) ((nth k59 j).toNat)).l) q).toNat)<6 from om9)) rfl<|.nl)<|gE (fun _ _ h_=>x_stAr (i:=0) (l:=fr) (b:=true) h_ ti_4 rfl rfl rfl rfl rfl (show (nth cl ((nth ((nth ((nth s15.l t).l) ((nth k59 j).toNat)).l) q).toNat)).toNat<fr.length from om9)) rfl<|nK k88<|gL<|gRn (oadN _ 1 om9 rfl<|oM 1 rfl<|.nl)<|nN<|fun a94 w94 h94=>x_again ⟨_, ?_,(q+1),fr.set ((nth cl ((nth ((nth ((nth s15.l t).l) ((nth k59 j).toNat)).l) q).toNat)).toNat) true, ?_, ?_,h94.nf ⟨rfl,rfl,rfl,rfl,rfl,rfl,rfl,rfl,rfl,rfl,rfl,rfl,rfl,rfl,rfl,rfl,rfl,trivial⟩,rfl⟩
     · rw [hm83];first|omega|(simp only [lens9];omega)
     · omega
     · first|exact hfr.yes (by omega) (by omega)|exact hfr.no (by omega)
    refine gS<|hK k88<|gL<|gRn (oadN _ 1 om9 rfl<|oM 1 rfl<|.nl)<|nN<|fun a95 w95 h95=>x_again ⟨_, ?_,(q+1),fr, ?_, ?_,h95.nf ⟨rfl,rfl,rfl,rfl,rfl,rfl,rfl,rfl,rfl,rfl,rfl,rfl,rfl,rfl,rfl,rfl,rfl,trivial⟩,rfl⟩
    · rw [hm83];first|omega|(simp only [lens9];omega)
    · omega
    · first|exact hfr.yes (by omega) (by omega)|exact hfr.no (by omega)
   refine gX<|hK k78<|gL<|gRn (oM 2 rfl<|oV (r_slBo ar_70 ti_4 rfl rfl rfl) rfl<|.nl)<|gC (fun _ _ h_=>xCl h_ bd_33 rfl (indexB_c (⟨(arrB b74 6),fr⟩:Ls Bool) _ (arrB_at h_.sh (i:=0) rfl (by first|omega|(simp only [lens9];omega)) (by decide)) (show fr.length≤1000 from by omega))) rfl<|?_
   rintro _ _ w96 ⟨x96,rfl,hix96,hs96⟩
   refine gWk hs96 rfl<|gU<|gNl (aO 5 rfl) fun (hl97:cl.length≤140737488355328)=>gRn (oxI sl_23 ti_3 (aO 5 rfl) om9 rfl<|.nl)<|?_;clear hs96
   obtain ⟨hix7,hix8,hix9⟩:=hix96;have hix6:x96<6:=by have e9:=hix8;simp only at e9;omega
   refine gte 5 (x96:Int) ti_3 om9 rfl rfl<|nK k71<|gL<|gRn (oadN _ 1 om9 rfl<|oM 1 rfl<|.nl)<|nN<|fun a99 w99 h99=>x_again ⟨_, ?_,(j+1),cl.set ((nth k59 j).toNat) x96, ?_, ?_,h99.nrm ⟨rfl,rfl,rfl,rfl,rfl,rfl,rfl,rfl,rfl,rfl,rfl,rfl,trivial⟩ [1,2,3,4,5,6,7,8,9,10,11,12] rfl,rfl⟩
   · rw [hm66];first|omega|(simp only [lens9];omega)
   · omega
   · exact (hci.put (r0:=(nth k59 j).toNat) (by omega) (by omega) (hfr.end_ (by omega) (by omega) heq (by omega) hix9)).iff fun s hs ⟨q,hq,e⟩=>(by rcases Nat.lt_or_ge q j with h9|h9;exact .inl ⟨q,h9,e⟩;obtain rfl:q=j:=(by omega);exact .inr (by omega))
  refine gX<|hK k63<|gL<|gRn (oM 2 rfl<|.nl)<|gO [4,0,1,2,3,5,6,7,8,9,10,11] rfl<|gE1 (fun _ _ h_=>x_litD (E:=0) (x:=(⟨s38.v,cl⟩:Ls Int)) h_ sl_26 ti_23 rfl rfl rfl ((h_.sh.own 0 rfl)) (fun b hb=>(own_on (h_.sh.ok _ (List.mem_of_getElem? (i:=0) rfl)) hb).elim (fun h=>h) (fun h=>Flat.noRd h)) (fun b hb=>Flat.noRd hb) rfl rfl) rfl fun v101=>gO [11,0,1,2,3,4,5,6,7,8,9,10] rfl<|gE1 (fun _ _ h_=>x_appD (s:=(⟨vo,os⟩:Ls (Ls Int))) (m:=(⟨v101, [(⟨s38.v,cl⟩:Ls Int)]⟩:Ls (Ls Int))) h_ sl_26 ti_23 rfl rfl rfl rfl rfl rfl rfl inferInstance (show (os.length+([(⟨s38.v,cl⟩:Ls Int)]).length)*24≤140737488355328∧os.length+([(⟨s38.v,cl⟩:Ls Int)]).length≤140737488355328 from om9) rfl rfl) rfl fun v103=>gRn (oM 1 rfl<|.nl)<|nK k32<|gL<|gRn (oadN _ 1 om9 rfl<|oM 1 rfl<|.nl)<|nN<|fun a104 w104 h104=>x_again ⟨_, ?_,t+1,os++([(⟨s38.v,cl⟩:Ls Int)]),v103, ?_, ?_, ?_,h104.nrm ⟨rfl,rfl,rfl,rfl,rfl,rfl,rfl,trivial⟩ [6,1,3,7,8,9,10,0] rfl,rfl⟩
  · rw [hm26];first|omega|(simp only [lens9];omega)
  · omega
  · simp [hol]
  · refine snoc_thA (A:=fun x j=>thB (nth code.l j).l x.l (f j) R=true) hol hos ?_;exact hci.end_ (by intro q hq;obtain ⟨i,hi,e⟩:=hka q hq;exact ⟨i,by omega,e⟩)
 refine gX<|hK k23<|gK fun _ k105=>rT 3 [] (oM 1 rfl<|olw 0 ti_30 rfl rfl<|oM 1 rfl<|.nl)<|gsw 3 ti_30 rfl rfl rfl<|nK k105<|gR<|fun a107 w107 h107=>x_rettc (fn:=Try.f10) (t:=3) (u:=2) (i:=3) ti_30 rfl h107 rfl rfl rfl rfl<|⟨⟨vo,os⟩,rfl,colsB_t (by show os.length=_;omega) fun j hj=>hos j (by have:(⟨vo,os⟩:Ls (Ls Int)).l.length=os.length:=rfl;omega),(h107.sh.sel [7] rfl)⟩
theorem colours_b (code:Ls (Ls Ins))(words:Ls Int)(locks regs:Int)(W:World)(hcode:code.At W)(hwords:words.At W)(hz:(checkG (pgOf code words locks regs)).code≠0):
    Rets Try.prog 10 [.agg #[code.v,words.v, .int .i64 locks, .int .i64 regs]] W (fun v w' =>v= .tuple #[.slice none 0 0,(checkG (pgOf code words locks regs)).val]∧Sh0 W w' []):=by
 refine gen Try.func10 Try.ntmps10 (Sh0.ext2 hcode hwords:Sh (fun _=>False) W W [.at_ code, .at_ words]) rfl fun a10 h10=>gG h10<|sK fun _ k11=>gbx rfl rfl fun b12=>gRn (oM 1 rfl<|.nl)<|gal ti_30 rfl fun b13=>nK k11<|sK fun _ k14=>gRn (olw 1 ti_25 rfl rfl<|.nl)<|gC (fun _ _ h_=>xCl h_ bd_29 rfl (clash_b code words locks regs _ (h_.sh.at 2 rfl) (h_.sh.at 3 rfl) hz)) rfl<|?_;clear h10
 rintro _ _ w15 ⟨rfl,hs15⟩
 refine gWk hs15 rfl<|gU<|gRn (oM 1 rfl<|oxt rfl<|oxt rfl<|.nl)<|gal ti_58 rfl fun b16=>gal ti_30 rfl fun b17=>gE (fun _ _ h_=>x_stb (i:=1) (vs:= [(.slice none 0 0)]) (cs' := [(.slice none 0 0)]) h_ ti_58 rfl rfl rfl rfl rfl (cells_oneL ((Sh.nilAt (α:=Ls (Ls Int)) h_.sh)).one) rfl (allOne_cons ((Sh.nilAt (α:=Ls (Ls Int)) h_.sh)).one allOne_nil) (Nat.le_of_ble_eq_true rfl) rfl) rfl<|gsw 0 ti_30 rfl rfl rfl<|nK k14<|gK fun _ k20=>sG (ofB fl_30_0 rfl<|olB 0 ti_28 rfl rfl<|oneI _ _ rfl<|.nl)<|gcT rfl (decide_eq_true hz)<|gK fun _ k22=>rT 2 [] (olw 0 ti_30 rfl rfl<|oM 1 rfl<|.nl)<|gsw 2 ti_30 rfl rfl rfl<|nK k22<|gR<|uT<|fun a24 w24 h24=> ?_;clear hs15
 refine x_rettc (fn:=Try.f10) (t:=3) (u:=2) (i:=2) ti_30 rfl h24 rfl rfl rfl rfl ?_
 exact ⟨rfl,(h24.sh.sel [] rfl)⟩
end Go.Proofs.Ytmbfcgpneflbmaa
namespace Go.Proofs.Ytmbfcgpneflbmaa
open Go.ChangeShapes Go.WideShapes Go.ChangeAt Go.RowKit
open Go.Deep (open_slice)
set_option linter.unusedSimpArgs false
set_option linter.unusedVariables false
class Rd (α:Type) extends Enc α where
 ty:Program→TypeId→Prop
 fine:α→Prop
 read:∀ {H:Type} {enc:TypeId×Value→H} {P:Program} {w:World} {base:Nat} {spare:Nat→Bool} {held:Bool} {fuel:Nat} {T:TypeId} {cs:List Value} {x:DataW H×List MemPlace},
  ty P T→DataW.trod enc P w base spare held fuel T cs=some x→(∀n∈DataW.weights P T x.1,n≤reachBytes)→∃a:α,cs=cellsOf a∧Enc.inner a w∧fine a
instance : Rd Int where
 ty P T:=P.underlying T=some (.int .i64)
 fine n:=(Lit.int .i64 n).wf=true
 read hT h _:=by
  obtain ⟨n,rfl,_,hw⟩:=DataW.trod_int hT h
  exact ⟨n,rfl,trivial,hw⟩
instance : Rd Bool where
 ty P T:=P.underlying T=some .bool
 fine _:=True
 read hT h _:=by
  obtain ⟨b,rfl,_⟩:=DataW.trod_bool hT h
  exact ⟨b,rfl,trivial,trivial⟩
def intFields (P:Program)(fs:Array Field)(n:Nat):Prop:=fs.size=n∧∀(j:Nat) (f:Field),fs[j]? =some f→f.offset=j∧P.underlying f.type=some (.int .i64)∧P.cellsOf f.type=1
theorem read_ints {H:Type}{enc:TypeId×Value→H}{P:Program}{w:World}{base:Nat}{spare:Nat→Bool}{held:Bool}{fuel:Nat}{T:TypeId}{cs:List Value}{x:DataW H×List MemPlace}{fs:Array Field}{n:Nat}
  (hT:P.underlying T=some (.struct fs)) (hfs:intFields P fs n) (hC:P.cellsOf T=n) (h:DataW.trod enc P w base spare held fuel T cs=some x):
  cs.length=n∧∀j,j<n→∃k:Int,cs[j]? =some (.int .i64 k)∧(Lit.int .i64 k).wf=true:=by
 obtain ⟨xs,m,_,_,hlen,hxl,hf⟩:=DataW.trod_struct hT h
 refine ⟨hlen.trans hC,fun j hj=> ?_⟩
 obtain ⟨hs,hall⟩:=hfs
 have hjs:j<fs.size:=by omega
 obtain ⟨ho,ht,hc⟩:=hall j fs[j] (by simp [hjs])
 have h1:=hf j fs[j] (by simp [hjs])
 rw [ho,hc,List.getElem?_eq_getElem (by omega)] at h1
 obtain ⟨k,hk,_,hw⟩:=DataW.trod_int ht h1
 refine ⟨k, ?_,hw⟩
 rw [List.drop_eq_getElem_cons (by omega)] at hk
 simp only [List.take_succ_cons,List.take_zero,List.cons.injEq,and_true] at hk
 rw [List.getElem?_eq_getElem (by omega),hk]
instance : Rd Ins where
 ty P T:=∃fs,P.underlying T=some (.struct fs)∧intFields P fs 4∧P.cellsOf T=4
 fine x:=(Lit.int .i64 x.op).wf=true∧(Lit.int .i64 x.a).wf=true∧(Lit.int .i64 x.b).wf=true∧(Lit.int .i64 x.c).wf=true
 read:=by
  rintro H enc P w base spare held fuel T cs x ⟨fs,hT,hfs,hC⟩ h _
  obtain ⟨hl,hj⟩:=read_ints hT hfs hC h
  obtain ⟨k0,e0,w0⟩:=hj 0 (by omega)
  obtain ⟨k1,e1,w1⟩:=hj 1 (by omega)
  obtain ⟨k2,e2,w2⟩:=hj 2 (by omega)
  obtain ⟨k3,e3,w3⟩:=hj 3 (by omega)
  match cs,hl with
  | [c0,c1,c2,c3],_=>
   simp only [List.getElem?_cons_zero,List.getElem?_cons_succ,Option.some.injEq] at e0 e1 e2 e3
   subst e0 e1 e2 e3
   exact ⟨⟨k0,k1,k2,k3⟩,rfl,trivial,w0,w1,w2,w3⟩
theorem weights_slice {H:Type}{P:Program}{T e:TypeId}{elems spare:List (DataW H)}(hT:P.underlying T=some (.slice e))(h:∀n∈DataW.weights P T (.slice elems spare),n≤reachBytes):
  (elems.length+spare.length)*P.bytesOf e≤reachBytes∧∀d∈elems,∀n∈DataW.weights P e d,n≤reachBytes:=by
 unfold DataW.weights at h
 rw [hT] at h
 refine ⟨h _ (by simp),fun d hd n hn=>h n ?_⟩
 have:∀l:List (DataW H),d∈l→n∈DataW.weightsAll P e l:=by
  intro l hl
  induction l with
  |nil=>cases hl
  |cons y l ih=>
   unfold DataW.weightsAll
   rcases List.mem_cons.1 hl with rfl|hl
   ·exact List.mem_append.2 (.inl hn)
   ·exact List.mem_append.2 (.inr (ih hl))
 simp only [List.mem_cons,List.mem_append]
 exact .inr (.inl (this _ hd))
instance {α:Type}[Rd α]:Rd (Sl α) where
 ty P T:=∃e,P.underlying T=some (.slice e)∧P.cellsOf e=Enc.sz α∧1≤P.bytesOf e∧0<Enc.sz α∧Rd.ty α P e
 fine s:=∀i,i<s.l.length→Rd.fine (nth s.l i)
 read:=by
  rintro H enc P w base spare held fuel T cs x ⟨e,hT,hC,hB,hpos,hty⟩ h hw
  rcases open_slice hT h with ⟨rfl,rfl⟩|⟨a,len,cap,m,n,D,Pl,rfl,_,hl,hm,hmm,rfl,hi⟩
  ·refine ⟨⟨none,0, []⟩,rfl,⟨Nat.le_refl _,by simp,by simp,fun hh=>absurd hh (by simp),fun hh=>absurd hh (by simp),fun i j hi=>absurd hi (by simp),fun i hi=>absurd hi (by simp)⟩,fun i hi=>absurd hi (by simp)⟩
  ·obtain ⟨hb,hd⟩:=weights_slice hT hw
   have hlm:len≤m:=by rw [hmm];split<;>omega
   have hlen:len≤140737488355328:=by
    simp only [List.length_map,List.length_range,reachBytes] at hb
    have:(len+(m-len))*1≤(len+(m-len))*P.bytesOf e:=Nat.mul_le_mul_left _ hB
    omega
   have key:∀i,i<len→∃y:α,(∀j,j<Enc.sz α→w.cell? ((a.add (i*Enc.sz α)).add j)=some (Enc.cell y j))∧Enc.inner y w∧Rd.fine y:=by
    intro i hil
    obtain ⟨cs',hc',ht'⟩:=hi i (by omega)
    obtain ⟨y,hy,hin,hf⟩:=Rd.read hty ht' (hd _ (List.mem_map.2 ⟨i,by simpa using hil,rfl⟩))
    obtain ⟨_,hcl,hat⟩:=World.cells?_some hc'
    rw [hC] at hc' hat hcl
    refine ⟨y,fun j hj=> ?_,hin,hf⟩
    rw [hat j (by first|exact hj|omega)]
    subst hy
    simp [cellsOf,hj]
   obtain ⟨F,hF⟩:=Go.Deep.choose_lt key
   let l:=(List.range len).map F
   have hll:l.length=len:=by simp [l]
   have hn:∀i,i<len→nth l i=F i:=by intro i hil;simp [nth,l,hil]
   have hcell0:0<len→∃v,w.cell? a=some v:=fun h0=>⟨_,by
    have h1:=(hF 0 h0).1 0 hpos
    rw [Nat.zero_mul,Addr.add_zero',Addr.add_zero'] at h1
    exact h1⟩
   have hspot:0<len→a.spot=none:=by
    intro h0
    obtain ⟨v,hv⟩:=hcell0 h0
    unfold World.cell? at hv
    split at hv
    ·split at hv
     ·cases hv
     ·rename_i hs
      simpa using hs
    ·cases hv
   refine ⟨⟨some a,cap,l⟩,by simp [cellsOf,Enc.cell,Enc.sz,hll],⟨by rw [hll];exact hl,hm,by rw [hll];exact hlen, ?_, ?_, ?_, ?_⟩, ?_⟩
   ·intro h0
    exact ⟨a,rfl,hspot (by rw [←hll];exact h0)⟩
   ·intro h0
    obtain ⟨v,hv⟩:=hcell0 (by rw [←hll];exact h0)
    exact World.block_lt_of_cell? w a hv
   ·intro i j hi' hj
    rw [hll] at hi'
    show w.cell? ⟨a.block,a.off+i*Enc.sz α+j,none⟩=some (Enc.cell (nth l i) j)
    rw [hn i hi',←(hF i hi').1 j hj]
    have hs:=hspot (by omega)
    rcases a with ⟨b,o,sp⟩
    simp only at hs
    subst hs
    rw [Addr.add_lit,Addr.add_lit]
   ·intro i hi'
    rw [hll] at hi'
    rw [hn i hi']
    exact (hF i hi').2.1
   ·intro i hi'
    rw [hll] at hi'
    rw [hn i hi']
    exact (hF i hi').2.2
def prFields (P:Program)(fs:Array Field):Prop:=
 ∃f0 f1 f2 f3:Field,fs= #[f0,f1,f2,f3]∧(f0.offset=0∧P.cellsOf f0.type=1∧Rd.ty (Sl (Sl Ins)) P f0.type)∧(f1.offset=1∧P.cellsOf f1.type=1∧Rd.ty (Sl Int) P f1.type)∧
  (f2.offset=2∧P.cellsOf f2.type=1∧Rd.ty Int P f2.type)∧(f3.offset=3∧P.cellsOf f3.type=1∧Rd.ty Int P f3.type)
def PR.fine (p:PR):Prop:=Rd.fine p.code∧Rd.fine p.words∧(Lit.int .i64 p.locks).wf=true∧(Lit.int .i64 p.regs).wf=true
theorem weights_agg {H:Type}{P:Program}{T:TypeId}{f0 f1 f2 f3:Field}{d0 d1 d2 d3:DataW H}(hT:P.underlying T=some (.struct #[f0,f1,f2,f3]))(h:∀n∈DataW.weights P T (.agg [d0,d1,d2,d3]),n≤reachBytes):
  (∀n∈DataW.weights P f0.type d0,n≤reachBytes)∧(∀n∈DataW.weights P f1.type d1,n≤reachBytes)∧(∀n∈DataW.weights P f2.type d2,n≤reachBytes)∧(∀n∈DataW.weights P f3.type d3,n≤reachBytes):=by
 unfold DataW.weights at h
 rw [hT] at h
 simp only [List.map_cons,List.map_nil,DataW.weightsEach,List.append_nil,List.mem_append] at h
 exact ⟨fun n hn=>h n (.inl hn),fun n hn=>h n (.inr (.inl hn)),fun n hn=>h n (.inr (.inr (.inl hn))),fun n hn=>h n (.inr (.inr (.inr hn)))⟩
theorem open_PR {H:Type}{enc:TypeId×Value→H}{P:Program}{w:World}{base:Nat}{spare:Nat→Bool}{held:Bool}{r:Go.Reach}{b0:Nat}{T:TypeId}{fs:Array Field}{v:Value}{d:DataW H}{p:List MemPlace}
  (hT:P.underlying T=some (.struct fs)) (hfs:prFields P fs) (hC:P.cellsOf T=4) (hv:Value.okWide P w r b0 T v) (h:DataW.Trod enc P w base spare held T v d p) (hw:∀n∈DataW.weights P T d,n≤reachBytes):
  ∃q:PR,v=q.val∧q.At w∧q.fine:=by
 obtain ⟨f0,f1,f2,f3,rfl,⟨o0,c0,t0⟩,⟨o1,c1,t1⟩,⟨o2,c2,t2⟩,⟨o3,c3,t3⟩⟩:=hfs
 obtain ⟨cs,rfl,hsz⟩:=okWide_struct hT hv
 obtain ⟨l⟩:=cs
 match l,hsz.trans hC with
 | [v0,v1,v2,v3],_=>
  obtain ⟨fuel,hf⟩:=h
  obtain ⟨xs,n,_,hx,_,hlen,hg⟩:=DataW.trod_struct hT hf
  match xs,hlen with
  | [y0,y1,y2,y3],_=>
   simp only [Prod.mk.injEq,List.map_cons,List.map_nil] at hx
   rw [hx.1] at hw
   obtain ⟨w0,w1,w2,w3⟩:=weights_agg hT hw
   have g0:=hg 0 f0 rfl
   have g1:=hg 1 f1 rfl
   have g2:=hg 2 f2 rfl
   have g3:=hg 3 f3 rfl
   rw [o0,c0] at g0
   rw [o1,c1] at g1
   rw [o2,c2] at g2
   rw [o3,c3] at g3
   simp [Value.cells] at g0 g1 g2 g3
   obtain ⟨s0,e0,i0,k0⟩:=Rd.read t0 g0 w0
   obtain ⟨s1,e1,i1,k1⟩:=Rd.read t1 g1 w1
   obtain ⟨s2,e2,i2,k2⟩:=Rd.read t2 g2 w2
   obtain ⟨s3,e3,i3,k3⟩:=Rd.read t3 g3 w3
   simp [cellsOf,Enc.cell,Enc.sz] at e0 e1 e2 e3
   subst e0 e1 e2 e3
   exact ⟨⟨s0,s1,s2,s3⟩,rfl,⟨i0,i1⟩,k0,k1,k2,k3⟩
end Go.Proofs.Ytmbfcgpneflbmaa
namespace Go.Proofs.Ytmbfcgpneflbmaa
open Go.ChangeShapes Go.WideShapes Go.ChangeAt Go.RowKit
set_option linter.unusedSimpArgs false
set_option linter.unusedVariables false
theorem own :ownKnob Try.prog.godebug=none:=by kernel_rfl
theorem laidOut :laidOutB Try.prog=true:=by kernel_rfl
theorem ty_int :Rd.ty Int Try.prog 3:=Try.underlying3
theorem ty_ins :Rd.ty Ins Try.prog 47:=by
 refine ⟨_,Try.underlying47,⟨rfl,fun j f hf=> ?_⟩,by kernel_rfl⟩
 rcases j with _|_|_|_|j<;>simp at hf<;>subst hf<;>exact ⟨rfl,Try.underlying3,by kernel_rfl⟩
theorem ty_ints :Rd.ty (Sl Int) Try.prog 23:=⟨_,Try.underlying23,by kernel_rfl,of_decide_eq_true (by kernel_rfl),by decide,ty_int⟩
theorem ty_code :Rd.ty (Sl Ins) Try.prog 45:=⟨_,Try.underlying45,by kernel_rfl,of_decide_eq_true (by kernel_rfl),by decide,ty_ins⟩
theorem ty_codes :Rd.ty (Sl (Sl Ins)) Try.prog 22:=⟨_,Try.underlying22,by kernel_rfl,of_decide_eq_true (by kernel_rfl),by decide,ty_code⟩
theorem ty_pr :∃fs,Try.prog.underlying 25=some (.struct fs)∧prFields Try.prog fs:=
 ⟨_,Try.underlying25,_,_,_,_,rfl,⟨rfl,by kernel_rfl,ty_codes⟩,⟨rfl,by kernel_rfl,ty_ints⟩,⟨rfl,by kernel_rfl,ty_int⟩,⟨rfl,by kernel_rfl,ty_int⟩⟩
section
variable {α:Type}[Enc α]
def ofSl (s:Sl α):Ls α:=⟨.slice s.A s.l.length s.cap,s.l⟩
theorem ofSl_at {s:Sl α}{w:World}(h:s.At w):(ofSl s).At w:=⟨s.A,s.cap,rfl,h⟩
def ofSl2 (s:Sl (Sl α)):Ls (Ls α):=⟨.slice s.A s.l.length s.cap,s.l.map ofSl⟩
theorem ofSl2_at {s:Sl (Sl α)}{w:World}(h:s.At w):(ofSl2 s).At w:=by
 refine ⟨s.A,s.cap,by simp [ofSl2],⟨by simpa [ofSl2] using h.le,h.max,by simpa [ofSl2] using h.len,by simpa [ofSl2] using h.some,by simpa [ofSl2] using h.lt',fun i j hi hj=> ?_,fun i hi=> ?_⟩⟩
 ·have hi' :i<s.l.length:=by simpa [ofSl2] using hi
  show w.cell? _=some (Enc.cell (nth (s.l.map ofSl) i) j)
  rw [nth_map' ofSl _ _ hi']
  exact h.cell i j hi' hj
 ·have hi' :i<s.l.length:=by simpa [ofSl2] using hi
  show Enc.inner (nth (s.l.map ofSl) i) w
  rw [nth_map' ofSl _ _ hi']
  exact ofSl_at (h.inner i hi')
end
theorem pr_ls (q:PR)(w:World)(h:q.At w):∃(code:Ls (Ls Ins)) (words:Ls Int) (locks regs:Int),q.val= .agg #[code.v,words.v, .int .i64 locks, .int .i64 regs]∧code.At w∧words.At w:=
 ⟨ofSl2 q.code,ofSl q.words,q.locks,q.regs,rfl,ofSl2_at h.code,ofSl_at h.words⟩
end Go.Proofs.Ytmbfcgpneflbmaa
namespace Go.Proofs.Ytmbfcgpneflbmaa
open Go.RowKit
set_option linter.unusedSimpArgs false
set_option linter.unusedVariables false
set_option maxRecDepth 100000
set_option maxHeartbeats 2000000
theorem and_t' {p:Prop}[Decidable p]{b c:Bool}(h:p)(e:b=c):b=(decide p&&c):=by rw [decide_eq_true h,e];rfl
theorem and_f' {p:Prop}[Decidable p]{c:Bool}(h:¬p):false=(decide p&&c):=by rw [decide_eq_false h];rfl
def ableT (code:Ls (Ls Ins))(thr:Ls ThL)(owner:List Int)(t:Nat):Bool:=decide ((nth thr.l t).pc<((nth code.l t).l.length:Int))&&ableL owner (nth thr.l t).wait.l.length (nextIns (nth code.l t).l (nth thr.l t).pc)
def mayT (mode:Int)(thr:Ls ThL)(t k:Nat):List Int:=((List.range k).filter (mayK mode (nth thr.l t).wait.l)).map fun k=>((8*t+k+1:Nat):Int)
def moveT (mode:Int)(code:Ls (Ls Ins))(thr:Ls ThL)(owner:List Int)(t:Nat):List Int:=(if ableT code thr owner t=true then [((8*t:Nat):Int)] else [])++mayT mode thr t (nth thr.l t).wait.l.length
theorem mayT_len (mode:Int)(thr:Ls ThL)(t k:Nat):(mayT mode thr t k).length≤k:=by
 unfold mayT
 rw [List.length_map]
 exact Nat.le_trans (List.length_filter_le _ _) (by simp)
theorem mayT_t {mode:Int}{thr:Ls ThL}{t k:Nat}(h:mayK mode (nth thr.l t).wait.l k=true):mayT mode thr t (k+1)=mayT mode thr t k++ [((8*t+k+1:Nat):Int)]:=by
 unfold mayT;rw [List.range_succ,List.filter_append,List.map_append];simp [h]
theorem mayT_f {mode:Int}{thr:Ls ThL}{t k:Nat}(h:mayK mode (nth thr.l t).wait.l k=false):mayT mode thr t (k+1)=mayT mode thr t k:=by
 unfold mayT;rw [List.range_succ,List.filter_append,List.map_append];simp [h]
def movesL (mode:Int)(code:Ls (Ls Ins))(thr:Ls ThL)(owner:List Int)(n:Nat):List Int:=(List.range n).flatMap (moveT mode code thr owner)
theorem movesL_succ (mode:Int)(code:Ls (Ls Ins))(thr:Ls ThL)(owner:List Int)(n:Nat):movesL mode code thr owner (n+1)=movesL mode code thr owner n++moveT mode code thr owner n:=by simp [movesL,List.range_succ]
def endT (code:Ls (Ls Ins))(thr:Ls ThL)(t:Nat):Bool:=decide (¬(nth thr.l t).pc<((nth code.l t).l.length:Int))&&decide ((nth thr.l t).wait.l.length=0)
def endedL (code:Ls (Ls Ins))(thr:Ls ThL):Bool:=(List.range code.l.length).all (endT code thr)
theorem endT_t {code:Ls (Ls Ins)}{thr:Ls ThL}{t:Nat}(h:¬(nth thr.l t).pc<((nth code.l t).l.length:Int))(h2:(nth thr.l t).wait.l.length=0):endT code thr t=true:=by unfold endT;rw [decide_eq_true h,decide_eq_true h2];rfl
theorem endedL_t {code:Ls (Ls Ins)}{thr:Ls ThL}(h:∀j,j<code.l.length→endT code thr j=true):endedL code thr=true:=by
 unfold endedL;rw [List.all_eq_true];intro j hj;exact h j (by simpa using hj)
theorem endedL_f {code:Ls (Ls Ins)}{thr:Ls ThL}{t:Nat}(ht:t<code.l.length)(h:(nth thr.l t).pc<((nth code.l t).l.length:Int)∨¬(nth thr.l t).wait.l.length=0):endedL code thr=false:=by
 unfold endedL;rw [List.all_eq_false]
 refine ⟨t,by simpa using ht, ?_⟩
 unfold endT
 rcases h with h|h
 ·rw [decide_eq_false (by omega)];simp
 ·rw [decide_eq_false h];simp
theorem mayK_t0 {m:Int}{l:List Wt}{k:Nat}(h:k=0):mayK m l k=true:=by unfold mayK;simp [h]
theorem mayK_f1 {m:Int}{l:List Wt}{k:Nat}(h:k≠0)(h2:m=1∨(nth l k).lock=true):mayK m l k=false:=by unfold mayK;rcases h2 with h2|h2<;>simp [h,h2]
theorem mayK_f2 {m:Int}{l:List Wt}{k:Nat}(h:k≠0)(i:Nat)(hi:i<k)(h2:(nth l i).lock=true∨(nth l i).wh=(nth l k).wh):mayK m l k=false:=by
 have e:(List.range k).all (fun i=> !((nth l i).lock||decide ((nth l i).wh=(nth l k).wh)))=false:=by
  rw [List.all_eq_false]
  exact ⟨i,by simpa using hi,by rcases h2 with h2|h2<;>simp [h2]⟩
 unfold mayK
 rw [e]
 simp [h]
theorem mayK_t {m:Int}{l:List Wt}{k:Nat}(h:m≠1)(h2:(nth l k).lock=false)(ha:∀j,j<k→(nth l j).lock=false∧(nth l j).wh≠(nth l k).wh):mayK m l k=true:=by
 have e:(List.range k).all (fun i=> !((nth l i).lock||decide ((nth l i).wh=(nth l k).wh)))=true:=by
  rw [List.all_eq_true]
  intro j hj
  obtain ⟨h3,h4⟩:=ha j (by simpa using hj)
  simp [h3,h4]
 unfold mayK
 rw [e]
 simp [h,h2]
theorem bit_c (b:Bool)(W:World):
    Rets Try.prog 84 [.bool b] W (fun v w' =>v= .int .i64 (bit b)∧Sh0 W w' []):=by
 refine gen Try.func84 Try.ntmps84 (Sh0.start _:Sh (fun _=>False) W W []) rfl fun a10 h10=>gG h10<|sG (oM 1 rfl<|.nl)<|gK fun _ k12=>sG (oM 1 rfl<|.nl)<|?_;clear h10
 refine gCb rfl (fun hb14=> ?_) fun hb14=> ?_
 ·skip
  refine sG (oM 1 rfl<|.nl)<|gR<|uT<|fun a16 w16 h16=>x_ret1 (fn:=Try.f84) (t:=2) rfl h16 rfl<|⟨?_,(h16.sh.sel [] rfl)⟩
  first|(rw [show b=true by assumption];rfl)|(rw [show b=false by assumption];rfl)
 refine gS<|hK k12<|sG (oM 1 rfl<|.nl)<|gR<|fun a18 w18 h18=>x_ret1 (fn:=Try.f84) (t:=2) rfl h18 rfl<|⟨?_,(h18.sh.sel [] rfl)⟩
 first|(rw [show b=true by assumption];rfl)|(rw [show b=false by assumption];rfl)
theorem may_c (g:Nat)(l:Ls Wt)(k:Nat)(cv:Value)(pw:Value)(locks:Int)(regs:Int)(mode:Int)(tv:Value)(uv:Value)(ov:Value)(pv:Value)(fell:Bool)(W:World)(hB:Blk W g 100 #[cv,pw, .int .i64 locks, .int .i64 regs, .int .i64 mode,tv,uv,ov,pv, .bool fell])(h_l:l.At W)(hk:k<l.l.length):
    Rets Try.prog 82 [.pointer (some ⟨g,0,none⟩),l.v, .int .i64 ((k:Nat):Int)] W (fun v w' =>v= .bool (mayK mode l.l k)∧Sh0 W w' []):=by
 refine gen Try.func82 Try.ntmps82 (Sh0.ext (by intro A hA;simp at hA;rcases hA with rfl|rfl;exact hB;exact h_l) (by intro A hA b hb;simp at hA;rcases hA with rfl|rfl<;>exact hb):Sh (fun _=>False) W W [.rblk g 100 [cv,pw, .int .i64 locks, .int .i64 regs, .int .i64 mode,tv,uv,ov,pv, .bool fell], .at_ l]) rfl fun a10 h10=>gG h10<|sG (oM 1 rfl<|.nl)<|gK fun _ k12=>sG (oM 1 rfl<|oeqN _ 0 rfl<|.nl)<|?_;clear h10
 refine gcd rfl (fun hb14 hp14=> ?_) fun hb14 hp14=> ?_
 ·skip
  refine sG (oM 1 rfl<|.nl)<|gR<|uT<|fun a16 w16 h16=>x_ret1 (fn:=Try.f82) (t:=6) rfl h16 rfl<|⟨?_,(h16.sh.sel [] rfl)⟩
  congr 1
  first|exact (mayK_t0 (by omega)).symm|exact (mayK_f1 (by omega) (by first|exact .inl (by omega)|exact .inr (by assumption))).symm|exact (mayK_f2 (by omega) i (by omega) (by first|exact .inl (by assumption)|exact .inr (by omega))).symm|exact (mayK_t (by omega) (by assumption) (fun j hj=>hall j (by omega))).symm
 refine gS<|hK k12<|gK fun _ k17=>sK fun _ k18=>gRn (oM 1 rfl<|onf fl_100_1 rfl<|olR 0 ti_3 rfl rfl<|oeqI _ _ rfl<|oM 1 rfl<|.nl)<|?_
 rcases dsp (mode=1) with ⟨hb19,hp19⟩|⟨hb19,hp19⟩
 ·skip
  refine gRn (oKs 5 hb19 rfl rfl<|opT hb19 rfl<|.nl)<|nK k18<|gcT rfl rfl<|sG (oM 1 rfl<|.nl)<|gR<|uT<|fun a21 w21 h21=>x_ret1 (fn:=Try.f82) (t:=6) rfl h21 rfl<|⟨?_,(h21.sh.sel [] rfl)⟩
  congr 1
  first|exact (mayK_t0 (by omega)).symm|exact (mayK_f1 (by omega) (by first|exact .inl (by omega)|exact .inr (by assumption))).symm|exact (mayK_f2 (by omega) i (by omega) (by first|exact .inl (by assumption)|exact .inr (by omega))).symm|exact (mayK_t (by omega) (by assumption) (fun j hj=>hall j (by omega))).symm
 refine gNl (aA 1 rfl) fun hl22=>gRn (oG hb19 (r_move rfl rfl) rfl<|oG hb19 (r_move rfl rfl) rfl<|oG hb19 (r_ixN (s:=l) (q:=k) sl_134 ti_144 rfl rfl rfl (fun w h=>(h.at 1 rfl)) (show k<l.l.length from om9)) rfl<|oG hb19 (r_fieldE (r:=0) fl_144_0 rfl rfl rfl) rfl<|oG hb19 (r_lde (s:=l) (i:=k) (v:= .bool ((nth l.l k).lock)) ti_4 rfl rfl rfl (fun w h=>(h.at 1 rfl)) (show k<l.l.length from om9) (Nat.le_of_ble_eq_true rfl) rfl) rfl<|opF hb19 rfl<|.nl)<|nK k18<|gCb rfl (fun hb23=> ?_) fun hb23=> ?_
 ·skip
  refine sG (oM 1 rfl<|.nl)<|gR<|uT<|fun a25 w25 h25=>x_ret1 (fn:=Try.f82) (t:=6) rfl h25 rfl<|⟨?_,(h25.sh.sel [] rfl)⟩
  congr 1
  first|exact (mayK_t0 (by omega)).symm|exact (mayK_f1 (by omega) (by first|exact .inl (by omega)|exact .inr (by assumption))).symm|exact (mayK_f2 (by omega) i (by omega) (by first|exact .inl (by assumption)|exact .inr (by omega))).symm|exact (mayK_t (by omega) (by assumption) (fun j hj=>hall j (by omega))).symm
 refine gS<|hK k17<|gK fun _ k26=>sG (oM 1 rfl<|.nl)<|gB<|fun a29 w29 h29=>x_loop (fun m a w=>∃(i:Nat),(i≤k)∧(∀j,j<i→(nth l.l j).lock=false∧(nth l.l j).wh≠(nth l.l k).wh)∧St 45 (fun _=>False) W a w [(1,l.v),(2, .int .i64 ((k:Nat):Int)),(7, .int .i64 ((i:Nat):Int))] [.rblk g 100 [cv,pw, .int .i64 locks, .int .i64 regs, .int .i64 mode,tv,uv,ov,pv, .bool fell], .at_ l]∧m=k-i) ⟨_,0,(by omega),(fun j hj=>absurd hj (by omega)),h29.nf ⟨rfl,rfl,rfl,trivial⟩,rfl⟩ ?_
 clear h29
 rintro m28 a28 w28 ⟨i,hi,hall,h28,hm28⟩
 refine gG h28<|gK fun _ k30=>sG (oM 2 rfl<|oltN _ _ rfl<|.nl)<|?_;clear h28
 refine gcd rfl (fun hb32 hp32=> ?_) fun hb32 hp32=> ?_
 ·skip
  refine gS<|hK k30<|gK fun _ k33=>gB<|gK fun _ k34=>fun a35 w35 h35=>x_quiet (by kernel_rfl) (by kernel_rfl) h35 fun _ z36=>qQ h35.fr<|qRn (oM 2 rfl<|oxN sl_134 ti_144 (aA 1 rfl) _ om9 rfl<|ofE fl_144_0 rfl<|olE (.bool ((nth l.l i).lock)) ti_4 (aA 1 rfl) om9 rfl<|oM 1 rfl<|.nl)<|?_
  rcases Bool.eq_false_or_eq_true ((nth l.l i).lock) with hb37|hb37
  ·skip
   refine qRn (oKs 11 hb37 rfl rfl<|opT hb37 rfl<|.nl)<|qN z36<|?_;clear h35
   refine hK k34<|gcT rfl rfl<|sG (oM 1 rfl<|.nl)<|gF [6] rfl<|gR<|uB<|uT<|uT<|uB<|uT<|fun a40 w40 h40=>x_ret1 (fn:=Try.f82) (t:=6) rfl h40 rfl<|⟨?_,(h40.sh.sel [] rfl)⟩
   congr 1
   first|exact (mayK_t0 (by omega)).symm|exact (mayK_f1 (by omega) (by first|exact .inl (by omega)|exact .inr (by assumption))).symm|exact (mayK_f2 (by omega) i (by omega) (by first|exact .inl (by assumption)|exact .inr (by omega))).symm|exact (mayK_t (by omega) (by assumption) (fun j hj=>hall j (by omega))).symm
  refine qRn (oG hb37 (r_move rfl rfl) rfl<|oG hb37 (r_move rfl rfl) rfl<|oG hb37 (r_ixN (s:=l) (q:=i) sl_134 ti_144 rfl rfl rfl (fun w h=>(h.at 1 rfl)) (show i<l.l.length from om9)) rfl<|oG hb37 (r_fieldE (r:=1) fl_144_1 rfl rfl rfl) rfl<|oG hb37 (r_lde (s:=l) (i:=i) (v:= .int .i64 ((nth l.l i).wh)) ti_3 rfl rfl rfl (fun w h=>(h.at 1 rfl)) (show i<l.l.length from om9) (Nat.le_of_ble_eq_true rfl) rfl) rfl<|oG hb37 (r_move rfl rfl) rfl<|oG hb37 (r_move rfl rfl) rfl<|oG hb37 (r_ixN (s:=l) (q:=k) sl_134 ti_144 rfl rfl rfl (fun w h=>(h.at 1 rfl)) (show k<l.l.length from om9)) rfl<|oG hb37 (r_fieldE (r:=1) fl_144_1 rfl rfl rfl) rfl<|oG hb37 (r_lde (s:=l) (i:=k) (v:= .int .i64 ((nth l.l k).wh)) ti_3 rfl rfl rfl (fun w h=>(h.at 1 rfl)) (show k<l.l.length from om9) (Nat.le_of_ble_eq_true rfl) rfl) rfl<|oG hb37 (r_eqlI (p:=(nth l.l i).wh) (q:=(nth l.l k).wh) rfl rfl rfl) rfl<|opF hb37 rfl<|.nl)<|qN z36<|?_;clear h35
  refine hK k34<|gcd rfl (fun hb52 hp52=> ?_) fun hb52 hp52=> ?_
  ·skip
   refine sG (oM 1 rfl<|.nl)<|gF [6] rfl<|gR<|uB<|uT<|uT<|uB<|uT<|fun a54 w54 h54=>x_ret1 (fn:=Try.f82) (t:=6) rfl h54 rfl<|⟨?_,(h54.sh.sel [] rfl)⟩
   congr 1
   first|exact (mayK_t0 (by omega)).symm|exact (mayK_f1 (by omega) (by first|exact .inl (by omega)|exact .inr (by assumption))).symm|exact (mayK_f2 (by omega) i (by omega) (by first|exact .inl (by assumption)|exact .inr (by omega))).symm|exact (mayK_t (by omega) (by assumption) (fun j hj=>hall j (by omega))).symm
  refine gS<|hK k33<|gL<|gRn (oM 1 rfl<|oadN _ 1 om9 rfl<|oM 1 rfl<|.nl)<|nN<|fun a55 w55 h55=>x_again ⟨_, ?_,i+1, ?_, ?_,h55.nf ⟨rfl,rfl,rfl,trivial⟩,rfl⟩
  · rw [hm28];first|omega|(simp only [lens9];omega)
  · omega
  · intro j hj;rcases Nat.lt_or_ge j i with h|h;(exact hall j h);obtain rfl:j=i:=(by omega);exact ⟨by assumption,by omega⟩
 refine gX<|hK k26<|sG (oM 1 rfl<|.nl)<|gR<|fun a57 w57 h57=>x_ret1 (fn:=Try.f82) (t:=6) rfl h57 rfl<|⟨?_,(h57.sh.sel [] rfl)⟩
 congr 1
 first|exact (mayK_t0 (by omega)).symm|exact (mayK_f1 (by omega) (by first|exact .inl (by omega)|exact .inr (by assumption))).symm|exact (mayK_f2 (by omega) i (by omega) (by first|exact .inl (by assumption)|exact .inr (by omega))).symm|exact (mayK_t (by omega) (by assumption) (fun j hj=>hall j (by omega))).symm
theorem next_c (g t:Nat)(code:Ls (Ls Ins))(thr:Ls ThV)(pw:Value)(locks:Int)(regs:Int)(mode:Int)(uv:Value)(ov:Value)(pv:Value)(fell:Bool)(W:World)(hB:Blk W g 100 #[code.v,pw, .int .i64 locks, .int .i64 regs, .int .i64 mode,thr.v,uv,ov,pv, .bool fell])(h_code:code.At W)(h_thr:thr.At W)(ht:t<code.l.length)(ht2:t<thr.l.length)(hpc:0≤(nth thr.l t).pc):
    Rets Try.prog 80 [.pointer (some ⟨g,0,none⟩), .int .i64 ((t:Nat):Int)] W (fun v w' =>v= .tuple #[(nextIns (nth code.l t).l (nth thr.l t).pc).val, .bool (decide ((nth thr.l t).pc<((nth code.l t).l.length:Int)))]∧Sh0 W w' []):=by
 refine gen Try.func80 Try.ntmps80 (Sh0.ext (by intro A hA;simp at hA;rcases hA with rfl|rfl|rfl;exact hB;exact h_code;exact h_thr) (by intro A hA b hb;simp at hA;rcases hA with rfl|rfl|rfl<;>exact hb):Sh (fun _=>False) W W [.rblk g 100 [code.v,pw, .int .i64 locks, .int .i64 regs, .int .i64 mode,thr.v,uv,ov,pv, .bool fell], .at_ code, .at_ thr]) rfl fun a10 h10=>gG h10<|sK fun _ k11=>gal ti_47 rfl fun b12=>gRn (oM 1 rfl<|.nl)<|nK k11<|sK fun _ k13=>gNl (aA 2 rfl) fun hl14=>gRn (oM 1 rfl<|onf fl_100_0 rfl<|ofB fl_25_0 rfl<|olR 1 ti_22 rfl rfl<|oM 1 rfl<|oxN sl_22 ti_45 (aA 2 rfl) _ om9 rfl<|olE ((nth code.l t).v) ti_45 (aA 2 rfl) om9 rfl<|oM 1 rfl<|.nl)<|nK k13<|sK fun _ k15=>gNl (aA 3 rfl) fun hl16=>gRn (oM 1 rfl<|onf fl_100_2 rfl<|olR 1 ti_98 rfl rfl<|oM 1 rfl<|oxN sl_98 ti_136 (aA 3 rfl) _ om9 rfl<|ofE fl_136_0 rfl<|olI ti_3 (aA 3 rfl) om9 rfl<|oM 1 rfl<|.nl)<|nK k15<|gK fun _ k17=>sK fun _ k18=>gNl (fun w h=>((h.at 2 rfl).nth t (show t<code.l.length from (by omega)))) fun (hl19:((nth code.l t).l).length≤140737488355328)=>gRn (oM 2 rfl<|oln (n:=((nth code.l t).l).length) sl_45 (fun w h=>((h.at 2 rfl).nth t (show t<code.l.length from (by omega)))) rfl<|ogeI _ _ rfl<|.nl)<|nK k18<|?_;clear h10
 refine gcd rfl (fun hb20 hp20=> ?_) fun hb20 hp20=> ?_
 ·skip
  refine sK fun _ k21=>gRn (oV (r_build (cs:= [.int .i64 0, .int .i64 0, .int .i64 0, .int .i64 0]) rfl rfl (by kernel_rfl)) rfl<|.nl)<|gsw 0 ti_47 rfl rfl rfl<|gRn (oM 1 rfl<|.nl)<|nK k21<|gF [4,5] rfl<|gR<|uT<|fun a23 w23 h23=>x_retct (fn:=Try.f80) (t:=4) (u:=5) (i:=0) ti_47 rfl h23 rfl rfl rfl rfl<|⟨?_,(h23.sh.sel [] rfl)⟩
  first|(rw [nextIns_t (by omega),decide_eq_true (by omega)];rfl)|(rw [nextIns_f (by omega),decide_eq_false (by omega)];rfl)
 refine gS<|hK k17<|gF [4,6,7] rfl<|sK fun _ k24=>gRn (oM 2 rfl<|oxI sl_45 ti_47 (fun w h=>((h.at 2 rfl).nth t (show t<code.l.length from (by omega)))) om9 rfl<|olw2 [.int .i64 ((nth ((nth code.l t).l) (((nth thr.l t).pc).toNat)).op), .int .i64 ((nth ((nth code.l t).l) (((nth thr.l t).pc).toNat)).a), .int .i64 ((nth ((nth code.l t).l) (((nth thr.l t).pc).toNat)).b), .int .i64 ((nth ((nth code.l t).l) (((nth thr.l t).pc).toNat)).c)] ti_47 (fun w h=>((h.at 2 rfl).nth t (show t<code.l.length from (by omega)))) om9 rfl<|.nl)<|gsw 0 ti_47 rfl rfl rfl<|gRn (oM 1 rfl<|.nl)<|nK k24<|gR<|fun a26 w26 h26=>x_retct (fn:=Try.f80) (t:=4) (u:=5) (i:=0) ti_47 rfl h26 rfl rfl rfl rfl<|⟨?_,(h26.sh.sel [] rfl)⟩
 first|(rw [nextIns_t (by omega),decide_eq_true (by omega)];rfl)|(rw [nextIns_f (by omega),decide_eq_false (by omega)];rfl)
theorem able_c (g t:Nat)(code:Ls (Ls Ins))(thr:Ls ThL)(owner:Ls Int)(pw:Value)(locks:Int)(regs:Int)(mode:Int)(uv:Value)(pv:Value)(fell:Bool)(W:World)(hB:Blk W g 100 #[code.v,pw, .int .i64 locks, .int .i64 regs, .int .i64 mode,thr.v,uv,owner.v,pv, .bool fell])(h_code:code.At W)(h_thr:thr.At W)(h_owner:owner.At W)(ht:t<code.l.length)(htl:thr.l.length=code.l.length)(hpc:∀t,t<code.l.length→0≤(nth thr.l t).pc)(hlk:∀i,i<(nth code.l t).l.length→(nth (nth code.l t).l i).op=17→0≤(nth (nth code.l t).l i).a∧(nth (nth code.l t).l i).a<owner.l.length):
    Rets Try.prog 81 [.pointer (some ⟨g,0,none⟩), .int .i64 ((t:Nat):Int)] W (fun v w' =>v= .bool (decide ((nth thr.l t).pc<((nth code.l t).l.length:Int))&&ableL owner.l (nth thr.l t).wait.l.length (nextIns (nth code.l t).l (nth thr.l t).pc))∧Sh0 W w' []):=by
 refine gen Try.func81 Try.ntmps81 (Sh0.ext (by intro A hA;simp at hA;rcases hA with rfl|rfl|rfl|rfl;exact hB;exact h_code;exact h_thr;exact h_owner) (by intro A hA b hb;simp at hA;rcases hA with rfl|rfl|rfl|rfl<;>exact hb):Sh (fun _=>False) W W [.rblk g 100 [code.v,pw, .int .i64 locks, .int .i64 regs, .int .i64 mode,thr.v,uv,owner.v,pv, .bool fell], .at_ code, .at_ thr, .at_ owner]) rfl fun a10 h10=>gG h10<|sG (oM 1 rfl<|.nl)<|sK fun _ k12=>gRn (oM 2 rfl<|.nl)<|fun a14 w14 h14=>wl_ex (x_call h14 bd_80 rfl rfl rfl rfl rfl (next_c g t code ⟨thr.v,thr.l.map ThL.toV⟩ _ _ _ _ _ _ _ _ _ (h14.sh.rblk 0 rfl) (h14.sh.at 1 rfl) (ThL.atV (h14.sh.at 2 rfl)) (by first|omega|(simp only [lens9];omega)) (by simp;omega) (by rw [nth_map' _ _ _ (by omega)];exact hpc t (by omega)))) (wanted_none rfl _) ?_;clear h10
 rintro a15 w15 ⟨_,⟨hv15,hs15⟩,hf15⟩
 rw [nth_map' _ _ _ (show t<thr.l.length from (by omega)),show (ThL.toV (nth thr.l t)).pc=(nth thr.l t).pc from rfl] at hv15
 subst hv15
 have h15:St 53 (fun _=>False) W a15 w15 _ _:=⟨hf15,h14.sh.call0 hs15⟩
 clear hf15 hs15
 clear h14
 refine gG h15<|gRn (oM 1 rfl<|oxt rfl<|oxt rfl<|.nl)<|gal ti_47 rfl fun b16=>gsw 0 ti_47 rfl rfl rfl<|gRn (oM 1 rfl<|.nl)<|nK k12<|gK fun _ k18=>sG (oM 1 rfl<|ont rfl<|.nl)<|?_;clear h15
 refine gCb rfl (fun hb20=> ?_) fun hb20=> ?_
 ·have hp20:¬((nth thr.l t).pc<((nth code.l t).l.length:Int)):=by simpa using hb20
  refine sG (oM 1 rfl<|.nl)<|gR<|uT<|fun a22 w22 h22=>x_ret1 (fn:=Try.f81) (t:=4) rfl h22 rfl<|⟨?_,(h22.sh.sel [] rfl)⟩
  congr 1
  first|exact and_f' (by omega)|(refine and_t' (by omega) ?_;unfold ableL;first|(rw [if_pos (by omega)];done)|(rw [if_neg (by omega),if_pos (by omega)];done)|(rw [if_neg (by omega),if_neg (by omega),if_pos (by omega)];first|exact and_f' (by omega)|exact and_t' (by omega) rfl)|(rw [if_neg (by omega),if_neg (by omega),if_neg (by omega)]))
 have hp20:(nth thr.l t).pc<((nth code.l t).l.length:Int):=by simpa using hb20
 refine gS<|hK k18<|?_
 have hpc0:=hpc t (by omega)
 have hnx:=nextIns_t (c:=(nth code.l t).l) (pc:=(nth thr.l t).pc) (by omega)
 have hlk2:=hlk (nth thr.l t).pc.toNat (by omega)
 rw [←hnx] at hlk2
 refine sK fun _ k23=>gNl (aA 3 rfl) fun hl24=>gNl (fun w h=>((h.at 3 rfl).inner t (show t<thr.l.length from (by omega))).2) fun (hl25:(((nth thr.l t).wait).l).length≤140737488355328)=>gRn (oM 1 rfl<|onf fl_100_2 rfl<|olR 1 ti_98 rfl rfl<|oM 1 rfl<|oxN sl_98 ti_136 (aA 3 rfl) _ om9 rfl<|ofE fl_136_2 rfl<|olE (((nth thr.l t).wait).v) ti_134 (aA 3 rfl) om9 rfl<|oln (n:=(((nth thr.l t).wait).l).length) sl_134 (fun w h=>((h.at 3 rfl).inner t (show t<thr.l.length from (by omega))).2) rfl<|oM 1 rfl<|.nl)<|nK k23<|gK fun _ k26=>sG (ofB fl_47_0 rfl<|olB 0 ti_3 rfl rfl<|.nl)<|gB<|gK fun _ k28=>sG (oeqI _ _ rfl<|oM 1 rfl<|.nl)<|gcd rfl (fun hb30 hp30=> ?_) fun hb30 hp30=> ?_
 ·skip
  refine gS<|hK k28<|gcT rfl hb30<|sG (oM 1 rfl<|oltN _ 3 rfl<|oM 1 rfl<|.nl)<|gF [4] rfl<|gR<|uB<|uT<|fun a32 w32 h32=>x_ret1 (fn:=Try.f81) (t:=4) rfl h32 rfl<|⟨?_,(h32.sh.sel [] rfl)⟩
  congr 1
  first|exact and_f' (by omega)|(refine and_t' (by omega) ?_;unfold ableL;first|(rw [if_pos (by omega)];done)|(rw [if_neg (by omega),if_pos (by omega)];done)|(rw [if_neg (by omega),if_neg (by omega),if_pos (by omega)];first|exact and_f' (by omega)|exact and_t' (by omega) rfl)|(rw [if_neg (by omega),if_neg (by omega),if_neg (by omega)]))
 refine sG (oeqI _ _ rfl<|oM 1 rfl<|.nl)<|gF [0,5,7,26,27] rfl<|gcd rfl (fun hb34 hp34=> ?_) fun hb34 hp34=> ?_
 ·skip
  refine gS<|hK k28<|gcT rfl hb34<|sG (oM 1 rfl<|oltN _ 3 rfl<|oM 1 rfl<|.nl)<|gR<|uB<|uT<|fun a36 w36 h36=>x_ret1 (fn:=Try.f81) (t:=4) rfl h36 rfl<|⟨?_,(h36.sh.sel [] rfl)⟩
  congr 1
  first|exact and_f' (by omega)|(refine and_t' (by omega) ?_;unfold ableL;first|(rw [if_pos (by omega)];done)|(rw [if_neg (by omega),if_pos (by omega)];done)|(rw [if_neg (by omega),if_neg (by omega),if_pos (by omega)];first|exact and_f' (by omega)|exact and_t' (by omega) rfl)|(rw [if_neg (by omega),if_neg (by omega),if_neg (by omega)]))
 refine gL<|gRn (oeqI _ _ rfl<|oM 1 rfl<|.nl)<|nK k28<|gcd rfl (fun hb37 hp37=> ?_) fun hb37 hp37=> ?_
 ·skip
  refine sG (oM 1 rfl<|oltN _ 3 rfl<|oM 1 rfl<|.nl)<|gR<|uB<|uT<|fun a39 w39 h39=>x_ret1 (fn:=Try.f81) (t:=4) rfl h39 rfl<|⟨?_,(h39.sh.sel [] rfl)⟩
  congr 1
  first|exact and_f' (by omega)|(refine and_t' (by omega) ?_;unfold ableL;first|(rw [if_pos (by omega)];done)|(rw [if_neg (by omega),if_pos (by omega)];done)|(rw [if_neg (by omega),if_neg (by omega),if_pos (by omega)];first|exact and_f' (by omega)|exact and_t' (by omega) rfl)|(rw [if_neg (by omega),if_neg (by omega),if_neg (by omega)]))
 refine gK fun _ k40=>sG (oeqI _ _ rfl<|oM 1 rfl<|.nl)<|gcd rfl (fun hb42 hp42=> ?_) fun hb42 hp42=> ?_
 ·skip
  refine gS<|hK k40<|gcT rfl hb42<|sG (oM 1 rfl<|oeqN _ 0 rfl<|oM 1 rfl<|.nl)<|gR<|uB<|uT<|fun a44 w44 h44=>x_ret1 (fn:=Try.f81) (t:=4) rfl h44 rfl<|⟨?_,(h44.sh.sel [] rfl)⟩
  congr 1
  first|exact and_f' (by omega)|(refine and_t' (by omega) ?_;unfold ableL;first|(rw [if_pos (by omega)];done)|(rw [if_neg (by omega),if_pos (by omega)];done)|(rw [if_neg (by omega),if_neg (by omega),if_pos (by omega)];first|exact and_f' (by omega)|exact and_t' (by omega) rfl)|(rw [if_neg (by omega),if_neg (by omega),if_neg (by omega)]))
 refine gL<|gRn (oeqI _ _ rfl<|oM 1 rfl<|.nl)<|nK k40<|gcd rfl (fun hb45 hp45=> ?_) fun hb45 hp45=> ?_
 ·skip
  refine sG (oM 1 rfl<|oeqN _ 0 rfl<|oM 1 rfl<|.nl)<|gR<|uB<|uT<|fun a47 w47 h47=>x_ret1 (fn:=Try.f81) (t:=4) rfl h47 rfl<|⟨?_,(h47.sh.sel [] rfl)⟩
  congr 1
  first|exact and_f' (by omega)|(refine and_t' (by omega) ?_;unfold ableL;first|(rw [if_pos (by omega)];done)|(rw [if_neg (by omega),if_pos (by omega)];done)|(rw [if_neg (by omega),if_neg (by omega),if_pos (by omega)];first|exact and_f' (by omega)|exact and_t' (by omega) rfl)|(rw [if_neg (by omega),if_neg (by omega),if_neg (by omega)]))
 refine sG (oeqI _ _ rfl<|oM 1 rfl<|.nl)<|gcd rfl (fun hb49 hp49=> ?_) fun hb49 hp49=> ?_
 ·skip
  refine gK fun _ k50=>fun a51 w51 h51=>x_quiet (by kernel_rfl) (by kernel_rfl) h51 fun _ z52=>qQ h51.fr<|qRn (oM 1 rfl<|oeqN _ 0 rfl<|oM 1 rfl<|.nl)<|?_
  rcases dsp ((((nth thr.l t).wait).l).length=0) with ⟨hb53,hp53⟩|⟨hb53,hp53⟩
  ·skip
   refine qRn (oG hb53 (r_move rfl rfl) rfl<|oG hb53 (r_nil rfl rfl) rfl<|oG hb53 (r_fieldB (r:=7) fl_100_4 rfl rfl rfl) rfl<|oG hb53 (r_ldbR ti_23 rfl rfl (fun w h=>h.rblk 1 rfl) rfl) rfl<|oG hb53 (r_fieldB (r:=1) fl_47_1 rfl rfl rfl) rfl<|oG hb53 (r_ldb (i:=0) ti_3 rfl rfl rfl rfl) rfl<|.nl)<|?_
   have hl61:owner.l.length≤140737488355328:=(h51.sh.at 4 rfl).len
   refine qRn (oG hb53 (r_ixI (s:=owner) (q:=(nextIns (nth code.l t).l (nth thr.l t).pc).a) sl_23 ti_3 rfl rfl rfl (fun w h=>(h.at 4 rfl)) (show 0≤(nextIns (nth code.l t).l (nth thr.l t).pc).a∧(nextIns (nth code.l t).l (nth thr.l t).pc).a<owner.l.length from om9)) rfl<|oG hb53 (r_lde (s:=owner) (i:=((nextIns (nth code.l t).l (nth thr.l t).pc).a).toNat) (v:= .int .i64 (nth owner.l (((nextIns (nth code.l t).l (nth thr.l t).pc).a).toNat))) ti_3 rfl rfl rfl (fun w h=>(h.at 4 rfl)) (show ((nextIns (nth code.l t).l (nth thr.l t).pc).a).toNat<owner.l.length from om9) (Nat.le_of_ble_eq_true rfl) rfl) rfl<|oG hb53 (r_eqlI (p:=nth owner.l (((nextIns (nth code.l t).l (nth thr.l t).pc).a).toNat)) (q:=(-1)) rfl rfl rfl) rfl<|opT hb53 rfl<|oM 1 rfl<|.nl)<|qN z52<|?_;clear h51
   refine hK k50<|gF [4] rfl<|gR<|uB<|uT<|fun a64 w64 h64=>x_ret1 (fn:=Try.f81) (t:=4) rfl h64 rfl<|⟨?_,(h64.sh.sel [] rfl)⟩
   congr 1
   first|exact and_f' (by omega)|(refine and_t' (by omega) ?_;unfold ableL;first|(rw [if_pos (by omega)];done)|(rw [if_neg (by omega),if_pos (by omega)];done)|(rw [if_neg (by omega),if_neg (by omega),if_pos (by omega)];first|exact and_f' (by omega)|exact and_t' (by omega) rfl)|(rw [if_neg (by omega),if_neg (by omega),if_neg (by omega)]))
  refine qRn (oKs 9 hb53 rfl rfl<|opF hb53 rfl<|oM 1 rfl<|.nl)<|qN z52<|?_;clear h51
  refine hK k50<|gF [4] rfl<|gR<|uB<|uT<|fun a66 w66 h66=>x_ret1 (fn:=Try.f81) (t:=4) rfl h66 rfl<|⟨?_,(h66.sh.sel [] rfl)⟩
  congr 1
  first|exact and_f' (by omega)|(refine and_t' (by omega) ?_;unfold ableL;first|(rw [if_pos (by omega)];done)|(rw [if_neg (by omega),if_pos (by omega)];done)|(rw [if_neg (by omega),if_neg (by omega),if_pos (by omega)];first|exact and_f' (by omega)|exact and_t' (by omega) rfl)|(rw [if_neg (by omega),if_neg (by omega),if_neg (by omega)]))
 refine gS<|hK k26<|sG (oM 1 rfl<|.nl)<|gR<|fun a68 w68 h68=>x_ret1 (fn:=Try.f81) (t:=4) rfl h68 rfl<|⟨?_,(h68.sh.sel [] rfl)⟩
 congr 1
 first|exact and_f' (by omega)|(refine and_t' (by omega) ?_;unfold ableL;first|(rw [if_pos (by omega)];done)|(rw [if_neg (by omega),if_pos (by omega)];done)|(rw [if_neg (by omega),if_neg (by omega),if_pos (by omega)];first|exact and_f' (by omega)|exact and_t' (by omega) rfl)|(rw [if_neg (by omega),if_neg (by omega),if_neg (by omega)]))
theorem moves_c (g:Nat)(code:Ls (Ls Ins))(thr:Ls ThL)(owner:Ls Int)(pw:Value)(locks:Int)(regs:Int)(mode:Int)(uv:Value)(pv:Value)(fell:Bool)(W:World)(hB:Blk W g 100 #[code.v,pw, .int .i64 locks, .int .i64 regs, .int .i64 mode,thr.v,uv,owner.v,pv, .bool fell])(h_code:code.At W)(h_thr:thr.At W)(h_owner:owner.At W)(hcl:code.l.length≤4)(htl:thr.l.length=code.l.length)(hpc:∀t,t<code.l.length→0≤(nth thr.l t).pc)(hlk:∀t,t<code.l.length→∀i,i<(nth code.l t).l.length→(nth (nth code.l t).l i).op=17→0≤(nth (nth code.l t).l i).a∧(nth (nth code.l t).l i).a<owner.l.length)(hw:∀t,t<code.l.length→(nth thr.l t).wait.l.length≤3):
    Rets Try.prog 47 [.pointer (some ⟨g,0,none⟩)] W (fun v w' =>∃s:Ls Int,v=s.v∧s.l=movesL mode code thr owner.l code.l.length∧Sh0 W w' [.own 3 s]):=by
 refine gen Try.func47 Try.ntmps47 (Sh0.ext (by intro A hA;simp at hA;rcases hA with rfl|rfl|rfl|rfl;exact hB;exact h_code;exact h_thr;exact h_owner) (by intro A hA b hb;simp at hA;rcases hA with rfl|rfl|rfl|rfl<;>exact hb):Sh (fun _=>False) W W [.rblk g 100 [code.v,pw, .int .i64 locks, .int .i64 regs, .int .i64 mode,thr.v,uv,owner.v,pv, .bool fell], .at_ code, .at_ thr, .at_ owner]) rfl fun a10 h10=>gG h10<|sG (oM 1 rfl<|.nl)<|sG (oM 1 rfl<|.nl)<|gK fun _ k13=>sG (oM 1 rfl<|.nl)<|gB<|fun a17 w17 h17=> ?_;clear h10
 have h16:=h17.nil (α:=Int) 3
 clear h17
 refine x_loop (fun m a w=>∃(t:Nat) (ml:List Int) (vm:Value),(t≤thr.l.length)∧(ml=movesL mode code thr owner.l t)∧(ml.length≤4*t)∧St 60 (fun _=>False) W a w [(0, .pointer (some ⟨g,0,none⟩)),(3,vm),(4, .int .i64 ((t:Nat):Int))] [.rblk g 100 [code.v,pw, .int .i64 locks, .int .i64 regs, .int .i64 mode,thr.v,uv,owner.v,pv, .bool fell], .at_ code, .at_ thr, .at_ owner, .own 3 (⟨vm,ml⟩:Ls Int)]∧m=thr.l.length-t) ⟨_,0, [],(.slice none 0 0),(by omega),(rfl),(by simp),h16.nrm ⟨rfl,rfl,rfl,trivial⟩ [1,2,3,4,0] rfl,rfl⟩ ?_
 clear h16
 rintro m15 a15 w15 ⟨t,ml,vm,ht,hml,hmn,h15,hm15⟩
 refine gG h15<|gK fun _ k18=>sK fun _ k19=>gNl (aA 2 rfl) fun hl20=>gRn (oM 2 rfl<|onf fl_100_2 rfl<|olR 0 ti_98 rfl rfl<|oln sl_98 (aA 2 rfl) rfl<|oltN _ _ rfl<|.nl)<|nK k19<|?_;clear h15
 refine gcd rfl (fun hb21 hp21=> ?_) fun hb21 hp21=> ?_
 ·skip
  refine gS<|hK k18<|gK fun _ k22=>gB<|sK fun _ k23=>gRn (oM 2 rfl<|.nl)<|gC (fun _ _ h_=>xCl h_ bd_81 rfl (able_c g t code thr owner _ _ _ _ _ _ _ _ (h_.sh.rblk 0 rfl) (h_.sh.at 1 rfl) (h_.sh.at 2 rfl) (h_.sh.at 3 rfl) (by omega) htl hpc (hlk t (by omega)))) rfl<|?_
  rintro _ _ w24 ⟨rfl,hs24⟩
  refine gWk hs24 rfl<|gU<|gRn (oM 1 rfl<|.nl)<|nK k23<|gK fun _ k25=>sG (oM 1 rfl<|.nl)<|?_;clear hs24
  refine gCb rfl (fun hb27=> ?_) fun hb27=> ?_
  ·skip
   refine gL<|gRn (oM 2 rfl<|omlN 8 _ om9 rfl<|.nl)<|gE1 (fun _ _ h_=>x_lit (n:=1) (cs:= [.int .i64 ((8*t:Nat):Int)]) ([((8*t:Nat):Int)]:List Int) h_ sl_23 ti_3 rfl rfl rfl (by decide) rfl (by kernel_rfl) rfl (fun q hq w h=>Flat.inner _ _) (fun q hq b hb=>(Flat.on _ _ hb).elim) rfl rfl) rfl fun v28=>gE1 (fun _ _ h_=>x_app (r:=5) (rm:=0) (s:=(⟨vm,ml⟩:Ls Int)) (m:=(⟨v28, [((8*t:Nat):Int)]⟩:Ls Int)) h_ sl_23 ti_3 rfl rfl rfl rfl rfl rfl rfl (fun w h=>(h.own 0 rfl)) (fun b hb=>own_on (h_.sh.ok _ (List.mem_of_getElem? (i:=0) rfl)) hb) (fun q hq b hb=>⟨q,hq,hb⟩) rfl rfl rfl inferInstance (show (ml.length+([((8*t:Nat):Int)]).length)*8≤140737488355328∧ml.length+([((8*t:Nat):Int)]).length≤140737488355328 from om9) rfl rfl) rfl fun v29=>gRn (oM 1 rfl<|.nl)<|nK k25<|sG (oM 1 rfl<|.nl)<|gB<|?_
   have hwt:=hw t (by omega)
   intro a32 w32 h32
   refine x_loop (fun m a w=>∃(k:Nat) (ml2:List Int) (vm2:Value),(k≤(nth thr.l t).wait.l.length)∧(ml2=ml++((if ableT code thr owner.l t=true then [((8*t:Nat):Int)] else [])++mayT mode thr t k))∧(ml2.length≤4*t+1+k)∧St 60 (fun _=>False) W a w [(0, .pointer (some ⟨g,0,none⟩)),(3,vm2),(4, .int .i64 ((t:Nat):Int)),(6, .int .i64 ((k:Nat):Int))] [.own 3 (⟨v28, [((8*t:Nat):Int)]⟩:Ls Int), .rblk g 100 [code.v,pw, .int .i64 locks, .int .i64 regs, .int .i64 mode,thr.v,uv,owner.v,pv, .bool fell], .at_ code, .at_ thr, .at_ owner, .own 3 (⟨vm2,ml2⟩:Ls Int)]∧m=(nth thr.l t).wait.l.length-k) ⟨_,0,ml++([((8*t:Nat):Int)]),v29,(by omega),(by first|(rw [if_pos (by assumption)];simp [mayT])|(rw [if_neg (by rw [show ableT code thr owner.l t=false by assumption];decide)];simp [mayT])),(by simp;omega),h32.nf ⟨rfl,rfl,rfl,rfl,trivial⟩,rfl⟩ ?_
   clear h32
   rintro m31 a31 w31 ⟨k,ml2,vm2,hk,hml2,hmn2,h31,hm31⟩
   refine gG h31<|gK fun _ k33=>sK fun _ k34=>gNl (fun w h=>((h.at 3 rfl).inner t (show t<thr.l.length from (by omega))).2) fun (hl35:(((nth thr.l t).wait).l).length≤140737488355328)=>gRn (oM 2 rfl<|onf fl_100_2 rfl<|olR 1 ti_98 rfl rfl<|oM 1 rfl<|oxN sl_98 ti_136 (aA 3 rfl) _ om9 rfl<|ofE fl_136_2 rfl<|olE (((nth thr.l t).wait).v) ti_134 (aA 3 rfl) om9 rfl<|oln (n:=(((nth thr.l t).wait).l).length) sl_134 (fun w h=>((h.at 3 rfl).inner t (show t<thr.l.length from (by omega))).2) rfl<|oltN _ _ rfl<|.nl)<|nK k34<|?_;clear h31
   refine gcd rfl (fun hb36 hp36=> ?_) fun hb36 hp36=> ?_
   ·skip
    refine gS<|hK k33<|gK fun _ k37=>gB<|sK fun _ k38=>gRn (oM 2 rfl<|onf fl_100_2 rfl<|olR 1 ti_98 rfl rfl<|oM 1 rfl<|oxN sl_98 ti_136 (aA 3 rfl) _ om9 rfl<|ofE fl_136_2 rfl<|olE (((nth thr.l t).wait).v) ti_134 (aA 3 rfl) om9 rfl<|oM 1 rfl<|.nl)<|gC (fun _ _ h_=>xCl h_ bd_82 rfl (may_c g ((nth thr.l t).wait) k _ _ _ _ _ _ _ _ _ _ _ (h_.sh.rblk 1 rfl) ((h_.sh.at 3 rfl).inner t (show t<thr.l.length from (by omega))).2 (by omega))) rfl<|?_
    rintro _ _ w39 ⟨rfl,hs39⟩
    refine gWk hs39 rfl<|gU<|gRn (oM 1 rfl<|.nl)<|nK k38<|sG (oM 1 rfl<|.nl)<|gF [0,3,4,6,50] rfl<|?_;clear hs39
    refine gCb rfl (fun hb41=> ?_) fun hb41=> ?_
    ·skip
     refine gL<|gRn (oM 2 rfl<|omlN 8 _ om9 rfl<|oM 1 rfl<|oadN _ _ om9 rfl<|oadN _ 1 om9 rfl<|.nl)<|gE1 (fun _ _ h_=>x_lit (n:=1) (cs:= [.int .i64 ((((8*t)+k)+1:Nat):Int)]) ([((((8*t)+k)+1:Nat):Int)]:List Int) h_ sl_23 ti_3 rfl rfl rfl (by decide) rfl (by kernel_rfl) rfl (fun q hq w h=>Flat.inner _ _) (fun q hq b hb=>(Flat.on _ _ hb).elim) rfl rfl) rfl fun v42=>gE1 (fun _ _ h_=>x_app (r:=6) (rm:=0) (s:=(⟨vm2,ml2⟩:Ls Int)) (m:=(⟨v42, [((((8*t)+k)+1:Nat):Int)]⟩:Ls Int)) h_ sl_23 ti_3 rfl rfl rfl rfl rfl rfl rfl (fun w h=>(h.own 0 rfl)) (fun b hb=>own_on (h_.sh.ok _ (List.mem_of_getElem? (i:=0) rfl)) hb) (fun q hq b hb=>⟨q,hq,hb⟩) rfl rfl rfl inferInstance (show (ml2.length+([((((8*t)+k)+1:Nat):Int)]).length)*8≤140737488355328∧ml2.length+([((((8*t)+k)+1:Nat):Int)]).length≤140737488355328 from om9) rfl rfl) rfl fun v43=>gRn (oM 1 rfl<|.nl)<|nK k37<|gL<|gRn (oM 1 rfl<|oadN _ 1 om9 rfl<|oM 1 rfl<|.nl)<|nN<|fun a44 w44 h44=>x_again ⟨_, ?_,k+1,ml2++([((((8*t)+k)+1:Nat):Int)]),v43, ?_, ?_, ?_,h44.nrm ⟨rfl,rfl,rfl,rfl,trivial⟩ [1,2,3,4,5,6] rfl,rfl⟩
     · rw [hm31];first|omega|(simp only [lens9];omega)
     · omega
     · first|(rw [mayT_t (by assumption),hml2];simp only [List.append_assoc])|(rw [mayT_f (by assumption),hml2])
     · first|omega|(simp;omega)
    refine gS<|hK k37<|gL<|gRn (oM 1 rfl<|oadN _ 1 om9 rfl<|oM 1 rfl<|.nl)<|nN<|fun a45 w45 h45=>x_again ⟨_, ?_,k+1,ml2,vm2, ?_, ?_, ?_,h45.nf ⟨rfl,rfl,rfl,rfl,trivial⟩,rfl⟩
    · rw [hm31];first|omega|(simp only [lens9];omega)
    · omega
    · first|(rw [mayT_t (by assumption),hml2];simp only [List.append_assoc])|(rw [mayT_f (by assumption),hml2])
    · first|omega|(simp;omega)
   refine gX<|hK k22<|gL<|gRn (oM 1 rfl<|oadN _ 1 om9 rfl<|oM 1 rfl<|.nl)<|nN<|fun a46 w46 h46=>x_again ⟨_, ?_,t+1,ml2,vm2, ?_, ?_, ?_,h46.nrm ⟨rfl,rfl,rfl,trivial⟩ [1,2,3,4,5] rfl,rfl⟩
   · rw [hm15];first|omega|(simp only [lens9];omega)
   · omega
   · rw [movesL_succ,←hml,hml2,moveT,show k=(nth thr.l t).wait.l.length by omega]
   · omega
  refine gS<|hK k25<|sG (oM 1 rfl<|.nl)<|gB<|?_
  have hwt:=hw t (by omega)
  intro a49 w49 h49
  refine x_loop (fun m a w=>∃(k:Nat) (ml2:List Int) (vm2:Value),(k≤(nth thr.l t).wait.l.length)∧(ml2=ml++((if ableT code thr owner.l t=true then [((8*t:Nat):Int)] else [])++mayT mode thr t k))∧(ml2.length≤4*t+1+k)∧St 60 (fun _=>False) W a w [(0, .pointer (some ⟨g,0,none⟩)),(3,vm2),(4, .int .i64 ((t:Nat):Int)),(6, .int .i64 ((k:Nat):Int))] [.rblk g 100 [code.v,pw, .int .i64 locks, .int .i64 regs, .int .i64 mode,thr.v,uv,owner.v,pv, .bool fell], .at_ code, .at_ thr, .at_ owner, .own 3 (⟨vm2,ml2⟩:Ls Int)]∧m=(nth thr.l t).wait.l.length-k) ⟨_,0,ml,vm,(by omega),(by first|(rw [if_pos (by assumption)];simp [mayT])|(rw [if_neg (by rw [show ableT code thr owner.l t=false by assumption];decide)];simp [mayT])),(by simp;omega),h49.nf ⟨rfl,rfl,rfl,rfl,trivial⟩,rfl⟩ ?_
  clear h49
  rintro m48 a48 w48 ⟨k,ml2,vm2,hk,hml2,hmn2,h48,hm48⟩
  refine gG h48<|gK fun _ k50=>sK fun _ k51=>gNl (fun w h=>((h.at 2 rfl).inner t (show t<thr.l.length from (by omega))).2) fun (hl52:(((nth thr.l t).wait).l).length≤140737488355328)=>gRn (oM 2 rfl<|onf fl_100_2 rfl<|olR 0 ti_98 rfl rfl<|oM 1 rfl<|oxN sl_98 ti_136 (aA 2 rfl) _ om9 rfl<|ofE fl_136_2 rfl<|olE (((nth thr.l t).wait).v) ti_134 (aA 2 rfl) om9 rfl<|oln (n:=(((nth thr.l t).wait).l).length) sl_134 (fun w h=>((h.at 2 rfl).inner t (show t<thr.l.length from (by omega))).2) rfl<|oltN _ _ rfl<|.nl)<|nK k51<|?_;clear h48
  refine gcd rfl (fun hb53 hp53=> ?_) fun hb53 hp53=> ?_
  ·skip
   refine gS<|hK k50<|gK fun _ k54=>gB<|sK fun _ k55=>gRn (oM 2 rfl<|onf fl_100_2 rfl<|olR 0 ti_98 rfl rfl<|oM 1 rfl<|oxN sl_98 ti_136 (aA 2 rfl) _ om9 rfl<|ofE fl_136_2 rfl<|olE (((nth thr.l t).wait).v) ti_134 (aA 2 rfl) om9 rfl<|oM 1 rfl<|.nl)<|gC (fun _ _ h_=>xCl h_ bd_82 rfl (may_c g ((nth thr.l t).wait) k _ _ _ _ _ _ _ _ _ _ _ (h_.sh.rblk 0 rfl) ((h_.sh.at 2 rfl).inner t (show t<thr.l.length from (by omega))).2 (by omega))) rfl<|?_
   rintro _ _ w56 ⟨rfl,hs56⟩
   refine gWk hs56 rfl<|gU<|gRn (oM 1 rfl<|.nl)<|nK k55<|sG (oM 1 rfl<|.nl)<|gF [0,3,4,6,50] rfl<|?_;clear hs56
   refine gCb rfl (fun hb58=> ?_) fun hb58=> ?_
   ·skip
    refine gL<|gRn (oM 2 rfl<|omlN 8 _ om9 rfl<|oM 1 rfl<|oadN _ _ om9 rfl<|oadN _ 1 om9 rfl<|.nl)<|gE1 (fun _ _ h_=>x_lit (n:=1) (cs:= [.int .i64 ((((8*t)+k)+1:Nat):Int)]) ([((((8*t)+k)+1:Nat):Int)]:List Int) h_ sl_23 ti_3 rfl rfl rfl (by decide) rfl (by kernel_rfl) rfl (fun q hq w h=>Flat.inner _ _) (fun q hq b hb=>(Flat.on _ _ hb).elim) rfl rfl) rfl fun v59=>gE1 (fun _ _ h_=>x_app (r:=5) (rm:=0) (s:=(⟨vm2,ml2⟩:Ls Int)) (m:=(⟨v59, [((((8*t)+k)+1:Nat):Int)]⟩:Ls Int)) h_ sl_23 ti_3 rfl rfl rfl rfl rfl rfl rfl (fun w h=>(h.own 0 rfl)) (fun b hb=>own_on (h_.sh.ok _ (List.mem_of_getElem? (i:=0) rfl)) hb) (fun q hq b hb=>⟨q,hq,hb⟩) rfl rfl rfl inferInstance (show (ml2.length+([((((8*t)+k)+1:Nat):Int)]).length)*8≤140737488355328∧ml2.length+([((((8*t)+k)+1:Nat):Int)]).length≤140737488355328 from om9) rfl rfl) rfl fun v60=>gRn (oM 1 rfl<|.nl)<|nK k54<|gL<|gRn (oM 1 rfl<|oadN _ 1 om9 rfl<|oM 1 rfl<|.nl)<|nN<|fun a61 w61 h61=>x_again ⟨_, ?_,k+1,ml2++([((((8*t)+k)+1:Nat):Int)]),v60, ?_, ?_, ?_,h61.nrm ⟨rfl,rfl,rfl,rfl,trivial⟩ [1,2,3,4,5] rfl,rfl⟩
    · rw [hm48];first|omega|(simp only [lens9];omega)
    · omega
    · first|(rw [mayT_t (by assumption),hml2];simp only [List.append_assoc])|(rw [mayT_f (by assumption),hml2])
    · first|omega|(simp;omega)
   refine gS<|hK k54<|gL<|gRn (oM 1 rfl<|oadN _ 1 om9 rfl<|oM 1 rfl<|.nl)<|nN<|fun a62 w62 h62=>x_again ⟨_, ?_,k+1,ml2,vm2, ?_, ?_, ?_,h62.nf ⟨rfl,rfl,rfl,rfl,trivial⟩,rfl⟩
   · rw [hm48];first|omega|(simp only [lens9];omega)
   · omega
   · first|(rw [mayT_t (by assumption),hml2];simp only [List.append_assoc])|(rw [mayT_f (by assumption),hml2])
   · first|omega|(simp;omega)
  refine gX<|hK k22<|gL<|gRn (oM 1 rfl<|oadN _ 1 om9 rfl<|oM 1 rfl<|.nl)<|nN<|fun a63 w63 h63=>x_again ⟨_, ?_,t+1,ml2,vm2, ?_, ?_, ?_,h63.nf ⟨rfl,rfl,rfl,trivial⟩,rfl⟩
  · rw [hm15];first|omega|(simp only [lens9];omega)
  · omega
  · rw [movesL_succ,←hml,hml2,moveT,show k=(nth thr.l t).wait.l.length by omega]
  · omega
 refine gX<|hK k13<|sG (oM 2 rfl<|.nl)<|gR<|fun a65 w65 h65=>x_ret1 (fn:=Try.f47) (t:=2) rfl h65 rfl<|⟨⟨vm,ml⟩,rfl, ?_,(h65.sh.sel [4] rfl)⟩
 rw [←show t=code.l.length by omega];exact hml
theorem ended_c (g:Nat)(code:Ls (Ls Ins))(thr:Ls ThL)(pw:Value)(locks:Int)(regs:Int)(mode:Int)(uv:Value)(ov:Value)(pv:Value)(fell:Bool)(W:World)(hB:Blk W g 100 #[code.v,pw, .int .i64 locks, .int .i64 regs, .int .i64 mode,thr.v,uv,ov,pv, .bool fell])(h_code:code.At W)(h_thr:thr.At W)(hcl:code.l.length≤4)(htl:thr.l.length=code.l.length)(hpc:∀t,t<code.l.length→0≤(nth thr.l t).pc):
    Rets Try.prog 46 [.pointer (some ⟨g,0,none⟩)] W (fun v w' =>v= .bool (endedL code thr)∧Sh0 W w' []):=by
 refine gen Try.func46 Try.ntmps46 (Sh0.ext (by intro A hA;simp at hA;rcases hA with rfl|rfl|rfl;exact hB;exact h_code;exact h_thr) (by intro A hA b hb;simp at hA;rcases hA with rfl|rfl|rfl<;>exact hb):Sh (fun _=>False) W W [.rblk g 100 [code.v,pw, .int .i64 locks, .int .i64 regs, .int .i64 mode,thr.v,uv,ov,pv, .bool fell], .at_ code, .at_ thr]) rfl fun a10 h10=>gG h10<|sG (oM 1 rfl<|.nl)<|gK fun _ k12=>sG (oM 1 rfl<|.nl)<|gB<|fun a15 w15 h15=>x_loop (fun m a w=>∃(t:Nat),(t≤thr.l.length)∧(∀j,j<t→endT code thr j=true)∧St 34 (fun _=>False) W a w [(0, .pointer (some ⟨g,0,none⟩)),(3, .int .i64 ((t:Nat):Int))] [.rblk g 100 [code.v,pw, .int .i64 locks, .int .i64 regs, .int .i64 mode,thr.v,uv,ov,pv, .bool fell], .at_ code, .at_ thr]∧m=thr.l.length-t) ⟨_,0,(by omega),(fun j hj=>absurd hj (by omega)),h15.nf ⟨rfl,rfl,trivial⟩,rfl⟩ ?_;clear h10
 clear h15
 rintro m14 a14 w14 ⟨t,ht,hall,h14,hm14⟩
 refine gG h14<|gK fun _ k16=>sK fun _ k17=>gNl (aA 2 rfl) fun hl18=>gRn (oM 2 rfl<|onf fl_100_2 rfl<|olR 0 ti_98 rfl rfl<|oln sl_98 (aA 2 rfl) rfl<|oltN _ _ rfl<|.nl)<|nK k17<|?_;clear h14
 refine gcd rfl (fun hb19 hp19=> ?_) fun hb19 hp19=> ?_
 ·skip
  refine gS<|hK k16<|gK fun _ k20=>gB<|sK fun _ k21=>gRn (oM 2 rfl<|.nl)<|fun a23 w23 h23=>wl_ex (x_call h23 bd_80 rfl rfl rfl rfl rfl (next_c g t code ⟨thr.v,thr.l.map ThL.toV⟩ _ _ _ _ _ _ _ _ _ (h23.sh.rblk 0 rfl) (h23.sh.at 1 rfl) (ThL.atV (h23.sh.at 2 rfl)) (by first|omega|(simp only [lens9];omega)) (by simp;omega) (by rw [nth_map' _ _ _ (by omega)];exact hpc t (by omega)))) (wanted_none rfl _) ?_
  rintro a24 w24 ⟨_,⟨hv24,hs24⟩,hf24⟩
  rw [nth_map' _ _ _ (show t<thr.l.length from (by omega)),show (ThL.toV (nth thr.l t)).pc=(nth thr.l t).pc from rfl] at hv24
  subst hv24
  have h24:St 34 (fun _=>False) W a24 w24 _ _:=⟨hf24,h23.sh.call0 hs24⟩
  clear hf24 hs24
  clear h23
  refine gG h24<|gRn (oM 1 rfl<|oxt rfl<|oxt rfl<|.nl)<|gal ti_47 rfl fun b25=>gsw 0 ti_47 rfl rfl rfl<|gRn (oM 1 rfl<|.nl)<|nK k21<|sK fun _ k27=>gRn (oM 2 rfl<|.nl)<|?_;clear h24
  rcases dsp ((nth thr.l t).pc<((nth code.l t).l.length:Int)) with ⟨hb28,hp28⟩|⟨hb28,hp28⟩
  ·skip
   refine gRn (oKs 10 hb28 rfl rfl<|opT hb28 rfl<|.nl)<|nK k27<|gF [0,3,33] rfl<|gcT rfl rfl<|sG (oM 1 rfl<|.nl)<|gR<|uB<|uT<|uT<|uB<|uT<|fun a30 w30 h30=>x_ret1 (fn:=Try.f46) (t:=2) rfl h30 rfl<|⟨?_,(h30.sh.sel [] rfl)⟩
   congr 1
   first|exact (endedL_t (fun j hj=>hall j (by omega))).symm|exact (endedL_f (t:=t) (by omega) (by omega)).symm
  refine gNl (fun w h=>((h.at 3 rfl).inner t (show t<thr.l.length from (by omega))).2) fun (hl31:(((nth thr.l t).wait).l).length≤140737488355328)=>gRn (oG hb28 (r_move rfl rfl) rfl<|oG hb28 (r_nil rfl rfl) rfl<|oG hb28 (r_fieldB (r:=5) fl_100_2 rfl rfl rfl) rfl<|oG hb28 (r_ldbR ti_98 rfl rfl (fun w h=>h.rblk 1 rfl) rfl) rfl<|oG hb28 (r_move rfl rfl) rfl<|oG hb28 (r_ixN (s:=thr) (q:=t) sl_98 ti_136 rfl rfl rfl (fun w h=>(h.at 3 rfl)) (show t<thr.l.length from om9)) rfl<|oG hb28 (r_fieldE (r:=2) fl_136_2 rfl rfl rfl) rfl<|oG hb28 (r_lde (s:=thr) (i:=t) (v:=((nth thr.l t).wait).v) ti_134 rfl rfl rfl (fun w h=>(h.at 3 rfl)) (show t<thr.l.length from om9) (Nat.le_of_ble_eq_true rfl) rfl) rfl<|oG hb28 (r_len (s:=(nth thr.l t).wait) (n:=(((nth thr.l t).wait).l).length) sl_134 rfl rfl (fun w h=>((h.at 3 rfl).inner t (show t<thr.l.length from om9)).2) rfl) rfl<|oG hb28 (r_gtrN (p:=(((nth thr.l t).wait).l).length) (q:=0) rfl rfl rfl) rfl<|opF hb28 rfl<|.nl)<|nK k27<|gF [0,3,33] rfl<|gcd rfl (fun hb32 hp32=> ?_) fun hb32 hp32=> ?_
  ·skip
   refine sG (oM 1 rfl<|.nl)<|gR<|uB<|uT<|uT<|uB<|uT<|fun a34 w34 h34=>x_ret1 (fn:=Try.f46) (t:=2) rfl h34 rfl<|⟨?_,(h34.sh.sel [] rfl)⟩
   congr 1
   first|exact (endedL_t (fun j hj=>hall j (by omega))).symm|exact (endedL_f (t:=t) (by omega) (by omega)).symm
  refine gS<|hK k20<|gL<|gRn (oM 1 rfl<|oadN _ 1 om9 rfl<|oM 1 rfl<|.nl)<|nN<|fun a35 w35 h35=>x_again ⟨_, ?_,t+1, ?_, ?_,h35.nrm ⟨rfl,rfl,trivial⟩ [1,2,3] rfl,rfl⟩
  · rw [hm14];first|omega|(simp only [lens9];omega)
  · omega
  · intro j hj;rcases Nat.lt_or_ge j t with h|h;(exact hall j h);obtain rfl:j=t:=(by omega);exact endT_t (by omega) (by omega)
 refine gX<|hK k12<|sG (oM 1 rfl<|.nl)<|gR<|fun a37 w37 h37=>x_ret1 (fn:=Try.f46) (t:=2) rfl h37 rfl<|⟨?_,(h37.sh.sel [] rfl)⟩
 congr 1
 first|exact (endedL_t (fun j hj=>hall j (by omega))).symm|exact (endedL_f (t:=t) (by omega) (by omega)).symm
end Go.Proofs.Ytmbfcgpneflbmaa
