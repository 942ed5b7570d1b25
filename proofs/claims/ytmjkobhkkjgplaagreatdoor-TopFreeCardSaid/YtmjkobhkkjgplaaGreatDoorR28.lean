/- Without clashes a program is robust, by its own machines; for every program: the statement holds, under no condition. -/
import Derived.Test.YtmjkobhkkjgplaaGreatDoorQ4
import Derived.ProofKit
import Derived.OpenShut
import Derived.Deep.Slices
import Derived.Carry
import Derived.SizedLaws
import Derived.Test.YtmjkobhkkjgplaaGreatDoorCards
import Derived.Test.YtmjkobhkkjgplaaGreatDoorTie
import Derived.LaidLaws
import Derived.LaidHandle
import Derived.LaidMore
import Derived.Handed
import Derived.SevenTiedAt
namespace Go.Proofs.YtmjkobhkkjgplaaGreatDoor
open Go.RowKit
set_option linter.unusedSimpArgs false
set_option linter.unusedVariables false
set_option maxRecDepth 100000
set_option maxHeartbeats 8000000
theorem and_f9 {a b:Bool}(h:a=false):(a&&b)=false:=by rw [h];rfl
theorem able_lt {c:List Ins}{x:TS}(h:ableV c x=true):x.pc<(c.length:Int):=by
 unfold ableV at h
 simp only [Bool.and_eq_true,decide_eq_true_eq] at h
 exact h.1
theorem where_c (M:MemS)(g gp:Nat)(code:Ls (Ls Ins))(thr:Ls ThQ)(words owner:Ls Int)(q:M.σ)(pw pv:Value)(locks nregs:Int)(fell:Bool)(t:Nat)(regs:Ls Int)(W:World)(hM:MemI Tryz.prog 182 3 M)(hB:Blk W g 173 #[.iface M.T (.pointer (some M.u)), .pointer (some ⟨gp,0,none⟩),thr.v,pv, .bool fell])(hP:Blk W gp 25 #[code.v,pw, .int .i64 locks, .int .i64 nregs])(h_code:code.At W)(h_thr:thr.At W)(hR:MemRd 182 M W words owner q)(hql:(M.qs q).length=code.l.length)(hw3:∀t,t<code.l.length→(nth (M.qs q) t).length≤3)(htl:thr.l.length=code.l.length)(hpc:∀t,t<code.l.length→0≤(nth thr.l t).pc∧(nth thr.l t).pc≤(nth code.l t).l.length)(hlk:∀t,t<code.l.length→∀i,i<(nth code.l t).l.length→(nth (nth code.l t).l i).op=17→0≤(nth (nth code.l t).l i).a∧(nth (nth code.l t).l i).a<owner.l.length)(hge:∀v∈owner.l,-1≤v)(ht:t<code.l.length)(hrv:(nth thr.l t).rv=regs.v)(hreg:regs.At W)(hir:(nth thr.l t).pc<((nth code.l t).l.length:Int)→InsR regs.l.length words.l.length owner.l.length (nextIns (nth code.l t).l (nth thr.l t).pc)):
    Rets Tryz.prog 91 [.pointer (some ⟨g,0,none⟩), .int .i64 ((t:Nat):Int)] W (fun v w' =>∃(wd:Int) (st_ ok:Bool),v= .tuple #[.int .i64 wd, .bool st_, .bool ok]∧whereV (nth code.l t).l (⟨(nth thr.l t).pc,regs.l,nth (M.qs q) t,words.l,owner.l, [],false⟩:TS)=(if ok=true then some (wd,st_) else none)∧Sh0 W w' []):=by
 have hpct:=hpc t ht
 refine gen Tryz.func91 Tryz.ntmps91 (Sh0.ext (by intro A hA;simp only [List.mem_cons,List.not_mem_nil,or_false] at hA;rcases hA with rfl|rfl|rfl|rfl|rfl|rfl|rfl|rfl|rfl;exact hB;exact hP;exact h_code;exact h_thr;exact hR.blk;exact hR.wa;exact hR.oa;exact (fun A hA=>by obtain rfl:=List.mem_singleton.1 hA;exact hR.x);exact hreg) (by intro A hA b hb;simp only [List.mem_cons,List.not_mem_nil,or_false] at hA;rcases hA with rfl|rfl|rfl|rfl|rfl|rfl|rfl|rfl|rfl<;>exact hb):Sh (fun _=>False) W W [.rblk g 173 [.iface M.T (.pointer (some M.u)), .pointer (some ⟨gp,0,none⟩),thr.v,pv, .bool fell], .rblk gp 25 [code.v,pw, .int .i64 locks, .int .i64 nregs], .at_ code, .at_ thr, .rblk M.g0 182 [words.v,owner.v], .at_ words, .at_ owner, .ro [M.X q], .at_ regs]) rfl fun a10 h10=>gG h10<|sG (oM 3 rfl<|.nl)<|sK fun _ k12=>gRn (oM 2 rfl<|.nl)<|fun a14 w14 h14=>wl_ex (x_call h14 bd_128 rfl rfl rfl rfl rfl (pnext_c M g gp code thr words owner q _ _ _ _ _ t _ hM (h14.sh.rblk 0 rfl) (h14.sh.rblk 1 rfl) (h14.sh.at 2 rfl) (h14.sh.at 3 rfl) ⟨h14.sh.rblk 4 rfl,h14.sh.at 5 rfl,h14.sh.at 6 rfl,(h14.sh.ok _ (List.mem_of_getElem? (i:=7) rfl)) _ (List.mem_singleton.2 rfl)⟩ (by omega) (by omega) (by omega))) (wanted_none rfl _) ?_;clear h10
 rintro a15 w15 ⟨_,⟨hv15,hs15⟩,hf15⟩
 obtain ⟨ins,hins⟩:∃i,i=nextIns (nth code.l t).l (nth thr.l t).pc:=⟨_,rfl⟩
 rw [←hins] at hv15
 subst hv15
 have h15:St 77 (fun _=>False) W a15 w15 _ _:=⟨hf15,h14.sh.call0 hs15⟩
 clear hf15 hs15
 clear h14
 refine gG h15<|gRn (oM 1 rfl<|oxt rfl<|oxt rfl<|.nl)<|gal ti_32 rfl fun b16=>gsw 0 ti_32 rfl rfl rfl<|gRn (oM 1 rfl<|.nl)<|nK k12<|gK fun _ k18=>sK fun _ k19=>gRn (oM 1 rfl<|ont rfl<|oM 1 rfl<|.nl)<|?_;clear h15
 rcases Bool.eq_false_or_eq_true (!(decide ((nth thr.l t).pc<((nth code.l t).l.length:Int)))) with hb20|hb20
 ·have hn20:decide ((nth thr.l t).pc<((nth code.l t).l.length:Int))=false:=(Bool.not_eq_true' _).mp hb20
  refine gRn (oKs 4 hb20 rfl rfl<|opT hb20 rfl<|.nl)<|nK k19<|gcT rfl rfl<|sG (oM 3 rfl<|.nl)<|gR<|uT<|fun a22 w22 h22=>x_ret3 (fn:=Tryz.f91) (t:=4) (u:=5) (t3:=6) rfl h22 rfl rfl rfl<|⟨0,false,false,rfl, ?_,(h22.sh.sel [] rfl)⟩
  first|(rw [where_no (by first|exact ha|exact and_f9 (by assumption))];rfl)|(rw [where_yes ha];show touchI (nextIns (nth code.l t).l (nth thr.l t).pc) regs.l words.l.length=_;rw [←hins];first|exact touch_8 (i:=ins) (by omega)|exact touch_9 (i:=ins) (by omega)|exact touch_13 (i:=ins) (by omega)|exact touch_none (i:=ins) (by omega) (by omega) (by omega) (by omega) (by omega)|exact touch_10 (i:=ins) (by omega) (by first|(simp;done)|(simp;omega))|exact touch_11 (i:=ins) (by omega) (by first|(simp;done)|(simp;omega)))
 have hn20:decide ((nth thr.l t).pc<((nth code.l t).l.length:Int))=true:=(Bool.not_eq_false' _).mp hb20
 refine gRn (oG hb20 (r_move rfl rfl) rfl<|oG hb20 (r_move rfl rfl) rfl<|.nl)<|fun a23 w23 h23=>wl_ex (x_call h23 bd_129 rfl rfl rfl rfl rfl (pable_c M g gp code thr words owner q _ _ _ _ _ t _ hM (h23.sh.rblk 1 rfl) (h23.sh.rblk 2 rfl) (h23.sh.at 3 rfl) (h23.sh.at 4 rfl) ⟨h23.sh.rblk 5 rfl,h23.sh.at 6 rfl,h23.sh.at 7 rfl,(h23.sh.ok _ (List.mem_of_getElem? (i:=8) rfl)) _ (List.mem_singleton.2 rfl)⟩ hql hw3 htl hpc hlk hge (by omega))) (wanted_yes h23.fr rfl rfl rfl rfl hb20) ?_
 rintro a24 w24 ⟨_,⟨rfl,hs24⟩,hf24⟩
 have h24:St 77 (fun _=>False) W a24 w24 _ _:=⟨hf24,h23.sh.call0 hs24⟩
 clear hf24 hs24
 clear h23
 refine gG h24<|gRn (oG hb20 (r_not rfl rfl) rfl<|opF hb20 rfl<|.nl)<|nK k19<|?_;clear h24
 refine gCb rfl (fun hb25=> ?_) fun hb25=> ?_
 ·have hn25:ableF code thr.l (M.qs q) owner.l t=false:=(Bool.not_eq_true' _).mp hb25
  have ha:ableV (nth code.l t).l (⟨(nth thr.l t).pc,regs.l,nth (M.qs q) t,words.l,owner.l, [],false⟩:TS)=false:=hn25
  refine sG (oM 3 rfl<|.nl)<|gR<|uT<|fun a27 w27 h27=>x_ret3 (fn:=Tryz.f91) (t:=4) (u:=5) (t3:=6) rfl h27 rfl rfl rfl<|⟨0,false,false,rfl, ?_,(h27.sh.sel [] rfl)⟩
  first|(rw [where_no (by first|exact ha|exact and_f9 (by assumption))];rfl)|(rw [where_yes ha];show touchI (nextIns (nth code.l t).l (nth thr.l t).pc) regs.l words.l.length=_;rw [←hins];first|exact touch_8 (i:=ins) (by omega)|exact touch_9 (i:=ins) (by omega)|exact touch_13 (i:=ins) (by omega)|exact touch_none (i:=ins) (by omega) (by omega) (by omega) (by omega) (by omega)|exact touch_10 (i:=ins) (by omega) (by first|(simp;done)|(simp;omega))|exact touch_11 (i:=ins) (by omega) (by first|(simp;done)|(simp;omega)))
 have hn25:ableF code thr.l (M.qs q) owner.l t=true:=(Bool.not_eq_false' _).mp hb25
 have ha:ableV (nth code.l t).l (⟨(nth thr.l t).pc,regs.l,nth (M.qs q) t,words.l,owner.l, [],false⟩:TS)=true:=hn25
 have hlt9:=able_lt ha
 have hi9:=hir hlt9
 rw [←hins] at hi9
 refine gS<|hK k18<|sK fun _ k28=>gNl (aA 4 rfl) fun hl29=>gRn (oM 1 rfl<|onf fl_173_2 rfl<|olR 1 ti_171 rfl rfl<|oM 1 rfl<|oxN sl_171 ti_189 (aA 4 rfl) _ om9 rfl<|ofE fl_189_1 rfl<|oV (Rn.same (r_lde (s:=thr) (i:=t) (v:=((nth thr.l t).rv)) ti_23 rfl rfl rfl (fun w h=>(h.at 4 rfl)) (show t<thr.l.length from om9) (Nat.le_of_ble_eq_true rfl) rfl) hrv) rfl<|oM 1 rfl<|.nl)<|nK k28<|gF [0,5,7,9] rfl<|gK fun _ k30=>sG (ofB fl_32_0 rfl<|olB 0 ti_3 rfl rfl<|.nl)<|gB<|sG (oeqI _ _ rfl<|oM 1 rfl<|.nl)<|gcd rfl (fun hb33 hp33=> ?_) fun hb33 hp33=> ?_
 ·skip
  refine sG (ofB fl_32_2 rfl<|olB 0 ti_3 rfl rfl<|oM 3 rfl<|.nl)<|gR<|uB<|uT<|fun a35 w35 h35=>x_ret3 (fn:=Tryz.f91) (t:=4) (u:=5) (t3:=6) rfl h35 rfl rfl rfl<|⟨ins.b,false,true,rfl, ?_,(h35.sh.sel [] rfl)⟩
  first|(rw [where_no (by first|exact ha|exact and_f9 (by assumption))];rfl)|(rw [where_yes ha];show touchI (nextIns (nth code.l t).l (nth thr.l t).pc) regs.l words.l.length=_;rw [←hins];first|exact touch_8 (i:=ins) (by omega)|exact touch_9 (i:=ins) (by omega)|exact touch_13 (i:=ins) (by omega)|exact touch_none (i:=ins) (by omega) (by omega) (by omega) (by omega) (by omega)|exact touch_10 (i:=ins) (by omega) (by first|(simp;done)|(simp;omega))|exact touch_11 (i:=ins) (by omega) (by first|(simp;done)|(simp;omega)))
 refine sG (oeqI _ _ rfl<|oM 1 rfl<|.nl)<|gcd rfl (fun hb37 hp37=> ?_) fun hb37 hp37=> ?_
 ·skip
  refine sG (ofB fl_32_1 rfl<|olB 0 ti_3 rfl rfl<|oM 3 rfl<|.nl)<|gR<|uB<|uT<|fun a39 w39 h39=>x_ret3 (fn:=Tryz.f91) (t:=4) (u:=5) (t3:=6) rfl h39 rfl rfl rfl<|⟨ins.a,true,true,rfl, ?_,(h39.sh.sel [] rfl)⟩
  first|(rw [where_no (by first|exact ha|exact and_f9 (by assumption))];rfl)|(rw [where_yes ha];show touchI (nextIns (nth code.l t).l (nth thr.l t).pc) regs.l words.l.length=_;rw [←hins];first|exact touch_8 (i:=ins) (by omega)|exact touch_9 (i:=ins) (by omega)|exact touch_13 (i:=ins) (by omega)|exact touch_none (i:=ins) (by omega) (by omega) (by omega) (by omega) (by omega)|exact touch_10 (i:=ins) (by omega) (by first|(simp;done)|(simp;omega))|exact touch_11 (i:=ins) (by omega) (by first|(simp;done)|(simp;omega)))
 refine sG (oeqI _ _ rfl<|oM 1 rfl<|.nl)<|gcd rfl (fun hb41 hp41=> ?_) fun hb41 hp41=> ?_
 ·skip
  refine sG (ofB fl_32_1 rfl<|olB 0 ti_3 rfl rfl<|oM 3 rfl<|.nl)<|gR<|uB<|uT<|fun a43 w43 h43=>x_ret3 (fn:=Tryz.f91) (t:=4) (u:=5) (t3:=6) rfl h43 rfl rfl rfl<|⟨ins.a,false,true,rfl, ?_,(h43.sh.sel [] rfl)⟩
  first|(rw [where_no (by first|exact ha|exact and_f9 (by assumption))];rfl)|(rw [where_yes ha];show touchI (nextIns (nth code.l t).l (nth thr.l t).pc) regs.l words.l.length=_;rw [←hins];first|exact touch_8 (i:=ins) (by omega)|exact touch_9 (i:=ins) (by omega)|exact touch_13 (i:=ins) (by omega)|exact touch_none (i:=ins) (by omega) (by omega) (by omega) (by omega) (by omega)|exact touch_10 (i:=ins) (by omega) (by first|(simp;done)|(simp;omega))|exact touch_11 (i:=ins) (by omega) (by first|(simp;done)|(simp;omega)))
 refine sG (oeqI _ _ rfl<|oM 1 rfl<|.nl)<|gcd rfl (fun hb45 hp45=> ?_) fun hb45 hp45=> ?_
 ·skip
  have hix:=(hi9.o10 (by omega)).2
  refine gL<|gNl (aA 9 rfl) fun hl46=>gRn (oM 1 rfl<|ofB fl_32_2 rfl<|olB 0 ti_3 rfl rfl<|oxI sl_23 ti_3 (aA 9 rfl) om9 rfl<|olI ti_3 (aA 9 rfl) om9 rfl<|oM 1 rfl<|.nl)<|nK k30<|gK fun _ k47=>fun a48 w48 h48=>x_quiet (by kernel_rfl) (by kernel_rfl) h48 fun _ z49=>qQ h48.fr<|qRn (oM 3 rfl<|ogeI _ _ rfl<|oM 1 rfl<|.nl)<|?_
  rcases dsp (0≤nth regs.l ins.b.toNat) with ⟨hb50,hp50⟩|⟨hb50,hp50⟩
  ·skip
   refine qRn (oG hb50 (r_move rfl rfl) rfl<|oG hb50 (r_move rfl rfl) rfl<|oG hb50 (r_nil rfl rfl) rfl<|oG hb50 (r_fieldB (r:=0) fl_173_0 rfl rfl rfl) rfl<|oG hb50 (r_ldbR ti_97 rfl rfl (fun w h=>h.rblk 1 rfl) rfl) rfl<|.nl)<|fun _ hq=>wq_inv hq rfl rfl rfl (wanted_yes hq rfl rfl rfl rfl hb50) rfl rfl (fun w h=>(hM.base _ words owner q ⟨h.rblk 5 rfl,h.at 6 rfl,h.at 7 rfl,(h.ok _ (List.mem_of_getElem? (i:=8) rfl)) _ (List.mem_singleton.2 rfl)⟩))<|qRn (oG hb50 (r_nil rfl rfl) rfl<|oG hb50 (r_fieldB (r:=0) fl_182_0 rfl rfl rfl) rfl<|oG hb50 (r_ldbR ti_23 rfl rfl (fun w h=>h.rblk 5 rfl) rfl) rfl<|.nl)<|?_
   have hl61:words.l.length≤140737488355328:=(h48.sh.at 6 rfl).len
   refine qRn (oG hb50 (r_len (s:=words) (n:=words.l.length) sl_23 rfl rfl (fun w h=>(h.at 6 rfl)) rfl) rfl<|oG hb50 (r_lssI (p:=nth regs.l ins.b.toNat) (q:=((words.l.length:Nat):Int)) rfl rfl rfl) rfl<|opT hb50 rfl<|oM 3 rfl<|.nl)<|qN z49<|?_;clear h48
   refine hK k47<|gF [4,5,6] rfl<|gR<|fun a63 w63 h63=>x_ret3 (fn:=Tryz.f91) (t:=4) (u:=5) (t3:=6) rfl h63 rfl rfl rfl<|⟨nth regs.l ins.b.toNat,false,decide (nth regs.l ins.b.toNat<((words.l.length:Nat):Int)),rfl, ?_,(h63.sh.sel [] rfl)⟩
   first|(rw [where_no (by first|exact ha|exact and_f9 (by assumption))];rfl)|(rw [where_yes ha];show touchI (nextIns (nth code.l t).l (nth thr.l t).pc) regs.l words.l.length=_;rw [←hins];first|exact touch_8 (i:=ins) (by omega)|exact touch_9 (i:=ins) (by omega)|exact touch_13 (i:=ins) (by omega)|exact touch_none (i:=ins) (by omega) (by omega) (by omega) (by omega) (by omega)|exact touch_10 (i:=ins) (by omega) (by first|(simp;done)|(simp;omega))|exact touch_11 (i:=ins) (by omega) (by first|(simp;done)|(simp;omega)))
  refine qRn (oKs 11 hb50 rfl rfl<|opF hb50 rfl<|oM 3 rfl<|.nl)<|qN z49<|?_;clear h48
  refine hK k47<|gF [4,5,6] rfl<|gR<|fun a65 w65 h65=>x_ret3 (fn:=Tryz.f91) (t:=4) (u:=5) (t3:=6) rfl h65 rfl rfl rfl<|⟨nth regs.l ins.b.toNat,false,false,rfl, ?_,(h65.sh.sel [] rfl)⟩
  first|(rw [where_no (by first|exact ha|exact and_f9 (by assumption))];rfl)|(rw [where_yes ha];show touchI (nextIns (nth code.l t).l (nth thr.l t).pc) regs.l words.l.length=_;rw [←hins];first|exact touch_8 (i:=ins) (by omega)|exact touch_9 (i:=ins) (by omega)|exact touch_13 (i:=ins) (by omega)|exact touch_none (i:=ins) (by omega) (by omega) (by omega) (by omega) (by omega)|exact touch_10 (i:=ins) (by omega) (by first|(simp;done)|(simp;omega))|exact touch_11 (i:=ins) (by omega) (by first|(simp;done)|(simp;omega)))
 refine sG (oeqI _ _ rfl<|oM 1 rfl<|.nl)<|gcd rfl (fun hb67 hp67=> ?_) fun hb67 hp67=> ?_
 ·skip
  have hix:=(hi9.o10 (by omega)).1
  refine gL<|gNl (aA 9 rfl) fun hl68=>gRn (oM 1 rfl<|ofB fl_32_1 rfl<|olB 0 ti_3 rfl rfl<|oxI sl_23 ti_3 (aA 9 rfl) om9 rfl<|olI ti_3 (aA 9 rfl) om9 rfl<|oM 2 rfl<|.nl)<|nK k30<|gK fun _ k69=>fun a70 w70 h70=>x_quiet (by kernel_rfl) (by kernel_rfl) h70 fun _ z71=>qQ h70.fr<|qRn (oM 3 rfl<|ogeI _ _ rfl<|oM 1 rfl<|.nl)<|?_
  rcases dsp (0≤nth regs.l ins.a.toNat) with ⟨hb72,hp72⟩|⟨hb72,hp72⟩
  ·skip
   refine qRn (oG hb72 (r_move rfl rfl) rfl<|oG hb72 (r_move rfl rfl) rfl<|oG hb72 (r_nil rfl rfl) rfl<|oG hb72 (r_fieldB (r:=0) fl_173_0 rfl rfl rfl) rfl<|oG hb72 (r_ldbR ti_97 rfl rfl (fun w h=>h.rblk 1 rfl) rfl) rfl<|.nl)<|fun _ hq=>wq_inv hq rfl rfl rfl (wanted_yes hq rfl rfl rfl rfl hb72) rfl rfl (fun w h=>(hM.base _ words owner q ⟨h.rblk 5 rfl,h.at 6 rfl,h.at 7 rfl,(h.ok _ (List.mem_of_getElem? (i:=8) rfl)) _ (List.mem_singleton.2 rfl)⟩))<|qRn (oG hb72 (r_nil rfl rfl) rfl<|oG hb72 (r_fieldB (r:=0) fl_182_0 rfl rfl rfl) rfl<|oG hb72 (r_ldbR ti_23 rfl rfl (fun w h=>h.rblk 5 rfl) rfl) rfl<|.nl)<|?_
   have hl83:words.l.length≤140737488355328:=(h70.sh.at 6 rfl).len
   refine qRn (oG hb72 (r_len (s:=words) (n:=words.l.length) sl_23 rfl rfl (fun w h=>(h.at 6 rfl)) rfl) rfl<|oG hb72 (r_lssI (p:=nth regs.l ins.a.toNat) (q:=((words.l.length:Nat):Int)) rfl rfl rfl) rfl<|opT hb72 rfl<|oM 3 rfl<|.nl)<|qN z71<|?_;clear h70
   refine hK k69<|gF [4,5,6] rfl<|gR<|fun a85 w85 h85=>x_ret3 (fn:=Tryz.f91) (t:=4) (u:=5) (t3:=6) rfl h85 rfl rfl rfl<|⟨nth regs.l ins.a.toNat,true,decide (nth regs.l ins.a.toNat<((words.l.length:Nat):Int)),rfl, ?_,(h85.sh.sel [] rfl)⟩
   first|(rw [where_no (by first|exact ha|exact and_f9 (by assumption))];rfl)|(rw [where_yes ha];show touchI (nextIns (nth code.l t).l (nth thr.l t).pc) regs.l words.l.length=_;rw [←hins];first|exact touch_8 (i:=ins) (by omega)|exact touch_9 (i:=ins) (by omega)|exact touch_13 (i:=ins) (by omega)|exact touch_none (i:=ins) (by omega) (by omega) (by omega) (by omega) (by omega)|exact touch_10 (i:=ins) (by omega) (by first|(simp;done)|(simp;omega))|exact touch_11 (i:=ins) (by omega) (by first|(simp;done)|(simp;omega)))
  refine qRn (oKs 11 hb72 rfl rfl<|opF hb72 rfl<|oM 3 rfl<|.nl)<|qN z71<|?_;clear h70
  refine hK k69<|gF [4,5,6] rfl<|gR<|fun a87 w87 h87=>x_ret3 (fn:=Tryz.f91) (t:=4) (u:=5) (t3:=6) rfl h87 rfl rfl rfl<|⟨nth regs.l ins.a.toNat,true,false,rfl, ?_,(h87.sh.sel [] rfl)⟩
  first|(rw [where_no (by first|exact ha|exact and_f9 (by assumption))];rfl)|(rw [where_yes ha];show touchI (nextIns (nth code.l t).l (nth thr.l t).pc) regs.l words.l.length=_;rw [←hins];first|exact touch_8 (i:=ins) (by omega)|exact touch_9 (i:=ins) (by omega)|exact touch_13 (i:=ins) (by omega)|exact touch_none (i:=ins) (by omega) (by omega) (by omega) (by omega) (by omega)|exact touch_10 (i:=ins) (by omega) (by first|(simp;done)|(simp;omega))|exact touch_11 (i:=ins) (by omega) (by first|(simp;done)|(simp;omega)))
 refine sG (oM 3 rfl<|.nl)<|gR<|uB<|uT<|fun a89 w89 h89=>x_ret3 (fn:=Tryz.f91) (t:=4) (u:=5) (t3:=6) rfl h89 rfl rfl rfl<|⟨0,false,false,rfl, ?_,(h89.sh.sel [] rfl)⟩
 first|(rw [where_no (by first|exact ha|exact and_f9 (by assumption))];rfl)|(rw [where_yes ha];show touchI (nextIns (nth code.l t).l (nth thr.l t).pc) regs.l words.l.length=_;rw [←hins];first|exact touch_8 (i:=ins) (by omega)|exact touch_9 (i:=ins) (by omega)|exact touch_13 (i:=ins) (by omega)|exact touch_none (i:=ins) (by omega) (by omega) (by omega) (by omega) (by omega)|exact touch_10 (i:=ins) (by omega) (by first|(simp;done)|(simp;omega))|exact touch_11 (i:=ins) (by omega) (by first|(simp;done)|(simp;omega)))
theorem sat_c (g:Nat)(M:MemS)(gp:Nat)(thr:Ls ThQ)(pv:Value)(fell:Bool)(t:Nat)(W:World)(hB:Blk W g 173 #[.iface M.T (.pointer (some M.u)), .pointer (some ⟨gp,0,none⟩),thr.v,pv, .bool fell])(h_thr:thr.At W)(ht:t<thr.l.length):
    Rets Tryz.prog 92 [.pointer (some ⟨g,0,none⟩), .int .i64 ((t:Nat):Int)] W (fun v w' =>v= .int .i64 (nth thr.l t).pc∧Sh0 W w' []):=by
 refine gen Tryz.func92 Tryz.ntmps92 (Sh0.ext (by intro A hA;simp only [List.mem_cons,List.not_mem_nil,or_false] at hA;rcases hA with rfl|rfl;exact hB;exact h_thr) (by intro A hA b hb;simp only [List.mem_cons,List.not_mem_nil,or_false] at hA;rcases hA with rfl|rfl<;>exact hb):Sh (fun _=>False) W W [.rblk g 173 [.iface M.T (.pointer (some M.u)), .pointer (some ⟨gp,0,none⟩),thr.v,pv, .bool fell], .at_ thr]) rfl fun a10 h10=>gG h10<|sG (oM 1 rfl<|.nl)<|sK fun _ k12=>gNl (aA 1 rfl) fun hl13=>gRn (oM 1 rfl<|onf fl_173_2 rfl<|olR 0 ti_171 rfl rfl<|oM 1 rfl<|oxN sl_171 ti_189 (aA 1 rfl) _ om9 rfl<|ofE fl_189_0 rfl<|olI ti_3 (aA 1 rfl) om9 rfl<|oM 1 rfl<|.nl)<|nK k12<|gR<|fun a14 w14 h14=>x_ret1 (fn:=Tryz.f92) (t:=4) rfl h14 rfl ?_;clear h10
 exact ⟨rfl,(h14.sh.sel [] rfl)⟩
def clashAt (p:Pg)(s:MSt)(a b:Nat):Option Cl:=match whereV (nth p.code a) (s.view a),whereV (nth p.code b) (s.view b) with
 |some q,some r=>if q.1=r.1∧(q.2||r.2)=true then some ⟨(a:Int),(nth s.ths a).pc,(b:Int),(nth s.ths b).pc,q.1⟩ else none
 |_,_=>none
def addO (l:List Cl):Option Cl→List Cl
 |some c=>addC l c
 |none=>l
def rowC (p:Pg)(s:MSt)(a j:Nat)(l:List Cl):List Cl:=(List.range' (a+1) j).foldl (fun l b=>addO l (clashAt p s a b)) l
def clsN (p:Pg)(s:MSt)(k:Nat)(l:List Cl):List Cl:=(List.range k).foldl (fun l a=>rowC p s a (p.code.length-(a+1)) l) l
def clsS (p:Pg)(l:List Cl)(s:MSt):List Cl:=clsN p s p.code.length l
section
variable {p:Pg}{s:MSt}{a b j k:Nat}{l:List Cl}{c:Cl}
theorem rowC_0 :rowC p s a 0 l=l:=rfl
theorem rowC_succ :rowC p s a (j+1) l=addO (rowC p s a j l) (clashAt p s a (a+1+j)):=by
 unfold rowC
 rw [List.range'_1_concat,List.foldl_append];rfl
theorem clsN_succ :clsN p s (k+1) l=rowC p s k (p.code.length-(k+1)) (clsN p s k l):=by
 unfold clsN
 rw [List.range_succ,List.foldl_append];rfl
theorem clashAt_of {ok1 ok2 s1 s2:Bool}{w1 w2:Int}(h1:whereV (nth p.code a) (s.view a)=if ok1=true then some (w1,s1) else none)(h2:whereV (nth p.code b) (s.view b)=if ok2=true then some (w2,s2) else none):
  clashAt p s a b=if ok1=true∧ok2=true∧w1=w2∧(s1||s2)=true then some ⟨(a:Int),(nth s.ths a).pc,(b:Int),(nth s.ths b).pc,w1⟩ else none:=by
 unfold clashAt
 rw [h1,h2]
 cases ok1<;>cases ok2<;>simp
theorem clashAt_yes {ok1 ok2 s1 s2:Bool}{w1 w2:Int}(h1:whereV (nth p.code a) (s.view a)=if ok1=true then some (w1,s1) else none)(h2:whereV (nth p.code b) (s.view b)=if ok2=true then some (w2,s2) else none)(g1:ok1=true)(g2:ok2=true)(g3:w1=w2)(g4:s1=true∨s2=true):
  clashAt p s a b=some ⟨(a:Int),(nth s.ths a).pc,(b:Int),(nth s.ths b).pc,w1⟩:=by rw [clashAt_of h1 h2,if_pos ⟨g1,g2,g3,by simpa using g4⟩]
theorem clashAt_no {ok1 ok2 s1 s2:Bool}{w1 w2:Int}(h1:whereV (nth p.code a) (s.view a)=if ok1=true then some (w1,s1) else none)(h2:whereV (nth p.code b) (s.view b)=if ok2=true then some (w2,s2) else none)(g:ok1=false∨ok2=false∨w1≠w2∨(s1=false∧s2=false)):
  clashAt p s a b=none:=by
 rw [clashAt_of h1 h2,if_neg]
 rintro ⟨g1,g2,g3,g4⟩
 rcases g with g|g|g|g
 ·rw [g] at g1;cases g1
 ·rw [g] at g2;cases g2
 ·exact g g3
 ·rw [g.1,g.2] at g4;cases g4
theorem mem_addC {k:Cl} :c∈addC l k↔c∈l∨c=k:=by
 unfold addC
 split
 ·rename_i h
  exact ⟨.inl,fun h2=>h2.elim id fun e=>e▸h⟩
 ·simp
theorem nodup_addC {k:Cl}(h:l.Nodup):(addC l k).Nodup:=by
 unfold addC
 split
 ·exact h
 ·rename_i hk
  exact List.nodup_append.2 ⟨h,by simp,fun a ha b hb=>by obtain rfl:=List.mem_singleton.1 hb;exact fun e=>hk (e▸ha)⟩
theorem mem_addO {o:Option Cl} :c∈addO l o↔c∈l∨o=some c:=by
 cases o with
 |none=>simp [addO]
 |some k=>rw [addO,mem_addC];simp [eq_comm]
theorem nodup_addO {o:Option Cl}(h:l.Nodup):(addO l o).Nodup:=by
 cases o with
 |none=>exact h
 |some k=>exact nodup_addC h
theorem mem_rowC :c∈rowC p s a j l↔c∈l∨∃b,a<b∧b<a+1+j∧clashAt p s a b=some c:=by
 induction j with
 |zero=>
  rw [rowC_0]
  exact ⟨.inl,fun h=>h.elim id fun ⟨b,h1,h2,_⟩=>by omega⟩
 |succ j ih=>
  rw [rowC_succ,mem_addO,ih]
  constructor
  ·rintro ((h|⟨b,h1,h2,h3⟩)|h)
   ·exact .inl h
   ·exact .inr ⟨b,h1,by omega,h3⟩
   ·exact .inr ⟨a+1+j,by omega,by omega,h⟩
  ·rintro (h|⟨b,h1,h2,h3⟩)
   ·exact .inl (.inl h)
   ·by_cases e:b=a+1+j
    ·subst e;exact .inr h3
    ·exact .inl (.inr ⟨b,h1,by omega,h3⟩)
theorem nodup_rowC (h:l.Nodup):(rowC p s a j l).Nodup:=by
 induction j with
 |zero=>exact h
 |succ j ih=>rw [rowC_succ];exact nodup_addO ih
theorem mem_clsN (hk:k≤p.code.length):c∈clsN p s k l↔c∈l∨∃a b,a<k∧a<b∧b<p.code.length∧clashAt p s a b=some c:=by
 induction k with
 |zero=>exact ⟨.inl,fun h=>h.elim id fun ⟨a,b,h1,_⟩=>by omega⟩
 |succ k ih=>
  rw [clsN_succ,mem_rowC,ih (by omega)]
  constructor
  ·rintro ((h|⟨a,b,h1,h2⟩)|⟨b,h1,h2,h3⟩)
   ·exact .inl h
   ·exact .inr ⟨a,b,by omega,h2⟩
   ·exact .inr ⟨k,b,by omega,h1,by omega,h3⟩
  ·rintro (h|⟨a,b,h1,h2,h3,h4⟩)
   ·exact .inl (.inl h)
   ·by_cases e:a=k
    ·subst e;exact .inr ⟨b,h2,by omega,h4⟩
    ·exact .inl (.inr ⟨a,b,by omega,h2,h3,h4⟩)
theorem nodup_clsN (h:l.Nodup):(clsN p s k l).Nodup:=by
 induction k with
 |zero=>exact h
 |succ k ih=>rw [clsN_succ];exact nodup_rowC ih
theorem mem_clsF {S:List MSt} :c∈S.foldl (clsS p) l↔c∈l∨∃s∈S,∃a b,a<b∧b<p.code.length∧clashAt p s a b=some c:=by
 induction S generalizing l with
 |nil=>simp
 |cons s S ih=>
  rw [List.foldl_cons,ih]
  unfold clsS
  rw [mem_clsN (Nat.le_refl _)]
  constructor
  ·rintro ((h|⟨a,b,h1,h2,h3,h4⟩)|⟨x,hx,h⟩)
   ·exact .inl h
   ·exact .inr ⟨s,by simp,a,b,h2,h3,h4⟩
   ·exact .inr ⟨x,by simp [hx],h⟩
  ·rintro (h|⟨x,hx,a,b,h1,h2,h3⟩)
   ·exact .inl (.inl h)
   ·rcases List.mem_cons.1 hx with rfl|hx
    ·exact .inl (.inr ⟨a,b,by omega,h1,h2,h3⟩)
    ·exact .inr ⟨x,hx,a,b,h1,h2,h3⟩
theorem nodup_clsF {S:List MSt}(h:l.Nodup):(S.foldl (clsS p) l).Nodup:=by
 induction S generalizing l with
 |nil=>exact h
 |cons s S ih=>exact ih (nodup_clsN h)
theorem addO_len {o:Option Cl} :(addO l o).length≤l.length+1:=by
 cases o with
 |none=>exact Nat.le_succ _
 |some k=>
  show (addC l k).length≤_
  unfold addC
  split
  ·exact Nat.le_succ _
  ·simp
theorem rowC_len :(rowC p s a j l).length≤l.length+j:=by
 induction j with
 |zero=>exact Nat.le_refl _
 |succ j ih=>rw [rowC_succ];have:=addO_len (l:=rowC p s a j l) (o:=clashAt p s a (a+1+j));omega
theorem clsN_len :(clsN p s k l).length≤l.length+k*p.code.length:=by
 induction k with
 |zero=>exact Nat.le_add_right _ _
 |succ k ih=>
  rw [clsN_succ,Nat.succ_mul]
  have:=rowC_len (p:=p) (s:=s) (a:=k) (j:=p.code.length-(k+1)) (l:=clsN p s k l)
  omega
theorem clsF_len {S:List MSt} :(S.foldl (clsS p) l).length≤l.length+S.length*(p.code.length*p.code.length):=by
 induction S generalizing l with
 |nil=>exact Nat.le_add_right _ _
 |cons s S ih=>
  rw [List.foldl_cons,List.length_cons,Nat.succ_mul]
  have h1:=ih (l:=clsS p l s)
  have h2:(clsS p l s).length≤l.length+p.code.length*p.code.length:=clsN_len
  omega
end
def lessC (x y:Cl):Bool:=if x.th=y.th then (if x.at_=y.at_ then (if x.oth=y.oth then (if x.wh=y.wh then decide (x.wd<y.wd) else decide (x.wh<y.wh)) else decide (x.oth<y.oth)) else decide (x.at_<y.at_)) else decide (x.th<y.th)
theorem lessC_irr (x:Cl):lessC x x=false:=by simp [lessC]
theorem lessC_trans {x y z:Cl}(h:lessC x y=true)(h2:lessC y z=true):lessC x z=true:=by
 unfold lessC at*
 (repeat' split at h)<;>(repeat' split at h2)<;>(repeat' split)<;>simp only [decide_eq_true_eq] at* <;>omega
theorem lessC_tri {x y:Cl}(h:lessC x y=false)(h2:lessC y x=false):x=y:=by
 obtain ⟨a,b,c,d,e⟩:=x
 obtain ⟨a',b',c',d',e'⟩:=y
 unfold lessC at*
 simp only at h h2
 (repeat' split at h)<;>(repeat' split at h2)<;>simp only [decide_eq_false_iff_not] at h h2<;>first|omega|(simp only [Cl.mk.injEq];omega)
theorem xwhere_c {F:MemF}(hF:MemFI Tryz.prog 182 3 204 5 141 F)(x:PSD F)(code:Ls (Ls Ins))(words0:Ls Int)(Lk R:Nat)(pw:Value)(W:World)(hX:x.Rd W)(hP:Blk W x.gp 25 #[code.v,pw, .int .i64 ((Lk:Nat):Int), .int .i64 ((R:Nat):Int)])(hcode:code.At W)(hok:OkPg (pgN code words0 Lk R))(h:PX code words0 Lk R x)(t:Nat)(ht:t<code.l.length):
  Rets Tryz.prog 91 [.pointer (some ⟨x.g,0,none⟩), .int .i64 ((t:Nat):Int)] W (fun v w' =>∃(wd:Int) (st_ ok:Bool),v= .tuple #[.int .i64 wd, .bool st_, .bool ok]∧whereV (nth (pgN code words0 Lk R).code t) (x.st.view t)=(if ok=true then some (wd,st_) else none)∧Sh0 W w' []):=by
 have hf:=psd_facts hok h.reach h.rl
 have hM:=hF.ok x.i
 have hrl:=h.rl
 have htr:t<x.rows.length:=by rw [hrl];exact ht
 have hq:=toQ_at htr
 refine Rets.mono (where_c (F.mem x.i) x.g x.gp code ⟨x.vt,x.rows.map ThR.toQ⟩ x.words x.owner x.q pw x.prints.v Lk R false t (nth x.rows t).regs W hM hX.blk hP hcode hX.thr hX.mem h.ql hf.hw3 (by show (x.rows.map ThR.toQ).length=_;rw [List.length_map];exact hrl) hf.hpc hf.hlk hf.hge ht (by show (nth (x.rows.map ThR.toQ) t).rv=_;rw [hq];rfl) (hX.row _ (nth_mem _ _ htr)) (fun hlt=>by
   rw [hf.hreg t ht,hf.hwl,hf.hol]
   exact insR_N hok ht (hf.hpc t ht).1 hlt)) ?_
 rintro v w' ⟨wd,st_,ok,rfl,e,hs⟩
 refine ⟨wd,st_,ok,rfl, ?_,hs⟩
 have e2:whereV (nth code.l t).l ⟨(nth (x.rows.map ThR.toQ) t).pc,(nth x.rows t).regs.l,nth x.qs t,x.words.l,x.owner.l, [],false⟩=_:=e
 rw [hq] at e2
 rw [pgN_code ht,psd_view htr]
 exact e2
theorem xat_c {F:MemF}(hF:MemFI Tryz.prog 182 3 204 5 141 F)(x:PSD F)(code:Ls (Ls Ins))(words0:Ls Int)(Lk R:Nat)(pw:Value)(W:World)(hX:x.Rd W)(hP:Blk W x.gp 25 #[code.v,pw, .int .i64 ((Lk:Nat):Int), .int .i64 ((R:Nat):Int)])(hcode:code.At W)(hok:OkPg (pgN code words0 Lk R))(h:PX code words0 Lk R x)(t:Nat)(ht:t<code.l.length):
  Rets Tryz.prog 92 [.pointer (some ⟨x.g,0,none⟩), .int .i64 ((t:Nat):Int)] W (fun v w' =>v= .int .i64 (nth x.st.ths t).pc∧Sh0 W w' []):=by
 have htr:t<x.rows.length:=by rw [h.rl];exact ht
 refine Rets.mono (sat_c x.g (F.mem x.i) x.gp ⟨x.vt,x.rows.map ThR.toQ⟩ x.prints.v false t W hX.blk hX.thr (by show t<(x.rows.map ThR.toQ).length;rw [List.length_map];exact htr)) ?_
 rintro v w' ⟨rfl,hs⟩
 refine ⟨?_,hs⟩
 show Value.int .i64 (nth (x.rows.map ThR.toQ) t).pc=_
 rw [toQ_at htr,(psd_th htr).1];rfl
theorem clashes_c (K:Nat→Prop)(F:MemF)(x:PSD F)(code:Ls (Ls Ins))(words0:Ls Int)(Lk R:Nat)(pw:Value)(g:Nat)(l0:List Cl)(W:World)(hF:MemFI Tryz.prog 182 3 204 5 141 F)(hok:OkPg (pgN code words0 Lk R))(hx:PX code words0 Lk R x)(hS:Sh K W W [.clsO g l0, .rd1 x, .rblk x.gp 25 [code.v,pw, .int .i64 ((Lk:Nat):Int), .int .i64 ((R:Nat):Int)], .at_ code]):
    Rets Tryz.prog 51 [.agg #[code.v,pw, .int .i64 ((Lk:Nat):Int), .int .i64 ((R:Nat):Int)], .pointer (some ⟨x.g,0,none⟩), .map (some g)] W (fun v w' =>v= .tuple #[]∧Sh K W w' [.clsO g (clsS (pgN code words0 Lk R) l0 x.st), .rd1 x, .rblk x.gp 25 [code.v,pw, .int .i64 ((Lk:Nat):Int), .int .i64 ((R:Nat):Int)], .at_ code]):=by
 have hcl9:=(ok_lenP hok).2.1
 refine gen Tryz.func51 Tryz.ntmps51 hS rfl fun a10 h10=>gG h10<|sK fun _ k11=>gbx rfl rfl fun b12=>nK k11<|sK fun _ k13=>gNl (aA 4 rfl) fun hl14=>gRn (ofB fl_25_0 rfl<|olB 0 ti_22 rfl rfl<|oln sl_22 (aA 4 rfl) rfl<|oM 1 rfl<|.nl)<|nK k13<|gB<|fun a16 w16 h16=>x_loop (fun m a w=>∃(k:Nat) (l1:List Cl),(k≤code.l.length)∧(l1=clsN (pgN code words0 Lk R) x.st k l0)∧St 70 K W a w [(1, .pointer (some ⟨x.g,0,none⟩)),(2, .map (some g)),(3, .pointer (some ⟨b12,0,none⟩)),(16, .int .i64 ((code.l.length:Nat):Int)),(17, .int .i64 ((k:Nat):Int))] [.blk b12 25 [code.v,pw, .int .i64 ((Lk:Nat):Int), .int .i64 ((R:Nat):Int)], .clsO g l1, .rd1 x, .rblk x.gp 25 [code.v,pw, .int .i64 ((Lk:Nat):Int), .int .i64 ((R:Nat):Int)], .at_ code]∧m=code.l.length-k) ⟨_,0,l0,(by omega),(rfl),h16.nf ⟨rfl,rfl,rfl,rfl,rfl,trivial⟩,rfl⟩ ?_;clear h10
 clear h16
 rintro m15 a15 w15 ⟨k,l1,hk,hl1,h15,hm15⟩
 refine gG h15<|sG (oltN _ _ rfl<|.nl)<|gK fun _ k18=>gcd rfl (fun hb19 hp19=> ?_) fun hb19 hp19=> ?_;clear h15
 ·skip
  refine gS<|hK k18<|gK fun _ k20=>gB<|sG (oM 2 rfl<|.nl)<|sG (oM 1 rfl<|oadN _ 1 om9 rfl<|oM 1 rfl<|.nl)<|gB<|fun a24 w24 h24=>x_loop (fun m a w=>∃(j:Nat) (l2:List Cl),(k+1+j≤code.l.length)∧(l2=rowC (pgN code words0 Lk R) x.st k j l1)∧St 70 K W a w [(1, .pointer (some ⟨x.g,0,none⟩)),(2, .map (some g)),(3, .pointer (some ⟨b12,0,none⟩)),(6, .int .i64 ((k:Nat):Int)),(7, .int .i64 (((k+1+j):Nat):Int)),(16, .int .i64 ((code.l.length:Nat):Int)),(17, .int .i64 ((k:Nat):Int))] [.blk b12 25 [code.v,pw, .int .i64 ((Lk:Nat):Int), .int .i64 ((R:Nat):Int)], .clsO g l2, .rd1 x, .rblk x.gp 25 [code.v,pw, .int .i64 ((Lk:Nat):Int), .int .i64 ((R:Nat):Int)], .at_ code]∧m=code.l.length-(k+1+j)) ⟨_,0,l1,(by omega),(rfl),h24.nf ⟨rfl,rfl,rfl,rfl,rfl,rfl,rfl,trivial⟩,rfl⟩ ?_
  clear h24
  rintro m23 a23 w23 ⟨j,l2,hj,hl2,h23,hm23⟩
  refine gG h23<|gK fun _ k25=>sG (oM 1 rfl<|ofB fl_25_0 rfl<|olB 0 ti_22 rfl rfl<|oln sl_22 (aA 4 rfl) rfl<|oltN _ _ rfl<|.nl)<|?_;clear h23
  refine gcd rfl (fun hb27 hp27=> ?_) fun hb27 hp27=> ?_
  ·skip
   refine gS<|hK k25<|gK fun _ k28=>gB<|sK fun _ k29=>gRn (oM 2 rfl<|.nl)<|gC (fun _ _ h_=>xCl h_ bd_91 rfl (xwhere_c hF x code words0 Lk R pw _ (PSD.rd (h_.sh.ok (.rd1 x) (List.mem_of_getElem? (i:=2) rfl))) (h_.sh.rblk 3 rfl) (h_.sh.at 4 rfl) hok hx k (by omega))) rfl<|?_
   rintro _ _ w30 ⟨wd30,st30,ok30,rfl,hwh30,hs30⟩
   refine gWk hs30 rfl<|gU<|gRn (oM 1 rfl<|oxt rfl<|oxt rfl<|oxt rfl<|oM 3 rfl<|.nl)<|nK k29<|sK fun _ k31=>gRn (oM 2 rfl<|.nl)<|gC (fun _ _ h_=>xCl h_ bd_91 rfl (xwhere_c hF x code words0 Lk R pw _ (PSD.rd (h_.sh.ok (.rd1 x) (List.mem_of_getElem? (i:=2) rfl))) (h_.sh.rblk 3 rfl) (h_.sh.at 4 rfl) hok hx (k+1+j) (by omega))) rfl<|?_;clear hs30
   rintro _ _ w32 ⟨wd32,st32,ok32,rfl,hwh32,hs32⟩
   refine gWk hs32 rfl<|gU<|gRn (oM 1 rfl<|oxt rfl<|oxt rfl<|oxt rfl<|oM 3 rfl<|.nl)<|nK k31<|sK fun _ k33=>gRn (oM 2 rfl<|.nl)<|?_;clear hs32
   rcases Bool.eq_false_or_eq_true ok30 with hb34|hb34
   ·skip
    refine gRn (oG hb34 (r_move rfl rfl) rfl<|opT hb34 rfl<|oM 1 rfl<|.nl)<|?_
    rcases Bool.eq_false_or_eq_true ok32 with hb35|hb35
    ·skip
     refine gRn (oG hb35 (r_move rfl rfl) rfl<|oG hb35 (r_move rfl rfl) rfl<|oG hb35 (r_eqlI (p:=wd30) (q:=wd32) rfl rfl rfl) rfl<|opT hb35 rfl<|oM 1 rfl<|.nl)<|?_
     rcases dsp (wd30=wd32) with ⟨hb36,hp36⟩|⟨hb36,hp36⟩
     ·skip
      refine gRn (oG hb36 (r_move rfl rfl) rfl<|oG hb36 (r_move rfl rfl) rfl<|.nl)<|?_
      rcases Bool.eq_false_or_eq_true st30 with hb37|hb37
      ·skip
       refine gRn (oK hb37 rfl<|oG hb36 (r_pickT rfl rfl hb37 rfl) rfl<|opT hb36 rfl<|.nl)<|nK k33<|gF [1,2,3,6,7,8,16,17,57] rfl<|gcT rfl rfl<|gL<|gRn (oM 4 rfl<|.nl)<|gC (fun _ _ h_=>xCl h_ bd_92 rfl (xat_c hF x code words0 Lk R pw _ (PSD.rd (h_.sh.ok (.rd1 x) (List.mem_of_getElem? (i:=2) rfl))) (h_.sh.rblk 3 rfl) (h_.sh.at 4 rfl) hok hx k (by omega))) rfl<|?_
       rintro _ _ w38 ⟨rfl,hs38⟩
       refine gWk hs38 rfl<|gU<|gRn (oM 3 rfl<|.nl)<|gC (fun _ _ h_=>xCl h_ bd_92 rfl (xat_c hF x code words0 Lk R pw _ (PSD.rd (h_.sh.ok (.rd1 x) (List.mem_of_getElem? (i:=2) rfl))) (h_.sh.rblk 3 rfl) (h_.sh.at 4 rfl) hok hx (k+1+j) (by omega))) rfl<|?_;clear hs38
       rintro _ _ w39 ⟨rfl,hs39⟩
       refine gWk hs39 rfl<|gU<|gRn (oM 1 rfl<|oV (r_build (cs:= [.int .i64 ((k:Nat):Int), .int .i64 ((nth x.st.ths k).pc), .int .i64 (((k+1+j):Nat):Int), .int .i64 ((nth x.st.ths (k+1+j)).pc), .int .i64 wd30]) rfl rfl (by kernel_rfl)) rfl<|.nl)<|gE (fun _ _ h_=>x_updCl (i:=1) (l:=l2) (k:=(⟨((k:Nat):Int),(nth x.st.ths k).pc,(((k+1+j):Nat):Int),(nth x.st.ths (k+1+j)).pc,wd30⟩:Cl)) h_ rfl rfl rfl rfl rfl rfl) rfl<|nK k28<|gL<|gRn (oM 1 rfl<|oadN _ 1 om9 rfl<|oM 1 rfl<|.nl)<|nN<|?_;clear hs39
       have hc9:=clashAt_yes hwh30 hwh32 (by assumption) (by assumption) (by assumption) (by first|exact .inl (by assumption)|exact .inr (by assumption))
       intro a41 w41 h41
       refine x_again ⟨_, ?_,(j+1),addC l2 (⟨((k:Nat):Int),(nth x.st.ths k).pc,(((k+1+j):Nat):Int),(nth x.st.ths (k+1+j)).pc,wd30⟩:Cl), ?_, ?_,h41.nf ⟨rfl,rfl,rfl,rfl,rfl,rfl,rfl,trivial⟩,rfl⟩
       · rw [hm23];first|omega|(simp only [lens9];omega)
       · omega
       · rw [rowC_succ,←hl2,hc9];rfl
      refine gRn (oG hb37 (r_move rfl rfl) rfl<|oG hb36 (r_pickF rfl rfl hb37 rfl) rfl<|opT hb36 rfl<|.nl)<|nK k33<|gF [1,2,3,6,7,8,16,17,57] rfl<|gCb rfl (fun hb42=> ?_) fun hb42=> ?_
      ·skip
       refine gL<|gRn (oM 4 rfl<|.nl)<|gC (fun _ _ h_=>xCl h_ bd_92 rfl (xat_c hF x code words0 Lk R pw _ (PSD.rd (h_.sh.ok (.rd1 x) (List.mem_of_getElem? (i:=2) rfl))) (h_.sh.rblk 3 rfl) (h_.sh.at 4 rfl) hok hx k (by omega))) rfl<|?_
       rintro _ _ w43 ⟨rfl,hs43⟩
       refine gWk hs43 rfl<|gU<|gRn (oM 3 rfl<|.nl)<|gC (fun _ _ h_=>xCl h_ bd_92 rfl (xat_c hF x code words0 Lk R pw _ (PSD.rd (h_.sh.ok (.rd1 x) (List.mem_of_getElem? (i:=2) rfl))) (h_.sh.rblk 3 rfl) (h_.sh.at 4 rfl) hok hx (k+1+j) (by omega))) rfl<|?_;clear hs43
       rintro _ _ w44 ⟨rfl,hs44⟩
       refine gWk hs44 rfl<|gU<|gRn (oM 1 rfl<|oV (r_build (cs:= [.int .i64 ((k:Nat):Int), .int .i64 ((nth x.st.ths k).pc), .int .i64 (((k+1+j):Nat):Int), .int .i64 ((nth x.st.ths (k+1+j)).pc), .int .i64 wd30]) rfl rfl (by kernel_rfl)) rfl<|.nl)<|gE (fun _ _ h_=>x_updCl (i:=1) (l:=l2) (k:=(⟨((k:Nat):Int),(nth x.st.ths k).pc,(((k+1+j):Nat):Int),(nth x.st.ths (k+1+j)).pc,wd30⟩:Cl)) h_ rfl rfl rfl rfl rfl rfl) rfl<|nK k28<|gL<|gRn (oM 1 rfl<|oadN _ 1 om9 rfl<|oM 1 rfl<|.nl)<|nN<|?_;clear hs44
       have hc9:=clashAt_yes hwh30 hwh32 (by assumption) (by assumption) (by assumption) (by first|exact .inl (by assumption)|exact .inr (by assumption))
       intro a46 w46 h46
       refine x_again ⟨_, ?_,(j+1),addC l2 (⟨((k:Nat):Int),(nth x.st.ths k).pc,(((k+1+j):Nat):Int),(nth x.st.ths (k+1+j)).pc,wd30⟩:Cl), ?_, ?_,h46.nf ⟨rfl,rfl,rfl,rfl,rfl,rfl,rfl,trivial⟩,rfl⟩
       · rw [hm23];first|omega|(simp only [lens9];omega)
       · omega
       · rw [rowC_succ,←hl2,hc9];rfl
      refine gS<|hK k28<|gL<|gRn (oM 1 rfl<|oadN _ 1 om9 rfl<|oM 1 rfl<|.nl)<|nN<|?_
      have hc9:=clashAt_no hwh30 hwh32 (by first|exact .inl (by assumption)|exact .inr (.inl (by assumption))|exact .inr (.inr (.inl (by assumption)))|exact .inr (.inr (.inr ⟨by assumption,by assumption⟩)))
      intro a47 w47 h47
      refine x_again ⟨_, ?_,(j+1),l2, ?_, ?_,h47.nf ⟨rfl,rfl,rfl,rfl,rfl,rfl,rfl,trivial⟩,rfl⟩
      · rw [hm23];first|omega|(simp only [lens9];omega)
      · omega
      · rw [rowC_succ,←hl2,hc9];rfl
     refine gRn (oKs 2 hb36 rfl rfl<|oK2 rfl<|oK hb36 rfl<|opF hb36 rfl<|.nl)<|nK k33<|gF [1,2,3,6,7,8,16,17,57] rfl<|gcF rfl rfl<|gS<|hK k28<|gL<|gRn (oM 1 rfl<|oadN _ 1 om9 rfl<|oM 1 rfl<|.nl)<|nN<|?_
     have hc9:=clashAt_no hwh30 hwh32 (by first|exact .inl (by assumption)|exact .inr (.inl (by assumption))|exact .inr (.inr (.inl (by assumption)))|exact .inr (.inr (.inr ⟨by assumption,by assumption⟩)))
     intro a48 w48 h48
     refine x_again ⟨_, ?_,(j+1),l2, ?_, ?_,h48.nf ⟨rfl,rfl,rfl,rfl,rfl,rfl,rfl,trivial⟩,rfl⟩
     · rw [hm23];first|omega|(simp only [lens9];omega)
     · omega
     · rw [rowC_succ,←hl2,hc9];rfl
    refine gRn (oKs 3 hb35 rfl rfl<|opF hb35 rfl<|oM 1 rfl<|oKs 2 rfl rfl rfl<|oK2 rfl<|oK rfl rfl<|opF rfl rfl<|.nl)<|nK k33<|gF [1,2,3,6,7,8,16,17,57] rfl<|gcF rfl rfl<|gS<|hK k28<|gL<|gRn (oM 1 rfl<|oadN _ 1 om9 rfl<|oM 1 rfl<|.nl)<|nN<|?_
    have hc9:=clashAt_no hwh30 hwh32 (by first|exact .inl (by assumption)|exact .inr (.inl (by assumption))|exact .inr (.inr (.inl (by assumption)))|exact .inr (.inr (.inr ⟨by assumption,by assumption⟩)))
    intro a49 w49 h49
    refine x_again ⟨_, ?_,(j+1),l2, ?_, ?_,h49.nf ⟨rfl,rfl,rfl,rfl,rfl,rfl,rfl,trivial⟩,rfl⟩
    · rw [hm23];first|omega|(simp only [lens9];omega)
    · omega
    · rw [rowC_succ,←hl2,hc9];rfl
   refine gRn (oK hb34 rfl<|opF hb34 rfl<|oM 1 rfl<|oKs 3 rfl rfl rfl<|opF rfl rfl<|oM 1 rfl<|oKs 2 rfl rfl rfl<|oK2 rfl<|oK rfl rfl<|opF rfl rfl<|.nl)<|nK k33<|gF [1,2,3,6,7,8,16,17,57] rfl<|gcF rfl rfl<|gS<|hK k28<|gL<|gRn (oM 1 rfl<|oadN _ 1 om9 rfl<|oM 1 rfl<|.nl)<|nN<|?_
   have hc9:=clashAt_no hwh30 hwh32 (by first|exact .inl (by assumption)|exact .inr (.inl (by assumption))|exact .inr (.inr (.inl (by assumption)))|exact .inr (.inr (.inr ⟨by assumption,by assumption⟩)))
   intro a50 w50 h50
   refine x_again ⟨_, ?_,(j+1),l2, ?_, ?_,h50.nf ⟨rfl,rfl,rfl,rfl,rfl,rfl,rfl,trivial⟩,rfl⟩
   · rw [hm23];first|omega|(simp only [lens9];omega)
   · omega
   · rw [rowC_succ,←hl2,hc9];rfl
  refine gX<|hK k20<|gL<|gRn (oadN _ 1 om9 rfl<|oM 1 rfl<|.nl)<|nN<|fun a51 w51 h51=>x_again ⟨_, ?_,(k+1),l2, ?_, ?_,h51.nf ⟨rfl,rfl,rfl,rfl,rfl,trivial⟩,rfl⟩
  · rw [hm15];first|omega|(simp only [lens9];omega)
  · omega
  · rw [clsN_succ,←hl1,hl2,pgN_len];congr 1;omega
 refine gX<|fun a52 w52 h52=> ?_
 try simp only [Exit.then,Exit.inBlock,if_true]
 refine x_end0 (fn:=Tryz.f51) rfl h52 ?_
 have e9:l1=clsS (pgN code words0 Lk R) l0 x.st:=by rw [hl1,show k=code.l.length from by omega];unfold clsS;rw [pgN_len]
 refine ⟨rfl, ?_⟩
 rw [←e9]
 exact (h52.sh.sel [1,2,3,4] rfl)
theorem find1_c (K:Nat→Prop)(F:MemF)(x:PSD F)(code:Ls (Ls Ins))(words0:Ls Int)(Lk R:Nat)(pw:Value)(g:Nat)(l0:List Cl)(b1 b5:Nat)(W:World)(hF:MemFI Tryz.prog 182 3 204 5 141 F)(hok:OkPg (pgN code words0 Lk R))(hx:PX code words0 Lk R x)(hS:Sh K W W [.blk b1 25 [code.v,pw, .int .i64 ((Lk:Nat):Int), .int .i64 ((R:Nat):Int)], .blk b5 82 [.map (some g)], .clsO g l0, .rd1 x, .rblk x.gp 25 [code.v,pw, .int .i64 ((Lk:Nat):Int), .int .i64 ((R:Nat):Int)], .at_ code]):
    Rets Tryz.prog 50 [.pointer (some ⟨x.g,0,none⟩), .pointer (some ⟨b1,0,none⟩), .pointer (some ⟨b5,0,none⟩)] W (fun v w' =>v= .tuple #[]∧Sh K W w' [.blk b1 25 [code.v,pw, .int .i64 ((Lk:Nat):Int), .int .i64 ((R:Nat):Int)], .blk b5 82 [.map (some g)], .clsO g (clsS (pgN code words0 Lk R) l0 x.st), .rd1 x, .rblk x.gp 25 [code.v,pw, .int .i64 ((Lk:Nat):Int), .int .i64 ((R:Nat):Int)], .at_ code]):=by
 refine gen Tryz.func50 Tryz.ntmps50 hS rfl fun a10 h10=>gG h10<|gL<|gRn (olw 0 ti_25 rfl rfl<|oM 1 rfl<|olB 1 ti_82 rfl rfl<|.nl)<|gO [2,3,4,5,0,1] rfl<|fun a16 w16 h16=> ?_;clear h10
 have hp15:=h16.sh.passL (Lp:= [_,_,_,_])
 refine wl_ex (x_call h16 bd_51 rfl rfl rfl rfl rfl (clashes_c _ F x code words0 Lk R pw g l0 _ hF hok hx hp15)) (wanted_none rfl _) ?_
 rintro a17 w17 ⟨_,⟨rfl,hs17⟩,hf17⟩
 have h17:St 8 K W a17 w17 _ [_,_,_,_,_,_]:=⟨hf17,h16.sh.backL (Lp:= [_,_,_,_]) hs17 (by intro A hA b hb;simp only [List.mem_cons,List.not_mem_nil,or_false] at hA;rcases hA with rfl|rfl|rfl|rfl<;>first|exact (hb:False).elim|exact Flat.noRd hb|exact .inl ⟨_,List.mem_cons_self .., .inr hb⟩|exact .inl ⟨_,by simp, .inr hb⟩)⟩
 clear hf17 hs17
 clear h16
 refine gG h17<|nN<|fun a18 w18 h18=> ?_;clear h17
 try simp only [Exit.then,Exit.inBlock,if_true]
 refine x_end0 (fn:=Tryz.f50) rfl h18 ?_
 exact ⟨rfl,(h18.sh.sel [4,5,0,1,2,3] rfl)⟩
end Go.Proofs.YtmjkobhkkjgplaaGreatDoor
namespace Go.Proofs.YtmjkobhkkjgplaaGreatDoor
open Go.Shelf
def sortCls_ren :Go.Shelf.Ren:=⟨fun|6=>52|15=>94|14=>93|28=>138|29=>139|20=>130|21=>131|22=>132|23=>133|24=>134|25=>135|26=>136|27=>137|46=>148|47=>149|48=>150|49=>151|50=>152|57=>166|n=>n,fun|22=>41|24=>58|25=>91|3=>3|39=>143|0=>0|53=>200|55=>202|4=>4|46=>193|45=>192|50=>197|5=>5|9=>9|66=>216|70=>220|76=>234|77=>235|n=>n,fun|n=>n⟩
theorem sortCls :Go.Proofs.SlLaysF0.n6 Tryz.prog sortCls_ren:= {
 mixed:=by kernel_rfl
 f6:=⟨Tryz.f52.name,by decide,Tryz.func52.trans (congrArg some (by kernel_rfl))⟩
 f14:=⟨Tryz.f93.name,by decide,Tryz.func93.trans (congrArg some (by kernel_rfl))⟩
 f15:=Tryz.func94.trans (congrArg some (by kernel_rfl))
 f20:=⟨Tryz.f130.name,by decide,Tryz.func130.trans (congrArg some (by kernel_rfl))⟩
 f21:=⟨Tryz.f131.name,by decide,Tryz.func131.trans (congrArg some (by kernel_rfl))⟩
 f22:=⟨Tryz.f132.name,by decide,Tryz.func132.trans (congrArg some (by kernel_rfl))⟩
 f23:=⟨Tryz.f133.name,by decide,Tryz.func133.trans (congrArg some (by kernel_rfl))⟩
 f24:=⟨Tryz.f134.name,by decide,Tryz.func134.trans (congrArg some (by kernel_rfl))⟩
 f25:=⟨Tryz.f135.name,by decide,Tryz.func135.trans (congrArg some (by kernel_rfl))⟩
 f26:=⟨Tryz.f136.name,by decide,Tryz.func136.trans (congrArg some (by kernel_rfl))⟩
 f27:=⟨Tryz.f137.name,by decide,Tryz.func137.trans (congrArg some (by kernel_rfl))⟩
 f28:=Tryz.func138.trans (congrArg some (by kernel_rfl))
 f29:=Tryz.func139.trans (congrArg some (by kernel_rfl))
 f46:=⟨Tryz.f148.name,by decide,Tryz.func148.trans (congrArg some (by kernel_rfl))⟩
 f47:=Tryz.func149.trans (congrArg some (by kernel_rfl))
 f48:=Tryz.func150.trans (congrArg some (by kernel_rfl))
 f49:=⟨Tryz.f151.name,by decide,Tryz.func151.trans (congrArg some (by kernel_rfl))⟩
 f50:=⟨Tryz.f152.name,by decide,Tryz.func152.trans (congrArg some (by kernel_rfl))⟩
 f57:=⟨Tryz.f166.name,by decide,Tryz.func166.trans (congrArg some (by kernel_rfl))⟩
 t0:=Tryz.underlying0
 a0:=Tryz.isAgg0
 z0:=Tryz.sizeOf0
 v0:=Tryz.zeroValue0
 t3:=Tryz.underlying3
 a3:=Tryz.isAgg3
 z3:=Tryz.sizeOf3
 v3:=Tryz.zeroValue3
 t4:=Tryz.underlying4
 a4:=Tryz.isAgg4
 z4:=Tryz.sizeOf4
 v4:=Tryz.zeroValue4
 t5:=Tryz.underlying5
 a5:=Tryz.isAgg5
 z5:=Tryz.sizeOf5
 v5:=Tryz.zeroValue5
 t9:=Tryz.underlying9
 a9:=Tryz.isAgg9
 z9:=Tryz.sizeOf9
 v9:=Tryz.zeroValue9
 t22:=Tryz.underlying41
 a22:=Tryz.isAgg41
 z22:=Tryz.sizeOf41
 v22:=Tryz.zeroValue41
 t25:=Tryz.underlying91
 a25:=Tryz.isAgg91
 z25:=Tryz.sizeOf91
 v25:=Tryz.zeroValue91
 t39:=Tryz.underlying143
 a39:=Tryz.isAgg143
 z39:=Tryz.sizeOf143
 v39:=Tryz.zeroValue143
 t45:=Tryz.underlying192
 a45:=Tryz.isAgg192
 z45:=Tryz.sizeOf192
 v45:=Tryz.zeroValue192
 t46:=Tryz.underlying193
 a46:=Tryz.isAgg193
 z46:=Tryz.sizeOf193
 v46:=Tryz.zeroValue193
 t50:=Tryz.underlying197
 a50:=Tryz.isAgg197
 z50:=Tryz.sizeOf197
 v50:=Tryz.zeroValue197
 t53:=Tryz.underlying200
 a53:=Tryz.isAgg200
 z53:=Tryz.sizeOf200
 v53:=Tryz.zeroValue200
 t55:=Tryz.underlying202
 a55:=Tryz.isAgg202
 z55:=Tryz.sizeOf202
 v55:=Tryz.zeroValue202
 t66:=Tryz.underlying216
 a66:=Tryz.isAgg216
 z66:=Tryz.sizeOf216
 v66:=Tryz.zeroValue216
 t70:=Tryz.underlying220
 a70:=Tryz.isAgg220
 z70:=Tryz.sizeOf220
 v70:=Tryz.zeroValue220
 t76:=Tryz.underlying234
 a76:=Tryz.isAgg234
 z76:=Tryz.sizeOf234
 v76:=Tryz.zeroValue234
 t77:=Tryz.underlying235
 a77:=Tryz.isAgg235
 z77:=Tryz.sizeOf235
 v77:=Tryz.zeroValue235 }
end Go.Proofs.YtmjkobhkkjgplaaGreatDoor
namespace Go.Proofs.YtmjkobhkkjgplaaGreatDoor
open Go.RowKit
set_option linter.unusedSimpArgs false
set_option linter.unusedVariables false
set_option maxRecDepth 100000
set_option maxHeartbeats 8000000
theorem cmpI9_lt (a b:Int):Dr.cmpI a b<0↔a<b:=by unfold Dr.cmpI;split<;>(try split)<;>omega
theorem cmpI9_eq (a b:Int):Dr.cmpI a b=0↔a=b:=by unfold Dr.cmpI;split<;>(try split)<;>omega
theorem ordC_lt (a b:Cl):Dr.ordC a b<0↔lessC a b=true:=by
 unfold Dr.ordC lessC
 simp only [Dr.orL]
 by_cases e1:a.th=b.th
 ·rw [if_neg (by simpa using (cmpI9_eq _ _).2 e1),if_pos e1]
  by_cases e2:a.at_=b.at_
  ·rw [if_neg (by simpa using (cmpI9_eq _ _).2 e2),if_pos e2]
   by_cases e3:a.oth=b.oth
   ·rw [if_neg (by simpa using (cmpI9_eq _ _).2 e3),if_pos e3]
    by_cases e4:a.wh=b.wh
    ·rw [if_neg (by simpa using (cmpI9_eq _ _).2 e4),if_pos e4]
     by_cases e5:a.wd=b.wd
     ·rw [if_neg (by simpa using (cmpI9_eq _ _).2 e5)];simp [e5]
     ·rw [if_pos (fun h=>e5 ((cmpI9_eq _ _).1 h)),cmpI9_lt];simp
    ·rw [if_pos (fun h=>e4 ((cmpI9_eq _ _).1 h)),if_neg e4,cmpI9_lt];simp
   ·rw [if_pos (fun h=>e3 ((cmpI9_eq _ _).1 h)),if_neg e3,cmpI9_lt];simp
  ·rw [if_pos (fun h=>e2 ((cmpI9_eq _ _).1 h)),if_neg e2,cmpI9_lt];simp
 ·rw [if_pos (fun h=>e1 ((cmpI9_eq _ _).1 h)),if_neg e1,cmpI9_lt];simp
theorem sortCls_c (K:Nat→Prop)(s:Ls Cl)(W:World)(hS:Sh K W W [.own 58 s]):
  Rets Tryz.prog 52 [s.v, .func (.func 53) #[] #[]] W (fun v w' =>v= .tuple #[]∧∃l' :List Cl,l'.Perm s.l∧l'.Pairwise (fun a b=>lessC b a=false)∧Sh K W w' [.own 58 (⟨s.v,l'⟩:Ls Cl)]):=by
 have eg:∀args w,(callFunc 53 args).run Tryz.prog w= .ok (.enter 53 args) w:=enters_of Tryz.func53 (by kernel_rfl) rfl
 have hc:=sort_c (P:=Tryz.prog) (ρ:=sortCls_ren) sortCls (k:=5) Tryz.isAgg58 Tryz.sizeOf58 rfl rfl (by decide) Dr.ordC (fun x h=>by rw [ordC_lt,lessC_irr] at h;cases h) (fun x y z h1 h2=>by rw [ordC_lt] at*;exact lessC_trans h1 h2)
  (fun x y z h1 h2 h3=>by
   rw [ordC_lt] at*
   cases e1:lessC z y with
   |true=>have h4:=lessC_trans h3 e1;exact h1 h4
   |false=>
    have h5:lessC y z=false:=by simpa using h2
    have h6:=lessC_tri h5 e1
    rw [←h6] at h3
    exact h1 h3) 53 eg hS
  (fun x _ y _ W' hx hy=>by
   refine Calls.mono (Dr.cmpC_c x y W') ?_
   rintro e w' ⟨v,he,hv,hs⟩
   exact ⟨by rw [he,hv],hs.chg⟩)
 refine Rets.mono hc ?_
 rintro v w' ⟨rfl,l',hp,hs,hsh⟩
 refine ⟨rfl,l',hp, ?_,hsh⟩
 refine hs.imp ?_
 intro a b h
 cases h2:lessC b a with
 |false=>rfl
 |true=>exact absurd ((ordC_lt b a).2 h2) h
theorem nodup_inj {α:Type}{l:List α}(h:l.Nodup){a b:Nat}{ha:a<l.length}{hb:b<l.length}(e:l[a]=l[b]):a=b:=by
 have h1:=List.pairwise_iff_getElem.1 h
 rcases Nat.lt_trichotomy a b with h2|h2|h2
 ·exact absurd e (h1 a b ha hb h2)
 ·exact h2
 ·exact absurd e.symm (h1 b a hb ha h2)
theorem find_len {p:Pg}{u:Ls OutL}{W:World}{K:Nat→Prop}{z:List Cl}(h:FRes p 0 (clsS p) [] K W true u z)(hn:p.code.length≤4):z.length≤64000:=by
 obtain ⟨h1,_,_,S,rfl,h3,h4⟩:=h.good rfl
 have hS:S.length≤4000:=Nat.le_of_not_lt fun h9=>h1 ⟨S,h3,fun s hs=>(h4 s).1 hs,h9⟩
 have:=clsF_len (p:=p) (l:= []) (S:=S)
 have h5:p.code.length*p.code.length≤4*4:=Nat.mul_le_mul hn hn
 have h6:=Nat.mul_le_mul hS h5
 simp only [List.length_nil] at this
 omega
structure FindF (p:Pg)(ok:Bool)(l:List Cl):Prop where
 no:ok=false→Big p 0∧l= []
 yes:ok=true→¬Big p 0∧l.Nodup∧l.Pairwise (fun a b=>lessC a b=true)∧∀c,c∈l↔∃s,Reach p 0 s∧∃a b,a<b∧b<p.code.length∧clashAt p s a b=some c
theorem find_yes {p:Pg}{u:Ls OutL}{W:World}{K:Nat→Prop}{z cl l' :List Cl}{ps:List Nat}(h:FRes p 0 (clsS p) [] K W true u z)(hcl:cl=ps.map (nth z))(hnd:ps.Nodup)(hlt:∀q∈ps,q<z.length)(hall:∀q,q<z.length→q∈ps)(hp:l'.Perm cl)(hs:l'.Pairwise (fun a b=>lessC b a=false)):FindF p true l' :=by
 refine ⟨fun h=>(by cases h),fun _=> ?_⟩
 obtain ⟨h1,_,_,S,rfl,h3,h4⟩:=h.good rfl
 have hz:(S.foldl (clsS p) []).Nodup:=nodup_clsF List.nodup_nil
 have hmem:∀c,c∈cl↔c∈S.foldl (clsS p) []:=fun c=>by
  rw [hcl,List.mem_map]
  constructor
  ·rintro ⟨q,hq,rfl⟩;exact nth_mem _ _ (hlt q hq)
  ·intro hc
   obtain ⟨q,hq,rfl⟩:=List.mem_iff_getElem.1 hc
   exact ⟨q,hall q hq,nth_lt _ _ hq⟩
 have hcn:cl.Nodup:=by
  rw [hcl]
  refine List.pairwise_map.2 (List.Pairwise.imp_of_mem ?_ hnd)
  intro a b ha hb hab e
  have ha' :=hlt a ha
  have hb' :=hlt b hb
  rw [nth_lt _ _ ha',nth_lt _ _ hb'] at e
  exact hab (nodup_inj hz e)
 have hln:=hp.nodup_iff.2 hcn
 refine ⟨h1,hln, ?_,fun c=> ?_⟩
 ·have h5:=hs.and hln
  refine h5.imp ?_
  rintro a b ⟨ha,hab⟩
  cases e:lessC a b with
  |true=>rfl
  |false=>exact absurd (lessC_tri e ha) hab
 ·rw [hp.mem_iff,hmem,mem_clsF]
  constructor
  ·rintro (h|⟨s,hs,h⟩)
   ·cases h
   ·exact ⟨s,(h4 s).1 hs,h⟩
  ·rintro ⟨s,hs,h⟩
   exact .inr ⟨s,(h4 s).2 hs,h⟩
theorem find_no {p:Pg}{u:Ls OutL}{W:World}{K:Nat→Prop}{z:List Cl}(h:FRes p 0 (clsS p) [] K W false u z):FindF p false []:=⟨fun _=>⟨(h.big rfl).1,rfl⟩,fun h=>(by cases h)⟩
theorem ps_room {ps:List Nat}{q n:Nat}(hn:ps.Nodup)(ha:∀x∈ps,x<n)(hq:q<n)(hqn:q∉ps):ps.length<n:=by
 have h1:(q::ps).Nodup:=List.nodup_cons.2 ⟨hqn,hn⟩
 have key:∀(n:Nat) (l:List Nat),l.Nodup→(∀x∈l,x<n)→l.length≤n:=by
  intro n
  induction n with
  |zero=>intro l _ h;cases l with
   |nil=>exact Nat.le_refl _
   |cons a l=>exact absurd (h a (by simp)) (by omega)
  |succ n ih=>
   intro l hl h
   by_cases hm:n∈l
   ·have:=ih (l.erase n) (hl.erase n) (fun x hx=>by
     have h2:=(List.Nodup.mem_erase_iff hl).1 hx
     have:=h x h2.2
     have:=h2.1
     omega)
    rw [List.length_erase_of_mem hm] at this
    omega
   ·exact Nat.le_succ_of_le (ih l hl fun x hx=>by
     have:=h x hx
     have:x≠n:=fun e=>hm (e▸hx)
     omega)
 have:=key n (q::ps) h1 (fun x hx=>by rcases List.mem_cons.1 hx with rfl|hx;exact hq;exact ha x hx)
 rw [List.length_cons] at this
 omega
def envF (code:Ls (Ls Ins))(words0:Ls Int)(Lk R:Nat)(b1 b5 g:Nat)(z:List Cl):Asn:= .big [.blk b1 25 [code.v,words0.v, .int .i64 ((Lk:Nat):Int), .int .i64 ((R:Nat):Int)], .blk b5 82 [.map (some g)], .clsO g z]
theorem envF_rd {code:Ls (Ls Ins)}{words0:Ls Int}{Lk R b1 b5 g:Nat}(z:List Cl)(b:Nat):¬(envF code words0 Lk R b1 b5 g z).rd b:=by
 rintro ⟨A,hA,hb⟩
 simp only [List.mem_cons,List.not_mem_nil,or_false] at hA
 rcases hA with rfl|rfl|rfl<;>exact hb
theorem envF_step {code:Ls (Ls Ins)}{words0:Ls Int}{Lk R:Nat}(b1 b5 g:Nat)(hok:OkPg (pgN code words0 Lk R))(K' :Nat→Prop)(W' :World)(gp:Nat)(x:PSD FP)(z:List Cl)(hx:PX code words0 Lk R x)(hg:x.gp=gp)(h:Sh K' W' W' [envF code words0 Lk R b1 b5 g z, .rd1 x, .rblk gp 25 [code.v,words0.v, .int .i64 ((Lk:Nat):Int), .int .i64 ((R:Nat):Int)], .at_ code]):
  Rets Tryz.prog 50 ([]++ [.pointer (some ⟨x.g,0,none⟩)]++ [.pointer (some ⟨b1,0,none⟩), .pointer (some ⟨b5,0,none⟩)]) W' (fun v w' =>v= .tuple #[]∧Sh K' W' w' [envF code words0 Lk R b1 b5 g (clsS (pgN code words0 Lk R) z x.st), .rd1 x, .rblk gp 25 [code.v,words0.v, .int .i64 ((Lk:Nat):Int), .int .i64 ((R:Nat):Int)], .at_ code]):=by
 subst hg
 refine Rets.mono (find1_c K' FP x code words0 Lk R words0.v g z b1 b5 W' FP_ok hok hx h.open_) ?_
 rintro v w' ⟨rfl,hs⟩
 exact ⟨rfl,Sh.close (B:= [.blk b1 25 [code.v,words0.v, .int .i64 ((Lk:Nat):Int), .int .i64 ((R:Nat):Int)], .blk b5 82 [.map (some g)], .clsO g _]) hs⟩
theorem find_k (code:Ls (Ls Ins))(words0:Ls Int)(Lk R:Nat)(W:World)(hcode:code.At W)(hwords:words0.At W)(hok:OkPg (pgN code words0 Lk R))(hR:PgR (pgN code words0 Lk R)):
    Rets Tryz.prog 20 [.agg #[code.v,words0.v, .int .i64 ((Lk:Nat):Int), .int .i64 ((R:Nat):Int)]] W (fun v w' =>∃(l:Ls Cl) (ok:Bool),v= .tuple #[l.v, .agg #[.int .i64 (if ok=true then 0 else 10), .int .i64 0, .int .i64 0]]∧FindF (pgN code words0 Lk R) ok l.l∧Sh0 W w' [.own 58 l]):=by
 have hz:checkG (pgOf code words0 ((Lk:Nat):Int) ((R:Nat):Int))=⟨0,0,0⟩:=checkG_ok hok
 refine gen Tryz.func20 Tryz.ntmps20 (Sh0.ext2 hcode hwords:Sh (fun _=>False) W W [.at_ code, .at_ words0]) rfl fun a10 h10=>gG h10<|sK fun _ k11=>gbx rfl rfl fun b12=>gRn (oM 1 rfl<|.nl)<|gal ti_28 rfl fun b13=>nK k11<|gK fun _ k14=>sK fun _ k15=>gRn (olw 1 ti_25 rfl rfl<|.nl)<|gC (fun _ _ h_=>xCl h_ bd_43 rfl (asmCheck_c (code:=code) (words:=words0) (locks:=((Lk:Nat):Int)) (regs:=((R:Nat):Int)) (h_.sh.at 2 rfl) (h_.sh.at 3 rfl))) rfl<|?_;clear h10
 rintro _ _ w16 ⟨rfl,hs16⟩
 refine gWk hs16 rfl<|gU<|gal ti_28 rfl fun b17=>gsw 0 ti_28 rfl rfl rfl<|nK k15<|sG (ofB fl_28_0 rfl<|olB 0 ti_26 rfl rfl<|oneI _ _ rfl<|.nl)<|gcF rfl (by rw [hz];rfl)<|gS<|hK k14<|sK fun _ k20=>gE1 (fun _ _ h_=>x_makeCl h_ rfl rfl rfl) rfl fun g21=>gal ti_82 rfl fun b22=>gst 0 ti_82 rfl rfl rfl<|nK k20<|gK fun _ k24=>sK fun _ k25=>gRn (olw 4 ti_25 rfl rfl<|oV (r_makeFunc rfl rfl rfl) rfl<|.nl)<|gO [4,0,1,2,3,5,6] rfl<|fun a28 w28 h28=> ?_;clear hs16
 have h27:St _ _ _ _ _ _ (envF code words0 Lk R b12 b22 g21 []:: [_,_,_,_]):=⟨h28.fr,Sh.close (B:= [_,_,_]) h28.sh⟩
 clear h28
 have h29:=h27.sel (L' := [_,_,_,_,_]) [3,4,0,1,2] rfl
 have hp30:=h29.sh.passL (Lp:= [_,_,_])
 refine wl_ex (x_call h29 bd_49 rfl rfl rfl rfl rfl (walks_c _ (List Cl) (envF code words0 Lk R b12 b22 g21) (clsS (pgN code words0 Lk R)) [] 50 [] [.pointer (some ⟨b12,0,none⟩), .pointer (some ⟨b22,0,none⟩)] code words0 Lk R _ hp30 hok hR bd_50 (fun z b=>envF_rd z b) (fun K' W' gp x z hx hg h=>envF_step b12 b22 g21 hok K' W' gp x z hx hg h))) (wanted_none rfl _) ?_
 rintro a31 w31 ⟨_,⟨u31,ok31,z31,rfl,hfq31,hs31⟩,hf31⟩
 have h31:St 40 (fun _=>False) W a31 w31 _ [_,_,_,_]:=⟨hf31,h29.sh.backL (Lp:= [_,_,_]) hs31 (by intro A hA b hb;simp only [List.mem_cons,List.not_mem_nil,or_false] at hA;rcases hA with rfl|rfl<;>first|exact (hb:False).elim|exact Flat.noRd hb|exact .inl ⟨_,List.mem_cons_self .., .inr hb⟩|exact (envF_rd _ _ hb).elim|(obtain ⟨i9,hi9,hb9⟩:=hb;exact (hfq31.nw _ (nth_mem _ _ hi9) _ hb9).elim (fun ⟨A9,hA9,hf9⟩=> .inl ⟨A9,hA9, .inl hf9⟩) (fun h9=> .inr (.inr h9)))|exact .inl ⟨_,by simp, .inr hb⟩)⟩
 clear hf31 hs31
 clear h29
 refine gG h31<|gRn (oM 1 rfl<|.nl)<|gO [1,0,2,3] rfl<|fun a34 w34 h34=> ?_;clear h31
 have h33:St _ _ _ _ _ _ (_::_::_::_):=⟨h34.fr,h34.sh.open_⟩
 clear h34
 refine gG h33<|gRn (oxt rfl<|oxt rfl<|oM 2 rfl<|.nl)<|nK k25<|sG (oM 1 rfl<|ont rfl<|.nl)<|?_;clear h33
 refine gCb rfl (fun hb36=> ?_) fun hb36=> ?_
 ·have hn36:ok31=false:=(Bool.not_eq_true' _).mp hb36
  refine sK fun _ k37=>gRn (oV (r_build (cs:= [.int .i64 10, .int .i64 0, .int .i64 0]) rfl rfl (by kernel_rfl)) rfl<|oM 1 rfl<|.nl)<|gsw 5 ti_28 rfl rfl rfl<|nK k37<|gR<|uT<|fun a39 w39 h39=>x_rettc (fn:=Tryz.f20) (t:=3) (u:=2) (i:=5) ti_28 rfl h39 rfl rfl rfl rfl ?_
  have h40:=h39.nil (α:=Cl) 58
  clear h39
  have hof:ok31=false:=by simpa using hn36
  exact ⟨⟨.slice none 0 0, []⟩,false,rfl,find_no (hof▸hfq31),(h40.sh.sel [0] rfl)⟩
 have hn36:ok31=true:=(Bool.not_eq_false' _).mp hb36
 refine gS<|hK k24<|sG (oM 1 rfl<|.nl)<|fun a43 w43 h43=> ?_
 have h42:=h43.nil (α:=Cl) 58
 clear h43
 have hof:ok31=true:=by simpa using hn36
 have hzl:z31.length≤64000:=find_len (hof▸hfq31) (by rw [pgN_len];exact (ok_lenP hok).2.1)
 refine gG h42<|gK fun _ k44=>sK fun _ k45=>gRn (olB 2 ti_82 rfl rfl<|.nl)<|gE1 (fun _ _ h_=>x_rangeCl (i:=3) (l:=z31) h_ rfl rfl rfl rfl rfl) rfl fun r46=>nK k45<|gB<|fun a48 w48 h48=>x_loop (fun m a w=>∃(ps:List Nat) (cl:List Cl) (vc:Value),(cl=ps.map (nth z31))∧(ps.Nodup)∧(∀q∈ps,q<z31.length)∧St 40 (fun _=>False) W a w [(3, .pointer (some ⟨b13,0,none⟩)),(8,vc),(27, .pointer (some ⟨r46,0,none⟩))] [.itO r46 g21 z31.length ps, .own 58 (⟨vc,cl⟩:Ls Cl), .blk b12 25 [code.v,words0.v, .int .i64 ((Lk:Nat):Int), .int .i64 ((R:Nat):Int)], .blk b22 82 [.map (some g21)], .clsO g21 z31, .own 39 u31, .blk b17 28 [.int .i64 ((checkG (pgOf code words0 ((Lk:Nat):Int) ((R:Nat):Int))).code), .int .i64 ((checkG (pgOf code words0 ((Lk:Nat):Int) ((R:Nat):Int))).thread), .int .i64 ((checkG (pgOf code words0 ((Lk:Nat):Int) ((R:Nat):Int))).at_)], .blk b13 28 [.int .i64 0, .int .i64 0, .int .i64 0]]∧m=z31.length-ps.length) ⟨_, [], [],_,(rfl),(List.nodup_nil),(fun q h=>(by cases h)),h48.nf ⟨rfl,rfl,rfl,trivial⟩,rfl⟩ ?_;clear h42
 clear h48
 rintro m47 a47 w47 ⟨ps,cl,vc,hcl,hnd,hpl,h47,hm47⟩
 refine gG h47<|sK fun _ k49=>fun a51 w51 h51=>wl_ex (x_nextCl (i:=4) (j:=0) (l:=z31) h51 rfl rfl rfl rfl rfl rfl rfl) (wanted_none rfl _) ?_;clear h47
 rintro a50 w50 (⟨hend50,h50⟩|⟨q50,hq50,hqn50,h50⟩)
 ·clear h51
  refine gG h50<|gRn (oxt rfl<|.nl)<|nK k49<|gK fun _ k52=>gcF rfl rfl<|gX<|hK k44<|sK fun _ k53=>gRn (oM 1 rfl<|.nl)<|gO [1,0,2,3,4,5,6,7] rfl<|fun a59 w59 h59=> ?_;clear h50
  have hp58:=h59.sh.passL (Lp:= [_])
  refine wl_ex (x_call h59 bd_52 rfl rfl rfl rfl rfl (sortCls_c _ (⟨vc,cl⟩:Ls Cl) _ hp58)) (wanted_none rfl _) ?_
  rintro a60 w60 ⟨_,⟨rfl,k60,hkp60,hks60,hs60⟩,hf60⟩
  have h60:St 40 (fun _=>False) W a60 w60 _ [_,_,_,_,_,_,_,_]:=⟨hf60,h59.sh.backL (Lp:= [_]) hs60 (by intro A hA b hb;simp only [List.mem_cons,List.not_mem_nil,or_false] at hA;rcases hA with rfl<;>first|exact (hb:False).elim|exact Flat.noRd hb|exact .inl ⟨_,List.mem_cons_self .., .inr hb⟩|exact .inl ⟨_,by simp, .inr hb⟩)⟩
  clear hf60 hs60
  clear h59
  refine gG h60<|nK k53<|sK fun _ k61=>gRn (oM 1 rfl<|oV (r_build (cs:= [.int .i64 0, .int .i64 0, .int .i64 0]) rfl rfl (by kernel_rfl)) rfl<|oM 1 rfl<|.nl)<|gsw 7 ti_28 rfl rfl rfl<|nK k61<|gR<|fun a63 w63 h63=>x_rettc (fn:=Tryz.f20) (t:=3) (u:=2) (i:=7) ti_28 rfl h63 rfl rfl rfl rfl ?_;clear h60
  have hof:ok31=true:=by simpa using hn36
  exact ⟨(⟨vc,k60⟩:Ls Cl),true,rfl,find_yes (hof▸hfq31) hcl hnd hpl hend50 hkp60 hks60,(h63.sh.sel [0] rfl)⟩
 clear h51
 refine gG h50<|gRn (oxt rfl<|.nl)<|nK k49<|gK fun _ k64=>gcT rfl rfl<|gS<|hK k64<|gB<|sK fun _ k65=>gRn (oV (r_entryCl (i:=4) (j:=0) (l:=z31) (q:=q50) rfl rfl rfl rfl rfl (by assumption)) rfl<|oxt rfl<|.nl)<|gal ti_58 rfl fun b66=>gsw 0 ti_58 rfl rfl rfl<|nK k65<|?_;clear h50
 have hrm:=ps_room hnd hpl hq50 hqn50
 have hcln:cl.length=ps.length:=by rw [hcl,List.length_map]
 refine gL<|gRn (oM 1 rfl<|olw 0 ti_58 rfl rfl<|.nl)<|gE1 (fun _ _ h_=>x_lit (n:=1) (cs:= [.int .i64 ((nth z31 q50).th), .int .i64 ((nth z31 q50).at_), .int .i64 ((nth z31 q50).oth), .int .i64 ((nth z31 q50).wh), .int .i64 ((nth z31 q50).wd)]) ([(nth z31 q50)]:List Cl) h_ sl_41 ti_58 rfl rfl rfl (by decide) rfl (by kernel_rfl) rfl (fun q hq w h=>Flat.inner _ _) (fun q hq b hb=>(Flat.on _ _ hb).elim) rfl rfl) rfl fun v68=>gE1 (fun _ _ h_=>x_app (r:=3) (rm:=0) (s:=(⟨vc,cl⟩:Ls Cl)) (m:=(⟨v68, [(nth z31 q50)]⟩:Ls Cl)) h_ sl_41 ti_58 rfl rfl rfl rfl rfl rfl rfl (fun w h=>(h.own 0 rfl)) (fun b hb=>own_on (h_.sh.ok _ (List.mem_of_getElem? (i:=0) rfl)) hb) (fun q hq b hb=>⟨q,hq,hb⟩) rfl rfl rfl inferInstance (show (cl.length+([(nth z31 q50)]).length)*40≤140737488355328∧cl.length+([(nth z31 q50)]).length≤140737488355328 from om9) rfl rfl) rfl fun v69=>gRn (oM 1 rfl<|.nl)<|nN<|fun a70 w70 h70=> ?_
 change∃_m,_m<_∧_
 have hrl:(ps++ [q50]).length=ps.length+1:=by simp
 refine ⟨_, ?_,ps++ [q50],cl++([(nth z31 q50)]),v69, ?_, ?_, ?_,h70.nrm ⟨rfl,rfl,rfl,trivial⟩ [2,3,4,5,6,7,8,9] rfl,rfl⟩
 · rw [hm47];first|omega|(simp only [lens9];omega)
 · rw [hcl,List.map_append];rfl
 · exact List.nodup_append.2 ⟨hnd,by simp,fun a ha b hb e=>by obtain rfl:=List.mem_singleton.1 hb;exact absurd (e▸ha) (by assumption)⟩
 · intro q hq;rcases List.mem_append.1 hq with hq|hq;exact hpl q hq;obtain rfl:=List.mem_singleton.1 hq;assumption
theorem find_b (code:Ls (Ls Ins))(words:Ls Int)(locks regs:Int)(W:World)(hcode:code.At W)(hwords:words.At W)(hz:(checkG (pgOf code words locks regs)).code≠0):
    Rets Tryz.prog 20 [.agg #[code.v,words.v, .int .i64 locks, .int .i64 regs]] W (fun v w' =>v= .tuple #[.slice none 0 0,(checkG (pgOf code words locks regs)).val]∧Sh0 W w' []):=by
 refine gen Tryz.func20 Tryz.ntmps20 (Sh0.ext2 hcode hwords:Sh (fun _=>False) W W [.at_ code, .at_ words]) rfl fun a10 h10=>gG h10<|sK fun _ k11=>gbx rfl rfl fun b12=>gRn (oM 1 rfl<|.nl)<|gal ti_28 rfl fun b13=>nK k11<|gK fun _ k14=>sK fun _ k15=>gRn (olw 1 ti_25 rfl rfl<|.nl)<|gC (fun _ _ h_=>xCl h_ bd_43 rfl (asmCheck_c (code:=code) (words:=words) (locks:=locks) (regs:=regs) (h_.sh.at 2 rfl) (h_.sh.at 3 rfl))) rfl<|?_;clear h10
 rintro _ _ w16 ⟨rfl,hs16⟩
 refine gWk hs16 rfl<|gU<|gal ti_28 rfl fun b17=>gsw 0 ti_28 rfl rfl rfl<|nK k15<|sG (ofB fl_28_0 rfl<|olB 0 ti_26 rfl rfl<|oneI _ _ rfl<|.nl)<|gcT rfl (decide_eq_true hz)<|gK fun _ k20=>rT 2 [] (olw 0 ti_28 rfl rfl<|oM 1 rfl<|.nl)<|gsw 1 ti_28 rfl rfl rfl<|nK k20<|gR<|uT<|fun a22 w22 h22=> ?_;clear hs16
 refine x_rettc (fn:=Tryz.f20) (t:=3) (u:=2) (i:=1) ti_28 rfl h22 rfl rfl rfl rfl ?_
 exact ⟨rfl,(h22.sh.sel [] rfl)⟩
end Go.Proofs.YtmjkobhkkjgplaaGreatDoor
namespace Go.Proofs.YtmjkobhkkjgplaaGreatDoor
open Go.ChangeShapes Go.WideShapes Go.ChangeAt Go.RowKit
open Go.Deep (open_slice)
set_option linter.unusedSimpArgs false
set_option linter.unusedVariables false
class Rd (α:Type) extends Enc α where
 ty:Program→TypeId→Prop
 fine:α→Prop
 read:∀ {H:Type} {enc:TypeId×Value→H} {P:Program} {w:World} {base:Nat} {spare:Nat→Bool} {held:Bool} {fuel:Nat} {T:TypeId} {cs:List Value} {x:DataW H×List MemPlace},
  ty P T→DataW.trod enc P w base spare held fuel T cs=some x→(∀n∈DataW.weights P T x.1,n≤reachBytes)→∃a:α,cs=cellsOf a∧Enc.inner a w∧fine a
instance : Rd Int where
 ty P T:=P.underlying T=some (.int .i64)
 fine n:=(Lit.int .i64 n).wf=true
 read hT h _:=by
  obtain ⟨n,rfl,_,hw⟩:=DataW.trod_int hT h
  exact ⟨n,rfl,trivial,hw⟩
instance : Rd Bool where
 ty P T:=P.underlying T=some .bool
 fine _:=True
 read hT h _:=by
  obtain ⟨b,rfl,_⟩:=DataW.trod_bool hT h
  exact ⟨b,rfl,trivial,trivial⟩
def intFields (P:Program)(fs:Array Field)(n:Nat):Prop:=fs.size=n∧∀(j:Nat) (f:Field),fs[j]? =some f→f.offset=j∧P.underlying f.type=some (.int .i64)∧P.cellsOf f.type=1
theorem read_ints {H:Type}{enc:TypeId×Value→H}{P:Program}{w:World}{base:Nat}{spare:Nat→Bool}{held:Bool}{fuel:Nat}{T:TypeId}{cs:List Value}{x:DataW H×List MemPlace}{fs:Array Field}{n:Nat}
  (hT:P.underlying T=some (.struct fs)) (hfs:intFields P fs n) (hC:P.cellsOf T=n) (h:DataW.trod enc P w base spare held fuel T cs=some x):
  cs.length=n∧∀j,j<n→∃k:Int,cs[j]? =some (.int .i64 k)∧(Lit.int .i64 k).wf=true:=by
 obtain ⟨xs,m,_,_,hlen,hxl,hf⟩:=DataW.trod_struct hT h
 refine ⟨hlen.trans hC,fun j hj=> ?_⟩
 obtain ⟨hs,hall⟩:=hfs
 have hjs:j<fs.size:=by omega
 obtain ⟨ho,ht,hc⟩:=hall j fs[j] (by simp [hjs])
 have h1:=hf j fs[j] (by simp [hjs])
 rw [ho,hc,List.getElem?_eq_getElem (by omega)] at h1
 obtain ⟨k,hk,_,hw⟩:=DataW.trod_int ht h1
 refine ⟨k, ?_,hw⟩
 rw [List.drop_eq_getElem_cons (by omega)] at hk
 simp only [List.take_succ_cons,List.take_zero,List.cons.injEq,and_true] at hk
 rw [List.getElem?_eq_getElem (by omega),hk]
instance : Rd Ins where
 ty P T:=∃fs,P.underlying T=some (.struct fs)∧intFields P fs 4∧P.cellsOf T=4
 fine x:=(Lit.int .i64 x.op).wf=true∧(Lit.int .i64 x.a).wf=true∧(Lit.int .i64 x.b).wf=true∧(Lit.int .i64 x.c).wf=true
 read:=by
  rintro H enc P w base spare held fuel T cs x ⟨fs,hT,hfs,hC⟩ h _
  obtain ⟨hl,hj⟩:=read_ints hT hfs hC h
  obtain ⟨k0,e0,w0⟩:=hj 0 (by omega)
  obtain ⟨k1,e1,w1⟩:=hj 1 (by omega)
  obtain ⟨k2,e2,w2⟩:=hj 2 (by omega)
  obtain ⟨k3,e3,w3⟩:=hj 3 (by omega)
  match cs,hl with
  | [c0,c1,c2,c3],_=>
   simp only [List.getElem?_cons_zero,List.getElem?_cons_succ,Option.some.injEq] at e0 e1 e2 e3
   subst e0 e1 e2 e3
   exact ⟨⟨k0,k1,k2,k3⟩,rfl,trivial,w0,w1,w2,w3⟩
theorem weights_slice {H:Type}{P:Program}{T e:TypeId}{elems spare:List (DataW H)}(hT:P.underlying T=some (.slice e))(h:∀n∈DataW.weights P T (.slice elems spare),n≤reachBytes):
  (elems.length+spare.length)*P.bytesOf e≤reachBytes∧∀d∈elems,∀n∈DataW.weights P e d,n≤reachBytes:=by
 unfold DataW.weights at h
 rw [hT] at h
 refine ⟨h _ (by simp),fun d hd n hn=>h n ?_⟩
 have:∀l:List (DataW H),d∈l→n∈DataW.weightsAll P e l:=by
  intro l hl
  induction l with
  |nil=>cases hl
  |cons y l ih=>
   unfold DataW.weightsAll
   rcases List.mem_cons.1 hl with rfl|hl
   ·exact List.mem_append.2 (.inl hn)
   ·exact List.mem_append.2 (.inr (ih hl))
 simp only [List.mem_cons,List.mem_append]
 exact .inr (.inl (this _ hd))
instance {α:Type}[Rd α]:Rd (Sl α) where
 ty P T:=∃e,P.underlying T=some (.slice e)∧P.cellsOf e=Enc.sz α∧1≤P.bytesOf e∧0<Enc.sz α∧Rd.ty α P e
 fine s:=∀i,i<s.l.length→Rd.fine (nth s.l i)
 read:=by
  rintro H enc P w base spare held fuel T cs x ⟨e,hT,hC,hB,hpos,hty⟩ h hw
  rcases open_slice hT h with ⟨rfl,rfl⟩|⟨a,len,cap,m,n,D,Pl,rfl,_,hl,hm,hmm,rfl,hi⟩
  ·refine ⟨⟨none,0, []⟩,rfl,⟨Nat.le_refl _,by simp,by simp,fun hh=>absurd hh (by simp),fun hh=>absurd hh (by simp),fun i j hi=>absurd hi (by simp),fun i hi=>absurd hi (by simp)⟩,fun i hi=>absurd hi (by simp)⟩
  ·obtain ⟨hb,hd⟩:=weights_slice hT hw
   have hlm:len≤m:=by rw [hmm];split<;>omega
   have hlen:len≤140737488355328:=by
    simp only [List.length_map,List.length_range,reachBytes] at hb
    have:(len+(m-len))*1≤(len+(m-len))*P.bytesOf e:=Nat.mul_le_mul_left _ hB
    omega
   have key:∀i,i<len→∃y:α,(∀j,j<Enc.sz α→w.cell? ((a.add (i*Enc.sz α)).add j)=some (Enc.cell y j))∧Enc.inner y w∧Rd.fine y:=by
    intro i hil
    obtain ⟨cs',hc',ht'⟩:=hi i (by omega)
    obtain ⟨y,hy,hin,hf⟩:=Rd.read hty ht' (hd _ (List.mem_map.2 ⟨i,by simpa using hil,rfl⟩))
    obtain ⟨_,hcl,hat⟩:=World.cells?_some hc'
    rw [hC] at hc' hat hcl
    refine ⟨y,fun j hj=> ?_,hin,hf⟩
    rw [hat j (by first|exact hj|omega)]
    subst hy
    simp [cellsOf,hj]
   obtain ⟨F,hF⟩:=Go.Deep.choose_lt key
   let l:=(List.range len).map F
   have hll:l.length=len:=by simp [l]
   have hn:∀i,i<len→nth l i=F i:=by intro i hil;simp [nth,l,hil]
   have hcell0:0<len→∃v,w.cell? a=some v:=fun h0=>⟨_,by
    have h1:=(hF 0 h0).1 0 hpos
    rw [Nat.zero_mul,Addr.add_zero',Addr.add_zero'] at h1
    exact h1⟩
   have hspot:0<len→a.spot=none:=by
    intro h0
    obtain ⟨v,hv⟩:=hcell0 h0
    unfold World.cell? at hv
    split at hv
    ·split at hv
     ·cases hv
     ·rename_i hs
      simpa using hs
    ·cases hv
   refine ⟨⟨some a,cap,l⟩,by simp [cellsOf,Enc.cell,Enc.sz,hll],⟨by rw [hll];exact hl,hm,by rw [hll];exact hlen, ?_, ?_, ?_, ?_⟩, ?_⟩
   ·intro h0
    exact ⟨a,rfl,hspot (by rw [←hll];exact h0)⟩
   ·intro h0
    obtain ⟨v,hv⟩:=hcell0 (by rw [←hll];exact h0)
    exact World.block_lt_of_cell? w a hv
   ·intro i j hi' hj
    rw [hll] at hi'
    show w.cell? ⟨a.block,a.off+i*Enc.sz α+j,none⟩=some (Enc.cell (nth l i) j)
    rw [hn i hi',←(hF i hi').1 j hj]
    have hs:=hspot (by omega)
    rcases a with ⟨b,o,sp⟩
    simp only at hs
    subst hs
    rw [Addr.add_lit,Addr.add_lit]
   ·intro i hi'
    rw [hll] at hi'
    rw [hn i hi']
    exact (hF i hi').2.1
   ·intro i hi'
    rw [hll] at hi'
    rw [hn i hi']
    exact (hF i hi').2.2
def prFields (P:Program)(fs:Array Field):Prop:=
 ∃f0 f1 f2 f3:Field,fs= #[f0,f1,f2,f3]∧(f0.offset=0∧P.cellsOf f0.type=1∧Rd.ty (Sl (Sl Ins)) P f0.type)∧(f1.offset=1∧P.cellsOf f1.type=1∧Rd.ty (Sl Int) P f1.type)∧
  (f2.offset=2∧P.cellsOf f2.type=1∧Rd.ty Int P f2.type)∧(f3.offset=3∧P.cellsOf f3.type=1∧Rd.ty Int P f3.type)
def PR.fine (p:PR):Prop:=Rd.fine p.code∧Rd.fine p.words∧(Lit.int .i64 p.locks).wf=true∧(Lit.int .i64 p.regs).wf=true
theorem weights_agg {H:Type}{P:Program}{T:TypeId}{f0 f1 f2 f3:Field}{d0 d1 d2 d3:DataW H}(hT:P.underlying T=some (.struct #[f0,f1,f2,f3]))(h:∀n∈DataW.weights P T (.agg [d0,d1,d2,d3]),n≤reachBytes):
  (∀n∈DataW.weights P f0.type d0,n≤reachBytes)∧(∀n∈DataW.weights P f1.type d1,n≤reachBytes)∧(∀n∈DataW.weights P f2.type d2,n≤reachBytes)∧(∀n∈DataW.weights P f3.type d3,n≤reachBytes):=by
 unfold DataW.weights at h
 rw [hT] at h
 simp only [List.map_cons,List.map_nil,DataW.weightsEach,List.append_nil,List.mem_append] at h
 exact ⟨fun n hn=>h n (.inl hn),fun n hn=>h n (.inr (.inl hn)),fun n hn=>h n (.inr (.inr (.inl hn))),fun n hn=>h n (.inr (.inr (.inr hn)))⟩
theorem open_PR {H:Type}{enc:TypeId×Value→H}{P:Program}{w:World}{base:Nat}{spare:Nat→Bool}{held:Bool}{r:Go.Reach}{b0:Nat}{T:TypeId}{fs:Array Field}{v:Value}{d:DataW H}{p:List MemPlace}
  (hT:P.underlying T=some (.struct fs)) (hfs:prFields P fs) (hC:P.cellsOf T=4) (hv:Value.okWide P w r b0 T v) (h:DataW.Trod enc P w base spare held T v d p) (hw:∀n∈DataW.weights P T d,n≤reachBytes):
  ∃q:PR,v=q.val∧q.At w∧q.fine:=by
 obtain ⟨f0,f1,f2,f3,rfl,⟨o0,c0,t0⟩,⟨o1,c1,t1⟩,⟨o2,c2,t2⟩,⟨o3,c3,t3⟩⟩:=hfs
 obtain ⟨cs,rfl,hsz⟩:=okWide_struct hT hv
 obtain ⟨l⟩:=cs
 match l,hsz.trans hC with
 | [v0,v1,v2,v3],_=>
  obtain ⟨fuel,hf⟩:=h
  obtain ⟨xs,n,_,hx,_,hlen,hg⟩:=DataW.trod_struct hT hf
  match xs,hlen with
  | [y0,y1,y2,y3],_=>
   simp only [Prod.mk.injEq,List.map_cons,List.map_nil] at hx
   rw [hx.1] at hw
   obtain ⟨w0,w1,w2,w3⟩:=weights_agg hT hw
   have g0:=hg 0 f0 rfl
   have g1:=hg 1 f1 rfl
   have g2:=hg 2 f2 rfl
   have g3:=hg 3 f3 rfl
   rw [o0,c0] at g0
   rw [o1,c1] at g1
   rw [o2,c2] at g2
   rw [o3,c3] at g3
   simp [Value.cells] at g0 g1 g2 g3
   obtain ⟨s0,e0,i0,k0⟩:=Rd.read t0 g0 w0
   obtain ⟨s1,e1,i1,k1⟩:=Rd.read t1 g1 w1
   obtain ⟨s2,e2,i2,k2⟩:=Rd.read t2 g2 w2
   obtain ⟨s3,e3,i3,k3⟩:=Rd.read t3 g3 w3
   simp [cellsOf,Enc.cell,Enc.sz] at e0 e1 e2 e3
   subst e0 e1 e2 e3
   exact ⟨⟨s0,s1,s2,s3⟩,rfl,⟨i0,i1⟩,k0,k1,k2,k3⟩
end Go.Proofs.YtmjkobhkkjgplaaGreatDoor
namespace Go.Proofs.YtmjkobhkkjgplaaGreatDoor
open Go.ChangeShapes Go.WideShapes Go.ChangeAt Go.RowKit
set_option linter.unusedSimpArgs false
set_option linter.unusedVariables false
theorem own :ownKnob Tryz.prog.godebug=none:=by kernel_rfl
theorem laidOut :laidOutB Tryz.prog=true:=by kernel_rfl
theorem ty_int :Rd.ty Int Tryz.prog 3:=Tryz.underlying3
theorem ty_ins :Rd.ty Ins Tryz.prog 32:=by
 refine ⟨_,Tryz.underlying32,⟨rfl,fun j f hf=> ?_⟩,by kernel_rfl⟩
 rcases j with _|_|_|_|j<;>simp at hf<;>subst hf<;>exact ⟨rfl,Tryz.underlying3,by kernel_rfl⟩
theorem ty_ints :Rd.ty (Sl Int) Tryz.prog 23:=⟨_,Tryz.underlying23,by kernel_rfl,of_decide_eq_true (by kernel_rfl),by decide,ty_int⟩
theorem ty_code :Rd.ty (Sl Ins) Tryz.prog 33:=⟨_,Tryz.underlying33,by kernel_rfl,of_decide_eq_true (by kernel_rfl),by decide,ty_ins⟩
theorem ty_codes :Rd.ty (Sl (Sl Ins)) Tryz.prog 22:=⟨_,Tryz.underlying22,by kernel_rfl,of_decide_eq_true (by kernel_rfl),by decide,ty_code⟩
theorem ty_pr :∃fs,Tryz.prog.underlying 25=some (.struct fs)∧prFields Tryz.prog fs:=
 ⟨_,Tryz.underlying25,_,_,_,_,rfl,⟨rfl,by kernel_rfl,ty_codes⟩,⟨rfl,by kernel_rfl,ty_ints⟩,⟨rfl,by kernel_rfl,ty_int⟩,⟨rfl,by kernel_rfl,ty_int⟩⟩
section
variable {α:Type}[Enc α]
def ofSl (s:Sl α):Ls α:=⟨.slice s.A s.l.length s.cap,s.l⟩
theorem ofSl_at {s:Sl α}{w:World}(h:s.At w):(ofSl s).At w:=⟨s.A,s.cap,rfl,h⟩
def ofSl2 (s:Sl (Sl α)):Ls (Ls α):=⟨.slice s.A s.l.length s.cap,s.l.map ofSl⟩
theorem ofSl2_at {s:Sl (Sl α)}{w:World}(h:s.At w):(ofSl2 s).At w:=by
 refine ⟨s.A,s.cap,by simp [ofSl2],⟨by simpa [ofSl2] using h.le,h.max,by simpa [ofSl2] using h.len,by simpa [ofSl2] using h.some,by simpa [ofSl2] using h.lt',fun i j hi hj=> ?_,fun i hi=> ?_⟩⟩
 ·have hi' :i<s.l.length:=by simpa [ofSl2] using hi
  show w.cell? _=some (Enc.cell (nth (s.l.map ofSl) i) j)
  rw [nth_map' ofSl _ _ hi']
  exact h.cell i j hi' hj
 ·have hi' :i<s.l.length:=by simpa [ofSl2] using hi
  show Enc.inner (nth (s.l.map ofSl) i) w
  rw [nth_map' ofSl _ _ hi']
  exact ofSl_at (h.inner i hi')
end
end Go.Proofs.YtmjkobhkkjgplaaGreatDoor
namespace Go.Proofs.YtmjkobhkkjgplaaGreatDoor
open Go.RowKit
set_option linter.unusedSimpArgs false
set_option linter.unusedVariables false
section
variable {p:Pg}{s:MSt}{x:TS}{n:Nat}{i:Ins}{m m' :Int}{c:List Ins}{k:Nat}{o:Outc}
theorem mayK_0 {l:List Wt} :mayK m l 0=true:=by simp [mayK]
theorem mvOK_none (h:∀k,mvOK m c x k=false):ableV c x=false∧x.wait= []:=by
 refine ⟨by simpa [mvOK] using h 0, ?_⟩
 have h1:=h 1
 cases hw:x.wait with
 |nil=>rfl
 |cons w l=>
  unfold mvOK at h1
  simp [hw,mayK_0] at h1
theorem mvOK_no (h:ableV c x=false∧x.wait= []):mvOK m c x k=false:=by
 unfold mvOK
 split
 ·exact h.1
 ·rename_i h0
  rw [h.2]
  simp [show¬k=0 from h0]
theorem stuck_mm (h:Stuck_ p m s):Stuck_ p m' s:=fun t k ht=>mvOK_no (mvOK_none fun k=>h t k ht)
theorem ite_w {c:Prop}[Decidable c]{a b:TS}{w:List Wt}(h1:a.wait=w)(h2:b.wait=w):(if c then a else b).wait=w:=by split<;>assumption
theorem exec0_wait :(execT 0 n i x).wait=x.wait:=by
 have hs:∀w,(x.store 0 w).wait=x.wait:=fun w=>by simp [TS.store,TS.done]
 unfold execT
 repeat' first|exact hs _|exact rfl|refine ite_w ?_ ?_
def S01 (x a b:TS):Prop:=a=b∨∃w,a= { x with wait:= [w] }∧b=x.done w
theorem ite_s {c:Prop}[Decidable c]{a b a' b' :TS}(h1:S01 x a a')(h2:S01 x b b'):S01 x (if c then a else b) (if c then a' else b'):=by split<;>assumption
theorem exec_01 (hw:x.wait= []):S01 x (execT 1 n i x) (execT 0 n i x):=by
 have hs:∀w,S01 x (x.store 1 w) (x.store 0 w):=fun w=> .inr ⟨w,by simp [TS.store,hw],by simp [TS.store]⟩
 unfold execT
 repeat' first|exact hs _|exact .inl rfl|refine ite_s ?_ ?_
theorem waits_0 (hl:s.ths.length=p.code.length)(h:∀t,t<p.code.length→(s.view t).wait= []){t k:Nat}(ht:t<p.code.length)(hk:mvOK m (nth p.code t) (s.view t) k=true):k=0:=by
 unfold mvOK at hk
 by_cases h0:k=0
 ·exact h0
 ·rw [if_neg h0,h t ht] at hk
  simp [h0] at hk
theorem ths_len {s:MSt}(h:Reach p m s):s.ths.length=p.code.length:=by
 induction h with
 |start=>simp [begin_]
 |step _ _ _ _ ih=>simpa [MSt.putT] using ih
theorem reach0_wait (h:Reach p 0 s):∀t,t<p.code.length→(s.view t).wait= []:=by
 induction h with
 |start=>
  intro t ht
  simp only [MSt.view,begin_]
  rw [nth_map' _ _ _ ht]
 |step h ht hk hf ih=>
  intro q hq
  have hl:=ths_len h
  obtain rfl:=waits_0 hl ih ht hk
  rename_i s t
  by_cases e:q=t
  ·subst e
   rw [putT_view (by omega)]
   show (stepT p 0 s q 0).wait= []
   unfold stepT doT
   rw [if_neg (by omega),exec0_wait]
   exact ih q hq
  ·have:((s.putT t (stepT p 0 s t 0)).view q).wait=(s.view q).wait:=by
    simp only [MSt.view,MSt.putT]
    rw [nth_set0,if_neg (fun h=>e h.1.symm)]
   rw [this]
   exact ih q hq
theorem reach_01 (h:Reach p 0 s):Reach p 1 s:=by
 induction h with
 |start=>exact .start
 |step h ht hk hf ih=>
  rename_i s t k
  have hl:=ths_len h
  have hw:=reach0_wait h
  obtain rfl:=waits_0 hl hw ht hk
  have hk1:mvOK 1 (nth p.code t) (s.view t) 0=true:=by simpa [mvOK] using hk
  have hwt:({ s.view t with pc:=(s.view t).pc+1 } :TS).wait= []:=hw t ht
  rcases exec_01 (n:=t) (i:=nextIns (nth p.code t) (s.view t).pc) hwt with e|⟨w,e1,e2⟩
  ·have e3:stepT p 1 s t 0=stepT p 0 s t 0:=by unfold stepT doT;rw [if_neg (by omega),if_neg (by omega)];exact e
   rw [←e3] at hf⊢
   exact .step ih ht hk1 hf
  ·have e3:stepT p 1 s t 0= { ({ s.view t with pc:=(s.view t).pc+1 } :TS) with wait:= [w] } :=by unfold stepT doT;rw [if_neg (by omega)];exact e1
   have e4:stepT p 0 s t 0=({ s.view t with pc:=(s.view t).pc+1 } :TS).done w:=by unfold stepT doT;rw [if_neg (by omega)];exact e2
   have r1:Reach p 1 (s.putT t (stepT p 1 s t 0)):= .step ih ht hk1 (by rw [e3];rfl)
   have hv:(s.putT t (stepT p 1 s t 0)).view t=stepT p 1 s t 0:=by rw [putT_view (by omega),e3];rfl
   have hm:mvOK 1 (nth p.code t) ((s.putT t (stepT p 1 s t 0)).view t) 1=true:=by
    rw [hv,e3];simp [mvOK,mayK_0]
   have e5:stepT p 1 (s.putT t (stepT p 1 s t 0)) t 1=stepT p 0 s t 0:=by
    show doT 1 t (nth p.code t) 1 ((s.putT t (stepT p 1 s t 0)).view t)=_
    rw [hv,e3,e4]
    unfold doT
    rw [if_pos (by omega)]
    simp [TS.done,nth,hw t ht]
   have r2:=r1.step ht hm (by rw [e5];exact hf)
   rw [e5] at r2
   have e6:(s.putT t (stepT p 1 s t 0)).putT t (stepT p 0 s t 0)=s.putT t (stepT p 0 s t 0):=by
    simp [MSt.putT,List.set_set]
   rwa [e6] at r2
theorem outs_01 (h:Outs p 0 o):Outs p 1 o:=by
 cases h with
 |done h he=>exact .done (reach_01 h) he
 |stuck h he hs=>exact .stuck (reach_01 h) he (stuck_mm hs)
 |fell h ht hk hf=>
  rename_i s t k
  have hl:=ths_len h
  have hw:=reach0_wait h
  obtain rfl:=waits_0 hl hw ht hk
  have hk1:mvOK 1 (nth p.code t) (s.view t) 0=true:=by simpa [mvOK] using hk
  have hwt:({ s.view t with pc:=(s.view t).pc+1 } :TS).wait= []:=hw t ht
  rcases exec_01 (n:=t) (i:=nextIns (nth p.code t) (s.view t).pc) hwt with e|⟨w,e1,e2⟩
  ·have e3:stepT p 1 s t 0=stepT p 0 s t 0:=by unfold stepT doT;rw [if_neg (by omega),if_neg (by omega)];exact e
   rw [←e3] at hf⊢
   exact .fell (reach_01 h) ht hk1 hf
  ·have e4:stepT p 0 s t 0=({ s.view t with pc:=(s.view t).pc+1 } :TS).done w:=by unfold stepT doT;rw [if_neg (by omega)];exact e2
   rw [e4] at hf
   cases hf
end
def nextS (p:Pg)(m:Int)(s:MSt):List MSt:=(List.range p.code.length).flatMap fun t=>(List.range ((s.view t).wait.length+1)).filterMap fun k=>if mvOK m (nth p.code t) (s.view t) k&& !(stepT p m s t k).fell then some (s.putT t (stepT p m s t k)) else none
def hasS (S:List MSt)(s:MSt):Bool:=S.any fun x=>decide (x=s)
def closeB (p:Pg)(m:Int)(S:List MSt):Bool:=hasS S (begin_ p)&&S.all fun s=>(nextS p m s).all (hasS S)
def growS (p:Pg)(m:Int):Nat→List MSt→List MSt→List MSt
 |0,_,S=>S
 |_+1, [],S=>S
 |n+1,s::r,S=>
  let N:=(nextS p m s).foldl (fun (a:List MSt) x=>if hasS S x||hasS a x then a else x::a) []
  growS p m n (N++r) (N++S)
section
variable {p:Pg}{m:Int}{S:List MSt}{s:MSt}
theorem hasS_mem (h:hasS S s=true):s∈S:=by
 obtain ⟨x,hx,e⟩:=List.any_eq_true.1 h
 rw [←of_decide_eq_true e];exact hx
theorem mvOK_lt9 {c:List Ins}{x:TS}{k:Nat}(h:mvOK m c x k=true):k<x.wait.length+1:=by
 unfold mvOK at h
 split at h
 ·omega
 ·simp only [Bool.and_eq_true,decide_eq_true_eq] at h;omega
theorem mem_nextS {t k:Nat}(ht:t<p.code.length)(hk:mvOK m (nth p.code t) (s.view t) k=true)(hf:(stepT p m s t k).fell=false):s.putT t (stepT p m s t k)∈nextS p m s:=
 List.mem_flatMap.2 ⟨t,List.mem_range.2 ht,List.mem_filterMap.2 ⟨k,List.mem_range.2 (mvOK_lt9 hk),by rw [hk,hf];rfl⟩⟩
theorem close_all (h:closeB p m S=true)(hr:Reach p m s):s∈S:=by
 simp only [closeB,Bool.and_eq_true] at h
 induction hr with
 |start=>exact hasS_mem h.1
 |step _ ht hk hf ih=>exact hasS_mem (List.all_eq_true.1 (List.all_eq_true.1 h.2 _ ih) _ (mem_nextS ht hk hf))
theorem close_big (h:closeB p m S=true)(hl:S.length≤4000):¬Big p m:=fun ⟨T,hn,hr,ht⟩=>by
 have:=nodup_sub hn fun s hs=>close_all h (hr s hs)
 omega
end
set_option maxHeartbeats 2000000
theorem close_big9 {p:Pg}{m:Int}{S:List MSt}(h:closeB p m S=true)(hl:Nat.ble S.length 4000=true):¬Big p m:=close_big h (Nat.le_of_ble_eq_true hl)
section
variable {p q:Pg}{m m' :Int}
theorem sim_outs (Rel:MSt→MSt→Prop)(h0:∃s',Reach q m' s' ∧Rel (begin_ p) s')
  (hstep:∀s s' t k,Reach p m s→Reach q m' s' →Rel s s' →t<p.code.length→mvOK m (nth p.code t) (s.view t) k=true→if (stepT p m s t k).fell=true then Outs q m' ⟨1, [],(stepT p m s t k).prints⟩ else∃s2,Reach q m' s2∧Rel (s.putT t (stepT p m s t k)) s2)
  (hdone:∀s s',Reach p m s→Reach q m' s' →Rel s s' →ended p s=true→Outs q m' ⟨0,s.words,s.prints⟩)
  (hstuck:∀s s',Reach p m s→Reach q m' s' →Rel s s' →ended p s=false→Stuck_ p m s→Outs q m' ⟨2,s.words,s.prints⟩):∀o,Outs p m o→Outs q m' o:=by
 have key:∀s,Reach p m s→∃s',Reach q m' s' ∧Rel s s' :=by
  intro s hs
  induction hs with
  |start=>exact h0
  |step hr ht hk hf ih=>
   obtain ⟨s',h1,h2⟩:=ih
   have:=hstep _ s' _ _ hr h1 h2 ht hk
   rw [if_neg (by rw [hf];decide)] at this
   exact this
 intro o ho
 cases ho with
 |done hr he=>
  obtain ⟨s',h1,h2⟩:=key _ hr
  exact hdone _ s' hr h1 h2 he
 |stuck hr he hst=>
  obtain ⟨s',h1,h2⟩:=key _ hr
  exact hstuck _ s' hr h1 h2 he hst
 |fell hr ht hk hf=>
  obtain ⟨s',h1,h2⟩:=key _ hr
  have:=hstep _ s' _ _ hr h1 h2 ht hk
  rwa [if_pos hf] at this
end
structure RelP (n:Nat)(R:Nat→Int→Int→Prop)(s s' :MSt):Prop where
 words:s'.words=s.words
 owner:s'.owner=s.owner
 prints:s'.prints=s.prints
 regs:∀t,t<n→(nth s'.ths t).regs=(nth s.ths t).regs
 wait:∀t,t<n→(nth s'.ths t).wait=(nth s.ths t).wait
 pc:∀t,t<n→R t (nth s.ths t).pc (nth s'.ths t).pc
theorem RelP.view {n:Nat}{R:Nat→Int→Int→Prop}{s s' :MSt}(h:RelP n R s s'){t:Nat}(ht:t<n):s'.view t= { s.view t with pc:=(nth s'.ths t).pc } :=by
 unfold MSt.view
 simp only [h.words,h.owner,h.prints,h.regs t ht,h.wait t ht]
theorem putT_th {s:MSt}{t u:Nat}{y:TS}(h:t<s.ths.length):nth (s.putT t y).ths u=if t=u then ⟨y.pc,y.regs,y.wait⟩ else nth s.ths u:=by
 unfold MSt.putT
 simp only [nth_set0]
 by_cases e:t=u<;>simp [e,h]
 intro h2;exact absurd h (by rw [e];omega)
theorem RelP.put {n:Nat}{R:Nat→Int→Int→Prop}{s s' :MSt}(h:RelP n R s s'){t:Nat}(hl:t<s.ths.length)(hl' :t<s'.ths.length){y:TS}{u:Int}(hR:t<n→R t y.pc u):RelP n R (s.putT t y) (s'.putT t { y with pc:=u }):=by
 refine ⟨rfl,rfl,rfl,fun v hv=> ?_,fun v hv=> ?_,fun v hv=> ?_⟩
 ·rw [putT_th hl,putT_th hl'];split
  ·rfl
  ·exact h.regs v hv
 ·rw [putT_th hl,putT_th hl'];split
  ·rfl
  ·exact h.wait v hv
 ·rw [putT_th hl,putT_th hl'];split
  ·rename_i e;subst e;exact hR hv
  ·exact h.pc v hv
theorem RelP.left {n:Nat}{R:Nat→Int→Int→Prop}{s s' :MSt}(h:RelP n R s s'){t:Nat}(hl:t<s.ths.length){u:Int}(hR:t<n→R t u (nth s'.ths t).pc):RelP n R (s.putT t { s.view t with pc:=u }) s' :=by
 refine ⟨h.words,h.owner,h.prints,fun v hv=> ?_,fun v hv=> ?_,fun v hv=> ?_⟩
 ·rw [putT_th hl];split
  ·rename_i e;subst e;exact h.regs _ hv
  ·exact h.regs v hv
 ·rw [putT_th hl];split
  ·rename_i e;subst e;exact h.wait _ hv
  ·exact h.wait v hv
 ·rw [putT_th hl];split
  ·rename_i e;subst e;exact hR hv
  ·exact h.pc v hv
theorem RelP.right {n:Nat}{R:Nat→Int→Int→Prop}{s s' :MSt}(h:RelP n R s s'){t:Nat}(hl:t<s'.ths.length){u:Int}(hR:t<n→R t (nth s.ths t).pc u):RelP n R s (s'.putT t { s'.view t with pc:=u }):=by
 refine ⟨h.words,h.owner,h.prints,fun v hv=> ?_,fun v hv=> ?_,fun v hv=> ?_⟩
 ·rw [putT_th hl];split
  ·rename_i e;subst e;exact h.regs _ hv
  ·exact h.regs v hv
 ·rw [putT_th hl];split
  ·rename_i e;subst e;exact h.wait _ hv
  ·exact h.wait v hv
 ·rw [putT_th hl];split
  ·rename_i e;subst e;exact hR hv
  ·exact h.pc v hv
theorem ended_iff {p:Pg}{s:MSt} :ended p s=true↔∀t,t<p.code.length→¬(nth s.ths t).pc<((nth p.code t).length:Int)∧(nth s.ths t).wait.length=0:=by
 unfold ended
 rw [List.all_eq_true]
 simp only [List.mem_range,Bool.and_eq_true,decide_eq_true_eq]
theorem mvOK_0 {m:Int}{c:List Ins}{x:TS}(h1:x.pc<c.length)(h2:ableL x.owner x.wait.length (nextIns c x.pc)=true):mvOK m c x 0=true:=by
 unfold mvOK ableV
 rw [if_pos rfl,decide_eq_true h1,h2];rfl
theorem Reach.len {p:Pg}{m:Int}(hok:OkPg p){s:MSt}(h:Reach p m s){t:Nat}(ht:t<p.code.length):t<s.ths.length:=by rw [(h.wf hok).ths];exact ht
theorem RelP.trans {n:Nat}{R R' R'' :Nat→Int→Int→Prop}{s s' s'' :MSt}(h:RelP n R s s')(h' :RelP n R' s' s'')(hc:∀t a b c,t<n→R t a b→R' t b c→R'' t a c):RelP n R'' s s'' :=
 ⟨h'.words.trans h.words,h'.owner.trans h.owner,h'.prints.trans h.prints,fun t ht=>(h'.regs t ht).trans (h.regs t ht),fun t ht=>(h'.wait t ht).trans (h.wait t ht),fun t ht=>hc t _ _ _ ht (h.pc t ht) (h'.pc t ht)⟩
theorem RelP.refl (n:Nat)(s:MSt):RelP n (fun _ a b=>b=a) s s:=⟨rfl,rfl,rfl,fun _ _=>rfl,fun _ _=>rfl,fun _ _=>rfl⟩
def At1 (t:Nat)(j:Int)(u:Nat)(a b:Int):Prop:=if u=t then b=j else b=a
theorem RelP.one {n:Nat}{s:MSt}{t:Nat}{u:Int}(hl:t<s.ths.length):RelP n (At1 t u) s (s.putT t { s.view t with pc:=u }):=by
 refine ⟨rfl,rfl,rfl,fun v hv=> ?_,fun v hv=> ?_,fun v hv=> ?_⟩
 ·rw [putT_th hl];split
  ·rename_i e;subst e;rfl
  ·rfl
 ·rw [putT_th hl];split
  ·rename_i e;subst e;rfl
  ·rfl
 ·rw [putT_th hl];unfold At1;split
  ·rename_i e;subst e;rw [if_pos rfl]
  ·rename_i e;rw [if_neg (fun h=>e h.symm)]
theorem At1.trans {t:Nat}{i j:Int}{u:Nat}{a b c:Int}(h:At1 t i u a b)(h' :At1 t j u b c):At1 t j u a c:=by
 unfold At1 at*
 split
 ·rename_i e;rw [if_pos e] at h';exact h'
 ·rename_i e;rw [if_neg e] at h h';rw [h',h]
theorem RelP.both {n:Nat}{R:Nat→Int→Int→Prop}{s s' s'' :MSt}(h:RelP n R s s'){t:Nat}(hl:t<s.ths.length){u j:Int}(h' :RelP n (At1 t j) s' s'')(hR:t<n→R t u j):RelP n R (s.putT t { s.view t with pc:=u }) s'' :=by
 refine ⟨h'.words.trans h.words,h'.owner.trans h.owner,h'.prints.trans h.prints,fun v hv=> ?_,fun v hv=> ?_,fun v hv=> ?_⟩
 ·rw [h'.regs v hv,h.regs v hv,putT_th hl];split
  ·rename_i e;subst e;rfl
  ·rfl
 ·rw [h'.wait v hv,h.wait v hv,putT_th hl];split
  ·rename_i e;subst e;rfl
  ·rfl
 ·rw [putT_th hl]
  have h1:=h'.pc v hv
  unfold At1 at h1
  by_cases e:t=v
  ·subst e
   rw [if_pos rfl] at h1
   rw [if_pos rfl,h1]
   exact hR hv
  ·rw [if_neg (fun h=>e h.symm)] at h1
   rw [if_neg e,h1]
   exact h.pc v hv
theorem stepT_e {p:Pg}{m:Int}{s:MSt}{t:Nat} :stepT p m s t 0=execT m t (nextIns (nth p.code t) (s.view t).pc) { s.view t with pc:=(s.view t).pc+1 } :=doT_0 rfl
theorem moved_upto (B:Nat→Ins→List Ins)(code:List Ins):∀n,n≤code.length→((List.range n).flatMap fun i=>(B i (nth code i)).map (fixMv (becL B code) code i)).length=placeL (becL B code) n∧
  ∀i k,i<n→k<(B i (nth code i)).length→nth ((List.range n).flatMap fun i=>(B i (nth code i)).map (fixMv (becL B code) code i)) (placeL (becL B code) i+k)=fixMv (becL B code) code i (nth (B i (nth code i)) k)∧placeL (becL B code) i+k<placeL (becL B code) n
 |0,_=>⟨by simp [placeL],fun i k hi=>absurd hi (by omega)⟩
 |n+1,h=>by
  obtain ⟨h1,h2⟩:=moved_upto B code n (by omega)
  have hp:placeL (becL B code) (n+1)=placeL (becL B code) n+(B n (nth code n)).length:=by
   rw [placeL_succ _ _ (by rw [becL_len];omega),becL_nth _ _ _ (by omega)]
  rw [List.range_succ,List.flatMap_append,List.flatMap_cons,List.flatMap_nil,List.append_nil]
  refine ⟨by rw [List.length_append,h1,hp,List.length_map],fun i k hi hk=> ?_⟩
  rcases Nat.lt_or_ge i n with hlt|hge
  ·obtain ⟨e1,e2⟩:=h2 i k hlt hk
   exact ⟨by rw [nth_app0,if_pos (by rw [h1];exact e2)];exact e1,by omega⟩
  ·obtain rfl:i=n:=by omega
   refine ⟨?_,by omega⟩
   rw [nth_app0,if_neg (by rw [h1];omega),h1,Nat.add_sub_cancel_left,nth_map' _ _ _ hk]
theorem moved_len (B:Nat→Ins→List Ins)(code:List Ins):(movedL B code).length=placeL (becL B code) code.length:=(moved_upto B code _ (Nat.le_refl _)).1
theorem moved_at (B:Nat→Ins→List Ins)(code:List Ins){i k:Nat}(hi:i<code.length)(hk:k<(B i (nth code i)).length):nth (movedL B code) (placeL (becL B code) i+k)=fixMv (becL B code) code i (nth (B i (nth code i)) k)∧placeL (becL B code) i+k<(movedL B code).length:=by
 rw [moved_len];exact (moved_upto B code _ (Nat.le_refl _)).2 i k hi hk
theorem place_succ (B:Nat→Ins→List Ins)(code:List Ins){i:Nat}(hi:i<code.length):placeL (becL B code) (i+1)=placeL (becL B code) i+(B i (nth code i)).length:=by
 rw [placeL_succ _ _ (by rw [becL_len];exact hi),becL_nth _ _ _ hi]
theorem kind_key {op:Int}(b:ByteArray)(e:kindsB op=b)(h:∀(k:Nat) (hk:k<b.size),((b[k]).toNat:Int)≠99)(k:Nat)(hk:k<(kindsB op).size):(((kindsB op)[k]).toNat:Int)≠99:=by
 subst e;exact h k hk
theorem kind_c {op:Int}(h14:op≠14)(h15:op≠15)(k:Nat)(hk:k<(kindsB op).size):(((kindsB op)[k]).toNat:Int)≠99:=by
 by_cases hop:1≤op∧op≤18
 ·rcases cases18 op hop with rfl|rfl|rfl|rfl|rfl|rfl|rfl|rfl|rfl|rfl|rfl|rfl|rfl|rfl|rfl|rfl|rfl|rfl
  ·refine kind_key ⟨#[114,110]⟩ (by unfold kindsB;simp) (fun k hk=> ?_) k hk
   rcases k with _|_|k
   ·show ((114:UInt8).toNat:Int)≠99;decide
   ·show ((110:UInt8).toNat:Int)≠99;decide
   ·exact absurd hk (by show¬(k+2<2);omega)
  ·refine kind_key ⟨#[114,114]⟩ (by unfold kindsB;simp) (fun k hk=> ?_) k hk
   rcases k with _|_|k
   ·show ((114:UInt8).toNat:Int)≠99;decide
   ·show ((114:UInt8).toNat:Int)≠99;decide
   ·exact absurd hk (by show¬(k+2<2);omega)
  ·refine kind_key ⟨#[114,114,114]⟩ (by unfold kindsB;simp) (fun k hk=> ?_) k hk
   rcases k with _|_|_|k
   ·show ((114:UInt8).toNat:Int)≠99;decide
   ·show ((114:UInt8).toNat:Int)≠99;decide
   ·show ((114:UInt8).toNat:Int)≠99;decide
   ·exact absurd hk (by show¬(k+3<3);omega)
  ·refine kind_key ⟨#[114,114,114]⟩ (by unfold kindsB;simp) (fun k hk=> ?_) k hk
   rcases k with _|_|_|k
   ·show ((114:UInt8).toNat:Int)≠99;decide
   ·show ((114:UInt8).toNat:Int)≠99;decide
   ·show ((114:UInt8).toNat:Int)≠99;decide
   ·exact absurd hk (by show¬(k+3<3);omega)
  ·refine kind_key ⟨#[114,114,114]⟩ (by unfold kindsB;simp) (fun k hk=> ?_) k hk
   rcases k with _|_|_|k
   ·show ((114:UInt8).toNat:Int)≠99;decide
   ·show ((114:UInt8).toNat:Int)≠99;decide
   ·show ((114:UInt8).toNat:Int)≠99;decide
   ·exact absurd hk (by show¬(k+3<3);omega)
  ·refine kind_key ⟨#[114,114,114]⟩ (by unfold kindsB;simp) (fun k hk=> ?_) k hk
   rcases k with _|_|_|k
   ·show ((114:UInt8).toNat:Int)≠99;decide
   ·show ((114:UInt8).toNat:Int)≠99;decide
   ·show ((114:UInt8).toNat:Int)≠99;decide
   ·exact absurd hk (by show¬(k+3<3);omega)
  ·refine kind_key ⟨#[114,114,114]⟩ (by unfold kindsB;simp) (fun k hk=> ?_) k hk
   rcases k with _|_|_|k
   ·show ((114:UInt8).toNat:Int)≠99;decide
   ·show ((114:UInt8).toNat:Int)≠99;decide
   ·show ((114:UInt8).toNat:Int)≠99;decide
   ·exact absurd hk (by show¬(k+3<3);omega)
  ·refine kind_key ⟨#[114,119]⟩ (by unfold kindsB;simp) (fun k hk=> ?_) k hk
   rcases k with _|_|k
   ·show ((114:UInt8).toNat:Int)≠99;decide
   ·show ((119:UInt8).toNat:Int)≠99;decide
   ·exact absurd hk (by show¬(k+2<2);omega)
  ·refine kind_key ⟨#[119,114]⟩ (by unfold kindsB;simp) (fun k hk=> ?_) k hk
   rcases k with _|_|k
   ·show ((119:UInt8).toNat:Int)≠99;decide
   ·show ((114:UInt8).toNat:Int)≠99;decide
   ·exact absurd hk (by show¬(k+2<2);omega)
  ·refine kind_key ⟨#[114,114]⟩ (by unfold kindsB;simp) (fun k hk=> ?_) k hk
   rcases k with _|_|k
   ·show ((114:UInt8).toNat:Int)≠99;decide
   ·show ((114:UInt8).toNat:Int)≠99;decide
   ·exact absurd hk (by show¬(k+2<2);omega)
  ·refine kind_key ⟨#[114,114]⟩ (by unfold kindsB;simp) (fun k hk=> ?_) k hk
   rcases k with _|_|k
   ·show ((114:UInt8).toNat:Int)≠99;decide
   ·show ((114:UInt8).toNat:Int)≠99;decide
   ·exact absurd hk (by show¬(k+2<2);omega)
  ·refine kind_key ⟨#[]⟩ (by unfold kindsB;simp) (fun k hk=> ?_) k hk
   ·exact absurd hk (by show¬(k<0);omega)
  ·refine kind_key ⟨#[119,114,114]⟩ (by unfold kindsB;simp) (fun k hk=> ?_) k hk
   rcases k with _|_|_|k
   ·show ((119:UInt8).toNat:Int)≠99;decide
   ·show ((114:UInt8).toNat:Int)≠99;decide
   ·show ((114:UInt8).toNat:Int)≠99;decide
   ·exact absurd hk (by show¬(k+3<3);omega)
  ·exact absurd rfl h14
  ·exact absurd rfl h15
  ·refine kind_key ⟨#[114]⟩ (by unfold kindsB;simp) (fun k hk=> ?_) k hk
   rcases k with _|k
   ·show ((114:UInt8).toNat:Int)≠99;decide
   ·exact absurd hk (by show¬(k+1<1);omega)
  ·refine kind_key ⟨#[108]⟩ (by unfold kindsB;simp) (fun k hk=> ?_) k hk
   rcases k with _|k
   ·show ((108:UInt8).toNat:Int)≠99;decide
   ·exact absurd hk (by show¬(k+1<1);omega)
  ·refine kind_key ⟨#[108]⟩ (by unfold kindsB;simp) (fun k hk=> ?_) k hk
   rcases k with _|k
   ·show ((108:UInt8).toNat:Int)≠99;decide
   ·exact absurd hk (by show¬(k+1<1);omega)
 ·refine kind_key ⟨#[]⟩ (kindsB_none op hop) (fun k hk=> ?_) k hk
  exact absurd hk (Nat.not_lt_zero _)
theorem fits_move {p p' :Pg}{size size' kind n:Int}(hr:p'.regs=p.regs)(hw:p'.words.length=p.words.length)(hl:p'.locks=p.locks)(hk:kind≠99):fitsG p' size' kind n=fitsG p size kind n:=by
 unfold fitsG
 rw [hr,hw,hl]
 simp only [hk,if_false]
theorem okNum_move {p p' :Pg}{size size' :Int}{x:Ins}{k:Nat}(hr:p'.regs=p.regs)(hw:p'.words.length=p.words.length)(hl:p'.locks=p.locks)(h14:x.op≠14)(h15:x.op≠15):okNumG p' size' x k=okNumG p size x k:=by
 unfold okNumG
 split
 ·rename_i h
  exact fits_move hr hw hl (kind_c h14 h15 k h)
 ·rfl
theorem OkIns.move {p p' :Pg}{size size' :Int}{x:Ins}(hr:p'.regs=p.regs)(hw:p'.words.length=p.words.length)(hl:p'.locks=p.locks)(h14:x.op≠14)(h15:x.op≠15)(h:OkIns p size x):OkIns p' size' x:=
 ⟨h.op,by rw [okNum_move hr hw hl h14 h15];exact h.n0,by rw [okNum_move hr hw hl h14 h15];exact h.n1,by rw [okNum_move hr hw hl h14 h15];exact h.n2⟩
theorem fit_c_mk {p:Pg}{size n:Int}(hs:0≤size∧size≤100000)(h:0≤n∧n≤size):fitsG p size 99 n=true:=by
 unfold fitsG
 simp only [Int.reduceEq,if_false,if_true,Bool.and_eq_true,decide_eq_true_eq]
 rw [IntWalk.wrap64_in _ ⟨by omega,by omega⟩]
 omega
theorem num0_iff {p:Pg}{size:Int}{x:Ins}{b:UInt8}{r:List UInt8}(hk:kindsB x.op=⟨(b::r).toArray⟩):okNumG p size x 0=fitsG p size (b.toNat:Int) x.a:=by
 unfold okNumG
 rw [hk,dif_pos (by simp [ByteArray.size])];rfl
theorem num1_iff {p:Pg}{size:Int}{x:Ins}{a b:UInt8}{r:List UInt8}(hk:kindsB x.op=⟨(a::b::r).toArray⟩):okNumG p size x 1=fitsG p size (b.toNat:Int) x.b:=by
 unfold okNumG
 rw [hk,dif_pos (by simp [ByteArray.size])];rfl
theorem num_no {p:Pg}{size:Int}{x:Ins}{k:Nat}(hk:(kindsB x.op).size≤k):okNumG p size x k=(x.num k==0):=by
 unfold okNumG
 rw [dif_neg (by omega)]
theorem OkIns.zero {p p' :Pg}{size size' :Int}{x:Ins}{b' :Int}(hr:p'.regs=p.regs)(hw:p'.words.length=p.words.length)(hl:p'.locks=p.locks)(h15:x.op=15)(h:OkIns p size x)(hs:0≤size' ∧size' ≤100000)(hb:0≤b' ∧b' ≤size'):OkIns p' size' { x with b:=b' } :=by
 have k:kindsB x.op=⟨[114,99].toArray⟩:=by rw [h15];unfold kindsB;simp
 have k' :kindsB ({ x with b:=b' } :Ins).op=⟨[114,99].toArray⟩:=k
 have h0:=h.n0
 have h2:=h.n2
 rw [num0_iff k] at h0
 rw [num_no (by rw [k];decide)] at h2
 refine ⟨h.op, ?_, ?_, ?_⟩
 ·rw [num0_iff k',fits_move hr hw hl (by decide)];exact h0
 ·rw [num1_iff k'];exact fit_c_mk hs hb
 ·rw [num_no (by rw [k'];decide)];exact h2
set_option maxRecDepth 100000
set_option maxHeartbeats 4000000
def fenB (b:Bool)(x:Ins):List Ins:=if b=true then [x,⟨12,0,0,0⟩] else [x]
def fenW (w:Nat→Bool)(i:Nat)(x:Ins):List Ins:=fenB (w i) x
theorem fenB_mem {b:Bool}{x y:Ins}(h:y∈fenB b x):y=x∨y=⟨12,0,0,0⟩:=by
 unfold fenB at h
 split at h
 ·simpa using h
 ·exact .inl (by simpa using h)
def withL (w:Nat→Bool)(code:List Ins):List Ins:=putL (becL (fenW w) code) code
theorem fen_put (w:Nat→Bool)(code:List Ins):movedL (fenW w) code=withL w code:=by
 refine moved_put _ _ fun i hi x hx h15=> ?_
 rcases fenB_mem hx with rfl|rfl
 ·omega
 ·exact absurd h15 (by decide)
def isSt (op:Int):Prop:=op=9∨op=11∨op=18
theorem execT_keep {m m' :Int}{n:Nat}{i:Ins}{x:TS}(h:¬isSt i.op):execT m n i x=execT m' n i x∧(execT m n i x).wait=x.wait∧(i.op≠17→(execT m n i x).owner=x.owner)∧(i.op=17→(execT m n i x).owner=x.owner.set i.a.toNat n)∧(i.op=17→(execT m n i x).fell=x.fell):=by
 have h9:i.op≠9:=fun e=>h (.inl e)
 have h11:i.op≠11:=fun e=>h (.inr (.inl e))
 have h18:i.op≠18:=fun e=>h (.inr (.inr e))
 by_cases e1:i.op=1
 ·rw [execT_1 e1,execT_1 e1];exact ⟨rfl,rfl,fun _=>rfl,fun e=>absurd e (by omega),fun e=>absurd e (by omega)⟩
 by_cases e2:i.op=2
 ·rw [execT_2 e2,execT_2 e2];exact ⟨rfl,rfl,fun _=>rfl,fun e=>absurd e (by omega),fun e=>absurd e (by omega)⟩
 by_cases e3:i.op=3
 ·rw [execT_3 e3,execT_3 e3];exact ⟨rfl,rfl,fun _=>rfl,fun e=>absurd e (by omega),fun e=>absurd e (by omega)⟩
 by_cases e4:i.op=4
 ·rw [execT_4 e4,execT_4 e4];exact ⟨rfl,rfl,fun _=>rfl,fun e=>absurd e (by omega),fun e=>absurd e (by omega)⟩
 by_cases e5:i.op=5
 ·rw [execT_5 e5,execT_5 e5];exact ⟨rfl,rfl,fun _=>rfl,fun e=>absurd e (by omega),fun e=>absurd e (by omega)⟩
 by_cases e6:i.op=6
 ·rw [execT_6 e6,execT_6 e6];exact ⟨rfl,rfl,fun _=>rfl,fun e=>absurd e (by omega),fun e=>absurd e (by omega)⟩
 by_cases e7:i.op=7
 ·rw [execT_7 e7,execT_7 e7];exact ⟨rfl,rfl,fun _=>rfl,fun e=>absurd e (by omega),fun e=>absurd e (by omega)⟩
 by_cases e8:i.op=8
 ·rw [execT_8 e8,execT_8 e8];exact ⟨rfl,rfl,fun _=>rfl,fun e=>absurd e (by omega),fun e=>absurd e (by omega)⟩
 by_cases e10:i.op=10
 ·by_cases hw:0≤x.reg i.b∧x.reg i.b<(x.words.length:Int)
  ·rw [execT_10t e10 hw,execT_10t e10 hw];exact ⟨rfl,rfl,fun _=>rfl,fun e=>absurd e (by omega),fun e=>absurd e (by omega)⟩
  ·rw [execT_10f e10 hw,execT_10f e10 hw];exact ⟨rfl,rfl,fun _=>rfl,fun e=>absurd e (by omega),fun e=>absurd e (by omega)⟩
 by_cases e13:i.op=13
 ·by_cases hw:nth x.words i.a.toNat=x.reg i.b
  ·rw [execT_13t e13 hw,execT_13t e13 hw];exact ⟨rfl,rfl,fun _=>rfl,fun e=>absurd e (by omega),fun e=>absurd e (by omega)⟩
  ·rw [execT_13f e13 hw,execT_13f e13 hw];exact ⟨rfl,rfl,fun _=>rfl,fun e=>absurd e (by omega),fun e=>absurd e (by omega)⟩
 by_cases e14:i.op=14
 ·rw [execT_14 e14,execT_14 e14];exact ⟨rfl,rfl,fun _=>rfl,fun e=>absurd e (by omega),fun e=>absurd e (by omega)⟩
 by_cases e15:i.op=15
 ·by_cases hw:x.reg i.a=0
  ·rw [execT_15t e15 hw,execT_15t e15 hw];exact ⟨rfl,rfl,fun _=>rfl,fun e=>absurd e (by omega),fun e=>absurd e (by omega)⟩
  ·rw [execT_15f e15 hw,execT_15f e15 hw];exact ⟨rfl,rfl,fun _=>rfl,fun e=>absurd e (by omega),fun e=>absurd e (by omega)⟩
 by_cases e16:i.op=16
 ·rw [execT_16 e16,execT_16 e16];exact ⟨rfl,rfl,fun _=>rfl,fun e=>absurd e (by omega),fun e=>absurd e (by omega)⟩
 by_cases e17:i.op=17
 ·rw [execT_17 e17,execT_17 e17];exact ⟨rfl,rfl,fun e=>absurd e17 e,fun _=>rfl,fun _=>rfl⟩
 rw [execT_no ⟨e1,e2,e3,e4,e5,e6,e7,e8,h9,e10,h11,e13,e14,e15,e16,e17,h18⟩,execT_no ⟨e1,e2,e3,e4,e5,e6,e7,e8,h9,e10,h11,e13,e14,e15,e16,e17,h18⟩]
 exact ⟨rfl,rfl,fun _=>rfl,fun e=>absurd e e17,fun e=>absurd e e17⟩
theorem execT0_wait {n:Nat}{i:Ins}{x:TS} :(execT 0 n i x).wait=x.wait:=by
 have hs:∀(x:TS) w,(x.store 0 w).wait=x.wait:=fun x w=>by unfold TS.store;rw [if_neg (by decide)];rfl
 by_cases h:isSt i.op
 ·rcases h with h|h|h
  ·rw [execT_9 h,hs]
  ·by_cases hw:0≤x.reg i.a∧x.reg i.a<(x.words.length:Int)
   ·rw [execT_11t h hw,hs]
   ·rw [execT_11f h hw]
  ·by_cases hw:nth x.owner i.a.toNat≠n
   ·rw [execT_18a h hw]
   ·by_cases hh:∃j,j<x.wait.length∧(nth x.wait j).lock=true∧(nth x.wait j).wh=i.a
    ·obtain ⟨j,hj,h1,h2⟩:=hh
     rw [execT_18b h hw j hj h1 h2]
    ·rw [execT_18c h hw (fun q hq hc=>hh ⟨q,hq,hc⟩),hs]
 ·exact (execT_keep (m' :=0) h).2.1
theorem Reach.no_wait {p:Pg}{s:MSt}(hok:OkPg p)(h:Reach p 0 s):∀t,t<p.code.length→(nth s.ths t).wait= []:=by
 induction h with
 |start=>intro t ht;unfold begin_;rw [nth_map' _ _ _ ht]
 |step hr ht hk hf ih=>
  rename_i s t k
  intro u hu
  rw [putT_th (hr.len hok ht)]
  split
  ·rename_i e;subst e
   have h0:(s.view t).wait= []:=ih t ht
   rcases mvOK_k hk with ⟨rfl,_,_⟩|⟨h1,h2,_⟩
   ·show (stepT p 0 s t 0).wait= []
    rw [stepT_e,execT0_wait];exact h0
   ·rw [h0] at h2;simp at h2;omega
  ·exact ih u hu
section
variable (c:List Ins)
def wF (i:Nat):Bool:=waitsB (nth c i).op
def pF (i:Nat):Nat:=placeL (becL (fenW (wF c)) c) i
def fenL :List Ins:=withL (wF c) c
end
section
variable {c:List Ins}
theorem wF_t {i:Nat} :wF c i=true↔isSt (nth c i).op:=by unfold wF waitsB isSt;simp
theorem fenW_len {i:Nat} :(fenW (wF c) i (nth c i)).length=if wF c i=true then 2 else 1:=by unfold fenW fenB;split<;>rfl
theorem pF_succ {i:Nat}(h:i<c.length):pF c (i+1)=pF c i+if wF c i=true then 2 else 1:=by
 unfold pF
 rw [place_succ _ _ h,fenW_len]
theorem pF_at {i:Nat}(h:i<c.length):nth (fenL c) (pF c i)=fixMv (becL (fenW (wF c)) c) c i (nth c i)∧pF c i<(fenL c).length:=by
 have h1:=moved_at (fenW (wF c)) c (k:=0) h (by rw [fenW_len];split<;>omega)
 rw [fen_put] at h1
 have e:nth (fenW (wF c) i (nth c i)) 0=nth c i:=by unfold fenW fenB;split<;>rfl
 rw [e] at h1
 exact h1
theorem pF_fence {i:Nat}(h:i<c.length)(hw:wF c i=true):nth (fenL c) (pF c i+1)=⟨12,0,0,0⟩∧pF c i+1<(fenL c).length:=by
 have h1:=moved_at (fenW (wF c)) c (k:=1) h (by rw [fenW_len,if_pos hw];omega)
 rw [fen_put] at h1
 have e:nth (fenW (wF c) i (nth c i)) 1=⟨12,0,0,0⟩:=by unfold fenW fenB;rw [if_pos hw];rfl
 rw [e] at h1
 refine ⟨h1.1.trans ?_,h1.2⟩
 unfold fixMv
 rw [if_neg (fun h=>absurd h.1 (by decide)),if_neg (fun h=>absurd h.1 (by decide))]
theorem fen_other {i:Nat}(h:i<c.length)(h14:(nth c i).op≠14)(h15:(nth c i).op≠15):nth (fenL c) (pF c i)=nth c i:=by
 rw [(pF_at h).1]
 unfold fixMv
 rw [if_neg (fun hh=>h14 hh.1),if_neg (fun hh=>h15 hh.1)]
end
section
variable {p:Pg}
def fullPg (p:Pg):Pg:= { p with code:=p.code.map fenL }
theorem fullPg_len :(fullPg p).code.length=p.code.length:=by simp [fullPg]
theorem fullPg_code {t:Nat}(h:t<p.code.length):nth (fullPg p).code t=fenL (nth p.code t):=nth_map' _ _ _ h
theorem nextIns_nat {c:List Ins}{x:TS}{i:Nat}(h:x.pc=(i:Int))(hi:i<c.length):nextIns c x.pc=nth c i:=by rw [h,nextIns_t (by omega)];simp
def pend (i:Ins)(regs:List Int):Wt:=if i.op=18 then ⟨true,i.a,0⟩ else if i.op=9 then ⟨false,i.a,nth regs i.b.toNat⟩ else ⟨false,nth regs i.a.toNat,nth regs i.b.toNat⟩
def pendOK (t:Nat)(i:Ins)(regs:List Int)(W:Nat)(owner:List Int):Prop:=(i.op=18→nth owner i.a.toNat=t)∧(i.op=11→0≤nth regs i.a.toNat∧nth regs i.a.toNat<(W:Int))
theorem exec_st {m:Int}{t:Nat}{i:Ins}{x:TS}(hs:isSt i.op)(hw:x.wait= []):(pendOK t i x.regs x.words.length x.owner→execT m t i x=x.store m (pend i x.regs))∧(¬pendOK t i x.regs x.words.length x.owner→execT m t i x= { x with fell:=true }):=by
 unfold pendOK pend
 rcases hs with h|h|h
 ·refine ⟨fun _=> ?_,fun hn=>absurd ⟨fun e=>by omega,fun e=>by omega⟩ hn⟩
  rw [execT_9 h,if_neg (by omega),if_pos h];rfl
 ·refine ⟨fun hp=> ?_,fun hn=> ?_⟩
  ·rw [execT_11t h (hp.2 h),if_neg (by omega),if_neg (by omega)];rfl
  ·rw [execT_11f h fun hh=>hn ⟨fun e=>by omega,fun _=>hh⟩]
 ·refine ⟨fun hp=> ?_,fun hn=> ?_⟩
  ·rw [execT_18c h (fun hh=>hh (hp.1 h)) (fun q hq=>by rw [hw] at hq;simp at hq),if_pos h]
  ·rw [execT_18a h fun hh=>hn ⟨fun _=>hh,fun e=>by omega⟩]
theorem putT_putT {s:MSt}{t:Nat}{x y:TS} :(s.putT t x).putT t y=s.putT t y:=by
 unfold MSt.putT
 simp only [List.set_set]
theorem isSt_no {i:Ins}(h:isSt i.op):i.op≠14∧i.op≠15:=by unfold isSt at h;omega
theorem able_st {i:Ins}{owner:List Int}(h:isSt i.op):ableL owner 0 i=true:=by
 unfold ableL
 unfold isSt at h
 rw [if_pos h];rfl
theorem three (hq:OkPg (fullPg p)){s' :MSt}{t i:Nat}(hr' :Reach (fullPg p) 1 s')(ht:t<p.code.length)(hi:i<(nth p.code t).length)(hs:isSt (nth (nth p.code t) i).op)(hb:(nth s'.ths t).pc=(pF (nth p.code t) i:Int))(hw:(nth s'.ths t).wait= [])
  (hp:pendOK t (nth (nth p.code t) i) (nth s'.ths t).regs s'.words.length s'.owner):Reach (fullPg p) 1 (s'.putT t { (s'.view t).done (pend (nth (nth p.code t) i) (nth s'.ths t).regs) with pc:=(pF (nth p.code t) (i+1):Int),wait:= [] }):=by
 have hcode:=fullPg_code ht
 have htq:t<(fullPg p).code.length:=by rw [fullPg_len];exact ht
 have hl' :=hr'.len hq htq
 obtain ⟨n14,n15⟩:=isSt_no hs
 have hwF:wF (nth p.code t) i=true:=wF_t.2 hs
 have hins:=fen_other hi n14 n15
 obtain ⟨hf1,hf2⟩:=pF_fence hi hwF
 have hsuc:=pF_succ hi
 rw [if_pos hwF] at hsuc
 have hv:(s'.view t).pc=(pF (nth p.code t) i:Int):=hb
 have hn:nextIns (nth (fullPg p).code t) (s'.view t).pc=nth (nth p.code t) i:=by rw [hcode,nextIns_nat hv (by omega),hins]
 have e1:stepT (fullPg p) 1 s' t 0= { s'.view t with pc:=(pF (nth p.code t) i:Int)+1,wait:= [pend (nth (nth p.code t) i) (nth s'.ths t).regs] } :=by
  rw [stepT_e,hn,hv]
  rw [(exec_st (m:=1) (t:=t) (x:= { s'.view t with pc:=(pF (nth p.code t) i:Int)+1 }) hs hw).1 hp]
  unfold TS.store
  rw [if_pos (by decide)]
  show ({ s'.view t with pc:=_,wait:=(nth s'.ths t).wait++ [_] } :TS)=_
  rw [hw];rfl
 have hr1:=Reach.step hr' htq (mvOK_0 (by rw [hcode,hv];omega) (by rw [hn];show ableL _ (nth s'.ths t).wait.length _=true;rw [hw];exact able_st hs)) (by rw [e1];rfl)
 rw [e1] at hr1
 have hv1:=putT_view (s:=s') (t:=t) (y:= { s'.view t with pc:=(pF (nth p.code t) i:Int)+1,wait:= [pend (nth (nth p.code t) i) (nth s'.ths t).regs] }) hl'
 have e2:stepT (fullPg p) 1 (s'.putT t { s'.view t with pc:=(pF (nth p.code t) i:Int)+1,wait:= [pend (nth (nth p.code t) i) (nth s'.ths t).regs] }) t 1= { (s'.view t).done (pend (nth (nth p.code t) i) (nth s'.ths t).regs) with pc:=(pF (nth p.code t) i:Int)+1,wait:= [] } :=by
  unfold stepT;rw [hv1];rfl
 have hr2:=Reach.step hr1 htq (k:=1) (by rw [hv1];rfl) (by rw [e2];rfl)
 rw [e2,putT_putT] at hr2
 have hv2:=putT_view (s:=s') (t:=t) (y:= { (s'.view t).done (pend (nth (nth p.code t) i) (nth s'.ths t).regs) with pc:=(pF (nth p.code t) i:Int)+1,wait:= [] }) hl'
 have hpc2:((s'.putT t { (s'.view t).done (pend (nth (nth p.code t) i) (nth s'.ths t).regs) with pc:=(pF (nth p.code t) i:Int)+1,wait:= [] }).view t).pc=((pF (nth p.code t) i+1:Nat):Int):=by rw [hv2];simp
 have hn2:nextIns (nth (fullPg p).code t) ((s'.putT t { (s'.view t).done (pend (nth (nth p.code t) i) (nth s'.ths t).regs) with pc:=(pF (nth p.code t) i:Int)+1,wait:= [] }).view t).pc=⟨12,0,0,0⟩:=by rw [hcode,nextIns_nat hpc2 hf2,hf1]
 have e3:stepT (fullPg p) 1 (s'.putT t { (s'.view t).done (pend (nth (nth p.code t) i) (nth s'.ths t).regs) with pc:=(pF (nth p.code t) i:Int)+1,wait:= [] }) t 0= { (s'.view t).done (pend (nth (nth p.code t) i) (nth s'.ths t).regs) with pc:=(pF (nth p.code t) (i+1):Int),wait:= [] } :=by
  rw [stepT_e,hn2,hpc2,hv2,execT_no (by decide),hsuc]
  simp
  exact ⟨by omega,rfl⟩
 have hr3:=Reach.step hr2 htq (mvOK_0 (by rw [hcode,hpc2];omega) (by rw [hn2,hv2];rfl)) (by rw [e3];rfl)
 rw [e3,putT_putT] at hr3
 exact hr3
end
def isSt9 (op:Int):Prop:=op=9∨op=11∨op=18
structure Eff where
 pc:Int
 regs:List Int
 wt:Option Wt
 cs:Option (Int×Int)
 lk:Option Int
 pr:List Int
 fell:Bool
def rdI (i:Ins)(x:TS):Int:=match touchI i x.regs x.words.length with
 |some q=>x.finds q.1
 |none=>0
def goodI (t:Nat)(i:Ins)(x:TS):Bool:=decide (nth x.owner i.a.toNat=(t:Int))&& !x.holds i.a
def effI (t:Nat)(i:Ins)(pc:Int)(regs:List Int)(W:Nat)(rd:Int)(good:Bool):Eff:=
 if i.op=1 then ⟨pc,regs.set i.a.toNat i.b,none,none,none, [],false⟩
 else if i.op=2 then ⟨pc,regs.set i.a.toNat (nth regs i.b.toNat),none,none,none, [],false⟩
 else if i.op=3 then ⟨pc,regs.set i.a.toNat (wrap64 (nth regs i.b.toNat+nth regs i.c.toNat)),none,none,none, [],false⟩
 else if i.op=4 then ⟨pc,regs.set i.a.toNat (wrap64 (nth regs i.b.toNat-nth regs i.c.toNat)),none,none,none, [],false⟩
 else if i.op=5 then ⟨pc,regs.set i.a.toNat (wrap64 (nth regs i.b.toNat*nth regs i.c.toNat)),none,none,none, [],false⟩
 else if i.op=6 then ⟨pc,regs.set i.a.toNat (bit (decide (nth regs i.b.toNat<nth regs i.c.toNat))),none,none,none, [],false⟩
 else if i.op=7 then ⟨pc,regs.set i.a.toNat (bit (decide (nth regs i.b.toNat=nth regs i.c.toNat))),none,none,none, [],false⟩
 else if i.op=8 then ⟨pc,regs.set i.a.toNat rd,none,none,none, [],false⟩
 else if i.op=9 then ⟨pc,regs,some ⟨false,i.a,nth regs i.b.toNat⟩,none,none, [],false⟩
 else if i.op=10 then (if 0≤nth regs i.b.toNat∧nth regs i.b.toNat<(W:Int) then ⟨pc,regs.set i.a.toNat rd,none,none,none, [],false⟩ else ⟨pc,regs,none,none,none, [],true⟩)
 else if i.op=11 then (if 0≤nth regs i.a.toNat∧nth regs i.a.toNat<(W:Int) then ⟨pc,regs,some ⟨false,nth regs i.a.toNat,nth regs i.b.toNat⟩,none,none, [],false⟩ else ⟨pc,regs,none,none,none, [],true⟩)
 else if i.op=13 then (if rd=nth regs i.b.toNat then ⟨pc,regs.set i.b.toNat 1,none,some (i.a,nth regs i.c.toNat),none, [],false⟩ else ⟨pc,regs.set i.b.toNat 0,none,none,none, [],false⟩)
 else if i.op=14 then ⟨i.a,regs,none,none,none, [],false⟩
 else if i.op=15 then (if nth regs i.a.toNat=0 then ⟨i.b,regs,none,none,none, [],false⟩ else ⟨pc,regs,none,none,none, [],false⟩)
 else if i.op=16 then ⟨pc,regs,none,none,none, [(t:Int),nth regs i.a.toNat],false⟩
 else if i.op=17 then ⟨pc,regs,none,none,some i.a, [],false⟩
 else if i.op=18 then (if good=true then ⟨pc,regs,some ⟨true,i.a,0⟩,none,none, [],false⟩ else ⟨pc,regs,none,none,none, [],true⟩)
 else ⟨pc,regs,none,none,none, [],false⟩
def setQ (l:List Int):Option (Int×Int)→List Int
 |some q=>l.set q.1.toNat q.2
 |none=>l
def lockO (l:List Int)(t:Nat):Option Int→List Int
 |some a=>l.set a.toNat t
 |none=>l
def baseE (t:Nat)(x:TS)(f:Eff):TS:=⟨f.pc,f.regs,x.wait,setQ x.words f.cs,lockO x.owner t f.lk,x.prints++f.pr,f.fell⟩
def applyE (m:Int)(t:Nat)(x:TS)(f:Eff):TS:=match f.wt with
 |some w=>(baseE t x f).store m w
 |none=>baseE t x f
theorem finds_nil {words:List Int}{w:Int} :findsL [] words w=nth words w.toNat:=rfl
theorem exec_eff {m:Int}{t:Nat}{i:Ins}{x:TS}(hf:x.fell=false)(h13:i.op=13→x.wait= []):execT m t i x=applyE m t x (effI t i x.pc x.regs x.words.length (rdI i x) (goodI t i x)):=by
 obtain ⟨pc,regs,wait,words,owner,prints,fell⟩:=x
 simp only at hf h13
 subst hf
 have dis:∀n:Int,i.op=n→i.op=n:=fun _ h=>h
 unfold execT
 by_cases e1:i.op=1
 ·simp [e1,effI,applyE,baseE,setQ,lockO,TS.put]
 by_cases e2:i.op=2
 ·simp [e2,effI,applyE,baseE,setQ,lockO,TS.put,TS.reg]
 by_cases e3:i.op=3
 ·simp [e3,effI,applyE,baseE,setQ,lockO,TS.put,TS.reg]
 by_cases e4:i.op=4
 ·simp [e4,effI,applyE,baseE,setQ,lockO,TS.put,TS.reg]
 by_cases e5:i.op=5
 ·simp [e5,effI,applyE,baseE,setQ,lockO,TS.put,TS.reg]
 by_cases e6:i.op=6
 ·simp [e6,effI,applyE,baseE,setQ,lockO,TS.put,TS.reg];rfl
 by_cases e7:i.op=7
 ·simp [e7,effI,applyE,baseE,setQ,lockO,TS.put,TS.reg];rfl
 by_cases e8:i.op=8
 ·simp [e8,effI,applyE,baseE,setQ,lockO,TS.put,TS.reg,rdI,touchI]
 by_cases e9:i.op=9
 ·simp [e9,effI,applyE,baseE,setQ,lockO,TS.put,TS.reg]
 by_cases e10:i.op=10
 ·by_cases hw:0≤nth regs i.b.toNat∧nth regs i.b.toNat<(words.length:Int)
  ·simp [e10,effI,applyE,baseE,setQ,lockO,TS.put,TS.reg,rdI,touchI,TS.isWord,hw]
  ·simp [e10,effI,applyE,baseE,setQ,lockO,TS.put,TS.reg,rdI,touchI,TS.isWord,hw]
 by_cases e11:i.op=11
 ·by_cases hw:0≤nth regs i.a.toNat∧nth regs i.a.toNat<(words.length:Int)
  ·simp [e11,effI,applyE,baseE,setQ,lockO,TS.put,TS.reg,TS.isWord,hw]
  ·simp [e11,effI,applyE,baseE,setQ,lockO,TS.put,TS.reg,TS.isWord,hw]
 by_cases e13:i.op=13
 ·have hw:=h13 e13
  subst hw
  by_cases hv:nth words i.a.toNat=nth regs i.b.toNat
  ·simp [e13,effI,applyE,baseE,setQ,lockO,TS.put,TS.reg,rdI,touchI,TS.finds,finds_nil,hv]
  ·simp [e13,effI,applyE,baseE,setQ,lockO,TS.put,TS.reg,rdI,touchI,TS.finds,finds_nil,hv]
 by_cases e14:i.op=14
 ·simp [e14,effI,applyE,baseE,setQ,lockO]
 by_cases e15:i.op=15
 ·by_cases hv:nth regs i.a.toNat=0
  ·simp [e15,effI,applyE,baseE,setQ,lockO,TS.reg,hv]
  ·simp [e15,effI,applyE,baseE,setQ,lockO,TS.reg,hv]
 by_cases e16:i.op=16
 ·simp [e16,effI,applyE,baseE,setQ,lockO,TS.reg]
 by_cases e17:i.op=17
 ·simp [e17,effI,applyE,baseE,setQ,lockO]
 by_cases e18:i.op=18
 ·by_cases h1:nth owner i.a.toNat=(t:Int)
  ·cases h2:TS.holds ⟨pc,regs,wait,words,owner,prints,false⟩ i.a
   ·simp [e18,effI,applyE,baseE,setQ,lockO,goodI,h1,h2]
   ·simp [e18,effI,applyE,baseE,setQ,lockO,goodI,h1,h2]
  ·simp [e18,effI,applyE,baseE,setQ,lockO,goodI,h1]
 simp [e1,e2,e3,e4,e5,e6,e7,e8,e9,e10,e11,e13,e14,e15,e16,e17,e18,effI,applyE,baseE,setQ,lockO]
structure EffOf (i:Ins)(regs:List Int)(W:Nat)(good:Bool)(f:Eff):Prop where
 wt:∀q,f.wt=some q→f.cs=none∧f.lk=none∧f.fell=false∧isSt9 i.op∧((q.lock=false∧touchI i regs W=some (q.wh,true))∨(q.lock=true∧i.op=18∧q.wh=i.a∧good=true))
 cs:∀q,f.cs=some q→f.lk=none∧i.op=13∧touchI i regs W=some (q.1,false)
 lk:∀l,f.lk=some l→i.op=17∧l=i.a
 pr:f.fell=true→f.pr= []∧f.wt=none
def PlainE (f:Eff):Prop:=f.wt=none∧f.cs=none∧f.lk=none∧(f.fell=true→f.pr= [])
theorem plain_ite {c:Prop}[Decidable c]{a b:Eff}(ha:PlainE a)(hb:PlainE b):PlainE (if c then a else b):=by split<;>assumption
theorem eff_of {t:Nat}{i:Ins}{pc:Int}{regs:List Int}{W:Nat}{rd:Int}{good:Bool} :EffOf i regs W good (effI t i pc regs W rd good):=by
 by_cases e9:i.op=9
 ·constructor<;>simp [e9,effI,touchI,isSt9]
 by_cases e11:i.op=11
 ·by_cases hw:0≤nth regs i.a.toNat∧nth regs i.a.toNat<(W:Int)
  ·constructor<;>simp [e11,effI,touchI,isSt9,hw]
  ·constructor<;>simp [e11,effI,touchI,isSt9,hw]
 by_cases e13:i.op=13
 ·by_cases hv:rd=nth regs i.b.toNat
  ·constructor<;>simp [e13,effI,touchI,isSt9,hv]
  ·constructor<;>simp [e13,effI,touchI,isSt9,hv]
 by_cases e17:i.op=17
 ·constructor<;>simp [e17,effI,touchI,isSt9]
 by_cases e18:i.op=18
 ·cases good
  ·constructor<;>simp [e18,effI,touchI,isSt9]
  ·constructor<;>simp [e18,effI,touchI,isSt9]
 have hp:PlainE (effI t i pc regs W rd good):=by
  unfold effI
  simp only [if_neg e9,if_neg e11,if_neg e13,if_neg e17,if_neg e18]
  repeat' first|exact ⟨rfl,rfl,rfl,fun _=>rfl⟩|exact ⟨rfl,rfl,rfl,fun h=>by cases h⟩|refine plain_ite ?_ ?_
 obtain ⟨h1,h2,h3,h4⟩:=hp
 exact ⟨fun q h=>(by rw [h1] at h;cases h),fun q h=>(by rw [h2] at h;cases h),fun q h=>(by rw [h3] at h;cases h),fun h=>⟨h4 h,h1⟩⟩
theorem touch_ge {p:Pg}(hok:OkPg p){t:Nat}(ht:t<p.code.length){pc:Int}(h0:0≤pc)(h1:pc<((nth p.code t).length:Int)){regs:List Int}{q:Int×Bool}(h:touchI (nextIns (nth p.code t) pc) regs p.words.length=some q):0≤q.1∧q.1<(p.words.length:Int):=by
 have hi:=(hok.insR ht (i:=pc.toNat) (by omega)).1
 rw [nextIns_t h1] at h
 unfold touchI at h
 split at h
 ·rename_i e;cases h;exact (hi.o8 e).2
 split at h
 ·rename_i e;cases h;exact (hi.o9 e).1
 split at h
 ·rename_i e;cases h;exact (hi.o13 e).1
 split at h
 ·split at h
  ·rename_i e;cases h;exact e
  ·cases h
 split at h
 ·split at h
  ·rename_i e;cases h;exact e
  ·cases h
 ·cases h
theorem touch_op {i:Ins}{regs:List Int}{W:Nat}{q:Int×Bool}(h:touchI i regs W=some q):(i.op=8∨i.op=10∨i.op=13∧q.2=false)∨((i.op=9∨i.op=11)∧q.2=true)∨i.op=13:=by
 unfold touchI at h
 split at h
 ·rename_i e;exact .inl (.inl e)
 split at h
 ·rename_i e;cases h;exact .inr (.inl ⟨.inl e,rfl⟩)
 split at h
 ·rename_i e;exact .inr (.inr e)
 split at h
 ·rename_i e;exact .inl (.inr (.inl e))
 split at h
 ·rename_i e
  split at h
  ·cases h;exact .inr (.inl ⟨.inr e,rfl⟩)
  ·cases h
 ·cases h
theorem touch_able {i:Ins}{regs:List Int}{W:Nat}{q:Int×Bool}(h:touchI i regs W=some q)(owner:List Int):ableL owner 0 i=true:=by
 have:=touch_op h
 unfold ableL
 split
 ·rfl
 split
 ·rfl
 split
 ·rename_i e;omega
 ·rfl
theorem where_congr {c:List Ins}{x y:TS}{q:Int×Bool}(h:whereV c x=some q)(hp:y.pc=x.pc)(hr:y.regs=x.regs)(hw:y.wait= [])(hl:y.words.length=x.words.length):whereV c y=some q:=by
 unfold whereV at h⊢
 split at h
 ·rename_i ha
  have hlt:x.pc<(c.length:Int):=by
   unfold ableV at ha
   simp only [Bool.and_eq_true,decide_eq_true_eq] at ha
   exact ha.1
  have h2:ableV c y=true:=by
   unfold ableV
   rw [hp,hw]
   simp only [Bool.and_eq_true,decide_eq_true_eq]
   exact ⟨hlt,touch_able h _⟩
  rw [if_pos h2,hp,hr,hl];exact h
 ·cases h
theorem where_of {c:List Ins}{y:TS}{q:Int×Bool}(hlt:y.pc<(c.length:Int))(h:touchI (nextIns c y.pc) y.regs y.words.length=some q)(hw:y.wait= []):whereV c y=some q:=by
 unfold whereV
 rw [if_pos]
 ·exact h
 ·unfold ableV
  rw [hw]
  simp only [Bool.and_eq_true,decide_eq_true_eq]
  exact ⟨hlt,touch_able h _⟩
def Clash (p:Pg)(s:MSt):Prop:=∃a b v x y,a≠b∧a<p.code.length∧b<p.code.length∧whereV (nth p.code a) (s.view a)=some (v,x)∧whereV (nth p.code b) (s.view b)=some (v,y)∧(x||y)=true
def Free (p:Pg):Prop:=∀s,Reach p 0 s→¬Clash p s
def wordsE (f:Eff)(l:List Int):List Int:=match f.wt with
 |some q=>if q.lock=true then setQ l f.cs else (setQ l f.cs).set q.wh.toNat q.what
 |none=>setQ l f.cs
def ownerE (t:Nat)(f:Eff)(l:List Int):List Int:=match f.wt with
 |some q=>if q.lock=true then (lockO l t f.lk).set q.wh.toNat (-1) else lockO l t f.lk
 |none=>lockO l t f.lk
theorem apply_0 {t:Nat}{x:TS}{f:Eff} :applyE 0 t x f=⟨f.pc,f.regs,x.wait,wordsE f x.words,ownerE t f x.owner,x.prints++f.pr,f.fell⟩:=by
 unfold applyE wordsE ownerE
 cases f.wt with
 |none=>rfl
 |some q=>
  simp only [TS.store,TS.done,baseE]
  rfl
theorem apply_m {m:Int}(hm:0<m){t:Nat}{x:TS}{f:Eff} :applyE m t x f=⟨f.pc,f.regs,x.wait++f.wt.toList,setQ x.words f.cs,lockO x.owner t f.lk,x.prints++f.pr,f.fell⟩:=by
 unfold applyE
 cases h:f.wt with
 |none=>simp [baseE]
 |some q=>
  simp only [TS.store,if_pos hm,baseE]
  rfl
theorem setQ_len {l:List Int}{c:Option (Int×Int)} :(setQ l c).length=l.length:=by cases c<;>simp [setQ]
theorem lockO_len {l:List Int}{t:Nat}{c:Option Int} :(lockO l t c).length=l.length:=by cases c<;>simp [lockO]
theorem wordsE_len {f:Eff}{l:List Int} :(wordsE f l).length=l.length:=by
 unfold wordsE
 split
 ·split<;>simp [setQ_len]
 ·exact setQ_len
theorem set_agree {l l' :List Int}{w i:Nat}{v:Int}(hl:l.length=l'.length)(h:nth l w=nth l' w):nth (l.set i v) w=nth (l'.set i v) w:=by
 rw [nth_set0,nth_set0,hl]
 split
 ·rfl
 ·exact h
theorem words_agree {l l' :List Int}{w:Nat}(f:Eff)(hl:l.length=l'.length)(h:nth l w=nth l' w):nth (wordsE f l) w=nth (wordsE f l') w:=by
 have h1:nth (setQ l f.cs) w=nth (setQ l' f.cs) w:=by
  cases f.cs with
  |none=>exact h
  |some q=>exact set_agree hl h
 unfold wordsE
 split
 ·split
  ·exact h1
  ·exact set_agree (by rw [setQ_len,setQ_len,hl]) h1
 ·exact h1
theorem owner_agree {l l' :List Int}{w:Nat}(t:Nat)(f:Eff)(hl:l.length=l'.length)(h:nth l w=nth l' w):nth (ownerE t f l) w=nth (ownerE t f l') w:=by
 have h1:nth (lockO l t f.lk) w=nth (lockO l' t f.lk) w:=by
  cases f.lk with
  |none=>exact h
  |some q=>exact set_agree hl h
 unfold ownerE
 split
 ·split
  ·exact set_agree (by rw [lockO_len,lockO_len,hl]) h1
  ·exact h1
 ·exact h1
def effS (p:Pg)(e:MSt)(t:Nat):Eff:=effI t (nextIns (nth p.code t) (nth e.ths t).pc) ((nth e.ths t).pc+1) (nth e.ths t).regs e.words.length (rdI (nextIns (nth p.code t) (nth e.ths t).pc) { e.view t with pc:=(e.view t).pc+1 }) (goodI t (nextIns (nth p.code t) (nth e.ths t).pc) { e.view t with pc:=(e.view t).pc+1 })
theorem step_eff {p:Pg}{m:Int}{e:MSt}{t:Nat}(h13:(nextIns (nth p.code t) (nth e.ths t).pc).op=13→(nth e.ths t).wait= []):stepT p m e t 0=applyE m t { e.view t with pc:=(e.view t).pc+1 } (effS p e t):=by
 rw [stepT_e]
 exact exec_eff rfl h13
theorem step_0 {p:Pg}{e:MSt}{t:Nat}(hw:(nth e.ths t).wait= []):stepT p 0 e t 0=⟨(effS p e t).pc,(effS p e t).regs, [],wordsE (effS p e t) e.words,ownerE t (effS p e t) e.owner,e.prints++(effS p e t).pr,(effS p e t).fell⟩:=by
 rw [step_eff fun _=>hw,apply_0]
 show (⟨_,_,(nth e.ths t).wait,_,_,_,_⟩:TS)=_
 rw [hw]
 rfl
def Sm (e x:MSt)(t:Nat):Prop:=(nth x.ths t).pc=(nth e.ths t).pc∧(nth x.ths t).regs=(nth e.ths t).regs
structure LagS (p:Pg)(e x:MSt)(t:Nat)(r:Wt)(ws:List Wt):Prop where
 re:Reach p 0 x
 oth:∀u,u<p.code.length→u≠t→Sm e x u
 tch:r.lock=false→whereV (nth p.code t) (x.view t)=some (r.wh,true)
 words:∀w:Nat,(∀q∈ws,q.lock=false→q.wh.toNat≠w)→nth x.words w=nth e.words w
 owner:∀l:Nat,(∀q∈ws,q.lock=true→q.wh.toNat≠l)→nth x.owner l=nth e.owner l
def Lags (p:Pg)(e:MSt)(t:Nat):List (Wt×MSt)→Prop
 | []=>True
 |r::rs=>LagS p e r.2 t r.1 (r.1::rs.map (·.1))∧Lags p e t rs
section
variable {p:Pg}{e:MSt}{t u:Nat}
theorem Lags.tail {a:List (Wt×MSt)} :∀ {b:List (Wt×MSt)},Lags p e t (b++a)→Lags p e t a
 | [],h=>h
 |_::b,h=>Lags.tail (b:=b) h.2
theorem where_ge (hok:OkPg p){x:MSt}(hx:Reach p 0 x)(ht:t<p.code.length){q:Int×Bool}(h:whereV (nth p.code t) (x.view t)=some q):0≤q.1∧q.1<(p.words.length:Int):=by
 have hw:=hx.wf hok
 unfold whereV at h
 split at h
 ·rename_i ha
  unfold ableV at ha
  simp only [Bool.and_eq_true,decide_eq_true_eq] at ha
  refine touch_ge hok ht (hw.th t ht).pc.1 ha.1 (regs:=(x.view t).regs) ?_
  rw [←hw.words];exact h
 ·cases h
theorem no_touch (hok:OkPg p)(hf:Free p)(he:Reach p 0 e)(hu:u<p.code.length)(ht:t<p.code.length)(hut:u≠t)(hlt:(nth e.ths t).pc<((nth p.code t).length:Int)){v:Int}{b:Bool}(h:touchI (nextIns (nth p.code t) (nth e.ths t).pc) (nth e.ths t).regs p.words.length=some (v,b)):
  ∀ {L:List (Wt×MSt)},Lags p e u L→∀r∈L,r.1.lock=false→r.1.wh.toNat≠v.toNat
 | [],_,r,hr,_=>by cases hr
 |a::L,hl,r,hr,hk=>by
  rcases List.mem_cons.1 hr with rfl|hr
  ·intro heq
   have h1:=hl.1
   have hx:=h1.re
   have hxw:=hx.wf hok
   obtain ⟨hp,hg⟩:=h1.oth t ht (fun h=>hut h.symm)
   have h2:=h1.tch hk
   have hge:=where_ge hok hx hu h2
   have h3:whereV (nth p.code t) (r.2.view t)=some (v,b):=by
    refine where_of ?_ ?_ (hx.no_wait hok t ht)
    ·show (nth r.2.ths t).pc<_
     rw [hp];exact hlt
    ·show touchI (nextIns _ (nth r.2.ths t).pc) (nth r.2.ths t).regs r.2.words.length=_
     rw [hp,hg,hxw.words];exact h
   have hge2:=where_ge hok hx ht h3
   have e2:r.1.wh=v:=by simp only at hge hge2;omega
   rw [e2] at h2
   exact hf _ hx ⟨u,t,v,true,b,hut,hu,ht,h2,h3,rfl⟩
  ·exact no_touch hok hf he hu ht hut hlt h hl.2 r hr hk
theorem LagS.step (hok:OkPg p)(he:Reach p 0 e)(hu:u<p.code.length)(ht:t<p.code.length)(hut:u≠t)(hmv:mvOK 0 (nth p.code t) (e.view t) 0=true)(hfe:(effS p e t).fell=false){x:MSt}{r:Wt}{ws:List Wt}(h:LagS p e x u r ws)
  (hno:∀v b,touchI (nextIns (nth p.code t) (nth e.ths t).pc) (nth e.ths t).regs p.words.length=some (v,b)→∀q∈ws,q.lock=false→q.wh.toNat≠v.toNat)
  (hlk:(nextIns (nth p.code t) (nth e.ths t).pc).op=17∨(nextIns (nth p.code t) (nth e.ths t).pc).op=18→∀q∈ws,q.lock=true→q.wh.toNat≠(nextIns (nth p.code t) (nth e.ths t).pc).a.toNat):
  LagS p (e.putT t (stepT p 0 e t 0)) (x.putT t (stepT p 0 x t 0)) u r ws:=by
 have hx:=h.re
 have hxw:=hx.wf hok
 have hew:=he.wf hok
 obtain ⟨hp,hg⟩:=h.oth t ht (fun h=>hut h.symm)
 have hwe:=he.no_wait hok t ht
 have hwx:=hx.no_wait hok t ht
 have hle:=he.len hok ht
 have hlx:=hx.len hok ht
 have hlue:=he.len hok hu
 have hlux:=hx.len hok hu
 have hrd:rdI (nextIns (nth p.code t) (nth e.ths t).pc) { x.view t with pc:=(x.view t).pc+1 } =rdI (nextIns (nth p.code t) (nth e.ths t).pc) { e.view t with pc:=(e.view t).pc+1 } :=by
  unfold rdI
  show (match touchI _ (nth x.ths t).regs x.words.length with|some q=>findsL (nth x.ths t).wait x.words q.1|none=>0)=(match touchI _ (nth e.ths t).regs e.words.length with|some q=>findsL (nth e.ths t).wait e.words q.1|none=>0)
  rw [hg,hxw.words,hew.words,hwx,hwe]
  cases hq:touchI (nextIns (nth p.code t) (nth e.ths t).pc) (nth e.ths t).regs p.words.length with
  |none=>rfl
  |some q=>exact h.words _ (fun q9 h9 h8=>hno q.1 q.2 hq q9 h9 h8)
 have hgd:(nextIns (nth p.code t) (nth e.ths t).pc).op=18→goodI t (nextIns (nth p.code t) (nth e.ths t).pc) { x.view t with pc:=(x.view t).pc+1 } =goodI t (nextIns (nth p.code t) (nth e.ths t).pc) { e.view t with pc:=(e.view t).pc+1 } :=fun h18=>by
  unfold goodI TS.holds
  show (decide (nth x.owner _=_)&& !((nth x.ths t).wait.any _))=(decide (nth e.owner _=_)&& !((nth e.ths t).wait.any _))
  rw [hwx,hwe,h.owner _ (hlk (.inr h18))]
 have hee:effS p x t=effS p e t:=by
  unfold effS
  rw [hp,hg,hxw.words,hew.words,hrd]
  by_cases h18:(nextIns (nth p.code t) (nth e.ths t).pc).op=18
  ·rw [hgd h18]
  ·unfold effI
   simp only [if_neg h18]
 have hsx:=step_0 (p:=p) hwx
 have hse:=step_0 (p:=p) hwe
 rw [hee] at hsx
 have hmx:mvOK 0 (nth p.code t) (x.view t) 0=true:=by
  rcases mvOK_k hmv with ⟨_,h1,h2⟩|⟨h1,_⟩
  case inr=>omega
  refine mvOK_0 (by show (nth x.ths t).pc<_;rw [hp];exact h1) ?_
  show ableL x.owner (nth x.ths t).wait.length (nextIns _ (nth x.ths t).pc)=true
  have h3:ableL e.owner (nth e.ths t).wait.length (nextIns (nth p.code t) (nth e.ths t).pc)=true:=h2
  rw [hwx,hp]
  rw [hwe] at h3
  by_cases h17:(nextIns (nth p.code t) (nth e.ths t).pc).op=17
  ·unfold ableL at h3⊢
   rw [h.owner _ (hlk (.inl h17))];exact h3
  ·unfold ableL at h3⊢
   simp only [if_neg h17] at h3⊢;exact h3
 have hr2:Reach p 0 (x.putT t (stepT p 0 x t 0)):= .step hx ht hmx (by rw [hsx];exact hfe)
 refine ⟨hr2,fun v hv hvu=> ?_,fun hk=> ?_,fun w hw=> ?_,fun l hl=> ?_⟩
 ·unfold Sm
  rw [putT_th hlx,putT_th hle]
  by_cases hvt:t=v
  ·subst hvt
   rw [if_pos rfl,if_pos rfl,hsx,hse];exact ⟨rfl,rfl⟩
  ·rw [if_neg hvt,if_neg hvt];exact h.oth v hv hvu
 ·have h5:=h.tch hk
  have hv:=putT_other (s:=x) (t:=t) (u:=u) (y:=stepT p 0 x t 0) (fun h=>hut h.symm)
  refine where_congr h5 ?_ ?_ ?_ ?_
  ·rw [hv]
  ·rw [hv]
  ·rw [hv];exact hx.no_wait hok u hu
  ·rw [hv,hsx];exact wordsE_len
 ·show nth (stepT p 0 x t 0).words w=nth (stepT p 0 e t 0).words w
  rw [hsx,hse]
  exact words_agree _ (by rw [hxw.words,hew.words]) (h.words w hw)
 ·show nth (stepT p 0 x t 0).owner l=nth (stepT p 0 e t 0).owner l
  rw [hsx,hse]
  exact owner_agree t _ (by rw [hxw.owner,hew.owner]) (h.owner l hl)
theorem Lags.step (hok:OkPg p)(he:Reach p 0 e)(hu:u<p.code.length)(ht:t<p.code.length)(hut:u≠t)(hmv:mvOK 0 (nth p.code t) (e.view t) 0=true)(hfe:(effS p e t).fell=false):∀ {L:List (Wt×MSt)},Lags p e u L→
  (∀v b,touchI (nextIns (nth p.code t) (nth e.ths t).pc) (nth e.ths t).regs p.words.length=some (v,b)→∀r∈L,r.1.lock=false→r.1.wh.toNat≠v.toNat)→
  ((nextIns (nth p.code t) (nth e.ths t).pc).op=17∨(nextIns (nth p.code t) (nth e.ths t).pc).op=18→∀r∈L,r.1.lock=true→r.1.wh.toNat≠(nextIns (nth p.code t) (nth e.ths t).pc).a.toNat)→
  Lags p (e.putT t (stepT p 0 e t 0)) u (L.map fun r=>(r.1,r.2.putT t (stepT p 0 r.2 t 0)))
 | [],_,_,_=>trivial
 |a::L,h,hno,hlk=>by
  have e9:((a::L).map fun r=>(r.1,r.2.putT t (stepT p 0 r.2 t 0)))=(a.1,a.2.putT t (stepT p 0 a.2 t 0))::(L.map fun r=>(r.1,r.2.putT t (stepT p 0 r.2 t 0))):=rfl
  rw [e9]
  refine ⟨?_,Lags.step hok he hu ht hut hmv hfe h.2 (fun v b hv r hr=>hno v b hv r (List.mem_cons_of_mem _ hr)) (fun ho r hr=>hlk ho r (List.mem_cons_of_mem _ hr))⟩
  have e8:(L.map fun r=>(r.1,r.2.putT t (stepT p 0 r.2 t 0))).map (·.1)=L.map (·.1):=by simp
  rw [e8]
  refine h.1.step hok he hu ht hut hmv hfe (fun v b hv q hq=> ?_) (fun ho q hq=> ?_)
  ·rcases List.mem_cons.1 hq with rfl|hq
   ·exact hno v b hv a (by simp)
   ·obtain ⟨r,hr,rfl⟩:=List.mem_map.1 hq
    exact hno v b hv r (List.mem_cons_of_mem _ hr)
  ·rcases List.mem_cons.1 hq with rfl|hq
   ·exact hlk ho a (by simp)
   ·obtain ⟨r,hr,rfl⟩:=List.mem_map.1 hq
    exact hlk ho r (List.mem_cons_of_mem _ hr)
theorem Lags.own (hok:OkPg p)(he:Reach p 0 e)(ht:t<p.code.length)(f:Option Wt)
  (hnc:∀w,(∀q,f=some q→q.lock=false→q.wh.toNat≠w)→nth (stepT p 0 e t 0).words w=nth e.words w) (hno:∀l,(∀q,f=some q→q.lock=true→q.wh.toNat≠l)→nth (stepT p 0 e t 0).owner l=nth e.owner l)
  (hw:∀q,f=some q→q.lock=false→whereV (nth p.code t) (e.view t)=some (q.wh,true)):∀ {L:List (Wt×MSt)},Lags p e t L→Lags p (e.putT t (stepT p 0 e t 0)) t (L++(f.map fun q=>(q,e)).toList)
 | [],_=>by
  cases f with
  |none=>trivial
  |some q=>
   refine ⟨⟨he,fun v hv hvt=> ?_,fun hk=>hw q rfl hk,fun w hh=> ?_,fun l hh=> ?_⟩,trivial⟩
   ·unfold Sm
    rw [putT_th (he.len hok ht),if_neg (fun h=>hvt h.symm)];exact ⟨rfl,rfl⟩
   ·exact (hnc w fun q' hq' hk=>by cases hq';exact hh q (by simp) hk).symm
   ·exact (hno l fun q' hq' hk=>by cases hq';exact hh q (by simp) hk).symm
 |a::L,h=>by
  refine ⟨⟨h.1.re,fun v hv hvt=> ?_,h.1.tch,fun w hh=> ?_,fun l hh=> ?_⟩,Lags.own hok he ht f hnc hno hw h.2⟩
  ·obtain ⟨h1,h2⟩:=h.1.oth v hv hvt
   unfold Sm
   rw [putT_th (he.len hok ht),if_neg (fun h=>hvt h.symm)];exact ⟨h1,h2⟩
  ·rw [h.1.words w fun q hq hk=>hh q (by rcases List.mem_cons.1 hq with rfl|hq;exact List.mem_cons_self ..;exact List.mem_cons_of_mem _ (by show q∈List.map _ (L++_);rw [List.map_append];exact List.mem_append_left _ hq)) hk]
   exact (hnc w fun q hq hk=>hh q (by subst hq;exact List.mem_cons_of_mem _ (by simp)) hk).symm
  ·rw [h.1.owner l fun q hq hk=>hh q (by rcases List.mem_cons.1 hq with rfl|hq;exact List.mem_cons_self ..;exact List.mem_cons_of_mem _ (by show q∈List.map _ (L++_);rw [List.map_append];exact List.mem_append_left _ hq)) hk]
   exact (hno l fun q hq hk=>hh q (by subst hq;exact List.mem_cons_of_mem _ (by simp)) hk).symm
end
def lastOn (l:List Wt)(w:Int):Option Wt:=l.reverse.find? fun x=> !x.lock&&decide (x.wh=w)
theorem lastOn_some {l:List Wt}{w:Int}{q:Wt}(h:lastOn l w=some q):q∈l∧q.lock=false∧q.wh=w:=by
 have h1:=List.find?_some h
 have h2:=List.mem_of_find?_eq_some h
 simp only [Bool.and_eq_true,Bool.not_eq_true',decide_eq_true_eq] at h1
 exact ⟨List.mem_reverse.1 h2,h1.1,h1.2⟩
theorem lastOn_none {l:List Wt}{w:Int} :lastOn l w=none↔∀q∈l,q.lock=false→q.wh≠w:=by
 unfold lastOn
 rw [List.find?_eq_none]
 constructor
 ·intro h q hq hk he
  exact h q (List.mem_reverse.2 hq) (by simp [hk,he])
 ·intro h q hq hb
  simp only [Bool.and_eq_true,Bool.not_eq_true',decide_eq_true_eq] at hb
  exact h q (List.mem_reverse.1 hq) hb.1 hb.2
theorem lastOn_app {a b:List Wt}{w:Int} :lastOn (a++b) w=(lastOn b w).or (lastOn a w):=by
 unfold lastOn
 rw [List.reverse_append,List.find?_append]
theorem finds_last {l:List Wt}{words:List Int}{w:Int} :findsL l words w=match lastOn l w with|some q=>q.what|none=>nth words w.toNat:=rfl
structure Rec where
 w:Wt
 pd:Bool
 x:MSt
def pds (L:List Rec):List Wt:=(L.filter (·.pd)).map (·.w)
def pairs (L:List Rec):List (Wt×MSt):=L.map fun r=>(r.w,r.x)
theorem mem_pds {L:List Rec}{q:Wt}(h:q∈pds L):∃r∈L,r.pd=true∧r.w=q:=by
 obtain ⟨r,hr,e⟩:=List.mem_map.1 h
 obtain ⟨h1,h2⟩:=List.mem_filter.1 hr
 exact ⟨r,h1,h2,e⟩
theorem pds_mem {L:List Rec}{r:Rec}(h:r∈L)(hp:r.pd=true):r.w∈pds L:=List.mem_map.2 ⟨r,List.mem_filter.2 ⟨h,hp⟩,rfl⟩
theorem pds_nil {L:List Rec}(hh:∀r rs,L=r::rs→r.pd=true)(h:pds L= []):L= []:=by
 cases L with
 |nil=>rfl
 |cons r rs=>
  have h1:=pds_mem (L:=r::rs) (by simp) (hh r rs rfl)
  rw [h] at h1;cases h1
theorem pds_split {x:Wt}{b:List Wt} :∀ {L:List Rec} {a:List Wt},pds L=a++x::b→∃L1 r L2,L=L1++r::L2∧r.pd=true∧r.w=x∧pds L1=a∧pds L2=b
 | [],a,h=>by cases a<;>cases h
 |r::L,a,h=>by
  cases hp:r.pd with
  |false=>
   have h1:pds L=a++x::b:=by
    have:pds (r::L)=pds L:=by unfold pds;rw [List.filter_cons_of_neg (by rw [hp];decide)]
    rw [←this];exact h
   obtain ⟨L1,r',L2,e,h2,h3,h4,h5⟩:=pds_split h1
   refine ⟨r::L1,r',L2,by rw [e];rfl,h2,h3, ?_,h5⟩
   unfold pds;rw [List.filter_cons_of_neg (by rw [hp];decide)];exact h4
  |true=>
   have h1:pds (r::L)=r.w::pds L:=by unfold pds;rw [List.filter_cons_of_pos hp];rfl
   rw [h1] at h
   cases a with
   |nil=>
    have:=List.cons.inj h
    exact ⟨[],r,L,rfl,hp,this.1,rfl,this.2⟩
   |cons a0 a=>
    obtain ⟨h2,h3⟩:=List.cons.inj h
    obtain ⟨L1,r',L2,e,h4,h5,h6,h7⟩:=pds_split h3
    refine ⟨r::L1,r',L2,by rw [e];rfl,h4,h5, ?_,h7⟩
    unfold pds;rw [List.filter_cons_of_pos hp]
    show r.w::pds L1=_
    rw [h6,h2]
theorem pds_app {a b:List Rec} :pds (a++b)=pds a++pds b:=by unfold pds;rw [List.filter_append,List.map_append]
def dropN (L:List Rec):List Rec:=L.dropWhile fun r=> !r.pd
theorem dropN_head :∀ {L:List Rec} {r:Rec} {rs:List Rec},dropN L=r::rs→r.pd=true
 | [],_,_,h=>by cases h
 |a::L,r,rs,h=>by
  unfold dropN at h
  cases hp:a.pd with
  |true=>
   rw [List.dropWhile_cons_of_neg (by rw [hp];decide)] at h
   rw [←(List.cons.inj h).1];exact hp
  |false=>
   rw [List.dropWhile_cons_of_pos (by rw [hp];rfl)] at h
   exact dropN_head (L:=L) h
theorem dropN_pds :∀ {L:List Rec},pds (dropN L)=pds L
 | []=>rfl
 |a::L=>by
  unfold dropN
  cases hp:a.pd with
  |true=>rw [List.dropWhile_cons_of_neg (by rw [hp];decide)]
  |false=>
   rw [List.dropWhile_cons_of_pos (by rw [hp];rfl)]
   have:pds (a::L)=pds L:=by unfold pds;rw [List.filter_cons_of_neg (by rw [hp];decide)]
   rw [this];exact dropN_pds
theorem dropN_suf (L:List Rec):∃a,L=a++dropN L:=⟨_,(List.takeWhile_append_dropWhile (p:=fun r:Rec=> !r.pd) (l:=L)).symm⟩
structure RInv (p:Pg)(s e:MSt)(L:Nat→List Rec):Prop where
 prints:e.prints=s.prints
 same:∀t,t<p.code.length→Sm s e t
 wait:∀t,t<p.code.length→(nth s.ths t).wait=pds (L t)
 head:∀t,t<p.code.length→∀r rs,L t=r::rs→r.pd=true
 lockp:∀t,t<p.code.length→∀r∈L t,r.w.lock=true→r.pd=true
 lags:∀t,t<p.code.length→Lags p e t (pairs (L t))
 w1:∀t,t<p.code.length→∀w:Int,0≤w→∀q,lastOn (nth s.ths t).wait w=some q→nth e.words w.toNat=q.what
 w2:∀w:Int,0≤w→(∀t,t<p.code.length→lastOn (nth s.ths t).wait w=none)→nth e.words w.toNat=nth s.words w.toNat
 o1:∀t,t<p.code.length→∀q∈(nth s.ths t).wait,q.lock=true→nth s.owner q.wh.toNat=(t:Int)∧nth e.owner q.wh.toNat= -1
 o2:∀l:Nat,(∀t,t<p.code.length→∀q∈(nth s.ths t).wait,q.lock=true→q.wh.toNat≠l)→nth e.owner l=nth s.owner l
 dis:∀t,t<p.code.length→(nth s.ths t).wait.Pairwise fun a b=>a.lock=true→b.lock=true→a.wh.toNat≠b.wh.toNat
theorem splitQ {l:List Wt}{j:Nat}(h:j<l.length):l=l.take j++nth l j::l.drop (j+1):=by
 rw [nth_lt l j h,List.getElem_cons_drop,List.take_append_drop]
theorem erase_at {l:List Wt}{j:Nat} :l.eraseIdx j=l.take j++l.drop (j+1):=List.eraseIdx_eq_take_drop_succ l j
theorem mayQ {m:Int}{l:List Wt}{j:Nat}(h:mayK m l j=true)(hj:j<l.length):l.take j= []∨((nth l j).lock=false∧∀q∈l.take j,q.lock=false∧q.wh≠(nth l j).wh):=by
 unfold mayK at h
 simp only [Bool.or_eq_true,decide_eq_true_eq,Bool.and_eq_true,Bool.not_eq_true',Bool.or_eq_false_iff,List.all_eq_true,List.mem_range] at h
 rcases h with h|⟨⟨_,h1⟩,h2⟩
 ·left;rw [h];rfl
 ·refine .inr ⟨h1,fun q hq=> ?_⟩
  obtain ⟨i,hi,rfl⟩:=List.mem_iff_getElem.1 hq
  have hi2:i<j:=by simp at hi;omega
  have h3:=h2 i hi2
  rw [nth_lt _ _ (by omega:i<l.length)] at h3
  simp only [List.getElem_take]
  exact ⟨h3.1,by simpa using h3.2⟩
section
variable {p:Pg}{s e:MSt}{L:Nat→List Rec}{m:Int}{t k:Nat}
theorem RInv.flush (hok:OkPg p)(hs:Reach p m s)(h:RInv p s e L)(ht:t<p.code.length)(hk:0<k)(hk1:k≤(nth s.ths t).wait.length)(hk2:mayK m (nth s.ths t).wait (k-1)=true):∃L',RInv p (s.putT t (stepT p m s t k)) e L' :=by
 have hl:=hs.len hok ht
 have hwf:=hs.wf hok
 have hj:k-1<(nth s.ths t).wait.length:=by omega
 have hst:stepT p m s t k= { (s.view t).done (nth (nth s.ths t).wait (k-1)) with wait:=(nth s.ths t).wait.eraseIdx (k-1) } :=by
  unfold stepT doT
  rw [if_pos hk];rfl
 have hsp:=splitQ hj
 have hmy:=mayQ hk2 hj
 rw [erase_at] at hst
 generalize hx:nth (nth s.ths t).wait (k-1)=x at hst hsp hmy
 generalize ha:(nth s.ths t).wait.take (k-1)=a at hst hsp hmy
 generalize hb:(nth s.ths t).wait.drop (k-1+1)=b at hst hsp
 have hxm:x∈(nth s.ths t).wait:=by rw [hsp];simp
 have hxw:=(hwf.th t ht).wt x hxm
 have hxge:0≤x.wh:=by split at hxw<;>omega
 obtain ⟨L1,r,L2,eL,hr1,hr2,hr3,hr4⟩:=pds_split ((h.wait t ht).symm.trans hsp)
 have hths:∀u,u≠t→nth (s.putT t (stepT p m s t k)).ths u=nth s.ths u:=fun u hu=>by rw [putT_th hl,if_neg fun h=>hu h.symm]
 have htht:nth (s.putT t (stepT p m s t k)).ths t=⟨(nth s.ths t).pc,(nth s.ths t).regs,a++b⟩:=by rw [putT_th hl,if_pos rfl,hst];rfl
 have hwords:(s.putT t (stepT p m s t k)).words=if x.lock=true then s.words else s.words.set x.wh.toNat x.what:=by rw [hst];rfl
 have howner:(s.putT t (stepT p m s t k)).owner=if x.lock=true then s.owner.set x.wh.toNat (-1) else s.owner:=by rw [hst];rfl
 have hprints:(s.putT t (stepT p m s t k)).prints=s.prints:=by rw [hst];rfl
 refine ⟨fun u=>if u=t then dropN (L1++⟨r.w,false,r.x⟩::L2) else L u, ?_⟩
 have hpds:pds (L1++⟨r.w,false,r.x⟩::L2)=a++b:=by
  rw [pds_app,hr3]
  congr 1
 have sub:∀q,q∈a++b→q∈(nth s.ths t).wait:=fun q hq=>by
  rw [hsp]
  rcases List.mem_append.1 hq with hq|hq
  ·exact List.mem_append_left _ hq
  ·exact List.mem_append_right _ (List.mem_cons_of_mem _ hq)
 have waits:∀u,u<p.code.length→∀q∈(nth (s.putT t (stepT p m s t k)).ths u).wait,q∈(nth s.ths u).wait:=fun u hu q hq=>by
  by_cases e9:u=t
  ·subst e9;rw [htht] at hq;exact sub q hq
  ·rw [hths u e9] at hq;exact hq
 refine ⟨by rw [hprints];exact h.prints,fun u hu=> ?_,fun u hu=> ?_,fun u hu r9 rs9 e9=> ?_,fun u hu r9 hr9 hk9=> ?_,fun u hu=> ?_,fun u hu w hw q hq=> ?_,fun w hw hn=> ?_,fun u hu q hq hq2=> ?_,fun l hn=> ?_,fun u hu=> ?_⟩
 ·by_cases e9:u=t
  ·subst e9;unfold Sm;rw [htht];exact h.same u hu
  ·unfold Sm;rw [hths u e9];exact h.same u hu
 ·by_cases e9:u=t
  ·subst e9;rw [htht,if_pos rfl,dropN_pds,hpds]
  ·rw [hths u e9,if_neg e9];exact h.wait u hu
 ·by_cases e8:u=t
  ·rw [if_pos e8] at e9;exact dropN_head e9
  ·rw [if_neg e8] at e9;exact h.head u hu r9 rs9 e9
 ·by_cases e8:u=t
  ·rw [if_pos e8] at hr9
   subst e8
   have hold:∀q∈L1++L2,q.w.lock=true→q.pd=true:=fun q hq=>h.lockp u hu q (by rw [eL];rcases List.mem_append.1 hq with hq|hq;exact List.mem_append_left _ hq;exact List.mem_append_right _ (List.mem_cons_of_mem _ hq))
   cases hxl:x.lock with
   |false=>
    obtain ⟨a9,ea⟩:=dropN_suf (L1++⟨r.w,false,r.x⟩::L2)
    have hm:r9∈L1++⟨r.w,false,r.x⟩::L2:=by rw [ea];exact List.mem_append_right _ hr9
    rcases List.mem_append.1 hm with hm|hm
    ·exact hold r9 (List.mem_append_left _ hm) hk9
    ·rcases List.mem_cons.1 hm with rfl|hm
     ·rw [show r.w=x from hr2,hxl] at hk9;cases hk9
     ·exact hold r9 (List.mem_append_right _ hm) hk9
   |true=>
    have ha0:a= []:=by
     rcases hmy with h1|h1
     ·exact h1
     ·rw [hxl] at h1;cases h1.1
    have hL1:L1= []:=by
     refine pds_nil (fun r8 rs8 e8=> ?_) (hr3.trans ha0)
     exact h.head u hu r8 (rs8++r::L2) (by rw [eL,e8];rfl)
    subst hL1
    have e7:dropN ([]++⟨r.w,false,r.x⟩::L2)=dropN L2:=rfl
    rw [e7] at hr9
    obtain ⟨a9,ea⟩:=dropN_suf L2
    exact hold r9 (by rw [List.nil_append,ea];exact List.mem_append_right _ hr9) hk9
  ·rw [if_neg e8] at hr9;exact h.lockp u hu r9 hr9 hk9
 ·by_cases e8:u=t
  ·rw [if_pos e8]
   subst e8
   obtain ⟨a9,ea⟩:=dropN_suf (L1++⟨r.w,false,r.x⟩::L2)
   have h1:=h.lags u hu
   have e7:pairs (L u)=pairs (L1++⟨r.w,false,r.x⟩::L2):=by rw [eL];unfold pairs;simp
   rw [e7,ea] at h1
   unfold pairs at h1⊢
   rw [List.map_append] at h1
   exact Lags.tail h1
  ·rw [if_neg e8];exact h.lags u hu
 ·by_cases e8:u=t
  ·subst e8
   rw [htht] at hq
   refine h.w1 u hu w hw q ?_
   rw [hsp]
   rw [lastOn_app] at hq⊢
   cases hb9:lastOn b w with
   |some q9=>
    rw [hb9] at hq
    have e6:lastOn (x::b) w=some q9:=by
     rw [show x::b= [x]++b from rfl,lastOn_app,hb9];rfl
    rw [e6];exact hq
   |none=>
    rw [hb9] at hq
    have hq' :lastOn a w=some q:=hq
    obtain ⟨h1,h2,h3⟩:=lastOn_some hq'
    rcases hmy with h4|⟨h4,h5⟩
    ·rw [h4] at h1;cases h1
    ·have h6:=(h5 q h1).2
     have e6:lastOn (x::b) w=none:=lastOn_none.2 fun q9 hq9 hk9=>by
      rcases List.mem_cons.1 hq9 with rfl|hq9
      ·intro e5;exact h6 (h3.trans e5.symm)
      ·exact (lastOn_none.1 hb9) q9 hq9 hk9
     rw [e6];exact hq'
  ·rw [hths u e8] at hq;exact h.w1 u hu w hw q hq
 ·by_cases hxo:x.lock=false∧x.wh=w
  ·have e6:lastOn (nth s.ths t).wait w=some x:=by
    have hn9:=hn t ht
    rw [htht] at hn9
    rw [hsp,lastOn_app]
    rw [show (⟨(nth s.ths t).pc,(nth s.ths t).regs,a++b⟩:Th).wait=a++b from rfl] at hn9
    have hn8:=lastOn_none.1 hn9
    have e5:lastOn (x::b) w=some x:=by
     rw [show x::b= [x]++b from rfl,lastOn_app,lastOn_none.2 fun q9 hq9 hk9=>hn8 q9 (List.mem_append_right _ hq9) hk9]
     unfold lastOn
     simp [hxo.1,hxo.2]
    rw [e5];rfl
   rw [h.w1 t ht w hw x e6,hwords,if_neg (by rw [hxo.1];decide),hxo.2,nth_set0,if_pos]
   refine ⟨rfl, ?_⟩
   rw [if_neg (by rw [hxo.1];decide)] at hxw
   rw [hwf.words];omega
  ·have e6:nth (s.putT t (stepT p m s t k)).words w.toNat=nth s.words w.toNat:=by
    rw [hwords]
    split
    ·rfl
    ·rename_i h9
     rw [nth_set0,if_neg]
     rintro ⟨h8,_⟩
     exact hxo ⟨by simpa using h9,by omega⟩
   rw [e6]
   refine h.w2 w hw fun u hu=> ?_
   have hn9:=hn u hu
   by_cases e8:u=t
   ·subst e8
    rw [htht] at hn9
    have hn8:=lastOn_none.1 hn9
    rw [hsp]
    refine lastOn_none.2 fun q9 hq9 hk9 e5=> ?_
    rcases List.mem_append.1 hq9 with hq9|hq9
    ·exact hn8 q9 (List.mem_append_left _ hq9) hk9 e5
    ·rcases List.mem_cons.1 hq9 with rfl|hq9
     ·exact hxo ⟨hk9,e5⟩
     ·exact hn8 q9 (List.mem_append_right _ hq9) hk9 e5
   ·rw [hths u e8] at hn9;exact hn9
 ·have hold:=h.o1 u hu q (waits u hu q hq) hq2
  refine ⟨?_,hold.2⟩
  rw [howner]
  split
  ·rename_i hxl
   rw [nth_set0,if_neg]
   ·exact hold.1
   ·rintro ⟨h8,_⟩
    have hx1:=h.o1 t ht x hxm hxl
    have e8:u=t:=by
     have:(u:Int)=(t:Int):=by rw [←hold.1,←hx1.1,h8]
     omega
    subst e8
    have hd:=h.dis u hu
    rw [hsp] at hd
    rw [htht] at hq
    have hd2:=List.pairwise_append.1 hd
    rcases List.mem_append.1 hq with hq|hq
    ·exact hd2.2.2 q hq x (by simp) hq2 hxl h8.symm
    ·exact (List.pairwise_cons.1 hd2.2.1).1 q hq hxl hq2 h8
  ·exact hold.1
 ·by_cases hxo:x.lock=true∧x.wh.toNat=l
  ·have hx1:=h.o1 t ht x hxm hxo.1
   rw [howner,if_pos hxo.1,←hxo.2,hx1.2,nth_set0,if_pos]
   refine ⟨rfl, ?_⟩
   rw [if_pos hxo.1] at hxw
   rw [hwf.owner];omega
  ·have e6:nth (s.putT t (stepT p m s t k)).owner l=nth s.owner l:=by
    rw [howner]
    split
    ·rename_i h9
     rw [nth_set0,if_neg]
     rintro ⟨h8,_⟩
     exact hxo ⟨h9,h8⟩
    ·rfl
   rw [e6]
   refine h.o2 l fun u hu q9 hq9 hk9 e5=> ?_
   by_cases e8:u=t
   ·subst e8
    rw [hsp] at hq9
    have hn9:=hn u hu
    rw [htht] at hn9
    rcases List.mem_append.1 hq9 with hq9|hq9
    ·exact hn9 q9 (List.mem_append_left _ hq9) hk9 e5
    ·rcases List.mem_cons.1 hq9 with rfl|hq9
     ·exact hxo ⟨hk9,e5⟩
     ·exact hn9 q9 (List.mem_append_right _ hq9) hk9 e5
   ·exact hn u hu q9 (by rw [hths u e8];exact hq9) hk9 e5
 ·by_cases e8:u=t
  ·subst e8
   rw [htht]
   have hd:=h.dis u hu
   rw [hsp] at hd
   have hd2:=List.pairwise_append.1 hd
   exact List.pairwise_append.2 ⟨hd2.1,(List.pairwise_cons.1 hd2.2.1).2,fun x9 hx9 y9 hy9=>hd2.2.2 x9 hx9 y9 (List.mem_cons_of_mem _ hy9)⟩
  ·rw [hths u e8];exact h.dis u hu
end
theorem words_other {f:Eff}{l:List Int}{w:Nat}(h1:∀q,f.wt=some q→q.lock=false→q.wh.toNat≠w)(h2:∀c,f.cs=some c→c.1.toNat≠w):nth (wordsE f l) w=nth l w:=by
 have h3:nth (setQ l f.cs) w=nth l w:=by
  cases hc:f.cs with
  |none=>rfl
  |some c=>unfold setQ;simp only;rw [nth_set0,if_neg fun h=>h2 c hc h.1]
 unfold wordsE
 split
 ·rename_i q hq
  split
  ·exact h3
  ·rename_i hk
   rw [nth_set0,if_neg fun h=>h1 q hq (by simpa using hk) h.1];exact h3
 ·exact h3
def pushR (L:List Rec)(f:Option Wt)(e:MSt):List Rec:=L++(f.map fun q=>(⟨q,true,e⟩:Rec)).toList
theorem push_pds {L:List Rec}{f:Option Wt}{e:MSt} :pds (pushR L f e)=pds L++f.toList:=by
 unfold pushR
 rw [pds_app]
 cases f<;>rfl
theorem push_pairs {L:List Rec}{f:Option Wt}{e:MSt} :pairs (pushR L f e)=pairs L++(f.map fun q=>(q,e)).toList:=by
 unfold pushR pairs
 rw [List.map_append]
 cases f<;>rfl
def stepR (p:Pg)(t:Nat)(r:Rec):Rec:=⟨r.w,r.pd,r.x.putT t (stepT p 0 r.x t 0)⟩
theorem stepR_pds {p:Pg}{t:Nat} :∀ {L:List Rec},pds (L.map (stepR p t))=pds L
 | []=>rfl
 |a::L=>by
  have ih:=stepR_pds (p:=p) (t:=t) (L:=L)
  unfold pds at ih⊢
  rw [List.map_cons]
  cases hp:a.pd with
  |true=>
   rw [List.filter_cons_of_pos (show (stepR p t a).pd=true from hp),List.filter_cons_of_pos hp,List.map_cons,List.map_cons,ih];rfl
  |false=>
   rw [List.filter_cons_of_neg (show¬(stepR p t a).pd=true by show¬a.pd=true;rw [hp];decide),List.filter_cons_of_neg (by rw [hp];decide),ih]
theorem stepR_pairs {p:Pg}{t:Nat}{L:List Rec} :pairs (L.map (stepR p t))=(pairs L).map fun r=>(r.1,r.2.putT t (stepT p 0 r.2 t 0)):=by
 unfold pairs
 rw [List.map_map,List.map_map];rfl
section
variable {p:Pg}{s e:MSt}{L:Nat→List Rec}{m:Int}{t k:Nat}
theorem RInv.step (hok:OkPg p)(hfree:Free p)(hm:0<m)(hs:Reach p m s)(he:Reach p 0 e)(h:RInv p s e L)(ht:t<p.code.length)(hmv:mvOK m (nth p.code t) (s.view t) 0=true):
  mvOK 0 (nth p.code t) (e.view t) 0=true∧(stepT p m s t 0).fell=(stepT p 0 e t 0).fell∧(stepT p m s t 0).prints=(stepT p 0 e t 0).prints∧((stepT p 0 e t 0).fell=false→∃L',RInv p (s.putT t (stepT p m s t 0)) (e.putT t (stepT p 0 e t 0)) L'):=by
 have hls:=hs.len hok ht
 have hle:=he.len hok ht
 have hws:=hs.wf hok
 have hwe:=he.wf hok
 have hwt0:=he.no_wait hok t ht
 obtain ⟨hp,hg⟩:=h.same t ht
 rcases mvOK_k hmv with ⟨_,hlt,hab⟩|⟨h1,_⟩
 case inr=>omega
 have hlt' :(nth s.ths t).pc<((nth p.code t).length:Int):=hlt
 have hab' :ableL s.owner (nth s.ths t).wait.length (nextIns (nth p.code t) (nth s.ths t).pc)=true:=hab
 have hp0:0≤(nth s.ths t).pc:=(hws.th t ht).pc.1
 have hIR:InsR p.regs.toNat p.words.length p.locks.toNat (nextIns (nth p.code t) (nth s.ths t).pc):=by
  rw [nextIns_t hlt'];exact (hok.insR ht (by omega)).1
 generalize hi:nextIns (nth p.code t) (nth s.ths t).pc=i at hab' hIR
 have hie:nextIns (nth p.code t) (nth e.ths t).pc=i:=by rw [hp];exact hi
 have hwlen:e.words.length=s.words.length:=by rw [hwe.words,hws.words]
 have holen:e.owner.length=s.owner.length:=by rw [hwe.owner,hws.owner]
 have hLnil:(nth s.ths t).wait= []→L t= []:=fun hw=>pds_nil (h.head t ht) ((h.wait t ht).symm.trans hw)
 have hw13:i.op=12∨i.op=13→(nth s.ths t).wait= []:=fun h9=>by
  unfold ableL at hab'
  rw [if_neg (by omega),if_pos h9] at hab'
  exact List.length_eq_zero_iff.1 (of_decide_eq_true hab')
 have hw17:i.op=17→(nth s.ths t).wait= []∧nth s.owner i.a.toNat= -1:=fun h9=>by
  unfold ableL at hab'
  rw [if_neg (by omega),if_neg (by omega),if_pos h9] at hab'
  simp only [Bool.and_eq_true,decide_eq_true_eq] at hab'
  exact ⟨List.length_eq_zero_iff.1 hab'.1,hab'.2⟩
 have hlockge:∀u,u<p.code.length→∀q∈(nth s.ths u).wait,0≤q.wh:=fun u hu q hq=>by
  have:=(hws.th u hu).wt q hq
  split at this<;>omega
 have hlk17:i.op=17→∀u,u<p.code.length→∀q∈(nth s.ths u).wait,q.lock=true→q.wh.toNat≠i.a.toNat:=fun h9 u hu q hq hk e9=>by
  have h8:=(h.o1 u hu q hq hk).1
  rw [e9,(hw17 h9).2] at h8
  omega
 have htouch:∀v b,touchI i (nth e.ths t).regs p.words.length=some (v,b)→(0≤v∧v<(p.words.length:Int))∧∀u,u<p.code.length→u≠t→∀r∈pairs (L u),r.1.lock=false→r.1.wh.toNat≠v.toNat:=fun v b hv=>by
  refine ⟨touch_ge hok ht hp0 hlt' (regs:=(nth e.ths t).regs) (q:=(v,b)) (by rw [hi];exact hv),fun u hu hut=>no_touch hok hfree he hu ht hut (by rw [hp];exact hlt') (b:=b) (by rw [hie];exact hv) (h.lags u hu)⟩
 have hpw:∀u,u<p.code.length→∀q∈(nth s.ths u).wait,∃r∈pairs (L u),r.1=q:=fun u hu q hq=>by
  rw [h.wait u hu] at hq
  obtain ⟨r,hr,_,e9⟩:=mem_pds hq
  exact ⟨(r.w,r.x),List.mem_map.2 ⟨r,hr,rfl⟩,e9⟩
 have hnone:∀v b,touchI i (nth e.ths t).regs p.words.length=some (v,b)→∀u,u<p.code.length→u≠t→lastOn (nth s.ths u).wait v=none:=fun v b hv u hu hut=>lastOn_none.2 fun q hq hk e9=>by
  obtain ⟨r,hr,e8⟩:=hpw u hu q hq
  exact (htouch v b hv).2 u hu hut r hr (by rw [e8];exact hk) (by rw [e8,e9])
 have hrd:rdI i { s.view t with pc:=(s.view t).pc+1 } =rdI i { e.view t with pc:=(e.view t).pc+1 } :=by
  unfold rdI
  show (match touchI i (nth s.ths t).regs s.words.length with|some q=>findsL (nth s.ths t).wait s.words q.1|none=>0)=(match touchI i (nth e.ths t).regs e.words.length with|some q=>findsL (nth e.ths t).wait e.words q.1|none=>0)
  rw [hg,hws.words,hwe.words,hwt0]
  cases hq:touchI i (nth s.ths t).regs p.words.length with
  |none=>rfl
  |some q=>
   rw [←hg] at hq
   have hge:=(htouch q.1 q.2 hq).1
   show findsL _ _ _=nth e.words q.1.toNat
   rw [finds_last]
   cases hl:lastOn (nth s.ths t).wait q.1 with
   |some q9=>exact (h.w1 t ht q.1 hge.1 q9 hl).symm
   |none=>
    refine (h.w2 q.1 hge.1 fun u hu=> ?_).symm
    by_cases e9:u=t
    ·rw [e9];exact hl
    ·exact hnone q.1 q.2 hq u hu e9
 have hgd:i.op=18→goodI t i { s.view t with pc:=(s.view t).pc+1 } =goodI t i { e.view t with pc:=(e.view t).pc+1 } :=fun h18=>by
  have hage:=(hIR.o17 (.inr h18)).1
  unfold goodI TS.holds
  show (decide (nth s.owner _=_)&& !((nth s.ths t).wait.any _))=(decide (nth e.owner _=_)&& !((nth e.ths t).wait.any _))
  rw [hwt0]
  by_cases hex:∃u,u<p.code.length∧∃q∈(nth s.ths u).wait,q.lock=true∧q.wh.toNat=i.a.toNat
  ·obtain ⟨u,hu,q,hq,hk,e9⟩:=hex
   obtain ⟨o1,o2⟩:=h.o1 u hu q hq hk
   rw [e9] at o1 o2
   rw [o1,o2]
   have e8:decide ((-1:Int)=(t:Int))=false:=decide_eq_false (by omega)
   rw [e8]
   by_cases e7:u=t
   ·subst e7
    have:((nth s.ths u).wait.any fun w=>w.lock&&decide (w.wh=i.a))=true:=List.any_eq_true.2 ⟨q,hq,by
     have:=hlockge u hu q hq
     simp only [hk,Bool.true_and,decide_eq_true_eq];omega⟩
    rw [this];simp
   ·rw [decide_eq_false (show¬(u:Int)=(t:Int) by omega)];rfl
  ·rw [h.o2 i.a.toNat fun u hu q hq hk e9=>hex ⟨u,hu,q,hq,hk,e9⟩]
   have:((nth s.ths t).wait.any fun w=>w.lock&&decide (w.wh=i.a))=false:=by
    rw [List.any_eq_false]
    intro q hq hb
    simp only [Bool.and_eq_true,decide_eq_true_eq] at hb
    exact hex ⟨t,ht,q,hq,hb.1,by rw [hb.2]⟩
   rw [this];rfl
 have hee:effS p s t=effS p e t:=by
  unfold effS
  rw [hie,hi,hp,hg,hwlen,hrd]
  by_cases h18:i.op=18
  ·rw [hgd h18]
  ·unfold effI
   simp only [if_neg h18]
 have hE:EffOf i (nth e.ths t).regs p.words.length (goodI t i { e.view t with pc:=(e.view t).pc+1 }) (effS p e t):=by
  unfold effS
  rw [hie,hwe.words]
  exact eff_of
 have hse:=step_0 (p:=p) hwt0
 have hss:stepT p m s t 0=⟨(effS p e t).pc,(effS p e t).regs,(nth s.ths t).wait++(effS p e t).wt.toList,setQ s.words (effS p e t).cs,lockO s.owner t (effS p e t).lk,s.prints++(effS p e t).pr,(effS p e t).fell⟩:=by
  rw [step_eff (fun h13=>hw13 (.inr (by rw [hi] at h13;exact h13))),apply_m hm,hee];rfl
 generalize hf:effS p e t=f at hee hE hse hss
 have hmve:mvOK 0 (nth p.code t) (e.view t) 0=true:=by
  refine mvOK_0 (by show (nth e.ths t).pc<_;rw [hp];exact hlt') ?_
  show ableL e.owner (nth e.ths t).wait.length (nextIns _ (nth e.ths t).pc)=true
  rw [hwt0,hie]
  unfold ableL
  split
  ·rfl
  split
  ·rfl
  split
  ·rename_i h17
   rw [h.o2 i.a.toNat fun u hu q hq hk=>hlk17 h17 u hu q hq hk,(hw17 h17).2];rfl
  ·rfl
 refine ⟨hmve,by rw [hss,hse],by rw [hss,hse,h.prints],fun hfell=> ?_⟩
 have hfe:f.fell=false:=by rw [hse] at hfell;exact hfell
 refine ⟨fun u=>if u=t then pushR (L t) f.wt e else (L u).map (stepR p t), ?_⟩
 have ths:∀u,u≠t→nth (s.putT t (stepT p m s t 0)).ths u=nth s.ths u:=fun u hu=>by rw [putT_th hls,if_neg fun h=>hu h.symm]
 have tht:nth (s.putT t (stepT p m s t 0)).ths t=⟨f.pc,f.regs,(nth s.ths t).wait++f.wt.toList⟩:=by rw [putT_th hls,if_pos rfl,hss]
 have the:∀u,u≠t→nth (e.putT t (stepT p 0 e t 0)).ths u=nth e.ths u:=fun u hu=>by rw [putT_th hle,if_neg fun h=>hu h.symm]
 have tet:nth (e.putT t (stepT p 0 e t 0)).ths t=⟨f.pc,f.regs, []⟩:=by rw [putT_th hle,if_pos rfl,hse]
 have sw:(s.putT t (stepT p m s t 0)).words=setQ s.words f.cs:=by rw [hss];rfl
 have so:(s.putT t (stepT p m s t 0)).owner=lockO s.owner t f.lk:=by rw [hss];rfl
 have ew:(e.putT t (stepT p 0 e t 0)).words=wordsE f e.words:=by rw [hse];rfl
 have eo:(e.putT t (stepT p 0 e t 0)).owner=ownerE t f e.owner:=by rw [hse];rfl
 have hcs:∀c,f.cs=some c→(nth s.ths t).wait= []∧f.wt=none:=fun c hc=>⟨hw13 (.inr (hE.cs c hc).2.1),by
  cases hw:f.wt with
  |none=>rfl
  |some q=>have:=(hE.wt q hw).1;rw [hc] at this;cases this⟩
 have hlks:∀l,f.lk=some l→(nth s.ths t).wait= []∧f.wt=none:=fun l hl=>⟨(hw17 (hE.lk l hl).1).1,by
  cases hw:f.wt with
  |none=>rfl
  |some q=>have:=(hE.wt q hw).2.1;rw [hl] at this;cases this⟩
 have wt_t:∀q,f.wt=some q→q.lock=false→touchI i (nth e.ths t).regs p.words.length=some (q.wh,true):=fun q hq hk=>by
  rcases (hE.wt q hq).2.2.2.2 with h9|h9
  ·exact h9.2
  ·rw [hk] at h9;cases h9.1
 have wt_l:∀q,f.wt=some q→q.lock=true→i.op=18∧q.wh=i.a∧goodI t i { e.view t with pc:=(e.view t).pc+1 } =true:=fun q hq hk=>by
  rcases (hE.wt q hq).2.2.2.2 with h9|h9
  ·rw [hk] at h9;cases h9.1
  ·exact h9.2
 have oth_w:∀u,u<p.code.length→u≠t→∀q∈(nth s.ths u).wait,q.lock=false→nth (wordsE f e.words) q.wh.toNat=nth e.words q.wh.toNat:=fun u hu hut q hq hk=>by
  obtain ⟨r,hr,e8⟩:=hpw u hu q hq
  refine words_other (fun q0 hq0 hk0 e9=> ?_) fun c hc e9=> ?_
  ·exact (htouch q0.wh true (wt_t q0 hq0 hk0)).2 u hu hut r hr (by rw [e8];exact hk) (by rw [e8];exact e9.symm)
  ·exact (htouch c.1 false (hE.cs c hc).2.2).2 u hu hut r hr (by rw [e8];exact hk) (by rw [e8];exact e9.symm)
 have waits_u:∀u,u≠t→(nth (s.putT t (stepT p m s t 0)).ths u).wait=(nth s.ths u).wait:=fun u hu=>by rw [ths u hu]
 have waits_t:(nth (s.putT t (stepT p m s t 0)).ths t).wait=(nth s.ths t).wait++f.wt.toList:=by rw [tht]
 refine ⟨?_,fun u hu=> ?_,fun u hu=> ?_,fun u hu r9 rs9 e9=> ?_,fun u hu r9 hr9 hk9=> ?_,fun u hu=> ?_,fun u hu w hw q hq=> ?_,fun w hw hn=> ?_,fun u hu q hq hk=> ?_,fun l hn=> ?_,fun u hu=> ?_⟩
 ·show (stepT p 0 e t 0).prints=(stepT p m s t 0).prints
  rw [hss,hse,h.prints]
 ·by_cases e9:u=t
  ·subst e9;unfold Sm;rw [tht,tet];exact ⟨rfl,rfl⟩
  ·unfold Sm;rw [ths u e9,the u e9];exact h.same u hu
 ·by_cases e9:u=t
  ·subst e9;rw [waits_t,if_pos rfl,push_pds,h.wait u hu]
  ·rw [waits_u u e9,if_neg e9,stepR_pds];exact h.wait u hu
 ·by_cases e8:u=t
  ·rw [if_pos e8] at e9
   unfold pushR at e9
   cases hL:L t with
   |nil=>
    rw [hL] at e9
    cases hw:f.wt with
    |none=>rw [hw] at e9;cases e9
    |some q=>rw [hw] at e9;rw [←(List.cons.inj e9).1]
   |cons r rs=>
    rw [hL] at e9
    rw [←(List.cons.inj e9).1];exact h.head t ht r rs hL
  ·rw [if_neg e8] at e9
   cases hL:L u with
   |nil=>rw [hL] at e9;cases e9
   |cons r rs=>
    rw [hL] at e9
    rw [←(List.cons.inj e9).1];exact h.head u hu r rs hL
 ·by_cases e8:u=t
  ·rw [if_pos e8] at hr9
   unfold pushR at hr9
   rcases List.mem_append.1 hr9 with hr9|hr9
   ·exact h.lockp t ht r9 hr9 hk9
   ·cases hw:f.wt with
    |none=>rw [hw] at hr9;cases hr9
    |some q=>rw [hw] at hr9;obtain rfl:=List.mem_singleton.1 hr9;rfl
  ·rw [if_neg e8] at hr9
   obtain ⟨r,hr,rfl⟩:=List.mem_map.1 hr9
   exact h.lockp u hu r hr hk9
 ·by_cases e8:u=t
  ·rw [if_pos e8,e8,push_pairs]
   by_cases hnone9:f.cs=none∧f.lk=none
   ·refine Lags.own hok he ht f.wt (fun w hh=> ?_) (fun l hh=> ?_) (fun q hq hk=> ?_) (h.lags t ht)
    ·show nth (stepT p 0 e t 0).words w=_
     rw [hse]
     exact words_other hh fun c hc=>by rw [hnone9.1] at hc;cases hc
    ·show nth (stepT p 0 e t 0).owner l=_
     rw [hse]
     show nth (ownerE t f e.owner) l=_
     unfold ownerE
     rw [hnone9.2]
     cases hw:f.wt with
     |none=>rfl
     |some q=>
      simp only
      split
      ·rename_i hk
       rw [nth_set0,if_neg fun h9=>hh q hw hk h9.1];rfl
      ·rfl
    ·refine where_of (by show (nth e.ths t).pc<_;rw [hp];exact hlt') ?_ hwt0
     show touchI (nextIns _ (nth e.ths t).pc) (nth e.ths t).regs e.words.length=_
     rw [hie,hwe.words];exact wt_t q hq hk
   ·have:(nth s.ths t).wait= []∧f.wt=none:=by
     cases hc:f.cs with
     |some c=>exact hcs c hc
     |none=>
      cases hl:f.lk with
      |some l=>exact hlks l hl
      |none=>exact absurd ⟨hc,hl⟩ hnone9
    rw [this.2,hLnil this.1];trivial
  ·rw [if_neg e8,stepR_pairs]
   refine Lags.step hok he hu ht e8 hmve (by rw [hf];exact hfe) (h.lags u hu) (fun v b hv=>(htouch v b (by rw [hie] at hv;exact hv)).2 u hu e8) (fun ho r hr hk=> ?_)
   rw [hie] at ho⊢
   obtain ⟨r9,hr9,rfl⟩:=List.mem_map.1 hr
   have hin:r9.w∈(nth s.ths u).wait:=by rw [h.wait u hu];exact pds_mem hr9 (h.lockp u hu r9 hr9 hk)
   rcases ho with h17|h18
   ·exact hlk17 h17 u hu r9.w hin hk
   ·intro e9
    have h9:=(h.o1 u hu r9.w hin hk).2
    have hgood:goodI t i { e.view t with pc:=(e.view t).pc+1 } =true:=by
     cases hgg:goodI t i { e.view t with pc:=(e.view t).pc+1 } with
     |true=>rfl
     |false=>
      exfalso
      have:f.fell=true:=by
       rw [←hf]
       unfold effS
       rw [hie,hgg]
       unfold effI
       simp [h18]
      rw [hfe] at this;cases this
    unfold goodI at hgood
    simp only [Bool.and_eq_true,decide_eq_true_eq] at hgood
    have h8:nth e.owner i.a.toNat=(t:Int):=hgood.1
    rw [show r9.w.wh.toNat=i.a.toNat from e9,h8] at h9
    omega
 ·rw [ew]
  by_cases e8:u=t
  ·subst e8
   rw [waits_t,lastOn_app] at hq
   cases hw0:f.wt with
   |none=>
    rw [hw0] at hq
    have hq' :lastOn (nth s.ths u).wait w=some q:=hq
    cases hc:f.cs with
    |some c=>rw [(hcs c hc).1] at hq';cases hq'
    |none=>
     rw [words_other (fun q0 hq0=>by rw [hw0] at hq0;cases hq0) fun c hc' =>by rw [hc] at hc';cases hc']
     exact h.w1 u hu w hw q hq'
   |some q0=>
    rw [hw0] at hq
    by_cases hon:q0.lock=false∧q0.wh=w
    ·have e7:lastOn [q0] w=some q0:=by unfold lastOn;simp [hon.1,hon.2]
     rw [show (some q0).toList= [q0] from rfl,e7] at hq
     have:q0=q:=by injection hq
     subst this
     have hge:=(htouch q0.wh true (wt_t q0 hw0 hon.1)).1
     unfold wordsE
     rw [hw0]
     simp only [hon.1]
     rw [if_neg (by decide),←hon.2,nth_set0,if_pos]
     refine ⟨rfl, ?_⟩
     rw [setQ_len,hwe.words];omega
    ·have e7:lastOn [q0] w=none:=lastOn_none.2 fun q9 hq9 hk9 e9=>by
      obtain rfl:=List.mem_singleton.1 hq9
      exact hon ⟨hk9,e9⟩
     rw [show (some q0).toList= [q0] from rfl,e7] at hq
     have hq' :lastOn (nth s.ths u).wait w=some q:=hq
     rw [words_other (fun q1 hq1 hk1 e9=> ?_) fun c hc=>by rw [(hE.wt q0 hw0).1] at hc;cases hc]
     ·exact h.w1 u hu w hw q hq'
     ·rw [hw0] at hq1
      have e6:q0=q1:=by injection hq1
      subst e6
      have hge:=(htouch q0.wh true (wt_t q0 hw0 hk1)).1
      exact hon ⟨hk1,by omega⟩
  ·rw [waits_u u e8] at hq
   obtain ⟨h1,h2,h3⟩:=lastOn_some hq
   have:=oth_w u hu e8 q h1 h2
   rw [h3] at this
   rw [this];exact h.w1 u hu w hw q hq
 ·rw [ew,sw]
  cases hw0:f.wt with
  |none=>
   have hold:nth e.words w.toNat=nth s.words w.toNat:=h.w2 w hw fun u hu=>by
    have:=hn u hu
    by_cases e8:u=t
    ·rw [e8] at this⊢
     rw [waits_t,hw0] at this
     rw [show (none:Option Wt).toList= [] from rfl,List.append_nil] at this;exact this
    ·rw [waits_u u e8] at this;exact this
   unfold wordsE
   rw [hw0]
   simp only
   cases f.cs with
   |none=>exact hold
   |some c=>exact set_agree hwlen hold
  |some q0=>
   rw [(hE.wt q0 hw0).1]
   have hnt:=hn t ht
   rw [waits_t,hw0] at hnt
   have hnt' :=lastOn_none.1 hnt
   have hold:nth e.words w.toNat=nth s.words w.toNat:=h.w2 w hw fun u hu=>by
    have:=hn u hu
    by_cases e8:u=t
    ·rw [e8]
     exact lastOn_none.2 fun q hq hk=>hnt' q (List.mem_append_left _ hq) hk
    ·rw [waits_u u e8] at this;exact this
   rw [words_other (fun q1 hq1 hk1 e9=> ?_) fun c hc=>by rw [(hE.wt q0 hw0).1] at hc;cases hc]
   ·exact hold
   ·rw [hw0] at hq1
    have e6:q0=q1:=by injection hq1
    subst e6
    have hge:=(htouch q0.wh true (wt_t q0 hw0 hk1)).1
    exact hnt' q0 (List.mem_append_right _ (by simp)) hk1 (by omega)
 ·rw [so,eo]
  have hset:∀a:Nat,nth e.owner a= -1→(∀l,f.lk=some l→l.toNat≠a)→nth (ownerE t f e.owner) a= -1:=fun a ha hl=>by
   have h1:nth (lockO e.owner t f.lk) a= -1:=by
    cases hl9:f.lk with
    |none=>exact ha
    |some l=>
     unfold lockO
     simp only
     rw [nth_set0,if_neg fun h9=>hl l hl9 h9.1];exact ha
   unfold ownerE
   split
   ·split
    ·rw [nth_set0]
     split
     ·rfl
     ·exact h1
    ·exact h1
   ·exact h1
  by_cases e8:u=t
  ·subst e8
   rw [waits_t] at hq
   rcases List.mem_append.1 hq with hq|hq
   ·have hlkn:f.lk=none:=by
     cases hl:f.lk with
     |none=>rfl
     |some l=>rw [(hlks l hl).1] at hq;cases hq
    have hold:=h.o1 u hu q hq hk
    refine ⟨by rw [hlkn];exact hold.1,hset _ hold.2 fun l hl=>by rw [hlkn] at hl;cases hl⟩
   ·cases hw0:f.wt with
    |none=>rw [hw0] at hq;cases hq
    |some q0=>
     rw [hw0] at hq
     obtain rfl:=List.mem_singleton.1 hq
     obtain ⟨h18,hwa,hgood⟩:=wt_l q hw0 hk
     rw [←hgd h18] at hgood
     unfold goodI at hgood
     simp only [Bool.and_eq_true,decide_eq_true_eq] at hgood
     have h8:nth s.owner i.a.toNat=(u:Int):=hgood.1
     have hrg:=hIR.o17 (.inr h18)
     refine ⟨?_, ?_⟩
     ·rw [(hE.wt q hw0).2.1,hwa];exact h8
     ·unfold ownerE
      rw [hw0]
      simp only [hk,if_true]
      rw [nth_set0,if_pos]
      refine ⟨rfl, ?_⟩
      rw [lockO_len,hwe.owner,hwa];omega
  ·rw [waits_u u e8] at hq
   have hold:=h.o1 u hu q hq hk
   have hne:∀l,f.lk=some l→l.toNat≠q.wh.toNat:=fun l hl e9=>by
    obtain ⟨h17,e7⟩:=hE.lk l hl
    rw [e7] at e9
    exact hlk17 h17 u hu q hq hk e9.symm
   refine ⟨?_,hset _ hold.2 hne⟩
   cases hl9:f.lk with
   |none=>exact hold.1
   |some l=>
    unfold lockO
    simp only
    rw [nth_set0,if_neg fun h9=>hne l hl9 h9.1];exact hold.1
 ·rw [so,eo]
  have hold:nth e.owner l=nth s.owner l:=h.o2 l fun u hu q hq hk=>by
   by_cases e8:u=t
   ·rw [e8] at hq
    exact hn t ht q (by rw [waits_t];exact List.mem_append_left _ hq) hk
   ·exact hn u hu q (by rw [waits_u u e8];exact hq) hk
  have h1:nth (lockO e.owner t f.lk) l=nth (lockO s.owner t f.lk) l:=by
   cases f.lk with
   |none=>exact hold
   |some a=>exact set_agree holen hold
  unfold ownerE
  cases hw0:f.wt with
  |none=>exact h1
  |some q0=>
   simp only
   split
   ·rename_i hk
    rw [nth_set0,if_neg fun h9=>hn t ht q0 (by rw [waits_t,hw0];exact List.mem_append_right _ (by simp)) hk h9.1];exact h1
   ·exact h1
 ·by_cases e8:u=t
  ·subst e8
   rw [waits_t]
   cases hw0:f.wt with
   |none=>rw [show (none:Option Wt).toList= [] from rfl,List.append_nil];exact h.dis u hu
   |some q0=>
    refine List.pairwise_append.2 ⟨h.dis u hu,List.pairwise_singleton _ _,fun a ha b hb hka hkb e9=> ?_⟩
    obtain rfl:=List.mem_singleton.1 hb
    obtain ⟨h18,hwa,hgood⟩:=wt_l b hw0 hkb
    rw [←hgd h18] at hgood
    unfold goodI TS.holds at hgood
    simp only [Bool.and_eq_true,Bool.not_eq_true'] at hgood
    have h7:=hgood.2
    have h8:((nth s.ths u).wait.any fun w=>w.lock&&decide (w.wh=i.a))=false:=h7
    rw [List.any_eq_false] at h8
    have hage:=(hIR.o17 (.inr h18)).1
    have hge:=hlockge u hu a ha
    refine h8 a ha ?_
    simp only [hka,Bool.true_and,decide_eq_true_eq]
    rw [hwa] at e9;omega
  ·rw [waits_u u e8];exact h.dis u hu
theorem free_outs (hok:OkPg p)(hfree:Free p)(hm:0<m):∀o,Outs p m o→Outs p 0 o:=by
 refine sim_outs (fun s e=>∃L,RInv p s e L) ⟨_, .start,fun _=> [], ?_⟩ ?_ ?_ ?_
 ·have hth:∀t,t<p.code.length→nth (begin_ p).ths t=⟨0,List.replicate p.regs.toNat 0, []⟩:=fun t ht=>nth_map' _ _ _ ht
  refine ⟨rfl,fun t ht=>⟨rfl,rfl⟩,fun t ht=>by rw [hth t ht];rfl,fun t ht r rs h=>(by cases h),fun t ht r hr=>(by cases hr),fun t ht=>trivial,fun t ht w hw q hq=> ?_,fun w hw hn=>rfl,fun t ht q hq=> ?_,fun l hn=>rfl,fun t ht=> ?_⟩
  ·rw [hth t ht] at hq;cases hq
  ·rw [hth t ht] at hq;cases hq
  ·rw [hth t ht];exact List.Pairwise.nil
 ·rintro s e t k hs he ⟨L,h⟩ ht hk
  by_cases h0:k=0
  ·subst h0
   obtain ⟨h1,h2,h3,h4⟩:=h.step hok hfree hm hs he ht hk
   split
   ·rename_i hf
    rw [h3]
    exact .fell he ht h1 (by rw [←h2];exact hf)
   ·rename_i hf
    have hf' :(stepT p 0 e t 0).fell=false:=by rw [←h2];simpa using hf
    obtain ⟨L',h5⟩:=h4 hf'
    exact ⟨_, .step he ht h1 hf',L',h5⟩
  ·rcases mvOK_k hk with ⟨h1,_⟩|⟨h1,h2,h3⟩
   ·exact absurd h1 h0
   ·have hf:(stepT p m s t k).fell=false:=by unfold stepT doT;rw [if_pos h1];rfl
    rw [if_neg (by rw [hf];decide)]
    obtain ⟨L',h5⟩:=h.flush hok hs ht h1 h2 h3
    exact ⟨e,he,L',h5⟩
 ·rintro s e hs he ⟨L,h⟩ hend
  have h1:=ended_iff.1 hend
  have hwait:∀t,t<p.code.length→(nth s.ths t).wait= []:=fun t ht=>List.length_eq_zero_iff.1 (h1 t ht).2
  have he2:ended p e=true:=ended_iff.2 fun t ht=>by
   rw [(h.same t ht).1,he.no_wait hok t ht]
   exact ⟨(h1 t ht).1,rfl⟩
  have hw:e.words=s.words:=by
   have hl:e.words.length=s.words.length:=by rw [(he.wf hok).words,(hs.wf hok).words]
   refine List.ext_getElem hl fun i hi1 hi2=> ?_
   have:=h.w2 (i:Int) (by omega) fun t ht=>by rw [hwait t ht];rfl
   simp only [Int.toNat_natCast] at this
   rw [nth_lt _ _ hi1,nth_lt _ _ hi2] at this
   exact this
  have:=Outs.done he he2
  rw [hw,h.prints] at this
  exact this
 ·rintro s e hs he ⟨L,h⟩ hend hst
  have hno:∀t,t<p.code.length→ableV (nth p.code t) (s.view t)=false∧(nth s.ths t).wait= []:=fun t ht=>mvOK_none fun k=>hst t k ht
  have ho:∀l,nth e.owner l=nth s.owner l:=fun l=>h.o2 l fun t ht q hq=>by rw [(hno t ht).2] at hq;cases hq
  have hste:Stuck_ p 0 e:=fun t k ht=>mvOK_no ⟨by
   have h1:=(hno t ht).1
   unfold ableV at h1⊢
   show (decide ((nth e.ths t).pc<_)&&ableL e.owner (nth e.ths t).wait.length (nextIns _ (nth e.ths t).pc))=false
   have h2:(decide ((nth s.ths t).pc<((nth p.code t).length:Int))&&ableL s.owner (nth s.ths t).wait.length (nextIns (nth p.code t) (nth s.ths t).pc))=false:=h1
   rw [(h.same t ht).1,he.no_wait hok t ht]
   rw [(hno t ht).2] at h2
   unfold ableL at h2⊢
   rw [ho];exact h2,he.no_wait hok t ht⟩
  have hne:ended p e=false:=by
   cases hc:ended p e with
   |false=>rfl
   |true=>
    exfalso
    have h1:=ended_iff.1 hc
    have:ended p s=true:=ended_iff.2 fun t ht=>by
     rw [←(h.same t ht).1,(hno t ht).2]
     exact ⟨(h1 t ht).1,rfl⟩
    rw [this] at hend;cases hend
  have hw:e.words=s.words:=by
   have hl:e.words.length=s.words.length:=by rw [(he.wf hok).words,(hs.wf hok).words]
   refine List.ext_getElem hl fun i hi1 hi2=> ?_
   have:=h.w2 (i:Int) (by omega) fun t ht=>by rw [(hno t ht).2];rfl
   simp only [Int.toNat_natCast] at this
   rw [nth_lt _ _ hi1,nth_lt _ _ hi2] at this
   exact this
  have:=Outs.stuck he hne hste
  rw [hw,h.prints] at this
  exact this
end
def miniP :Pg:=⟨[[⟨9,0,0,0⟩], [⟨8,0,0,0⟩]], [0],0,1⟩
def miniS :List MSt:=growS miniP 0 100 [begin_ miniP] [begin_ miniP]
def miniE :Cl:=⟨0,0,1,0,0⟩
theorem mini_0 :closeB miniP 0 miniS=true:=by kernel_rfl
theorem mini_big :¬Big miniP 0:=close_big9 mini_0 (by kernel_rfl)
theorem mini_all :(miniS.all fun s=>(List.range 2).all fun a=>(List.range 2).all fun b=>if a<b then (match clashAt miniP s a b with|some c=>decide (c=miniE)|none=>true) else true)=true:=by kernel_rfl
theorem mini_one :clashAt miniP (begin_ miniP) 0 1=some miniE:=by kernel_rfl
theorem mini_len {l:List Cl}(hn:l.Nodup)(hl:∀c,c∈l↔∃s,Reach miniP 0 s∧∃a b,a<b∧b<miniP.code.length∧clashAt miniP s a b=some c):l.length=1:=by
 have h1:miniE∈l:=(hl _).2 ⟨_, .start,0,1,by omega,by decide,mini_one⟩
 have h2:∀c∈l,c=miniE:=fun c hc=>by
  obtain ⟨s,hs,a,b,hab,hb,e⟩:=(hl c).1 hc
  have hb2:b<2:=hb
  have:=List.all_eq_true.1 (List.all_eq_true.1 (List.all_eq_true.1 mini_all s (close_all mini_0 hs)) a (List.mem_range.2 (by omega))) b (List.mem_range.2 hb2)
  rw [if_pos hab,e] at this
  exact of_decide_eq_true this
 rcases l with _|⟨a,_|⟨b,r⟩⟩
 ·cases h1
 ·rfl
 ·exfalso
  have ha:=h2 a (by simp)
  have hb:=h2 b (by simp)
  have:=(List.nodup_cons.1 hn).1
  exact this (by rw [ha,hb];simp)
theorem free_of {p:Pg}(hl:∀c,¬∃s,Reach p 0 s∧∃a b,a<b∧b<p.code.length∧clashAt p s a b=some c):Free p:=by
 rintro s hs ⟨a,b,v,x,y,hab,ha,hb,h1,h2,h3⟩
 have key:∀a b x y,a<b→b<p.code.length→whereV (nth p.code a) (s.view a)=some (v,x)→whereV (nth p.code b) (s.view b)=some (v,y)→(x||y)=true→False:=by
  intro a b x y hab hb h1 h2 h3
  refine hl ⟨(a:Int),(nth s.ths a).pc,(b:Int),(nth s.ths b).pc,v⟩ ⟨s,hs,a,b,hab,hb, ?_⟩
  unfold clashAt
  rw [h1,h2]
  simp only
  rw [if_pos ⟨trivial,h3⟩]
 rcases Nat.lt_or_ge a b with h|h
 ·exact key a b x y h hb h1 h2 h3
 ·exact key b a y x (by omega) ha h2 h1 (by rw [Bool.or_comm];exact h3)
theorem free_same {p:Pg}(hok:OkPg p)(hf:Free p)(o:Outc):Outs p 0 o↔Outs p 1 o:=⟨outs_01,free_outs hok hf (by decide) o⟩
set_option maxHeartbeats 20000000
theorem take_hund {β:Type}{l:List β}{t:Nat}(h1:t≤l.length)(h2:t≤100)(h3:¬(t<l.length∧t<100)):l.take 100=l.take t:=by
 rcases Nat.lt_or_ge t 100 with h|h
 ·rw [List.take_of_length_le (by omega),List.take_of_length_le (by omega)]
 ·rw [show t=100 by omega]
theorem mini_ok :OkPg miniP:=checkG_code_pos.1 (by kernel_rfl)
theorem mini_r :PgR miniP:=by constructor<;>simp [miniP,R64I,R64L,R64]
theorem mini_pg {code:Ls (Ls Ins)}{words0:Ls Int}(hc:code.l.map (·.l)=miniP.code)(hw:words0.l= [0]):pgN code words0 0 1=miniP:=by
 simp only [pgN,pgOf,hc,hw]
 rfl
theorem findT (code:Ls (Ls Ins))(words0:Ls Int)(W:World)(hcode:code.At W)(hwords:words0.At W)(hc:code.l.map (·.l)=miniP.code)(hw:words0.l= [0]):
  Rets Tryz.prog 20 [.agg #[code.v,words0.v, .int .i64 0, .int .i64 1]] W (fun v w' =>∃l:Ls Cl,v= .tuple #[l.v, .agg #[.int .i64 0, .int .i64 0, .int .i64 0]]∧l.l.length=1∧Sh0 W w' [.own 58 l]):=by
 have e:=mini_pg hc hw
 refine Rets.mono (find_k code words0 0 1 W hcode hwords (e▸mini_ok) (e▸mini_r)) ?_
 rintro v w' ⟨l,ok,rfl,hf,hs⟩
 rw [e] at hf
 cases ok with
 |false=>exact absurd (hf.no rfl).1 mini_big
 |true=>exact ⟨l,rfl,mini_len (hf.yes rfl).2.1 (hf.yes rfl).2.2.2,hs⟩
theorem find_free {p:Pg}{l:List Cl}{ok:Bool}(hf:FindF p ok l)(hok:ok=true)(hl:¬0<l.length):Free p:=free_of fun c hc=>by
 have:=((hf.yes hok).2.2.2 c).2 hc
 have:=List.length_pos_of_mem this
 omega
theorem tvast_c (code:Ls (Ls Ins))(words:Ls Int)(locks regs:Int)(W:World)(hcode:code.At W)(hwords:words.At W):
    Rets Tryz.prog 17 [.agg #[code.v,words.v, .int .i64 locks, .int .i64 regs]] W (fun v w' =>v= .bool (vastG (code.l.map (·.l)) words.l)∧Sh0 W w' []):=by
 refine gen Tryz.func17 Tryz.ntmps17 (Sh0.ext2 hcode hwords:Sh (fun _=>False) W W [.at_ code, .at_ words]) rfl fun a10 h10=>gG h10<|sK fun _ k11=>gbx rfl rfl fun b12=>gRn (oM 1 rfl<|.nl)<|nK k11<|sK fun _ k13=>gNl (aA 1 rfl) fun hl14=>gNl (aA 2 rfl) fun hl15=>gRn (ofB fl_25_0 rfl<|olB 0 ti_22 rfl rfl<|oln sl_22 (aA 1 rfl) rfl<|ofB fl_25_1 rfl<|olB 0 ti_23 rfl rfl<|oln sl_23 (aA 2 rfl) rfl<|oadN _ _ (show code.l.length+words.l.length<9223372036854775808 from (by first|omega|(have:=(hcode.inner t (by omega):(nth code.l t).At W).len;omega))) rfl<|oM 1 rfl<|.nl)<|nK k13<|gK fun _ k16=>sG (oM 1 rfl<|.nl)<|gB<|?_;clear h10
 have hwl:=hwords.len
 have hcl:=hcode.len
 intro a19 w19 h19
 refine x_loop (fun m a w=>∃(n t:Nat),(t≤code.l.length∧t≤100)∧((n:Int)=code.l.length+words.l.length+(((code.l.map (·.l)).take t).map fun s=>(s.length:Int)).sum)∧(n≤(t+2)*140737488355328)∧St 39 (fun _=>False) W a w [(1, .pointer (some ⟨b12,0,none⟩)),(3, .int .i64 ((n:Nat):Int)),(4, .int .i64 ((t:Nat):Int))] [.blk b12 25 [code.v,words.v, .int .i64 locks, .int .i64 regs], .at_ code, .at_ words]∧m=code.l.length-t) ⟨_,code.l.length+words.l.length,0,(by omega),(by simp),(by omega),h19.nf ⟨rfl,rfl,rfl,trivial⟩,rfl⟩ ?_
 clear h19
 rintro m18 a18 w18 ⟨n,t,ht,hn,hn2,h18,hm18⟩
 refine gG h18<|gK fun _ k20=>sK fun _ k21=>gRn (oM 1 rfl<|ofB fl_25_0 rfl<|olB 0 ti_22 rfl rfl<|oln sl_22 (aA 1 rfl) rfl<|oltN _ _ rfl<|oM 1 rfl<|.nl)<|?_;clear h18
 rcases dsp (t<code.l.length) with ⟨hb22,hp22⟩|⟨hb22,hp22⟩
 ·skip
  refine gRn (oG hb22 (r_move rfl rfl) rfl<|oG hb22 (r_lssN (p:=t) (q:=100) rfl rfl rfl) rfl<|opT hb22 rfl<|.nl)<|nK k21<|gcd rfl (fun hb23 hp23=> ?_) fun hb23 hp23=> ?_
  ·skip
   refine gS<|hK k20<|?_
   have hlt:=(hcode.inner t (by omega):(nth code.l t).At W).len
   refine gK fun _ k24=>gB<|gL<|gNl (fun w h=>((h.at 1 rfl).nth t (show t<code.l.length from (by omega)))) fun (hl25:((nth code.l t).l).length≤140737488355328)=>gRn (oM 1 rfl<|ofB fl_25_0 rfl<|olB 0 ti_22 rfl rfl<|oM 1 rfl<|oxN sl_22 ti_33 (aA 1 rfl) _ om9 rfl<|olE ((nth code.l t).v) ti_33 (aA 1 rfl) om9 rfl<|oln (n:=((nth code.l t).l).length) sl_33 (fun w h=>((h.at 1 rfl).nth t (show t<code.l.length from (by omega)))) rfl<|oadN _ _ (show n+(((nth code.l t).l).length)<9223372036854775808 from (by first|omega|(have:=(hcode.inner t (by omega):(nth code.l t).At W).len;omega))) rfl<|oM 1 rfl<|.nl)<|nK k24<|gL<|gRn (oM 1 rfl<|oadN _ 1 (show t+1<9223372036854775808 from (by first|omega|(have:=(hcode.inner t (by omega):(nth code.l t).At W).len;omega))) rfl<|oM 1 rfl<|.nl)<|nN<|fun a26 w26 h26=> ?_
   refine x_again ⟨_, ?_,n+(((nth code.l t).l).length),t+1, ?_, ?_, ?_,h26.nf ⟨rfl,rfl,rfl,trivial⟩,rfl⟩
   · rw [hm18];first|omega|(simp only [lens9];omega)
   · omega
   · rw [take_succ_nth _ _ (by simp;omega),List.map_append,List.sum_append,nth_map' _ _ _ (by omega)];simp only [List.map_cons,List.map_nil,List.sum_cons,List.sum_nil];omega
   · omega
  refine gX<|hK k16<|sK fun _ k27=>gRn (oM 1 rfl<|ogtN _ 5000 rfl<|oM 1 rfl<|.nl)<|?_
  rcases dsp (5000<n) with ⟨hb28,hp28⟩|⟨hb28,hp28⟩
  ·skip
   refine gRn (oKs 4 hb28 rfl rfl<|opT hb28 rfl<|oM 1 rfl<|.nl)<|nK k27<|gR<|fun a29 w29 h29=>x_ret1 (fn:=Tryz.f17) (t:=2) rfl h29 rfl<|⟨?_,(h29.sh.sel [] rfl)⟩
   congr 1
   have hv:vastG (code.l.map (·.l)) words.l=(decide (5000<n)||decide (100<code.l.length)):=by unfold vastG;rw [take_hund (l:=code.l.map (·.l)) (t:=t) (by simp;omega) (by omega) (by simp;omega),List.length_map];congr 1<;>(rw [decide_eq_decide];omega)
   rw [hv]
   first|(rw [show decide (5000<n)=true by assumption];rfl)|(rw [show decide (5000<n)=false by assumption];rfl)
  refine gRn (oG hb28 (r_fieldB (r:=0) fl_25_0 rfl rfl rfl) rfl<|oG hb28 (r_ldb (i:=0) ti_22 rfl rfl rfl rfl) rfl<|oG hb28 (r_len (s:=code) (n:=code.l.length) sl_22 rfl rfl (fun w h=>(h.at 1 rfl)) rfl) rfl<|oG hb28 (r_gtrN (p:=code.l.length) (q:=100) rfl rfl rfl) rfl<|opF hb28 rfl<|oM 1 rfl<|.nl)<|nK k27<|gR<|fun a30 w30 h30=>x_ret1 (fn:=Tryz.f17) (t:=2) rfl h30 rfl<|⟨?_,(h30.sh.sel [] rfl)⟩
  congr 1
  have hv:vastG (code.l.map (·.l)) words.l=(decide (5000<n)||decide (100<code.l.length)):=by unfold vastG;rw [take_hund (l:=code.l.map (·.l)) (t:=t) (by simp;omega) (by omega) (by simp;omega),List.length_map];congr 1<;>(rw [decide_eq_decide];omega)
  rw [hv]
  first|(rw [show decide (5000<n)=true by assumption];rfl)|(rw [show decide (5000<n)=false by assumption];rfl)
 refine gRn (oKs 2 hb22 rfl rfl<|opF hb22 rfl<|.nl)<|nK k21<|gcF rfl rfl<|gX<|hK k16<|sK fun _ k31=>gRn (oM 1 rfl<|ogtN _ 5000 rfl<|oM 1 rfl<|.nl)<|?_
 rcases dsp (5000<n) with ⟨hb32,hp32⟩|⟨hb32,hp32⟩
 ·skip
  refine gRn (oKs 4 hb32 rfl rfl<|opT hb32 rfl<|oM 1 rfl<|.nl)<|nK k31<|gR<|fun a33 w33 h33=>x_ret1 (fn:=Tryz.f17) (t:=2) rfl h33 rfl<|⟨?_,(h33.sh.sel [] rfl)⟩
  congr 1
  have hv:vastG (code.l.map (·.l)) words.l=(decide (5000<n)||decide (100<code.l.length)):=by unfold vastG;rw [take_hund (l:=code.l.map (·.l)) (t:=t) (by simp;omega) (by omega) (by simp;omega),List.length_map];congr 1<;>(rw [decide_eq_decide];omega)
  rw [hv]
  first|(rw [show decide (5000<n)=true by assumption];rfl)|(rw [show decide (5000<n)=false by assumption];rfl)
 refine gRn (oG hb32 (r_fieldB (r:=0) fl_25_0 rfl rfl rfl) rfl<|oG hb32 (r_ldb (i:=0) ti_22 rfl rfl rfl rfl) rfl<|oG hb32 (r_len (s:=code) (n:=code.l.length) sl_22 rfl rfl (fun w h=>(h.at 1 rfl)) rfl) rfl<|oG hb32 (r_gtrN (p:=code.l.length) (q:=100) rfl rfl rfl) rfl<|opF hb32 rfl<|oM 1 rfl<|.nl)<|nK k31<|gR<|fun a34 w34 h34=>x_ret1 (fn:=Tryz.f17) (t:=2) rfl h34 rfl<|⟨?_,(h34.sh.sel [] rfl)⟩
 congr 1
 have hv:vastG (code.l.map (·.l)) words.l=(decide (5000<n)||decide (100<code.l.length)):=by unfold vastG;rw [take_hund (l:=code.l.map (·.l)) (t:=t) (by simp;omega) (by omega) (by simp;omega),List.length_map];congr 1<;>(rw [decide_eq_decide];omega)
 rw [hv]
 first|(rw [show decide (5000<n)=true by assumption];rfl)|(rw [show decide (5000<n)=false by assumption];rfl)
theorem topFree_v (code:Ls (Ls Ins))(words:Ls Int)(locks regs:Int)(W:World)(hcode:code.At W)(hwords:words.At W)(hv:vastG (code.l.map (·.l)) words.l=true):
    Rets Tryz.prog 4 [.agg #[code.v,words.v, .int .i64 locks, .int .i64 regs]] W (fun v w' =>v= .bool true∧Sh0 W w' []):=by
 refine gen Tryz.func4 Tryz.ntmps4 (Sh0.ext2 hcode hwords:Sh (fun _=>False) W W [.at_ code, .at_ words]) rfl fun a10 h10=>gG h10<|sK fun _ k11=>gbx rfl rfl fun b12=>gRn (oM 1 rfl<|.nl)<|nK k11<|sK fun _ k13=>gRn (oV (r_build (cs:= [.int .i64 9, .int .i64 0, .int .i64 0, .int .i64 0]) rfl rfl (by kernel_rfl)) rfl<|.nl)<|gE1 (fun _ _ h_=>x_lit (n:=1) (cs:= [.int .i64 9, .int .i64 0, .int .i64 0, .int .i64 0]) ([(⟨9,0,0,0⟩:Ins)]:List Ins) h_ sl_33 ti_32 rfl rfl rfl (by decide) rfl (by kernel_rfl) rfl (fun q hq w h=>Flat.inner _ _) (fun q hq b hb=>(Flat.on _ _ hb).elim) rfl rfl) rfl fun v14=>gRn (oV (r_build (cs:= [.int .i64 8, .int .i64 0, .int .i64 0, .int .i64 0]) rfl rfl (by kernel_rfl)) rfl<|.nl)<|gE1 (fun _ _ h_=>x_lit (n:=1) (cs:= [.int .i64 8, .int .i64 0, .int .i64 0, .int .i64 0]) ([(⟨8,0,0,0⟩:Ins)]:List Ins) h_ sl_33 ti_32 rfl rfl rfl (by decide) rfl (by kernel_rfl) rfl (fun q hq w h=>Flat.inner _ _) (fun q hq b hb=>(Flat.on _ _ hb).elim) rfl rfl) rfl fun v15=>fun a20 w20 h20=>wl_ex (x_lit (n:=2) (cs:= [v14,v15]) ([⟨v14⟩,⟨v15⟩]:List RV) h20 sl_22 ti_33 rfl rfl rfl (by decide) rfl (by obtain ⟨A21,n21,c21,(e21:v14=_)⟩:=((h20.sh.own 1 rfl)).form;rw [e21];obtain ⟨A19,n19,c19,(e19:v15=_)⟩:=((h20.sh.own 0 rfl)).form;rw [e19];kernel_rfl) rfl (fun _ _ _ _=>trivial) (fun q hq b hb=>(Flat.on _ _ hb).elim) rfl rfl) (wanted_none rfl _) ?_;clear h10
 rintro a22 w22 ⟨v22,h22⟩
 have h23:=h22.sel (L' := [_,_,_,_,_,_]) [0,2,1,3,4,5] rfl
 have h24:St 54 (fun _=>False) W a22 w22 _ _:=⟨h23.fr,(Sh.close (B:=matX (.own 32) 33 v22 [(⟨v14, [(⟨9,0,0,0⟩:Ins)]⟩:Ls Ins),(⟨v15, [(⟨8,0,0,0⟩:Ins)]⟩:Ls Ins)]) h23.sh).matDeep own_mat⟩
 clear h23
 clear h20
 refine gG h24<|gE1 (fun _ _ h_=>x_lit (n:=1) (cs:= [.int .i64 0]) ([0]:List Int) h_ sl_23 ti_3 rfl rfl rfl (by decide) rfl (by kernel_rfl) rfl (fun q hq w h=>Flat.inner _ _) (fun q hq b hb=>(Flat.on _ _ hb).elim) rfl rfl) rfl fun v25=>gRn (oV (r_buildS (cs:= [v22,v25, .int .i64 0, .int .i64 1]) rfl rfl (fun w h=>by obtain ⟨A27,n27,c27,(e27:v25=_)⟩:=((h.own 0 rfl)).form;rw [e27];obtain ⟨A26,n26,c26,(e26:v22=_)⟩:=((h.deep 1 rfl)).form;rw [e26];kernel_rfl)) rfl<|.nl)<|fun a29 w29 h29=> ?_;clear h24
 refine wl_ex (x_call h29 bd_20 rfl rfl rfl rfl rfl (findT (⟨v22, [(⟨v14, [(⟨9,0,0,0⟩:Ins)]⟩:Ls Ins),(⟨v15, [(⟨8,0,0,0⟩:Ins)]⟩:Ls Ins)]⟩:Ls (Ls Ins)) (⟨v25, [0]⟩:Ls Int) _ (h29.sh.deep 1 rfl) (h29.sh.own 0 rfl) rfl rfl)) (wanted_none rfl _) ?_
 rintro a30 w30 ⟨_,⟨l30,rfl,hll30,hs30⟩,hf30⟩
 have h30:=(⟨hf30,h29.sh.call hs30 (by intro A hA b hb;first|(simp at hA;done)|(simp at hA;subst hA;first|exact Flat.noRd hb|exact (hb:False).elim)|(simp at hA;rcases hA with rfl|rfl<;>first|exact Flat.noRd hb|exact (hb:False).elim))⟩:St 54 (fun _=>False) W a30 w30 _ _)
 clear hf30 hs30
 clear h29
 refine gG h30<|gRn (oM 1 rfl<|oxt rfl<|oxt rfl<|.nl)<|gal ti_28 rfl fun b31=>gRn (oM 1 rfl<|.nl)<|gsw 0 ti_28 rfl rfl rfl<|nK k13<|gK fun _ k33=>sK fun _ k34=>gNl (aO 1 rfl) fun hl35=>gRn (ofB fl_28_0 rfl<|olB 0 ti_26 rfl rfl<|oneN 0 0 rfl<|oM 1 rfl<|oG (by decide) (r_move rfl rfl) rfl<|oG (by decide) (r_len (s:=l30) (n:=l30.l.length) sl_41 rfl rfl (fun w h=>(h.own 1 rfl)) rfl) rfl<|oG (by decide) (r_neqN (p:=l30.l.length) (q:=1) rfl rfl rfl) rfl<|opF (by decide) rfl<|.nl)<|nK k34<|gcF rfl (decide_eq_false (by omega))<|gS<|hK k33<|gK fun _ k36=>sK fun _ k37=>gRn (olw 4 ti_25 rfl rfl<|.nl)<|gC (fun _ _ h_=>xCl h_ bd_17 rfl (tvast_c code words locks regs _ (h_.sh.at 5 rfl) (h_.sh.at 6 rfl))) rfl<|?_;clear h30
 rintro _ _ w38 ⟨rfl,hs38⟩
 refine gWk hs38 rfl<|gU<|nK k37<|gF [1,4,27] rfl<|gcT rfl hv<|sG (oM 1 rfl<|.nl)<|gR<|uT<|fun a40 w40 h40=> ?_;clear hs38
 refine x_ret1 (fn:=Tryz.f4) (t:=2) rfl h40 rfl<|⟨?_,(h40.sh.sel [] rfl)⟩
 rfl
theorem topFree_b (code:Ls (Ls Ins))(words:Ls Int)(locks regs:Int)(W:World)(hcode:code.At W)(hwords:words.At W)(hv:vastG (code.l.map (·.l)) words.l=false)(hz:(checkG (pgOf code words locks regs)).code≠0):
    Rets Tryz.prog 4 [.agg #[code.v,words.v, .int .i64 locks, .int .i64 regs]] W (fun v w' =>v= .bool true∧Sh0 W w' []):=by
 refine gen Tryz.func4 Tryz.ntmps4 (Sh0.ext2 hcode hwords:Sh (fun _=>False) W W [.at_ code, .at_ words]) rfl fun a10 h10=>gG h10<|sK fun _ k11=>gbx rfl rfl fun b12=>gRn (oM 1 rfl<|.nl)<|nK k11<|sK fun _ k13=>gRn (oV (r_build (cs:= [.int .i64 9, .int .i64 0, .int .i64 0, .int .i64 0]) rfl rfl (by kernel_rfl)) rfl<|.nl)<|gE1 (fun _ _ h_=>x_lit (n:=1) (cs:= [.int .i64 9, .int .i64 0, .int .i64 0, .int .i64 0]) ([(⟨9,0,0,0⟩:Ins)]:List Ins) h_ sl_33 ti_32 rfl rfl rfl (by decide) rfl (by kernel_rfl) rfl (fun q hq w h=>Flat.inner _ _) (fun q hq b hb=>(Flat.on _ _ hb).elim) rfl rfl) rfl fun v14=>gRn (oV (r_build (cs:= [.int .i64 8, .int .i64 0, .int .i64 0, .int .i64 0]) rfl rfl (by kernel_rfl)) rfl<|.nl)<|gE1 (fun _ _ h_=>x_lit (n:=1) (cs:= [.int .i64 8, .int .i64 0, .int .i64 0, .int .i64 0]) ([(⟨8,0,0,0⟩:Ins)]:List Ins) h_ sl_33 ti_32 rfl rfl rfl (by decide) rfl (by kernel_rfl) rfl (fun q hq w h=>Flat.inner _ _) (fun q hq b hb=>(Flat.on _ _ hb).elim) rfl rfl) rfl fun v15=>fun a20 w20 h20=>wl_ex (x_lit (n:=2) (cs:= [v14,v15]) ([⟨v14⟩,⟨v15⟩]:List RV) h20 sl_22 ti_33 rfl rfl rfl (by decide) rfl (by obtain ⟨A21,n21,c21,(e21:v14=_)⟩:=((h20.sh.own 1 rfl)).form;rw [e21];obtain ⟨A19,n19,c19,(e19:v15=_)⟩:=((h20.sh.own 0 rfl)).form;rw [e19];kernel_rfl) rfl (fun _ _ _ _=>trivial) (fun q hq b hb=>(Flat.on _ _ hb).elim) rfl rfl) (wanted_none rfl _) ?_;clear h10
 rintro a22 w22 ⟨v22,h22⟩
 have h23:=h22.sel (L' := [_,_,_,_,_,_]) [0,2,1,3,4,5] rfl
 have h24:St 54 (fun _=>False) W a22 w22 _ _:=⟨h23.fr,(Sh.close (B:=matX (.own 32) 33 v22 [(⟨v14, [(⟨9,0,0,0⟩:Ins)]⟩:Ls Ins),(⟨v15, [(⟨8,0,0,0⟩:Ins)]⟩:Ls Ins)]) h23.sh).matDeep own_mat⟩
 clear h23
 clear h20
 refine gG h24<|gE1 (fun _ _ h_=>x_lit (n:=1) (cs:= [.int .i64 0]) ([0]:List Int) h_ sl_23 ti_3 rfl rfl rfl (by decide) rfl (by kernel_rfl) rfl (fun q hq w h=>Flat.inner _ _) (fun q hq b hb=>(Flat.on _ _ hb).elim) rfl rfl) rfl fun v25=>gRn (oV (r_buildS (cs:= [v22,v25, .int .i64 0, .int .i64 1]) rfl rfl (fun w h=>by obtain ⟨A27,n27,c27,(e27:v25=_)⟩:=((h.own 0 rfl)).form;rw [e27];obtain ⟨A26,n26,c26,(e26:v22=_)⟩:=((h.deep 1 rfl)).form;rw [e26];kernel_rfl)) rfl<|.nl)<|fun a29 w29 h29=> ?_;clear h24
 refine wl_ex (x_call h29 bd_20 rfl rfl rfl rfl rfl (findT (⟨v22, [(⟨v14, [(⟨9,0,0,0⟩:Ins)]⟩:Ls Ins),(⟨v15, [(⟨8,0,0,0⟩:Ins)]⟩:Ls Ins)]⟩:Ls (Ls Ins)) (⟨v25, [0]⟩:Ls Int) _ (h29.sh.deep 1 rfl) (h29.sh.own 0 rfl) rfl rfl)) (wanted_none rfl _) ?_
 rintro a30 w30 ⟨_,⟨l30,rfl,hll30,hs30⟩,hf30⟩
 have h30:=(⟨hf30,h29.sh.call hs30 (by intro A hA b hb;first|(simp at hA;done)|(simp at hA;subst hA;first|exact Flat.noRd hb|exact (hb:False).elim)|(simp at hA;rcases hA with rfl|rfl<;>first|exact Flat.noRd hb|exact (hb:False).elim))⟩:St 54 (fun _=>False) W a30 w30 _ _)
 clear hf30 hs30
 clear h29
 refine gG h30<|gRn (oM 1 rfl<|oxt rfl<|oxt rfl<|.nl)<|gal ti_28 rfl fun b31=>gRn (oM 1 rfl<|.nl)<|gsw 0 ti_28 rfl rfl rfl<|nK k13<|gK fun _ k33=>sK fun _ k34=>gNl (aO 1 rfl) fun hl35=>gRn (ofB fl_28_0 rfl<|olB 0 ti_26 rfl rfl<|oneN 0 0 rfl<|oM 1 rfl<|oG (by decide) (r_move rfl rfl) rfl<|oG (by decide) (r_len (s:=l30) (n:=l30.l.length) sl_41 rfl rfl (fun w h=>(h.own 1 rfl)) rfl) rfl<|oG (by decide) (r_neqN (p:=l30.l.length) (q:=1) rfl rfl rfl) rfl<|opF (by decide) rfl<|.nl)<|nK k34<|gcF rfl (decide_eq_false (by omega))<|gS<|hK k33<|gK fun _ k36=>sK fun _ k37=>gRn (olw 4 ti_25 rfl rfl<|.nl)<|gC (fun _ _ h_=>xCl h_ bd_17 rfl (tvast_c code words locks regs _ (h_.sh.at 5 rfl) (h_.sh.at 6 rfl))) rfl<|?_;clear h30
 rintro _ _ w38 ⟨rfl,hs38⟩
 refine gWk hs38 rfl<|gU<|nK k37<|gF [1,4,27] rfl<|gcF rfl hv<|gS<|hK k36<|sK fun _ k39=>gRn (olw 4 ti_25 rfl rfl<|.nl)<|gC (fun _ _ h_=>xCl h_ bd_20 rfl (find_b code words locks regs _ (h_.sh.at 5 rfl) (h_.sh.at 6 rfl) hz)) rfl<|?_;clear hs38
 rintro _ _ w40 ⟨rfl,hs40⟩
 refine gWk hs40 rfl<|gU<|gRn (oM 1 rfl<|oxt rfl<|oxt rfl<|oM 1 rfl<|.nl)<|gsw 0 ti_28 rfl rfl rfl<|nK k39<|sK fun _ k42=>gRn (olw 4 ti_25 rfl rfl<|.nl)<|gC (fun _ _ h_=>xCl h_ bd_21 rfl (rob_b code words locks regs _ (h_.sh.at 5 rfl) (h_.sh.at 6 rfl) hz)) rfl<|?_;clear hs40
 rintro _ _ w43 ⟨rfl,hs43⟩
 refine gWk hs43 rfl<|gU<|gRn (oM 1 rfl<|oxt rfl<|oxt rfl<|.nl)<|gal ti_28 rfl fun b44=>gRn (oM 1 rfl<|.nl)<|gsw 0 ti_28 rfl rfl rfl<|nK k42<|gK fun _ k46=>sG (ofB fl_28_0 rfl<|olB 1 ti_26 rfl rfl<|oneI _ _ rfl<|oM 1 rfl<|oKs 3 (decide_eq_true hz) rfl rfl<|opT (decide_eq_true hz) rfl<|.nl)<|gcT rfl rfl<|sG (oM 1 rfl<|ont rfl<|oM 1 rfl<|.nl)<|gF [2] rfl<|gR<|uT<|fun a49 w49 h49=> ?_;clear hs43
 refine x_ret1 (fn:=Tryz.f4) (t:=2) rfl h49 rfl<|⟨?_,(h49.sh.sel [] rfl)⟩
 rfl
theorem topFree_k (code:Ls (Ls Ins))(words:Ls Int)(Lk R:Nat)(W:World)(hcode:code.At W)(hwords:words.At W)(hv:vastG (code.l.map (·.l)) words.l=false)(hok:OkPg (pgN code words Lk R))(hR:PgR (pgN code words Lk R)):
    Rets Tryz.prog 4 [.agg #[code.v,words.v, .int .i64 ((Lk:Nat):Int), .int .i64 ((R:Nat):Int)]] W (fun v w' =>v= .bool true∧Sh0 W w' []):=by
 have hz:checkG (pgOf code words ((Lk:Nat):Int) ((R:Nat):Int))=⟨0,0,0⟩:=checkG_ok hok
 refine gen Tryz.func4 Tryz.ntmps4 (Sh0.ext2 hcode hwords:Sh (fun _=>False) W W [.at_ code, .at_ words]) rfl fun a10 h10=>gG h10<|sK fun _ k11=>gbx rfl rfl fun b12=>gRn (oM 1 rfl<|.nl)<|nK k11<|sK fun _ k13=>gRn (oV (r_build (cs:= [.int .i64 9, .int .i64 0, .int .i64 0, .int .i64 0]) rfl rfl (by kernel_rfl)) rfl<|.nl)<|gE1 (fun _ _ h_=>x_lit (n:=1) (cs:= [.int .i64 9, .int .i64 0, .int .i64 0, .int .i64 0]) ([(⟨9,0,0,0⟩:Ins)]:List Ins) h_ sl_33 ti_32 rfl rfl rfl (by decide) rfl (by kernel_rfl) rfl (fun q hq w h=>Flat.inner _ _) (fun q hq b hb=>(Flat.on _ _ hb).elim) rfl rfl) rfl fun v14=>gRn (oV (r_build (cs:= [.int .i64 8, .int .i64 0, .int .i64 0, .int .i64 0]) rfl rfl (by kernel_rfl)) rfl<|.nl)<|gE1 (fun _ _ h_=>x_lit (n:=1) (cs:= [.int .i64 8, .int .i64 0, .int .i64 0, .int .i64 0]) ([(⟨8,0,0,0⟩:Ins)]:List Ins) h_ sl_33 ti_32 rfl rfl rfl (by decide) rfl (by kernel_rfl) rfl (fun q hq w h=>Flat.inner _ _) (fun q hq b hb=>(Flat.on _ _ hb).elim) rfl rfl) rfl fun v15=>fun a20 w20 h20=>wl_ex (x_lit (n:=2) (cs:= [v14,v15]) ([⟨v14⟩,⟨v15⟩]:List RV) h20 sl_22 ti_33 rfl rfl rfl (by decide) rfl (by obtain ⟨A21,n21,c21,(e21:v14=_)⟩:=((h20.sh.own 1 rfl)).form;rw [e21];obtain ⟨A19,n19,c19,(e19:v15=_)⟩:=((h20.sh.own 0 rfl)).form;rw [e19];kernel_rfl) rfl (fun _ _ _ _=>trivial) (fun q hq b hb=>(Flat.on _ _ hb).elim) rfl rfl) (wanted_none rfl _) ?_;clear h10
 rintro a22 w22 ⟨v22,h22⟩
 have h23:=h22.sel (L' := [_,_,_,_,_,_]) [0,2,1,3,4,5] rfl
 have h24:St 54 (fun _=>False) W a22 w22 _ _:=⟨h23.fr,(Sh.close (B:=matX (.own 32) 33 v22 [(⟨v14, [(⟨9,0,0,0⟩:Ins)]⟩:Ls Ins),(⟨v15, [(⟨8,0,0,0⟩:Ins)]⟩:Ls Ins)]) h23.sh).matDeep own_mat⟩
 clear h23
 clear h20
 refine gG h24<|gE1 (fun _ _ h_=>x_lit (n:=1) (cs:= [.int .i64 0]) ([0]:List Int) h_ sl_23 ti_3 rfl rfl rfl (by decide) rfl (by kernel_rfl) rfl (fun q hq w h=>Flat.inner _ _) (fun q hq b hb=>(Flat.on _ _ hb).elim) rfl rfl) rfl fun v25=>gRn (oV (r_buildS (cs:= [v22,v25, .int .i64 0, .int .i64 1]) rfl rfl (fun w h=>by obtain ⟨A27,n27,c27,(e27:v25=_)⟩:=((h.own 0 rfl)).form;rw [e27];obtain ⟨A26,n26,c26,(e26:v22=_)⟩:=((h.deep 1 rfl)).form;rw [e26];kernel_rfl)) rfl<|.nl)<|fun a29 w29 h29=> ?_;clear h24
 refine wl_ex (x_call h29 bd_20 rfl rfl rfl rfl rfl (findT (⟨v22, [(⟨v14, [(⟨9,0,0,0⟩:Ins)]⟩:Ls Ins),(⟨v15, [(⟨8,0,0,0⟩:Ins)]⟩:Ls Ins)]⟩:Ls (Ls Ins)) (⟨v25, [0]⟩:Ls Int) _ (h29.sh.deep 1 rfl) (h29.sh.own 0 rfl) rfl rfl)) (wanted_none rfl _) ?_
 rintro a30 w30 ⟨_,⟨l30,rfl,hll30,hs30⟩,hf30⟩
 have h30:=(⟨hf30,h29.sh.call hs30 (by intro A hA b hb;first|(simp at hA;done)|(simp at hA;subst hA;first|exact Flat.noRd hb|exact (hb:False).elim)|(simp at hA;rcases hA with rfl|rfl<;>first|exact Flat.noRd hb|exact (hb:False).elim))⟩:St 54 (fun _=>False) W a30 w30 _ _)
 clear hf30 hs30
 clear h29
 refine gG h30<|gRn (oM 1 rfl<|oxt rfl<|oxt rfl<|.nl)<|gal ti_28 rfl fun b31=>gRn (oM 1 rfl<|.nl)<|gsw 0 ti_28 rfl rfl rfl<|nK k13<|gK fun _ k33=>sK fun _ k34=>gNl (aO 1 rfl) fun hl35=>gRn (ofB fl_28_0 rfl<|olB 0 ti_26 rfl rfl<|oneN 0 0 rfl<|oM 1 rfl<|oG (by decide) (r_move rfl rfl) rfl<|oG (by decide) (r_len (s:=l30) (n:=l30.l.length) sl_41 rfl rfl (fun w h=>(h.own 1 rfl)) rfl) rfl<|oG (by decide) (r_neqN (p:=l30.l.length) (q:=1) rfl rfl rfl) rfl<|opF (by decide) rfl<|.nl)<|nK k34<|gcF rfl (decide_eq_false (by omega))<|gS<|hK k33<|gK fun _ k36=>sK fun _ k37=>gRn (olw 4 ti_25 rfl rfl<|.nl)<|gC (fun _ _ h_=>xCl h_ bd_17 rfl (tvast_c code words ((Lk:Nat):Int) ((R:Nat):Int) _ (h_.sh.at 5 rfl) (h_.sh.at 6 rfl))) rfl<|?_;clear h30
 rintro _ _ w38 ⟨rfl,hs38⟩
 refine gWk hs38 rfl<|gU<|nK k37<|gF [1,4,27] rfl<|gcF rfl hv<|gS<|hK k36<|sK fun _ k39=>gRn (olw 4 ti_25 rfl rfl<|.nl)<|fun a41 w41 h41=> ?_;clear hs38
 refine wl_ex (x_call h41 bd_20 rfl rfl rfl rfl rfl (find_k code words Lk R _ (h41.sh.at 5 rfl) (h41.sh.at 6 rfl) hok hR)) (wanted_none rfl _) ?_
 rintro a42 w42 ⟨_,⟨l42,ok42,rfl,hff42,hs42⟩,hf42⟩
 have h42:=(⟨hf42,h41.sh.call hs42 (by intro A hA b hb;first|(simp at hA;done)|(simp at hA;subst hA;first|exact Flat.noRd hb|exact (hb:False).elim)|(simp at hA;rcases hA with rfl|rfl<;>first|exact Flat.noRd hb|exact (hb:False).elim))⟩:St 54 (fun _=>False) W a42 w42 _ _)
 clear hf42 hs42
 clear h41
 refine gG h42<|gRn (oM 1 rfl<|oxt rfl<|oxt rfl<|oM 1 rfl<|.nl)<|gsw 1 ti_28 rfl rfl rfl<|nK k39<|sK fun _ k44=>gRn (olw 5 ti_25 rfl rfl<|.nl)<|gC (fun _ _ h_=>xCl h_ bd_21 rfl (rob_k code words Lk R _ (h_.sh.at 6 rfl) (h_.sh.at 7 rfl) hok hR)) rfl<|?_;clear h42
 rintro _ _ w45 ⟨rb45,rk45,rfl,hrob45,hs45⟩
 refine gWk hs45 rfl<|gU<|gRn (oM 1 rfl<|oxt rfl<|oxt rfl<|.nl)<|gal ti_28 rfl fun b46=>gRn (oM 1 rfl<|.nl)<|gsw 0 ti_28 rfl rfl rfl<|nK k44<|gK fun _ k48=>sK fun _ k49=>gRn (ofB fl_28_0 rfl<|olB 2 ti_26 rfl rfl<|oneI _ _ rfl<|oM 1 rfl<|.nl)<|?_;clear hs45
 rcases dsp ((if ok42=true then (0:Int) else 10)≠0) with ⟨hb50,hp50⟩|⟨hb50,hp50⟩
 ·skip
  refine gRn (oKs 3 hb50 rfl rfl<|opT hb50 rfl<|.nl)<|nK k49<|gcT rfl rfl<|sG (oM 1 rfl<|ont rfl<|oM 1 rfl<|.nl)<|gF [2] rfl<|gR<|uT<|fun a52 w52 h52=>x_ret1 (fn:=Tryz.f4) (t:=2) rfl h52 rfl<|⟨?_,(h52.sh.sel [] rfl)⟩
  have h9:rb45=false:=(hrob45.no (by cases h8:rk45 with|false=>rfl|true=>exact absurd (hff42.no (cd_no hp50)).1 (hrob45.yes h8).1)).2
  subst h9;rfl
 refine gRn (oG hb50 (r_fieldB (r:=0) fl_28_0 rfl rfl rfl) rfl<|oG hb50 (r_ldb (i:=0) ti_26 rfl rfl rfl rfl) rfl<|oG hb50 (r_neqI (p:=(if rk45=true then (0:Int) else 10)) (q:=0) rfl rfl rfl) rfl<|opF hb50 rfl<|.nl)<|nK k49<|gcd rfl (fun hb53 hp53=> ?_) fun hb53 hp53=> ?_
 ·skip
  refine sG (oM 1 rfl<|ont rfl<|oM 1 rfl<|.nl)<|gF [2] rfl<|gR<|uT<|fun a55 w55 h55=>x_ret1 (fn:=Tryz.f4) (t:=2) rfl h55 rfl<|⟨?_,(h55.sh.sel [] rfl)⟩
  have h9:rb45=false:=(hrob45.no (cd_no hp53)).2
  subst h9;rfl
 refine gS<|hK k48<|sK fun _ k56=>gNl (aO 1 rfl) fun hl57=>gRn (oM 1 rfl<|oln sl_41 (aO 1 rfl) rfl<|ogtN _ 0 rfl<|oM 1 rfl<|.nl)<|?_
 rcases dsp (0<l42.l.length) with ⟨hb58,hp58⟩|⟨hb58,hp58⟩
 ·skip
  refine gRn (oK hb58 rfl<|opT hb58 rfl<|oM 1 rfl<|.nl)<|nK k56<|gF [2] rfl<|gR<|fun a59 w59 h59=>x_ret1 (fn:=Tryz.f4) (t:=2) rfl h59 rfl<|⟨?_,(h59.sh.sel [] rfl)⟩
  rfl
 refine gRn (oG hb58 (r_move rfl rfl) rfl<|opF hb58 rfl<|oM 1 rfl<|.nl)<|nK k56<|gF [2] rfl<|gR<|fun a60 w60 h60=>x_ret1 (fn:=Tryz.f4) (t:=2) rfl h60 rfl<|⟨?_,(h60.sh.sel [] rfl)⟩
 have h9:rb45=true:=(hrob45.yes (cd_ok hp53)).2.2.2 (free_same hok (find_free hff42 (cd_ok hp50) (by assumption)))
 subst h9;rfl
theorem topFree_any (code:Ls (Ls Ins))(words:Ls Int)(locks regs:Int)(W:World)(hcode:code.At W)(hwords:words.At W)(hR:PgR (pgOf code words locks regs)):Rets Tryz.prog 4 [.agg #[code.v,words.v, .int .i64 locks, .int .i64 regs]] W (fun v w' =>v= .bool true∧Sh0 W w' []):=by
 cases hv:vastG (code.l.map (·.l)) words.l with
 |true=>exact topFree_v code words locks regs W hcode hwords hv
 |false=>
  by_cases hok:OkPg (pgOf code words locks regs)
  ·obtain ⟨Lk,rfl⟩:=Int.eq_ofNat_of_zero_le hok.locks.1
   obtain ⟨R,rfl⟩:=Int.eq_ofNat_of_zero_le (show 0≤regs by have:=hok.regs.1;have e:(pgOf code words (Lk:Int) regs).regs=regs:=rfl;omega)
   exact topFree_k code words Lk R W hcode hwords hv hok hR
  ·exact topFree_b code words locks regs W hcode hwords hv (fun h=>hok (checkG_code_pos.1 h))
end Go.Proofs.YtmjkobhkkjgplaaGreatDoor
namespace Go.Proofs.YtmjkobhkkjgplaaGreatDoor
open Go Go.ChangeShapes Go.WideShapes Go.ChangeAt Go.RowKit
set_option linter.unusedSimpArgs false
set_option linter.unusedVariables false
theorem wf64 {n:Int}(h:(Lit.int .i64 n).wf=true):R64 n:=by
 unfold Lit.wf at h
 simp only [Bool.and_eq_true,decide_eq_true_eq] at h
 have e1:IntKind.i64.min= -9223372036854775808:=by kernel_rfl
 have e2:IntKind.i64.max=9223372036854775807:=by kernel_rfl
 rw [e1,e2] at h
 unfold R64
 omega
theorem pr_fine {pr:PR}(h:pr.fine):PgR (pgOf (ofSl2 pr.code) (ofSl pr.words) pr.locks pr.regs):=by
 obtain ⟨h1,h2,_,_⟩:=h
 refine ⟨fun c hc i hi=> ?_,fun n hn=> ?_⟩
 ·obtain ⟨l,hl,rfl⟩:=List.mem_map.1 hc
  obtain ⟨s,hs,rfl⟩:=List.mem_map.1 hl
  obtain ⟨k,hk,rfl⟩:=List.mem_iff_getElem.1 hs
  have h3:=h1 k hk
  rw [nth_lt _ _ hk] at h3
  obtain ⟨q,hq,rfl⟩:=List.mem_iff_getElem.1 hi
  have h4:=h3 q hq
  have hq' :q<(pr.code.l[k]).l.length:=hq
  rw [nth_lt _ _ hq'] at h4
  exact ⟨wf64 h4.2.1,wf64 h4.2.2.1,wf64 h4.2.2.2⟩
 ·obtain ⟨k,hk,rfl⟩:=List.mem_iff_getElem.1 hn
  have hk' :k<pr.words.l.length:=hk
  have h3:=h2 k hk'
  rw [nth_lt _ _ hk'] at h3
  exact wf64 h3
theorem door_met (os:Os)(args:Array Value):laidMetH Tryz.prog Rows.topFreeRow.laid ((World.doorLaid Tryz.prog 24 os).forCall (fun _ _=>0) ⟨#[],args, []⟩).memory:=
 laidMetH_of_parts3 (fuel:=8) (laidMet_of_run' 8 (by kernel_rfl) (by kernel_rfl)) (by kernel_rfl) (by kernel_rfl)
set_option maxRecDepth 100000 in
theorem topFree_lifted (os:Os)(started:os.Started)(H:Type)(enc:TypeId×Value→H):
  ReturnsInHanded {} Tryz.checked os 4 .any (fun w args=>(Rows.topFreeSpec.pre enc Tryz.prog Tryz.f4 [] false w args∧laidMetH Tryz.prog Rows.topFreeRow.laid w)∧sizedMet enc Tryz.prog Tryz.f4 (OpenSpec.ofChange Rows.topFreeSpec) false w args) (Rows.topFreeSpec.post enc Tryz.prog Tryz.f4 false true false false):=by
 refine returnsInHanded_of_change_and (C:=Tryz.checked) (X:=fun w _=>laidMetH Tryz.prog Rows.topFreeRow.laid w) (fun _ _ _ hh h=>h.of_heap hh) own started (by kernel_rfl) Tryz.func4
  (ChangeSpec.witness_shaped (enc:=enc) (C:=Tryz.checked) (os:=os) (X:=fun w _=>laidMetH Tryz.prog Rows.topFreeRow.laid w) false (World.doorLaid Tryz.prog 24 os) #[.agg #[.slice none 0 0, .slice none 0 0, .int .i64 0, .int .i64 0]] 8 rfl (World.shaped_of_RefB (by kernel_rfl) (by kernel_rfl)) (by kernel_rfl) (by kernel_rfl) (by kernel_rfl) (door_met os _)) ?_
 intro W base args ds gs before hval0 hW _ hsz0 _ _
 have hsz:(DataW.weightsEach Tryz.prog (Tryz.f4.params.toList++Rows.topFreeSpec.plain.varTypes Tryz.prog) (ds++gs)).all (· ≤reachBytes)=true:=hsz0
 have hval:∀(j:Nat) t v,Tryz.f4.params[j]? =some t→args[j]? =some v→Value.okWide Tryz.prog W .any base t v:=hval0
 have hW' :=hW
 obtain ⟨p,q,hA0,hV,rfl,hfz,hnd⟩:=hW
 have hA:DataW.TrodAll enc Tryz.prog W 0 (fun _=>true) true Tryz.f4.params.toList args.toList ds p:=hA0
 rw [Tryz.params4] at hA hval hsz
 obtain ⟨v0,d0,rfl,rfl,h0⟩:=trodAll_one hA
 obtain ⟨rfl,rfl⟩:=trodVars_none hV
 clear hA0 hval0
 simp only [List.append_nil] at hW'
 have hw0:∀n∈DataW.weights Tryz.prog 25 d0,n≤reachBytes:=by
  intro n hn
  have:=List.all_eq_true.1 hsz n (by simp [DataW.weightsEach,hn])
  simpa using this
 obtain ⟨fs,hfs,hpf⟩:=ty_pr
 obtain ⟨pr,rfl,hAt,hfin⟩:=open_PR hfs hpf (by kernel_rfl) (hval 0 25 v0 rfl rfl) h0 hw0
 have hlt:∀x∈p,x.block<W.heap.size:=fun x hx=>by simpa using hW'.lt x hx
 have hcall:=topFree_any (ofSl2 pr.code) (ofSl pr.words) pr.locks pr.regs W (ofSl2_at hAt.code) (ofSl_at hAt.words) (pr_fine hfin)
 refine Calls.mono hcall fun e W' ⟨v',he,hv',hg0⟩=> ?_
 have hg:=hg0.chg.to_below
 subst he
 subst hv'
 exact ⟨_,rfl,_,_,_, [],p, [],hW',trodAll_mk1 (shut_bool Tryz.underlying4 true),trodAll_mk1 (Below.trod laidOut (by kernel_rfl) (of_decide_eq_true (by kernel_rfl)) h0 hg hlt),rfl,hg.frame _,fun h=>by cases h⟩
theorem topFree_said :Rows.TopFreeSaid:=
 OpenClaim.holds_of_wide 4 Tryz.f4 rfl rfl rfl rfl rfl rfl rfl ⟨rfl,rfl,rfl,rfl,rfl⟩ rfl rfl rfl rfl rfl (by kernel_rfl) Tryz.func4 (by kernel_rfl)
  (of_decide_eq_true (by kernel_rfl)) (by unfold Func.isWrapper;first|(rw [if_pos (by decide+kernel)];kernel_rfl)|(rw [if_neg (by decide+kernel)];exact ⟨rfl,rfl⟩))
  (fun os started H enc _=>topFree_lifted os started H enc)
theorem topFree_holds :Rows.TopFreeCardSaid:=
 Claim7.holds_tied_plain_at .later [] [.data, .data, .data] true (true, "7156a00dd565ccc5b243c7c66c0e1b87025c3a7a962659fa9eea236c69567f4f") false
  topFree_said (fun _ h=>by cases h) (by kernel_rfl) (fun _ h=>by cases h) topFree_row_tie rfl ⟨rfl,rfl⟩ (by kernel_rfl) rfl
  (fun f fn hf hfn=>by
   obtain rfl:f=4:=Option.some.inj ((show Tryz.prog.funcNamed Rows.topFreeRow.func=some 4 by kernel_rfl).symm.trans hf)|>.symm
   obtain rfl:fn=Tryz.f4:=(Option.some.inj (Tryz.func4.symm.trans hfn)).symm
   exact ⟨by kernel_rfl,fun j t ht=>by
    rw [Tryz.params4] at ht
    have h3:t=25:=by
     rcases j with _|j
     ·simpa using ht.symm
     ·simp at ht
    subst h3
    exact (show Tryz.prog.wantsStandIn 25=false by kernel_rfl)⟩)
  (by kernel_rfl)
end Go.Proofs.YtmjkobhkkjgplaaGreatDoor
