/- What a move of the program does, over any memory. -/
import Derived.Test.YtmjkobhkkjgplaaGreatDoorX62
import Derived.Test.YtmjkobhkkjgplaaGreatDoorX18
namespace Go.Proofs.YtmjkobhkkjgplaaGreatDoor
open Go.RowKit
set_option linter.unusedSimpArgs false
set_option linter.unusedVariables false
set_option maxRecDepth 100000
set_option maxHeartbeats 20000000
theorem qset_pc {l tl:List ThQ} {n:Nat} {p q:Int} {r:Value} (h:n<l.length) (e:tl=l.set n ⟨p,r⟩):tl.set n { nth tl n with pc:=q } =l.set n ⟨q,r⟩:=by
 subst e
 rw [nth_set,if_pos ⟨rfl,h⟩,List.set_set]
theorem qset_0 {l:List ThQ} {n:Nat} {q:Int} {r:Value} (hr:(nth l n).rv=r):l.set n { nth l n with pc:=q } =l.set n ⟨q,r⟩:=by
 subst hr;rfl
theorem qset_n {l:List ThQ} {n:Nat} {r:Value} (hr:(nth l n).rv=r) (hn:n<l.length):l=l.set n ⟨(nth l n).pc,r⟩:=by
 subst hr
 refine ext_nth _ _ (by simp) fun i hi=> ?_
 rw [nth_set]
 split
 ·rename_i hh;rw [←hh.1]
 ·rfl
theorem list_set_nth {α:Type} [Inhabited α] (l:List α) (n:Nat):l.set n (nth l n)=l:=by
 rcases Nat.lt_or_ge n l.length with h|h
 ·rw [nth_lt l n h];exact List.set_getElem_self h
 ·exact List.set_eq_of_length_le h
theorem swap_eq {M:MemS} {wd what pc:Int} {n:Nat} {regs prints:List Int} {fell:Bool} {words words' owner owner' :Ls Int} {q q' :M.σ} (h:SwapP M wd what words owner q words' owner' q'):
  M.qs q' =(M.qs q).set n (nth (M.qs q) n)∧(⟨pc,regs,nth (M.qs q) n,words'.l,owner'.l,prints,fell⟩:TS)=⟨pc,regs,nth (M.qs q) n,words.l.set wd.toNat what,owner.l,prints,fell⟩:=by
 obtain ⟨h1,h2,h3⟩:=h
 rw [h1,h2,h3,list_set_nth]
 exact ⟨rfl,rfl⟩
section
variable {m:Int} {n:Nat} {i:Ins} {x:TS}
theorem pexec_18c (h:i.op=18) (h1:¬nth x.owner i.a.toNat≠n) (h2:x.holds i.a=false):execT m n i x=x.store m ⟨true,i.a,0⟩:=by
 have h1' :nth x.owner i.a.toNat=n:=Decidable.not_not.1 h1
 simp [execT,h,h1',h2]
theorem pexec_18f (h:i.op=18) (h1:nth x.owner i.a.toNat≠n∨x.holds i.a=true):execT m n i x= { x with fell:=true } :=by
 by_cases h2:nth x.owner i.a.toNat≠n
 ·exact execT_18a h h2
 ·have h3:=h1.resolve_left h2
  have h1' :nth x.owner i.a.toNat=n:=Decidable.not_not.1 h2
  simp [execT,h,h1',h3]
theorem pexec_no (h:¬i.op=8∧¬i.op=9∧¬i.op=10∧¬i.op=11∧¬i.op=13∧¬i.op=17∧¬i.op=18) (h2:¬i.op=1∧¬i.op=2∧¬i.op=3∧¬i.op=4∧¬i.op=5∧¬i.op=6∧¬i.op=7∧¬i.op=14∧¬i.op=15∧¬i.op=16):execT m n i x=x:=
 execT_no (by omega)
theorem hab_of {owner:List Int} {nw:Nat} (h:ableL owner nw i=true):((i.op=9∨i.op=11∨i.op=18)→nw<3)∧(i.op=13→nw=0)∧True:=by
 unfold ableL at h
 refine ⟨fun e=> ?_,fun e=> ?_,trivial⟩
 ·rw [if_pos e] at h;exact of_decide_eq_true h
 ·rw [if_neg (by omega),if_pos (by omega)] at h;exact of_decide_eq_true h
theorem pdoT_k {c:List Ins} {k:Nat} (hk:0<k):doT m n c k x= { x.done (nth x.wait (k-1)) with wait:=x.wait.eraseIdx (k-1) } :=by unfold doT;rw [if_pos hk]
theorem able_of {c:List Ins} {k:Nat} (h:mvOK m c x k=true) (hk:k=0):x.pc<(c.length:Int)∧ableL x.owner x.wait.length (nextIns c x.pc)=true:=by
 unfold mvOK at h
 rw [if_pos hk] at h
 unfold ableV at h
 rw [Bool.and_eq_true] at h
 exact ⟨of_decide_eq_true h.1,h.2⟩
end
def MPost (K:Nat→Prop) (W:World) (ST TH INT PL PT:Nat) (M:MemS) (g gp n:Nat) (pc:List Value) (thr:Ls ThQ) (q:M.σ) (y:TS) (code:Ls (Ls Ins)) (w' :World):Prop:=
 ∃(regs' words' owner' prints' :Ls Int) (q' :M.σ) (wt:List Wt) (pc' :Int) (fell' :Bool),M.qs q' =(M.qs q).set n wt∧(⟨pc',regs'.l,wt,words'.l,owner'.l,prints'.l,fell'⟩:TS)=y∧
  Sh K W w' [.blk g ST [.iface M.T (.pointer (some M.u)), .pointer (some ⟨gp,0,none⟩),thr.v,prints'.v, .bool fell'], .rblk gp PT pc, .own TH (⟨thr.v,thr.l.set n ⟨pc',regs'.v⟩⟩:Ls ThQ), .own INT regs', .own INT prints', .blk M.g0 PL [words'.v,owner'.v], .own INT words', .own INT owner',M.X q', .at_ code]
theorem pis_c (K:Nat→Prop) (M:MemS) (g gc:Nat) (n:Int) (words owner:Ls Int) (q:M.σ) (pp tv pv:Value) (fell:Bool) (W:World) (hM:MemI Tryz.prog 182 3 M) (hS:Sh K W W [.blk gc 85 [.pointer (some ⟨g,0,none⟩)], .blk g 173 [.iface M.T (.pointer (some M.u)),pp,tv,pv, .bool fell], .blk M.g0 182 [words.v,owner.v], .own 3 words, .own 3 owner,M.X q]):
    Rets Tryz.prog 163 [.int .i64 n, .pointer (some ⟨gc,0,none⟩)] W (fun v w' =>v= .bool (decide (0≤n∧n<(words.l.length:Int)))∧Sh K W w' [.blk gc 85 [.pointer (some ⟨g,0,none⟩)], .blk g 173 [.iface M.T (.pointer (some M.u)),pp,tv,pv, .bool (fell|| !decide (0≤n∧n<(words.l.length:Int)))], .blk M.g0 182 [words.v,owner.v], .own 3 words, .own 3 owner,M.X q]):=by
 refine gen Tryz.func163 Tryz.ntmps163 hS rfl fun a10 h10=>gG h10<|sG (oM 1 rfl<|.nl)<|sK fun _ k12=>gRn (oM 1 rfl<|ogeI _ _ rfl<|oM 1 rfl<|.nl)<|?_;clear h10
 rcases dsp (0≤n) with ⟨hb13,hp13⟩|⟨hb13,hp13⟩
 ·skip
  refine gRn (oG hb13 (r_move rfl rfl) rfl<|oG hb13 (r_ldb (i:=0) ti_85 rfl rfl rfl rfl) rfl<|oG hb13 (r_nil rfl rfl) rfl<|oG hb13 (r_fieldB (r:=0) fl_173_0 rfl rfl rfl) rfl<|oG hb13 (r_ldb (i:=1) ti_97 rfl rfl rfl rfl) rfl<|.nl)<|fun a14 w14 h14=>wl_ex (x_inv2 h14 rfl rfl rfl rfl rfl (hM.base _ words owner q ⟨h14.sh.blk 2 rfl,h14.sh.own 3 rfl,h14.sh.own 4 rfl,h14.sh.ok _ (List.mem_of_getElem? (i:=5) rfl)⟩)) (wanted_yes h14.fr rfl rfl rfl rfl hb13) ?_
  rintro a15 w15 ⟨_,⟨rfl,hs15⟩,hf15⟩
  have h15:St 32 K W a15 w15 _ _:=⟨hf15,h14.sh.call0 hs15⟩
  clear hf15 hs15
  clear h14
  refine gG h15<|gNl (aO 3 rfl) fun hl16=>gRn (oG hb13 (r_nil rfl rfl) rfl<|oG hb13 (r_fieldB (r:=0) fl_182_0 rfl rfl rfl) rfl<|oG hb13 (r_ldb (i:=2) ti_23 rfl rfl rfl rfl) rfl<|oG hb13 (r_len (s:=words) (n:=words.l.length) sl_23 rfl rfl (fun w h=>(h.own 3 rfl)) rfl) rfl<|oG hb13 (r_lssI (p:=n) (q:=((words.l.length:Nat):Int)) rfl rfl rfl) rfl<|opT hb13 rfl<|oM 1 rfl<|.nl)<|nK k12<|gK fun _ k17=>fun a18 w18 h18=>x_tail 11 [] (by kernel_rfl) (by kernel_rfl) h18 fun _ z19=>qQ h18.fr<|qRn (olB 0 ti_85 rfl rfl<|olB 0 ti_85 rfl rfl<|onfl 1 fl_173_4 ti_4 rfl rfl<|oM 1 rfl<|.nl)<|?_;clear h15
  rcases Bool.eq_false_or_eq_true fell with hb20|hb20
  ·skip
   refine qRn (oKs 2 hb20 rfl rfl<|opT hb20 rfl<|onf fl_173_4 rfl<|.nl)<|qN z19<|gst (v:= .bool true) 1 ti_4 rfl rfl rfl<|nK k17<|gF [4] rfl<|sG (oM 2 rfl<|.nl)<|gR<|fun a24 w24 h24=> ?_;clear h18
   try simp only [Exit.then,Exit.inBlock]
   refine x_ret1 (fn:=Tryz.f163) (t:=3) rfl h24 rfl ?_
   have e9:decide (n<((words.l.length:Nat):Int))=decide (0≤n∧n<(words.l.length:Int)):=by first|exact (decide_eq_true (by omega)).symm|exact (decide_eq_false (by omega)).symm|exact decide_eq_decide.2 ⟨fun h9=>by omega,fun h9=>by omega⟩
   have e7:(true)=(fell|| !decide (0≤n∧n<(words.l.length:Int))):=by rw [←e9];first|(rw [show fell=true by assumption];rfl)|(rw [show fell=false by assumption];rfl)|(rw [show fell=false by assumption];simp;omega)
   have e8:=h24.sh
   rw [e7] at e8
   exact ⟨by rw [e9],e8⟩
  refine qRn (oG hb20 (r_move rfl rfl) rfl<|oG hb20 (r_not rfl rfl) rfl<|opF hb20 rfl<|onf fl_173_4 rfl<|.nl)<|qN z19<|gst 1 ti_4 rfl rfl rfl<|nK k17<|gF [4] rfl<|sG (oM 2 rfl<|.nl)<|gR<|fun a29 w29 h29=> ?_;clear h18
  try simp only [Exit.then,Exit.inBlock]
  refine x_ret1 (fn:=Tryz.f163) (t:=3) rfl h29 rfl ?_
  have e9:decide (n<((words.l.length:Nat):Int))=decide (0≤n∧n<(words.l.length:Int)):=by first|exact (decide_eq_true (by omega)).symm|exact (decide_eq_false (by omega)).symm|exact decide_eq_decide.2 ⟨fun h9=>by omega,fun h9=>by omega⟩
  have e7:(!(decide (n<((words.l.length:Nat):Int))))=(fell|| !decide (0≤n∧n<(words.l.length:Int))):=by rw [←e9];first|(rw [show fell=true by assumption];rfl)|(rw [show fell=false by assumption];rfl)|(rw [show fell=false by assumption];simp;omega)
  have e8:=h29.sh
  rw [e7] at e8
  exact ⟨by rw [e9],e8⟩
 refine gRn (oKs 11 hb13 rfl rfl<|opF hb13 rfl<|oM 1 rfl<|.nl)<|nK k12<|gK fun _ k30=>fun a31 w31 h31=>x_tail 11 [] (by kernel_rfl) (by kernel_rfl) h31 fun _ z32=>qQ h31.fr<|qRn (olB 0 ti_85 rfl rfl<|olB 0 ti_85 rfl rfl<|onfl 1 fl_173_4 ti_4 rfl rfl<|oM 1 rfl<|.nl)<|?_
 rcases Bool.eq_false_or_eq_true fell with hb33|hb33
 ·skip
  refine qRn (oKs 2 hb33 rfl rfl<|opT hb33 rfl<|onf fl_173_4 rfl<|.nl)<|qN z32<|gst (v:= .bool true) 1 ti_4 rfl rfl rfl<|nK k30<|gF [4] rfl<|sG (oM 2 rfl<|.nl)<|gR<|fun a37 w37 h37=> ?_;clear h31
  try simp only [Exit.then,Exit.inBlock]
  refine x_ret1 (fn:=Tryz.f163) (t:=3) rfl h37 rfl ?_
  have e9:false=decide (0≤n∧n<(words.l.length:Int)):=by first|exact (decide_eq_true (by omega)).symm|exact (decide_eq_false (by omega)).symm|exact decide_eq_decide.2 ⟨fun h9=>by omega,fun h9=>by omega⟩
  have e7:(true)=(fell|| !decide (0≤n∧n<(words.l.length:Int))):=by rw [←e9];first|(rw [show fell=true by assumption];rfl)|(rw [show fell=false by assumption];rfl)|(rw [show fell=false by assumption];simp;omega)
  have e8:=h37.sh
  rw [e7] at e8
  exact ⟨by rw [e9],e8⟩
 refine qRn (oG hb33 (r_move rfl rfl) rfl<|oG hb33 (r_not rfl rfl) rfl<|opF hb33 rfl<|onf fl_173_4 rfl<|.nl)<|qN z32<|gst (v:= .bool true) 1 ti_4 rfl rfl rfl<|nK k30<|gF [4] rfl<|sG (oM 2 rfl<|.nl)<|gR<|fun a42 w42 h42=> ?_;clear h31
 try simp only [Exit.then,Exit.inBlock]
 refine x_ret1 (fn:=Tryz.f163) (t:=3) rfl h42 rfl ?_
 have e9:false=decide (0≤n∧n<(words.l.length:Int)):=by first|exact (decide_eq_true (by omega)).symm|exact (decide_eq_false (by omega)).symm|exact decide_eq_decide.2 ⟨fun h9=>by omega,fun h9=>by omega⟩
 have e7:(true)=(fell|| !decide (0≤n∧n<(words.l.length:Int))):=by rw [←e9];first|(rw [show fell=true by assumption];rfl)|(rw [show fell=false by assumption];rfl)|(rw [show fell=false by assumption];simp;omega)
 have e8:=h42.sh
 rw [e7] at e8
 exact ⟨by rw [e9],e8⟩
theorem pmem_c (K:Nat→Prop) (M:MemS) (g gp:Nat) (code:Ls (Ls Ins)) (thr:Ls ThQ) (regs prints words owner:Ls Int) (q:M.σ) (pw:Value) (locks nregs:Int) (fell:Bool) (n:Nat) (ins:Ins) (W:World) (hM:MemI Tryz.prog 182 3 M) (hS:Sh K W W [.blk g 173 [.iface M.T (.pointer (some M.u)), .pointer (some ⟨gp,0,none⟩),thr.v,prints.v, .bool fell], .rblk gp 25 [code.v,pw, .int .i64 locks, .int .i64 nregs], .own 189 thr, .own 3 regs, .own 3 prints, .blk M.g0 182 [words.v,owner.v], .own 3 words, .own 3 owner,M.X q, .at_ code]) (ht:n<thr.l.length) (htn:n≤1000) (hrv:(nth thr.l n).rv=regs.v) (hqn:n<(M.qs q).length) (hwl:(nth (M.qs q) n).length≤3) (hwh0:∀x∈nth (M.qs q) n,x.lock=true→x.what=0) (hge:∀v∈owner.l,-1≤v) (hR:InsR regs.l.length words.l.length owner.l.length ins) (hno:¬ins.op=1∧¬ins.op=2∧¬ins.op=3∧¬ins.op=4∧¬ins.op=5∧¬ins.op=6∧¬ins.op=7∧¬ins.op=14∧¬ins.op=15∧¬ins.op=16) (hab:((ins.op=9∨ins.op=11∨ins.op=18)→(nth (M.qs q) n).length<3)∧(ins.op=13→(nth (M.qs q) n).length=0)∧True):
    Rets Tryz.prog 146 [.pointer (some ⟨g,0,none⟩), .int .i64 ((n:Nat):Int), .agg #[.int .i64 ins.op, .int .i64 ins.a, .int .i64 ins.b, .int .i64 ins.c]] W (fun v w' =>v= .tuple #[]∧MPost K W 173 189 3 182 25 M g gp n [code.v,pw, .int .i64 locks, .int .i64 nregs] thr q (execT M.m n ins (⟨(nth thr.l n).pc,regs.l,nth (M.qs q) n,words.l,owner.l,prints.l,fell⟩:TS)) code w'):=by
 refine gen Tryz.func146 Tryz.ntmps146 hS rfl fun a10 h10=>gG h10<|sK fun _ k11=>gbx rfl rfl fun b12=>gbx rfl rfl fun b13=>nK k11<|sK fun _ k14=>gNl (aO 4 rfl) fun hl15=>gRn (olB 1 ti_85 rfl rfl<|onfl 2 fl_173_2 ti_171 rfl rfl<|oM 1 rfl<|oxN sl_171 ti_189 (aO 4 rfl) _ om9 rfl<|ofE fl_189_1 rfl<|oV (Rn.same (r_lde (s:=thr) (i:=n) (v:=((nth thr.l n).rv)) ti_23 rfl rfl rfl (fun w h=>(h.own 4 rfl)) (show n<thr.l.length from om9) (Nat.le_of_ble_eq_true rfl) rfl) hrv) rfl<|oM 1 rfl<|.nl)<|nK k14<|sG (oV (r_makeFunc rfl rfl rfl) rfl<|oM 1 rfl<|.nl)<|sG (ofB fl_32_0 rfl<|olB 0 ti_3 rfl rfl<|.nl)<|gB<|sG (oeqI _ _ rfl<|oM 1 rfl<|.nl)<|?_;clear h10
 refine gcd rfl (fun hb19 hp19=> ?_) fun hb19 hp19=> ?_
 ·skip
  have q9:=hR.o8 (by omega)
  intro a20 w20 h20
  refine x_tail 12 [] (by kernel_rfl) (by kernel_rfl) h20 fun _ z21=>qQ h20.fr<|qRn (oM 1 rfl<|ofB fl_32_1 rfl<|olB 0 ti_3 rfl rfl<|olB 1 ti_85 rfl rfl<|onfl 2 fl_173_0 ti_97 rfl rfl<|oM 1 rfl<|ofB fl_32_2 rfl<|olB 0 ti_3 rfl rfl<|.nl)<|fun _ hq=>wq_inv hq rfl rfl rfl (wanted_none rfl _) rfl rfl (fun w h=>(hM.load _ words owner q n ins.b ⟨h.blk 7 rfl,h.own 8 rfl,h.own 9 rfl,h.ok _ (List.mem_of_getElem? (i:=10) rfl)⟩ hqn hwl (by omega)))<|?_
  have hl22:regs.l.length≤140737488355328:=(h20.sh.own 5 rfl).len
  refine qRn (oxI sl_23 ti_3 (aO 5 rfl) om9 rfl<|.nl)<|qN z21<|gte 5 (findsL (nth (M.qs q) n) words.l ins.b:Int) ti_3 om9 rfl rfl<|nN<|fun a24 w24 h24=> ?_;clear h20
  try simp only [Exit.then,Exit.inBlock,if_true]
  refine x_end0 (fn:=Tryz.f146) rfl h24 ?_
  have hz:=(h24.sh.sel (L' := [_,_,_,_,_,_,_,_,_,_]) [2,3,4,5,6,7,8,9,10,11] rfl)
  refine ⟨rfl,⟨regs.v,regs.l.set ins.a.toNat (findsL (nth (M.qs q) n) words.l ins.b)⟩,⟨words.v,words.l⟩,⟨owner.v,owner.l⟩,⟨prints.v,prints.l⟩,q,(nth (M.qs q) n),(nth thr.l n).pc,fell,(list_set_nth _ _).symm, ?_, ?_⟩
  · (refine Eq.trans ?_ (execT_8 (by assumption)).symm;rfl)
  · rw [←qset_n hrv ht];exact hz
 refine sG (oeqI _ _ rfl<|oM 1 rfl<|.nl)<|gcd rfl (fun hb26 hp26=> ?_) fun hb26 hp26=> ?_
 ·skip
  have q9:=hR.o9 (by omega)
  have hw0:=hab.1 (by omega)
  refine gNl (aO 5 rfl) fun hl27=>rT 14 [] (by kernel_rfl) (by kernel_rfl) (olB 1 ti_85 rfl rfl<|onfl 2 fl_173_0 ti_97 rfl rfl<|oM 1 rfl<|ofB fl_32_1 rfl<|olB 0 ti_3 rfl rfl<|oM 1 rfl<|ofB fl_32_2 rfl<|olB 0 ti_3 rfl rfl<|oxI sl_23 ti_3 (aO 5 rfl) om9 rfl<|olI ti_3 (aO 5 rfl) om9 rfl<|oV (r_nilckI rfl rfl) rfl<|oM 1 rfl<|.nl)<|gO [7,8,9,10,0,1,2,3,4,5,6,11] rfl<|fun a33 w33 h33=> ?_
  have hp32:=h33.sh.passL (Lp:= [_,_,_,_])
  refine wl_ex (x_inv2 h33 rfl rfl rfl rfl rfl (hM.store _ _ words owner q n ins.a (nth regs.l ins.b.toNat) hp32 hqn (by omega) (by omega))) (wanted_none rfl _) ?_
  rintro a34 w34 ⟨_,⟨rfl,words34,owner34,q34,hst34,hs34⟩,hf34⟩
  change Sh _ _ _ [.blk M.g0 182 [words34.v,owner34.v], .own 3 words34, .own 3 owner34,M.X q34] at hs34
  have h34:St 193 K W a34 w34 _ [_,_,_,_,_,_,_,_,_,_,_,_]:=⟨hf34,h33.sh.backL (Lp:= [_,_,_,_]) hs34 (by intro A hA b hb;simp only [List.mem_cons,List.not_mem_nil,or_false] at hA;rcases hA with rfl|rfl|rfl|rfl<;>first|exact (hb:False).elim|exact Flat.noRd hb|exact .inl ⟨_,List.mem_cons_self .., .inr hb⟩|exact rdX hM hb|exact .inl ⟨_,by simp, .inr hb⟩)⟩
  clear hf34 hs34
  clear h33
  refine gG h34<|nN<|fun a35 w35 h35=> ?_;clear h34
  try simp only [Exit.then,Exit.inBlock,if_true]
  refine x_end0 (fn:=Tryz.f146) rfl h35 ?_
  have hz:=(h35.sh.sel (L' := [_,_,_,_,_,_,_,_,_,_]) [6,7,8,9,10,0,1,2,3,11] rfl)
  obtain ⟨wt,hwt1,hwt2⟩:=hst34
  refine ⟨rfl,⟨regs.v,regs.l⟩,⟨words34.v,words34.l⟩,⟨owner34.v,owner34.l⟩,⟨prints.v,prints.l⟩,q34,wt,(nth thr.l n).pc,fell,hwt1, ?_, ?_⟩
  · exact Eq.trans (hwt2 _ _ _ _) (execT_9 (by assumption)).symm
  · rw [←qset_n hrv ht];exact hz
 refine sG (oeqI _ _ rfl<|oM 1 rfl<|.nl)<|gcd rfl (fun hb37 hp37=> ?_) fun hb37 hp37=> ?_
 ·skip
  have q9:=hR.o10 (by omega)
  refine sK fun _ k38=>gNl (aO 5 rfl) fun hl39=>gRn (oM 2 rfl<|ofB fl_32_2 rfl<|olB 0 ti_3 rfl rfl<|oxI sl_23 ti_3 (aO 5 rfl) om9 rfl<|olI ti_3 (aO 5 rfl) om9 rfl<|.nl)<|gO [1,2,7,8,9,10,0,3,4,5,6,11] rfl<|fun a45 w45 h45=> ?_
  have hp44:=h45.sh.passL (Lp:= [_,_,_,_,_,_])
  refine wl_ex (x_call h45 bd_163 rfl rfl rfl rfl rfl (pis_c _ M g b12 (nth regs.l ins.b.toNat) words owner q _ _ _ _ _ hM hp44)) (wanted_none rfl _) ?_
  rintro a46 w46 ⟨_,⟨rfl,hs46⟩,hf46⟩
  have h46:St 193 K W a46 w46 _ [_,_,_,_,_,_,_,_,_,_,_,_]:=⟨hf46,h45.sh.backL (Lp:= [_,_,_,_,_,_]) hs46 (by intro A hA b hb;simp only [List.mem_cons,List.not_mem_nil,or_false] at hA;rcases hA with rfl|rfl|rfl|rfl|rfl|rfl<;>first|exact (hb:False).elim|exact Flat.noRd hb|exact .inl ⟨_,List.mem_cons_self .., .inr hb⟩|exact rdX hM hb|exact .inl ⟨_,by simp, .inr hb⟩)⟩
  clear hf46 hs46
  clear h45
  refine gG h46<|nK k38<|gF [1,3,5,6,59] rfl<|?_;clear h46
  refine gcd rfl (fun hb47 hp47=> ?_) fun hb47 hp47=> ?_
  ·skip
   intro a48 w48 h48
   refine x_tail 17 [] (by kernel_rfl) (by kernel_rfl) h48 fun _ z49=>qQ h48.fr<|qRn (oM 1 rfl<|ofB fl_32_1 rfl<|olB 6 ti_3 rfl rfl<|olB 0 ti_85 rfl rfl<|onfl 1 fl_173_0 ti_97 rfl rfl<|oM 2 rfl<|ofB fl_32_2 rfl<|olB 6 ti_3 rfl rfl<|oxI sl_23 ti_3 (aO 9 rfl) om9 rfl<|olI ti_3 (aO 9 rfl) om9 rfl<|oV (r_nilckI rfl rfl) rfl<|oM 1 rfl<|.nl)<|fun _ hq=>wq_inv hq rfl rfl rfl (wanted_none rfl _) rfl rfl (fun w h=>(hM.load _ words owner q n (nth regs.l ins.b.toNat) ⟨h.blk 2 rfl,h.own 3 rfl,h.own 4 rfl,h.ok _ (List.mem_of_getElem? (i:=5) rfl)⟩ hqn hwl (by omega)))<|qRn (oxI sl_23 ti_3 (aO 9 rfl) om9 rfl<|.nl)<|qN z49<|gte 9 (findsL (nth (M.qs q) n) words.l (nth regs.l ins.b.toNat):Int) ti_3 om9 rfl rfl<|nN<|fun a51 w51 h51=> ?_;clear h48
   try simp only [Exit.then,Exit.inBlock,if_true]
   refine x_end0 (fn:=Tryz.f146) rfl h51 ?_
   have hf9:(fell|| !decide (0≤nth regs.l ins.b.toNat∧nth regs.l ins.b.toNat<(words.l.length:Int)))=fell:=or_f hb47
   have hz:=(h51.sh.sel (L' := [_,_,_,_,_,_,_,_,_,_]) [1,7,8,9,10,2,3,4,5,11] rfl)
   rw [hf9] at hz
   refine ⟨rfl,⟨regs.v,regs.l.set ins.a.toNat (findsL (nth (M.qs q) n) words.l (nth regs.l ins.b.toNat))⟩,⟨words.v,words.l⟩,⟨owner.v,owner.l⟩,⟨prints.v,prints.l⟩,q,(nth (M.qs q) n),(nth thr.l n).pc,fell,(list_set_nth _ _).symm, ?_, ?_⟩
   · first|(refine Eq.trans ?_ (execT_10t (by assumption) (by assumption)).symm;rfl)|(refine Eq.trans ?_ (execT_10f (by assumption) (by assumption)).symm;rfl)
   · rw [←qset_n hrv ht];exact hz
  refine gS<|fun a52 w52 h52=> ?_
  try simp only [Exit.then,Exit.inBlock,if_true]
  refine x_end0 (fn:=Tryz.f146) rfl h52 ?_
  have hf9:(fell|| !decide (0≤nth regs.l ins.b.toNat∧nth regs.l ins.b.toNat<(words.l.length:Int)))=true:=or_t hb47
  have hz:=(h52.sh.sel (L' := [_,_,_,_,_,_,_,_,_,_]) [1,7,8,9,10,2,3,4,5,11] rfl)
  rw [hf9] at hz
  refine ⟨rfl,⟨regs.v,regs.l⟩,⟨words.v,words.l⟩,⟨owner.v,owner.l⟩,⟨prints.v,prints.l⟩,q,(nth (M.qs q) n),(nth thr.l n).pc,true,(list_set_nth _ _).symm, ?_, ?_⟩
  · first|(refine Eq.trans ?_ (execT_10t (by assumption) (by assumption)).symm;rfl)|(refine Eq.trans ?_ (execT_10f (by assumption) (by assumption)).symm;rfl)
  · rw [←qset_n hrv ht];exact hz
 refine sG (oeqI _ _ rfl<|oM 1 rfl<|.nl)<|gcd rfl (fun hb54 hp54=> ?_) fun hb54 hp54=> ?_
 ·skip
  have q9:=hR.o10 (by omega)
  have hw0:=hab.1 (by omega)
  refine sK fun _ k55=>gNl (aO 5 rfl) fun hl56=>gRn (oM 2 rfl<|ofB fl_32_1 rfl<|olB 0 ti_3 rfl rfl<|oxI sl_23 ti_3 (aO 5 rfl) om9 rfl<|olI ti_3 (aO 5 rfl) om9 rfl<|.nl)<|gO [1,2,7,8,9,10,0,3,4,5,6,11] rfl<|fun a62 w62 h62=> ?_
  have hp61:=h62.sh.passL (Lp:= [_,_,_,_,_,_])
  refine wl_ex (x_call h62 bd_163 rfl rfl rfl rfl rfl (pis_c _ M g b12 (nth regs.l ins.a.toNat) words owner q _ _ _ _ _ hM hp61)) (wanted_none rfl _) ?_
  rintro a63 w63 ⟨_,⟨rfl,hs63⟩,hf63⟩
  have h63:St 193 K W a63 w63 _ [_,_,_,_,_,_,_,_,_,_,_,_]:=⟨hf63,h62.sh.backL (Lp:= [_,_,_,_,_,_]) hs63 (by intro A hA b hb;simp only [List.mem_cons,List.not_mem_nil,or_false] at hA;rcases hA with rfl|rfl|rfl|rfl|rfl|rfl<;>first|exact (hb:False).elim|exact Flat.noRd hb|exact .inl ⟨_,List.mem_cons_self .., .inr hb⟩|exact rdX hM hb|exact .inl ⟨_,by simp, .inr hb⟩)⟩
  clear hf63 hs63
  clear h62
  refine gG h63<|nK k55<|gF [1,3,5,6,85] rfl<|?_;clear h63
  refine gcd rfl (fun hb64 hp64=> ?_) fun hb64 hp64=> ?_
  ·skip
   refine rT 17 [] (by kernel_rfl) (by kernel_rfl) (olB 0 ti_85 rfl rfl<|onfl 1 fl_173_0 ti_97 rfl rfl<|oM 2 rfl<|ofB fl_32_1 rfl<|olB 6 ti_3 rfl rfl<|oxI sl_23 ti_3 (aO 9 rfl) om9 rfl<|olI ti_3 (aO 9 rfl) om9 rfl<|oM 1 rfl<|ofB fl_32_2 rfl<|olB 6 ti_3 rfl rfl<|oxI sl_23 ti_3 (aO 9 rfl) om9 rfl<|olI ti_3 (aO 9 rfl) om9 rfl<|oV (r_nilckI rfl rfl) rfl<|oM 1 rfl<|.nl)<|gO [2,3,4,5,0,1,6,7,8,9,10,11] rfl<|fun a70 w70 h70=> ?_
   have hp69:=h70.sh.passL (Lp:= [_,_,_,_])
   refine wl_ex (x_inv2 h70 rfl rfl rfl rfl rfl (hM.store _ _ words owner q n (nth regs.l ins.a.toNat) (nth regs.l ins.b.toNat) hp69 hqn (by omega) (by omega))) (wanted_none rfl _) ?_
   rintro a71 w71 ⟨_,⟨rfl,words71,owner71,q71,hst71,hs71⟩,hf71⟩
   change Sh _ _ _ [.blk M.g0 182 [words71.v,owner71.v], .own 3 words71, .own 3 owner71,M.X q71] at hs71
   have h71:St 193 K W a71 w71 _ [_,_,_,_,_,_,_,_,_,_,_,_]:=⟨hf71,h70.sh.backL (Lp:= [_,_,_,_]) hs71 (by intro A hA b hb;simp only [List.mem_cons,List.not_mem_nil,or_false] at hA;rcases hA with rfl|rfl|rfl|rfl<;>first|exact (hb:False).elim|exact Flat.noRd hb|exact .inl ⟨_,List.mem_cons_self .., .inr hb⟩|exact rdX hM hb|exact .inl ⟨_,by simp, .inr hb⟩)⟩
   clear hf71 hs71
   clear h70
   refine gG h71<|nN<|fun a72 w72 h72=> ?_;clear h71
   try simp only [Exit.then,Exit.inBlock,if_true]
   refine x_end0 (fn:=Tryz.f146) rfl h72 ?_
   have hf9:(fell|| !decide (0≤nth regs.l ins.a.toNat∧nth regs.l ins.a.toNat<(words.l.length:Int)))=fell:=or_f hb64
   have hz:=(h72.sh.sel (L' := [_,_,_,_,_,_,_,_,_,_]) [5,7,8,9,10,0,1,2,3,11] rfl)
   rw [hf9] at hz
   obtain ⟨wt,hwt1,hwt2⟩:=hst71
   refine ⟨rfl,⟨regs.v,regs.l⟩,⟨words71.v,words71.l⟩,⟨owner71.v,owner71.l⟩,⟨prints.v,prints.l⟩,q71,wt,(nth thr.l n).pc,fell,hwt1, ?_, ?_⟩
   · exact Eq.trans (hwt2 _ _ _ _) (execT_11t (by assumption) (by assumption)).symm
   · rw [←qset_n hrv ht];exact hz
  refine gS<|fun a73 w73 h73=> ?_
  try simp only [Exit.then,Exit.inBlock,if_true]
  refine x_end0 (fn:=Tryz.f146) rfl h73 ?_
  have hf9:(fell|| !decide (0≤nth regs.l ins.a.toNat∧nth regs.l ins.a.toNat<(words.l.length:Int)))=true:=or_t hb64
  have hz:=(h73.sh.sel (L' := [_,_,_,_,_,_,_,_,_,_]) [1,7,8,9,10,2,3,4,5,11] rfl)
  rw [hf9] at hz
  refine ⟨rfl,⟨regs.v,regs.l⟩,⟨words.v,words.l⟩,⟨owner.v,owner.l⟩,⟨prints.v,prints.l⟩,q,(nth (M.qs q) n),(nth thr.l n).pc,true,(list_set_nth _ _).symm, ?_, ?_⟩
  · (refine Eq.trans ?_ (execT_11f (by assumption) (by assumption)).symm;rfl)
  · rw [←qset_n hrv ht];exact hz
 refine sG (oeqI _ _ rfl<|oM 1 rfl<|.nl)<|gcd rfl (fun hb75 hp75=> ?_) fun hb75 hp75=> ?_
 ·skip
  have q9:=hR.o13 (by omega)
  have hw0:=hab.2.1 (by assumption)
  have hfl:findsL (nth (M.qs q) n) words.l ins.a=nth words.l ins.a.toNat:=findsL_none (fun j hj=>absurd hj (by omega))
  refine gK fun _ k76=>fun a77 w77 h77=>x_quiet (by kernel_rfl) (by kernel_rfl) h77 fun _ z78=>qQ h77.fr<|qRn (olB 1 ti_85 rfl rfl<|onfl 2 fl_173_0 ti_97 rfl rfl<|oM 1 rfl<|ofB fl_32_1 rfl<|olB 0 ti_3 rfl rfl<|.nl)<|fun _ hq=>wq_inv hq rfl rfl rfl (wanted_none rfl _) rfl rfl (fun w h=>(hM.load _ words owner q n ins.a ⟨h.blk 7 rfl,h.own 8 rfl,h.own 9 rfl,h.ok _ (List.mem_of_getElem? (i:=10) rfl)⟩ hqn hwl (by omega)))<|qRn (oM 1 rfl<|ofB fl_32_2 rfl<|olB 0 ti_3 rfl rfl<|.nl)<|?_
  have hl79:regs.l.length≤140737488355328:=(h77.sh.own 5 rfl).len
  refine qRn (oxI sl_23 ti_3 (aO 5 rfl) om9 rfl<|olI ti_3 (aO 5 rfl) om9 rfl<|oeqI _ _ rfl<|oM 1 rfl<|.nl)<|qN z78<|hK k76<|gF [1,3,5,6,8] rfl<|gK fun _ k80=>sG (oM 1 rfl<|.nl)<|?_;clear h77
  refine gcd rfl (fun hb82 hp82=> ?_) fun hb82 hp82=> ?_
  ·skip
   refine rT 14 [] (by kernel_rfl) (by kernel_rfl) (olB 1 ti_85 rfl rfl<|onfl 2 fl_173_0 ti_97 rfl rfl<|oM 1 rfl<|ofB fl_32_1 rfl<|olB 0 ti_3 rfl rfl<|oM 1 rfl<|ofB fl_32_3 rfl<|olB 0 ti_3 rfl rfl<|oxI sl_23 ti_3 (aO 5 rfl) om9 rfl<|olI ti_3 (aO 5 rfl) om9 rfl<|oV (r_nilckI rfl rfl) rfl<|oM 1 rfl<|.nl)<|gO [7,8,9,10,0,1,2,3,4,5,6,11] rfl<|fun a88 w88 h88=> ?_
   have hp87:=h88.sh.passL (Lp:= [_,_,_,_])
   refine wl_ex (x_inv2 h88 rfl rfl rfl rfl rfl (hM.swap _ _ words owner q n ins.a (nth regs.l ins.c.toNat) hp87 (by omega))) (wanted_none rfl _) ?_
   rintro a89 w89 ⟨_,⟨rfl,words89,owner89,q89,hst89,hs89⟩,hf89⟩
   change Sh _ _ _ [.blk M.g0 182 [words89.v,owner89.v], .own 3 words89, .own 3 owner89,M.X q89] at hs89
   have h89:St 193 K W a89 w89 _ [_,_,_,_,_,_,_,_,_,_,_,_]:=⟨hf89,h88.sh.backL (Lp:= [_,_,_,_]) hs89 (by intro A hA b hb;simp only [List.mem_cons,List.not_mem_nil,or_false] at hA;rcases hA with rfl|rfl|rfl|rfl<;>first|exact (hb:False).elim|exact Flat.noRd hb|exact .inl ⟨_,List.mem_cons_self .., .inr hb⟩|exact rdX hM hb|exact .inl ⟨_,by simp, .inr hb⟩)⟩
   clear hf89 hs89
   clear h88
   refine gG h89<|nK k80<|fun a90 w90 h90=>x_tail 6 [] (by kernel_rfl) (by kernel_rfl) h90 fun _ z91=>qQ h90.fr<|qRn (oM 1 rfl<|ofB fl_32_2 rfl<|olB 4 ti_3 rfl rfl<|oM 1 rfl<|.nl)<|qP bd_145 rfl (fun w h=>(pbit_t hb82 _))<|qRn (oxI sl_23 ti_3 (aO 9 rfl) om9 rfl<|.nl)<|qN z91<|gte 9 (1:Int) ti_3 om9 rfl rfl<|nN<|fun a93 w93 h93=> ?_;clear h89 h90
   try simp only [Exit.then,Exit.inBlock,if_true]
   refine x_end0 (fn:=Tryz.f146) rfl h93 ?_
   have hz:=(h93.sh.sel (L' := [_,_,_,_,_,_,_,_,_,_]) [6,7,8,9,10,0,1,2,3,11] rfl)
   obtain ⟨hw1,hw2⟩:=swap_eq (n:=n) (pc:=(nth thr.l n).pc) (regs:=regs.l.set ins.b.toNat 1) (prints:=prints.l) (fell:=fell) hst89
   refine ⟨rfl,⟨regs.v,regs.l.set ins.b.toNat 1⟩,⟨words89.v,words89.l⟩,⟨owner89.v,owner89.l⟩,⟨prints.v,prints.l⟩,q89,(nth (M.qs q) n),(nth thr.l n).pc,fell,hw1, ?_, ?_⟩
   · (refine Eq.trans hw2 (execT_13t (x:=(⟨(nth thr.l n).pc,regs.l,nth (M.qs q) n,words.l,owner.l,prints.l,fell⟩:TS)) (by assumption) (hfl.symm.trans (by assumption))).symm)
   · rw [←qset_n hrv ht];exact hz
  refine gS<|hK k80<|fun a94 w94 h94=>x_tail 6 [] (by kernel_rfl) (by kernel_rfl) h94 fun _ z95=>qQ h94.fr<|qRn (oM 1 rfl<|ofB fl_32_2 rfl<|olB 0 ti_3 rfl rfl<|oM 1 rfl<|.nl)<|qP bd_145 rfl (fun w h=>(pbit_f hb82 _))<|qRn (oxI sl_23 ti_3 (aO 5 rfl) om9 rfl<|.nl)<|qN z95<|gte 5 (0:Int) ti_3 om9 rfl rfl<|nN<|fun a97 w97 h97=> ?_;clear h94
  try simp only [Exit.then,Exit.inBlock,if_true]
  refine x_end0 (fn:=Tryz.f146) rfl h97 ?_
  have hz:=(h97.sh.sel (L' := [_,_,_,_,_,_,_,_,_,_]) [2,3,4,5,6,7,8,9,10,11] rfl)
  refine ⟨rfl,⟨regs.v,regs.l.set ins.b.toNat 0⟩,⟨words.v,words.l⟩,⟨owner.v,owner.l⟩,⟨prints.v,prints.l⟩,q,(nth (M.qs q) n),(nth thr.l n).pc,fell,(list_set_nth _ _).symm, ?_, ?_⟩
  · (refine Eq.trans ?_ (execT_13f (by assumption) (fun h9=>absurd (hfl.trans h9) (by assumption))).symm;rfl)
  · rw [←qset_n hrv ht];exact hz
 refine sG (oeqI _ _ rfl<|oM 1 rfl<|.nl)<|gF [1,3,5,19,142] rfl<|gcd rfl (fun hb99 hp99=> ?_) fun hb99 hp99=> ?_
 ·skip
  have q9:=hR.o17 (by omega)
  intro a100 w100 h100
  refine x_tail 12 [] (by kernel_rfl) (by kernel_rfl) h100 fun _ z101=>qQ h100.fr<|qRn (olB 1 ti_85 rfl rfl<|onfl 2 fl_173_0 ti_97 rfl rfl<|.nl)<|fun _ hq=>wq_inv hq rfl rfl rfl (wanted_none rfl _) rfl rfl (fun w h=>(hM.base _ words owner q ⟨h.blk 7 rfl,h.own 8 rfl,h.own 9 rfl,h.ok _ (List.mem_of_getElem? (i:=10) rfl)⟩))<|qRn (onfl 7 fl_182_1 ti_23 rfl rfl<|ofB fl_32_1 rfl<|olB 0 ti_3 rfl rfl<|oM 1 rfl<|.nl)<|?_
  have hl102:owner.l.length≤140737488355328:=(h100.sh.own 9 rfl).len
  refine qRn (oxI sl_23 ti_3 (aO 9 rfl) om9 rfl<|.nl)<|qN z101<|gte 9 (((n:Nat):Int):Int) ti_3 om9 rfl rfl<|nN<|fun a104 w104 h104=> ?_;clear h100
  try simp only [Exit.then,Exit.inBlock,if_true]
  refine x_end0 (fn:=Tryz.f146) rfl h104 ?_
  have hz:=(h104.sh.sel (L' := [_,_,_,_,_,_,_,_,_,_]) [2,3,4,5,6,7,8,9,10,11] rfl)
  refine ⟨rfl,⟨regs.v,regs.l⟩,⟨words.v,words.l⟩,⟨owner.v,owner.l.set ins.a.toNat ((n:Nat):Int)⟩,⟨prints.v,prints.l⟩,q,(nth (M.qs q) n),(nth thr.l n).pc,fell,(list_set_nth _ _).symm, ?_, ?_⟩
  · (refine Eq.trans ?_ (execT_17 (by assumption)).symm;rfl)
  · rw [←qset_n hrv ht];exact hz
 refine sG (oeqI _ _ rfl<|oM 1 rfl<|.nl)<|gcd rfl (fun hb106 hp106=> ?_) fun hb106 hp106=> ?_
 ·skip
  have q9:=hR.o17 (by omega)
  have hw0:=hab.1 (by omega)
  refine gK fun _ k107=>gK fun _ k108=>fun a109 w109 h109=>x_quiet (by kernel_rfl) (by kernel_rfl) h109 fun _ z110=>qQ h109.fr<|qRn (olB 1 ti_85 rfl rfl<|onfl 2 fl_173_0 ti_97 rfl rfl<|.nl)<|fun _ hq=>wq_inv hq rfl rfl rfl (wanted_none rfl _) rfl rfl (fun w h=>(hM.base _ words owner q ⟨h.blk 7 rfl,h.own 8 rfl,h.own 9 rfl,h.ok _ (List.mem_of_getElem? (i:=10) rfl)⟩))<|qRn (onfl 7 fl_182_1 ti_23 rfl rfl<|ofB fl_32_1 rfl<|olB 0 ti_3 rfl rfl<|.nl)<|?_
  have hl111:owner.l.length≤140737488355328:=(h109.sh.own 9 rfl).len
  refine qRn (oxI sl_23 ti_3 (aO 9 rfl) om9 rfl<|olI ti_3 (aO 9 rfl) om9 rfl<|oM 1 rfl<|oneI _ _ rfl<|oM 1 rfl<|.nl)<|?_
  rcases dsp (nth owner.l ins.a.toNat≠((n:Nat):Int)) with ⟨hb112,hp112⟩|⟨hb112,hp112⟩
  ·skip
   refine qRn (oKs 8 hb112 rfl rfl<|opT hb112 rfl<|.nl)<|qN z110<|hK k108<|gF [1,3,5,181] rfl<|gcT rfl rfl<|sK fun _ k114=>gRn (olB 1 ti_85 rfl rfl<|onf fl_173_4 rfl<|.nl)<|gst (v:= .bool true) 2 ti_4 rfl rfl rfl<|nK k114<|gR<|fun a116 w116 h116=> ?_;clear h109
   try simp only [Exit.then,Exit.inBlock]
   refine x_ret0 (fn:=Tryz.f146) rfl h116 ?_
   have hz:=(h116.sh.sel (L' := [_,_,_,_,_,_,_,_,_,_]) [2,3,4,5,6,7,8,9,10,11] rfl)
   refine ⟨rfl,⟨regs.v,regs.l⟩,⟨words.v,words.l⟩,⟨owner.v,owner.l⟩,⟨prints.v,prints.l⟩,q,(nth (M.qs q) n),(nth thr.l n).pc,true,(list_set_nth _ _).symm, ?_, ?_⟩
   · (refine Eq.trans ?_ (pexec_18f (by assumption) (by first|exact .inl (by omega)|exact .inr (by assumption))).symm;rfl)
   · rw [←qset_n hrv ht];exact hz
  refine qRn (oG hb112 (r_ldb (i:=1) ti_85 rfl rfl rfl rfl) rfl<|oG hb112 (r_nil rfl rfl) rfl<|oG hb112 (r_fieldB (r:=0) fl_173_0 rfl rfl rfl) rfl<|oG hb112 (r_ldb (i:=2) ti_97 rfl rfl rfl rfl) rfl<|oG hb112 (r_move rfl rfl) rfl<|oG hb112 (r_fieldB (r:=1) fl_32_1 rfl rfl rfl) rfl<|oG hb112 (r_ldb (i:=0) ti_3 rfl rfl rfl rfl) rfl<|.nl)<|fun _ hq=>wq_inv hq rfl rfl rfl (wanted_yes hq rfl rfl rfl rfl hb112) rfl rfl (fun w h=>(hM.freeing _ words owner q n ins.a ⟨h.blk 7 rfl,h.own 8 rfl,h.own 9 rfl,h.ok _ (List.mem_of_getElem? (i:=10) rfl)⟩ hqn hwl hwh0))<|qRn (opF hb112 rfl<|.nl)<|qN z110<|hK k108<|gF [1,3,5,181] rfl<|?_;clear h109
  refine gCb rfl (fun hb125=> ?_) fun hb125=> ?_
  ·skip
   refine sK fun _ k126=>gRn (olB 1 ti_85 rfl rfl<|onf fl_173_4 rfl<|.nl)<|gst (v:= .bool true) 2 ti_4 rfl rfl rfl<|nK k126<|gR<|fun a128 w128 h128=> ?_
   try simp only [Exit.then,Exit.inBlock]
   refine x_ret0 (fn:=Tryz.f146) rfl h128 ?_
   have hz:=(h128.sh.sel (L' := [_,_,_,_,_,_,_,_,_,_]) [2,3,4,5,6,7,8,9,10,11] rfl)
   refine ⟨rfl,⟨regs.v,regs.l⟩,⟨words.v,words.l⟩,⟨owner.v,owner.l⟩,⟨prints.v,prints.l⟩,q,(nth (M.qs q) n),(nth thr.l n).pc,true,(list_set_nth _ _).symm, ?_, ?_⟩
   · (refine Eq.trans ?_ (pexec_18f (by assumption) (by first|exact .inl (by omega)|exact .inr (by assumption))).symm;rfl)
   · rw [←qset_n hrv ht];exact hz
  refine gS<|hK k107<|rT 7 [] (by kernel_rfl) (by kernel_rfl) (olB 1 ti_85 rfl rfl<|onfl 2 fl_173_0 ti_97 rfl rfl<|oM 1 rfl<|ofB fl_32_1 rfl<|olB 0 ti_3 rfl rfl<|.nl)<|gO [7,8,9,10,0,1,2,3,4,5,6,11] rfl<|fun a134 w134 h134=> ?_
  have hp133:=h134.sh.passL (Lp:= [_,_,_,_])
  refine wl_ex (x_inv2 h134 rfl rfl rfl rfl rfl (hM.free _ _ words owner q n ins.a hp133 hqn (by omega) (by omega))) (wanted_none rfl _) ?_
  rintro a135 w135 ⟨_,⟨rfl,words135,owner135,q135,hst135,hs135⟩,hf135⟩
  change Sh _ _ _ [.blk M.g0 182 [words135.v,owner135.v], .own 3 words135, .own 3 owner135,M.X q135] at hs135
  have h135:St 193 K W a135 w135 _ [_,_,_,_,_,_,_,_,_,_,_,_]:=⟨hf135,h134.sh.backL (Lp:= [_,_,_,_]) hs135 (by intro A hA b hb;simp only [List.mem_cons,List.not_mem_nil,or_false] at hA;rcases hA with rfl|rfl|rfl|rfl<;>first|exact (hb:False).elim|exact Flat.noRd hb|exact .inl ⟨_,List.mem_cons_self .., .inr hb⟩|exact rdX hM hb|exact .inl ⟨_,by simp, .inr hb⟩)⟩
  clear hf135 hs135
  clear h134
  refine gG h135<|nN<|fun a136 w136 h136=> ?_;clear h135
  try simp only [Exit.then,Exit.inBlock,if_true]
  refine x_end0 (fn:=Tryz.f146) rfl h136 ?_
  have hz:=(h136.sh.sel (L' := [_,_,_,_,_,_,_,_,_,_]) [6,7,8,9,10,0,1,2,3,11] rfl)
  obtain ⟨wt,hwt1,hwt2⟩:=hst135
  refine ⟨rfl,⟨regs.v,regs.l⟩,⟨words135.v,words135.l⟩,⟨owner135.v,owner135.l⟩,⟨prints.v,prints.l⟩,q135,wt,(nth thr.l n).pc,fell,hwt1, ?_, ?_⟩
  · exact Eq.trans (hwt2 _ _ _ _) (pexec_18c (by assumption) (by omega) (by assumption)).symm
  · rw [←qset_n hrv ht];exact hz
 refine gS<|fun a137 w137 h137=> ?_
 try simp only [Exit.then,Exit.inBlock,if_true]
 refine x_end0 (fn:=Tryz.f146) rfl h137 ?_
 have hz:=(h137.sh.sel (L' := [_,_,_,_,_,_,_,_,_,_]) [2,3,4,5,6,7,8,9,10,11] rfl)
 refine ⟨rfl,⟨regs.v,regs.l⟩,⟨words.v,words.l⟩,⟨owner.v,owner.l⟩,⟨prints.v,prints.l⟩,q,(nth (M.qs q) n),(nth thr.l n).pc,fell,(list_set_nth _ _).symm, ?_, ?_⟩
 · (refine Eq.trans ?_ (pexec_no (by omega) (by omega)).symm;rfl)
 · rw [←qset_n hrv ht];exact hz
theorem pdo_c (K:Nat→Prop) (M:MemS) (g gp:Nat) (code:Ls (Ls Ins)) (thr:Ls ThQ) (regs prints words owner:Ls Int) (q:M.σ) (pw:Value) (locks nregs:Int) (fell:Bool) (n:Nat) (k:Nat) (W:World) (hM:MemI Tryz.prog 182 3 M) (hS:Sh K W W [.blk g 173 [.iface M.T (.pointer (some M.u)), .pointer (some ⟨gp,0,none⟩),thr.v,prints.v, .bool fell], .rblk gp 25 [code.v,pw, .int .i64 locks, .int .i64 nregs], .own 189 thr, .own 3 regs, .own 3 prints, .blk M.g0 182 [words.v,owner.v], .own 3 words, .own 3 owner,M.X q, .at_ code]) (ht:n<thr.l.length) (htn:n≤1000) (hrv:(nth thr.l n).rv=regs.v) (hqn:n<(M.qs q).length) (hwl:(nth (M.qs q) n).length≤3) (hwh0:∀x∈nth (M.qs q) n,x.lock=true→x.what=0) (hge:∀v∈owner.l,-1≤v) (htc:n<code.l.length) (hpcr:0≤(nth thr.l n).pc∧(nth thr.l n).pc≤(nth code.l n).l.length) (hpcl:(nth code.l n).l.length≤1000000) (hmk:mvOK M.m (nth code.l n).l (⟨(nth thr.l n).pc,regs.l,nth (M.qs q) n,words.l,owner.l,prints.l,fell⟩:TS) k=true) (hpl:prints.l.length≤100000000) (hwt:∀j,j<(nth (M.qs q) n).length→WtOk (nth (nth (M.qs q) n) j) words owner) (hio:k=0→InsR regs.l.length words.l.length owner.l.length (nextIns (nth code.l n).l (nth thr.l n).pc)):
    Rets Tryz.prog 123 [.pointer (some ⟨g,0,none⟩), .agg #[.int .i64 ((n:Nat):Int), .int .i64 (((k:Nat):Int)-1)]] W (fun v w' =>v= .tuple #[]∧MPost K W 173 189 3 182 25 M g gp n [code.v,pw, .int .i64 locks, .int .i64 nregs] thr q (doT M.m n (nth code.l n).l k (⟨(nth thr.l n).pc,regs.l,nth (M.qs q) n,words.l,owner.l,prints.l,fell⟩:TS)) code w'):=by
 refine gen Tryz.func123 Tryz.ntmps123 hS rfl fun a10 h10=>gG h10<|sK fun _ k11=>gbx rfl rfl fun b12=>nK k11<|gK fun _ k13=>gNl (aO 3 rfl) fun hl14=>rQ (by kernel_rfl) (by kernel_rfl) (oM 1 rfl<|onfl 1 fl_173_2 ti_171 rfl rfl<|ofB fl_179_0 rfl<|olB 0 ti_3 rfl rfl<|oxN sl_171 ti_189 (aO 3 rfl) _ om9 rfl<|oM 1 rfl<|.nl)<|hK k13<|gK fun _ k15=>sG (ofB fl_179_1 rfl<|olB 0 ti_3 rfl rfl<|ogeI _ _ rfl<|.nl)<|?_;clear h10
 refine gcd rfl (fun hb17 hp17=> ?_) fun hb17 hp17=> ?_
 ·skip
  have hkw:k-1<(nth (M.qs q) n).length:=by rcases mvOK_k hmk with ⟨h9,_⟩|⟨h9,h8,_⟩;omega;(change k≤(nth (M.qs q) n).length at h8;omega)
  refine gK fun _ k18=>rT 8 [] (by kernel_rfl) (by kernel_rfl) (oM 1 rfl<|onfl 1 fl_173_0 ti_97 rfl rfl<|ofB fl_179_0 rfl<|olB 0 ti_3 rfl rfl<|ofB fl_179_1 rfl<|olB 0 ti_3 rfl rfl<|.nl)<|fun a20 w20 h20=> ?_
  have h19:=h20.same (d:=25) (v' := .int .i64 ((k-1:Nat):Int)) rfl (by rw [show ((k:Nat):Int)-1=((k-1:Nat):Int) from by omega])
  clear h20
  have h24:=h19.sel (L' := [_,_,_,_,_,_,_,_,_,_,_]) [6,7,8,9,0,1,2,3,4,5,10] rfl
  have hp25:=h24.sh.passL (Lp:= [_,_,_,_])
  refine wl_ex (x_inv2 h24 rfl rfl rfl rfl rfl (hM.flush _ _ words owner q n (k-1) hp25 hqn hwl hkw hwt)) (wanted_none rfl _) ?_
  rintro a26 w26 ⟨_,⟨rfl,words26,owner26,q26,hst26,hs26⟩,hf26⟩
  change Sh _ _ _ [.blk M.g0 182 [words26.v,owner26.v], .own 3 words26, .own 3 owner26,M.X q26] at hs26
  have h26:St 196 K W a26 w26 _ [_,_,_,_,_,_,_,_,_,_,_]:=⟨hf26,h24.sh.backL (Lp:= [_,_,_,_]) hs26 (by intro A hA b hb;simp only [List.mem_cons,List.not_mem_nil,or_false] at hA;rcases hA with rfl|rfl|rfl|rfl<;>first|exact (hb:False).elim|exact Flat.noRd hb|exact .inl ⟨_,List.mem_cons_self .., .inr hb⟩|exact rdX hM hb|exact .inl ⟨_,by simp, .inr hb⟩)⟩
  clear hf26 hs26
  clear h24
  refine gG h26<|nK k18<|gF [] rfl<|gR<|fun a27 w27 h27=> ?_;clear h26
  try simp only [Exit.then,Exit.inBlock]
  refine x_ret0 (fn:=Tryz.f123) rfl h27 ?_
  have hz:=(h27.sh.sel (L' := [_,_,_,_,_,_,_,_,_,_]) [5,6,7,8,9,0,1,2,3,10] rfl)
  obtain ⟨wt,hwt1,hwt2⟩:=hst26
  refine ⟨rfl,⟨regs.v,regs.l⟩,⟨words26.v,words26.l⟩,⟨owner26.v,owner26.l⟩,⟨prints.v,prints.l⟩,q26,wt,(nth thr.l n).pc,fell,hwt1, ?_, ?_⟩
  · exact (hwt2 _ _ _ _).trans (pdoT_k (by omega)).symm
  · rw [←qset_n hrv ht];exact hz
 refine gS<|hK k15<|sK fun _ k28=>gRn (oM 1 rfl<|ofB fl_179_0 rfl<|olB 0 ti_3 rfl rfl<|.nl)<|fun a30 w30 h30=>wl_ex (x_call h30 bd_128 rfl rfl rfl rfl rfl (pnext_c M g gp code thr words owner q _ _ _ _ _ n _ hM (h30.sh.blk 1 rfl) (h30.sh.rblk 2 rfl) (h30.sh.at 10 rfl) (h30.sh.own 3 rfl) ⟨h30.sh.blk 6 rfl,h30.sh.own 7 rfl,h30.sh.own 8 rfl,h30.sh.ok _ (List.mem_of_getElem? (i:=9) rfl)⟩ (by omega) (by omega) (by omega))) (wanted_none rfl _) ?_
 rintro a31 w31 ⟨_,⟨hv31,hs31⟩,hf31⟩
 obtain ⟨ins,hins⟩:∃i,i=nextIns (nth code.l n).l (nth thr.l n).pc:=⟨_,rfl⟩
 rw [←hins] at hv31
 subst hv31
 have h31:St 196 K W a31 w31 _ _:=⟨hf31,h30.sh.call0 hs31⟩
 clear hf31 hs31
 clear h30
 refine gG h31<|gRn (oM 1 rfl<|oxt rfl<|oxt rfl<|.nl)<|gal ti_32 rfl fun b32=>gsw 0 ti_32 rfl rfl rfl<|gRn (oM 1 rfl<|.nl)<|nK k28<|?_;clear h31
 have hR:=hio (by omega)
 rw [←hins] at hR
 have hab9:=able_of hmk (by omega)
 change (nth thr.l n).pc<_∧ableL owner.l (nth (M.qs q) n).length (nextIns (nth code.l n).l (nth thr.l n).pc)=true at hab9
 rw [←hins] at hab9
 have hab:=hab_of hab9.2
 refine sK fun _ k34=>gRn (oM 1 rfl<|onl rfl<|ofE fl_189_0 rfl<|olI ti_3 (aO 4 rfl) om9 rfl<|oadI _ _ om9 rfl<|onl rfl<|ofE fl_189_0 rfl<|.nl)<|gte 4 ({ nth thr.l n with pc:=((nth thr.l n).pc)+1 } :ThQ) ti_3 om9 rfl rfl<|nK k34<|gF [0,3,4,5] rfl<|?_
 obtain ⟨tl,htl⟩:∃tl,tl=thr.l.set n ({ nth thr.l n with pc:=((nth thr.l n).pc)+1 }):=⟨_,rfl⟩
 intro a36 w36 h36
 have h369:=h36.relist (i:=4) (l' :=tl) rfl htl.symm
 clear h36
 rw [qset_0 hrv] at htl
 have htll:tl.length=thr.l.length:=by rw [htl,List.length_set]
 have hrv2:(nth tl n).rv=regs.v:=by rw [htl,nth_set,if_pos ⟨rfl,ht⟩]
 have hpc2:(nth tl n).pc=(nth thr.l n).pc+1:=by rw [htl,nth_set,if_pos ⟨rfl,ht⟩]
 refine gG h369<|sG (oM 1 rfl<|onl rfl<|ofE fl_189_1 rfl<|oV (Rn.same (r_lde (s:=(⟨thr.v,tl⟩:Ls ThQ)) (i:=n) (v:=((nth tl n).rv)) ti_23 rfl rfl rfl (fun w h=>(h.own 4 rfl)) (show n<tl.length from om9) (Nat.le_of_ble_eq_true rfl) rfl) hrv2) rfl<|oM 1 rfl<|.nl)<|sG (ofB fl_32_0 rfl<|olB 0 ti_3 rfl rfl<|.nl)<|gB<|sG (oeqI _ _ rfl<|oM 1 rfl<|.nl)<|?_;clear h369
 refine gcd rfl (fun hb40 hp40=> ?_) fun hb40 hp40=> ?_
 ·skip
  have q9:=hR.o1 (by omega)
  refine gL<|gNl (aO 5 rfl) fun hl41=>gRn (oM 1 rfl<|ofB fl_32_1 rfl<|olB 0 ti_3 rfl rfl<|ofB fl_32_2 rfl<|olB 0 ti_3 rfl rfl<|oxI sl_23 ti_3 (aO 5 rfl) om9 rfl<|.nl)<|gte 5 (ins.b:Int) ti_3 om9 rfl rfl<|nN<|fun a43 w43 h43=> ?_
  try simp only [Exit.then,Exit.inBlock,if_true]
  refine x_end0 (fn:=Tryz.f123) rfl h43 ?_
  have hz:=(h43.sh.sel (L' := [_,_,_,_,_,_,_,_,_,_]) [2,3,4,5,6,7,8,9,10,11] rfl)
  refine ⟨rfl,⟨regs.v,regs.l.set ins.a.toNat ins.b⟩,⟨words.v,words.l⟩,⟨owner.v,owner.l⟩,⟨prints.v,prints.l⟩,q,nth (M.qs q) n,(nth thr.l n).pc+1,fell,(list_set_nth _ _).symm, ?_, ?_⟩
  · refine Eq.trans ?_ (doT_0 (by omega)).symm;show _=execT M.m n (nextIns (nth code.l n).l (nth thr.l n).pc) _;rw [←hins];(refine Eq.trans ?_ (execT_1 (by assumption)).symm;rfl)
  · rw [htl] at hz;exact hz
 refine sG (oeqI _ _ rfl<|oM 1 rfl<|.nl)<|gcd rfl (fun hb45 hp45=> ?_) fun hb45 hp45=> ?_
 ·skip
  have q9:=hR.o2 (by omega)
  refine gNl (aO 5 rfl) fun hl46=>rT 9 [] (by kernel_rfl) (by kernel_rfl) (oM 1 rfl<|ofB fl_32_1 rfl<|olB 0 ti_3 rfl rfl<|oM 1 rfl<|ofB fl_32_2 rfl<|olB 0 ti_3 rfl rfl<|oxI sl_23 ti_3 (aO 5 rfl) om9 rfl<|olI ti_3 (aO 5 rfl) om9 rfl<|oxI sl_23 ti_3 (aO 5 rfl) om9 rfl<|.nl)<|gte 5 (nth regs.l ins.b.toNat:Int) ti_3 om9 rfl rfl<|nN<|fun a48 w48 h48=> ?_
  try simp only [Exit.then,Exit.inBlock,if_true]
  refine x_end0 (fn:=Tryz.f123) rfl h48 ?_
  have hz:=(h48.sh.sel (L' := [_,_,_,_,_,_,_,_,_,_]) [2,3,4,5,6,7,8,9,10,11] rfl)
  refine ⟨rfl,⟨regs.v,regs.l.set ins.a.toNat (nth regs.l ins.b.toNat)⟩,⟨words.v,words.l⟩,⟨owner.v,owner.l⟩,⟨prints.v,prints.l⟩,q,nth (M.qs q) n,(nth thr.l n).pc+1,fell,(list_set_nth _ _).symm, ?_, ?_⟩
  · refine Eq.trans ?_ (doT_0 (by omega)).symm;show _=execT M.m n (nextIns (nth code.l n).l (nth thr.l n).pc) _;rw [←hins];(refine Eq.trans ?_ (execT_2 (by assumption)).symm;rfl)
  · rw [htl] at hz;exact hz
 refine sG (oeqI _ _ rfl<|oM 1 rfl<|.nl)<|gcd rfl (fun hb50 hp50=> ?_) fun hb50 hp50=> ?_
 ·skip
  have q9:=hR.o3 (by omega)
  refine gNl (aO 5 rfl) fun hl51=>rT 15 [] (by kernel_rfl) (by kernel_rfl) (oM 1 rfl<|ofB fl_32_1 rfl<|olB 0 ti_3 rfl rfl<|oM 1 rfl<|ofB fl_32_2 rfl<|olB 0 ti_3 rfl rfl<|oxI sl_23 ti_3 (aO 5 rfl) om9 rfl<|olI ti_3 (aO 5 rfl) om9 rfl<|oM 1 rfl<|ofB fl_32_3 rfl<|olB 0 ti_3 rfl rfl<|oxI sl_23 ti_3 (aO 5 rfl) om9 rfl<|olI ti_3 (aO 5 rfl) om9 rfl<|oV (r_addW (p:=nth regs.l ins.b.toNat) (q:=nth regs.l ins.c.toNat) rfl rfl rfl) rfl<|oxI sl_23 ti_3 (aO 5 rfl) om9 rfl<|.nl)<|gte 5 (wrap64 ((nth regs.l ins.b.toNat)+(nth regs.l ins.c.toNat)):Int) ti_3 om9 rfl rfl<|nN<|fun a53 w53 h53=> ?_
  try simp only [Exit.then,Exit.inBlock,if_true]
  refine x_end0 (fn:=Tryz.f123) rfl h53 ?_
  have hz:=(h53.sh.sel (L' := [_,_,_,_,_,_,_,_,_,_]) [2,3,4,5,6,7,8,9,10,11] rfl)
  refine ⟨rfl,⟨regs.v,regs.l.set ins.a.toNat (wrap64 ((nth regs.l ins.b.toNat)+(nth regs.l ins.c.toNat)))⟩,⟨words.v,words.l⟩,⟨owner.v,owner.l⟩,⟨prints.v,prints.l⟩,q,nth (M.qs q) n,(nth thr.l n).pc+1,fell,(list_set_nth _ _).symm, ?_, ?_⟩
  · refine Eq.trans ?_ (doT_0 (by omega)).symm;show _=execT M.m n (nextIns (nth code.l n).l (nth thr.l n).pc) _;rw [←hins];(refine Eq.trans ?_ (execT_3 (by assumption)).symm;rfl)
  · rw [htl] at hz;exact hz
 refine sG (oeqI _ _ rfl<|oM 1 rfl<|.nl)<|gcd rfl (fun hb55 hp55=> ?_) fun hb55 hp55=> ?_
 ·skip
  have q9:=hR.o3 (by omega)
  refine gNl (aO 5 rfl) fun hl56=>rT 15 [] (by kernel_rfl) (by kernel_rfl) (oM 1 rfl<|ofB fl_32_1 rfl<|olB 0 ti_3 rfl rfl<|oM 1 rfl<|ofB fl_32_2 rfl<|olB 0 ti_3 rfl rfl<|oxI sl_23 ti_3 (aO 5 rfl) om9 rfl<|olI ti_3 (aO 5 rfl) om9 rfl<|oM 1 rfl<|ofB fl_32_3 rfl<|olB 0 ti_3 rfl rfl<|oxI sl_23 ti_3 (aO 5 rfl) om9 rfl<|olI ti_3 (aO 5 rfl) om9 rfl<|oV (r_subW (p:=nth regs.l ins.b.toNat) (q:=nth regs.l ins.c.toNat) rfl rfl rfl) rfl<|oxI sl_23 ti_3 (aO 5 rfl) om9 rfl<|.nl)<|gte 5 (wrap64 ((nth regs.l ins.b.toNat)-(nth regs.l ins.c.toNat)):Int) ti_3 om9 rfl rfl<|nN<|fun a58 w58 h58=> ?_
  try simp only [Exit.then,Exit.inBlock,if_true]
  refine x_end0 (fn:=Tryz.f123) rfl h58 ?_
  have hz:=(h58.sh.sel (L' := [_,_,_,_,_,_,_,_,_,_]) [2,3,4,5,6,7,8,9,10,11] rfl)
  refine ⟨rfl,⟨regs.v,regs.l.set ins.a.toNat (wrap64 ((nth regs.l ins.b.toNat)-(nth regs.l ins.c.toNat)))⟩,⟨words.v,words.l⟩,⟨owner.v,owner.l⟩,⟨prints.v,prints.l⟩,q,nth (M.qs q) n,(nth thr.l n).pc+1,fell,(list_set_nth _ _).symm, ?_, ?_⟩
  · refine Eq.trans ?_ (doT_0 (by omega)).symm;show _=execT M.m n (nextIns (nth code.l n).l (nth thr.l n).pc) _;rw [←hins];(refine Eq.trans ?_ (execT_4 (by assumption)).symm;rfl)
  · rw [htl] at hz;exact hz
 refine sG (oeqI _ _ rfl<|oM 1 rfl<|.nl)<|gcd rfl (fun hb60 hp60=> ?_) fun hb60 hp60=> ?_
 ·skip
  have q9:=hR.o3 (by omega)
  refine gNl (aO 5 rfl) fun hl61=>rT 15 [] (by kernel_rfl) (by kernel_rfl) (oM 1 rfl<|ofB fl_32_1 rfl<|olB 0 ti_3 rfl rfl<|oM 1 rfl<|ofB fl_32_2 rfl<|olB 0 ti_3 rfl rfl<|oxI sl_23 ti_3 (aO 5 rfl) om9 rfl<|olI ti_3 (aO 5 rfl) om9 rfl<|oM 1 rfl<|ofB fl_32_3 rfl<|olB 0 ti_3 rfl rfl<|oxI sl_23 ti_3 (aO 5 rfl) om9 rfl<|olI ti_3 (aO 5 rfl) om9 rfl<|oV (r_mulW (p:=nth regs.l ins.b.toNat) (q:=nth regs.l ins.c.toNat) rfl rfl rfl) rfl<|oxI sl_23 ti_3 (aO 5 rfl) om9 rfl<|.nl)<|gte 5 (wrap64 ((nth regs.l ins.b.toNat)*(nth regs.l ins.c.toNat)):Int) ti_3 om9 rfl rfl<|nN<|fun a63 w63 h63=> ?_
  try simp only [Exit.then,Exit.inBlock,if_true]
  refine x_end0 (fn:=Tryz.f123) rfl h63 ?_
  have hz:=(h63.sh.sel (L' := [_,_,_,_,_,_,_,_,_,_]) [2,3,4,5,6,7,8,9,10,11] rfl)
  refine ⟨rfl,⟨regs.v,regs.l.set ins.a.toNat (wrap64 ((nth regs.l ins.b.toNat)*(nth regs.l ins.c.toNat)))⟩,⟨words.v,words.l⟩,⟨owner.v,owner.l⟩,⟨prints.v,prints.l⟩,q,nth (M.qs q) n,(nth thr.l n).pc+1,fell,(list_set_nth _ _).symm, ?_, ?_⟩
  · refine Eq.trans ?_ (doT_0 (by omega)).symm;show _=execT M.m n (nextIns (nth code.l n).l (nth thr.l n).pc) _;rw [←hins];(refine Eq.trans ?_ (execT_5 (by assumption)).symm;rfl)
  · rw [htl] at hz;exact hz
 refine sG (oeqI _ _ rfl<|oM 1 rfl<|.nl)<|gcd rfl (fun hb65 hp65=> ?_) fun hb65 hp65=> ?_
 ·skip
  have q9:=hR.o3 (by omega)
  intro a67 w67 h67
  refine x_tail 16 [] (by kernel_rfl) (by kernel_rfl) h67 fun _ z68=>qQ h67.fr<|qRn (oM 1 rfl<|ofB fl_32_1 rfl<|olB 0 ti_3 rfl rfl<|oM 1 rfl<|ofB fl_32_2 rfl<|olB 0 ti_3 rfl rfl<|.nl)<|?_
  have hl69:regs.l.length≤140737488355328:=(h67.sh.own 5 rfl).len
  refine qRn (oxI sl_23 ti_3 (aO 5 rfl) om9 rfl<|olI ti_3 (aO 5 rfl) om9 rfl<|oM 1 rfl<|ofB fl_32_3 rfl<|olB 0 ti_3 rfl rfl<|oxI sl_23 ti_3 (aO 5 rfl) om9 rfl<|olI ti_3 (aO 5 rfl) om9 rfl<|oltI _ _ rfl<|.nl)<|qP bd_145 rfl (fun w h=>(pbit_c (decide (nth regs.l ins.b.toNat<nth regs.l ins.c.toNat)) _))<|qRn (oxI sl_23 ti_3 (aO 5 rfl) om9 rfl<|.nl)<|qN z68<|gte 5 (bit (decide (nth regs.l ins.b.toNat<nth regs.l ins.c.toNat)):Int) ti_3 om9 rfl rfl<|nN<|fun a71 w71 h71=> ?_;clear h67
  try simp only [Exit.then,Exit.inBlock,if_true]
  refine x_end0 (fn:=Tryz.f123) rfl h71 ?_
  have hz:=(h71.sh.sel (L' := [_,_,_,_,_,_,_,_,_,_]) [2,3,4,5,6,7,8,9,10,11] rfl)
  refine ⟨rfl,⟨regs.v,regs.l.set ins.a.toNat (bit (decide (nth regs.l ins.b.toNat<nth regs.l ins.c.toNat)))⟩,⟨words.v,words.l⟩,⟨owner.v,owner.l⟩,⟨prints.v,prints.l⟩,q,nth (M.qs q) n,(nth thr.l n).pc+1,fell,(list_set_nth _ _).symm, ?_, ?_⟩
  · refine Eq.trans ?_ (doT_0 (by omega)).symm;show _=execT M.m n (nextIns (nth code.l n).l (nth thr.l n).pc) _;rw [←hins];(refine Eq.trans ?_ (execT_6 (by assumption)).symm;rfl)
  · rw [htl] at hz;exact hz
 refine sG (oeqI _ _ rfl<|oM 1 rfl<|.nl)<|gcd rfl (fun hb73 hp73=> ?_) fun hb73 hp73=> ?_
 ·skip
  have q9:=hR.o3 (by omega)
  intro a75 w75 h75
  refine x_tail 16 [] (by kernel_rfl) (by kernel_rfl) h75 fun _ z76=>qQ h75.fr<|qRn (oM 1 rfl<|ofB fl_32_1 rfl<|olB 0 ti_3 rfl rfl<|oM 1 rfl<|ofB fl_32_2 rfl<|olB 0 ti_3 rfl rfl<|.nl)<|?_
  have hl77:regs.l.length≤140737488355328:=(h75.sh.own 5 rfl).len
  refine qRn (oxI sl_23 ti_3 (aO 5 rfl) om9 rfl<|olI ti_3 (aO 5 rfl) om9 rfl<|oM 1 rfl<|ofB fl_32_3 rfl<|olB 0 ti_3 rfl rfl<|oxI sl_23 ti_3 (aO 5 rfl) om9 rfl<|olI ti_3 (aO 5 rfl) om9 rfl<|oeqI _ _ rfl<|.nl)<|qP bd_145 rfl (fun w h=>(pbit_c (decide (nth regs.l ins.b.toNat=nth regs.l ins.c.toNat)) _))<|qRn (oxI sl_23 ti_3 (aO 5 rfl) om9 rfl<|.nl)<|qN z76<|gte 5 (bit (decide (nth regs.l ins.b.toNat=nth regs.l ins.c.toNat)):Int) ti_3 om9 rfl rfl<|nN<|fun a79 w79 h79=> ?_;clear h75
  try simp only [Exit.then,Exit.inBlock,if_true]
  refine x_end0 (fn:=Tryz.f123) rfl h79 ?_
  have hz:=(h79.sh.sel (L' := [_,_,_,_,_,_,_,_,_,_]) [2,3,4,5,6,7,8,9,10,11] rfl)
  refine ⟨rfl,⟨regs.v,regs.l.set ins.a.toNat (bit (decide (nth regs.l ins.b.toNat=nth regs.l ins.c.toNat)))⟩,⟨words.v,words.l⟩,⟨owner.v,owner.l⟩,⟨prints.v,prints.l⟩,q,nth (M.qs q) n,(nth thr.l n).pc+1,fell,(list_set_nth _ _).symm, ?_, ?_⟩
  · refine Eq.trans ?_ (doT_0 (by omega)).symm;show _=execT M.m n (nextIns (nth code.l n).l (nth thr.l n).pc) _;rw [←hins];(refine Eq.trans ?_ (execT_7 (by assumption)).symm;rfl)
  · rw [htl] at hz;exact hz
 refine sG (oeqI _ _ rfl<|oM 1 rfl<|.nl)<|gcd rfl (fun hb81 hp81=> ?_) fun hb81 hp81=> ?_
 ·skip
  refine gL<|gRn (oM 1 rfl<|ofB fl_32_1 rfl<|olB 0 ti_3 rfl rfl<|onl rfl<|ofE fl_189_0 rfl<|.nl)<|gte 4 ({ nth tl n with pc:=ins.a } :ThQ) ti_3 om9 rfl rfl<|nN<|fun a83 w83 h83=> ?_
  try simp only [Exit.then,Exit.inBlock,if_true]
  refine x_end0 (fn:=Tryz.f123) rfl h83 ?_
  have hz:=(h83.sh.sel (L' := [_,_,_,_,_,_,_,_,_,_]) [2,3,4,5,6,7,8,9,10,11] rfl)
  refine ⟨rfl,⟨regs.v,regs.l⟩,⟨words.v,words.l⟩,⟨owner.v,owner.l⟩,⟨prints.v,prints.l⟩,q,nth (M.qs q) n,ins.a,fell,(list_set_nth _ _).symm, ?_, ?_⟩
  · refine Eq.trans ?_ (doT_0 (by omega)).symm;show _=execT M.m n (nextIns (nth code.l n).l (nth thr.l n).pc) _;rw [←hins];(refine Eq.trans ?_ (execT_14 (by assumption)).symm;rfl)
  · rw [qset_pc ht htl] at hz;exact hz
 refine sG (oeqI _ _ rfl<|oM 1 rfl<|.nl)<|gcd rfl (fun hb85 hp85=> ?_) fun hb85 hp85=> ?_
 ·skip
  have q9:=hR.o15 (by omega)
  refine sK fun _ k86=>gNl (aO 5 rfl) fun hl87=>gRn (oM 1 rfl<|ofB fl_32_1 rfl<|olB 0 ti_3 rfl rfl<|oxI sl_23 ti_3 (aO 5 rfl) om9 rfl<|olI ti_3 (aO 5 rfl) om9 rfl<|oeqI _ _ rfl<|.nl)<|nK k86<|gF [4,5,172] rfl<|gcd rfl (fun hb88 hp88=> ?_) fun hb88 hp88=> ?_
  ·skip
   refine gL<|gRn (oM 1 rfl<|ofB fl_32_2 rfl<|olB 0 ti_3 rfl rfl<|onl rfl<|ofE fl_189_0 rfl<|.nl)<|gte 4 ({ nth tl n with pc:=ins.b } :ThQ) ti_3 om9 rfl rfl<|nN<|fun a90 w90 h90=> ?_
   try simp only [Exit.then,Exit.inBlock,if_true]
   refine x_end0 (fn:=Tryz.f123) rfl h90 ?_
   have hz:=(h90.sh.sel (L' := [_,_,_,_,_,_,_,_,_,_]) [2,3,4,5,6,7,8,9,10,11] rfl)
   refine ⟨rfl,⟨regs.v,regs.l⟩,⟨words.v,words.l⟩,⟨owner.v,owner.l⟩,⟨prints.v,prints.l⟩,q,nth (M.qs q) n,ins.b,fell,(list_set_nth _ _).symm, ?_, ?_⟩
   · refine Eq.trans ?_ (doT_0 (by omega)).symm;show _=execT M.m n (nextIns (nth code.l n).l (nth thr.l n).pc) _;rw [←hins];first|(refine Eq.trans ?_ (execT_15t (by assumption) (by assumption)).symm;rfl)|(refine Eq.trans ?_ (execT_15f (by assumption) (by assumption)).symm;rfl)
   · rw [qset_pc ht htl] at hz;exact hz
  refine gS<|fun a91 w91 h91=> ?_
  try simp only [Exit.then,Exit.inBlock,if_true]
  refine x_end0 (fn:=Tryz.f123) rfl h91 ?_
  have hz:=(h91.sh.sel (L' := [_,_,_,_,_,_,_,_,_,_]) [2,3,4,5,6,7,8,9,10,11] rfl)
  refine ⟨rfl,⟨regs.v,regs.l⟩,⟨words.v,words.l⟩,⟨owner.v,owner.l⟩,⟨prints.v,prints.l⟩,q,nth (M.qs q) n,(nth thr.l n).pc+1,fell,(list_set_nth _ _).symm, ?_, ?_⟩
  · refine Eq.trans ?_ (doT_0 (by omega)).symm;show _=execT M.m n (nextIns (nth code.l n).l (nth thr.l n).pc) _;rw [←hins];first|(refine Eq.trans ?_ (execT_15t (by assumption) (by assumption)).symm;rfl)|(refine Eq.trans ?_ (execT_15f (by assumption) (by assumption)).symm;rfl)
  · rw [htl] at hz;exact hz
 refine sG (oeqI _ _ rfl<|oM 1 rfl<|.nl)<|gF [0,3,5,7,178] rfl<|gcd rfl (fun hb93 hp93=> ?_) fun hb93 hp93=> ?_
 ·skip
  have q9:=hR.o15 (by omega)
  refine gNl (aO 5 rfl) fun hl94=>rC [12,13,16] (by kernel_rfl) (by kernel_rfl) rfl<|pR [0,1,2,3,4,5,6,7,8,9,10,11] rfl (by kernel_rfl) (oM 2 rfl<|onfl 2 fl_173_3 ti_23 rfl rfl<|ofB fl_179_0 rfl<|olB 1 ti_3 rfl rfl<|oM 1 rfl<|ofB fl_32_1 rfl<|olB 0 ti_3 rfl rfl<|oxI sl_23 ti_3 (aO 5 rfl) om9 rfl<|olI ti_3 (aO 5 rfl) om9 rfl<|.nl) rfl<|pX (fun _ _ h_=>x_lit (n:=2) (cs:= [.int .i64 ((n:Nat):Int), .int .i64 (nth regs.l ins.a.toNat)]) ([((n:Nat):Int),nth regs.l ins.a.toNat]:List Int) h_ sl_23 ti_3 rfl rfl rfl (by decide) rfl (by kernel_rfl) rfl (fun q hq w h=>Flat.inner _ _) (fun q hq b hb=>(Flat.on _ _ hb).elim) rfl rfl) rfl fun v95=>pR [0,1,2,3,4] rfl (by kernel_rfl) (oM 2 rfl<|onfl 3 fl_173_3 ti_23 rfl rfl<|.nl) rfl<|pX (fun _ _ h_=>x_app (r:=7) (rm:=0) (s:=prints) (m:=(⟨v95, [((n:Nat):Int),nth regs.l ins.a.toNat]⟩:Ls Int)) h_ sl_23 ti_3 rfl rfl rfl rfl rfl rfl rfl (fun w h=>(h.own 0 rfl)) (fun b hb=>own_on (h_.sh.ok _ (List.mem_of_getElem? (i:=0) rfl)) hb) (fun q hq b hb=>⟨q,hq,hb⟩) rfl rfl rfl inferInstance (show (prints.l.length+([((n:Nat):Int),nth regs.l ins.a.toNat]).length)*8≤140737488355328∧prints.l.length+([((n:Nat):Int),nth regs.l ins.a.toNat]).length≤140737488355328 from om9) rfl rfl) rfl fun v96=>pR [0,14,15] rfl (by kernel_rfl) (oM 1 rfl<|onf fl_173_3 rfl<|.nl) rfl<|pS (fun _ _ h_=>x_stb (i:=3) (vs:= [v96]) (cs' := [.iface M.T (.pointer (some M.u)), .pointer (some ⟨gp,0,none⟩),thr.v,v96, .bool fell]) h_ ti_23 rfl rfl rfl rfl rfl (cells_oneL ((h_.sh.own 7 rfl)).one) rfl (allOne_cons ((h_.sh.own 7 rfl)).one allOne_nil) (Nat.le_of_ble_eq_true rfl) rfl) rfl<|pE [] rfl (by kernel_rfl) (.nl) rfl<|fun a98 w98 h98=> ?_
  try simp only [Exit.then,Exit.inBlock,if_true]
  refine x_end0 (fn:=Tryz.f123) rfl h98 ?_
  have hz:=(h98.sh.sel (L' := [_,_,_,_,_,_,_,_,_,_]) [3,4,5,6,7,8,9,10,11,12] rfl)
  refine ⟨rfl,⟨regs.v,regs.l⟩,⟨words.v,words.l⟩,⟨owner.v,owner.l⟩,⟨v96,prints.l++([((n:Nat):Int),nth regs.l ins.a.toNat])⟩,q,nth (M.qs q) n,(nth thr.l n).pc+1,fell,(list_set_nth _ _).symm, ?_, ?_⟩
  · refine Eq.trans ?_ (doT_0 (by omega)).symm;show _=execT M.m n (nextIns (nth code.l n).l (nth thr.l n).pc) _;rw [←hins];(refine Eq.trans ?_ (execT_16 (by assumption)).symm;rfl)
  · rw [htl] at hz;exact hz
 refine gL<|gRn (oM 1 rfl<|ofB fl_179_0 rfl<|olB 1 ti_3 rfl rfl<|olw 0 ti_32 rfl rfl<|.nl)<|gO [2,3,4,5,6,7,8,9,10,11,0,1] rfl<|fun a104 w104 h104=> ?_
 have hp103:=h104.sh.passL (Lp:= [_,_,_,_,_,_,_,_,_,_])
 refine wl_ex (x_call h104 bd_146 rfl rfl rfl rfl rfl (pmem_c _ M g gp code (⟨thr.v,tl⟩:Ls ThQ) regs prints words owner q _ _ _ fell n ins _ hM hp103 (by show n<tl.length;omega) htn hrv2 hqn hwl hwh0 hge hR (by omega) hab)) (wanted_none rfl _) ?_
 rintro a105 w105 ⟨_,⟨rfl,regs105,words105,owner105,prints105,q105,wt105,pc105,fell105,hmq105,hmy105,hs105⟩,hf105⟩
 change Sh _ _ _ [.blk g 173 [.iface M.T (.pointer (some M.u)), .pointer (some ⟨gp,0,none⟩),thr.v,prints105.v, .bool fell105], .rblk gp 25 [code.v,pw, .int .i64 locks, .int .i64 nregs], .own 189 (⟨thr.v,tl.set n ⟨pc105,regs105.v⟩⟩:Ls ThQ), .own 3 regs105, .own 3 prints105, .blk M.g0 182 [words105.v,owner105.v], .own 3 words105, .own 3 owner105,M.X q105, .at_ code] at hs105
 have h105:St 196 K W a105 w105 _ [_,_,_,_,_,_,_,_,_,_,_,_]:=⟨hf105,h104.sh.backL (Lp:= [_,_,_,_,_,_,_,_,_,_]) hs105 (by intro A hA b hb;simp only [List.mem_cons,List.not_mem_nil,or_false] at hA;rcases hA with rfl|rfl|rfl|rfl|rfl|rfl|rfl|rfl|rfl|rfl<;>first|exact (hb:False).elim|exact Flat.noRd hb|exact .inl ⟨_,List.mem_cons_self .., .inr hb⟩|exact rdX hM hb|exact .inl ⟨_,List.mem_of_getElem? (i:=1) rfl, .inr hb⟩|exact .inl ⟨_,List.mem_of_getElem? (i:=9) rfl, .inr hb⟩|exact .inl ⟨_,by simp, .inr hb⟩)⟩
 clear hf105 hs105
 clear h104
 refine gG h105<|nN<|fun a106 w106 h106=> ?_;clear h105
 try simp only [Exit.then,Exit.inBlock,if_true]
 refine x_end0 (fn:=Tryz.f123) rfl h106 ?_
 have hz:=(h106.sh.sel (L' := [_,_,_,_,_,_,_,_,_,_]) [0,1,2,3,4,5,6,7,8,9] rfl)
 refine ⟨rfl,regs105,words105,owner105,prints105,q105,wt105,pc105,fell105,hmq105, ?_, ?_⟩
 · refine Eq.trans hmy105 ?_;refine Eq.trans ?_ (doT_0 (by omega)).symm;show _=execT M.m n (nextIns (nth code.l n).l (nth thr.l n).pc) _;rw [←hins];show execT M.m n ins ⟨(nth tl n).pc,_,_,_,_,_,_⟩=_;rw [hpc2]
 · rw [htl,List.set_set] at hz;exact hz
end Go.Proofs.YtmjkobhkkjgplaaGreatDoor
