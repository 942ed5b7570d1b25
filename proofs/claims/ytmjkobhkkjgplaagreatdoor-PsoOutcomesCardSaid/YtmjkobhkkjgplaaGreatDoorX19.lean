/- Contracts of functions of this program and of the references, each walked once. -/
import Derived.Test.YtmjkobhkkjgplaaGreatDoorX18
import Derived.Test.YtmjkobhkkjgplaaGreatDoorS9
namespace Go.Proofs.YtmjkobhkkjgplaaGreatDoor
open Go.RowKit
set_option linter.unusedSimpArgs false
set_option linter.unusedVariables false
set_option maxRecDepth 100000
set_option maxHeartbeats 4000000
def wtN (x:Wt):List Int:= [if x.lock=true then 1 else 0,x.wh,x.what]
theorem wtN_t {x:Wt} (h:x.lock=true):wtN x= [1,x.wh,x.what]:=by simp [wtN,h]
theorem wtN_f {x:Wt} (h:x.lock=false):wtN x= [0,x.wh,x.what]:=by simp [wtN,h]
def thN (x:Th):List Int:= [x.pc,(x.wait.length:Int)]++x.regs++x.wait.flatMap wtN
def numbersL (ths:List Th) (words owner prints:List Int):List Int:=ths.flatMap thN++words++owner++prints
theorem flatMap_succ {α β:Type} [Inhabited α] (f:α→List β) (l:List α) (i:Nat) (h:i<l.length):(l.take (i+1)).flatMap f=(l.take i).flatMap f++f (nth l i):=by
 rw [take_succ_nth _ _ h];simp
theorem numbers_c (g:Nat) (thr:Ls ThL) (words owner prints:Ls Int) (cv pw:Value) (locks nregs mode:Int) (fell:Bool) (W:World) (hB:Blk W g 111 #[cv,pw, .int .i64 locks, .int .i64 nregs, .int .i64 mode,thr.v,words.v,owner.v,prints.v, .bool fell]) (h_thr:thr.At W) (h_words:words.At W) (h_owner:owner.At W) (h_prints:prints.At W) (hcl:thr.l.length≤4) (hrg:∀i,i<thr.l.length→(nth thr.l i).regs.l.length≤100000) (hwl:∀i,i<thr.l.length→(nth thr.l i).wait.l.length≤3) (hwn:words.l.length≤100000∧owner.l.length≤100000∧prints.l.length≤100000000):
    Rets Tryz.prog 106 [.pointer (some ⟨g,0,none⟩)] W (fun v w' =>∃s:Ls Int,v=s.v∧s.l=numbersL (thr.l.map ThL.th) words.l owner.l prints.l∧Sh0 W w' [.own 3 s]):=by
 refine gen Tryz.func106 Tryz.ntmps106 (Sh0.ext (by intro A hA;simp at hA;rcases hA with rfl|rfl|rfl|rfl|rfl;exact hB;exact h_thr;exact h_words;exact h_owner;exact h_prints) (by intro A hA b hb;simp at hA;rcases hA with rfl|rfl|rfl|rfl|rfl<;>exact hb):Sh (fun _=>False) W W [.rblk g 111 [cv,pw, .int .i64 locks, .int .i64 nregs, .int .i64 mode,thr.v,words.v,owner.v,prints.v, .bool fell], .at_ thr, .at_ words, .at_ owner, .at_ prints]) rfl fun a10 h10=>gG h10<|sG (oM 1 rfl<|.nl)<|sG (oM 1 rfl<|.nl)<|gK fun _ k13=>sG (oM 1 rfl<|.nl)<|gB<|fun a17 w17 h17=> ?_;clear h10
 have h16:=h17.nil (α:=Int) 3
 clear h17
 refine x_loop (fun m a w=>∃(i:Nat) (ml:List Int) (vm:Value),(i≤thr.l.length)∧(ml=((thr.l.take i).map ThL.th).flatMap thN)∧(ml.length≤200000*i)∧St 83 (fun _=>False) W a w [(0, .pointer (some ⟨g,0,none⟩)),(3,vm),(4, .int .i64 ((i:Nat):Int))] [.rblk g 111 [cv,pw, .int .i64 locks, .int .i64 nregs, .int .i64 mode,thr.v,words.v,owner.v,prints.v, .bool fell], .at_ thr, .at_ words, .at_ owner, .at_ prints, .own 3 (⟨vm,ml⟩:Ls Int)]∧m=thr.l.length-i) ⟨_,0, [],(.slice none 0 0),(by omega),(by simp),(by simp),h16.nrm ⟨rfl,rfl,rfl,trivial⟩ [1,2,3,4,5,0] rfl,rfl⟩ ?_
 clear h16
 rintro m15 a15 w15 ⟨i,ml,vm,hi,hml,hmn,h15,hm15⟩
 refine gG h15<|gK fun _ k18=>sK fun _ k19=>gNl (aA 1 rfl) fun hl20=>gRn (oM 2 rfl<|onf fl_111_2 rfl<|olR 0 ti_109 rfl rfl<|oln sl_109 (aA 1 rfl) rfl<|oltN _ _ rfl<|.nl)<|nK k19<|?_;clear h15
 refine gcd rfl (fun hb21 hp21=> ?_) fun hb21 hp21=> ?_
 ·skip
  refine gS<|hK k18<|?_
  have hrgi:=hrg i (by omega)
  have hwli:=hwl i (by omega)
  refine gK fun _ k22=>gB<|sK fun _ k23=>gRn (oM 1 rfl<|onf fl_111_2 rfl<|olR 0 ti_109 rfl rfl<|oM 1 rfl<|oxN sl_109 ti_119 (aA 1 rfl) _ om9 rfl<|olw2 [.int .i64 ((nth thr.l i).pc),((nth thr.l i).regs).v,((nth thr.l i).wait).v] ti_119 (aA 1 rfl) om9 rfl<|.nl)<|gal ti_119 rfl fun b24=>gE (fun _ _ h_=>x_stb (i:=0) (vs:= [.int .i64 ((nth thr.l i).pc),((nth thr.l i).regs).v,((nth thr.l i).wait).v]) (cs' := [.int .i64 ((nth thr.l i).pc),((nth thr.l i).regs).v,((nth thr.l i).wait).v]) h_ ti_119 rfl rfl rfl rfl rfl rfl rfl (allOne_cons rfl (allOne_cons (((h_.sh.at 2 rfl).inner i (show i<thr.l.length from om9)).1).one (allOne_cons (((h_.sh.at 2 rfl).inner i (show i<thr.l.length from om9)).2).one allOne_nil))) (Nat.le_of_ble_eq_true rfl) rfl) rfl<|nK k23<|sK fun _ k26=>gNl (fun w h=>((h.at 2 rfl).inner i (show i<thr.l.length from (by omega))).2) fun (hl27:(((nth thr.l i).wait).l).length≤140737488355328)=>gRn (oM 1 rfl<|ofB fl_119_0 rfl<|olB 0 ti_3 rfl rfl<|ofB fl_119_2 rfl<|olB 0 ti_117 rfl rfl<|oln (n:=(((nth thr.l i).wait).l).length) sl_117 (fun w h=>((h.at 2 rfl).inner i (show i<thr.l.length from (by omega))).2) rfl<|.nl)<|gE1 (fun _ _ h_=>x_lit (n:=2) (cs:= [.int .i64 ((nth thr.l i).pc), .int .i64 (((((nth thr.l i).wait).l).length:Nat):Int)]) ([(nth thr.l i).pc,(((((nth thr.l i).wait).l).length:Nat):Int)]:List Int) h_ sl_23 ti_3 rfl rfl rfl (by decide) rfl (by kernel_rfl) rfl (fun q hq w h=>Flat.inner _ _) (fun q hq b hb=>(Flat.on _ _ hb).elim) rfl rfl) rfl fun v28=>gE1 (fun _ _ h_=>x_app (r:=7) (rm:=0) (s:=(⟨vm,ml⟩:Ls Int)) (m:=(⟨v28, [(nth thr.l i).pc,(((((nth thr.l i).wait).l).length:Nat):Int)]⟩:Ls Int)) h_ sl_23 ti_3 rfl rfl rfl rfl rfl rfl rfl (fun w h=>(h.own 0 rfl)) (fun b hb=>own_on (h_.sh.ok _ (List.mem_of_getElem? (i:=0) rfl)) hb) (fun q hq b hb=>⟨q,hq,hb⟩) rfl rfl rfl inferInstance (show (ml.length+([(nth thr.l i).pc,(((((nth thr.l i).wait).l).length:Nat):Int)]).length)*8≤140737488355328∧ml.length+([(nth thr.l i).pc,(((((nth thr.l i).wait).l).length:Nat):Int)]).length≤140737488355328 from om9) rfl rfl) rfl fun v29=>gRn (oM 1 rfl<|.nl)<|nK k26<|sK fun _ k30=>gRn (oM 1 rfl<|ofB fl_119_1 rfl<|olB 1 ti_23 rfl rfl<|.nl)<|gE1 (fun _ _ h_=>x_app (r:=7) (rm:=3) (s:=(⟨v29,ml++([(nth thr.l i).pc,(((((nth thr.l i).wait).l).length:Nat):Int)])⟩:Ls Int)) (m:=(nth thr.l i).regs) h_ sl_23 ti_3 rfl rfl rfl rfl rfl rfl rfl (fun w h=>((h.at 3 rfl).inner i (show i<thr.l.length from om9)).1) (fun b hb=> .inr (.inr ⟨i,(show i<thr.l.length from om9), .inl hb⟩)) (fun q hq b hb=>(Flat.on _ _ hb).elim) rfl rfl rfl inferInstance (show ((ml++([(nth thr.l i).pc,(((((nth thr.l i).wait).l).length:Nat):Int)])).length+(((nth thr.l i).regs).l).length)*8≤140737488355328∧(ml++([(nth thr.l i).pc,(((((nth thr.l i).wait).l).length:Nat):Int)])).length+(((nth thr.l i).regs).l).length≤140737488355328 from om9) rfl rfl) rfl fun v31=>gRn (oM 1 rfl<|.nl)<|nK k30<|gF [0,3,4,5] rfl<|sG (oM 1 rfl<|.nl)<|gB<|fun a34 w34 h34=>x_loop (fun m a w=>∃(k:Nat) (ml2:List Int) (vm2:Value),(k≤(nth thr.l i).wait.l.length)∧(ml2=ml++([(nth thr.l i).pc,((nth thr.l i).wait.l.length:Int)]++(nth thr.l i).regs.l++((nth thr.l i).wait.l.take k).flatMap wtN))∧(ml2.length≤ml.length+2+(nth thr.l i).regs.l.length+3*k)∧St 83 (fun _=>False) W a w [(0, .pointer (some ⟨g,0,none⟩)),(3,vm2),(4, .int .i64 ((i:Nat):Int)),(5, .pointer (some ⟨b24,0,none⟩)),(6, .int .i64 ((k:Nat):Int))] [.own 3 (⟨v28, [(nth thr.l i).pc,(((((nth thr.l i).wait).l).length:Nat):Int)]⟩:Ls Int), .blk b24 119 [.int .i64 ((nth thr.l i).pc),((nth thr.l i).regs).v,((nth thr.l i).wait).v], .rblk g 111 [cv,pw, .int .i64 locks, .int .i64 nregs, .int .i64 mode,thr.v,words.v,owner.v,prints.v, .bool fell], .at_ thr, .at_ words, .at_ owner, .at_ prints, .own 3 (⟨vm2,ml2⟩:Ls Int)]∧m=(nth thr.l i).wait.l.length-k) ⟨_,0,(ml++([(nth thr.l i).pc,(((((nth thr.l i).wait).l).length:Nat):Int)]))++(((nth thr.l i).regs).l),v31,(by omega),(by simp),(by simp;omega),h34.nf ⟨rfl,rfl,rfl,rfl,rfl,trivial⟩,rfl⟩ ?_
  clear h34
  rintro m33 a33 w33 ⟨k,ml2,vm2,hk,hml2,hmn2,h33,hm33⟩
  refine gG h33<|gK fun _ k35=>sG (oM 1 rfl<|ofB fl_119_2 rfl<|olB 1 ti_117 rfl rfl<|oln (n:=(((nth thr.l i).wait).l).length) sl_117 (fun w h=>((h.at 3 rfl).inner i (show i<thr.l.length from (by omega))).2) rfl<|oltN _ _ rfl<|.nl)<|?_;clear h33
  refine gcd rfl (fun hb37 hp37=> ?_) fun hb37 hp37=> ?_
  ·skip
   refine gS<|hK k35<|gK fun _ k38=>gB<|sG (oM 1 rfl<|.nl)<|gK fun _ k40=>sG (ofB fl_119_2 rfl<|olB 1 ti_117 rfl rfl<|oM 1 rfl<|oxN sl_117 ti_167 (fun w h=>((h.at 3 rfl).inner i (show i<thr.l.length from (by omega))).2) _ om9 rfl<|ofE fl_167_0 rfl<|olE (.bool ((nth (((nth thr.l i).wait).l) k).lock)) ti_4 (fun w h=>((h.at 3 rfl).inner i (show i<thr.l.length from (by omega))).2) om9 rfl<|.nl)<|gCb rfl (fun hb42=> ?_) fun hb42=> ?_
   ·skip
    refine gL<|gRn (oM 1 rfl<|.nl)<|nK k40<|rT 14 [0] (by kernel_rfl) (by kernel_rfl) (oM 2 rfl<|ofB fl_119_2 rfl<|olB 1 ti_117 rfl rfl<|oM 1 rfl<|oxN sl_117 ti_167 (fun w h=>((h.at 3 rfl).inner i (show i<thr.l.length from (by omega))).2) _ om9 rfl<|ofE fl_167_1 rfl<|olE (.int .i64 ((nth (((nth thr.l i).wait).l) k).wh)) ti_3 (fun w h=>((h.at 3 rfl).inner i (show i<thr.l.length from (by omega))).2) om9 rfl<|ofB fl_119_2 rfl<|olB 1 ti_117 rfl rfl<|oM 1 rfl<|oxN sl_117 ti_167 (fun w h=>((h.at 3 rfl).inner i (show i<thr.l.length from (by omega))).2) _ om9 rfl<|ofE fl_167_2 rfl<|olE (.int .i64 ((nth (((nth thr.l i).wait).l) k).what)) ti_3 (fun w h=>((h.at 3 rfl).inner i (show i<thr.l.length from (by omega))).2) om9 rfl<|.nl)<|gE1 (fun _ _ h_=>x_lit (n:=3) (cs:= [.int .i64 1, .int .i64 ((nth (((nth thr.l i).wait).l) k).wh), .int .i64 ((nth (((nth thr.l i).wait).l) k).what)]) ([1,(nth (((nth thr.l i).wait).l) k).wh,(nth (((nth thr.l i).wait).l) k).what]:List Int) h_ sl_23 ti_3 rfl rfl rfl (by decide) rfl (by kernel_rfl) rfl (fun q hq w h=>Flat.inner _ _) (fun q hq b hb=>(Flat.on _ _ hb).elim) rfl rfl) rfl fun v43=>gE1 (fun _ _ h_=>x_app (r:=8) (rm:=0) (s:=(⟨vm2,ml2⟩:Ls Int)) (m:=(⟨v43, [1,(nth (((nth thr.l i).wait).l) k).wh,(nth (((nth thr.l i).wait).l) k).what]⟩:Ls Int)) h_ sl_23 ti_3 rfl rfl rfl rfl rfl rfl rfl (fun w h=>(h.own 0 rfl)) (fun b hb=>own_on (h_.sh.ok _ (List.mem_of_getElem? (i:=0) rfl)) hb) (fun q hq b hb=>⟨q,hq,hb⟩) rfl rfl rfl inferInstance (show (ml2.length+([1,(nth (((nth thr.l i).wait).l) k).wh,(nth (((nth thr.l i).wait).l) k).what]).length)*8≤140737488355328∧ml2.length+([1,(nth (((nth thr.l i).wait).l) k).wh,(nth (((nth thr.l i).wait).l) k).what]).length≤140737488355328 from om9) rfl rfl) rfl fun v44=>gRn (oM 1 rfl<|.nl)<|nK k38<|gF [0,3,4,5,6] rfl<|gL<|gRn (oM 1 rfl<|oadN _ 1 om9 rfl<|oM 1 rfl<|.nl)<|nN<|fun a45 w45 h45=>x_again ⟨_, ?_,k+1,ml2++([1,(nth (((nth thr.l i).wait).l) k).wh,(nth (((nth thr.l i).wait).l) k).what]),v44, ?_, ?_, ?_,h45.nrm ⟨rfl,rfl,rfl,rfl,rfl,trivial⟩ [1,2,3,4,5,6,7,8] rfl,rfl⟩
    · rw [hm33];first|omega|(simp only [lens9];omega)
    · omega
    · first|(rw [flatMap_succ _ _ _ (by omega),hml2,wtN_t (by assumption)];simp only [List.append_assoc];done)|(rw [flatMap_succ _ _ _ (by omega),hml2,wtN_f (by assumption)];simp only [List.append_assoc];done)
    · simp;omega
   refine gS<|hK k40<|rT 14 [0] (by kernel_rfl) (by kernel_rfl) (oM 2 rfl<|ofB fl_119_2 rfl<|olB 1 ti_117 rfl rfl<|oM 1 rfl<|oxN sl_117 ti_167 (fun w h=>((h.at 3 rfl).inner i (show i<thr.l.length from (by omega))).2) _ om9 rfl<|ofE fl_167_1 rfl<|olE (.int .i64 ((nth (((nth thr.l i).wait).l) k).wh)) ti_3 (fun w h=>((h.at 3 rfl).inner i (show i<thr.l.length from (by omega))).2) om9 rfl<|ofB fl_119_2 rfl<|olB 1 ti_117 rfl rfl<|oM 1 rfl<|oxN sl_117 ti_167 (fun w h=>((h.at 3 rfl).inner i (show i<thr.l.length from (by omega))).2) _ om9 rfl<|ofE fl_167_2 rfl<|olE (.int .i64 ((nth (((nth thr.l i).wait).l) k).what)) ti_3 (fun w h=>((h.at 3 rfl).inner i (show i<thr.l.length from (by omega))).2) om9 rfl<|.nl)<|gE1 (fun _ _ h_=>x_lit (n:=3) (cs:= [.int .i64 0, .int .i64 ((nth (((nth thr.l i).wait).l) k).wh), .int .i64 ((nth (((nth thr.l i).wait).l) k).what)]) ([0,(nth (((nth thr.l i).wait).l) k).wh,(nth (((nth thr.l i).wait).l) k).what]:List Int) h_ sl_23 ti_3 rfl rfl rfl (by decide) rfl (by kernel_rfl) rfl (fun q hq w h=>Flat.inner _ _) (fun q hq b hb=>(Flat.on _ _ hb).elim) rfl rfl) rfl fun v46=>gE1 (fun _ _ h_=>x_app (r:=8) (rm:=0) (s:=(⟨vm2,ml2⟩:Ls Int)) (m:=(⟨v46, [0,(nth (((nth thr.l i).wait).l) k).wh,(nth (((nth thr.l i).wait).l) k).what]⟩:Ls Int)) h_ sl_23 ti_3 rfl rfl rfl rfl rfl rfl rfl (fun w h=>(h.own 0 rfl)) (fun b hb=>own_on (h_.sh.ok _ (List.mem_of_getElem? (i:=0) rfl)) hb) (fun q hq b hb=>⟨q,hq,hb⟩) rfl rfl rfl inferInstance (show (ml2.length+([0,(nth (((nth thr.l i).wait).l) k).wh,(nth (((nth thr.l i).wait).l) k).what]).length)*8≤140737488355328∧ml2.length+([0,(nth (((nth thr.l i).wait).l) k).wh,(nth (((nth thr.l i).wait).l) k).what]).length≤140737488355328 from om9) rfl rfl) rfl fun v47=>gRn (oM 1 rfl<|.nl)<|nK k38<|gF [0,3,4,5,6] rfl<|gL<|gRn (oM 1 rfl<|oadN _ 1 om9 rfl<|oM 1 rfl<|.nl)<|nN<|fun a48 w48 h48=>x_again ⟨_, ?_,k+1,ml2++([0,(nth (((nth thr.l i).wait).l) k).wh,(nth (((nth thr.l i).wait).l) k).what]),v47, ?_, ?_, ?_,h48.nrm ⟨rfl,rfl,rfl,rfl,rfl,trivial⟩ [1,2,3,4,5,6,7,8] rfl,rfl⟩
   · rw [hm33];first|omega|(simp only [lens9];omega)
   · omega
   · first|(rw [flatMap_succ _ _ _ (by omega),hml2,wtN_t (by assumption)];simp only [List.append_assoc];done)|(rw [flatMap_succ _ _ _ (by omega),hml2,wtN_f (by assumption)];simp only [List.append_assoc];done)
   · simp;omega
  refine gX<|hK k22<|gL<|gRn (oM 1 rfl<|oadN _ 1 om9 rfl<|oM 1 rfl<|.nl)<|nN<|fun a49 w49 h49=>x_again ⟨_, ?_,i+1,ml2,vm2, ?_, ?_, ?_,h49.nrm ⟨rfl,rfl,rfl,trivial⟩ [2,3,4,5,6,7] rfl,rfl⟩
  · rw [hm15];first|omega|(simp only [lens9];omega)
  · omega
  · rw [take_succ_nth _ _ (by omega),List.map_append,List.flatMap_append,←hml,hml2,show k=(nth thr.l i).wait.l.length by omega];simp [thN,ThL.th,List.take_of_length_le]
  · have:=hrg i (by omega);have:=hwl i (by omega);omega
 refine gX<|hK k13<|sK fun _ k50=>gRn (oM 2 rfl<|onf fl_111_3 rfl<|olR 0 ti_23 rfl rfl<|.nl)<|gE1 (fun _ _ h_=>x_app (r:=5) (rm:=2) (s:=(⟨vm,ml⟩:Ls Int)) (m:=words) h_ sl_23 ti_3 rfl rfl rfl rfl rfl rfl rfl (fun w h=>(h.at 2 rfl)) (fun b hb=> .inr hb) (fun q hq b hb=> .inr ⟨q,hq,hb⟩) rfl rfl rfl inferInstance (show (ml.length+words.l.length)*8≤140737488355328∧ml.length+words.l.length≤140737488355328 from om9) rfl rfl) rfl fun v51=>gRn (oM 1 rfl<|.nl)<|nK k50<|sK fun _ k52=>gRn (oM 2 rfl<|onf fl_111_4 rfl<|olR 0 ti_23 rfl rfl<|.nl)<|gE1 (fun _ _ h_=>x_app (r:=5) (rm:=3) (s:=(⟨v51,ml++words.l⟩:Ls Int)) (m:=owner) h_ sl_23 ti_3 rfl rfl rfl rfl rfl rfl rfl (fun w h=>(h.at 3 rfl)) (fun b hb=> .inr hb) (fun q hq b hb=> .inr ⟨q,hq,hb⟩) rfl rfl rfl inferInstance (show ((ml++words.l).length+owner.l.length)*8≤140737488355328∧(ml++words.l).length+owner.l.length≤140737488355328 from om9) rfl rfl) rfl fun v53=>gRn (oM 1 rfl<|.nl)<|nK k52<|sK fun _ k54=>gRn (oM 2 rfl<|onf fl_111_5 rfl<|olR 0 ti_23 rfl rfl<|.nl)<|gE1 (fun _ _ h_=>x_app (r:=5) (rm:=4) (s:=(⟨v53,(ml++words.l)++owner.l⟩:Ls Int)) (m:=prints) h_ sl_23 ti_3 rfl rfl rfl rfl rfl rfl rfl (fun w h=>(h.at 4 rfl)) (fun b hb=> .inr hb) (fun q hq b hb=> .inr ⟨q,hq,hb⟩) rfl rfl rfl inferInstance (show (((ml++words.l)++owner.l).length+prints.l.length)*8≤140737488355328∧((ml++words.l)++owner.l).length+prints.l.length≤140737488355328 from om9) rfl rfl) rfl fun v55=>gRn (oM 1 rfl<|.nl)<|nK k54<|gF [2] rfl<|gR<|fun a56 w56 h56=> ?_
 try simp only [Exit.then,Exit.inBlock]
 refine x_ret1 (fn:=Tryz.f106) (t:=2) rfl h56 rfl<|⟨⟨v55,((ml++words.l)++owner.l)++prints.l⟩,rfl, ?_,(h56.sh.sel [5] rfl)⟩
 show _++_++_++_=_;rw [hml,show i=thr.l.length by omega,List.take_length];rfl
theorem copy_c (g:Nat) (thr:Ls ThL) (words owner prints:Ls Int) (cv pw:Value) (locks nregs mode:Int) (fell:Bool) (W:World) (hB:Blk W g 111 #[cv,pw, .int .i64 locks, .int .i64 nregs, .int .i64 mode,thr.v,words.v,owner.v,prints.v, .bool fell]) (h_thr:thr.At W) (h_words:words.At W) (h_owner:owner.At W) (h_prints:prints.At W) (hcl:thr.l.length≤4) (hrg:∀i,i<thr.l.length→(nth thr.l i).regs.l.length≤100000) (hwl:∀i,i<thr.l.length→(nth thr.l i).wait.l.length≤3) (hwn:words.l.length≤100000∧owner.l.length≤100000∧prints.l.length≤100000000):
    Rets Tryz.prog 72 [.pointer (some ⟨g,0,none⟩)] W (fun v w' =>∃(g2:Nat) (rows:List ThL) (vt:Value) (words' owner' prints' :Ls Int),v= .pointer (some ⟨g2,0,none⟩)∧rows.map ThL.th=thr.l.map ThL.th∧words'.l=words.l∧owner'.l=owner.l∧prints'.l=prints.l∧Sh0 W w' [.blk g2 111 [cv,pw, .int .i64 locks, .int .i64 nregs, .int .i64 mode,vt,words'.v,owner'.v,prints'.v, .bool fell], .own 119 (⟨vt,rows.map ThL.toV⟩:Ls ThV), .big (rowsA 3 167 rows), .own 3 words', .own 3 owner', .own 3 prints']):=by
 refine gen Tryz.func72 Tryz.ntmps72 (Sh0.ext (by intro A hA;simp at hA;rcases hA with rfl|rfl|rfl|rfl|rfl;exact hB;exact h_thr;exact h_words;exact h_owner;exact h_prints) (by intro A hA b hb;simp at hA;rcases hA with rfl|rfl|rfl|rfl|rfl<;>exact hb):Sh (fun _=>False) W W [.rblk g 111 [cv,pw, .int .i64 locks, .int .i64 nregs, .int .i64 mode,thr.v,words.v,owner.v,prints.v, .bool fell], .at_ thr, .at_ words, .at_ owner, .at_ prints]) rfl fun a10 h10=>gG h10<|sG (oM 1 rfl<|.nl)<|gK fun _ k12=>rT 13 [] (by kernel_rfl) (by kernel_rfl) (oM 1 rfl<|onf fl_111_0 rfl<|oV (r_ldbwR (vs:= [cv,pw, .int .i64 locks, .int .i64 nregs]) ti_25 rfl rfl (fun w h=>h.rblk 0 rfl) rfl rfl) rfl<|oM 1 rfl<|onf fl_111_1 rfl<|olR 0 ti_3 rfl rfl<|oM 1 rfl<|onf fl_111_6 rfl<|olR 0 ti_4 rfl rfl<|oV (r_build (cs:= [cv,pw, .int .i64 locks, .int .i64 nregs, .int .i64 mode,(.slice none 0 0),(.slice none 0 0),(.slice none 0 0),(.slice none 0 0), .bool fell]) rfl rfl (by kernel_rfl)) rfl<|.nl)<|gbx rfl rfl fun b13=>gRn (oM 1 rfl<|.nl)<|nK k12<|sK fun _ k14=>gRn (oM 1 rfl<|.nl)<|gE1 (fun _ _ h_=>x_lit0 (α:=Int) h_ sl_23 ti_3 rfl rfl rfl) rfl fun v15=>gRn (oM 1 rfl<|onf fl_111_3 rfl<|olR 2 ti_23 rfl rfl<|.nl)<|gE1 (fun _ _ h_=>x_app (r:=0) (rm:=4) (s:=(⟨v15, []⟩:Ls Int)) (m:=words) h_ sl_23 ti_3 rfl rfl rfl rfl rfl rfl rfl (fun w h=>(h.at 4 rfl)) (fun b hb=> .inr hb) (fun q hq b hb=> .inr ⟨q,hq,hb⟩) rfl rfl rfl inferInstance (show (([]).length+words.l.length)*8≤140737488355328∧([]).length+words.l.length≤140737488355328 from om9) rfl rfl) rfl fun v16=>gRn (onf fl_111_3 rfl<|.nl)<|gsr 1 ti_23 rfl (aO 0 rfl) rfl<|nK k14<|gF [0,3] rfl<|sK fun _ k18=>gRn (oM 1 rfl<|.nl)<|gE1 (fun _ _ h_=>x_lit0 (α:=Int) h_ sl_23 ti_3 rfl rfl rfl) rfl fun v19=>gRn (oM 1 rfl<|onf fl_111_4 rfl<|olR 3 ti_23 rfl rfl<|.nl)<|gE1 (fun _ _ h_=>x_app (r:=0) (rm:=6) (s:=(⟨v19, []⟩:Ls Int)) (m:=owner) h_ sl_23 ti_3 rfl rfl rfl rfl rfl rfl rfl (fun w h=>(h.at 6 rfl)) (fun b hb=> .inr hb) (fun q hq b hb=> .inr ⟨q,hq,hb⟩) rfl rfl rfl inferInstance (show (([]).length+owner.l.length)*8≤140737488355328∧([]).length+owner.l.length≤140737488355328 from om9) rfl rfl) rfl fun v20=>gRn (onf fl_111_4 rfl<|.nl)<|gsr 2 ti_23 rfl (aO 0 rfl) rfl<|nK k18<|sK fun _ k22=>gRn (oM 1 rfl<|.nl)<|gE1 (fun _ _ h_=>x_lit0 (α:=Int) h_ sl_23 ti_3 rfl rfl rfl) rfl fun v23=>gRn (oM 1 rfl<|onf fl_111_5 rfl<|olR 4 ti_23 rfl rfl<|.nl)<|gE1 (fun _ _ h_=>x_app (r:=0) (rm:=8) (s:=(⟨v23, []⟩:Ls Int)) (m:=prints) h_ sl_23 ti_3 rfl rfl rfl rfl rfl rfl rfl (fun w h=>(h.at 8 rfl)) (fun b hb=> .inr hb) (fun q hq b hb=> .inr ⟨q,hq,hb⟩) rfl rfl rfl inferInstance (show (([]).length+prints.l.length)*8≤140737488355328∧([]).length+prints.l.length≤140737488355328 from om9) rfl rfl) rfl fun v24=>gRn (onf fl_111_5 rfl<|.nl)<|gsr 3 ti_23 rfl (aO 0 rfl) rfl<|nK k22<|gK fun _ k26=>sG (oM 1 rfl<|.nl)<|gB<|fun a30 w30 h30=> ?_;clear h10
 have h29:=h30.nil (α:=ThV) 119
 clear h30
 have h31:=h29.big0 3 167
 clear h29
 refine x_loop (fun m a w=>∃(i:Nat) (rows:List ThL) (vt:Value),(i≤thr.l.length)∧(rows.length=i)∧(rows.map ThL.th=(thr.l.take i).map ThL.th)∧St 98 (fun _=>False) W a w [(0, .pointer (some ⟨g,0,none⟩)),(3, .pointer (some ⟨b13,0,none⟩)),(4, .int .i64 ((i:Nat):Int))] [.own 3 (⟨v24,prints.l⟩:Ls Int), .own 3 (⟨v20,owner.l⟩:Ls Int), .own 3 (⟨v16,words.l⟩:Ls Int), .blk b13 111 [cv,pw, .int .i64 locks, .int .i64 nregs, .int .i64 mode,vt,v16,v20,v24, .bool fell], .rblk g 111 [cv,pw, .int .i64 locks, .int .i64 nregs, .int .i64 mode,thr.v,words.v,owner.v,prints.v, .bool fell], .at_ thr, .at_ words, .at_ owner, .at_ prints, .own 119 (⟨vt,rows.map ThL.toV⟩:Ls ThV), .big (rowsA 3 167 rows)]∧m=thr.l.length-i) ⟨_,0, [],_,(by omega),(rfl),(by simp),h31.nrm ⟨rfl,rfl,rfl,trivial⟩ [2,3,4,5,6,7,8,9,10,1,0] rfl,rfl⟩ ?_
 clear h31
 rintro m28 a28 w28 ⟨i,rows,vt,hi,hrl,hrw,h28,hm28⟩
 refine gG h28<|gK fun _ k32=>sK fun _ k33=>gNl (aA 5 rfl) fun hl34=>gRn (oM 2 rfl<|onf fl_111_2 rfl<|olR 4 ti_109 rfl rfl<|oln sl_109 (aA 5 rfl) rfl<|oltN _ _ rfl<|.nl)<|nK k33<|?_;clear h28
 refine gcd rfl (fun hb35 hp35=> ?_) fun hb35 hp35=> ?_
 ·skip
  refine gS<|hK k32<|?_
  have hrgi:=hrg i (by omega)
  have hwli:=hwl i (by omega)
  refine gK fun _ k36=>gB<|sK fun _ k37=>gRn (oM 1 rfl<|onf fl_111_2 rfl<|olR 4 ti_109 rfl rfl<|oM 1 rfl<|oxN sl_109 ti_119 (aA 5 rfl) _ om9 rfl<|ofE fl_119_0 rfl<|olI ti_3 (aA 5 rfl) om9 rfl<|oV (r_build (cs:= [.int .i64 ((nth thr.l i).pc),(.slice none 0 0),(.slice none 0 0)]) rfl rfl (by kernel_rfl)) rfl<|.nl)<|gal ti_119 rfl fun b38=>gsw 0 ti_119 rfl rfl rfl<|nK k37<|sK fun _ k40=>gE1 (fun _ _ h_=>x_lit0 (α:=Int) h_ sl_23 ti_3 rfl rfl rfl) rfl fun v41=>gRn (oM 1 rfl<|onf fl_111_2 rfl<|olR 6 ti_109 rfl rfl<|oM 1 rfl<|oxN sl_109 ti_119 (aA 7 rfl) _ om9 rfl<|ofE fl_119_1 rfl<|olE (((nth thr.l i).regs).v) ti_23 (aA 7 rfl) om9 rfl<|.nl)<|gE1 (fun _ _ h_=>x_app (r:=0) (rm:=7) (s:=(⟨v41, []⟩:Ls Int)) (m:=(nth thr.l i).regs) h_ sl_23 ti_3 rfl rfl rfl rfl rfl rfl rfl (fun w h=>((h.at 7 rfl).inner i (show i<thr.l.length from om9)).1) (fun b hb=> .inr (.inr ⟨i,(show i<thr.l.length from om9), .inl hb⟩)) (fun q hq b hb=>(Flat.on _ _ hb).elim) rfl rfl rfl inferInstance (show (([]).length+(((nth thr.l i).regs).l).length)*8≤140737488355328∧([]).length+(((nth thr.l i).regs).l).length≤140737488355328 from om9) rfl rfl) rfl fun v42=>gRn (ofB fl_119_1 rfl<|.nl)<|gsr 1 ti_23 rfl (aO 0 rfl) rfl<|nK k40<|gF [0,3,4,5] rfl<|sK fun _ k44=>gE1 (fun _ _ h_=>x_lit0 (α:=Wt) h_ sl_117 ti_167 rfl rfl rfl) rfl fun v45=>gRn (oM 1 rfl<|onf fl_111_2 rfl<|olR 7 ti_109 rfl rfl<|oM 1 rfl<|oxN sl_109 ti_119 (aA 8 rfl) _ om9 rfl<|ofE fl_119_2 rfl<|olE (((nth thr.l i).wait).v) ti_117 (aA 8 rfl) om9 rfl<|.nl)<|gE1 (fun _ _ h_=>x_app (r:=0) (rm:=8) (s:=(⟨v45, []⟩:Ls Wt)) (m:=(nth thr.l i).wait) h_ sl_117 ti_167 rfl rfl rfl rfl rfl rfl rfl (fun w h=>((h.at 8 rfl).inner i (show i<thr.l.length from om9)).2) (fun b hb=> .inr (.inr ⟨i,(show i<thr.l.length from om9), .inr hb⟩)) (fun q hq b hb=>(Flat.on _ _ hb).elim) rfl rfl rfl inferInstance (show (([]).length+(((nth thr.l i).wait).l).length)*24≤140737488355328∧([]).length+(((nth thr.l i).wait).l).length≤140737488355328 from om9) rfl rfl) rfl fun v46=>gRn (ofB fl_119_2 rfl<|.nl)<|gsr 2 ti_117 rfl (aO 0 rfl) rfl<|nK k44<|rC [6,7,10] (by kernel_rfl) (by kernel_rfl) rfl<|pR [0,1,2,3,4,5] rfl (by kernel_rfl) (oM 2 rfl<|onfl 6 fl_111_2 ti_109 rfl rfl<|olw 2 ti_119 rfl rfl<|.nl) rfl<|pX (fun _ _ h_=>x_lit (n:=1) (cs:= [.int .i64 ((nth thr.l i).pc),v42,v46]) ([(⟨(nth thr.l i).pc,v42,v46⟩:ThV)]:List ThV) h_ sl_109 ti_119 rfl rfl rfl (by decide) rfl (by kernel_rfl) rfl (fun q hq w h=>Flat.inner _ _) (fun q hq b hb=>(Flat.on _ _ hb).elim) rfl rfl) rfl fun v48=>pR [0,1,2,3,4] rfl (by kernel_rfl) (oM 2 rfl<|onfl 7 fl_111_2 ti_109 rfl rfl<|.nl) rfl<|pX (fun _ _ h_=>x_app1 (r:=13) (rm:=0) (s:=(⟨vt,rows.map ThL.toV⟩:Ls ThV)) (m:=(⟨v48, [(⟨(nth thr.l i).pc,v42,v46⟩:ThV)]⟩:Ls ThV)) h_ sl_109 ti_119 rfl rfl rfl rfl rfl rfl rfl (fun w h=>(h.own 0 rfl)) (fun b hb=>own_on (h_.sh.ok _ (List.mem_of_getElem? (i:=0) rfl)) hb) (fun q hq b hb=>⟨q,hq,hb⟩) rfl rfl rfl (fun w h q hq j hj=>by obtain rfl:q=0:=(by simpa using hq);rcases j with _|_|_|j;exact rfl;exact ((h.own 2 rfl)).one;exact ((h.own 1 rfl)).one;exact absurd hj (by show¬(j+3<3);omega)) (show ((rows.map ThL.toV).length+([(⟨(nth thr.l i).pc,v42,v46⟩:ThV)]).length)*56≤140737488355328∧(rows.map ThL.toV).length+([(⟨(nth thr.l i).pc,v42,v46⟩:ThV)]).length≤140737488355328 from om9) rfl rfl) rfl fun v49=>pR [0,8,9] rfl (by kernel_rfl) (oM 1 rfl<|onf fl_111_2 rfl<|.nl) rfl<|pS (fun _ _ h_=>x_stb (i:=7) (vs:= [v49]) (cs' := [cv,pw, .int .i64 locks, .int .i64 nregs, .int .i64 mode,v49,v16,v20,v24, .bool fell]) h_ ti_109 rfl rfl rfl rfl rfl (cells_oneL ((h_.sh.own 13 rfl)).one) rfl (allOne_cons ((h_.sh.own 13 rfl)).one allOne_nil) (Nat.le_of_ble_eq_true rfl) rfl) rfl<|pE [] rfl (by kernel_rfl) (.nl) rfl<|hK k36<|gL<|gRn (oM 1 rfl<|oadN _ 1 om9 rfl<|oM 1 rfl<|.nl)<|nN<|gO [2,1,14,0,3,4,5,6,7,8,9,10,11,12,13] rfl<|fun a53 w53 h53=> ?_
  have h52:=h53.fold (x:=(⟨(nth thr.l i).pc,(⟨v42,((nth thr.l i).regs).l⟩:Ls Int),(⟨v46,((nth thr.l i).wait).l⟩:Ls Wt)⟩:ThL))
  clear h53
  have h54:=h52.relist (i:=12) (l' :=(rows++ [(⟨(nth thr.l i).pc,(⟨v42,((nth thr.l i).regs).l⟩:Ls Int),(⟨v46,((nth thr.l i).wait).l⟩:Ls Wt)⟩:ThL)]).map ThL.toV) rfl (by simp [ThL.toV])
  clear h52
  refine x_again ⟨_, ?_,(i+1),(rows++ [(⟨(nth thr.l i).pc,(⟨v42,((nth thr.l i).regs).l⟩:Ls Int),(⟨v46,((nth thr.l i).wait).l⟩:Ls Wt)⟩:ThL)]),v49, ?_, ?_, ?_,h54.nrm ⟨rfl,rfl,rfl,trivial⟩ [3,4,5,6,7,8,9,10,11,12,0] rfl,rfl⟩
  · rw [hm28];first|omega|(simp only [lens9];omega)
  · omega
  · simp [hrl]
  · rw [List.map_append,hrw,take_succ_nth _ _ (by omega),List.map_append];rfl
 refine gX<|hK k26<|sG (oM 2 rfl<|.nl)<|gR<|fun a56 w56 h56=> ?_
 try simp only [Exit.then,Exit.inBlock]
 refine x_ret1 (fn:=Tryz.f72) (t:=2) rfl h56 rfl<|⟨b13,rows,vt,⟨v16,words.l⟩,⟨v20,owner.l⟩,⟨v24,prints.l⟩,rfl, ?_,rfl,rfl,rfl,(h56.sh.sel [3,9,10,2,1,0] rfl)⟩
 rw [hrw,show i=thr.l.length by omega,List.take_length]
theorem begin_c (code:Ls (Ls Ins)) (words:Ls Int) (Lk R:Nat) (mode:Int) (W:World) (hcode:code.At W) (hwords:words.At W) (hcl:code.l.length≤4) (hlk:Lk≤4) (hR:R≤200) (hwn:words.l.length≤64):
    Rets Tryz.prog 67 [.agg #[code.v,words.v, .int .i64 ((Lk:Nat):Int), .int .i64 ((R:Nat):Int)], .int .i64 mode] W (fun v w' =>∃(g2:Nat) (rows:List ThL) (vt:Value) (words' owner' prints' :Ls Int),v= .pointer (some ⟨g2,0,none⟩)∧rows.map ThL.th=List.replicate code.l.length ⟨0,List.replicate R 0, []⟩∧words'.l=words.l∧owner'.l=List.replicate Lk (-1)∧prints'.l= []∧Sh0 W w' [.blk g2 111 [code.v,words.v, .int .i64 (Lk:Int), .int .i64 (R:Int), .int .i64 mode,vt,words'.v,owner'.v,prints'.v, .bool false], .own 119 (⟨vt,rows.map ThL.toV⟩:Ls ThV), .big (rowsA 3 167 rows), .own 3 words', .own 3 owner', .own 3 prints']):=by
 refine gen Tryz.func67 Tryz.ntmps67 (Sh0.ext2 hcode hwords:Sh (fun _=>False) W W [.at_ code, .at_ words]) rfl fun a10 h10=>gG h10<|sK fun _ k11=>gbx rfl rfl fun b12=>gRn (oM 1 rfl<|.nl)<|nK k11<|sK fun _ k13=>gRn (olw 0 ti_25 rfl rfl<|oM 1 rfl<|oV (r_build (cs:= [code.v,words.v, .int .i64 ((Lk:Nat):Int), .int .i64 ((R:Nat):Int), .int .i64 mode,(.slice none 0 0),(.slice none 0 0),(.slice none 0 0),(.slice none 0 0), .bool false]) rfl rfl (by kernel_rfl)) rfl<|.nl)<|gbx rfl rfl fun b14=>gRn (oM 1 rfl<|.nl)<|nK k13<|sK fun _ k15=>gRn (oM 1 rfl<|.nl)<|gE1 (fun _ _ h_=>x_lit0 (α:=Int) h_ sl_23 ti_3 rfl rfl rfl) rfl fun v16=>gRn (ofB fl_25_1 rfl<|olB 2 ti_23 rfl rfl<|.nl)<|gE1 (fun _ _ h_=>x_app (r:=0) (rm:=4) (s:=(⟨v16, []⟩:Ls Int)) (m:=words) h_ sl_23 ti_3 rfl rfl rfl rfl rfl rfl rfl (fun w h=>(h.at 4 rfl)) (fun b hb=> .inr hb) (fun q hq b hb=> .inr ⟨q,hq,hb⟩) rfl rfl rfl inferInstance (show (([]).length+words.l.length)*8≤140737488355328∧([]).length+words.l.length≤140737488355328 from om9) rfl rfl) rfl fun v17=>gRn (onf fl_111_3 rfl<|.nl)<|gsr 1 ti_23 rfl (aO 0 rfl) rfl<|nK k15<|gK fun _ k19=>sG (oM 1 rfl<|.nl)<|gB<|fun a23 w23 h23=> ?_;clear h10
 have h22:=h23.nil (α:=Int) 3
 clear h23
 refine x_loop (fun m a w=>∃(i:Nat) (ol:List Int) (vo:Value),(i≤Lk)∧(ol=List.replicate i (-1))∧(ol.length=i)∧St 55 (fun _=>False) W a w [(2, .pointer (some ⟨b12,0,none⟩)),(5, .pointer (some ⟨b14,0,none⟩)),(6, .int .i64 ((i:Nat):Int))] [.own 3 (⟨v17,words.l⟩:Ls Int), .blk b14 111 [code.v,words.v, .int .i64 ((Lk:Nat):Int), .int .i64 ((R:Nat):Int), .int .i64 mode,(.slice none 0 0),v17,vo,(.slice none 0 0), .bool false], .blk b12 25 [code.v,words.v, .int .i64 ((Lk:Nat):Int), .int .i64 ((R:Nat):Int)], .at_ code, .at_ words, .own 3 (⟨vo,ol⟩:Ls Int)]∧m=Lk-i) ⟨_,0, [],(.slice none 0 0),(by omega),(rfl),(rfl),h22.nrm ⟨rfl,rfl,rfl,trivial⟩ [1,2,3,4,5,0] rfl,rfl⟩ ?_
 clear h22
 rintro m21 a21 w21 ⟨i,ol,vo,hi,hol,holl,h21,hm21⟩
 refine gG h21<|gK fun _ k24=>sG (oM 1 rfl<|ofB fl_25_2 rfl<|olB 2 ti_3 rfl rfl<|oltN _ _ rfl<|.nl)<|?_;clear h21
 refine gcd rfl (fun hb26 hp26=> ?_) fun hb26 hp26=> ?_
 ·skip
  refine gS<|hK k24<|gK fun _ k27=>gB<|gL<|gRn (oM 2 rfl<|onfl 1 fl_111_4 ti_23 rfl rfl<|.nl)<|gE1 (fun _ _ h_=>x_lit (n:=1) (cs:= [.int .i64 (-1)]) ([(-1)]:List Int) h_ sl_23 ti_3 rfl rfl rfl (by decide) rfl (by kernel_rfl) rfl (fun q hq w h=>Flat.inner _ _) (fun q hq b hb=>(Flat.on _ _ hb).elim) rfl rfl) rfl fun v28=>gE1 (fun _ _ h_=>x_app (r:=6) (rm:=0) (s:=(⟨vo,ol⟩:Ls Int)) (m:=(⟨v28, [(-1)]⟩:Ls Int)) h_ sl_23 ti_3 rfl rfl rfl rfl rfl rfl rfl (fun w h=>(h.own 0 rfl)) (fun b hb=>own_on (h_.sh.ok _ (List.mem_of_getElem? (i:=0) rfl)) hb) (fun q hq b hb=>⟨q,hq,hb⟩) rfl rfl rfl inferInstance (show (ol.length+([(-1)]).length)*8≤140737488355328∧ol.length+([(-1)]).length≤140737488355328 from om9) rfl rfl) rfl fun v29=>gRn (onf fl_111_4 rfl<|.nl)<|gsr 2 ti_23 rfl (aO 6 rfl) rfl<|nK k27<|gL<|gRn (oM 1 rfl<|oadN _ 1 om9 rfl<|oM 1 rfl<|.nl)<|nN<|fun a31 w31 h31=>x_again ⟨_, ?_,i+1,ol++([(-1)]),v29, ?_, ?_, ?_,h31.nrm ⟨rfl,rfl,rfl,trivial⟩ [1,2,3,4,5,6] rfl,rfl⟩
  · rw [hm21];first|omega|(simp only [lens9];omega)
  · omega
  · rw [hol,List.replicate_succ']
  · simp [holl]
 refine gX<|hK k19<|?_
 have hol2:ol=List.replicate Lk (-1):=by rw [hol,show i=Lk by omega]
 clear hol hi holl
 refine gK fun _ k32=>sG (oM 1 rfl<|.nl)<|gB<|fun a36 w36 h36=> ?_
 have h35:=h36.nil (α:=ThV) 119
 clear h36
 have h37:=h35.big0 3 167
 clear h35
 refine x_loop (fun m a w=>∃(i:Nat) (rows:List ThL) (vt:Value),(i≤code.l.length)∧(rows.length=i)∧(rows.map ThL.th=List.replicate i ⟨0,List.replicate R 0, []⟩)∧St 55 (fun _=>False) W a w [(2, .pointer (some ⟨b12,0,none⟩)),(5, .pointer (some ⟨b14,0,none⟩)),(7, .int .i64 ((i:Nat):Int))] [.own 3 (⟨v17,words.l⟩:Ls Int), .blk b14 111 [code.v,words.v, .int .i64 ((Lk:Nat):Int), .int .i64 ((R:Nat):Int), .int .i64 mode,vt,v17,vo,(.slice none 0 0), .bool false], .blk b12 25 [code.v,words.v, .int .i64 ((Lk:Nat):Int), .int .i64 ((R:Nat):Int)], .at_ code, .at_ words, .own 3 (⟨vo,ol⟩:Ls Int), .own 119 (⟨vt,rows.map ThL.toV⟩:Ls ThV), .big (rowsA 3 167 rows)]∧m=code.l.length-i) ⟨_,0, [],_,(by omega),(rfl),(rfl),h37.nrm ⟨rfl,rfl,rfl,trivial⟩ [2,3,4,5,6,7,1,0] rfl,rfl⟩ ?_
 clear h37
 rintro m34 a34 w34 ⟨i,rows,vt,hi,hrl,hrw,h34,hm34⟩
 refine gG h34<|gK fun _ k38=>sK fun _ k39=>gNl (aA 3 rfl) fun hl40=>gRn (oM 1 rfl<|ofB fl_25_0 rfl<|olB 2 ti_22 rfl rfl<|oln sl_22 (aA 3 rfl) rfl<|oltN _ _ rfl<|.nl)<|nK k39<|?_;clear h34
 refine gcd rfl (fun hb41 hp41=> ?_) fun hb41 hp41=> ?_
 ·skip
  refine gS<|hK k38<|gK fun _ k42=>gB<|gF [2,5,7,34,35,36,37,38] rfl<|fun a45 w45 h45=>x_any ((fun Φ Ψ S a w=>(S 7=false∧S 9=false∧S 10=false∧S 13=false∧FrI 55 S Φ Ψ a∧Sh (fun _=>False) W w [.own 3 (⟨v17,words.l⟩:Ls Int), .blk b14 111 [code.v,words.v, .int .i64 ((Lk:Nat):Int), .int .i64 ((R:Nat):Int), .int .i64 mode,vt,v17,vo,(.slice none 0 0), .bool false], .blk b12 25 [code.v,words.v, .int .i64 ((Lk:Nat):Int), .int .i64 ((R:Nat):Int)], .at_ code, .at_ words, .own 3 (⟨vo,ol⟩:Ls Int), .own 119 (⟨vt,rows.map ThL.toV⟩:Ls ThV), .big (rowsA 3 167 rows)])∨(S 7=true∧S 9=false∧S 10=false∧S 13=false∧∃(v7007:Value),FrI 55 S Φ (Ψ++ [(7,48,v7007),(8,49, .agg #[.int .i64 0,v7007,(.slice none 0 0)])]) a∧Sh (fun _=>False) W w [.own 3 (⟨v7007,List.replicate R 0⟩:Ls Int), .own 3 (⟨v17,words.l⟩:Ls Int), .blk b14 111 [code.v,words.v, .int .i64 ((Lk:Nat):Int), .int .i64 ((R:Nat):Int), .int .i64 mode,vt,v17,vo,(.slice none 0 0), .bool false], .blk b12 25 [code.v,words.v, .int .i64 ((Lk:Nat):Int), .int .i64 ((R:Nat):Int)], .at_ code, .at_ words, .own 3 (⟨vo,ol⟩:Ls Int), .own 119 (⟨vt,rows.map ThL.toV⟩:Ls ThV), .big (rowsA 3 167 rows)])∨(S 7=true∧S 9=true∧S 10=false∧S 13=false∧∃(v7007:Value) (v7009:Value),FrI 55 S Φ (Ψ++ [(7,48,v7007),(8,49, .agg #[.int .i64 0,v7007,(.slice none 0 0)]),(9,50,v7009)]) a∧Sh (fun _=>False) W w [.own 119 (⟨v7009, [(⟨0,v7007,(.slice none 0 0)⟩:ThV)]⟩:Ls ThV), .own 3 (⟨v7007,List.replicate R 0⟩:Ls Int), .own 3 (⟨v17,words.l⟩:Ls Int), .blk b14 111 [code.v,words.v, .int .i64 ((Lk:Nat):Int), .int .i64 ((R:Nat):Int), .int .i64 mode,vt,v17,vo,(.slice none 0 0), .bool false], .blk b12 25 [code.v,words.v, .int .i64 ((Lk:Nat):Int), .int .i64 ((R:Nat):Int)], .at_ code, .at_ words, .own 3 (⟨vo,ol⟩:Ls Int), .own 119 (⟨vt,rows.map ThL.toV⟩:Ls ThV), .big (rowsA 3 167 rows)])∨(S 7=true∧S 9=true∧S 10=true∧S 13=false∧∃(v7007:Value) (v7009:Value) (v7010:Value),FrI 55 S Φ (Ψ++ [(7,48,v7007),(8,49, .agg #[.int .i64 0,v7007,(.slice none 0 0)]),(9,50,v7009),(10,51,v7010),(11,52, .pointer (some ⟨b14,0,none⟩)),(12,53, .pointer (some ⟨b14,5,none⟩))]) a∧Sh (fun _=>False) W w [.own 119 (⟨v7009, [(⟨0,v7007,(.slice none 0 0)⟩:ThV)]⟩:Ls ThV), .own 3 (⟨v7007,List.replicate R 0⟩:Ls Int), .own 3 (⟨v17,words.l⟩:Ls Int), .blk b14 111 [code.v,words.v, .int .i64 ((Lk:Nat):Int), .int .i64 ((R:Nat):Int), .int .i64 mode,vt,v17,vo,(.slice none 0 0), .bool false], .blk b12 25 [code.v,words.v, .int .i64 ((Lk:Nat):Int), .int .i64 ((R:Nat):Int)], .at_ code, .at_ words, .own 3 (⟨vo,ol⟩:Ls Int), .own 119 (⟨v7010,(rows.map ThL.toV)++([(⟨0,v7007,(.slice none 0 0)⟩:ThV)])⟩:Ls ThV), .big (rowsA 3 167 rows)])∨(S 7=true∧S 9=true∧S 10=true∧S 13=true∧∃(v7007:Value) (v7009:Value) (v7010:Value),FrI 55 S Φ (Ψ++ [(7,48,v7007),(8,49, .agg #[.int .i64 0,v7007,(.slice none 0 0)]),(9,50,v7009),(10,51,v7010),(11,52, .pointer (some ⟨b14,0,none⟩)),(12,53, .pointer (some ⟨b14,5,none⟩))]) a∧Sh (fun _=>False) W w [.own 119 (⟨v7009, [(⟨0,v7007,(.slice none 0 0)⟩:ThV)]⟩:Ls ThV), .own 3 (⟨v7007,List.replicate R 0⟩:Ls Int), .own 3 (⟨v17,words.l⟩:Ls Int), .blk b14 111 [code.v,words.v, .int .i64 ((Lk:Nat):Int), .int .i64 ((R:Nat):Int), .int .i64 mode,v7010,v17,vo,(.slice none 0 0), .bool false], .blk b12 25 [code.v,words.v, .int .i64 ((Lk:Nat):Int), .int .i64 ((R:Nat):Int)], .at_ code, .at_ words, .own 3 (⟨vo,ol⟩:Ls Int), .own 119 (⟨v7010,(rows.map ThL.toV)++([(⟨0,v7007,(.slice none 0 0)⟩:ThV)])⟩:Ls ThV), .big (rowsA 3 167 rows)])) [(2, .pointer (some ⟨b12,0,none⟩)),(5, .pointer (some ⟨b14,0,none⟩)),(7, .int .i64 ((i:Nat):Int)),(34, .int .i64 ((i:Nat):Int)),(35, .pointer (some ⟨b12,0,none⟩)),(36,code.v),(37, .int .i64 ((code.l.length:Nat):Int)),(38, .bool (decide (i<code.l.length)))] [(0,41, .pointer (some ⟨b14,0,none⟩)),(1,42, .pointer (some ⟨b14,0,none⟩)),(2,43, .pointer (some ⟨b14,0,none⟩)),(3,44, .pointer (some ⟨b14,5,none⟩)),(4,45,vt),(5,46, .pointer (some ⟨b12,3,none⟩)),(6,47, .int .i64 ((R:Nat):Int))]) (by kernel_rfl) (by kernel_rfl) (Or.inl (⟨rfl,rfl,rfl,rfl,FrI.start h45.fr,h45.sh.drew⟩)) ?_ ?_
  ·intro S i o ho hSi hcl hdep a w hI
   clear h45
   rcases i with _|_|_|_|_|_|_|_|_|_|_|_|_|_|i
   ·obtain rfl:_=o:=Option.some.inj ho
    rcases hI with ⟨ν7,ν9,ν10,ν13,φ,ς⟩|⟨ν7,ν9,ν10,ν13,v7007,φ,ς⟩|⟨ν7,ν9,ν10,ν13,v7007,v7009,φ,ς⟩|⟨ν7,ν9,ν10,ν13,v7007,v7009,v7010,φ,ς⟩|⟨_,_,_,ν13,_⟩
    ·exact sq φ φ.fr0 ς (r_move rfl rfl) 0 rfl rfl rfl rfl rfl rfl fun a hg=>Or.inl (⟨un rfl ν7,un rfl ν9,un rfl ν10,un rfl ν13,hg,ς⟩)
    ·exact sq φ φ.fr0 ς (r_move rfl rfl) 0 rfl rfl rfl rfl rfl rfl fun a hg=>Or.inr (Or.inl (⟨un rfl ν7,un rfl ν9,un rfl ν10,un rfl ν13,v7007,hg,ς⟩))
    ·exact sq φ φ.fr0 ς (r_move rfl rfl) 0 rfl rfl rfl rfl rfl rfl fun a hg=>Or.inr (Or.inr (Or.inl (⟨un rfl ν7,un rfl ν9,un rfl ν10,un rfl ν13,v7007,v7009,hg,ς⟩)))
    ·exact sq φ φ.fr0 ς (r_move rfl rfl) 0 rfl rfl rfl rfl rfl rfl fun a hg=>Or.inr (Or.inr (Or.inr (Or.inl (⟨un rfl ν7,un rfl ν9,un rfl ν10,un rfl ν13,v7007,v7009,v7010,hg,ς⟩))))
    ·exact no_way (cA hcl 13 0 rfl ν13) hSi
   ·obtain rfl:_=o:=Option.some.inj ho
    rcases hI with ⟨ν7,ν9,ν10,ν13,φ,ς⟩|⟨ν7,ν9,ν10,ν13,v7007,φ,ς⟩|⟨ν7,ν9,ν10,ν13,v7007,v7009,φ,ς⟩|⟨_,_,ν10,_⟩|⟨_,_,ν10,_⟩
    ·exact sq φ φ.fr0 ς (r_move rfl rfl) 1 rfl rfl rfl rfl rfl rfl fun a hg=>Or.inl (⟨un rfl ν7,un rfl ν9,un rfl ν10,un rfl ν13,hg,ς⟩)
    ·exact sq φ φ.fr0 ς (r_move rfl rfl) 1 rfl rfl rfl rfl rfl rfl fun a hg=>Or.inr (Or.inl (⟨un rfl ν7,un rfl ν9,un rfl ν10,un rfl ν13,v7007,hg,ς⟩))
    ·exact sq φ φ.fr0 ς (r_move rfl rfl) 1 rfl rfl rfl rfl rfl rfl fun a hg=>Or.inr (Or.inr (Or.inl (⟨un rfl ν7,un rfl ν9,un rfl ν10,un rfl ν13,v7007,v7009,hg,ς⟩)))
    ·exact no_way (cA hcl 10 1 rfl ν10) hSi
    ·exact no_way (cA hcl 10 1 rfl ν10) hSi
   ·obtain rfl:_=o:=Option.some.inj ho
    have hd1:S 1=true:=depAt hdep 0 rfl rfl
    rcases hI with ⟨ν7,ν9,ν10,ν13,φ,ς⟩|⟨ν7,ν9,ν10,ν13,v7007,φ,ς⟩|⟨ν7,ν9,ν10,ν13,v7007,v7009,φ,ς⟩|⟨_,_,ν10,_⟩|⟨_,_,ν10,_⟩
    ·exact sq φ (Fr.cons φ.fr0 (φ.at_ 1 1 42 _ rfl hd1)) ς (r_nil rfl rfl) 2 rfl rfl rfl rfl rfl rfl fun a hg=>Or.inl (⟨un rfl ν7,un rfl ν9,un rfl ν10,un rfl ν13,hg,ς⟩)
    ·exact sq φ (Fr.cons φ.fr0 (φ.at_ 1 1 42 _ rfl hd1)) ς (r_nil rfl rfl) 2 rfl rfl rfl rfl rfl rfl fun a hg=>Or.inr (Or.inl (⟨un rfl ν7,un rfl ν9,un rfl ν10,un rfl ν13,v7007,hg,ς⟩))
    ·exact sq φ (Fr.cons φ.fr0 (φ.at_ 1 1 42 _ rfl hd1)) ς (r_nil rfl rfl) 2 rfl rfl rfl rfl rfl rfl fun a hg=>Or.inr (Or.inr (Or.inl (⟨un rfl ν7,un rfl ν9,un rfl ν10,un rfl ν13,v7007,v7009,hg,ς⟩)))
    ·exact no_way (cA hcl 10 2 rfl ν10) hSi
    ·exact no_way (cA hcl 10 2 rfl ν10) hSi
   ·obtain rfl:_=o:=Option.some.inj ho
    have hd2:S 2=true:=depAt hdep 0 rfl rfl
    rcases hI with ⟨ν7,ν9,ν10,ν13,φ,ς⟩|⟨ν7,ν9,ν10,ν13,v7007,φ,ς⟩|⟨ν7,ν9,ν10,ν13,v7007,v7009,φ,ς⟩|⟨_,_,ν10,_⟩|⟨_,_,ν10,_⟩
    ·exact sq φ (Fr.cons φ.fr0 (φ.at_ 2 2 43 _ rfl hd2)) ς (r_fieldB (r:=5) fl_111_2 rfl rfl rfl) 3 rfl rfl rfl rfl rfl rfl fun a hg=>Or.inl (⟨un rfl ν7,un rfl ν9,un rfl ν10,un rfl ν13,hg,ς⟩)
    ·exact sq φ (Fr.cons φ.fr0 (φ.at_ 2 2 43 _ rfl hd2)) ς (r_fieldB (r:=5) fl_111_2 rfl rfl rfl) 3 rfl rfl rfl rfl rfl rfl fun a hg=>Or.inr (Or.inl (⟨un rfl ν7,un rfl ν9,un rfl ν10,un rfl ν13,v7007,hg,ς⟩))
    ·exact sq φ (Fr.cons φ.fr0 (φ.at_ 2 2 43 _ rfl hd2)) ς (r_fieldB (r:=5) fl_111_2 rfl rfl rfl) 3 rfl rfl rfl rfl rfl rfl fun a hg=>Or.inr (Or.inr (Or.inl (⟨un rfl ν7,un rfl ν9,un rfl ν10,un rfl ν13,v7007,v7009,hg,ς⟩)))
    ·exact no_way (cA hcl 10 3 rfl ν10) hSi
    ·exact no_way (cA hcl 10 3 rfl ν10) hSi
   ·obtain rfl:_=o:=Option.some.inj ho
    have hd3:S 3=true:=depAt hdep 0 rfl rfl
    rcases hI with ⟨ν7,ν9,ν10,ν13,φ,ς⟩|⟨ν7,ν9,ν10,ν13,v7007,φ,ς⟩|⟨ν7,ν9,ν10,ν13,v7007,v7009,φ,ς⟩|⟨_,_,ν10,_⟩|⟨_,_,ν10,_⟩
    ·exact sq φ (Fr.cons φ.fr0 (φ.at_ 3 3 44 _ rfl hd3)) ς (r_ldb (i:=1) ti_109 rfl rfl rfl rfl) 4 rfl rfl rfl rfl rfl rfl fun a hg=>Or.inl (⟨un rfl ν7,un rfl ν9,un rfl ν10,un rfl ν13,hg,ς⟩)
    ·exact sq φ (Fr.cons φ.fr0 (φ.at_ 3 3 44 _ rfl hd3)) ς (r_ldb (i:=2) ti_109 rfl rfl rfl rfl) 4 rfl rfl rfl rfl rfl rfl fun a hg=>Or.inr (Or.inl (⟨un rfl ν7,un rfl ν9,un rfl ν10,un rfl ν13,v7007,hg,ς⟩))
    ·exact sq φ (Fr.cons φ.fr0 (φ.at_ 3 3 44 _ rfl hd3)) ς (r_ldb (i:=3) ti_109 rfl rfl rfl rfl) 4 rfl rfl rfl rfl rfl rfl fun a hg=>Or.inr (Or.inr (Or.inl (⟨un rfl ν7,un rfl ν9,un rfl ν10,un rfl ν13,v7007,v7009,hg,ς⟩)))
    ·exact no_way (cA hcl 10 4 rfl ν10) hSi
    ·exact no_way (cA hcl 10 4 rfl ν10) hSi
   ·obtain rfl:_=o:=Option.some.inj ho
    rcases hI with ⟨ν7,ν9,ν10,ν13,φ,ς⟩|⟨ν7,_⟩|⟨ν7,_⟩|⟨ν7,_⟩|⟨ν7,_⟩
    ·exact sq φ φ.fr0 ς (r_fieldB (r:=3) fl_25_3 rfl rfl rfl) 5 rfl rfl rfl rfl rfl rfl fun a hg=>Or.inl (⟨un rfl ν7,un rfl ν9,un rfl ν10,un rfl ν13,hg,ς⟩)
    ·exact no_way (cA hcl 7 5 rfl ν7) hSi
    ·exact no_way (cA hcl 7 5 rfl ν7) hSi
    ·exact no_way (cA hcl 7 5 rfl ν7) hSi
    ·exact no_way (cA hcl 7 5 rfl ν7) hSi
   ·obtain rfl:_=o:=Option.some.inj ho
    have hd5:S 5=true:=depAt hdep 0 rfl rfl
    rcases hI with ⟨ν7,ν9,ν10,ν13,φ,ς⟩|⟨ν7,_⟩|⟨ν7,_⟩|⟨ν7,_⟩|⟨ν7,_⟩
    ·exact sq φ (Fr.cons φ.fr0 (φ.at_ 5 5 46 _ rfl hd5)) ς (r_ldb (i:=2) ti_3 rfl rfl rfl rfl) 6 rfl rfl rfl rfl rfl rfl fun a hg=>Or.inl (⟨un rfl ν7,un rfl ν9,un rfl ν10,un rfl ν13,hg,ς⟩)
    ·exact no_way (cA hcl 7 6 rfl ν7) hSi
    ·exact no_way (cA hcl 7 6 rfl ν7) hSi
    ·exact no_way (cA hcl 7 6 rfl ν7) hSi
    ·exact no_way (cA hcl 7 6 rfl ν7) hSi
   ·obtain rfl:_=o:=Option.some.inj ho
    have hd6:S 6=true:=depAt hdep 0 rfl rfl
    rcases hI with ⟨ν7,ν9,ν10,ν13,φ,ς⟩|⟨ν7,_⟩|⟨ν7,_⟩|⟨ν7,_⟩|⟨ν7,_⟩
    ·have hs:=St.mk (Fr.cons φ.fr0 (φ.at_ 6 6 47 _ rfl hd6)) ς
     refine step_ex (x_make (n:=R) (0:Int) hs sl_23 ti_3 rfl rfl rfl rfl rfl (show 8*R≤140737488355328∧R≤140737488355328 from (by omega)) (fun w=>Flat.inner _ _) (fun b=>Flat.on _ _) rfl rfl) (wanted_none rfl _) ?_
     rintro a69 w69 ⟨v69,h69⟩ ⟨v0,ht69⟩
     exact Or.inr (Or.inl (⟨upd_self _ _,un rfl ν9,un rfl ν10,un rfl ν13,v69,φ.stepW hcl hSi [0,1,2,3,4,5,6] (by kernel_rfl) (by kernel_rfl) ht69 h69.fr.defers (h69.fr.at_ 48 _ rfl) 7 rfl rfl rfl rfl,(h69.sh.sel [0,1,2,3,4,5,6,7,8] rfl)⟩))
    ·exact no_way ν7 hSi
    ·exact no_way ν7 hSi
    ·exact no_way ν7 hSi
    ·exact no_way ν7 hSi
   ·obtain rfl:_=o:=Option.some.inj ho
    have hd7:S 7=true:=depAt hdep 0 rfl rfl
    rcases hI with ⟨ν7,_⟩|⟨ν7,ν9,ν10,ν13,v7007,φ,ς⟩|⟨_,ν9,_⟩|⟨_,ν9,_⟩|⟨_,ν9,_⟩
    ·exact no_way hd7 ν7
    ·have hs:=St.mk (Fr.cons φ.fr0 (φ.at_ 7 7 48 _ rfl hd7)) ς
     exact sq φ (Fr.cons φ.fr0 (φ.at_ 7 7 48 _ rfl hd7)) ς (r_build (cs:= [.int .i64 0,v7007,(.slice none 0 0)]) rfl rfl (by obtain ⟨A70,n70,c70,(e70:v7007=_)⟩:=((hs.sh.own 0 rfl)).form;rw [e70];kernel_rfl)) 8 rfl rfl rfl rfl rfl rfl fun a hg=>Or.inr (Or.inl (⟨un rfl ν7,un rfl ν9,un rfl ν10,un rfl ν13,v7007,hg,ς⟩))
    ·exact no_way (cA hcl 9 8 rfl ν9) hSi
    ·exact no_way (cA hcl 9 8 rfl ν9) hSi
    ·exact no_way (cA hcl 9 8 rfl ν9) hSi
   ·obtain rfl:_=o:=Option.some.inj ho
    have hd8:S 8=true:=depAt hdep 0 rfl rfl
    rcases hI with ⟨ν7,_⟩|⟨ν7,ν9,ν10,ν13,v7007,φ,ς⟩|⟨_,ν9,_⟩|⟨_,ν9,_⟩|⟨_,ν9,_⟩
    ·exact no_way (cA hcl 8 7 rfl hd8) ν7
    ·have hs:=St.mk (Fr.cons φ.fr0 (φ.at_ 8 8 49 _ rfl hd8)) ς
     refine step_ex (x_lit (n:=1) (cs:= [.int .i64 0,v7007,(.slice none 0 0)]) ([(⟨0,v7007,(.slice none 0 0)⟩:ThV)]:List ThV) hs sl_109 ti_119 rfl rfl rfl (by decide) rfl (by kernel_rfl) rfl (fun q hq w h=>Flat.inner _ _) (fun q hq b hb=>(Flat.on _ _ hb).elim) rfl rfl) (wanted_none rfl _) ?_
     rintro a72 w72 ⟨v72,h72⟩ ⟨v0,ht72⟩
     exact Or.inr (Or.inr (Or.inl (⟨un rfl ν7,upd_self _ _,un rfl ν10,un rfl ν13,v7007,v72,φ.stepW hcl hSi [0,1,2,3,4,5,6,7,8] (by kernel_rfl) (by kernel_rfl) ht72 h72.fr.defers (h72.fr.at_ 50 _ rfl) 9 rfl rfl rfl rfl,(h72.sh.sel [0,1,2,3,4,5,6,7,8,9] rfl)⟩)))
    ·exact no_way ν9 hSi
    ·exact no_way ν9 hSi
    ·exact no_way ν9 hSi
   ·obtain rfl:_=o:=Option.some.inj ho
    have hd4:S 4=true:=depAt hdep 0 rfl rfl
    have hd9:S 9=true:=depAt hdep 1 rfl rfl
    rcases hI with ⟨ν7,_⟩|⟨_,ν9,_⟩|⟨ν7,ν9,ν10,ν13,v7007,v7009,φ,ς⟩|⟨_,_,ν10,_⟩|⟨_,_,ν10,_⟩
    ·exact no_way (cA hcl 9 7 rfl hd9) ν7
    ·exact no_way hd9 ν9
    ·have hs:=St.mk (Fr.cons (Fr.cons φ.fr0 (φ.at_ 4 4 45 _ rfl hd4)) (φ.at_ 9 9 50 _ rfl hd9)) ς
     refine step_ex (x_app1 (r:=8) (rm:=0) (s:=(⟨vt,rows.map ThL.toV⟩:Ls ThV)) (m:=(⟨v7009, [(⟨0,v7007,(.slice none 0 0)⟩:ThV)]⟩:Ls ThV)) hs sl_109 ti_119 rfl rfl rfl rfl rfl rfl rfl (fun w h=>(h.own 0 rfl)) (fun b hb=>own_on (hs.sh.ok _ (List.mem_of_getElem? (i:=0) rfl)) hb) (fun q hq b hb=>⟨q,hq,hb⟩) rfl rfl rfl (fun w h q hq j hj=>by obtain rfl:q=0:=(by simpa using hq);rcases j with _|_|_|j;exact rfl;exact ((h.own 1 rfl)).one;exact rfl;exact absurd hj (by show¬(j+3<3);omega)) (show ((rows.map ThL.toV).length+([(⟨0,v7007,(.slice none 0 0)⟩:ThV)]).length)*56≤140737488355328∧(rows.map ThL.toV).length+([(⟨0,v7007,(.slice none 0 0)⟩:ThV)]).length≤140737488355328 from (by first|omega|(simp only [lens9];omega))) rfl rfl) (wanted_none rfl _) ?_
     rintro a73 w73 ⟨v73,h73⟩ ⟨v0,ht73⟩
     exact Or.inr (Or.inr (Or.inr (Or.inl (⟨un rfl ν7,un rfl ν9,upd_self _ _,un rfl ν13,v7007,v7009,v73,φ.stepW hcl hSi [0,1,2,3,4,5,6,7,8,9] (by kernel_rfl) (by kernel_rfl) ht73 h73.fr.defers (h73.fr.at_ 51 _ rfl) 10 rfl rfl rfl rfl,(h73.sh.sel [0,1,2,3,4,5,6,7,8,9] rfl)⟩))))
    ·exact no_way ν10 hSi
    ·exact no_way ν10 hSi
   ·obtain rfl:_=o:=Option.some.inj ho
    have hd0:S 0=true:=depAt hdep 0 rfl rfl
    have hd7:S 7=true:=depAt hdep 8 rfl rfl
    have hd9:S 9=true:=depAt hdep 10 rfl rfl
    have hd10:S 10=true:=depAt hdep 11 rfl rfl
    rcases hI with ⟨ν7,_⟩|⟨_,ν9,_⟩|⟨_,_,ν10,_⟩|⟨ν7,ν9,ν10,ν13,v7007,v7009,v7010,φ,ς⟩|⟨_,_,_,ν13,_⟩
    ·exact no_way hd7 ν7
    ·exact no_way hd9 ν9
    ·exact no_way hd10 ν10
    ·exact sq φ (Fr.cons φ.fr0 (φ.at_ 0 0 41 _ rfl hd0)) ς (r_nil rfl rfl) 11 rfl rfl rfl rfl rfl rfl fun a hg=>Or.inr (Or.inr (Or.inr (Or.inl (⟨un rfl ν7,un rfl ν9,un rfl ν10,un rfl ν13,v7007,v7009,v7010,hg,ς⟩))))
    ·exact no_way (cA hcl 13 11 rfl ν13) hSi
   ·obtain rfl:_=o:=Option.some.inj ho
    have hd11:S 11=true:=depAt hdep 0 rfl rfl
    have hd7:S 7=true:=depAt hdep 8 rfl rfl
    have hd9:S 9=true:=depAt hdep 10 rfl rfl
    have hd10:S 10=true:=depAt hdep 11 rfl rfl
    rcases hI with ⟨ν7,_⟩|⟨_,ν9,_⟩|⟨_,_,ν10,_⟩|⟨ν7,ν9,ν10,ν13,v7007,v7009,v7010,φ,ς⟩|⟨_,_,_,ν13,_⟩
    ·exact no_way hd7 ν7
    ·exact no_way hd9 ν9
    ·exact no_way hd10 ν10
    ·exact sq φ (Fr.cons φ.fr0 (φ.at_ 11 11 52 _ rfl hd11)) ς (r_fieldB (r:=5) fl_111_2 rfl rfl rfl) 12 rfl rfl rfl rfl rfl rfl fun a hg=>Or.inr (Or.inr (Or.inr (Or.inl (⟨un rfl ν7,un rfl ν9,un rfl ν10,un rfl ν13,v7007,v7009,v7010,hg,ς⟩))))
    ·exact no_way (cA hcl 13 12 rfl ν13) hSi
   ·obtain rfl:_=o:=Option.some.inj ho
    have hd12:S 12=true:=depAt hdep 0 rfl rfl
    have hd10:S 10=true:=depAt hdep 1 rfl rfl
    have hd7:S 7=true:=depAt hdep 10 rfl rfl
    have hd9:S 9=true:=depAt hdep 12 rfl rfl
    rcases hI with ⟨ν7,_⟩|⟨_,ν9,_⟩|⟨_,_,ν10,_⟩|⟨ν7,ν9,ν10,ν13,v7007,v7009,v7010,φ,ς⟩|⟨_,_,_,ν13,_⟩
    ·exact no_way hd7 ν7
    ·exact no_way hd9 ν9
    ·exact no_way hd10 ν10
    ·have hs:=St.mk (Fr.cons (Fr.cons φ.fr0 (φ.at_ 10 10 51 _ rfl hd10)) (φ.at_ 12 12 53 _ rfl hd12)) ς
     refine step_ex (x_stb (i:=3) (vs:= [v7010]) (cs' := [code.v,words.v, .int .i64 ((Lk:Nat):Int), .int .i64 ((R:Nat):Int), .int .i64 mode,v7010,v17,vo,(.slice none 0 0), .bool false]) hs ti_109 rfl rfl rfl rfl rfl (cells_oneL ((hs.sh.own 8 rfl)).one) rfl (allOne_cons ((hs.sh.own 8 rfl)).one allOne_nil) (Nat.le_of_ble_eq_true rfl) rfl) (wanted_none rfl _) ?_
     rintro a76 w76 h76 ⟨v0,ht76⟩
     exact Or.inr (Or.inr (Or.inr (Or.inr (⟨un rfl ν7,un rfl ν9,un rfl ν10,upd_self _ _,v7007,v7009,v7010,φ.noneW hcl hSi [0,1,2,3,4,5,6,7,8,9,10,11,12] (by kernel_rfl) (by kernel_rfl) ht76 h76.fr.defers rfl,(h76.sh.sel [0,1,2,3,4,5,6,7,8,9] rfl)⟩))))
    ·exact no_way ν13 hSi
   · simp at ho
  intro S hall a w hI
  clear h45
  rcases hI with ⟨ν7,ν9,ν10,ν13,φ,ς⟩|⟨ν7,ν9,ν10,ν13,v7007,φ,ς⟩|⟨ν7,ν9,ν10,ν13,v7007,v7009,φ,ς⟩|⟨ν7,ν9,ν10,ν13,v7007,v7009,v7010,φ,ς⟩|⟨ν7,ν9,ν10,ν13,v7007,v7009,v7010,φ,ς⟩
  · exact no_way (hall 7 (by decide)) ν7
  · exact no_way (hall 9 (by decide)) ν9
  · exact no_way (hall 10 (by decide)) ν10
  · exact no_way (hall 13 (by decide)) ν13
  have h77:St 55 (fun _=>False) W a w _ _:=⟨φ.fr0,ς⟩
  clear hall φ ς ν7 ν9 ν10 ν13
  refine gG h77<|hK k42<|gL<|gRn (oM 1 rfl<|oadN _ 1 om9 rfl<|oM 1 rfl<|.nl)<|nN<|fun a79 w79 h79=> ?_;clear h77
  have h78:=h79.nil (α:=Wt) 167
  clear h79
  have h80:=h78.sel (L' := [_,_,_,_,_,_,_,_,_,_,_]) [2,0,10,1,3,4,5,6,7,8,9] rfl
  have h81:=h80.fold (x:=(⟨0,(⟨v7007,List.replicate R 0⟩:Ls Int),(⟨.slice none 0 0, []⟩:Ls Wt)⟩:ThL))
  clear h80
  have h82:=h81.relist (i:=8) (l' :=(rows++ [(⟨0,(⟨v7007,List.replicate R 0⟩:Ls Int),(⟨.slice none 0 0, []⟩:Ls Wt)⟩:ThL)]).map ThL.toV) rfl (by simp [ThL.toV])
  clear h81
  refine x_again ⟨_, ?_,(i+1),(rows++ [(⟨0,(⟨v7007,List.replicate R 0⟩:Ls Int),(⟨.slice none 0 0, []⟩:Ls Wt)⟩:ThL)]),v7010, ?_, ?_, ?_,h82.nrm ⟨rfl,rfl,rfl,trivial⟩ [2,3,4,5,6,7,8,0] rfl,rfl⟩
  · rw [hm34];first|omega|(simp only [lens9];omega)
  · omega
  · simp [hrl]
  · rw [List.map_append,hrw,List.replicate_succ'];rfl
 refine gX<|hK k32<|sG (oM 2 rfl<|.nl)<|gR<|fun a84 w84 h84=> ?_
 try simp only [Exit.then,Exit.inBlock]
 refine x_ret1 (fn:=Tryz.f67) (t:=4) rfl h84 rfl ?_
 have h86:=h84.nil (α:=Int) 3
 clear h84
 refine ⟨b14,rows,vt,⟨v17,words.l⟩,⟨vo,ol⟩,⟨.slice none 0 0, []⟩,rfl, ?_,rfl,hol2,rfl,(h86.sh.sel [2,7,8,1,6,0] rfl)⟩
 rw [hrw,show i=code.l.length by omega]
end Go.Proofs.YtmjkobhkkjgplaaGreatDoor
