/- Contracts of functions of this program and of the references, each walked once. -/
import Derived.Test.YtmjkobhkkjgplaaGreatDoorX2
namespace Go.Proofs.YtmjkobhkkjgplaaGreatDoor
open Go.RowKit
set_option linter.unusedSimpArgs false
set_option linter.unusedVariables false
set_option maxRecDepth 100000
set_option maxHeartbeats 4000000
theorem nth_replicate {α:Type} [Inhabited α] (n:Nat) (x:α) (i:Nat) (h:i<n):nth (List.replicate n x) i=x:=by simp [nth,h]
theorem cloneI_c (x:Ls Int) (W:World) (hx:x.At W) (hl:x.l.length≤100000):
    Rets Tryz.prog 44 [x.v] W (fun v w' =>∃s:Ls Int,v=s.v∧Sh0 W w' [.own 3 (⟨s.v,x.l⟩:Ls Int)]):=by
 refine gen Tryz.func44 Tryz.ntmps44 (Sh0.ext1 hx:Sh (fun _=>False) W W [.at_ x]) rfl fun a10 h10=>gG h10<|sG (oM 1 rfl<|.nl)<|gK fun _ k12=>sG (oM 1 rfl<|oV (r_eqnil (s:=x) sl_23 rfl rfl rfl (fun w h=>(h.at 0 rfl))) rfl<|.nl)<|?_;clear h10
 refine gCb rfl (fun hb14=> ?_) fun hb14=> ?_
 ·skip
  refine sG (oM 1 rfl<|.nl)<|gR<|fun a16 w16 h16=> ?_
  try simp only [Exit.then,Exit.inBlock]
  refine x_ret1 (fn:=Tryz.f44) (t:=2) rfl h16 rfl<|⟨⟨.slice none 0 0, []⟩,rfl, ?_⟩
  rw [nilB_nil hx (by assumption)]
  exact (h16.sh.nil (α:=Int) 3).sel (L' := [_]) [0] rfl
 refine gS<|hK k12<|sK fun _ k17=>gE1 (fun _ _ h_=>x_lit0 (α:=Int) h_ sl_23 ti_3 rfl rfl rfl) rfl fun v18=>gRn (oM 1 rfl<|.nl)<|gE1 (fun _ _ h_=>x_app (r:=0) (rm:=1) (s:=(⟨v18, []⟩:Ls Int)) (m:=x) h_ sl_23 ti_3 rfl rfl rfl rfl rfl rfl rfl (fun w h=>(h.at 1 rfl)) (fun b hb=> .inr hb) (fun q hq b hb=> .inr ⟨q,hq,hb⟩) rfl rfl rfl inferInstance (show (([]).length+x.l.length)*8≤140737488355328∧([]).length+x.l.length≤140737488355328 from om9) rfl rfl) rfl fun v19=>gRn (oM 1 rfl<|.nl)<|nK k17<|gR<|fun a20 w20 h20=> ?_
 try simp only [Exit.then,Exit.inBlock]
 refine x_ret1 (fn:=Tryz.f44) (t:=2) rfl h20 rfl<|⟨⟨v19, []⟩,rfl, ?_⟩
 exact (h20.sh.sel [0] rfl)
end Go.Proofs.YtmjkobhkkjgplaaGreatDoor
