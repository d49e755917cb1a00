import Derived.Test.YtbfghpbmalpdbaaShort2
namespace Go.Proofs.Ytbfghpbmalpdbaa.Short3
open Go Go.RowKit Go.Proofs.YtbfghpbmalpdbaaW.PrintWords Go.Proofs.YtbfghpbmalpdbaaW.PrintLast Go.Proofs.YtbfghpbmalpdbaaW.PrintMore
theorem xT2 {α β γ:Type} {d:Kd α} {d1:Kd β} {d2:Kd γ} {e e1 e2 base:Nat} {w W w1:World} {ok ok1 ok2:Nat→Prop} {u v1 v2:Value} {xs:List α} {ys:List β} {zs:List γ} (H:Aside0 (d.R e w base ok u xs)) (hb:Below W.heap.size W w1) (h1:d1.R e1 w1 W.heap.size ok1 v1 ys) (h2:d2.R e2 w1 W.heap.size ok2 v2 zs)
    (hs:d.R e w base ok u xs→d.R e W base ok u xs:=by (intro h_;(with_reducible repeat (first|apply Kd.R_alloc|apply Kd.R_drewN|apply Kd.R_drew));first|with_reducible exact h_|exact h_)):Aside0 (d.R e w1 base (fun k=>(ok k∧some k≠v1.ownBlock)∧some k≠v2.ownBlock) u xs):=⟨Kd.R_mono (Kd.R_told (Kd.R_told (Kd.R_old (hs H.out) hb) (Kd.R_base h1)) (Kd.R_base h2)) (fun _ h_=>h_.1)⟩
abbrev nb (k:Nat) (v:Value):Prop:=some k≠v.ownBlock
end Go.Proofs.Ytbfghpbmalpdbaa.Short3
