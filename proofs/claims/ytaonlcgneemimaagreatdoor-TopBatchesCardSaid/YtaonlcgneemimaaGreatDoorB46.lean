/- TopBatches returns true for every list of events and every list of cuts; no condition. -/
import Derived.Test.YtaonlcgneemimaaGreatDoorB45
namespace Go.Proofs.YtaonlcgneemimaaGreatDoor.topBatches
open Go
theorem proved:Rows.TopBatchesCardSaid :=
 Claim7.holds_tied_plain_at .later [] [.data,.pinned] true (true,"42096d4a81d72408806b7af052ef3781f0f91cf3c43e6549ffda731dd0c26bde") true
  holds (fun _ h => by cases h) (by kernel_rfl) (fun _ h => by cases h) topBatches_row_tie rfl ⟨rfl,rfl⟩ (by kernel_rfl) rfl
  (fun f fn hf hfn => by
   obtain rfl:f = 4:=Option.some.inj ((show Tryz.prog.funcNamed "treering/treeringtop.TopBatches" = some 4 by kernel_rfl).symm.trans hf) |>.symm
   obtain rfl:fn = Tryz.f4:=(Option.some.inj (Tryz.func4.symm.trans hfn)).symm
   exact ⟨by kernel_rfl,fun j t ht => by
    rw [Tryz.params4] at ht
    rcases j with _ | _ | j
    ·obtain rfl:42 = t:=by simpa using ht
     exact (show Tryz.prog.wantsStandIn 42 = false by kernel_rfl)
    ·obtain rfl:33 = t:=by simpa using ht
     exact (show Tryz.prog.wantsStandIn 33 = false by kernel_rfl)
    ·simp at ht⟩)
  (by kernel_rfl)
end Go.Proofs.YtaonlcgneemimaaGreatDoor.topBatches
