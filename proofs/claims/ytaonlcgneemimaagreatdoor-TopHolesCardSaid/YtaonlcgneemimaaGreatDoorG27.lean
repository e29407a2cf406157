/- TopHoles returns true for every list of places, every list of cuts and every byte; no condition. -/
import Derived.Test.YtaonlcgneemimaaGreatDoorG26
namespace Go.Proofs.YtaonlcgneemimaaGreatDoor.topHoles
open Go
theorem proved : Rows.TopHolesCardSaid :=
  Claim7.holds_tied_plain_at .later [] [.data, .pinned] true (true, "42096d4a81d72408806b7af052ef3781f0f91cf3c43e6549ffda731dd0c26bde") true
    holds (fun _ h => by cases h) (by kernel_rfl) (fun _ h => by cases h) topHoles_row_tie rfl ⟨rfl, rfl⟩ (by kernel_rfl) rfl
    (fun f fn hf hfn => by
      obtain rfl : f = 3 := Option.some.inj ((show Tryz.prog.funcNamed "treering/treeringtop.TopHoles" = some 3 by kernel_rfl).symm.trans hf) |>.symm
      obtain rfl : fn = Tryz.f3 := (Option.some.inj (Tryz.func3.symm.trans hfn)).symm
      exact ⟨by kernel_rfl, fun j t ht => by
        rw [Tryz.params3] at ht
        rcases j with _ | _ | _ | j
        · obtain rfl : 22 = t := by simpa using ht
          exact (show Tryz.prog.wantsStandIn 22 = false by kernel_rfl)
        · obtain rfl : 22 = t := by simpa using ht
          exact (show Tryz.prog.wantsStandIn 22 = false by kernel_rfl)
        · obtain rfl : 5 = t := by simpa using ht
          exact (show Tryz.prog.wantsStandIn 5 = false by kernel_rfl)
        · simp at ht⟩)
    (by kernel_rfl)
end Go.Proofs.YtaonlcgneemimaaGreatDoor.topHoles
