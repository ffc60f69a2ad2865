/-
  DERIVED. GIVEN WITH THE SEED: THE CARDS: each row of YtefemdpicjgkeaaDoorRows.lean that lists a variable, with what it lists TIED to the program's text (the seventh form; the later family's looks); each row that meets fmt, with fmt's text TOLD by the authors' own Lean function (tested against real Go, not proved from fmt's source: count such statements apart). THE CARD IS WHAT COUNTS. Prove the row's statement (the work); the ties are given (YtefemdpicjgkeaaDoorTie.lean); close each card by the builder's one call (the guide's Derived/Test/ToyasCard.lean, 'card_holds'). Laid BY PROGRAM, IN A SANDBOX (cutbox-door.mjs). By AI agents, Wed Nov 11 2026. No macro, syntax, notation, axiom, sorry.
-/
import Derived.Test.YtefemdpicjgkeaaDoorRows
import GoSem.ClaimSeven
namespace Go.Proofs.YtefemdpicjgkeaaDoor
namespace Rows

/-- THE TIED CARD OF 'payrolllaw13.PremiumLimits'. -/
def premiumLimitsCard : Claim7 := { stood := { row := premiumLimitsRow, standIns := [], harness := (true, "917197971f910b8199753bbfd9f49d40a61c6f74f1761bdde71ebf6cd842d80e"), looks := false }, kinds := [], alts := [], laidByText := true, laidKinds := [.data], laidTests := true, laidLooks := .later }
def PremiumLimitsCardSaid : Prop := Claim7.holds Tryd.pinned (.plain (OpenSpec.ofChange premiumLimitsSpec)) premiumLimitsCard

/-- THE TIED CARD OF 'payrolllaw13.PremiumCounts'. -/
def premiumCountsCard : Claim7 := { stood := { row := premiumCountsRow, standIns := [], harness := (true, "917197971f910b8199753bbfd9f49d40a61c6f74f1761bdde71ebf6cd842d80e"), looks := false }, kinds := [], alts := [], laidByText := true, laidKinds := [.data], laidTests := true, laidLooks := .later }
def PremiumCountsCardSaid : Prop := Claim7.holds Tryd.pinned (.plain (OpenSpec.ofChange premiumCountsSpec)) premiumCountsCard

/-- THE TIED CARD OF 'payrolllaw13.PremiumGroups'. -/
def premiumGroupsCard : Claim7 := { stood := { row := premiumGroupsRow, standIns := [], harness := (true, "917197971f910b8199753bbfd9f49d40a61c6f74f1761bdde71ebf6cd842d80e"), looks := false }, kinds := [], alts := [], laidByText := true, laidKinds := [.data], laidTests := true, laidLooks := .later }
def PremiumGroupsCardSaid : Prop := Claim7.holds Tryd.pinned (.plain (OpenSpec.ofChange premiumGroupsSpec)) premiumGroupsCard

/-- THE TIED CARD OF 'payrolllaw13.PremiumAdds'. -/
def premiumAddsCard : Claim7 := { stood := { row := premiumAddsRow, standIns := [], harness := (true, "917197971f910b8199753bbfd9f49d40a61c6f74f1761bdde71ebf6cd842d80e"), looks := false }, kinds := [], alts := [], laidByText := true, laidKinds := [.data], laidTests := true, laidLooks := .later }
def PremiumAddsCardSaid : Prop := Claim7.holds Tryd.pinned (.plain (OpenSpec.ofChange premiumAddsSpec)) premiumAddsCard

/-- THE SECOND FORM's CARD OF 'payrolllaw13.PremiumLimits'. -/
def premiumLimitsUptoCard : Claim7 := { stood := { row := premiumLimitsUptoRow, standIns := [], harness := (true, "917197971f910b8199753bbfd9f49d40a61c6f74f1761bdde71ebf6cd842d80e"), looks := false }, kinds := [], alts := [], laidByText := true, laidKinds := [.data], laidTests := true, laidLooks := .later }
def PremiumLimitsUptoCardSaid : Prop := Claim7.holds Tryd.pinned (.plain (OpenSpec.upto premiumLimitsSpec)) premiumLimitsUptoCard

/-- THE SECOND FORM's CARD OF 'payrolllaw13.PremiumCounts'. -/
def premiumCountsUptoCard : Claim7 := { stood := { row := premiumCountsUptoRow, standIns := [], harness := (true, "917197971f910b8199753bbfd9f49d40a61c6f74f1761bdde71ebf6cd842d80e"), looks := false }, kinds := [], alts := [], laidByText := true, laidKinds := [.data], laidTests := true, laidLooks := .later }
def PremiumCountsUptoCardSaid : Prop := Claim7.holds Tryd.pinned (.plain (OpenSpec.upto premiumCountsSpec)) premiumCountsUptoCard

/-- THE SECOND FORM's CARD OF 'payrolllaw13.PremiumGroups'. -/
def premiumGroupsUptoCard : Claim7 := { stood := { row := premiumGroupsUptoRow, standIns := [], harness := (true, "917197971f910b8199753bbfd9f49d40a61c6f74f1761bdde71ebf6cd842d80e"), looks := false }, kinds := [], alts := [], laidByText := true, laidKinds := [.data], laidTests := true, laidLooks := .later }
def PremiumGroupsUptoCardSaid : Prop := Claim7.holds Tryd.pinned (.plain (OpenSpec.upto premiumGroupsSpec)) premiumGroupsUptoCard

/-- THE SECOND FORM's CARD OF 'payrolllaw13.PremiumAdds'. -/
def premiumAddsUptoCard : Claim7 := { stood := { row := premiumAddsUptoRow, standIns := [], harness := (true, "917197971f910b8199753bbfd9f49d40a61c6f74f1761bdde71ebf6cd842d80e"), looks := false }, kinds := [], alts := [], laidByText := true, laidKinds := [.data], laidTests := true, laidLooks := .later }
def PremiumAddsUptoCardSaid : Prop := Claim7.holds Tryd.pinned (.plain (OpenSpec.upto premiumAddsSpec)) premiumAddsUptoCard
end Rows
end Go.Proofs.YtefemdpicjgkeaaDoor
