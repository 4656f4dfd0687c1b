/- The plain law: the first examples. -/
import Derived.Test.YtkjjdpnpcjfgeaaBaLs4
import Derived.Test.YtkjjdpnpcjfgeaaBaX2
namespace Go.Proofs.Ytkjjdpnpcjfgeaa.QAgg
open Go.RowKit Go.Proofs.YtkjjdpnpcjfgeaaW.PrintWords Go.Proofs.YtkjjdpnpcjfgeaaW.PrintLast Go.Proofs.YtkjjdpnpcjfgeaaW.PrintMore
theorem awake_eq : gristmilllaw06_awake.f = some true := by
  have r2 : rdOf ByteArray.empty [⟨#[98]⟩] 0 = ⟨#[98]⟩ := rfl
  have r3 : rdOf ByteArray.empty [⟨#[97]⟩] 0 = ⟨#[97]⟩ := rfl
  unfold gristmilllaw06_awake.f
  simp [agg_Start.f, agg_Add.f, agg_Merge.f, mergeP, r2, r3, cs0, cs1, cs2]
end Go.Proofs.Ytkjjdpnpcjfgeaa.QAgg
