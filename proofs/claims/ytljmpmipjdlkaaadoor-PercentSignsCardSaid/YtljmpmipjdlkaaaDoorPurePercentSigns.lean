/- It is proved that PercentSigns answers true at every input: each byte is written in its one way, however it was written. -/
import Derived.Test.YtljmpmipjdlkaaaDoorPPercentSignsx5
import Derived.Test.YtljmpmipjdlkaaaDoorAid
namespace Go.Proofs.YtljmpmipjdlkaaaDoor.Pure
open Go.RowKit Go.Proofs.YtljmpmipjdlkaaaDoor.PPercentSigns Go.Proofs.YtljmpmipjdlkaaaDoorW.PrintWords Go.Proofs.YtljmpmipjdlkaaaDoorW.PrintLast Go.Proofs.YtljmpmipjdlkaaaDoorW.PrintMore Go.Proofs.YtljmpmipjdlkaaaDoor.Aid
set_option linter.unusedVariables false
set_option linter.unusedSimpArgs false

theorem known60 : parallaxlaw19_known.f 60 = some true := by decide +kernel
theorem tab_upper : ∀ n : Fin 256, parallaxlaw19_PercentSigns.j0 60 (n.val : Int) (⟨#[48, 49, 50, 51, 52, 53, 54, 55, 56, 57, 65, 66, 67, 68, 69, 70]⟩ : ByteArray) = some true := by decide +kernel
theorem tab_lower : ∀ n : Fin 256, parallaxlaw19_PercentSigns.j0 60 (n.val : Int) (⟨#[48, 49, 50, 51, 52, 53, 54, 55, 56, 57, 97, 98, 99, 100, 101, 102]⟩ : ByteArray) = some true := by decide +kernel
theorem PercentSigns : parallaxlaw19_PercentSigns.Pure := by
  intro c b hc
  have r := u8_wf hc
  refine ⟨60, ?_⟩
  unfold parallaxlaw19_PercentSigns.f
  rw [known60, Option.bind_some, if_pos rfl]
  cases b with
  | true =>
    rw [if_pos rfl]
    exact byte_all (p := fun c => parallaxlaw19_PercentSigns.j0 60 c (⟨#[48, 49, 50, 51, 52, 53, 54, 55, 56, 57, 65, 66, 67, 68, 69, 70]⟩ : ByteArray) = some true) tab_upper r.1 r.2
  | false =>
    rw [if_neg (by simp)]
    exact byte_all (p := fun c => parallaxlaw19_PercentSigns.j0 60 c (⟨#[48, 49, 50, 51, 52, 53, 54, 55, 56, 57, 97, 98, 99, 100, 101, 102]⟩ : ByteArray) = some true) tab_lower r.1 r.2
end Go.Proofs.YtljmpmipjdlkaaaDoor.Pure
