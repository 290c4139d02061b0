/- It is proved that OctetSets answers true for every byte: for each of the 256 bytes the printed function is reckoned by the kernel. -/
import Derived.Test.YtjnphebgbdjohaaPOctetSetsx3
namespace Go.Proofs.Ytjnphebgbdjohaa.Pure
open Go.RowKit Go.Proofs.Ytjnphebgbdjohaa.POctetSets Go.Proofs.YtjnphebgbdjohaaW.PrintWords Go.Proofs.YtjnphebgbdjohaaW.PrintLast

theorem all256 : ∀ n : Fin 256, parallaxlaw1_OctetSets.f 40 (n.val : Int) = some true := by
  decide +kernel

theorem OctetSets : parallaxlaw1_OctetSets.Pure := by
  intro a h
  have h2 : 0 ≤ a ∧ a < 256 := by
    have e1 : IntKind.u8.min = 0 := by decide
    have e2 : IntKind.u8.max = 255 := by decide
    simp only [Lit.wf, e1, e2, Bool.and_eq_true, decide_eq_true_eq] at h
    omega
  refine ⟨40, ?_⟩
  have := all256 ⟨a.toNat, by omega⟩
  rwa [show ((⟨a.toNat, by omega⟩ : Fin 256).val : Int) = a by simp; omega] at this

end Go.Proofs.Ytjnphebgbdjohaa.Pure
