/- The walk of carrierlaw16.of: the kinds together. -/
import Derived.Test.YtdkankiohoocaaaQLeFa
import Derived.Test.YtdkankiohoocaaaQLeFb
import Derived.Test.YtdkankiohoocaaaQLeFc
namespace Go.Proofs.Ytdkankiohoocaaa
set_option linter.unusedSimpArgs false
set_option linter.unusedVariables false
open Go Go.RowKit Go.Proofs

theorem lof_any (r : RawD) (vo vk vg vs : Value) (F : Nat → Prop) (w : World) (h : RawS w F r vo vk vg vs) (hsm : SmallR r) :
    Calls Try.prog 11 #[rawV r vo vk vg vs] w (LofPost r w) := by
  have h0 := h.kind
  by_cases ha : 1 + r.kind % 11 = 1 ∨ 1 + r.kind % 11 = 3 ∨ 1 + r.kind % 11 = 4
  · exact lof_a r vo vk vg vs F w h hsm ha
  by_cases hb : 1 + r.kind % 11 = 2 ∨ 1 + r.kind % 11 = 5 ∨ 1 + r.kind % 11 = 6 ∨ 1 + r.kind % 11 = 7
  · exact lof_b r vo vk vg vs F w h hsm hb
  · exact lof_c r vo vk vg vs F w h hsm (by omega)
end Go.Proofs.Ytdkankiohoocaaa
