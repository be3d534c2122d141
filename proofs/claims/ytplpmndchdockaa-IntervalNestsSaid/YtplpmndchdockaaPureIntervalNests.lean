/- IntervalNests: Add, Sub, Mul and Div of a smaller interval give a smaller one; Meet and Hull are the greatest common part and the least common cover. For all arguments. -/
import Derived.Test.YtplpmndchdockaaNests
namespace Go.Proofs.Ytplpmndchdockaa.Pure
open Go Go.RowKit Go.Proofs.Ytplpmndchdockaa.Pr
theorem IntervalNests : flagstonelaw37_IntervalNests.Pure := by
  intro a b c d m n i k _ _ _ _ hm hn hi hk
  obtain ⟨m0, m1⟩ := M.u8_bd hm
  obtain ⟨n0, n1⟩ := M.u8_bd hn
  obtain ⟨i0, i1⟩ := M.u8_bd hi
  obtain ⟨k0, k1⟩ := M.u8_bd hk
  exact (M.nests a b c d m n i k m0 m1 n0 n1 i0 i1 k0 k1).rounds
end Go.Proofs.Ytplpmndchdockaa.Pure
