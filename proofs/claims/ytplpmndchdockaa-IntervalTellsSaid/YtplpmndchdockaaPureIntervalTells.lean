import Derived.Test.YtplpmndchdockaaTellsLaw
namespace Go.Proofs.Ytplpmndchdockaa.Pure
open Go Go.RowKit Go.Proofs.Ytplpmndchdockaa.Pr
theorem IntervalTells (p0 p1 q0 q1 a b c d m n : Int) (_ : (Lit.int .i64 p0).wf = true) (_ : (Lit.int .i64 p1).wf = true) (_ : (Lit.int .i64 q0).wf = true) (_ : (Lit.int .i64 q1).wf = true) (_ : (Lit.int .i64 a).wf = true) (_ : (Lit.int .i64 b).wf = true) (_ : (Lit.int .i64 c).wf = true) (_ : (Lit.int .i64 d).wf = true)
    (hm : (Lit.int .u8 m).wf = true) (hn : (Lit.int .u8 n).wf = true) : ∃ k, flagstonelaw37_IntervalTells.f k p0 p1 q0 q1 a b c d m n = some true := by
  obtain ⟨m0, m1⟩ := M.u8_bd hm
  obtain ⟨n0, n1⟩ := M.u8_bd hn
  exact (M.tells p0 p1 q0 q1 a b c d m n m0 m1 n0 n1).rounds
end Go.Proofs.Ytplpmndchdockaa.Pure
