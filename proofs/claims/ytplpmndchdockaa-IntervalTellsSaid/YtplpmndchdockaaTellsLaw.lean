import Derived.Test.YtplpmndchdockaaTells
import Derived.Test.YtplpmndchdockaaPr13
namespace Go.Proofs.Ytplpmndchdockaa.M
open Go Go.RowKit Go.Proofs.Ytplpmndchdockaa.Pr Go.Proofs.YtplpmndchdockaaV.PrintWords Go.Proofs.YtplpmndchdockaaV.PrintLast Go.Proofs.YtplpmndchdockaaV.PrintMore
set_option autoImplicit false
theorem tells (p0 p1 q0 q1 a b c d m n : Int) (hm0 : 0 ≤ m) (hm1 : m ≤ 255) (hn0 : 0 ≤ n) (hn1 : n ≤ 255) : Ev (fun k => flagstonelaw37_IntervalTells.f k p0 p1 q0 q1 a b c d m n) true := by
  obtain ⟨x0, x1, hx, vx⟩ := made37 a b m hm0 hm1
  obtain ⟨y0, y1, hy, vy⟩ := made37 c d n hn0 hn1
  obtain ⟨K0, h0⟩ := awake37
  obtain ⟨K1, h1⟩ := agree_f p0 p1 q0 q1
  obtain ⟨K2, h2⟩ := agree_f x0 x1 y0 y1
  obtain ⟨K3, h3⟩ := agree_f y0 y1 x0 x1
  obtain ⟨K4, h4⟩ := agree_f x0 x1 x0 x1
  obtain ⟨K5, h5⟩ := agree_f p0 p1 y0 y1
  refine ⟨max (max (max K0 K1) (max K2 K3)) (max K4 K5), fun k hk => ?_⟩
  have g0 : flagstonelaw37_awake.f k = _ := h0 k (by omega)
  have g1 : flagstonelaw37_agree.f k p0 p1 q0 q1 = _ := h1 k (by omega)
  have g2 : flagstonelaw37_agree.f k x0 x1 y0 y1 = _ := h2 k (by omega)
  have g3 : flagstonelaw37_agree.f k y0 y1 x0 x1 = _ := h3 k (by omega)
  have g4 : flagstonelaw37_agree.f k x0 x1 x0 x1 = _ := h4 k (by omega)
  have g5 : flagstonelaw37_agree.f k p0 p1 y0 y1 = _ := h5 k (by omega)
  show flagstonelaw37_IntervalTells.f k p0 p1 q0 q1 a b c d m n = _
  unfold flagstonelaw37_IntervalTells.f
  rw [g0]; simp only [Option.bind_some, if_true]
  rw [hx, hy]; simp only [Option.bind_some]
  rw [g1, g2, g3, g4, g5]; simp only [Option.bind_some, if_true]
end Go.Proofs.Ytplpmndchdockaa.M
