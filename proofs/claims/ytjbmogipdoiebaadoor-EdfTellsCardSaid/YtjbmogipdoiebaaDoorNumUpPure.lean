/- Plain facts: a quotient, rounded up. No memory and no Go in it. -/
import Derived.Test.YtjbmogipdoiebaaDoorQx2
import Derived.Test.YtjbmogipdoiebaaDoorNumFirstPure
namespace Go.Proofs.YtjbmogipdoiebaaDoor.Q
open Go.RowKit Go.Proofs.YtjbmogipdoiebaaDoorW.PrintWords Go.Proofs.YtjbmogipdoiebaaDoorW.PrintLast Go.Proofs.YtjbmogipdoiebaaDoorW.PrintMore

def upV (a b : Int) : Int × Int := if firstV [a, b] = 0 then (if b = 0 then (0, 12) else ((a + (b - 1)) / b, 0)) else (0, firstV [a, b])
theorem up_eq (a b : Int) : num_Up.f a b = some (upV a b) := by
  unfold num_Up.f quotV quotC upV
  by_cases h : firstV [a, b] = 0
  · obtain ⟨h1, h2, h3, h4⟩ := two_ok h
    rw [if_pos h, if_pos h]
    by_cases hb : b = 0
    · rw [if_pos hb, if_pos hb]
    · rw [if_neg hb, if_neg hb, w64 (x := b - 1) (by omega) (by omega), w64 (x := a + (b - 1)) (by omega) (by omega), Int.tdiv_eq_ediv_of_nonneg (by omega)]
      have h5 : (a + (b - 1)) / b ≤ a + (b - 1) := Int.ediv_le_self _ (by omega)
      have h6 : 0 ≤ (a + (b - 1)) / b := Int.ediv_nonneg (by omega) h3
      rw [w64 (by omega) (by omega)]
  · rw [if_neg h, if_neg h]
end Go.Proofs.YtjbmogipdoiebaaDoor.Q
