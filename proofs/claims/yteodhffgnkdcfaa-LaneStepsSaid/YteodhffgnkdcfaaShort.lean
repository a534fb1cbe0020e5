/- Words for printed texts: proofs that stand in them again and again, as arguments that prove themselves. -/
import Derived.Test.YteodhffgnkdcfaaWWords
import Derived.Test.YteodhffgnkdcfaaWLast
import Derived.Test.YteodhffgnkdcfaaWMore
set_option linter.unusedVariables false
namespace Go.Proofs.Yteodhffgnkdcfaa.Q
open Go.RowKit Go.Proofs.YteodhffgnkdcfaaW.PrintWords Go.Proofs.YteodhffgnkdcfaaW.PrintLast Go.Proofs.YteodhffgnkdcfaaW.PrintMore
/-- A block that has stood before drawing and laying. -/
theorem bk_ {P Q : Prop} (h0 : P) (h : P → Q := by intro hx_; (with_reducible repeat (first | refine blk_drewN ?_ _ | refine blk_drew ?_ | refine blk_alloc ?_ _)); exact hx_) : Q := h h0
theorem kS_ {P Q : Prop} (h0 : P) (h : P → Q := by intro hx_; (with_reducible repeat (first | apply Kd.S_alloc | apply Kd.S_drewN | apply Kd.S_drew)); exact hx_) : Q := h h0
theorem kR_ {P Q : Prop} (h0 : P) (h : P → Q := by intro hx_; (with_reducible repeat (first | apply Kd.R_alloc | apply Kd.R_drewN | apply Kd.R_drew)); exact hx_) : Q := h h0
theorem kV_ {P Q : Prop} (h0 : P) (h : P → Q := by intro hx_; (with_reducible repeat (first | apply Kd.V_alloc | apply Kd.V_drewN | apply Kd.V_drew)); exact hx_) : Q := h h0
/-- What lies below is as it was. -/
theorem bw_ {P : Prop} (h : P := by repeat (first | (with_reducible first | exact HB.out | apply below_alloc | apply pw_below_drewN | apply below_drew1) | exact HB.out)) : P := h
theorem bx_ {P : Prop} (h : P := by repeat (first | (with_reducible first | exact HB.out | apply below_alloc | apply pw_below_drewN | apply below_drew1 | refine below_set ?_ (Aside0.out (by assumption))) | exact HB.out)) : P := h
theorem pt_ {P : Prop} (h : P := by first | (simp only [putAll, Act.put, List.setIfInBounds_toArray, List.set_cons_zero, List.set_cons_succ]; done) | (simp only [putAll, Act.put, List.setIfInBounds_toArray, List.set_cons_zero, List.set_cons_succ]; rfl)) : P := h
theorem bcx_ {w : World} {g : Nat} {cs : Array Value} {t : Nat} {v : Value} (h : w.heap[g]? = some (.cells cs t (0, 0))) (j : Nat) (hv : cs[j]? = some v := by rfl) : w.cell? ⟨g, j, none⟩ = some v := (blk_cell h j).trans hv
end Go.Proofs.Yteodhffgnkdcfaa.Q
