/- What the document's step of a taker is, as numbers and lists. No memory and no Go in it. -/
import Derived.Test.YtdmgigicbppjkaaDoorQy10
import Derived.Test.YtdmgigicbppjkaaDoorQy9
import Derived.Test.YtdmgigicbppjkaaDoorQx4
set_option linter.unusedVariables false
set_option linter.unusedSimpArgs false
namespace Go.Proofs.YtdmgigicbppjkaaDoor.Q
open Go.RowKit Go.Proofs.YtdmgigicbppjkaaDoorW.PrintWords Go.Proofs.YtdmgigicbppjkaaDoorW.PrintLast Go.Proofs.YtdmgigicbppjkaaDoorW.PrintMore
attribute [local go_sem] max2_int min2_int max_two min_two max_three min_three max_four min_four   -- for this text's walks alone
def ref_thief.r (l : List Int) (tp bt k t b n e : Int) : Option (Int × Int × Int × Int × Int × Int × Int) :=
  if k = 0 then some (tp, bt, 1, tp, b, n, e)
  else if k = 1 then (if t ≥ bt then some (tp, bt, k, t, bt, n, 2) else some (tp, bt, 2, t, bt, n, e))
  else if k = 2 then (trefoilref12_At.f l tp bt t).bind fun p => some (tp, bt, 3, t, b, p, e)
  else if tp = t then some (wrap64 (tp + 1), bt, k, t, b, n, 1) else some (tp, bt, k, t, b, 0, 3)
def ref_owner.r (l : List Int) (tp bt k t b n e : Int) : Option (Int × Int × Int × Int × Int × Int × Int) :=
  if k = 0 then some (tp, wrap64 (bt - 1), 1, t, wrap64 (bt - 1), n, e)
  else if k = 1 then (if tp < b then (trefoilref12_At.f l tp bt b).bind fun p => some (tp, bt, k, tp, b, p, 1)
    else if tp = b then some (tp, bt, 2, tp, b, n, e) else some (tp, bt, 3, tp, b, n, e))
  else if k = 2 then (if tp = t then (trefoilref12_At.f l (wrap64 (tp + 1)) bt b).bind fun p => some (wrap64 (tp + 1), bt, 4, t, b, p, e)
    else some (tp, bt, 3, t, b, n, e))
  else if k = 3 then some (tp, wrap64 (b + 1), k, t, b, n, 2) else some (tp, wrap64 (b + 1), k, t, b, n, 1)
/-- A taker who may not go on. -/
def overP (s : Bool) (k t b e : Int) : Prop := e ≠ 0 ∨ k < 0 ∨ k > 4 ∨ (s = true ∧ k > 3) ∨ (k > 0 ∧ (t < -1 ∨ t > 1099511627775 ∨ b < -1 ∨ b > 1099511627775))
instance (s : Bool) (k t b e : Int) : Decidable (overP s k t b e) := by unfold overP; infer_instance
def ref_step.r (l : List Int) (tp bt : Int) (s : Bool) (k t b n e : Int) : Option (Int × Int × Bool × Int × Int × Int × Int × Int × Int) :=
  (trefoilref12_Check.f 50 l tp bt).bind fun x => if x = true then
    (if overP s k t b e then some (0, 0, false, 0, 0, 0, 0, 0, 122) else
      (if s = true then ref_thief.r l tp bt k t b n e else ref_owner.r l tp bt k t b n e).bind fun r =>
        (trefoilref12_Check.f 50 l r.1 r.2.1).bind fun y => if y = true then some (r.1, r.2.1, s, r.2.2.1, r.2.2.2.1, r.2.2.2.2.1, r.2.2.2.2.2.1, r.2.2.2.2.2.2, 0) else some (0, 0, false, 0, 0, 0, 0, 0, 120))
  else some (0, 0, false, 0, 0, 0, 0, 0, 120)
theorem nine {s1 s2 : Bool} {a1 a2 a3 a4 a5 a6 a7 a8 b1 b2 b3 b4 b5 b6 b7 b8 : Int} (h : some (a1, a2, s1, a3, a4, a5, a6, a7, a8) = some (b1, b2, s2, b3, b4, b5, b6, b7, b8)) : a1 = b1 ∧ a2 = b2 ∧ s1 = s2 ∧ a3 = b3 ∧ a4 = b4 ∧ a5 = b5 ∧ a6 = b6 ∧ a7 = b7 ∧ a8 = b8 := by
  injection h with h; simpa [Prod.mk.injEq] using h
def ref_take.l0 (l : List Int) : Nat → Int → Int → Int → Bool → Int → Int → Int → Int → Int → Option (Int × Int × Bool × Int × Int × Int × Int × Int × Int)
  | 0, _, _, _, _, _, _, _, _, _ => none
  | j + 1, i, tp, bt, s, k, t, b, n, e => if i < 6 then (if e = 0 then (ref_step.r l tp bt s k t b n e).bind fun x =>
      (if x.2.2.2.2.2.2.2.2 = 0 then ref_take.l0 l j (wrap64 (i + 1)) x.1 x.2.1 x.2.2.1 x.2.2.2.1 x.2.2.2.2.1 x.2.2.2.2.2.1 x.2.2.2.2.2.2.1 x.2.2.2.2.2.2.2.1 else some (0, 0, false, 0, 0, 0, 0, 0, x.2.2.2.2.2.2.2.2))
    else some (tp, bt, s, k, t, b, n, e, 0)) else some (tp, bt, s, k, t, b, n, e, 0)
def ref_take.r (l : List Int) (K : Nat) (tp bt : Int) (s : Bool) : Option (Int × Int × Bool × Int × Int × Int × Int × Int × Int) := ref_take.l0 l K 0 tp bt s 0 0 0 0 0
end Go.Proofs.YtdmgigicbppjkaaDoor.Q
