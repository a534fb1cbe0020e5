/- Words for the walks of the document's step. -/
import Derived.Test.YtdmgigicbppjkaaDoorStepsV
import Derived.Test.YtdmgigicbppjkaaDoorQx7
set_option linter.unusedVariables false
set_option linter.unusedSimpArgs false
namespace Go.Proofs.YtdmgigicbppjkaaDoor.Q
open Go.RowKit Go.Proofs.YtdmgigicbppjkaaDoorW.PrintWords Go.Proofs.YtdmgigicbppjkaaDoorW.PrintLast Go.Proofs.YtdmgigicbppjkaaDoorW.PrintMore
attribute [local go_sem] max2_int min2_int max_two min_two max_three min_three max_four min_four   -- for this text's walks alone
def rv (A : Option Addr) (c : Nat) (l : List Int) (err : Int) : Value := if err = 0 then .slice A l.length c else .slice none 0 0
theorem Four.setH {w W : World} {g h c d : Nat} {Q T C D : Array Value} (x : Four w g h c d Q T C D W) (i : Nat) (u : Value) : Four w g h c d Q (T.setIfInBounds i u) C D (W.setCell ⟨h, i, none⟩ u) :=
  ⟨below_set x.B x.eh, blk_far x.bg (blk_ne x.bg x.bh (by decide)) u, blk_set x.bh i u, blk_far x.bc (blk_ne x.bc x.bh (by decide)) u, blk_far x.bd x.hd.symm u, x.eg, x.eh, x.ec, x.ed, x.gc, x.hd⟩
theorem Four.rowH {w W : World} {g h c d : Nat} {Q T C D : Array Value} (x : Four w g h c d Q T C D W) (T' : Array Value) : Four w g h c d Q T' C D (W.setRow h T') :=
  ⟨below_setRow_ x.B x.eh T', (setRow_other W h g T' (blk_ne x.bg x.bh (by decide))).trans x.bg, setRow_heap W h T T' _ _ x.bh, (setRow_other W h c T' (blk_ne x.bc x.bh (by decide))).trans x.bc, (setRow_other W h d T' x.hd.symm).trans x.bd, x.eg, x.eh, x.ec, x.ed, x.gc, x.hd⟩
theorem St.drop {w W : World} {L : List (Nat × Array Value × Nat)} {Rs : List (Value × List Int)} {x : Nat × Array Value × Nat} (s : St w (x :: L) Rs W) : St w L Rs W :=
  ⟨s.B, fun i y h => s.bx (i + 1) y h, fun i j y z h1 h2 e => by have := s.nd (i + 1) (j + 1) y z h1 h2 e; omega, fun r hr => Kd.V_mono (s.rs r hr) (fun k hk i y h => hk (i + 1) y h)⟩
theorem box_step {P : Program} {ops : Array Oper} {Q : Exit → Act → World → Prop} {oi : Oper} {N : Option Tmp} {a : Act} {W : World} {K : Act → World → Prop} {cs : Array Value} {t : TypeId} (hw : Region.wanted oi (yielded ops a.tmps) = true) (hN : oi.dst = N)
    (hrun : (execOp a.eval oi).run P W = .ok (.value (.pointer (some ⟨W.heap.size, 0, none⟩))) (W.alloc (.cells cs t (0, 0))))
    (h : ∀ g, g = W.heap.size → ∀ w1, w1.heap[g]? = some (.cells cs t (0, 0)) → Below W.heap.size W w1 → K (a.put N (.pointer (some ⟨g, 0, none⟩))) w1) : if Region.wanted oi (yielded ops a.tmps) = true then Oper.wp P oi a W K Q else K (a.put N undef) W :=
  value_ hw hN hrun (h _ rfl _ (blk_new W _) (below_alloc (Below.refl _ _) _))
theorem St.swap {w W : World} {L : List (Nat × Array Value × Nat)} {Rs : List (Value × List Int)} {x y : Nat × Array Value × Nat} (s : St w (x :: y :: L) Rs W) : St w (y :: x :: L) Rs W := by
  have key : ∀ (i : Nat) (z : Nat × Array Value × Nat), (y :: x :: L)[i]? = some z → ∃ j, (x :: y :: L)[j]? = some z ∧ (i = 0 → j = 1) ∧ (i = 1 → j = 0) ∧ (2 ≤ i → j = i) := fun i z h => by
    match i, h with
    | 0, h => exact ⟨1, h, by simp, by simp, by omega⟩
    | 1, h => exact ⟨0, h, by simp, by simp, by omega⟩
    | i + 2, h => exact ⟨i + 2, h, by omega, by omega, fun _ => rfl⟩
  refine ⟨s.B, fun i z h => ?_, fun i j a b h1 h2 e => ?_, fun r hr => Kd.V_mono (s.rs r hr) (fun k hk i z h => ?_)⟩
  · obtain ⟨j, hj, _⟩ := key i z h
    exact s.bx j z hj
  · obtain ⟨p, hp, p1, p2, p3⟩ := key i a h1
    obtain ⟨q, hq, q1, q2, q3⟩ := key j b h2
    have := s.nd p q a b hp hq e
    rcases Nat.lt_or_ge i 2 with hi | hi <;> rcases Nat.lt_or_ge j 2 with hj | hj <;> omega
  · obtain ⟨j, hj, _⟩ := key i z h
    exact hk j z hj
theorem rv_slice {w : World} {A : Option Addr} {c : Nat} {l : List Int} (err : Int) (hC : Kd.C (Kd.int .i64) w A l.length l) (hc : l.length ≤ c) : ∃ Ar cr lr, rv A c l err = .slice Ar lr.length cr ∧ lr.length ≤ cr ∧ lr = (if err = 0 then l else []) ∧ Kd.C (Kd.int .i64) w Ar lr.length lr := by
  unfold rv
  by_cases h : err = 0
  · rw [if_pos h, if_pos h]; exact ⟨A, c, l, rfl, hc, rfl, hC⟩
  · rw [if_neg h, if_neg h]; exact ⟨none, 0, [], rfl, by simp, rfl, Kd.C_nil _ _⟩
end Go.Proofs.YtdmgigicbppjkaaDoor.Q
