/- The document's thief and owner answer as the plain functions say. -/
import Derived.Test.YtdmgigicbppjkaaDoorStepsT
import Derived.Test.YtdmgigicbppjkaaDoorStepsO
set_option linter.unusedVariables false
set_option linter.unusedSimpArgs false
namespace Go.Proofs.YtdmgigicbppjkaaDoor.Q
open Go.RowKit Go.Proofs.YtdmgigicbppjkaaDoorW.PrintWords Go.Proofs.YtdmgigicbppjkaaDoorW.PrintLast Go.Proofs.YtdmgigicbppjkaaDoorW.PrintMore
attribute [local go_sem] max2_int min2_int max_two min_two max_three min_three max_four min_four   -- for this text's walks alone
theorem ref_thief.does (A0_0 : Option Addr) (c0_0 : Nat) (l0_0 : List Int) (tp bt : Int) (s : Bool) (k t b n e r1 r2 r3 r4 r5 r6 r7 : Int) (hr : ref_thief.r l0_0 tp bt k t b n e = some (r1, r2, r3, r4, r5, r6, r7)) (w : World) (hr0_0 : Kd.C (Kd.int .i64) w A0_0 l0_0.length l0_0) (hc0_0 : l0_0.length ≤ c0_0) :
    Calls Tryd.prog 31 #[.agg #[.slice A0_0 l0_0.length c0_0, .int .i64 tp, .int .i64 bt], .agg #[.bool s, .int .i64 k, .int .i64 t, .int .i64 b, .int .i64 n, .int .i64 e]] w fun en w' => en = .returned (.tuple #[.agg #[.slice A0_0 l0_0.length c0_0, .int .i64 r1, .int .i64 r2], .agg #[.bool s, .int .i64 r3, .int .i64 r4, .int .i64 r5, .int .i64 r6, .int .i64 r7]]) ∧ Below w.heap.size w w' := by
  unfold ref_thief.r at hr
  by_cases c0 : k = 0
  · rw [if_pos c0] at hr
    obtain ⟨rfl, rfl, rfl, rfl, rfl, rfl, rfl⟩ := seven hr
    exact th_0 A0_0 c0_0 l0_0 _ _ s _ _ _ _ _ c0 w hr0_0 hc0_0
  rw [if_neg c0] at hr
  by_cases c1 : k = 1
  · rw [if_pos c1] at hr
    by_cases c : t ≥ bt
    · rw [if_pos c] at hr
      obtain ⟨rfl, rfl, rfl, rfl, rfl, rfl, rfl⟩ := seven hr
      exact th_1e A0_0 c0_0 l0_0 _ _ s _ _ _ _ _ c1 c w hr0_0 hc0_0
    · rw [if_neg c] at hr
      obtain ⟨rfl, rfl, rfl, rfl, rfl, rfl, rfl⟩ := seven hr
      exact th_1o A0_0 c0_0 l0_0 _ _ s _ _ _ _ _ c1 c w hr0_0 hc0_0
  rw [if_neg c1] at hr
  by_cases c2 : k = 2
  · rw [if_pos c2] at hr
    obtain ⟨p, hp, hr⟩ := Option.bind_eq_some_iff.mp hr
    obtain ⟨rfl, rfl, rfl, rfl, rfl, rfl, rfl⟩ := seven hr
    exact th_2 A0_0 c0_0 l0_0 _ _ s _ _ _ _ _ c2 p hp w hr0_0 hc0_0
  rw [if_neg c2] at hr
  by_cases c : tp = t
  · rw [if_pos c] at hr
    obtain ⟨rfl, rfl, rfl, rfl, rfl, rfl, rfl⟩ := seven hr
    exact th_oy A0_0 c0_0 l0_0 _ _ s _ _ _ _ _ c0 c1 c2 c w hr0_0 hc0_0
  · rw [if_neg c] at hr
    obtain ⟨rfl, rfl, rfl, rfl, rfl, rfl, rfl⟩ := seven hr
    exact th_on A0_0 c0_0 l0_0 _ _ s _ _ _ _ _ c0 c1 c2 c w hr0_0 hc0_0
theorem ref_owner.does (A0_0 : Option Addr) (c0_0 : Nat) (l0_0 : List Int) (tp bt : Int) (s : Bool) (k t b n e r1 r2 r3 r4 r5 r6 r7 : Int) (hr : ref_owner.r l0_0 tp bt k t b n e = some (r1, r2, r3, r4, r5, r6, r7)) (w : World) (hr0_0 : Kd.C (Kd.int .i64) w A0_0 l0_0.length l0_0) (hc0_0 : l0_0.length ≤ c0_0) :
    Calls Tryd.prog 32 #[.agg #[.slice A0_0 l0_0.length c0_0, .int .i64 tp, .int .i64 bt], .agg #[.bool s, .int .i64 k, .int .i64 t, .int .i64 b, .int .i64 n, .int .i64 e]] w fun en w' => en = .returned (.tuple #[.agg #[.slice A0_0 l0_0.length c0_0, .int .i64 r1, .int .i64 r2], .agg #[.bool s, .int .i64 r3, .int .i64 r4, .int .i64 r5, .int .i64 r6, .int .i64 r7]]) ∧ Below w.heap.size w w' := by
  unfold ref_owner.r at hr
  by_cases c0 : k = 0
  · rw [if_pos c0] at hr
    obtain ⟨rfl, rfl, rfl, rfl, rfl, rfl, rfl⟩ := seven hr
    exact ow_0 A0_0 c0_0 l0_0 _ _ s _ _ _ _ _ c0 w hr0_0 hc0_0
  rw [if_neg c0] at hr
  by_cases c1 : k = 1
  · rw [if_pos c1] at hr
    by_cases c : tp < b
    · rw [if_pos c] at hr
      obtain ⟨p, hp, hr⟩ := Option.bind_eq_some_iff.mp hr
      obtain ⟨rfl, rfl, rfl, rfl, rfl, rfl, rfl⟩ := seven hr
      exact ow_1l A0_0 c0_0 l0_0 _ _ s _ _ _ _ _ c1 c p hp w hr0_0 hc0_0
    · rw [if_neg c] at hr
      by_cases c2 : tp = b
      · rw [if_pos c2] at hr
        obtain ⟨rfl, rfl, rfl, rfl, rfl, rfl, rfl⟩ := seven hr
        exact ow_1e A0_0 c0_0 l0_0 _ _ s _ _ _ _ _ c1 c c2 w hr0_0 hc0_0
      · rw [if_neg c2] at hr
        obtain ⟨rfl, rfl, rfl, rfl, rfl, rfl, rfl⟩ := seven hr
        exact ow_1g A0_0 c0_0 l0_0 _ _ s _ _ _ _ _ c1 c c2 w hr0_0 hc0_0
  rw [if_neg c1] at hr
  by_cases c2 : k = 2
  · rw [if_pos c2] at hr
    by_cases c : tp = t
    · rw [if_pos c] at hr
      obtain ⟨p, hp, hr⟩ := Option.bind_eq_some_iff.mp hr
      obtain ⟨rfl, rfl, rfl, rfl, rfl, rfl, rfl⟩ := seven hr
      exact ow_2y A0_0 c0_0 l0_0 _ _ s _ _ _ _ _ c2 c _ rfl p hp w hr0_0 hc0_0
    · rw [if_neg c] at hr
      obtain ⟨rfl, rfl, rfl, rfl, rfl, rfl, rfl⟩ := seven hr
      exact ow_2n A0_0 c0_0 l0_0 _ _ s _ _ _ _ _ c2 c w hr0_0 hc0_0
  rw [if_neg c2] at hr
  by_cases c3 : k = 3
  · rw [if_pos c3] at hr
    obtain ⟨rfl, rfl, rfl, rfl, rfl, rfl, rfl⟩ := seven hr
    exact ow_3 A0_0 c0_0 l0_0 _ _ s _ _ _ _ _ c3 w hr0_0 hc0_0
  · rw [if_neg c3] at hr
    obtain ⟨rfl, rfl, rfl, rfl, rfl, rfl, rfl⟩ := seven hr
    exact ow_o A0_0 c0_0 l0_0 _ _ s _ _ _ _ _ c0 c1 c2 c3 w hr0_0 hc0_0
end Go.Proofs.YtdmgigicbppjkaaDoor.Q
