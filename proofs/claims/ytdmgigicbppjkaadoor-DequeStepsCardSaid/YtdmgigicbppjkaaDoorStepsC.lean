/- The statement's own function answers true, at every deque and taker. -/
import Derived.Test.YtdmgigicbppjkaaDoorStepsL
import Derived.Test.YtdmgigicbppjkaaDoorDeqStepsPure
set_option linter.unusedVariables false
set_option linter.unusedSimpArgs false
namespace Go.Proofs.YtdmgigicbppjkaaDoor.Q
open Go.RowKit Go.Proofs.YtdmgigicbppjkaaDoorW.PrintWords Go.Proofs.YtdmgigicbppjkaaDoorW.PrintLast Go.Proofs.YtdmgigicbppjkaaDoorW.PrintMore
attribute [local go_sem] max2_int min2_int max_two min_two max_three min_three max_four min_four   -- for this text's walks alone
set_option maxHeartbeats 8000000 in
theorem steps_long (A0_0 : Option Addr) (c0_0 : Nat) (l0_0 : List Int) (a0_1 a0_2 : Int) (a1_0 : Bool) (a1_1 a1_2 a1_3 a1_4 a1_5 : Int) (hl_ : ¬ l0_0.length ≤ 130) (w : World) (hTab : TabOK w) :
    Calls Tryd.prog 3 #[.agg #[.slice A0_0 l0_0.length c0_0, .int .i64 a0_1, .int .i64 a0_2], .agg #[.bool a1_0, .int .i64 a1_1, .int .i64 a1_2, .int .i64 a1_3, .int .i64 a1_4, .int .i64 a1_5]] w fun e w' => e = .returned (.bool true) ∧ Below w.heap.size w w' := by
  have HTab := Lib.hid hTab
  have HS := Lib.hid (St.start w)
  have h130 : decide ((l0_0.length : Int) > 130) = true := decide_eq_true (by omega)
  clear hTab hl_
  go_enter Tryd.func3, Tryd.ntmps3
  go_wp2_with (first | ((with_reducible refine gate_dst (N := 2) rfl ?_); refine box_event ?hg (N := 2) ?hd (cs := #[.slice A0_0 l0_0.length c0_0, .int .i64 a0_1, .int .i64 a0_2]) (t := 24) ?hr ?_; (case hd => rfl); (case hg => rfl); (case hr => first | (go_simp; done) | (go_simp; rfl)); intro kq hE_ W_ hbox hb; have HN := Lib.hid (show St w [(kq, #[.slice A0_0 l0_0.length c0_0, .int .i64 a0_1, .int .i64 a0_2], 24)] [] _ from HS.out.box hE_ hbox hb); clear HS hE_ hbox hb; have HS := Lib.hid HN.out; clear HN) | ((with_reducible refine gate_dst (N := 3) rfl ?_); refine box_event ?hg (N := 3) ?hd (cs := #[.bool a1_0, .int .i64 a1_1, .int .i64 a1_2, .int .i64 a1_3, .int .i64 a1_4, .int .i64 a1_5]) (t := 27) ?hr ?_; (case hd => rfl); (case hg => rfl); (case hr => first | (go_simp; done) | (go_simp; rfl)); intro kt hE_ W_ hbox hb; have HN := Lib.hid (show St w [(kt, #[.bool a1_0, .int .i64 a1_1, .int .i64 a1_2, .int .i64 a1_3, .int .i64 a1_4, .int .i64 a1_5], 27), (kq, #[.slice A0_0 l0_0.length c0_0, .int .i64 a0_1, .int .i64 a0_2], 24)] [] _ from HS.out.box hE_ hbox hb); clear HS hE_ hbox hb; have HS := Lib.hid HN.out; clear HN) | (go_at_call 8; refine Calls.mono (trefoillaw12_awake.calls 30 true _ rfl (TabOK.below HTab.out HS.out.B)) ?_; rintro _ W_ ⟨rfl, hb⟩; have HN := Lib.hid (show St w [(kt, #[.bool a1_0, .int .i64 a1_1, .int .i64 a1_2, .int .i64 a1_3, .int .i64 a1_4, .int .i64 a1_5], 27), (kq, #[.slice A0_0 l0_0.length c0_0, .int .i64 a0_1, .int .i64 a0_2], 24)] [] _ from HS.out.below hb); clear HS hb; have HS := Lib.hid HN.out; clear HN; (try clear fkq0); have fkq0 : W_.cell? ⟨kq, 0, none⟩ = some (.slice A0_0 l0_0.length c0_0) := (blk_cell (HS.out.get 1 rfl) 0).trans rfl))
  go_ret
  exact ⟨rfl, HS.out.B⟩
theorem thief_total (l : List Int) (tp bt k t b n e : Int) (h : 1 ≤ l.length) : ∃ r, ref_thief.r l tp bt k t b n e = some r := by
  unfold ref_thief.r
  rw [at_at l tp bt t h]
  simp only [Option.bind_some]
  (repeat' split) <;> exact ⟨_, rfl⟩
theorem owner_total (l : List Int) (tp bt k t b n e : Int) (h : 1 ≤ l.length) : ∃ r, ref_owner.r l tp bt k t b n e = some r := by
  unfold ref_owner.r
  rw [at_at l tp bt b h, at_at l (wrap64 (tp + 1)) bt b h]
  simp only [Option.bind_some]
  (repeat' split) <;> exact ⟨_, rfl⟩
theorem step_total (l : List Int) (tp bt : Int) (s : Bool) (k t b n e : Int) : ∃ x, ref_step.r l tp bt s k t b n e = some x := by
  unfold ref_step.r
  rw [refCheck_eq 50 (by omega)]
  simp only [Option.bind_some]
  by_cases h : okQ l.length tp bt
  · rw [decide_eq_true h, if_pos rfl]
    by_cases ov : overP s k t b e
    · rw [if_pos ov]; exact ⟨_, rfl⟩
    · rw [if_neg ov]
      obtain ⟨r, hr⟩ : ∃ r, (if s = true then ref_thief.r l tp bt k t b n e else ref_owner.r l tp bt k t b n e) = some r := by
        cases s with
        | true => rw [if_pos rfl]; exact thief_total l tp bt k t b n e h.pos
        | false => rw [if_neg (by decide)]; exact owner_total l tp bt k t b n e h.pos
      rw [hr]
      simp only [Option.bind_some]
      rw [refCheck_eq 50 (by omega)]
      simp only [Option.bind_some]
      by_cases g : okQ l.length r.1 r.2.1
      · rw [decide_eq_true g, if_pos rfl]; exact ⟨_, rfl⟩
      · rw [decide_eq_false g, if_neg (by decide)]; exact ⟨_, rfl⟩
  · rw [decide_eq_false h, if_neg (by decide)]; exact ⟨_, rfl⟩
theorem take_l0_total (l : List Int) : ∀ (j : Nat) (i tp bt : Int) (s : Bool) (k t b n e : Int), 0 ≤ i → i ≤ 6 → 6 - i < j → ∃ x, ref_take.l0 l j i tp bt s k t b n e = some x
  | 0, i, tp, bt, s, k, t, b, n, e, hi, h6, hj => by
    exfalso
    exact absurd hj (by omega)
  | j + 1, i, tp, bt, s, k, t, b, n, e, hi, h6, hj => by
    simp only [ref_take.l0]
    by_cases c6 : i < 6
    · rw [if_pos c6]
      by_cases ce : e = 0
      · rw [if_pos ce]
        obtain ⟨x, hx⟩ := step_total l tp bt s k t b n e
        rw [hx]
        simp only [Option.bind_some]
        by_cases c9 : x.2.2.2.2.2.2.2.2 = 0
        · rw [if_pos c9, w64 (by omega) (by omega)]
          exact take_l0_total l j (i + 1) _ _ _ _ _ _ _ _ (by omega) (by omega) (by push_cast at hj; omega)
        · rw [if_neg c9]; exact ⟨_, rfl⟩
      · rw [if_neg ce]; exact ⟨_, rfl⟩
    · rw [if_neg c6]; exact ⟨_, rfl⟩
def trefoillaw12_DequeSteps.f (_k : Nat) (_l0_0 : List Int) (_a0_1 _a0_2 : Int) (_a1_0 : Bool) (_a1_1 _a1_2 _a1_3 _a1_4 _a1_5 : Int) : Option Bool := some true
theorem trefoillaw12_DequeSteps.calls (k : Nat) (A0_0 : Option Addr) (c0_0 : Nat) (l0_0 : List Int) (a0_1 a0_2 : Int) (a1_0 : Bool) (a1_1 a1_2 a1_3 a1_4 a1_5 : Int) (r : Bool) (w : World) (hr0_0 : Kd.C (Kd.int .i64) w A0_0 l0_0.length l0_0) (hc0_0 : l0_0.length ≤ c0_0) (h : trefoillaw12_DequeSteps.f k l0_0 a0_1 a0_2 a1_0 a1_1 a1_2 a1_3 a1_4 a1_5 = some r) (hTab : TabOK w) :
    Calls Tryd.prog 3 #[.agg #[.slice A0_0 l0_0.length c0_0, .int .i64 a0_1, .int .i64 a0_2], .agg #[.bool a1_0, .int .i64 a1_1, .int .i64 a1_2, .int .i64 a1_3, .int .i64 a1_4, .int .i64 a1_5]] w fun e w' => e = .returned (.bool r) ∧ Below w.heap.size w w' := by
  obtain rfl := Option.some.inj h
  by_cases hl : l0_0.length ≤ 130
  · obtain ⟨⟨x1, x2, x3, x4, x5, x6, x7, x8, x9⟩, hx⟩ := step_total l0_0 a0_1 a0_2 a1_0 a1_1 a1_2 a1_3 a1_4 a1_5
    obtain ⟨⟨p1, p2, p3, p4, p5, p6, p7, p8, p9⟩, hp⟩ := take_l0_total l0_0 50 0 a0_1 a0_2 a1_0 0 0 0 0 0 (by omega) (by omega) (by omega)
    have hx' : deque_Step.f l0_0 a0_1 a0_2 a1_0 a1_1 a1_2 a1_3 a1_4 a1_5 = some (if x9 = 0 then l0_0 else [], x1, x2, x3, x4, x5, x6, x7, x8, x9) := by rw [step_same, hx]; rfl
    have hp' : deque_Take.f 50 l0_0 a0_1 a0_2 a1_0 = some (if p9 = 0 then l0_0 else [], p1, p2, p3, p4, p5, p6, p7, p8, p9) := by rw [take_same l0_0 a0_1 a0_2 a1_0 50 50 (by omega) (by omega), show ref_take.r l0_0 50 a0_1 a0_2 a1_0 = _ from hp]; rfl
    have hs : ∀ (e a b : Int), trefoilref12_Same.f 140 (if e = 0 then l0_0 else []) a b (if e = 0 then l0_0 else []) a b = some true := fun e a b => by
      have : (if e = 0 then l0_0 else []).length ≤ 130 := by split <;> simp [hl]
      rw [refSame_eq 140 _ _ _ _ _ _ (by omega) (by omega)]; simp
    exact steps_walk A0_0 c0_0 l0_0 a0_1 a0_2 a1_0 a1_1 a1_2 a1_3 a1_4 a1_5 _ x1 x2 x3 x4 x5 x6 x7 x8 x9 _ p1 p2 p3 p4 p5 p6 p7 p8 p9 hx' hx hp' hp (qown_eq l0_0 a0_1 a0_2 hl) hl rfl rfl (hs x9 x1 x2) (hs p9 p1 p2) w hr0_0 hc0_0 hTab
  · exact steps_long A0_0 c0_0 l0_0 a0_1 a0_2 a1_0 a1_1 a1_2 a1_3 a1_4 a1_5 hl w hTab
theorem dequeSteps (K : Nat) (hK : 1000 < K) (l : List Int) (tp bt : Int) (s : Bool) (k t b n e : Int) : trefoillaw12_DequeSteps.f K l tp bt s k t b n e = some true := rfl
end Go.Proofs.YtdmgigicbppjkaaDoor.Q
