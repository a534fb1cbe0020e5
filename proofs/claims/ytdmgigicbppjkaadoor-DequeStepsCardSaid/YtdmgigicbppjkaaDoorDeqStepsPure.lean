/- Plain facts: a step, and all steps, of a taker at a deque are the document's. No memory and no Go in it. -/
import Derived.Test.YtdmgigicbppjkaaDoorQx4
import Derived.Test.YtdmgigicbppjkaaDoorDeqRefPure
import Derived.Test.YtdmgigicbppjkaaDoorStepsV
set_option linter.unusedVariables false
set_option linter.unusedSimpArgs false
namespace Go.Proofs.YtdmgigicbppjkaaDoor.Q
open Go.RowKit Go.Proofs.YtdmgigicbppjkaaDoorW.PrintWords Go.Proofs.YtdmgigicbppjkaaDoorW.PrintLast Go.Proofs.YtdmgigicbppjkaaDoorW.PrintMore
theorem open_eq (s : Bool) (k t b n e : Int) : deque_open.f s k t b n e = some (!decide (overP s k t b e)) := by
  have o1 : ∀ x : Int, deque_open_1.f x = some (decide (x < -1 ∨ x > 1099511627775)) := fun x => by
    unfold deque_open_1.f
    by_cases h : x < -1
    · rw [if_pos h]; simp [h]
    · rw [if_neg h]; simp [h]
  unfold deque_open.f
  simp only [o1, Option.bind_some]
  have key : ∀ (c : Prop) [Decidable c], (c ↔ ¬ overP s k t b e) → some (decide c) = some (!decide (overP s k t b e)) := fun c _ h => by
    by_cases hc : c
    · rw [decide_eq_true hc, decide_eq_false (h.mp hc)]; rfl
    · rw [decide_eq_false hc, decide_eq_true (Classical.byContradiction fun x => hc (h.mpr x))]; rfl
  cases s with
  | true =>
    simp only [if_true]
    by_cases c1 : e = 0
    · rw [if_pos c1]
      by_cases c2 : k ≥ 0
      · rw [if_pos c2]
        by_cases c3 : k ≤ 3
        · rw [if_pos c3]
          by_cases c4 : k = 0
          · rw [if_pos c4]
            exact key True ⟨fun _ h => by unfold overP at h; omega, fun _ => trivial⟩
          · rw [if_neg c4]
            by_cases c5 : t < -1 ∨ t > 1099511627775
            · simp only [decide_eq_true c5, if_true]
              exact key False ⟨fun h => h.elim, fun h => h (by unfold overP; omega)⟩
            · simp only [decide_eq_false c5, Bool.false_eq_true, if_false]
              have := key (¬ (b < -1 ∨ b > 1099511627775)) ⟨fun h x => by unfold overP at x; simp at x; omega, fun h x => h (by unfold overP; omega)⟩
              rw [← this, decide_not]
        · rw [if_neg c3]
          exact key False ⟨fun h => h.elim, fun h => h (by unfold overP; simp; omega)⟩
      · rw [if_neg c2]
        exact key False ⟨fun h => h.elim, fun h => h (by unfold overP; omega)⟩
    · rw [if_neg c1]
      exact key False ⟨fun h => h.elim, fun h => h (by unfold overP; exact .inl c1)⟩
  | false =>
    simp only [Bool.false_eq_true, if_false]
    by_cases c1 : e = 0
    · rw [if_pos c1]
      by_cases c2 : k ≥ 0
      · rw [if_pos c2]
        by_cases c3 : k ≤ 4
        · rw [if_pos c3]
          by_cases c4 : k = 0
          · rw [if_pos c4]
            exact key True ⟨fun _ h => by unfold overP at h; simp at h; omega, fun _ => trivial⟩
          · rw [if_neg c4]
            by_cases c5 : t < -1 ∨ t > 1099511627775
            · simp only [decide_eq_true c5, if_true]
              exact key False ⟨fun h => h.elim, fun h => h (by unfold overP; omega)⟩
            · simp only [decide_eq_false c5, Bool.false_eq_true, if_false]
              have := key (¬ (b < -1 ∨ b > 1099511627775)) ⟨fun h x => by unfold overP at x; simp at x; omega, fun h x => h (by unfold overP; omega)⟩
              rw [← this, decide_not]
        · rw [if_neg c3]
          exact key False ⟨fun h => h.elim, fun h => h (by unfold overP; omega)⟩
      · rw [if_neg c2]
        exact key False ⟨fun h => h.elim, fun h => h (by unfold overP; omega)⟩
    · rw [if_neg c1]
      exact key False ⟨fun h => h.elim, fun h => h (by unfold overP; exact .inl c1)⟩
theorem mx_nn (a : Int) : 0 ≤ mx a 0 := by unfold mx; split <;> omega
theorem place_at (l : List Int) (tp bt a : Int) (h : 1 ≤ l.length) : deque_place.f l tp bt a = some ((mx a 0) % (l.length : Int)) := by
  unfold deque_place.f
  rw [if_neg (by omega)]
theorem at_at (l : List Int) (tp bt a : Int) (h : 1 ≤ l.length) : trefoilref12_At.f l tp bt a = some (rd l ((mx a 0) % (l.length : Int))) := by
  by_cases c : a < 0
  · have e : mx a 0 = 0 := by unfold mx; rw [if_pos c]
    unfold trefoilref12_At.f
    have hm := mod_in h (0 : Int)
    rw [if_pos c, if_neg (by omega), if_pos hm.1, if_pos hm.2, e]
  · rw [refAt_eq l tp bt a h (by omega), mx_pos (by omega)]
theorem steal_thief (l : List Int) (tp bt k t b n e : Int) (h : 1 ≤ l.length) : deque_steal.r l tp bt k t b n e = ref_thief.r l tp bt k t b n e := by
  unfold deque_steal.r ref_thief.r
  by_cases c0 : k = 0
  · rw [if_pos c0, if_pos c0]
  rw [if_neg c0, if_neg c0]
  by_cases c1 : k = 1
  · rw [if_pos c1, if_pos c1, c1]
  rw [if_neg c1, if_neg c1]
  by_cases c2 : k = 2
  · rw [if_pos c2, if_pos c2, place_at l tp bt t h, at_at l tp bt t h]
    simp only [Option.bind_some]
    rw [if_pos (mod_in h _)]
  rw [if_neg c2, if_neg c2]
theorem pop_owner (l : List Int) (tp bt k t b n e : Int) (h : 1 ≤ l.length) (hk : 0 ≤ k ∧ k ≤ 4) : deque_pop.r l tp bt k t b n e = ref_owner.r l tp bt k t b n e := by
  unfold deque_pop.r ref_owner.r
  by_cases c0 : k = 0
  · rw [if_pos c0, if_pos c0]
  rw [if_neg c0, if_neg c0]
  by_cases c1 : k = 1
  · rw [if_pos c1, if_pos c1]
    by_cases c : tp < b
    · rw [if_pos c, if_pos c, place_at l tp bt b h, at_at l tp bt b h]
      simp only [Option.bind_some]
      rw [if_pos (mod_in h _), c1]
    · rw [if_neg c, if_neg c]
  rw [if_neg c1, if_neg c1]
  by_cases c2 : k = 2
  · rw [if_pos c2, if_pos c2]
    by_cases c : tp = t
    · rw [if_pos c, if_pos c, place_at l _ bt b h, at_at l _ bt b h]
      simp only [Option.bind_some]
      rw [if_pos (mod_in h _)]
    · rw [if_neg c, if_neg c]
  rw [if_neg c2, if_neg c2]
  by_cases c3 : k = 3
  · rw [if_neg (by omega), if_pos c3]
  · rw [if_pos (by omega), if_neg c3]
/-- What a step leaves, with its ring. -/
def ten_ (l : List Int) (x : Int × Int × Bool × Int × Int × Int × Int × Int × Int) : List Int × Int × Int × Bool × Int × Int × Int × Int × Int × Int :=
  (if x.2.2.2.2.2.2.2.2 = 0 then l else [], x.1, x.2.1, x.2.2.1, x.2.2.2.1, x.2.2.2.2.1, x.2.2.2.2.2.1, x.2.2.2.2.2.2.1, x.2.2.2.2.2.2.2.1, x.2.2.2.2.2.2.2.2)
theorem step_same (l : List Int) (tp bt : Int) (s : Bool) (k t b n e : Int) : deque_Step.f l tp bt s k t b n e = (ref_step.r l tp bt s k t b n e).map (ten_ l) := by
  unfold deque_Step.f ref_step.r
  rw [qcheck_eq, refCheck_eq 50 (by omega)]
  simp only [Option.bind_some]
  by_cases h : okQ l.length tp bt
  · have hp := h.pos
    have hl := h.2.1
    rw [if_pos h, if_pos rfl, decide_eq_true h, if_pos rfl, open_eq]
    simp only [Option.bind_some]
    by_cases ov : overP s k t b e
    · rw [decide_eq_true ov, if_pos ov]
      rfl
    · have hk : 0 ≤ k ∧ k ≤ 4 := by
        unfold overP at ov
        omega
      have e1 : (if s = true then deque_steal.r l tp bt k t b n e else deque_pop.r l tp bt k t b n e) = (if s = true then ref_thief.r l tp bt k t b n e else ref_owner.r l tp bt k t b n e) := by
        rw [steal_thief l tp bt k t b n e hp, pop_owner l tp bt k t b n e hp hk]
      rw [decide_eq_false ov, if_neg ov, if_pos (by rfl), qown2_eq l tp bt (by omega), e1]
      simp only [Option.bind_some]
      cases (if s = true then ref_thief.r l tp bt k t b n e else ref_owner.r l tp bt k t b n e) with
      | none => rfl
      | some r =>
        simp only [Option.bind_some]
        rw [qcheck_eq, refCheck_eq 50 (by omega)]
        simp only [Option.bind_some]
        by_cases g : okQ l.length r.1 r.2.1
        · rw [if_pos g, if_pos rfl, decide_eq_true g, if_pos rfl]
          rfl
        · rw [if_neg g, if_neg (by decide), decide_eq_false g, if_neg (by decide)]
          rfl
  · rw [if_neg h, if_neg (by decide), decide_eq_false h, if_neg (by decide)]
    rfl
/-- How many steps a taker has yet at most. -/
def left (k : Int) : Nat := if k = 0 then 4 else if k = 1 then 3 else if k = 2 then 2 else 1
theorem thief_left {l : List Int} {tp bt k t b n r1 r2 r3 r4 r5 r6 r7 : Int} (hk : 0 ≤ k) (h : ref_thief.r l tp bt k t b n 0 = some (r1, r2, r3, r4, r5, r6, r7)) : r7 ≠ 0 ∨ left r3 < left k := by
  unfold ref_thief.r at h
  unfold left
  by_cases c0 : k = 0
  · rw [if_pos c0] at h
    obtain ⟨rfl, rfl, rfl, rfl, rfl, rfl, rfl⟩ := seven h
    right; subst c0; decide
  rw [if_neg c0] at h
  by_cases c1 : k = 1
  · rw [if_pos c1] at h
    by_cases c : t ≥ bt
    · rw [if_pos c] at h
      obtain ⟨rfl, rfl, rfl, rfl, rfl, rfl, rfl⟩ := seven h
      left; decide
    · rw [if_neg c] at h
      obtain ⟨rfl, rfl, rfl, rfl, rfl, rfl, rfl⟩ := seven h
      right; subst c1; decide
  rw [if_neg c1] at h
  by_cases c2 : k = 2
  · rw [if_pos c2] at h
    obtain ⟨p, hp, h⟩ := Option.bind_eq_some_iff.mp h
    obtain ⟨rfl, rfl, rfl, rfl, rfl, rfl, rfl⟩ := seven h
    right; subst c2; decide
  rw [if_neg c2] at h
  by_cases c : tp = t
  · rw [if_pos c] at h
    obtain ⟨rfl, rfl, rfl, rfl, rfl, rfl, rfl⟩ := seven h
    left; decide
  · rw [if_neg c] at h
    obtain ⟨rfl, rfl, rfl, rfl, rfl, rfl, rfl⟩ := seven h
    left; decide
theorem owner_left {l : List Int} {tp bt k t b n r1 r2 r3 r4 r5 r6 r7 : Int} (hk : 0 ≤ k) (h : ref_owner.r l tp bt k t b n 0 = some (r1, r2, r3, r4, r5, r6, r7)) : r7 ≠ 0 ∨ left r3 < left k := by
  unfold ref_owner.r at h
  unfold left
  by_cases c0 : k = 0
  · rw [if_pos c0] at h
    obtain ⟨rfl, rfl, rfl, rfl, rfl, rfl, rfl⟩ := seven h
    right; subst c0; decide
  rw [if_neg c0] at h
  by_cases c1 : k = 1
  · rw [if_pos c1] at h
    by_cases c : tp < b
    · rw [if_pos c] at h
      obtain ⟨p, hp, h⟩ := Option.bind_eq_some_iff.mp h
      obtain ⟨rfl, rfl, rfl, rfl, rfl, rfl, rfl⟩ := seven h
      left; decide
    · rw [if_neg c] at h
      by_cases c2 : tp = b
      · rw [if_pos c2] at h
        obtain ⟨rfl, rfl, rfl, rfl, rfl, rfl, rfl⟩ := seven h
        right; subst c1; decide
      · rw [if_neg c2] at h
        obtain ⟨rfl, rfl, rfl, rfl, rfl, rfl, rfl⟩ := seven h
        right; subst c1; decide
  rw [if_neg c1] at h
  by_cases c2 : k = 2
  · rw [if_pos c2] at h
    by_cases c : tp = t
    · rw [if_pos c] at h
      obtain ⟨p, hp, h⟩ := Option.bind_eq_some_iff.mp h
      obtain ⟨rfl, rfl, rfl, rfl, rfl, rfl, rfl⟩ := seven h
      right; subst c2; decide
    · rw [if_neg c] at h
      obtain ⟨rfl, rfl, rfl, rfl, rfl, rfl, rfl⟩ := seven h
      right; subst c2; decide
  rw [if_neg c2] at h
  by_cases c3 : k = 3
  · rw [if_pos c3] at h
    obtain ⟨rfl, rfl, rfl, rfl, rfl, rfl, rfl⟩ := seven h
    left; decide
  · rw [if_neg c3] at h
    obtain ⟨rfl, rfl, rfl, rfl, rfl, rfl, rfl⟩ := seven h
    left; decide
/-- A step that tells no error: it was at a deque that may be, by a taker who may go on; it ends, or has fewer steps yet. -/
theorem step_left {l : List Int} {tp bt k t b n e o1 o2 o4 o5 o6 o7 o8 : Int} {s o3 : Bool} (h : ref_step.r l tp bt s k t b n e = some (o1, o2, o3, o4, o5, o6, o7, o8, 0)) : o8 ≠ 0 ∨ left o4 < left k := by
  unfold ref_step.r at h
  rw [refCheck_eq 50 (by omega)] at h
  simp only [Option.bind_some] at h
  by_cases g : okQ l.length tp bt
  · rw [decide_eq_true g, if_pos rfl] at h
    by_cases ov : overP s k t b e
    · rw [if_pos ov] at h
      have := (nine h).2.2.2.2.2.2.2.2
      omega
    · rw [if_neg ov] at h
      have hk : 0 ≤ k := by unfold overP at ov; omega
      have he : e = 0 := by unfold overP at ov; omega
      subst he
      obtain ⟨⟨r1, r2, r3, r4, r5, r6, r7⟩, hd, h⟩ := Option.bind_eq_some_iff.mp h
      obtain ⟨y, hy, h⟩ := Option.bind_eq_some_iff.mp h
      cases y with
      | false =>
        rw [if_neg (by decide)] at h
        have := (nine h).2.2.2.2.2.2.2.2
        omega
      | true =>
        rw [if_pos rfl] at h
        obtain ⟨_, _, _, rfl, _, _, _, rfl, _⟩ := nine h
        cases s with
        | true => rw [if_pos rfl] at hd; exact thief_left hk hd
        | false => rw [if_neg (by decide)] at hd; exact owner_left hk hd
  · rw [decide_eq_false g, if_neg (by decide)] at h
    have := (nine h).2.2.2.2.2.2.2.2
    omega
theorem step_ok {l : List Int} {tp bt k t b n e o1 o2 o4 o5 o6 o7 o8 : Int} {s o3 : Bool} (h : ref_step.r l tp bt s k t b n e = some (o1, o2, o3, o4, o5, o6, o7, o8, 0)) : okQ l.length o1 o2 := by
  unfold ref_step.r at h
  rw [refCheck_eq 50 (by omega)] at h
  simp only [Option.bind_some] at h
  by_cases g : okQ l.length tp bt
  · rw [decide_eq_true g, if_pos rfl] at h
    by_cases ov : overP s k t b e
    · rw [if_pos ov] at h
      have := (nine h).2.2.2.2.2.2.2.2
      omega
    · rw [if_neg ov] at h
      obtain ⟨⟨r1, r2, r3, r4, r5, r6, r7⟩, hd, h⟩ := Option.bind_eq_some_iff.mp h
      rw [refCheck_eq 50 (by omega)] at h
      simp only [Option.bind_some] at h
      by_cases g2 : okQ l.length r1 r2
      · rw [decide_eq_true g2, if_pos rfl] at h
        obtain ⟨rfl, rfl, _⟩ := nine h
        exact g2
      · rw [decide_eq_false g2, if_neg (by decide)] at h
        have := (nine h).2.2.2.2.2.2.2.2
        omega
  · rw [decide_eq_false g, if_neg (by decide)] at h
    have := (nine h).2.2.2.2.2.2.2.2
    omega
/-- All steps: the two loops tell the same, while no more steps are left than rounds. -/
theorem take_l0 (l : List Int) : ∀ (d j k' : Nat) (i tp bt : Int) (s : Bool) (k t b n e : Int), d < j → d + 1 < k' → (e = 0 → left k ≤ d) → 0 ≤ i → i + d ≤ 5 →
    deque_Take.l0 k' 0 l tp bt s k t b n e = (ref_take.l0 l j i tp bt s k t b n e).map (ten_ l)
  | d, j + 1, k' + 1, i, tp, bt, s, k, t, b, n, e, hj, hk', hd, hi, hid => by
    simp only [deque_Take.l0, ref_take.l0, if_true]
    rw [if_pos (show i < 6 by omega)]
    by_cases ce : e = 0
    · rw [if_pos ce, if_pos ce, step_same]
      cases hs : ref_step.r l tp bt s k t b n e with
      | none => rfl
      | some x =>
        obtain ⟨o1, o2, o3, o4, o5, o6, o7, o8, o9⟩ := x
        simp only [Option.map_some, Option.bind_some, ten_]
        by_cases c9 : o9 = 0
        · subst c9
          rw [if_pos rfl, if_pos rfl, w64 (by omega) (by omega)]
          have hl := step_left hs
          have hdk := hd ce
          match d, hj, hk', hid, hdk with
          | 0, _, _, _, hdk =>
            exfalso
            have : 1 ≤ left k := by unfold left; (repeat' split) <;> omega
            omega
          | d + 1, hj, hk', hid, hdk =>
            exact take_l0 l d j k' (i + 1) o1 o2 o3 o4 o5 o6 o7 o8 (by omega) (by omega) (fun h8 => by rcases hl with h | h <;> omega) (by omega) (by push_cast at hid; omega)
        · rw [if_neg c9, if_neg c9]
          match k', hk' with
          | 0, hk' => omega
          | k'' + 1, _ =>
            simp only [deque_Take.l0]
            rw [if_neg c9]
            simp [ten_, c9]
    · rw [if_neg ce, if_neg ce]
      rfl
theorem left_le (k : Int) : left k ≤ 4 := by unfold left; (repeat' split) <;> omega
theorem take_same (l : List Int) (tp bt : Int) (s : Bool) (K k' : Nat) (hK : 10 < K) (hk : 10 < k') : deque_Take.f k' l tp bt s = (ref_take.r l K tp bt s).map (ten_ l) := by
  unfold deque_Take.f ref_take.r
  rw [qcheck_eq]
  simp only [Option.bind_some]
  by_cases h : okQ l.length tp bt
  · rw [if_pos h]
    exact take_l0 l 4 K k' 0 tp bt s 0 0 0 0 0 (by omega) (by omega) (fun _ => by decide) (by omega) (by omega)
  · rw [if_neg h]
    obtain ⟨j, rfl⟩ : ∃ j, K = j + 1 := ⟨K - 1, by omega⟩
    obtain ⟨m, rfl⟩ : ∃ m, k' = m + 1 := ⟨k' - 1, by omega⟩
    simp only [deque_Take.l0, ref_take.l0]
    rw [if_neg (by decide), if_pos (by decide), if_pos trivial]
    have : ref_step.r l tp bt s 0 0 0 0 0 = some (0, 0, false, 0, 0, 0, 0, 0, 120) := by
      unfold ref_step.r
      rw [refCheck_eq 50 (by omega)]
      simp only [Option.bind_some]
      rw [decide_eq_false h, if_neg (by decide)]
    rw [this]
    rfl
end Go.Proofs.YtdmgigicbppjkaaDoor.Q
