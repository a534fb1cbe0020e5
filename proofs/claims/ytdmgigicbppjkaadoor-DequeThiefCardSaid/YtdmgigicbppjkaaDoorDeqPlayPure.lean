/- Plain facts on plays of takers at one deque: however their steps are mixed, each number was got once, or is there still. No memory and no Go in it. -/
import Derived.Test.YtdmgigicbppjkaaDoorQx14
import Derived.Test.YtdmgigicbppjkaaDoorQx5
import Derived.Test.YtdmgigicbppjkaaDoorDeqPure
import Derived.Test.YtdmgigicbppjkaaDoorRefTwoPure
import Derived.Test.YtdmgigicbppjkaaDoorQx9
set_option linter.unusedVariables false
set_option linter.unusedSimpArgs false
namespace Go.Proofs.YtdmgigicbppjkaaDoor.Q
open Go.RowKit Go.Proofs.YtdmgigicbppjkaaDoorW.PrintWords Go.Proofs.YtdmgigicbppjkaaDoorW.PrintLast Go.Proofs.YtdmgigicbppjkaaDoorW.PrintMore
theorem refSize_eq (k : Nat) (hk : 40 < k) (n : Int) : trefoilref12_Size.f k n = some ((twoV n).2 && decide (n ≤ 64)) := by
  unfold trefoilref12_Size.f
  rw [refTwo_eq n k hk]
  simp only [Option.bind_some]
  by_cases h : (twoV n).2 = true
  · rw [if_pos h, h, Bool.true_and]
  · rw [if_neg h]
    simp [h]
def overP (s : Bool) (k t b e : Int) : Prop := e ≠ 0 ∨ k < 0 ∨ k > 4 ∨ (s = true ∧ k > 3) ∨ (k > 0 ∧ (t < -1 ∨ t > 1099511627775 ∨ b < -1 ∨ b > 1099511627775))
instance (s : Bool) (k t b e : Int) : Decidable (overP s k t b e) := by unfold overP; infer_instance
theorem open_eq (s : Bool) (k t b n e : Int) : deque_open.f s k t b n e = some (!decide (overP s k t b e)) := by
  have o1 : ∀ x : Int, deque_open_1.f x = some (decide (x < -1 ∨ x > 1099511627775)) := fun x => by
    unfold deque_open_1.f
    by_cases h : x < -1
    · rw [if_pos h]; simp [h]
    · rw [if_neg h]; simp [h]
  unfold deque_open.f
  simp only [o1, Option.bind_some]
  have key : ∀ (c : Prop) [Decidable c], (c ↔ ¬ overP s k t b e) → some (decide c) = some (!decide (overP s k t b e)) := fun c _ h => by
    by_cases hc : c
    · rw [decide_eq_true hc, decide_eq_false (h.mp hc)]; rfl
    · rw [decide_eq_false hc, decide_eq_true (Classical.byContradiction fun x => hc (h.mpr x))]; rfl
  cases s with
  | true =>
    simp only [if_true]
    by_cases c1 : e = 0
    · rw [if_pos c1]
      by_cases c2 : k ≥ 0
      · rw [if_pos c2]
        by_cases c3 : k ≤ 3
        · rw [if_pos c3]
          by_cases c4 : k = 0
          · rw [if_pos c4]
            exact key True ⟨fun _ h => by unfold overP at h; omega, fun _ => trivial⟩
          · rw [if_neg c4]
            by_cases c5 : t < -1 ∨ t > 1099511627775
            · simp only [decide_eq_true c5, if_true]
              exact key False ⟨fun h => h.elim, fun h => h (by unfold overP; omega)⟩
            · simp only [decide_eq_false c5, Bool.false_eq_true, if_false]
              have := key (¬ (b < -1 ∨ b > 1099511627775)) ⟨fun h x => by unfold overP at x; simp at x; omega, fun h x => h (by unfold overP; omega)⟩
              rw [← this, decide_not]
        · rw [if_neg c3]
          exact key False ⟨fun h => h.elim, fun h => h (by unfold overP; simp; omega)⟩
      · rw [if_neg c2]
        exact key False ⟨fun h => h.elim, fun h => h (by unfold overP; omega)⟩
    · rw [if_neg c1]
      exact key False ⟨fun h => h.elim, fun h => h (by unfold overP; exact .inl c1)⟩
  | false =>
    simp only [Bool.false_eq_true, if_false]
    by_cases c1 : e = 0
    · rw [if_pos c1]
      by_cases c2 : k ≥ 0
      · rw [if_pos c2]
        by_cases c3 : k ≤ 4
        · rw [if_pos c3]
          by_cases c4 : k = 0
          · rw [if_pos c4]
            exact key True ⟨fun _ h => by unfold overP at h; simp at h; omega, fun _ => trivial⟩
          · rw [if_neg c4]
            by_cases c5 : t < -1 ∨ t > 1099511627775
            · simp only [decide_eq_true c5, if_true]
              exact key False ⟨fun h => h.elim, fun h => h (by unfold overP; omega)⟩
            · simp only [decide_eq_false c5, Bool.false_eq_true, if_false]
              have := key (¬ (b < -1 ∨ b > 1099511627775)) ⟨fun h x => by unfold overP at x; simp at x; omega, fun h x => h (by unfold overP; omega)⟩
              rw [← this, decide_not]
        · rw [if_neg c3]
          exact key False ⟨fun h => h.elim, fun h => h (by unfold overP; omega)⟩
      · rw [if_neg c2]
        exact key False ⟨fun h => h.elim, fun h => h (by unfold overP; omega)⟩
    · rw [if_neg c1]
      exact key False ⟨fun h => h.elim, fun h => h (by unfold overP; exact .inl c1)⟩
theorem rd_set_ne {l : List Int} {i j : Int} (v : Int) (hi : 0 ≤ i) (hj : 0 ≤ j) (h : i ≠ j) : rd (l.set j.toNat v) i = rd l i := by
  unfold rd
  rw [List.getD_eq_getElem?_getD, List.getD_eq_getElem?_getD, List.getElem?_set_ne (by omega)]
theorem rd_set_self {l : List Int} {j : Int} (v : Int) (hj : 0 ≤ j) (h : j < l.length) : rd (l.set j.toNat v) j = v := by
  unfold rd
  rw [List.getD_eq_getElem?_getD, List.getElem?_set_self (by omega), Option.getD_some]
theorem mod_ne {n a b : Int} (h0 : a < b) (h : b - a < n) : a % n ≠ b % n := by
  intro e
  have h1 : (b - a) % n = 0 := by
    rw [Int.sub_emod, e]; simp
  rw [Int.emod_eq_of_lt (by omega) h] at h1
  omega
theorem step_eq {l : List Int} {tp bt : Int} {s : Bool} {k t b n r1 r2 r3 r4 r5 r6 r7 : Int} (h : okQ l.length tp bt) (hov : ¬ overP s k t b 0)
    (hd : (if s = true then deque_steal.r l tp bt k t b n 0 else deque_pop.r l tp bt k t b n 0) = some (r1, r2, r3, r4, r5, r6, r7)) (h2 : okQ l.length r1 r2) :
    deque_Step.f l tp bt s k t b n 0 = some (l, r1, r2, s, r3, r4, r5, r6, r7, 0) := by
  have hl := h.2.1
  unfold deque_Step.f
  rw [qcheck_eq]
  simp only [Option.bind_some]
  rw [if_pos h, if_pos rfl, open_eq, decide_eq_false hov]
  simp only [Option.bind_some]
  rw [if_pos (by rfl), qown2_eq l tp bt (by omega)]
  simp only [Option.bind_some]
  rw [hd]
  simp only [Option.bind_some]
  rw [qcheck_eq]
  simp only [Option.bind_some]
  rw [if_pos h2, if_pos rfl]
def twoB (n : Int) : Bool := (twoV n).2
/-- Up to where numbers are there still: who pops has lowered Bottom already. -/
def eff (o : Tk) (bt : Int) : Int := if o.k = 0 then bt else bt + 1
def held (o : Tk) : List Int := if o.k = 4 then [o.n] else []
def upto (m : Nat) : List Int := (List.range m).map fun (i : Nat) => (i : Int) + 1
theorem upto_succ (m : Nat) : upto (m + 1) = upto m ++ [(m : Int) + 1] := by unfold upto; rw [List.range_succ, List.map_append]; rfl
theorem mem_upto {m : Nat} {x : Int} : x ∈ upto m ↔ 1 ≤ x ∧ x ≤ m := by
  unfold upto
  simp only [List.mem_map, List.mem_range]
  constructor
  · rintro ⟨i, hi, rfl⟩; omega
  · intro h; exact ⟨(x - 1).toNat, by omega, by omega⟩
theorem rowQ_snoc (l : List Int) (tp : Int) (d : Nat) : rowQ l tp (d + 1) = rowQ l tp d ++ [rd l ((tp + (d : Int)) % (l.length : Int))] := by
  unfold rowQ; rw [List.range_succ, List.map_append]; rfl
structure Po (tp bt : Int) (o : Tk) : Prop where mk ::
  (s : o.s = false) (e : o.e = 0) (k0 : 0 ≤ o.k) (k4 : o.k ≤ 4) (t0 : -1 ≤ o.t) (t1 : o.t ≤ 1000) (b : o.k ≠ 0 → o.b = bt) (two : o.k = 2 → o.t = bt ∧ bt ≤ tp) (last : 3 ≤ o.k → tp = bt + 1)
structure Pt (r : List Int) (tp E : Int) (x : Tk) : Prop where mk ::
  (s : x.s = true) (e : x.e = 0) (k0 : 0 ≤ x.k) (k3 : x.k ≤ 3) (t0 : 0 ≤ x.t) (tt : x.t ≤ tp) (b0 : -1 ≤ x.b) (b1 : x.b ≤ 1000) (live : 2 ≤ x.k → x.t = tp → tp < E) (got : x.k = 3 → x.t = tp → x.n = rd r (tp % (r.length : Int)))
/-- What is so of a play at any time. -/
structure Pl (r : List Int) (tp bt : Int) (T : List Tk) (G : List Int) (pu : Nat) : Prop where mk ::
  (two : twoB (r.length : Int) = true) (sz : (r.length : Int) ≤ 64) (tp0 : 0 ≤ tp) (tE : tp ≤ eff (tat T 0) bt) (En : eff (tat T 0) bt ≤ tp + r.length) (Epu : eff (tat T 0) bt ≤ pu) (pu1 : pu ≤ 900) (len : T.length = 4)
  (own : Po tp bt (tat T 0)) (thf : ∀ j, 1 ≤ j → j < 4 → Pt r tp (eff (tat T 0) bt) (tat T j))
  (perm : (G ++ (held (tat T 0) ++ rowQ r tp (eff (tat T 0) bt - tp).toNat)).Perm (upto pu)) (inc : (rowQ r tp (eff (tat T 0) bt - tp).toNat).Pairwise (· < ·))
def Pq (r : List Int) (tp bt : Int) (T : List Tk) (G : List Int) (pu : Nat) : Prop := (tat T 0).k = 0 ∧ G ++ rowQ r tp (bt - tp).toNat = upto pu
section
variable {r : List Int} {tp bt : Int} {T : List Tk} {G : List Int} {pu : Nat}
theorem Pl.pos (h : Pl r tp bt T G pu) : 1 ≤ r.length := twoV_pos h.two
theorem Pl.ok (h : Pl r tp bt T G pu) : okQ r.length tp bt := by
  have h1 := h.tp0; have h2 := h.tE; have h3 := h.En; have h4 := h.Epu; have h5 := h.pu1
  unfold eff at h2 h3 h4
  refine ⟨h.two, h.sz, h1, ?_, ?_, ?_⟩
  all_goals split at h2 <;> simp_all <;> omega
theorem row_push (h : 1 ≤ r.length) (h1 : tp ≤ bt) (h2 : bt - tp < r.length) (v : Int) : rowQ (r.set (bt % (r.length : Int)).toNat v) tp ((bt - tp).toNat + 1) = rowQ r tp (bt - tp).toNat ++ [v] := by
  have hm := mod_in h bt
  rw [rowQ_snoc, List.length_set, show tp + (((bt - tp).toNat : Nat) : Int) = bt by omega, rd_set_self v hm.1 hm.2]
  congr 1
  unfold rowQ
  rw [List.length_set]
  refine List.map_congr_left fun i hi => ?_
  have hi := List.mem_range.mp hi
  exact rd_set_ne v (mod_in h _).1 hm.1 (mod_ne (by omega) (by omega))
theorem Pl.push (h : Pl r tp bt T G pu) (h0 : (tat T 0).k = 0) (hb : bt - tp ≠ r.length) (hp : pu + 1 ≤ 900) :
    Pl (r.set (bt % (r.length : Int)).toNat ((pu : Int) + 1)) tp (bt + 1) T G (pu + 1) ∧ (Pq r tp bt T G pu → Pq (r.set (bt % (r.length : Int)).toNat ((pu : Int) + 1)) tp (bt + 1) T G (pu + 1)) := by
  have hpos := h.pos
  have e0 : ∀ b, eff (tat T 0) b = b := fun b => by unfold eff; rw [if_pos h0]
  have hh : held (tat T 0) = [] := by unfold held; rw [if_neg (by omega)]
  have h2 := h.tE; have h3 := h.En; have h4 := h.Epu; have hpm := h.perm; have hin := h.inc
  rw [e0] at h2 h3 h4 hpm hin
  rw [hh, List.nil_append] at hpm
  have hrow := row_push (r := r) (tp := tp) (bt := bt) hpos h2 (by omega) ((pu : Int) + 1)
  have hd : (bt + 1 - tp).toNat = (bt - tp).toNat + 1 := by omega
  have hmem : ∀ x ∈ rowQ r tp (bt - tp).toNat, x ≤ (pu : Int) := fun x hx => (mem_upto.1 (hpm.subset (List.mem_append_right _ hx))).2
  refine ⟨⟨?_, ?_, h.tp0, ?_, ?_, ?_, hp, h.len, ?_, ?_, ?_, ?_⟩, ?_⟩
  · rw [List.length_set]; exact h.two
  · rw [List.length_set]; exact h.sz
  · rw [e0]; omega
  · rw [e0, List.length_set]; omega
  · rw [e0]; push_cast; omega
  · have o := h.own
    exact ⟨o.s, o.e, o.k0, o.k4, o.t0, o.t1, fun x => absurd h0 x, fun x => by omega, fun x => by omega⟩
  · intro j h1 h4'
    have t := h.thf j h1 h4'
    rw [e0] at t
    rw [e0]
    refine ⟨t.s, t.e, t.k0, t.k3, t.t0, t.tt, t.b0, t.b1, fun a b => by have := t.live a b; omega, fun a b => ?_⟩
    have hl := t.live (by omega) b
    rw [t.got a b, List.length_set, rd_set_ne _ (mod_in hpos _).1 (mod_in hpos _).1 (mod_ne hl (by omega))]
  · rw [e0, hh, List.nil_append, hd, hrow, ← List.append_assoc, upto_succ]
    exact hpm.append_right _
  · rw [e0, hd, hrow, List.pairwise_append]
    refine ⟨hin, by simp, fun a ha b hb => ?_⟩
    have := hmem a ha
    simp at hb
    omega
  · rintro ⟨_, he⟩
    refine ⟨h0, ?_⟩
    rw [hd, hrow, ← List.append_assoc, he, upto_succ]
/-- A thief's step. -/
theorem Pl.thief (h : Pl r tp bt T G pu) {j : Nat} (h1 : 1 ≤ j) (h4 : j < 4) : ∃ tp' k t b n e, deque_Step.f r tp bt (tat T j).s (tat T j).k (tat T j).t (tat T j).b (tat T j).n (tat T j).e = some (r, tp', bt, true, k, t, b, n, e, 0) ∧
    Pl r tp' bt (T.set j (if e ≠ 0 then tz true else ⟨true, k, t, b, n, e⟩)) (if e = 1 then G ++ [n] else G) pu ∧ (Pq r tp bt T G pu → Pq r tp' bt (T.set j (if e ≠ 0 then tz true else ⟨true, k, t, b, n, e⟩)) (if e = 1 then G ++ [n] else G) pu) := by
  have hpos := h.pos
  have hok := h.ok
  obtain ⟨o1, o2, o3, o4, o5, o6⟩ := hok
  have hok : okQ r.length tp bt := ⟨o1, o2, o3, o4, o5, o6⟩
  have hE := h.Epu; have hpu := h.pu1; have htE := h.tE
  have hbE : bt ≤ eff (tat T 0) bt := by unfold eff; split <;> omega
  have t := h.thf j h1 h4
  obtain ⟨x, hx⟩ : ∃ x, tat T j = x := ⟨_, rfl⟩
  rw [hx] at t ⊢
  obtain ⟨s, k, tt, b, n, e⟩ := x
  obtain ⟨ts, te, tk0, tk3, tt0, ttt, tb0, tb1, tl, tg⟩ := t
  simp only at ts te tk0 tk3 tt0 ttt tb0 tb1 tl tg ⊢
  subst ts te
  have hov : ¬ overP true k tt b 0 := by unfold overP; simp; omega
  have h0' : ∀ y : Tk, tat (T.set j y) 0 = tat T 0 := fun y => by rw [tat_set _ _ _ _ (by rw [h.len]; exact h4), if_neg (by omega)]
  -- where the deque stays as it is, and nothing is got
  have stay : ∀ (y : Tk), Pt r tp (eff (tat T 0) bt) y → Pl r tp bt (T.set j y) G pu ∧ (Pq r tp bt T G pu → Pq r tp bt (T.set j y) G pu) := fun y hy => by
    refine ⟨⟨h.two, h.sz, h.tp0, ?_, ?_, ?_, h.pu1, by rw [List.length_set]; exact h.len, ?_, ?_, ?_, ?_⟩, ?_⟩
    · rw [h0']; exact h.tE
    · rw [h0']; exact h.En
    · rw [h0']; exact h.Epu
    · rw [h0']; exact h.own
    · intro i i1 i4
      rw [h0', tat_set _ _ _ _ (by rw [h.len]; exact h4)]
      split
      · exact hy
      · exact h.thf i i1 i4
    · rw [h0']; exact h.perm
    · rw [h0']; exact h.inc
    · unfold Pq; rw [h0']; exact id
  have zero : Pt r tp (eff (tat T 0) bt) (tz true) := ⟨rfl, rfl, by decide, by decide, by decide, o3, by decide, by decide, fun a => by simp [tz] at a, fun a => by simp [tz] at a⟩
  by_cases c0 : k = 0
  · refine ⟨tp, 1, tp, b, n, 0, step_eq hok hov (by rw [if_pos rfl]; unfold deque_steal.r; rw [if_pos c0]) hok, ?_⟩
    rw [if_neg (show ¬ (0 : Int) ≠ 0 by decide), if_neg (show ¬ (0 : Int) = 1 by decide)]
    exact stay _ ⟨rfl, rfl, by simp, by simp, o3, Int.le_refl _, tb0, tb1, fun a => by simp at a, fun a => by simp at a⟩
  by_cases c1 : k = 1
  · by_cases c : tt ≥ bt
    · refine ⟨tp, 1, tt, bt, n, 2, step_eq hok hov (by rw [if_pos rfl]; unfold deque_steal.r; rw [if_neg c0, if_pos c1, if_pos c]) hok, ?_⟩
      rw [if_pos (show (2 : Int) ≠ 0 by decide), if_neg (show ¬ (2 : Int) = 1 by decide)]
      exact stay _ zero
    · refine ⟨tp, 2, tt, bt, n, 0, step_eq hok hov (by rw [if_pos rfl]; unfold deque_steal.r; rw [if_neg c0, if_pos c1, if_neg c]) hok, ?_⟩
      rw [if_neg (show ¬ (0 : Int) ≠ 0 by decide), if_neg (show ¬ (0 : Int) = 1 by decide)]
      exact stay _ ⟨rfl, rfl, by simp, by simp, tt0, ttt, by simp only; omega, by simp only; omega, fun a b => by simp only at b; omega, fun a => by simp at a⟩
  by_cases c2 : k = 2
  · have hm := mod_in hpos tt
    refine ⟨tp, 3, tt, b, rd r (tt % (r.length : Int)), 0, step_eq hok hov (by rw [if_pos rfl]; unfold deque_steal.r; rw [if_neg c0, if_neg c1, if_pos c2, place_eq _ _ _ _ hpos tt0, Option.bind_some, if_pos hm]) hok, ?_⟩
    rw [if_neg (show ¬ (0 : Int) ≠ 0 by decide), if_neg (show ¬ (0 : Int) = 1 by decide)]
    exact stay _ ⟨rfl, rfl, by simp, by simp, tt0, ttt, tb0, tb1, fun a b => tl (by omega) b, fun a b => by simp only at b ⊢; rw [b]⟩
  have c3 : k = 3 := by omega
  by_cases c : tp = tt
  · subst c
    have hl := tl (by omega) rfl
    have hok' : okQ r.length (tp + 1) bt := ⟨o1, o2, by omega, by omega, by unfold eff at hl; split at hl <;> omega, by omega⟩
    have hk3 : (tat T 0).k < 3 := Classical.byContradiction fun hc => by
      have := h.own.last (by omega)
      unfold eff at hl; split at hl <;> omega
    have hn := tg c3 rfl
    have hrow : rowQ r tp (eff (tat T 0) bt - tp).toNat = n :: rowQ r (tp + 1) (eff (tat T 0) bt - (tp + 1)).toNat := by
      rw [show (eff (tat T 0) bt - tp).toNat = (eff (tat T 0) bt - (tp + 1)).toNat + 1 by omega, rowQ_cons, ← hn]
    have hh : held (tat T 0) = [] := by unfold held; rw [if_neg (by omega)]
    refine ⟨tp + 1, k, tp, b, n, 1, step_eq hok hov (by rw [if_pos rfl]; unfold deque_steal.r; rw [if_neg c0, if_neg c1, if_neg c2, if_pos rfl, w64 (by omega) (by omega)]) hok', ?_⟩
    rw [if_pos (show (1 : Int) ≠ 0 by decide), if_pos (show (1 : Int) = 1 from rfl)]
    refine ⟨⟨h.two, h.sz, by omega, ?_, ?_, ?_, h.pu1, by rw [List.length_set]; exact h.len, ?_, ?_, ?_, ?_⟩, ?_⟩
    · rw [h0']; omega
    · rw [h0']; have := h.En; omega
    · rw [h0']; exact h.Epu
    · rw [h0']
      have o := h.own
      exact ⟨o.s, o.e, o.k0, o.k4, o.t0, o.t1, o.b, fun a => by have := o.two a; omega, fun a => by omega⟩
    · intro i i1 i4
      rw [h0', tat_set _ _ _ _ (by rw [h.len]; exact h4)]
      split
      · exact ⟨rfl, rfl, by decide, by decide, by decide, by show 0 ≤ tp + 1; omega, by decide, by decide, fun a => by simp [tz] at a, fun a => by simp [tz] at a⟩
      · have t := h.thf i i1 i4
        exact ⟨t.s, t.e, t.k0, t.k3, t.t0, by have := t.tt; omega, t.b0, t.b1, fun a b => by have := t.tt; omega, fun a b => by have := t.tt; omega⟩
    · rw [h0', hh, List.nil_append, List.append_assoc]
      have := h.perm
      rw [hh, List.nil_append, hrow] at this
      exact this
    · rw [h0']
      have := h.inc
      rw [hrow] at this
      exact (List.pairwise_cons.1 this).2
    · rintro ⟨q0, q⟩
      refine ⟨by rw [h0']; exact q0, ?_⟩
      have e0 : eff (tat T 0) bt = bt := by unfold eff; rw [if_pos q0]
      rw [e0] at hrow
      rw [List.append_assoc, ← q, hrow]
      rfl
  · refine ⟨tp, k, tt, b, 0, 3, step_eq hok hov (by rw [if_pos rfl]; unfold deque_steal.r; rw [if_neg c0, if_neg c1, if_neg c2, if_neg c]) hok, ?_⟩
    rw [if_pos (show (3 : Int) ≠ 0 by decide), if_neg (show ¬ (3 : Int) = 1 by decide)]
    exact stay _ zero
def rank (k : Int) : Nat := if k = 0 then 0 else if k = 1 then 3 else if k = 2 then 2 else 1
theorem eff_0 {o : Tk} (h : o.k = 0) (b : Int) : eff o b = b := by unfold eff; rw [if_pos h]
theorem eff_1 {o : Tk} (h : o.k ≠ 0) (b : Int) : eff o b = b + 1 := by unfold eff; rw [if_neg h]
/-- The owner's step. -/
theorem Pl.owner (h : Pl r tp bt T G pu) : ∃ tp' bt' k t b n e, deque_Step.f r tp bt (tat T 0).s (tat T 0).k (tat T 0).t (tat T 0).b (tat T 0).n (tat T 0).e = some (r, tp', bt', false, k, t, b, n, e, 0) ∧
    Pl r tp' bt' (T.set 0 (if e ≠ 0 then tz false else ⟨false, k, t, b, n, e⟩)) (if e = 1 then G ++ [n] else G) pu ∧ ((tat T 0).k ≠ 0 → rank (if e ≠ 0 then tz false else ⟨false, k, t, b, n, e⟩ : Tk).k < rank (tat T 0).k) := by
  have hpos := h.pos
  have hok := h.ok
  obtain ⟨o1, o2, o3, o4, o5, o6⟩ := hok
  have hok : okQ r.length tp bt := ⟨o1, o2, o3, o4, o5, o6⟩
  have hE := h.Epu; have hpu := h.pu1; have htE := h.tE; have hEn := h.En; have hpm := h.perm; have hin := h.inc; have hth := h.thf
  have o := h.own
  have hlen : 0 < T.length := by rw [h.len]; decide
  obtain ⟨x, hx⟩ : ∃ x, tat T 0 = x := ⟨_, rfl⟩
  rw [hx] at o hE htE hEn hpm hin hth ⊢
  obtain ⟨s, k, t, b, n, e⟩ := x
  obtain ⟨os, oe, ok0, ok4, ot0, ot1, ob, o2', ol⟩ := o
  simp only at os oe ok0 ok4 ot0 ot1 ob o2' ol ⊢
  subst os oe
  have hov : ¬ overP false k t b 0 := by
    unfold overP; simp
    by_cases c : k = 0
    · omega
    · have := ob c; rw [eff_1 c] at hE; omega
  -- what is left to show of the new state, told by its parts
  have mk : ∀ (tp' bt' : Int) (y : Tk) (G' : List Int), 0 ≤ tp' → tp' ≤ eff y bt' → eff y bt' ≤ tp' + r.length → eff y bt' ≤ pu → Po tp' bt' y → (∀ j, 1 ≤ j → j < 4 → Pt r tp' (eff y bt') (tat T j)) →
      (G' ++ (held y ++ rowQ r tp' (eff y bt' - tp').toNat)).Perm (upto pu) → (rowQ r tp' (eff y bt' - tp').toNat).Pairwise (· < ·) → Pl r tp' bt' (T.set 0 y) G' pu := fun tp' bt' y G' a1 a2 a3 a4 a5 a6 a7 a8 => by
    have h0' : tat (T.set 0 y) 0 = y := by rw [tat_set _ _ _ _ hlen, if_pos rfl]
    have hj' : ∀ j, 1 ≤ j → tat (T.set 0 y) j = tat T j := fun j h1 => by rw [tat_set _ _ _ _ hlen, if_neg (by omega)]
    refine ⟨h.two, h.sz, a1, ?_, ?_, ?_, h.pu1, by rw [List.length_set]; exact h.len, ?_, fun j j1 j4 => ?_, ?_, ?_⟩
    · rw [h0']; exact a2
    · rw [h0']; exact a3
    · rw [h0']; exact a4
    · rw [h0']; exact a5
    · rw [h0', hj' j j1]; exact a6 j j1 j4
    · rw [h0']; exact a7
    · rw [h0']; exact a8
  have keep : ∀ (y : Tk), eff y bt = eff ⟨false, k, t, b, n, 0⟩ bt → held y = held ⟨false, k, t, b, n, 0⟩ → Po tp bt y → Pl r tp bt (T.set 0 y) G pu := fun y e1 e2 e3 =>
    mk tp bt y G o3 (by rw [e1]; exact htE) (by rw [e1]; exact hEn) (by rw [e1]; exact hE) e3 (by rw [e1]; exact hth) (by rw [e1, e2]; exact hpm) (by rw [e1]; exact hin)
  by_cases c0 : k = 0
  · subst c0
    rw [eff_0 rfl] at htE hEn hE hpm hin hth
    have hok' : okQ r.length tp (bt - 1) := ⟨o1, o2, o3, o4, by omega, by omega⟩
    refine ⟨tp, bt - 1, 1, t, bt - 1, n, 0, step_eq hok hov (by rw [if_neg (by decide)]; unfold deque_pop.r; rw [if_pos rfl, w64 (by omega) (by omega)]) hok', ?_, fun a => absurd rfl a⟩
    rw [if_neg (show ¬ (0 : Int) ≠ 0 by decide), if_neg (show ¬ (0 : Int) = 1 by decide)]
    have ee : eff ⟨false, 1, t, bt - 1, n, 0⟩ (bt - 1) = bt := by rw [eff_1 (by simp)]; omega
    refine mk tp (bt - 1) _ G o3 ?_ ?_ ?_ ⟨rfl, rfl, by simp, by simp, ot0, ot1, fun _ => rfl, fun a => by simp at a, fun a => by simp at a⟩ ?_ ?_ ?_
    · rw [ee]; exact htE
    · rw [ee]; exact hEn
    · rw [ee]; exact hE
    · rw [ee]; exact hth
    · rw [ee]; exact hpm
    · rw [ee]; exact hin
  have hb := ob c0
  subst hb
  rw [eff_1 c0] at htE hEn hE hpm hin hth
  by_cases c1 : k = 1
  · subst c1
    by_cases c : tp < b
    · have hm := mod_in hpos b
      refine ⟨tp, b, 1, tp, b, rd r (b % (r.length : Int)), 1, step_eq hok hov (by rw [if_neg (by decide)]; unfold deque_pop.r; rw [if_neg (by decide), if_pos rfl, if_pos c, place_eq _ _ _ _ hpos (by omega), Option.bind_some, if_pos hm]) hok, ?_, fun _ => by simp [rank, tz]⟩
      rw [if_pos (show (1 : Int) ≠ 0 by decide), if_pos (show (1 : Int) = 1 from rfl)]
      have hrow : rowQ r tp (b + 1 - tp).toNat = rowQ r tp (b - tp).toNat ++ [rd r (b % (r.length : Int))] := by
        rw [show (b + 1 - tp).toNat = (b - tp).toNat + 1 by omega, rowQ_snoc, show tp + (((b - tp).toNat : Nat) : Int) = b by omega]
      rw [hrow] at hpm hin
      have ee : eff (tz false) b = b := eff_0 rfl b
      refine mk tp b _ _ o3 (by rw [ee]; omega) (by rw [ee]; omega) (by rw [ee]; omega) ⟨rfl, rfl, by decide, by decide, by decide, by decide, fun a => absurd rfl a, fun a => by simp [tz] at a, fun a => by simp [tz] at a⟩ ?_ ?_ ?_
      · intro j j1 j4
        have q := hth j j1 j4
        rw [ee]
        exact ⟨q.s, q.e, q.k0, q.k3, q.t0, q.tt, q.b0, q.b1, fun _ _ => c, q.got⟩
      · rw [ee]
        refine List.Perm.trans ?_ hpm
        show (G ++ [_] ++ ([] ++ _)).Perm (G ++ ([] ++ (_ ++ [_])))
        simp only [List.nil_append, List.append_assoc]
        exact List.Perm.append_left G List.perm_append_comm
      · rw [ee]
        exact (List.pairwise_append.1 hin).1
    · by_cases c' : tp = b
      · refine ⟨tp, b, 2, tp, b, n, 0, step_eq hok hov (by rw [if_neg (by decide)]; unfold deque_pop.r; rw [if_neg (by decide), if_pos rfl, if_neg c, if_pos c']) hok, ?_, fun _ => by simp [rank, tz]⟩
        rw [if_neg (show ¬ (0 : Int) ≠ 0 by decide), if_neg (show ¬ (0 : Int) = 1 by decide)]
        exact keep _ (by rw [eff_1 (by simp), eff_1 (by simp)]) rfl ⟨rfl, rfl, by simp, by simp, by simp only; omega, by simp only; omega, fun _ => rfl, fun _ => by simp only; omega, fun a => by simp at a⟩
      · refine ⟨tp, b, 3, tp, b, n, 0, step_eq hok hov (by rw [if_neg (by decide)]; unfold deque_pop.r; rw [if_neg (by decide), if_pos rfl, if_neg c, if_neg c']) hok, ?_, fun _ => by simp [rank, tz]⟩
        rw [if_neg (show ¬ (0 : Int) ≠ 0 by decide), if_neg (show ¬ (0 : Int) = 1 by decide)]
        exact keep _ (by rw [eff_1 (by simp), eff_1 (by simp)]) rfl ⟨rfl, rfl, by simp, by simp, by simp only; omega, by simp only; omega, fun _ => rfl, fun a => by simp at a, fun _ => by omega⟩
  by_cases c2 : k = 2
  · subst c2
    obtain ⟨q1, q2⟩ := o2' rfl
    by_cases c : tp = t
    · have hm := mod_in hpos b
      have hok' : okQ r.length (tp + 1) b := ⟨o1, o2, by omega, by omega, by omega, by omega⟩
      refine ⟨tp + 1, b, 4, t, b, rd r (b % (r.length : Int)), 0, step_eq hok hov (by rw [if_neg (by decide)]; unfold deque_pop.r; rw [if_neg (by decide), if_neg (by decide), if_pos rfl, if_pos c, w64 (by omega) (by omega), place_eq _ _ _ _ hpos (by omega), Option.bind_some, if_pos hm]) hok', ?_, fun _ => by simp [rank, tz]⟩
      rw [if_neg (show ¬ (0 : Int) ≠ 0 by decide), if_neg (show ¬ (0 : Int) = 1 by decide)]
      have hrow : rowQ r tp (b + 1 - tp).toNat = [rd r (b % (r.length : Int))] := by
        rw [show (b + 1 - tp).toNat = 0 + 1 by omega, rowQ_cons, show tp = b by omega]; rfl
      have ee : eff ⟨false, 4, t, b, rd r (b % (r.length : Int)), 0⟩ b = b + 1 := eff_1 (by simp) b
      have er : rowQ r (tp + 1) (b + 1 - (tp + 1)).toNat = [] := by rw [show (b + 1 - (tp + 1)).toNat = 0 by omega]; rfl
      rw [hrow] at hpm
      refine mk (tp + 1) b _ _ (by omega) (by rw [ee]; omega) (by rw [ee]; omega) (by rw [ee]; omega) ⟨rfl, rfl, by simp, by simp, ot0, ot1, fun _ => rfl, fun a => by simp at a, fun _ => by omega⟩ ?_ ?_ ?_
      · intro j j1 j4
        have q := hth j j1 j4
        have := q.tt
        exact ⟨q.s, q.e, q.k0, q.k3, q.t0, by omega, q.b0, q.b1, fun _ _ => by omega, fun _ _ => by omega⟩
      · rw [ee, er]
        exact hpm
      · rw [ee, er]; exact List.Pairwise.nil
    · refine ⟨tp, b, 3, t, b, n, 0, step_eq hok hov (by rw [if_neg (by decide)]; unfold deque_pop.r; rw [if_neg (by decide), if_neg (by decide), if_pos rfl, if_neg c]) hok, ?_, fun _ => by simp [rank, tz]⟩
      rw [if_neg (show ¬ (0 : Int) ≠ 0 by decide), if_neg (show ¬ (0 : Int) = 1 by decide)]
      exact keep _ (by rw [eff_1 (by simp), eff_1 (by simp)]) rfl ⟨rfl, rfl, by simp, by simp, ot0, ot1, fun _ => rfl, fun a => by simp at a, fun _ => by omega⟩
  have hl := ol (by omega)
  have hok' : okQ r.length tp (b + 1) := ⟨o1, o2, o3, o4, by omega, by omega⟩
  have er : rowQ r tp (b + 1 - tp).toNat = [] := by rw [show (b + 1 - tp).toNat = 0 by omega]; rfl
  have ee : eff (tz false) (b + 1) = b + 1 := eff_0 rfl _
  have fin : ∀ G' : List Int, (G' ++ ([] ++ rowQ r tp (b + 1 - tp).toNat)).Perm (upto pu) → Pl r tp (b + 1) (T.set 0 (tz false)) G' pu := fun G' hp => by
    refine mk tp (b + 1) _ _ o3 (by rw [ee]; omega) (by rw [ee]; omega) (by rw [ee]; omega) ⟨rfl, rfl, by decide, by decide, by decide, by decide, fun a => absurd rfl a, fun a => by simp [tz] at a, fun a => by simp [tz] at a⟩ ?_ ?_ ?_
    · rw [ee]; exact hth
    · rw [ee]; exact hp
    · rw [ee]; exact hin
  by_cases c4 : k = 4
  · subst c4
    refine ⟨tp, b + 1, 4, t, b, n, 1, step_eq hok hov (by rw [if_neg (by decide)]; unfold deque_pop.r; rw [if_neg (by decide), if_neg (by decide), if_neg (by decide), if_pos rfl, w64 (by omega) (by omega)]) hok', ?_, fun _ => by simp [rank, tz]⟩
    rw [if_pos (show (1 : Int) ≠ 0 by decide), if_pos (show (1 : Int) = 1 from rfl)]
    refine fin _ ?_
    refine List.Perm.trans (List.Perm.of_eq ?_) hpm
    show G ++ [n] ++ ([] ++ _) = G ++ ([n] ++ _)
    simp
  · have c3 : k = 3 := by omega
    subst c3
    refine ⟨tp, b + 1, 3, t, b, n, 2, step_eq hok hov (by rw [if_neg (by decide)]; unfold deque_pop.r; rw [if_neg (by decide), if_neg (by decide), if_neg (by decide), if_neg (by decide), w64 (by omega) (by omega)]) hok', ?_, fun _ => by simp [rank, tz]⟩
    rw [if_pos (show (2 : Int) ≠ 0 by decide), if_neg (show ¬ (2 : Int) = 1 by decide)]
    exact fin _ hpm
end
theorem rank_3 (k : Int) : rank k ≤ 3 := by unfold rank; (repeat' split) <;> omega
theorem rank_0 {k : Int} (h0 : 0 ≤ k) (h : rank k = 0) : k = 0 := by
  unfold rank at h
  by_cases c : k = 0
  · exact c
  · rw [if_neg c] at h; (repeat' split at h) <;> omega
theorem play_run (ks : List Int) (hl : ks.length ≤ 800) : ∀ (d j i pu : Nat) (r : List Int) (tp bt : Int) (T : List Tk) (G : List Int), i + d = ks.length + 32 → d < j → pu ≤ i → Pl r tp bt T G pu → (ks.length ≤ i → rank (tat T 0).k + (i - ks.length + 3) / 4 ≤ 8) →
    ∃ r' tp' bt' T' G', ∃ pu' : Nat, play_l0 ks j i pu r tp bt T G = some (r', tp', bt', G', (pu' : Int), true) ∧ Pl r' tp' bt' T' G' pu' ∧ (tat T' 0).k = 0 ∧ ((∀ i, i < ks.length → pick ks i ≠ 0) → Pq r tp bt T G pu → Pq r' tp' bt' T' G' pu')
  | 0, j + 1, i, pu, r, tp, bt, T, G, hi, hj, hp, h, hr => by
    have h8 := hr (by omega)
    refine ⟨r, tp, bt, T, G, pu, ?_, h, rank_0 h.own.k0 (by omega), fun _ => id⟩
    simp only [play_l0]
    rw [if_neg (by omega)]
  | d + 1, j + 1, i, pu, r, tp, bt, T, G, hi, hj, hp, h, hr => by
    have hk := pick_in ks i
    have hpu := h.pu1
    simp only [play_l0]
    rw [if_pos (by omega)]
    by_cases c : pick ks i < 0
    · have hil : i < ks.length := Classical.byContradiction fun q => by unfold pick at c; rw [if_neg q] at c; omega
      have same : ∃ r' tp' bt' T' G', ∃ pu' : Nat, play_l0 ks j (i + 1) pu r tp bt T G = some (r', tp', bt', G', (pu' : Int), true) ∧ Pl r' tp' bt' T' G' pu' ∧ (tat T' 0).k = 0 ∧ ((∀ i, i < ks.length → pick ks i ≠ 0) → Pq r tp bt T G pu → Pq r' tp' bt' T' G' pu') :=
        play_run ks hl d j (i + 1) pu r tp bt T G (by omega) (by omega) (by omega) h (fun _ => by have := rank_3 (tat T 0).k; omega)
      rw [if_pos c]
      by_cases c0 : (tat T 0).k = 0
      · rw [if_pos c0, push_eq 0, w64 (by omega) (by omega)]
        simp only [Option.bind_some]
        have hE := h.tE
        rw [eff_0 c0] at hE
        by_cases cf : bt - tp = r.length
        · have e : pushV r tp bt ((pu : Int) + 1) = ([], 0, 0, 121) := by unfold pushV; rw [if_pos h.ok, if_pos (.inr cf)]
          rw [e]
          simp only [if_neg (show ¬ (121 : Int) = 0 by decide), if_true]
          exact same
        · have e : pushV r tp bt ((pu : Int) + 1) = (r.set (bt % (r.length : Int)).toNat ((pu : Int) + 1), tp, bt + 1, 0) := by unfold pushV; rw [if_pos h.ok, if_neg (by omega)]
          rw [e]
          simp only [if_true]
          obtain ⟨h1, h2⟩ := h.push c0 cf (by omega)
          obtain ⟨r', tp', bt', T', G', pu', e1, e2, e3, e4⟩ := play_run ks hl d j (i + 1) (pu + 1) _ tp (bt + 1) T G (by omega) (by omega) (by omega) h1 (fun _ => by have := rank_3 (tat T 0).k; omega)
          exact ⟨r', tp', bt', T', G', pu', e1, e2, e3, fun a b => e4 a (h2 b)⟩
      · rw [if_neg c0]
        exact same
    · rw [if_neg c]
      by_cases cs : ks.length ≤ i ∧ (tat T (pick ks i).toNat).k = 0
      · rw [if_pos cs]
        refine play_run ks hl d j (i + 1) pu r tp bt T G (by omega) (by omega) (by omega) h (fun _ => ?_)
        have h8 := hr cs.1
        by_cases cp : pick ks i = 0
        · have : (tat T 0).k = 0 := by have := cs.2; rw [cp] at this; exact this
          rw [this]; show 0 + _ ≤ 8
          omega
        · have : ((i : Int) - (ks.length : Int)) % 4 ≠ 0 := by unfold pick at cp; rw [if_neg (by omega)] at cp; exact cp
          omega
      · rw [if_neg cs]
        by_cases cp : pick ks i = 0
        · rw [cp]
          obtain ⟨tp1, bt1, k, t, b, n, e, hs, h1, h2⟩ := h.owner
          rw [show (0 : Int).toNat = 0 from rfl, hs]
          simp only [Option.bind_some]
          rw [if_pos trivial]
          have hT0 : ∀ x, tat (T.set 0 x) 0 = x := fun x => by rw [tat_set _ _ _ _ (by rw [h.len]; decide), if_pos rfl]
          obtain ⟨r', tp', bt', T', G', pu', e1, e2, e3, e4⟩ := play_run ks hl d j (i + 1) pu r tp1 bt1 _ _ (by omega) (by omega) (by omega) h1 (fun hi1 => by
            rw [hT0]
            have r3 := rank_3 (if e ≠ 0 then tz false else ⟨false, k, t, b, n, e⟩ : Tk).k
            by_cases hil : ks.length ≤ i
            · have h8 := hr hil
              have hk0 : (tat T 0).k ≠ 0 := fun q => cs ⟨hil, by rw [cp]; exact q⟩
              have := h2 hk0
              have h4 : ((i : Int) - (ks.length : Int)) % 4 = 0 := by unfold pick at cp; rw [if_neg (by omega)] at cp; exact cp
              omega
            · omega)
          refine ⟨r', tp', bt', T', G', pu', e1, e2, e3, fun a b => ?_⟩
          exfalso
          by_cases hil : ks.length ≤ i
          · exact cs ⟨hil, by rw [cp]; exact b.1⟩
          · exact a i (by omega) cp
        · obtain ⟨tp1, k, t, b, n, e, hs, h1, h2⟩ := h.thief (j := (pick ks i).toNat) (by omega) (by omega)
          rw [hs]
          simp only [Option.bind_some]
          rw [if_pos trivial]
          have hT0 : ∀ x, tat (T.set (pick ks i).toNat x) 0 = tat T 0 := fun x => by rw [tat_set _ _ _ _ (by rw [h.len]; omega), if_neg (by omega)]
          obtain ⟨r', tp', bt', T', G', pu', e1, e2, e3, e4⟩ := play_run ks hl d j (i + 1) pu r tp1 bt _ _ (by omega) (by omega) (by omega) h1 (fun hi1 => by
            rw [hT0]
            have r3 := rank_3 (tat T 0).k
            by_cases hil : ks.length ≤ i
            · have h8 := hr hil
              have : ((i : Int) - (ks.length : Int)) % 4 ≠ 0 := by unfold pick at cp; rw [if_neg (by omega)] at cp; exact cp
              omega
            · omega)
          exact ⟨r', tp', bt', T', G', pu', e1, e2, e3, fun a b => e4 a (h2 b)⟩
theorem start_ok {n : Nat} (h : twoB (n : Int) = true) (h6 : (n : Int) ≤ 64) : Pl (List.replicate n 0) 0 0 takers0 [] 0 ∧ Pq (List.replicate n 0) 0 0 takers0 [] 0 := by
  refine ⟨⟨by rw [List.length_replicate]; exact h, by rw [List.length_replicate]; exact h6, by decide, by decide, ?_, by decide, by decide, rfl, ⟨rfl, rfl, by decide, by decide, by decide, by decide, fun a => absurd rfl a, fun a => by simp [takers0, tat, tz] at a, fun a => by simp [takers0, tat, tz] at a⟩, ?_, ?_, ?_⟩, rfl, rfl⟩
  · show (0 : Int) ≤ _
    rw [List.length_replicate]; omega
  · intro j h1 h4
    have : tat takers0 j = tz true := by
      match j, h1, h4 with
      | 1, _, _ => rfl
      | 2, _, _ => rfl
      | 3, _, _ => rfl
    rw [this]
    exact ⟨rfl, rfl, by decide, by decide, by decide, by decide, by decide, by decide, fun a => by simp [tz] at a, fun a => by simp [tz] at a⟩
  · exact List.Perm.refl []
  · exact List.Pairwise.nil
/-- What is so at the end of a play. -/
theorem play_end (ks : List Int) (hl : ks.length ≤ 800) (K : Nat) (hK : 900 < K) {n : Nat} (h : twoB (n : Int) = true) (h6 : (n : Int) ≤ 64) :
    ∃ r tp bt G, ∃ pu : Nat, play_l0 ks K 0 0 (List.replicate n 0) 0 0 takers0 [] = some (r, tp, bt, G, (pu : Int), true) ∧ pu ≤ 900 ∧ okQ r.length tp bt ∧ tp ≤ bt ∧ (G ++ rowQ r tp (bt - tp).toNat).Perm (upto pu) ∧ (rowQ r tp (bt - tp).toNat).Pairwise (· < ·) ∧
      ((∀ i, i < ks.length → pick ks i ≠ 0) → G ++ rowQ r tp (bt - tp).toNat = upto pu) := by
  obtain ⟨h1, h2⟩ := start_ok h h6
  obtain ⟨r, tp, bt, T, G, pu, e1, e2, e3, e4⟩ := play_run ks hl (ks.length + 32) K 0 0 _ 0 0 takers0 [] (by omega) (by omega) (by omega) h1 (fun _ => by show 0 + _ ≤ 8; omega)
  have a := e2.perm; have b := e2.inc; have c := e2.tE
  have hh : held (tat T 0) = [] := by unfold held; rw [if_neg (by omega)]
  rw [eff_0 e3] at a b c
  rw [hh, List.nil_append] at a
  exact ⟨r, tp, bt, G, pu, e1, e2.pu1, e2.ok, c, a, b, fun x => (e4 x h2).2⟩
theorem count_one {l : List Int} {x : Int} : l.Nodup → x ∈ l → l.count x = 1 := by
  induction l with
  | nil => intro _ h; cases h
  | cons a l ih =>
    intro hn hm
    have ⟨h1, h2⟩ := List.nodup_cons.1 hn
    by_cases c : a = x
    · subst c; rw [List.count_cons_self, List.count_eq_zero.2 h1]
    · rw [List.count_cons_of_ne c, ih h2 ((List.mem_cons.1 hm).resolve_left (fun e => c e.symm))]
theorem upto_count (m : Nat) (x : Int) : (upto m).count x = if 1 ≤ x ∧ x ≤ m then 1 else 0 := by
  have hnd : (upto m).Nodup := by
    unfold upto
    refine List.Pairwise.map _ ?_ (List.nodup_range (n := m))
    intro a b hab e
    exact hab (by omega)
  split
  · next h => exact count_one hnd (mem_upto.2 h)
  · next h => exact List.count_eq_zero.2 (fun hm => h (mem_upto.1 hm))
/-- Each number that was pushed was got once, or is there still. -/
theorem once {G L : List Int} {pu : Nat} (h : (G ++ L).Perm (upto pu)) (hs : L.Pairwise (· < ·)) {n : Int} (h1 : 1 ≤ n) (h2 : n ≤ pu) : G.count n + (if n ∈ L then 1 else 0) = 1 := by
  have e := h.count_eq n
  rw [List.count_append, upto_count, if_pos ⟨h1, h2⟩] at e
  have hnd : L.Nodup := hs.imp (fun hab => by intro e; omega)
  by_cases c : n ∈ L
  · rw [if_pos c]; rw [count_one hnd c] at e; exact e
  · rw [if_neg c]; rw [List.count_eq_zero.2 c] at e; exact e
/-- What the play answers. -/
theorem play_ok (a0 : Int) (l1 : List S51) (hl : l1.length ≤ 800) (K : Nat) (hK : 900 < K) (h : (twoV a0).2 = true) (h6 : a0 ≤ 64) :
    ∃ r tp bt G, ∃ pu : Nat, trefoillaw12_play.f K a0 l1 = some (r, tp, bt, G, (pu : Int), true) ∧ pu ≤ 900 ∧ okQ r.length tp bt ∧ tp ≤ bt ∧ (G ++ rowQ r tp (bt - tp).toNat).Perm (upto pu) ∧ (rowQ r tp (bt - tp).toNat).Pairwise (· < ·) ∧
      ((∀ i, i < l1.length → pick (l1.map fun a => a.f0) i ≠ 0) → G ++ rowQ r tp (bt - tp).toNat = upto pu) := by
  have h0 : 0 ≤ a0 := by
    rcases Int.lt_or_le a0 0 with c | c
    · rw [twoV_no (fun k _ => by have := pow_pos_int k; omega)] at h; cases h
    · exact c
  obtain ⟨n, rfl⟩ : ∃ n : Nat, a0 = n := ⟨a0.toNat, by omega⟩
  obtain ⟨r, tp, bt, G, pu, e, q⟩ := play_end (l1.map fun a => a.f0) (by rw [List.length_map]; exact hl) K hK (n := n) h h6
  refine ⟨r, tp, bt, G, pu, ?_, by rw [List.length_map] at q; exact q⟩
  unfold trefoillaw12_play.f
  rw [if_pos hl, new_eq, if_pos (show (twoV (n : Int)).2 = true ∧ (n : Int) ≤ 64 ∧ 0 ≤ (n : Int) from ⟨h, h6, h0⟩)]
  simp only [Option.bind_some, if_true]
  rw [Int.toNat_natCast]
  exact e
end Go.Proofs.YtdmgigicbppjkaaDoor.Q
