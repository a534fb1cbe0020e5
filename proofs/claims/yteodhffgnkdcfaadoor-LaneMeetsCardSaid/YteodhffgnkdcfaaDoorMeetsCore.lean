/- Plain facts: what fits is done by its due. No memory and no Go in it. -/
import Derived.Test.YteodhffgnkdcfaaDoorMeetsPlain
import Derived.Test.YteodhffgnkdcfaaDoorLaneFirstPure
set_option linter.unusedVariables false
set_option linter.unusedSimpArgs false
namespace Go.Proofs.YteodhffgnkdcfaaDoor.Q
open Go.RowKit Go.Proofs.YteodhffgnkdcfaaDoorW.PrintWords Go.Proofs.YteodhffgnkdcfaaDoorW.PrintLast Go.Proofs.YteodhffgnkdcfaaDoorW.PrintMore
/-! ### What fits is done by its due: plain facts -/
theorem d1_nn {s : S29} (h : okS s) (u : Int) : 0 ≤ d1 u s ∧ (s.f3 ≤ u → s.f0 ≤ d1 u s) := by
  have hp := okS_p h
  obtain ⟨_, g1, g2, g3, g4, _⟩ := h
  unfold d1
  by_cases hd : u < s.f3
  · rw [if_pos hd]; exact ⟨by omega, fun hh => by omega⟩
  · rw [if_neg hd]
    have q0 : 0 ≤ (u - s.f3) / s.f4 := Int.ediv_nonneg (by omega) (by omega)
    generalize (u - s.f3) / s.f4 = q at *
    have m2 : s.f0 * 1 ≤ s.f0 * (q + 1) := Int.mul_le_mul_of_nonneg_left (by omega) (by omega)
    exact ⟨by omega, fun _ => by omega⟩
theorem d1_mono {s : S29} (h : okS s) {u v : Int} (huv : u ≤ v) : d1 u s ≤ d1 v s := by
  have hp := okS_p h
  have hn := d1_nn h v
  obtain ⟨_, g1, g2, g3, g4, _⟩ := h
  unfold d1 at *
  by_cases hd : u < s.f3
  · rw [if_pos hd]; exact hn.1
  · rw [if_neg hd, if_neg (by omega)]
    have hq : (u - s.f3) / s.f4 ≤ (v - s.f3) / s.f4 := Int.ediv_le_ediv (by omega) (by omega)
    exact Int.mul_le_mul_of_nonneg_left (by omega) (by omega)
/-- One period later one job less is due. -/
theorem d1_less {s : S29} (h : okS s) (u : Int) : d1 (u - s.f4) s = d1 u s - (if s.f3 ≤ u then s.f0 else 0) := by
  have hp := okS_p h
  obtain ⟨_, g1, g2, g3, g4, _⟩ := h
  unfold d1
  by_cases hd : u < s.f3
  · rw [if_pos (by omega), if_pos hd, if_neg (by omega)]; rfl
  · rw [if_neg hd, if_pos (show s.f3 ≤ u by omega)]
    by_cases he : u - s.f4 < s.f3
    · rw [if_pos he, Int.ediv_eq_zero_of_lt (by omega) (by omega)]
      omega
    · rw [if_neg he]
      have e : (u - s.f3) / s.f4 = (u - s.f4 - s.f3) / s.f4 + 1 := by
        have : u - s.f3 = (u - s.f4 - s.f3) + 1 * s.f4 := by omega
        rw [this, Int.add_mul_ediv_right _ _ (by omega)]
      rw [e]
      generalize (u - s.f4 - s.f3) / s.f4 = q
      have : s.f0 * (q + 1 + 1) = s.f0 * (q + 1) + s.f0 := by rw [Int.mul_add s.f0 (q + 1) 1]; omega
      omega
/-- When a task may be released next. -/
def relI (s : S29) (la : Int) : Int := if 0 < la then la - 1 + s.f4 else 0
/-- What is released from now on, and due up to d. -/
def Fd (d t : Int) : List S29 → List Int → Int
  | s :: sh, la :: last => d1 (d - max t (relI s la)) s + Fd d t sh last
  | _, _ => 0
theorem Fd_nn (d t : Int) : ∀ (sh : List S29) (last : List Int), (∀ s ∈ sh, okS s) → 0 ≤ Fd d t sh last
  | [], _, _ => by simp [Fd]
  | _ :: _, [], _ => by simp [Fd]
  | s :: sh, la :: last, h => by
    have := (d1_nn (h s List.mem_cons_self) (d - max t (relI s la))).1
    have := Fd_nn d t sh last (fun x hx => h x (List.mem_cons_of_mem _ hx))
    unfold Fd
    omega
theorem Fd_anti {d t u : Int} (htu : t ≤ u) : ∀ (sh : List S29) (last : List Int), (∀ s ∈ sh, okS s) → Fd d u sh last ≤ Fd d t sh last
  | [], _, _ => by simp [Fd]
  | _ :: _, [], _ => by simp [Fd]
  | s :: sh, la :: last, h => by
    have := d1_mono (h s List.mem_cons_self) (u := d - max u (relI s la)) (v := d - max t (relI s la)) (by omega)
    have := Fd_anti (d := d) htu sh last (fun x hx => h x (List.mem_cons_of_mem _ hx))
    unfold Fd
    omega
theorem Fd_le {d t : Int} : ∀ (sh : List S29) (last : List Int), (∀ s ∈ sh, okS s) → Fd d t sh last ≤ D sh (d - t)
  | [], _, _ => by simp [Fd, D]
  | s :: sh, [], h => by
    unfold Fd D
    rw [List.map_cons, List.sum_cons]
    have h1 := (d1_nn (h s List.mem_cons_self) (d - t)).1
    have h2 := Fd_le (d := d) (t := t) sh [] (fun x hx => h x (List.mem_cons_of_mem _ hx))
    have h3 : Fd d t sh [] = 0 := by cases sh <;> rfl
    unfold D at h2
    omega
  | s :: sh, la :: last, h => by
    have h1 := d1_mono (h s List.mem_cons_self) (u := d - max t (relI s la)) (v := d - t) (by omega)
    have h2 := Fd_le (d := d) (t := t) sh last (fun x hx => h x (List.mem_cons_of_mem _ hx))
    unfold Fd
    unfold D at h2 ⊢
    rw [List.map_cons, List.sum_cons]
    omega
/-- A release: one job less is to come. -/
theorem Fd_set {d t : Int} (ht : 0 ≤ t) : ∀ (sh : List S29) (last : List Int) (i : Nat) (s : S29), (∀ s ∈ sh, okS s) → last.length = sh.length → sh[i]? = some s → relI s (last.getD i 0) ≤ t → Fd d t sh (last.set i (t + 1)) = Fd d t sh last - (if s.f3 ≤ d - t then s.f0 else 0)
  | [], _, i, s, _, _, hi, _ => by simp at hi
  | _ :: _, [], i, s, _, hl, _, _ => by simp at hl
  | x :: sh, la :: last, 0, s, h, hl, hi, hr => by
    obtain rfl : x = s := by simpa using hi
    have hx := h x List.mem_cons_self
    have hp := okS_p hx
    rw [List.set_cons_zero]
    unfold Fd
    have hr : relI x la ≤ t := hr
    have e1 : max t (relI x la) = t := by omega
    have e2 : max t (relI x (t + 1)) = t + x.f4 := by unfold relI; rw [if_pos (by omega)]; omega
    rw [e1, e2]
    have := d1_less hx (d - t)
    have e3 : d - (t + x.f4) = d - t - x.f4 := by omega
    rw [e3]
    omega
  | x :: sh, la :: last, i + 1, s, h, hl, hi, hr => by
    rw [List.set_cons_succ]
    unfold Fd
    have := Fd_set (d := d) ht sh last i s (fun y hy => h y (List.mem_cons_of_mem _ hy)) (by simpa using hl) (by simpa using hi) hr
    omega
/-- What a job counts, up to d: all of it, or, if it is due later, what is left of the node that has begun. -/
def mJ (d run : Int) (x : J3) : Int := if x.f1 ≤ d then x.f2.sum else if x.f0 = run then x.f2.headD 0 else 0
def wJ (d : Int) (x : J3) : Int := if x.f1 ≤ d then x.f2.sum else 0
def Md (d run : Int) (l : List J3) : Int := (l.map (mJ d run)).sum
def Wd (d : Int) (l : List J3) : Int := (l.map (wJ d)).sum
theorem wJ_nn {d : Int} {x : J3} (h : okJ x) : 0 ≤ wJ d x ∧ (0 < wJ d x ↔ x.f1 ≤ d) := by
  have := h.sum
  unfold wJ
  split
  · exact ⟨by omega, fun _ => by assumption, fun _ => by omega⟩
  · exact ⟨by omega, fun h => by omega, fun h => by omega⟩
theorem head_nn {x : J3} (h : okJ x) : 0 ≤ x.f2.headD 0 := by
  unfold okJ at h
  have h2 := h.2.2.2.2.2.2
  cases hx : x.f2 with
  | nil => simp
  | cons g tl => have := h2 g (by rw [hx]; exact List.mem_cons_self); show 0 ≤ g; omega
theorem wm_le {d run : Int} {x : J3} (h : okJ x) : wJ d x ≤ mJ d run x := by
  have := head_nn h
  unfold wJ mJ
  split
  · omega
  · split <;> omega
theorem Wd_cons (d : Int) (x : J3) (l : List J3) : Wd d (x :: l) = wJ d x + Wd d l := by unfold Wd; rw [List.map_cons, List.sum_cons]
theorem Md_cons (d run : Int) (x : J3) (l : List J3) : Md d run (x :: l) = mJ d run x + Md d run l := by unfold Md; rw [List.map_cons, List.sum_cons]
theorem Wd_nn {d : Int} : ∀ {l : List J3}, (∀ x ∈ l, okJ x) → 0 ≤ Wd d l
  | [], _ => by simp [Wd]
  | x :: l, h => by
    rw [Wd_cons]
    have := (wJ_nn (d := d) (h x List.mem_cons_self)).1
    have := Wd_nn (d := d) (l := l) (fun y hy => h y (List.mem_cons_of_mem _ hy))
    omega
theorem Wd_pos {d : Int} : ∀ {l : List J3}, (∀ x ∈ l, okJ x) → (0 < Wd d l ↔ ∃ x ∈ l, x.f1 ≤ d)
  | [], _ => by simp [Wd]
  | x :: l, h => by
    rw [Wd_cons]
    have h1 := wJ_nn (d := d) (h x List.mem_cons_self)
    have h2 := Wd_nn (d := d) (l := l) (fun y hy => h y (List.mem_cons_of_mem _ hy))
    have h3 := Wd_pos (d := d) (l := l) (fun y hy => h y (List.mem_cons_of_mem _ hy))
    constructor
    · intro h4
      by_cases c : 0 < wJ d x
      · exact ⟨x, List.mem_cons_self, h1.2.1 c⟩
      · obtain ⟨y, hy, e⟩ := h3.1 (by omega)
        exact ⟨y, List.mem_cons_of_mem _ hy, e⟩
    · rintro ⟨y, hy, e⟩
      rcases List.mem_cons.1 hy with rfl | hy
      · have := h1.2.2 e; omega
      · have := h3.2 ⟨y, hy, e⟩; omega
theorem Wd_le_Md {d run : Int} : ∀ {l : List J3}, (∀ x ∈ l, okJ x) → Wd d l ≤ Md d run l
  | [], _ => by simp [Wd, Md]
  | x :: l, h => by
    rw [Wd_cons, Md_cons]
    have := wm_le (d := d) (run := run) (h x List.mem_cons_self)
    have := Wd_le_Md (d := d) (run := run) (l := l) (fun y hy => h y (List.mem_cons_of_mem _ hy))
    omega
theorem Md_ins (d run : Int) (j : J3) : ∀ l : List J3, Md d run (insJ l j) = mJ d run j + Md d run l
  | [] => by unfold insJ; rw [Md_cons]
  | x :: l => by
    unfold insJ
    split
    · rw [Md_cons, Md_cons, Md_ins d run j l]; omega
    · rw [Md_cons, Md_cons]
theorem Wd_ins (d : Int) (j : J3) : ∀ l : List J3, Wd d (insJ l j) = wJ d j + Wd d l
  | [] => by unfold insJ; rw [Wd_cons]
  | x :: l => by
    unfold insJ
    split
    · rw [Wd_cons, Wd_cons, Wd_ins d j l]; omega
    · rw [Wd_cons, Wd_cons]
theorem split_at (f : J3 → Int) : ∀ (l : List J3) (n : Nat), n < l.length → (l.map f).sum = f (l.getD n z41) + ((l.eraseIdx n).map f).sum
  | [], n, h => by simp at h
  | y :: l, 0, h => by rw [List.map_cons, List.sum_cons]; rfl
  | y :: l, n + 1, h => by
    rw [List.map_cons, List.sum_cons, split_at f l n (by simpa using h), List.eraseIdx_cons_succ, List.map_cons, List.sum_cons]
    show f y + (f (l.getD n z41) + _) = f (l.getD n z41) + _
    omega
/-- Where nobody of them runs, only what is due counts. -/
theorem Md_none {d run : Int} : ∀ {l : List J3}, (∀ x ∈ l, x.f0 ≠ run) → Md d run l = Wd d l
  | [], _ => by simp [Wd, Md]
  | x :: l, h => by
    rw [Wd_cons, Md_cons, Md_none (fun y hy => h y (List.mem_cons_of_mem _ hy))]
    have : mJ d run x = wJ d x := by
      unfold mJ wJ
      rw [if_neg (h x List.mem_cons_self)]
    omega
theorem not_task {l : List J3} (h : l.Pairwise (fun a b => a.f0 < b.f0)) {n : Nat} (hn : n < l.length) : ∀ x ∈ l.eraseIdx n, x.f0 ≠ (l.getD n z41).f0 := by
  intro x hx e
  obtain ⟨q, hq, he⟩ := List.mem_eraseIdx_iff_getElem.1 hx
  obtain ⟨hql, hqn⟩ := he
  rw [getD_lt hn] at e
  rw [List.pairwise_iff_getElem] at h
  rcases Nat.lt_or_ge q n with c | c
  · have := h q n hq hn c
    rw [← hqn] at e
    omega
  · have := h n q hn hq (by omega)
    rw [← hqn] at e
    omega
/-- What holds, tick by tick: shapes sh, at time t. -/
structure MI (sh : List S29) (t : Int) (l : List J3) (run : Int) (last : List Int) : Prop where
  ok : okL l run
  len : last.length = sh.length
  lb : ∀ i, last.getD i 0 ≤ t + 1
  jb : ∀ x ∈ l, ∃ (i : Nat) (s : S29), x.f0 = i ∧ sh[i]? = some s ∧ 0 < last.getD i 0 ∧ x.f1 = last.getD i 0 - 1 + s.f3 ∧ ∀ n ∈ x.f2, n ≤ s.f2
  main : ∀ d, t ≤ d → 0 < Wd d l + Fd d t sh last → Md d run l + Fd d t sh last ≤ d - t
theorem MI.start {sh : List S29} (hs : ∀ s ∈ sh, okS s) (hf : AllFit sh) : MI sh 0 [] (-1) (List.replicate sh.length 0) := by
  refine ⟨⟨fun x hx => (by cases hx), List.Pairwise.nil, .inl rfl⟩, by simp, fun i => ?_, fun x hx => (by cases hx), fun d hd hp => ?_⟩
  · rw [List.getD_eq_getElem?_getD, List.getElem?_replicate]
    split <;> simp
  · have hF := Fd_le (d := d) (t := 0) sh (List.replicate sh.length 0) hs
    simp only [Wd, Md, List.map_nil, List.sum_nil] at hp ⊢
    rw [Int.sub_zero] at hF ⊢
    have hD : 0 < D sh d := by omega
    have hd1 : 1 ≤ d := by
      rcases Int.lt_or_le 0 d with c | c
      · exact c
      · have : d = 0 := by omega
        subst this
        have h0 : D sh 0 = 0 := by
          have key : ∀ sh : List S29, (∀ s ∈ sh, okS s) → D sh 0 = 0 := fun sh => by
            induction sh with
            | nil => intro _; rfl
            | cons s sh ih =>
              intro h
              have h1 := (h s List.mem_cons_self).2.1
              rw [D_cons, ih (fun x hx => h x (List.mem_cons_of_mem _ hx))]
              unfold d1
              rw [if_pos (by omega)]; rfl
          exact key sh hs
        omega
    have := hf d hd1 hD
    have := B_nonneg sh d
    omega
theorem MI.late {sh : List S29} {t : Int} {l : List J3} {run : Int} {last : List Int} (h : MI sh t l run last) (hs : ∀ s ∈ sh, okS s) : ∀ x ∈ l, t < x.f1 := by
  intro x hx
  rcases Int.lt_or_le t x.f1 with c | c
  · exact c
  · exfalso
    have h1 := (Wd_pos (d := t) h.ok.1).2 ⟨x, hx, c⟩
    have h2 := Fd_nn t t sh last hs
    have h3 := h.main t (Int.le_refl _) (by omega)
    have h4 := Wd_le_Md (d := t) (run := run) h.ok.1
    omega
/-- A release. -/
theorem MI.add {sh : List S29} {t : Int} {l : List J3} {run : Int} {last : List Int} (h : MI sh t l run last) (hs : ∀ s ∈ sh, okS s) (hl : sh.length ≤ 8) (h0 : 0 ≤ t) (h1 : t ≤ 100000) {i : Nat} {s : S29} (hi : sh[i]? = some s) (hr : relI s (last.getD i 0) ≤ t) {need : List Int} (hn1 : 1 ≤ need.length) (hn2 : need.length ≤ 64) (hn : ∀ n ∈ need, 1 ≤ n ∧ n ≤ 1000 ∧ n ≤ s.f2) (hsum : need.sum ≤ s.f0) :
    okJ ⟨i, t + s.f3, need⟩ ∧ ¬ hasT l i ∧ MI sh t (insJ l ⟨i, t + s.f3, need⟩) run (last.set i (t + 1)) := by
  have hil : i < sh.length := (List.getElem?_eq_some_iff.1 hi).1
  have hss := hs s (List.mem_of_getElem? hi)
  have hp := okS_p hss
  have hj : okJ ⟨i, t + s.f3, need⟩ := by
    obtain ⟨_, g1, g2, _⟩ := hss
    exact ⟨by show (0 : Int) ≤ i; omega, by show (i : Int) < 8; omega, by show 0 ≤ t + s.f3; omega, by show t + s.f3 ≤ _; omega, hn1, hn2, fun n hn' => ⟨(hn n hn').1, (hn n hn').2.1⟩⟩
  have hnT : ¬ hasT l i := by
    rintro ⟨x, hx, e⟩
    obtain ⟨i', s', e1, e2, e3, e4, _⟩ := h.jb x hx
    have : i' = i := by omega
    subst this
    rw [hi] at e2
    obtain rfl := Option.some.inj e2
    have := h.late hs x hx
    unfold relI at hr
    rw [if_pos e3] at hr
    obtain ⟨_, g1, g2, _⟩ := hss
    omega
  have hlen := h.len
  refine ⟨hj, hnT, insJ_ok h.ok hj hnT, by rw [List.length_set]; exact hlen, fun q => ?_, fun x hx => ?_, fun d hd hpos => ?_⟩
  · have := h.lb q
    rw [List.getD_eq_getElem?_getD, List.getElem?_set]
    rw [List.getD_eq_getElem?_getD] at this
    split
    · split
      · simp
      · simp; omega
    · exact this
  · rcases insJ_mem.1 hx with rfl | hx
    · refine ⟨i, s, rfl, hi, ?_, ?_, fun n hn' => (hn n hn').2.2⟩
      · rw [List.getD_eq_getElem?_getD, List.getElem?_set_self (by omega)]; show 0 < t + 1; omega
      · rw [List.getD_eq_getElem?_getD, List.getElem?_set_self (by omega)]; show t + s.f3 = t + 1 - 1 + s.f3; omega
    · obtain ⟨i', s', e1, e2, e3, e4, e5⟩ := h.jb x hx
      have hne : i ≠ i' := fun e => hnT ⟨x, hx, by rw [e1, e]⟩
      have eg : (last.set i (t + 1)).getD i' 0 = last.getD i' 0 := by
        rw [List.getD_eq_getElem?_getD, List.getElem?_set_ne hne, ← List.getD_eq_getElem?_getD]
      exact ⟨i', s', e1, e2, by rw [eg]; exact e3, by rw [eg]; exact e4, e5⟩
  · have hF := Fd_set (d := d) h0 sh last i s hs hlen hi hr
    rw [hF, Wd_ins] at hpos
    rw [hF, Md_ins]
    have hrun : (i : Int) ≠ run := fun e => by
      rcases h.ok.2.2 with h2 | h2
      · omega
      · exact hnT (by rw [e]; exact h2)
    have hm : mJ d run ⟨i, t + s.f3, need⟩ = wJ d ⟨i, t + s.f3, need⟩ := by
      unfold mJ wJ
      rw [if_neg (show ¬ (⟨(i : Int), t + s.f3, need⟩ : J3).f0 = run from hrun)]
    have hw : wJ d ⟨i, t + s.f3, need⟩ ≤ (if s.f3 ≤ d - t then s.f0 else 0) := by
      unfold wJ
      show (if t + s.f3 ≤ d then need.sum else 0) ≤ _
      split
      · rw [if_pos (by omega)]; exact hsum
      · rw [if_neg (by omega)]; exact Int.le_refl _
    have := h.main d hd (by omega)
    omega
/-- What a tick leaves of the job that runs. -/
theorem tick_more {l : List J3} {run : Int} {k : Nat} (hk : 1000 < k) (h : okL l run) (hne : l ≠ []) : ∃ n x0 x1 g tl y r' nd al, lane_Tick.f k l run = some (y, r', x0, nd, al, 0) ∧ okL y r' ∧ n < l.length ∧ l.getD n z41 = ⟨x0, x1, g :: tl⟩ ∧ nextV l run = x0 ∧
    ((g = 1 ∧ r' = -1 ∧ (tl = [] ∧ y = l.eraseIdx n ∨ y = l.set n ⟨x0, x1, tl⟩)) ∨ (1 < g ∧ r' = x0 ∧ y = l.set n ⟨x0, x1, (g - 1) :: tl⟩)) := by
  have hs := nextV_has h hne
  obtain ⟨s, hse⟩ : ∃ s, nextV l run = s := ⟨_, rfl⟩
  rw [hse] at hs
  have hf : ¬ findI l s < 0 := fun h2 => (findI_neg l s).1 h2 hs
  obtain ⟨n, hnf, hnl, hnt⟩ := findI_at hf
  have hx := h.1 _ (mem_getD (z := z41) hnl)
  obtain ⟨x0, x1, g, tl, hxe⟩ : ∃ x0 x1 g tl, l.getD n z41 = ⟨x0, x1, g :: tl⟩ := by
    have h1 := hx.2.2.2.2.1
    match hh : l.getD n z41, h1 with
    | ⟨x0, x1, g :: tl⟩, _ => exact ⟨x0, x1, g, tl, rfl⟩
  have hx' := hx
  rw [hxe] at hx' hnt
  have hnt : x0 = s := hnt
  subst hnt
  have hg : 1 ≤ g ∧ g ≤ 1000 := hx'.2.2.2.2.2.2 g List.mem_cons_self
  have htl : ∀ q ∈ tl, 1 ≤ q ∧ q ≤ 1000 := fun q hq => hx'.2.2.2.2.2.2 q (List.mem_cons_of_mem _ hq)
  have hlen : tl.length + 1 ≤ 64 := hx'.2.2.2.2.2.1
  have hw : wrap64 (g - 1) = g - 1 := lw64 (by omega) (by omega)
  have hT : lane_Tick.f k l run = some (tickV l x0 n) := by
    unfold lane_Tick.f
    rw [check_yes (by have := h.len; omega) hk h]
    simp only [Option.bind_some, if_true]
    have hs0 : 0 ≤ x0 := hx'.1
    rw [if_pos h.own, hse, if_neg (by omega), if_neg hf, hnf, Int.toNat_natCast]
  by_cases c1 : g - 1 = 0
  · by_cases c2 : tl = []
    · refine ⟨n, x0, x1, g, tl, l.eraseIdx n, -1, true, true, ?_, ⟨(erase_ok ⟨h.1, h.2.1⟩).1, (erase_ok ⟨h.1, h.2.1⟩).2, .inl rfl⟩, hnl, hxe, hse, .inl ⟨by omega, rfl, .inl ⟨c2, rfl⟩⟩⟩
      rw [hT]
      unfold tickV
      rw [hxe]
      show some (if wrap64 (g - 1) = 0 then (if tl = [] then _ else _) else _) = _
      rw [hw, if_pos c1, if_pos c2]
    · have hok : okJ ⟨x0, x1, tl⟩ := ⟨hx'.1, hx'.2.1, hx'.2.2.1, hx'.2.2.2.1, by have := List.length_pos_iff.2 c2; show 1 ≤ tl.length; omega, by show tl.length ≤ 64; omega, htl⟩
      have hs2 := set_ok hnl ⟨h.1, h.2.1⟩ hok (by rw [hxe])
      refine ⟨n, x0, x1, g, tl, l.set n ⟨x0, x1, tl⟩, -1, true, false, ?_, ⟨hs2.1, hs2.2, .inl rfl⟩, hnl, hxe, hse, .inl ⟨by omega, rfl, .inr rfl⟩⟩
      rw [hT]
      unfold tickV
      rw [hxe]
      show some (if wrap64 (g - 1) = 0 then (if tl = [] then _ else _) else _) = _
      rw [hw, if_pos c1, if_neg c2]
      rfl
  · have hok : okJ ⟨x0, x1, (g - 1) :: tl⟩ := ⟨hx'.1, hx'.2.1, hx'.2.2.1, hx'.2.2.2.1, by show 1 ≤ tl.length + 1; omega, by show tl.length + 1 ≤ 64; omega, fun q hq => by
      rcases List.mem_cons.1 hq with rfl | hq
      · omega
      · exact htl q hq⟩
    have hs2 := set_ok hnl ⟨h.1, h.2.1⟩ hok (by rw [hxe])
    refine ⟨n, x0, x1, g, tl, l.set n ⟨x0, x1, (g - 1) :: tl⟩, x0, false, false, ?_, ⟨hs2.1, hs2.2, .inr (hasT_set (x := ⟨x0, x1, (g - 1) :: tl⟩) hnl)⟩, hnl, hxe, hse, .inr ⟨by omega, rfl, rfl⟩⟩
    rw [hT]
    unfold tickV
    rw [hxe]
    show some (if wrap64 (g - 1) = 0 then _ else (l.set n ⟨x0, x1, wrap64 (g - 1) :: tl⟩, x0, x0, false, false, 0)) = _
    rw [hw, if_neg c1]
theorem sum_at_set (f : J3 → Int) {l : List J3} {n : Nat} (hn : n < l.length) (x : J3) : ((l.set n x).map f).sum = f x + ((l.eraseIdx n).map f).sum := by
  rw [split_at f (l.set n x) n (by rw [List.length_set]; exact hn), getD_set hn, set_eraseIdx]
/-- A tick, if all fit: nobody is late behind it. -/
theorem MI.tick {sh : List S29} {t : Int} {l : List J3} {run : Int} {last : List Int} (h : MI sh t l run last) (hs : ∀ s ∈ sh, okS s) (hf : AllFit sh) (h0 : 0 ≤ t) {k : Nat} (hk : 1000 < k) : ∃ y r' s nd al, lane_Tick.f k l run = some (y, r', s, nd, al, 0) ∧ MI sh (t + 1) y r' last := by
  have hD0 : ∀ u, 0 < D sh u → 1 ≤ u := fun u hu => by
    rcases Int.lt_or_le 0 u with c | c
    · exact c
    · exfalso
      have key : ∀ sh : List S29, (∀ s ∈ sh, okS s) → D sh u = 0 := fun sh => by
        induction sh with
        | nil => intro _; rfl
        | cons s sh ih =>
          intro h
          have h1 := (h s List.mem_cons_self).2.1
          rw [D_cons, ih (fun x hx => h x (List.mem_cons_of_mem _ hx))]
          unfold d1
          rw [if_pos (by omega)]; rfl
      rw [key sh hs] at hu
      omega
  -- what is due is 0: only what blocks
  have idle : ∀ (d : Int) (m : Int), t + 1 ≤ d → 0 < Fd d (t + 1) sh last → (m ≤ 0 ∨ ∃ (s : S29), s ∈ sh ∧ d - t < s.f3 ∧ m ≤ s.f2) → m + Fd d (t + 1) sh last ≤ d - (t + 1) := fun d m hd hF hm => by
    have hle := Fd_le (d := d) (t := t + 1) sh last hs
    have hDp : 0 < D sh (d - (t + 1)) := by omega
    have hfit := hf _ (hD0 _ hDp) hDp
    have hB : m ≤ B sh (d - (t + 1)) := by
      rcases hm with hm | ⟨s, hsm, h3, h4⟩
      · have := B_nonneg sh (d - (t + 1)); omega
      · have := (B_le.1 (Int.le_refl (B sh (d - (t + 1))))).2 s hsm (by omega)
        omega
    omega
  by_cases hne : l = []
  · subst hne
    refine ⟨[], -1, -1, false, false, tick_none hk h.ok, ?_⟩
    refine ⟨⟨fun x hx => (by cases hx), List.Pairwise.nil, .inl rfl⟩, h.len, fun i => by have := h.lb i; omega, fun x hx => (by cases hx), fun d hd hp => ?_⟩
    simp only [Wd, Md, List.map_nil, List.sum_nil] at hp ⊢
    exact idle d 0 hd (by omega) (.inl (Int.le_refl _))
  · obtain ⟨n, x0, x1, g, tl, y, r', nd, al, hT, hy, hn, hxe, hnx, hcase⟩ := tick_more hk h.ok hne
    have hx := h.ok.1 _ (mem_getD (z := z41) hn)
    have hxm : (l.getD n z41) ∈ l := mem_getD (z := z41) hn
    have hnt := not_task h.ok.2.1 hn
    obtain ⟨i, s, e1, e2, e3, e4, e5⟩ := h.jb _ hxm
    have hrn : run = -1 ∨ run = x0 := by
      by_cases c : run = -1
      · exact .inl c
      · right
        rw [← hnx]
        unfold nextV
        rw [if_neg (fun h2 => c h2.1)]
    have hok := h.ok.1
    have hfirst : run = -1 → ∀ b ∈ l, ¬ ahead b (l.getD n z41) := fun hr b hb => first_law h.ok hxm hb hr (by rw [hnx, hxe])
    rw [hxe] at hx hnt e1 e4 e5 hfirst
    simp only at hnt e1 e4 e5
    have hx0 : 0 ≤ x0 := hx.1
    have hsum : (g :: tl).sum = g + tl.sum := List.sum_cons
    have htls : 0 ≤ tl.sum := by
      have : ∀ q ∈ tl, 1 ≤ q ∧ q ≤ 1000 := fun q hq => hx.2.2.2.2.2.2 q (List.mem_cons_of_mem _ hq)
      have := sum_bounds this
      omega
    have hg : 1 ≤ g := (hx.2.2.2.2.2.2 g List.mem_cons_self).1
    have hgs : g ≤ s.f2 := e5 g List.mem_cons_self
    -- the other jobs
    have hE : ∀ d r, (r = -1 ∨ r = x0) → Md d r (l.eraseIdx n) = Wd d (l.eraseIdx n) := fun d r hr => Md_none (fun z hz => by
      rcases hr with rfl | rfl
      · have := (hok z (List.mem_of_mem_eraseIdx hz)).1; omega
      · exact hnt z hz)
    have hEnn : ∀ d, 0 ≤ Wd d (l.eraseIdx n) := fun d => Wd_nn (fun z hz => hok z (List.mem_of_mem_eraseIdx hz))
    have hM : ∀ d, Md d run l = mJ d run ⟨x0, x1, g :: tl⟩ + Wd d (l.eraseIdx n) := fun d => by
      have := split_at (mJ d run) l n hn
      rw [hxe] at this
      rw [← hE d run hrn]
      exact this
    have hW : ∀ d, Wd d l = wJ d ⟨x0, x1, g :: tl⟩ + Wd d (l.eraseIdx n) := fun d => by
      have := split_at (wJ d) l n hn
      rw [hxe] at this
      exact this
    -- what is left of it counts one less, if it is due, or blocks
    have hnew : ∃ (m' w' : Int → Int), (∀ d, Md d r' y = m' d + Wd d (l.eraseIdx n)) ∧ (∀ d, Wd d y = w' d + Wd d (l.eraseIdx n)) ∧ (∀ d, x1 ≤ d → m' d = g - 1 + tl.sum ∧ w' d = g - 1 + tl.sum) ∧ (∀ d, ¬ x1 ≤ d → m' d = g - 1 ∧ w' d = 0) := by
      rcases hcase with ⟨hg1, hr, (⟨htl, hy2⟩ | hy2)⟩ | ⟨hg1, hr, hy2⟩
      · refine ⟨fun _ => 0, fun _ => 0, fun d => ?_, fun d => ?_, fun d hd => ?_, fun d hd => ?_⟩
        · rw [hy2, hE d r' (.inl hr)]; simp
        · rw [hy2]; simp
        · rw [htl, List.sum_nil]; show (0 : Int) = g - 1 + 0 ∧ (0 : Int) = g - 1 + 0; omega
        · show (0 : Int) = g - 1 ∧ (0 : Int) = 0; omega
      · refine ⟨fun d => mJ d r' ⟨x0, x1, tl⟩, fun d => wJ d ⟨x0, x1, tl⟩, fun d => ?_, fun d => ?_, fun d hd => ?_, fun d hd => ?_⟩
        · rw [hy2, ← hE d r' (.inl hr)]; exact sum_at_set _ hn _
        · rw [hy2]; exact sum_at_set _ hn _
        · unfold mJ wJ
          show (if x1 ≤ d then tl.sum else _) = _ ∧ (if x1 ≤ d then tl.sum else _) = _
          rw [if_pos hd, if_pos hd]; exact ⟨by omega, by omega⟩
        · unfold mJ wJ
          show (if x1 ≤ d then tl.sum else if x0 = r' then _ else 0) = _ ∧ (if x1 ≤ d then tl.sum else 0) = _
          rw [if_neg hd, if_neg hd, if_neg (by omega)]; exact ⟨by omega, rfl⟩
      · refine ⟨fun d => mJ d r' ⟨x0, x1, (g - 1) :: tl⟩, fun d => wJ d ⟨x0, x1, (g - 1) :: tl⟩, fun d => ?_, fun d => ?_, fun d hd => ?_, fun d hd => ?_⟩
        · rw [hy2, ← hE d r' (.inr hr)]; exact sum_at_set _ hn _
        · rw [hy2]; exact sum_at_set _ hn _
        · unfold mJ wJ
          show (if x1 ≤ d then ((g - 1) :: tl).sum else _) = _ ∧ (if x1 ≤ d then ((g - 1) :: tl).sum else _) = _
          rw [if_pos hd, if_pos hd, List.sum_cons]; exact ⟨rfl, rfl⟩
        · unfold mJ wJ
          show (if x1 ≤ d then ((g - 1) :: tl).sum else if x0 = r' then (g - 1) else 0) = _ ∧ (if x1 ≤ d then ((g - 1) :: tl).sum else 0) = _
          rw [if_neg hd, if_neg hd, if_pos hr.symm]; exact ⟨rfl, rfl⟩
    obtain ⟨m', w', hM', hW', hdue, hlat⟩ := hnew
    refine ⟨y, r', x0, nd, al, hT, hy, h.len, fun q => by have := h.lb q; omega, fun z hz => ?_, fun d hd hp => ?_⟩
    · -- jobs stay what they are
      have hold : ∀ z ∈ l.eraseIdx n, ∃ (i : Nat) (s : S29), z.f0 = i ∧ sh[i]? = some s ∧ 0 < last.getD i 0 ∧ z.f1 = last.getD i 0 - 1 + s.f3 ∧ ∀ n ∈ z.f2, n ≤ s.f2 := fun z hz => h.jb z (List.mem_of_mem_eraseIdx hz)
      have hset : ∀ (v : List Int), (∀ q ∈ v, q ≤ s.f2) → ∀ z ∈ l.set n ⟨x0, x1, v⟩, ∃ (i : Nat) (s : S29), z.f0 = i ∧ sh[i]? = some s ∧ 0 < last.getD i 0 ∧ z.f1 = last.getD i 0 - 1 + s.f3 ∧ ∀ n ∈ z.f2, n ≤ s.f2 := fun v hv z hz => by
        rcases List.mem_or_eq_of_mem_set hz with hz | rfl
        · exact h.jb z hz
        · exact ⟨i, s, e1, e2, e3, e4, hv⟩
      rcases hcase with ⟨hg1, hr, (⟨htl, hy2⟩ | hy2)⟩ | ⟨hg1, hr, hy2⟩
      · rw [hy2] at hz; exact hold z hz
      · rw [hy2] at hz; exact hset tl (fun q hq => e5 q (List.mem_cons_of_mem _ hq)) z hz
      · rw [hy2] at hz
        refine hset _ (fun q hq => ?_) z hz
        rcases List.mem_cons.1 hq with rfl | hq
        · omega
        · exact e5 q (List.mem_cons_of_mem _ hq)
    · have hFa := Fd_anti (d := d) (show t ≤ t + 1 by omega) sh last hs
      have hFn := Fd_nn d (t + 1) sh last hs
      have hE0 := hEnn d
      rw [hW' d] at hp
      rw [hM' d]
      have hWl := hW d
      have hMl := hM d
      by_cases cx : x1 ≤ d
      · -- it is due by d: one less
        obtain ⟨q1, q2⟩ := hdue d cx
        have hwx : wJ d ⟨x0, x1, g :: tl⟩ = g + tl.sum := by unfold wJ; rw [if_pos (show (⟨x0, x1, g :: tl⟩ : J3).f1 ≤ d from cx)]; exact hsum
        have hmx : mJ d run ⟨x0, x1, g :: tl⟩ = g + tl.sum := by unfold mJ; rw [if_pos (show (⟨x0, x1, g :: tl⟩ : J3).f1 ≤ d from cx)]; exact hsum
        have := h.main d (by omega) (by omega)
        omega
      · obtain ⟨q1, q2⟩ := hlat d cx
        have hwx : wJ d ⟨x0, x1, g :: tl⟩ = 0 := by unfold wJ; rw [if_neg (show ¬ (⟨x0, x1, g :: tl⟩ : J3).f1 ≤ d from cx)]
        by_cases cE : 0 < Wd d (l.eraseIdx n)
        · -- others are due by d: it has begun
          obtain ⟨z, hz, hzd⟩ := (Wd_pos (fun z hz => hok z (List.mem_of_mem_eraseIdx hz))).1 cE
          have hr : run = x0 := by
            rcases hrn with hr | hr
            · exfalso
              refine hfirst hr z (List.mem_of_mem_eraseIdx hz) (.inl ?_)
              show z.f1 < x1
              omega
            · exact hr
          have hmx : mJ d run ⟨x0, x1, g :: tl⟩ = g := by
            unfold mJ
            rw [if_neg (show ¬ (⟨x0, x1, g :: tl⟩ : J3).f1 ≤ d from cx), if_pos (show (⟨x0, x1, g :: tl⟩ : J3).f0 = run from hr.symm)]
            rfl
          have := h.main d (by omega) (by omega)
          omega
        · -- nothing is due by d
          have e0 : Wd d (l.eraseIdx n) = 0 := by omega
          rw [e0, q1]
          have hlb := h.lb i
          have := idle d (g - 1 + 0) hd (by omega) (.inr ⟨s, List.mem_of_getElem? e2, by omega, by omega⟩)
          omega
end Go.Proofs.YteodhffgnkdcfaaDoor.Q
