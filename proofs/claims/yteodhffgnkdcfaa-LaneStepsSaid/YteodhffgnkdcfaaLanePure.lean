/- Plain facts on lanes: what may be, adding, all that is only read. No memory and no Go in it. -/
import Derived.Test.YteodhffgnkdcfaaQx17
import Derived.Test.YteodhffgnkdcfaaQx18
import Derived.Test.YteodhffgnkdcfaaQx16
set_option linter.unusedVariables false
set_option linter.unusedSimpArgs false
namespace Go.Proofs.Yteodhffgnkdcfaa.Q
open Go.RowKit Go.Proofs.YteodhffgnkdcfaaW.PrintWords Go.Proofs.YteodhffgnkdcfaaW.PrintLast Go.Proofs.YteodhffgnkdcfaaW.PrintMore

theorem lw64 {n : Int} (h0 : -9223372036854775808 ≤ n) (h1 : n ≤ 9223372036854775807) : wrap64 n = n := by unfold wrap64; omega

/-- A job that may be. -/
def okJ (x : J3) : Prop := 0 ≤ x.f0 ∧ x.f0 < 8 ∧ 0 ≤ x.f1 ∧ x.f1 ≤ 1099511627775 ∧ 1 ≤ x.f2.length ∧ x.f2.length ≤ 64 ∧ ∀ n ∈ x.f2, 1 ≤ n ∧ n ≤ 1000
theorem jobB_iff (x : J3) : jobB x.f0 x.f1 x.f2 = true ↔ okJ x := by
  unfold jobB okJ
  simp only [Bool.and_eq_true, decide_eq_true_eq, Bool.not_eq_true', List.any_eq_false]
  have e : ∀ n : Int, ¬ oddN n = true ↔ (1 ≤ n ∧ n ≤ 1000) := fun n => by
    unfold oddN
    simp only [Bool.or_eq_true, decide_eq_true_eq]
    omega
  simp only [e]
  constructor
  · rintro ⟨h1, h2, h3, h4, h5, h6, h7⟩
    exact ⟨by omega, h2, by omega, h4, by omega, by omega, h7⟩
  · rintro ⟨h1, h2, h3, h4, h5, h6, h7⟩
    exact ⟨by omega, h2, by omega, h4, by omega, by omega, h7⟩
/-- Is there a task's job? -/
def hasT (l : List J3) (t : Int) : Prop := ∃ x ∈ l, x.f0 = t
theorem findI_neg (l : List J3) (t : Int) : findI l t < 0 ↔ ¬ hasT l t := by
  unfold findI idxP hasT
  by_cases c : l.findIdx (fun j => j.f0 == t) < l.length
  · rw [if_pos c]
    have h1 : ∃ x ∈ l, x.f0 = t := by
      refine ⟨_, List.getElem_mem c, ?_⟩
      simpa using List.findIdx_getElem (w := c)
    constructor
    · intro h; omega
    · intro h; exact absurd h1 h
  · rw [if_neg c]
    constructor
    · rintro - ⟨x, hx, hxt⟩
      exact c (List.findIdx_lt_length_of_exists ⟨x, hx, by simpa using hxt⟩)
    · intro _; decide
/-- A lane that may be. -/
def okL (l : List J3) (run : Int) : Prop := (∀ x ∈ l, okJ x) ∧ l.Pairwise (fun a b => a.f0 < b.f0) ∧ (run = -1 ∨ hasT l run)
/-- From place i on all is as it may be. -/
def okFrom (l : List J3) (i : Nat) : Prop := ∀ q, i ≤ q → q < l.length → okJ (l.getD q z27) ∧ (0 < q → (l.getD (q - 1) z27).f0 < (l.getD q z27).f0)
theorem getD_lt {l : List J3} {q : Nat} (h : q < l.length) : l.getD q z27 = l[q] := by
  rw [List.getD_eq_getElem?_getD, List.getElem?_eq_getElem h]; rfl
theorem okFrom_iff (l : List J3) : okFrom l 0 ↔ (∀ x ∈ l, okJ x) ∧ l.Pairwise (fun a b => a.f0 < b.f0) := by
  constructor
  · intro h
    refine ⟨fun x hx => ?_, ?_⟩
    · obtain ⟨q, hq, rfl⟩ := List.mem_iff_getElem.1 hx
      have := (h q (Nat.zero_le _) hq).1
      rwa [getD_lt hq] at this
    · rw [List.pairwise_iff_getElem]
      intro i j hi hj hij
      obtain ⟨d, rfl⟩ : ∃ d, j = i + 1 + d := ⟨j - i - 1, by omega⟩
      clear hij
      induction d with
      | zero =>
        have := (h (i + 1 + 0) (Nat.zero_le _) hj).2 (by omega)
        rw [getD_lt hj, getD_lt (show i + 1 + 0 - 1 < l.length by omega)] at this
        simpa using this
      | succ d ih =>
        have h1 := ih (by omega)
        have := (h (i + 1 + (d + 1)) (Nat.zero_le _) hj).2 (by omega)
        rw [getD_lt hj, getD_lt (show i + 1 + (d + 1) - 1 < l.length by omega)] at this
        have e : i + 1 + (d + 1) - 1 = i + 1 + d := by omega
        simp only [e] at this
        exact Int.lt_trans h1 this
  · rintro ⟨h1, h2⟩ q _ hq
    refine ⟨by rw [getD_lt hq]; exact h1 _ (List.getElem_mem hq), fun h0 => ?_⟩
    rw [getD_lt hq, getD_lt (show q - 1 < l.length by omega)]
    exact (List.pairwise_iff_getElem.1 h2) _ _ _ _ (by omega)
theorem check_loop (l : List J3) (run : Int) (hl : l.length ≤ 1000) : ∀ (d k i : Nat), i + d = l.length → d < k → ((okFrom l i ∧ (run = -1 ∨ hasT l run)) → lane_Check.l0 k l (l.length : Int) (i : Int) l run = some 0) ∧ (¬ (okFrom l i ∧ (run = -1 ∨ hasT l run)) → lane_Check.l0 k l (l.length : Int) (i : Int) l run = some 180)
  | 0, k + 1, i, hi, _ => by
    have e : i = l.length := by omega
    have hf : okFrom l i := fun q h1 h2 => by omega
    have hfd : lane_find.f l run run = some (findI l run) := rfl
    constructor
    · rintro ⟨-, h⟩
      unfold lane_Check.l0
      rw [if_neg (by omega)]
      rcases h with h | h
      · rw [if_pos h]
      · by_cases c : run = -1
        · rw [if_pos c]
        · rw [if_neg c, hfd]
          simp only [Option.bind_some]
          rw [if_neg (fun h2 => (findI_neg l run).1 h2 h)]
    · intro h
      have h : ¬ (run = -1 ∨ hasT l run) := fun h2 => h ⟨hf, h2⟩
      unfold lane_Check.l0
      rw [if_neg (by omega), if_neg (fun c => h (.inl c)), hfd]
      simp only [Option.bind_some]
      rw [if_pos ((findI_neg l run).2 (fun c => h (.inr c)))]
  | d + 1, k + 1, i, hi, hk => by
    have hlt : i < l.length := by omega
    obtain ⟨ih1, ih2⟩ := check_loop l run hl d k (i + 1) (by omega) (by omega)
    have hw : wrap64 ((i : Int) + 1) = ((i + 1 : Nat) : Int) := by rw [lw64 (by omega) (by omega)]; omega
    have hw2 : wrap64 ((i : Int) - 1) = (i : Int) - 1 := lw64 (by omega) (by omega)
    have hr : rd_T27 l (i : Int) = l.getD i z27 := by unfold rd_T27; rw [Int.toNat_natCast]
    have hj : lane_job.f (l.getD i z27).f0 (l.getD i z27).f1 (l.getD i z27).f2 = some (jobB (l.getD i z27).f0 (l.getD i z27).f1 (l.getD i z27).f2) := rfl
    have hstep : okFrom l i ↔ (okJ (l.getD i z27) ∧ (0 < i → (l.getD (i - 1) z27).f0 < (l.getD i z27).f0)) ∧ okFrom l (i + 1) := by
      constructor
      · exact fun h => ⟨h i (Nat.le_refl _) hlt, fun q h1 h2 => h q (by omega) h2⟩
      · rintro ⟨h1, h2⟩ q hq1 hq2
        rcases Nat.lt_or_ge i q with h | h
        · exact h2 q (by omega) hq2
        · obtain rfl : q = i := by omega
          exact h1
    unfold lane_Check.l0
    rw [if_pos (by omega), if_pos (by omega), if_pos (by omega), hr, hj]
    simp only [Option.bind_some, hw, hw2]
    by_cases cj : jobB (l.getD i z27).f0 (l.getD i z27).f1 (l.getD i z27).f2 = true
    · rw [if_pos cj]
      have cj' := (jobB_iff _).1 cj
      by_cases c0 : (i : Int) > 0
      · have hr2 : rd_T27 l ((i : Int) - 1) = l.getD (i - 1) z27 := by
          unfold rd_T27
          congr 1
          omega
        rw [if_pos c0, if_pos (by omega), if_pos (by omega), hr2]
        by_cases cs : (l.getD (i - 1) z27).f0 ≥ (l.getD i z27).f0
        · rw [if_pos cs]
          exact ⟨fun h => absurd ((hstep.1 h.1).1.2 (by omega)) (by omega), fun _ => rfl⟩
        · rw [if_neg cs]
          exact ⟨fun h => ih1 ⟨(hstep.1 h.1).2, h.2⟩, fun h => ih2 (fun h2 => h ⟨hstep.2 ⟨⟨cj', fun _ => by omega⟩, h2.1⟩, h2.2⟩)⟩
      · rw [if_neg c0]
        exact ⟨fun h => ih1 ⟨(hstep.1 h.1).2, h.2⟩, fun h => ih2 (fun h2 => h ⟨hstep.2 ⟨⟨cj', fun h0 => by omega⟩, h2.1⟩, h2.2⟩)⟩
    · rw [if_neg cj]
      exact ⟨fun h => absurd ((jobB_iff _).2 (hstep.1 h.1).1.1) cj, fun _ => rfl⟩
theorem check_yes {l : List J3} {run : Int} {k : Nat} (hl : l.length ≤ 1000) (hk : 1000 < k) (h : okL l run) : lane_Check.f k l run = some 0 :=
  (check_loop l run hl l.length k 0 (by omega) (by omega)).1 ⟨(okFrom_iff l).2 ⟨h.1, h.2.1⟩, h.2.2⟩
theorem check_no {l : List J3} {run : Int} {k : Nat} (hl : l.length ≤ 1000) (hk : 1000 < k) (h : ¬ okL l run) : lane_Check.f k l run = some 180 :=
  (check_loop l run hl l.length k 0 (by omega) (by omega)).2 (fun h2 => h ⟨((okFrom_iff l).1 h2.1).1, ((okFrom_iff l).1 h2.1).2, h2.2⟩)
/-- Few enough. -/
def fewL (l : List J3) : Prop := l.length ≤ 12 ∧ ∀ x ∈ l, x.f2.length ≤ 70
theorem few_loop (l : List J3) (a : Int) : ∀ (d k i : Nat), i + d = 14 → i ≤ l.length → i ≤ 13 → 2 * d < k → (∀ q, q < i → (l.getD q z27).f2.length ≤ 70) → (fewL l → trefoilref18_Few.l0 k (i : Int) l a = some true) ∧ (¬ fewL l → trefoilref18_Few.l0 k (i : Int) l a = some false)
  | 0, k, i, hi, _, h13, _, _ => by omega
  | d + 1, k + 2, i, hi, hil, h13, hk, hq => by
    have hend : ∀ b : Bool, b = false → (i = l.length ∨ i = 13) → (fewL l → (if b = true then (none : Option Bool) else some (decide ((l.length : Int) ≤ 12))) = some true) ∧ (¬ fewL l → (if b = true then (none : Option Bool) else some (decide ((l.length : Int) ≤ 12))) = some false) := by
      rintro b rfl hc
      simp only [Bool.false_eq_true, if_false]
      constructor
      · intro h; rw [decide_eq_true (by have := h.1; omega)]
      · intro h
        rw [decide_eq_false]
        intro c
        refine h ⟨by omega, fun x hx => ?_⟩
        obtain ⟨q, hql, rfl⟩ := List.mem_iff_getElem.1 hx
        have := hq q (by omega)
        rwa [getD_lt hql] at this
    unfold trefoilref18_Few.l0
    by_cases c1 : (i : Int) < (l.length : Int)
    · rw [if_pos c1]
      unfold trefoilref18_Few.j1
      by_cases c2 : (i : Int) < 13
      · rw [decide_eq_true c2, if_pos rfl, if_pos (by omega), if_pos c1]
        have hr : rd_T27 l (i : Int) = l.getD i z27 := by unfold rd_T27; rw [Int.toNat_natCast]
        have hw : wrap64 ((i : Int) + 1) = ((i + 1 : Nat) : Int) := by rw [lw64 (by omega) (by omega)]; omega
        rw [hr, hw]
        by_cases c3 : ((l.getD i z27).f2.length : Int) > 70
        · rw [if_pos c3]
          refine ⟨fun h => ?_, fun _ => rfl⟩
          have := h.2 _ (mem_getD (z := z27) (show i < l.length by omega))
          omega
        · rw [if_neg c3]
          exact few_loop l a d k (i + 1) (by omega) (by omega) (by omega) (by omega) (fun q hq' => by
            rcases Nat.lt_or_ge q i with h | h
            · exact hq q h
            · obtain rfl : q = i := by omega
              omega)
      · rw [decide_eq_false c2, if_neg (by simp)]
        have := hend false rfl (.inr (by omega))
        simpa using this
    · rw [if_neg c1]
      unfold trefoilref18_Few.j1
      have := hend false rfl (.inl (by omega))
      simpa using this
theorem few_yes {l : List J3} {a : Int} {k : Nat} (hk : 40 < k) (h : fewL l) : trefoilref18_Few.f k l a = some true := (few_loop l a 14 k 0 rfl (Nat.zero_le _) (by omega) (by omega) (fun q hq => by omega)).1 h
theorem few_no {l : List J3} {a : Int} {k : Nat} (hk : 40 < k) (h : ¬ fewL l) : trefoilref18_Few.f k l a = some false := (few_loop l a 14 k 0 rfl (Nat.zero_le _) (by omega) (by omega) (fun q hq => by omega)).2 h
theorem lown_loop (l : List J3) (a b : Int) (hl : l.length ≤ 1000) (h2 : ∀ x ∈ l, x.f2.length ≤ 1000) : ∀ (d k i : Nat), i + d = l.length → d < k → trefoillaw18_Own.l0 k (i : Int) l a (l.take i) b = some (l, b)
  | 0, k + 1, i, hi, _ => by
    unfold trefoillaw18_Own.l0
    rw [if_neg (by omega), List.take_of_length_le (by omega)]
  | d + 1, k + 1, i, hi, hk => by
    have hlt : i < l.length := by omega
    have hr : rd_T27 l (i : Int) = l.getD i z27 := by unfold rd_T27; rw [Int.toNat_natCast]
    have hw : wrap64 ((i : Int) + 1) = ((i + 1 : Nat) : Int) := by rw [lw64 (by omega) (by omega)]; omega
    have hm := h2 _ (mem_getD (z := z27) hlt)
    unfold trefoillaw18_Own.l0
    rw [if_pos (by omega), if_pos (by omega)]
    simp only [Option.bind_some, List.nil_append, List.length_nil, hr, hw]
    rw [if_pos (by omega), if_pos (by rw [List.length_take]; omega)]
    have e : l.take i ++ [(⟨(l.getD i z27).f0, (l.getD i z27).f1, (l.getD i z27).f2⟩ : J3)] = l.take (i + 1) := by
      rw [List.take_succ_eq_append_getElem hlt, getD_lt hlt]
    rw [e]
    exact lown_loop l a b hl h2 d k (i + 1) (by omega) (by omega)
theorem lown_eq {l : List J3} {a : Int} {k : Nat} (hl : l.length ≤ 1000) (h2 : ∀ x ∈ l, x.f2.length ≤ 1000) (hk : 1000 < k) : trefoillaw18_Own.f k l a = some (l, a) := lown_loop l a a hl h2 l.length k 0 (by omega) (by omega)
theorem okL.len {l : List J3} {run : Int} (h : okL l run) : l.length ≤ 8 := by
  have key : ∀ (n : Nat) (hn : n < l.length), (n : Int) ≤ (l[n]).f0 := by
    intro n
    induction n with
    | zero => intro hn; exact (h.1 _ (List.getElem_mem hn)).1
    | succ n ih =>
      intro hn
      have h1 := ih (by omega)
      have h2 := (List.pairwise_iff_getElem.1 h.2.1) n (n + 1) (by omega) hn (by omega)
      omega
  rcases Nat.lt_or_ge 8 l.length with c | c
  · have h1 := key 8 c
    have h2 := (h.1 _ (List.getElem_mem c)).2.1
    omega
  · exact c
theorem okL.own {l : List J3} {run : Int} (h : okL l run) : OwnOk l := by
  refine ⟨by have := h.len; omega, fun x hx => ?_⟩
  have := h.1 x hx
  unfold okJ at this
  refine ⟨fun e => by rw [e] at this; simp at this, by omega⟩
theorem okL.left {l : List J3} {run : Int} (h : okL l run) : ∀ x ∈ l, x.f2.length ≤ 1000 := fun x hx => (h.own.2 x hx).2
/-- A job put in its place. -/
def insJ : List J3 → J3 → List J3
  | [], j => [j]
  | x :: l, j => if x.f0 < j.f0 then x :: insJ l j else j :: x :: l
theorem insJ_eq (j : J3) : ∀ l : List J3, l.take (addAt l j.f0) ++ j :: l.drop (addAt l j.f0) = insJ l j
  | [] => rfl
  | x :: l => by
    unfold insJ addAt
    by_cases c : x.f0 < j.f0
    · rw [if_pos c, List.takeWhile_cons, if_pos (by simpa using c), List.length_cons, List.take_succ_cons, List.drop_succ_cons, List.cons_append]
      congr 1
      exact insJ_eq j l
    · rw [if_neg c, List.takeWhile_cons, if_neg (by simpa using c)]
      rfl
theorem insJ_mem {j : J3} : ∀ {l : List J3} {x : J3}, x ∈ insJ l j ↔ x = j ∨ x ∈ l
  | [], x => by simp [insJ]
  | y :: l, x => by
    unfold insJ
    split
    · rw [List.mem_cons, insJ_mem, List.mem_cons]
      constructor
      · rintro (h | h | h)
        · exact .inr (.inl h)
        · exact .inl h
        · exact .inr (.inr h)
      · rintro (h | h | h)
        · exact .inr (.inl h)
        · exact .inl h
        · exact .inr (.inr h)
    · rw [List.mem_cons]
theorem insJ_len (j : J3) : ∀ l : List J3, (insJ l j).length = l.length + 1
  | [] => rfl
  | x :: l => by
    unfold insJ
    split
    · rw [List.length_cons, insJ_len j l, List.length_cons]
    · rfl
theorem insJ_sorted {j : J3} : ∀ {l : List J3}, l.Pairwise (fun a b => a.f0 < b.f0) → (∀ x ∈ l, x.f0 ≠ j.f0) → (insJ l j).Pairwise (fun a b => a.f0 < b.f0)
  | [], _, _ => by simp [insJ]
  | x :: l, h, hn => by
    rw [List.pairwise_cons] at h
    have hx := hn x List.mem_cons_self
    unfold insJ
    by_cases c : x.f0 < j.f0
    · rw [if_pos c, List.pairwise_cons]
      refine ⟨fun y hy => ?_, insJ_sorted h.2 (fun y hy => hn y (List.mem_cons_of_mem _ hy))⟩
      rcases insJ_mem.1 hy with rfl | hy
      · exact c
      · exact h.1 y hy
    · rw [if_neg c, List.pairwise_cons, List.pairwise_cons]
      refine ⟨fun y hy => ?_, h⟩
      rcases List.mem_cons.1 hy with rfl | hy
      · omega
      · have := h.1 y hy; omega
theorem insJ_comm {i j : J3} (hij : i.f0 ≠ j.f0) : ∀ l : List J3, insJ (insJ l i) j = insJ (insJ l j) i
  | [] => by
    by_cases c : i.f0 < j.f0
    · simp [insJ, c]
      intro h; omega
    · have c2 : j.f0 < i.f0 := by omega
      simp [insJ, c, c2]
  | x :: l => by
    have ih := insJ_comm hij l
    by_cases c1 : x.f0 < i.f0 <;> by_cases c2 : x.f0 < j.f0 <;> by_cases c3 : i.f0 < j.f0 <;> simp [insJ, c1, c2, c3, ih] <;> omega
theorem insJ_ok {l : List J3} {run : Int} {j : J3} (h : okL l run) (hj : okJ j) (hn : ¬ hasT l j.f0) : okL (insJ l j) run := by
  refine ⟨fun x hx => ?_, insJ_sorted h.2.1 (fun x hx e => hn ⟨x, hx, e⟩), ?_⟩
  · rcases insJ_mem.1 hx with rfl | hx
    · exact hj
    · exact h.1 x hx
  · rcases h.2.2 with h2 | ⟨x, hx, e⟩
    · exact .inl h2
    · exact .inr ⟨x, insJ_mem.2 (.inr hx), e⟩
theorem hasT_ins {l : List J3} {j : J3} {t : Int} : hasT (insJ l j) t ↔ j.f0 = t ∨ hasT l t := by
  unfold hasT
  constructor
  · rintro ⟨x, hx, e⟩
    rcases insJ_mem.1 hx with rfl | hx
    · exact .inl e
    · exact .inr ⟨x, hx, e⟩
  · rintro (e | ⟨x, hx, e⟩)
    · exact ⟨j, insJ_mem.2 (.inl rfl), e⟩
    · exact ⟨x, insJ_mem.2 (.inr hx), e⟩
/-- Adding: what comes of it. -/
theorem add_yes {l : List J3} {run : Int} {x0 x1 : Int} {x2 : List Int} {k : Nat} (hk : 1000 < k) (h : okL l run) (hj : okJ ⟨x0, x1, x2⟩) (hn : ¬ hasT l x0) : lane_Add.f k l run x0 x1 x2 = some (insJ l ⟨x0, x1, x2⟩, run, 0) := by
  have hjb : lane_job.f x0 x1 x2 = some true := congrArg some ((jobB_iff ⟨x0, x1, x2⟩).2 hj)
  unfold lane_Add.f
  rw [check_yes (by have := h.len; omega) hk h]
  simp only [Option.bind_some, if_true]
  rw [hjb]
  simp only [Option.bind_some, if_true]
  rw [if_neg (by have := (findI_neg l x0).2 hn; omega), if_pos ⟨h.own, by have := hj.2.2.2.2.2.1; dsimp only at this; omega⟩]
  exact congrArg some (congrArg (·, run, 0) (insJ_eq ⟨x0, x1, x2⟩ l))
theorem add_form {l : List J3} {run : Int} {x0 x1 : Int} {x2 : List Int} {k : Nat} (hl : l.length ≤ 1000) (hk : 1000 < k) (h : ¬ (okL l run ∧ okJ ⟨x0, x1, x2⟩)) : lane_Add.f k l run x0 x1 x2 = some ([], 0, 180) := by
  unfold lane_Add.f
  by_cases c : okL l run
  · rw [check_yes hl hk c]
    simp only [Option.bind_some, if_true]
    have hj : ¬ okJ ⟨x0, x1, x2⟩ := fun hj => h ⟨c, hj⟩
    have hjb : lane_job.f x0 x1 x2 = some false := by
      show some (jobB x0 x1 x2) = some false
      congr 1
      exact Bool.eq_false_iff.2 (fun e => hj ((jobB_iff ⟨x0, x1, x2⟩).1 e))
    rw [hjb]
    simp
  · rw [check_no hl hk c]
    simp
theorem add_task {l : List J3} {run : Int} {x0 x1 : Int} {x2 : List Int} {k : Nat} (hk : 1000 < k) (h : okL l run) (hj : okJ ⟨x0, x1, x2⟩) (hn : hasT l x0) : lane_Add.f k l run x0 x1 x2 = some ([], 0, 181) := by
  have hjb : lane_job.f x0 x1 x2 = some true := congrArg some ((jobB_iff ⟨x0, x1, x2⟩).2 hj)
  unfold lane_Add.f
  rw [check_yes (by have := h.len; omega) hk h]
  simp only [Option.bind_some, if_true]
  rw [hjb]
  simp only [Option.bind_some, if_true]
  rw [if_pos (by have := mt (findI_neg l x0).1 (fun h2 => h2 hn); omega)]
theorem notokL_zero : ¬ okL [] 0 := by
  rintro ⟨-, -, h | ⟨x, hx, -⟩⟩
  · exact absurd h (by decide)
  · cases hx
/-- Are two the same? -/
theorem ints_loop (l m : List Int) (h : l.length = m.length) (hl : l.length ≤ 1000000) : ∀ (d k i : Nat), i + d = l.length → d < k → ((∀ q, i ≤ q → q < l.length → l.getD q 0 = m.getD q 0) → slices_Equal_int_int.l0 k l m (l.length : Int) (i : Int) = some true) ∧ (¬ (∀ q, i ≤ q → q < l.length → l.getD q 0 = m.getD q 0) → slices_Equal_int_int.l0 k l m (l.length : Int) (i : Int) = some false)
  | 0, k + 1, i, hi, _ => by
    unfold slices_Equal_int_int.l0
    rw [if_neg (by omega)]
    exact ⟨fun _ => rfl, fun h => absurd (fun q h1 h2 => by omega) h⟩
  | d + 1, k + 1, i, hi, hk => by
    have hw : wrap64 ((i : Int) + 1) = ((i + 1 : Nat) : Int) := by rw [lw64 (by omega) (by omega)]; omega
    have r1 : ∀ x : List Int, rd x (i : Int) = x.getD i 0 := fun x => by unfold rd; rw [Int.toNat_natCast]
    unfold slices_Equal_int_int.l0
    rw [if_pos (by omega), if_pos (by omega), if_pos (by omega), if_pos (by omega), r1, r1, hw]
    obtain ⟨ih1, ih2⟩ := ints_loop l m h hl d k (i + 1) (by omega) (by omega)
    by_cases c : l.getD i 0 = m.getD i 0
    · rw [if_pos c]
      refine ⟨fun h2 => ih1 (fun q h3 h4 => h2 q (by omega) h4), fun h2 => ih2 (fun h5 => h2 (fun q h3 h4 => ?_))⟩
      rcases Nat.lt_or_ge i q with h6 | h6
      · exact h5 q (by omega) h4
      · obtain rfl : q = i := by omega
        exact c
    · rw [if_neg c]
      exact ⟨fun h2 => absurd (h2 i (Nat.le_refl _) (by omega)) c, fun _ => rfl⟩
theorem ints_same {l m : List Int} {k : Nat} (hl : l.length ≤ 1000) (hk : 1000 < k) : slices_Equal_int_int.f k l m = some (decide (l = m)) := by
  unfold slices_Equal_int_int.f
  by_cases c : l.length = m.length
  · rw [if_pos (by omega)]
    obtain ⟨h1, h2⟩ := ints_loop l m c (by omega) l.length k 0 (by omega) (by omega)
    by_cases e : l = m
    · rw [decide_eq_true e]
      exact h1 (fun q _ _ => by rw [e])
    · rw [decide_eq_false e]
      refine h2 (fun h3 => e (List.ext_getElem c (fun q hq1 hq2 => ?_)))
      have := h3 q (Nat.zero_le _) hq1
      rwa [List.getD_eq_getElem?_getD, List.getD_eq_getElem?_getD, List.getElem?_eq_getElem hq1, List.getElem?_eq_getElem hq2] at this
  · rw [if_neg (by omega), decide_eq_false (fun e => c (by rw [e]))]
theorem job_ext {x y : J3} (h0 : x.f0 = y.f0) (h1 : x.f1 = y.f1) (h2 : x.f2 = y.f2) : x = y := by
  cases x; cases y
  simp only at h0 h1 h2
  subst h0 h1 h2
  rfl
theorem jobs_same {x y : J3} {k : Nat} (hl : x.f2.length ≤ 1000) (hk : 1000 < k) : lane_Same_1.f k x.f0 x.f1 x.f2 y.f0 y.f1 y.f2 = some (decide (x.f0 = y.f0 ∧ x.f1 = y.f1 ∧ x.f2 = y.f2)) := by
  unfold lane_Same_1.f
  rw [ints_same hl hk]
  by_cases c0 : x.f0 = y.f0 <;> by_cases c1 : x.f1 = y.f1 <;> by_cases c2 : x.f2 = y.f2 <;> simp [c0, c1, c2]
theorem same_self {l : List J3} {run : Int} {k : Nat} (h2 : ∀ x ∈ l, x.f2.length ≤ 1000) (hk : 1000 < k) : lane_Same.f k l run l run = some true := by
  have e : ∀ x ∈ l, ∀ y ∈ l, lane_Same_1.f k x.f0 x.f1 x.f2 y.f0 y.f1 y.f2 = some (sameB k x y) := fun x hx y hy => by
    unfold sameB
    rw [jobs_same (h2 x hx) hk]; rfl
  unfold lane_Same.f
  rw [if_pos rfl, if_pos e]
  congr 1
  refine eqP_all (z := z27) rfl (fun q hq => ?_)
  have hm := mem_getD (z := z27) hq
  unfold sameB
  rw [jobs_same (h2 _ hm) hk]
  simp
theorem lnext_yes {l : List J3} {run : Int} {k : Nat} (hk : 1000 < k) (h : okL l run) : lane_Next.f k l run = some (nextV l run) := by
  unfold lane_Next.f
  rw [check_yes (by have := h.len; omega) hk h]
  rfl
end Go.Proofs.Yteodhffgnkdcfaa.Q
