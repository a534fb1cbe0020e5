import Derived.Test.YteodhffgnkdcfaaQx0
namespace Go.Proofs.Yteodhffgnkdcfaa.Q
open Go.RowKit Go.Proofs.YteodhffgnkdcfaaW.PrintWords Go.Proofs.YteodhffgnkdcfaaW.PrintLast Go.Proofs.YteodhffgnkdcfaaW.PrintMore
attribute [local go_sem] max2_int min2_int max_two min_two max_three min_three max_four min_four
set_option linter.unusedVariables false
set_option linter.unusedSimpArgs false
def Ok3 (c : List Value) : Prop := c.length = 3 ∧ ∀ u ∈ c, u.oneCell' = true
theorem flat_len {rows : List (List Value)} (h : ∀ c ∈ rows, Ok3 c) : rows.flatten.length = rows.length * 3 := by
  induction rows with
  | nil => rfl
  | cons c rows ih => rw [List.flatten_cons, List.length_append, ih (fun d hd => h d (List.mem_cons_of_mem _ hd)), (h c List.mem_cons_self).1, List.length_cons]; omega
theorem flat_take {rows : List (List Value)} (h : ∀ c ∈ rows, Ok3 c) : ∀ k, rows.flatten.take (k * 3) = (rows.take k).flatten := by
  induction rows with
  | nil => intro k; simp
  | cons c rows ih =>
    intro k
    cases k with
    | zero => simp
    | succ k =>
      have hc := (h c List.mem_cons_self).1
      rw [List.flatten_cons, List.take_succ_cons, List.flatten_cons, List.take_append, hc, show (k + 1) * 3 - 3 = k * 3 by omega, ih (fun d hd => h d (List.mem_cons_of_mem _ hd)) k, List.take_of_length_le (by omega)]
theorem flat_drop {rows : List (List Value)} (h : ∀ c ∈ rows, Ok3 c) : ∀ k, rows.flatten.drop (k * 3) = (rows.drop k).flatten := by
  induction rows with
  | nil => intro k; simp
  | cons c rows ih =>
    intro k
    cases k with
    | zero => simp
    | succ k =>
      have hc := (h c List.mem_cons_self).1
      rw [List.flatten_cons, List.drop_succ_cons, List.drop_append, hc, show (k + 1) * 3 - 3 = k * 3 by omega, ih (fun d hd => h d (List.mem_cons_of_mem _ hd)) k, List.drop_eq_nil_of_le (by omega), List.nil_append]
theorem flat_one {rows : List (List Value)} (h : ∀ c ∈ rows, Ok3 c) : ∀ u ∈ rows.flatten, u.oneCell' = true := fun u hu => by
  obtain ⟨c, hc, huc⟩ := List.mem_flatten.1 hu
  exact (h c hc).2 u huc
abbrev Raw3 (x cs : List Value) : Prop := cs = x ∧ cs.length = 3 ∧ ∀ u ∈ cs, u.oneCell' = true
theorem flat_raw {rows : List (List Value)} (h : ∀ c ∈ rows, Ok3 c) : Reps Raw3 3 rows rows.flatten := by
  refine ⟨flat_len h, fun j p hj => ?_⟩
  have hjl := (List.getElem?_eq_some_iff.1 hj).1
  have hp : p ∈ rows := List.mem_of_getElem? hj
  have e : (rows.flatten.drop (j * 3)).take 3 = p := by
    rw [flat_drop h, List.drop_eq_getElem_cons hjl, List.flatten_cons]
    have : rows[j] = p := by rw [List.getElem?_eq_getElem hjl] at hj; exact Option.some.inj hj
    rw [this, List.take_append, (h p hp).1, Nat.sub_self, List.take_zero, List.append_nil, List.take_of_length_le (by rw [(h p hp).1]; omega)]
  rw [e]
  exact ⟨rfl, (h p hp).1, (h p hp).2⟩
theorem raw_flat {rows : List (List Value)} {inner : List Value} (h : Reps Raw3 3 rows inner) : inner = rows.flatten ∧ ∀ c ∈ rows, Ok3 c := by
  have ho : ∀ c ∈ rows, Ok3 c := fun c hc => by
    obtain ⟨j, hj, rfl⟩ := List.mem_iff_getElem.1 hc
    obtain ⟨e, h1, h2⟩ := h.2 j _ (List.getElem?_eq_getElem hj)
    rw [e] at h1 h2
    exact ⟨h1, h2⟩
  refine ⟨?_, ho⟩
  have hl := flat_len ho
  apply List.ext_getElem?
  intro i
  rcases Nat.lt_or_ge i (rows.length * 3) with hi | hi
  · have hj : i / 3 < rows.length := by omega
    have h1 := (h.2 (i / 3) _ (List.getElem?_eq_getElem hj)).1
    have h2 := ((flat_raw ho).2 (i / 3) _ (List.getElem?_eq_getElem hj)).1
    have h3 := congrArg (fun l => l[i % 3]?) (h1.trans h2.symm)
    simp only [List.getElem?_take, List.getElem?_drop, Nat.mod_lt i (show 0 < 3 by omega), if_true] at h3
    rwa [show i / 3 * 3 + i % 3 = i by omega] at h3
  · rw [List.getElem?_eq_none (by rw [h.1]; exact hi), List.getElem?_eq_none (by omega)]
structure Row3 (W : World) (base g cap : Nat) (rows : List (List Value)) (rest : List Value) : Prop where mk ::
  (lo : base ≤ g) (blk : W.heap[g]? = some (.cells (rows.flatten ++ rest).toArray 27 (0, 0))) (le : rows.length ≤ cap) (max : cap ≤ maxLen) (len : (rows.flatten ++ rest).length = cap * 3) (ok : ∀ c ∈ rows, Ok3 c)
theorem row3_of_R {W : World} {base g n cap : Nat} {rows : List (List Value)} (h : (Kd.raw 3).R 27 W base (fun _ => True) (.slice (some ⟨g, 0, none⟩) n cap) rows) : n = rows.length ∧ ∃ rest, Row3 W base g cap rows rest := by
  have hn := (Kd.R_reads' h).1
  obtain ⟨_, inner, ⟨hil, ho⟩, hr⟩ := h
  obtain ⟨rfl, hok⟩ := raw_flat hr
  rcases ho with ⟨e, _⟩ | ⟨g', cap', cur, e, hlo, hg, hnc, hm, hs, htk⟩
  · cases e
  injection e with e _ hc
  injection e with e
  injection e with e
  subst e hc
  refine ⟨hn, cur.toList.drop (rows.length * 3), hlo, ?_, hnc, hm, ?_, hok⟩
  · have : rows.flatten ++ cur.toList.drop (rows.length * 3) = cur.toList := by
      rw [← htk]; exact List.take_append_drop _ _
    rw [this, Array.toArray_toList]; exact hg
  · have : rows.flatten ++ cur.toList.drop (rows.length * 3) = cur.toList := by
      rw [← htk]; exact List.take_append_drop _ _
    rw [this, Array.length_toList, hs]
    rfl
theorem R_of_row3 {W : World} {base g cap : Nat} {rows : List (List Value)} {rest : List Value} (h : Row3 W base g cap rows rest) : (Kd.raw 3).R 27 W base (fun _ => True) (.slice (some ⟨g, 0, none⟩) rows.length cap) rows :=
  ⟨fun _ _ => trivial, rows.flatten, ⟨flat_len h.ok, .inr ⟨g, cap, _, rfl, h.lo, h.blk, h.le, h.max, by rw [List.size_toArray, h.len]; rfl, by
    show (rows.flatten ++ rest).toArray.toList.take (rows.length * 3) = _
    rw [List.toList_toArray, List.take_append, flat_len h.ok, Nat.sub_self, List.take_zero, List.append_nil, List.take_of_length_le (by rw [flat_len h.ok]; exact Nat.le_refl _)]⟩⟩, flat_raw h.ok⟩
theorem run_copy_sz {P : Program} (w : World) (dT sT ty elem : TypeId) (sz g o dLen dCap : Nat) (a : Addr) (sLen sCap : Nat) (cur : Array Value) (t : TypeId) (cs : List Value)
    (hu : P.underlying dT = some (.slice elem)) (hs : (P.info? elem).map (·.size) = some sz)
    (hg : w.heap[g]? = some (.cells cur t (0, 0))) (k : Nat) (hk : k = Nat.min sLen dLen) (hn : cs.length = k * sz)
    (hsrc : ∀ j v, cs[j]? = some v → w.cell? (a.add j) = some v) (hfit : o + cs.length ≤ cur.size) (h1 : ∀ v ∈ cs, v.oneCell' = true) :
    (Builtin.copy_ #[dT, sT] ty #[.slice (some ⟨g, o, none⟩) dLen dCap, .slice (some a) sLen sCap]).run P w =
      .ok (goInt k) (w.setRow g (cur.toList.take o ++ cs ++ cur.toList.drop (o + cs.length)).toArray) := by
  have hl := run_loadCells_list (P := P) w a cs hsrc
  have hst := run_storeCells_at P g o t cs 0 cur w hg (by simpa using hfit) h1
  cases hq : P.info? elem with
  | none => simp [hq] at hs
  | some i =>
    have hi : i.size = sz := by simpa [hq] using hs
    rw [hn] at hl
    simp [Builtin.copy_, run_underlying hu, Builtin.lenOf, Builtin.firstCells, sizeOf, typeInfo, hq, hi, ← hk, hl, hst]
theorem ins_cells (X rest c : List Value) (n a : Nat) (hX : X.length = n * 3) (hr : 3 ≤ rest.length) (ha : a < n) (hc : c.length = 3) :
    ((X ++ rest).take ((a + 1) * 3) ++ X.drop (a * 3) ++ (X ++ rest).drop ((a + 1) * 3 + (X.drop (a * 3)).length)).take (a * 3) ++ c ++ ((X ++ rest).take ((a + 1) * 3) ++ X.drop (a * 3) ++ (X ++ rest).drop ((a + 1) * 3 + (X.drop (a * 3)).length)).drop (a * 3 + c.length) = X.take (a * 3) ++ c ++ X.drop (a * 3) ++ rest.drop 3 := by
  have e1 : ((X ++ rest).take ((a + 1) * 3)).length = (a + 1) * 3 := by rw [List.length_take, List.length_append]; omega
  have e2 : (X.drop (a * 3)).length = n * 3 - a * 3 := by rw [List.length_drop, hX]
  have e3 : ((X ++ rest).take ((a + 1) * 3)).drop (a * 3 + 3) = [] := List.drop_eq_nil_of_le (by rw [e1]; omega)
  rw [hc, List.append_assoc ((X ++ rest).take ((a + 1) * 3)), List.take_append_of_le_length (by rw [e1]; omega), List.take_take, Nat.min_eq_left (by omega), List.take_append_of_le_length (by omega), List.drop_append, e1, e3, show a * 3 + 3 - (a + 1) * 3 = 0 by omega, List.drop_zero, List.nil_append, e2, show (a + 1) * 3 + (n * 3 - a * 3) = n * 3 + 3 by omega, List.drop_append, hX, List.drop_eq_nil_of_le (show X.length ≤ n * 3 + 3 by omega), show n * 3 + 3 - n * 3 = 3 by omega, List.nil_append]
  simp only [List.append_assoc]
theorem shape_row {W : World} {g t : Nat} {cells : List Value} (h : W.heap[g]? = some (.cells cells.toArray t (0, 0))) : W.shape? g = some (t, cells.length) := by
  simp [World.shape?, h]
theorem cells_of_row {W : World} {g t : Nat} {cells : List Value} (h : W.heap[g]? = some (.cells cells.toArray t (0, 0))) (o : Nat) (cs : List Value) (he : ∀ j v, cs[j]? = some v → cells[o + j]? = some v) : ∀ j v, cs[j]? = some v → W.cell? ((⟨g, o, none⟩ : Addr).add j) = some v := fun j v hj => by
  rw [Addr.add_mid, blk_cell h (o + j), List.getElem?_toArray]
  exact he j v hj
theorem grow_cells (X Z1 Z2 c : List Value) (n a : Nat) (hX : X.length = n * 3) (ha : a < n) (hz : Z1.length = (n + 1 - a) * 3) (hc : c.length = 3) :
    ((X.take (a * 3) ++ Z1 ++ Z2).take (a * 3) ++ c ++ (X.take (a * 3) ++ Z1 ++ Z2).drop (a * 3 + c.length)).take ((a + 1) * 3) ++ X.drop (a * 3) ++ ((X.take (a * 3) ++ Z1 ++ Z2).take (a * 3) ++ c ++ (X.take (a * 3) ++ Z1 ++ Z2).drop (a * 3 + c.length)).drop ((a + 1) * 3 + (X.drop (a * 3)).length) = X.take (a * 3) ++ c ++ X.drop (a * 3) ++ Z2 := by
  have e1 : (X.take (a * 3)).length = a * 3 := by rw [List.length_take]; omega
  have e2 : (X.drop (a * 3)).length = (n - a) * 3 := by rw [List.length_drop]; omega
  have e3 : (X.take (a * 3) ++ Z1 ++ Z2).take (a * 3) = X.take (a * 3) := by rw [List.append_assoc, List.take_append_of_le_length (by omega), List.take_of_length_le (by omega)]
  have e4 : (X.take (a * 3) ++ Z1 ++ Z2).drop (a * 3 + c.length) = Z1.drop 3 ++ Z2 := by
    rw [List.append_assoc, List.drop_append, e1, List.drop_eq_nil_of_le (show (X.take (a * 3)).length ≤ a * 3 + c.length by omega), List.nil_append, hc, show a * 3 + 3 - a * 3 = 3 by omega, List.drop_append_of_le_length (by omega)]
  have e5 : (X.take (a * 3) ++ c ++ (Z1.drop 3 ++ Z2)).take ((a + 1) * 3) = X.take (a * 3) ++ c := by
    rw [List.take_append_of_le_length (by rw [List.length_append]; omega), List.take_of_length_le (by rw [List.length_append]; omega)]
  have e6 : (X.take (a * 3) ++ c ++ (Z1.drop 3 ++ Z2)).drop ((a + 1) * 3 + (n - a) * 3) = Z2 := by
    have h1 : (X.take (a * 3) ++ c ++ Z1.drop 3).length = (a + 1) * 3 + (n - a) * 3 := by rw [List.length_append, List.length_append, List.length_drop, e1, hc, hz]; omega
    rw [← List.append_assoc, ← h1, List.drop_left]
  rw [e3, e4, e5, e2, e6]
set_option maxHeartbeats 8000000 in
set_option maxRecDepth 100000 in
theorem insJob_shift (w : World) (base g cap gv at_ : Nat) (rows : List (List Value)) (rest c : List Value) (hR : Row3 w base g cap rows rest) (hat : at_ < rows.length) (hroom : rows.length + 1 ≤ cap) (hv : w.heap[gv]? = some (.cells c.toArray 27 (0, 0))) (hc : Ok3 c) (hne : gv ≠ g) :
    Calls Try.prog 29 #[.slice (some ⟨g, 0, none⟩) rows.length cap, .int .i64 at_, .slice (some ⟨gv, 0, none⟩) 1 1] w fun e w' => e = .returned (.slice (some ⟨g, 0, none⟩) (rows.length + 1) cap) ∧ ∃ A1 A2, w' = (w.drew.setRow g A1).setRow g A2 ∧ A2 = ((rows.take at_ ++ c :: rows.drop at_).flatten ++ rest.drop 3).toArray := by
  obtain ⟨hlo, hg, hle, hmax, hlen, hok⟩ := hR
  have hX := flat_len hok
  have hrest : rest.length = cap * 3 - rows.length * 3 := by rw [List.length_append, hX] at hlen; omega
  have hmx : cap ≤ 9223372036854775807 := by unfold maxLen at hmax; exact hmax
  obtain ⟨n, hn⟩ : ∃ n, rows.length = n := ⟨_, rfl⟩
  obtain ⟨X, hXX⟩ : ∃ X, rows.flatten = X := ⟨_, rfl⟩
  have hT : (rows.take at_).flatten = X.take (at_ * 3) := by rw [← hXX, flat_take hok]
  have hD : (rows.drop at_).flatten = X.drop (at_ * 3) := by rw [← hXX, flat_drop hok]
  have hone : ∀ u ∈ X, u.oneCell' = true := by rw [← hXX]; exact flat_one hok
  have hfin : (rows.take at_ ++ c :: rows.drop at_).flatten = X.take (at_ * 3) ++ c ++ X.drop (at_ * 3) := by rw [List.flatten_append, List.flatten_cons, hT, hD, List.append_assoc]
  rw [hXX] at hg hlen hX
  rw [hfin, hn]
  rw [hn] at hat hroom hX hrest
  clear hle hlo hok hfin hT hD hXX hn rows
  have hdl : (X.drop (at_ * 3)).length = (n - at_) * 3 := by rw [List.length_drop, hX]; omega
  have hov : ∀ lb cb, (callFunc 43 #[.slice (some ⟨gv, 0, none⟩) 1 1, .slice (some ⟨g, (at_ + 1) * 3, none⟩) lb cb]).run Try.prog w = .ok (.value (.bool false)) w := fun lb cb => by
    rw [run_callFunc_extern Try.func43 (by kernel_rfl) (by kernel_rfl) (by kernel_rfl) (e := Extern.SlicesOverlaps.overlaps #[22, 22] #[4]) (by kernel_rfl),
      Lib.run_overlaps_apart w 22 4 27 Try.underlying22 3 (fun w => by kernel_rfl) ⟨gv, 0, none⟩ ⟨g, (at_ + 1) * 3, none⟩ 1 1 lb cb hne 27 27 c.length (X ++ rest).length (shape_row hv) (shape_row hg) (by rw [hlen]; omega) (blk_frozen hv 0) (blk_frozen hv c.length)]
    rfl
  have hcp1 : ∀ ty dc sc, (Builtin.copy_ #[22, 22] ty #[.slice (some ⟨g, (at_ + 1) * 3, none⟩) (n + 1 - (at_ + 1)) dc, .slice (some ⟨g, at_ * 3, none⟩) (n + 1 - at_) sc]).run Try.prog w.drew = .ok (goInt ((n - at_ : Nat) : Int)) (w.drew.setRow g ((X ++ rest).take ((at_ + 1) * 3) ++ X.drop (at_ * 3) ++ (X ++ rest).drop ((at_ + 1) * 3 + (X.drop (at_ * 3)).length)).toArray) := fun ty dc sc => by
    have := run_copy_sz (P := Try.prog) w.drew 22 22 ty 27 3 g ((at_ + 1) * 3) (n + 1 - (at_ + 1)) dc ⟨g, at_ * 3, none⟩ (n + 1 - at_) sc (X ++ rest).toArray 27 (X.drop (at_ * 3)) Try.underlying22 (by kernel_rfl) hg (n - at_) (by simp only [Nat.min_def]; split <;> omega) hdl
      (cells_of_row (W := w.drew) hg (at_ * 3) _ (fun j v hj => by rw [List.getElem?_drop] at hj; rw [List.getElem?_append_left (by have := (List.getElem?_eq_some_iff.1 hj).1; omega)]; exact hj)) (by rw [List.size_toArray, hlen, hdl]; omega) (fun v hv => hone v (List.mem_of_mem_drop hv))
    rw [List.toList_toArray] at this
    exact this
  obtain ⟨A1, hA1⟩ : ∃ A1 : List Value, A1 = (X ++ rest).take ((at_ + 1) * 3) ++ X.drop (at_ * 3) ++ (X ++ rest).drop ((at_ + 1) * 3 + (X.drop (at_ * 3)).length) := ⟨_, rfl⟩
  have hA1l : A1.length = cap * 3 := by
    have hl2 := hlen
    rw [List.length_append] at hl2
    simp only [hA1, List.length_append, List.length_take, List.length_drop]
    omega
  have hAA := ins_cells X rest c n at_ hX (by rw [hrest]; omega) hat hc.1
  rw [← hA1] at hcp1 hAA
  clear hA1
  obtain ⟨W1, hW1⟩ : ∃ W1, W1 = w.drew.setRow g A1.toArray := ⟨_, rfl⟩
  have hg1 : W1.heap[g]? = some (.cells A1.toArray 27 (0, 0)) := by rw [hW1]; exact setRow_heap w.drew g _ _ _ _ hg
  have hv1 : W1.heap[gv]? = some (.cells c.toArray 27 (0, 0)) := by rw [hW1]; exact (setRow_other w.drew g gv _ hne).trans hv
  have hcp2 : ∀ ty dc, (Builtin.copy_ #[22, 22] ty #[.slice (some ⟨g, at_ * 3, none⟩) (n + 1 - at_) dc, .slice (some ⟨gv, 0, none⟩) 1 1]).run Try.prog W1 = .ok (goInt 1) (W1.setRow g (A1.take (at_ * 3) ++ c ++ A1.drop (at_ * 3 + c.length)).toArray) := fun ty dc => by
    have := run_copy_sz (P := Try.prog) W1 22 22 ty 27 3 g (at_ * 3) (n + 1 - at_) dc ⟨gv, 0, none⟩ 1 1 A1.toArray 27 c Try.underlying22 (by kernel_rfl) hg1 1 (by simp only [Nat.min_def]; split <;> omega) (by rw [hc.1]) (cells_of_row hv1 0 _ (fun j v hj => by rw [Nat.zero_add]; exact hj)) (by rw [List.size_toArray, hA1l, hc.1]; omega) hc.2
    rw [List.toList_toArray] at this
    exact this
  rw [← hW1] at hcp1
  have H1 := Lib.hid hAA
  have H2 := Lib.hid hW1
  clear hAA hW1 hdl hA1l hg1 hv1 hg hlen hv hone hX hc hrest hmax
  have mixed : Try.prog.follows .mixedOrders = true := by kernel_rfl
  have hz2 : ¬ ((at_ : Int) = (n : Int)) := by omega
  have hz2b : ((at_ : Int) == (n : Int)) = false := by simp; omega
  have hz3 : ¬ ((cap : Int) < (n : Int) + 1) := by omega
  have hz3b : decide ((n : Int) + 1 > (cap : Int)) = false := decide_eq_false (by omega)
  have hb1 : (0 : Int) ≤ (at_ : Int) + 1 := by omega
  have hin : at_ ≤ n := by omega
  have htn : ((at_ : Int) + 1).toNat = at_ + 1 := by omega
  have htn2 : ((n : Int) + 1).toNat = n + 1 := by omega
  have hb2 : ¬ (cap = at_ + 1) := by omega
  have hb3 : (at_ : Int) ≤ (n : Int) + 1 := by omega
  have hb4 : ¬ (cap = at_) := by omega
  have hw1 : IntKind.i64.wrap ((at_ : Int) + 1) = (at_ : Int) + 1 := by rw [IntKind.wrap_i64]; omega
  have hb5 : (at_ : Int) + 1 ≤ ((n + 1 : Nat) : Int) := by omega
  have hb6 : (at_ : Int) ≤ ((n + 1 : Nat) : Int) := by omega
  have hb7 : n + 1 ≤ cap := hroom
  go_enter Try.func29, Try.ntmps29
  go_wp2_with (simp only [hov])
  go_region_law_o (refine step_copy_runI rfl _ _ 22 22 rfl (.slice (some ⟨g, (at_ + 1) * 3, none⟩) (n + 1 - (at_ + 1)) (cap - (at_ + 1))) (.slice (some ⟨g, at_ * 3, none⟩) (n + 1 - at_) (cap - at_)) (by simp [Act.eval, Act.put]) (by simp [Act.eval, Act.put]) (hcp1 3 _ _) ?_)
  go_wp2_with (at_builtin; refine wpList_copy_runI _ rfl _ _ 22 22 rfl _ _ rfl rfl (hcp2 _ _) ?_)
  go_ret
  exact ⟨rfl, _, _, by rw [H2.out], by have h_ := H1.out; simp only [List.append_assoc] at h_ ⊢; rw [h_]⟩
set_option maxHeartbeats 8000000 in
set_option maxRecDepth 100000 in
theorem insJob_grow (w : World) (base g cap gv at_ : Nat) (rows : List (List Value)) (rest c : List Value) (hR : Row3 w base g cap rows rest) (hat : at_ < rows.length) (hn1000 : rows.length ≤ 1000) (hroom : cap < rows.length + 1) (hv : w.heap[gv]? = some (.cells c.toArray 27 (0, 0))) (hc : Ok3 c) :
    Calls Try.prog 29 #[.slice (some ⟨g, 0, none⟩) rows.length cap, .int .i64 at_, .slice (some ⟨gv, 0, none⟩) 1 1] w fun e w' => ∃ C rest', e = .returned (.slice (some ⟨w.heap.size, 0, none⟩) (rows.length + 1) C) ∧ Below w.heap.size w w' ∧ Row3 w' w.heap.size w.heap.size C (rows.take at_ ++ c :: rows.drop at_) rest' := by
  have hins : ∀ d ∈ rows.take at_ ++ c :: rows.drop at_, Ok3 d := fun d hd => by
    rcases List.mem_append.1 hd with hd | hd
    · exact hR.ok d (List.mem_of_mem_take hd)
    · rcases List.mem_cons.1 hd with rfl | hd
      · exact hc
      · exact hR.ok d (List.mem_of_mem_drop hd)
  have hlen2 : (rows.take at_ ++ c :: rows.drop at_).length = rows.length + 1 := by rw [List.length_append, List.length_cons, List.length_take, List.length_drop]; omega
  obtain ⟨hlo, hg, hle, hmax, hlen, hok⟩ := hR
  have hX := flat_len hok
  have hmx : cap ≤ 9223372036854775807 := by unfold maxLen at hmax; exact hmax
  obtain ⟨n, hn⟩ : ∃ n, rows.length = n := ⟨_, rfl⟩
  obtain ⟨X, hXX⟩ : ∃ X, rows.flatten = X := ⟨_, rfl⟩
  have hT : (rows.take at_).flatten = X.take (at_ * 3) := by rw [← hXX, flat_take hok]
  have hD : (rows.drop at_).flatten = X.drop (at_ * 3) := by rw [← hXX, flat_drop hok]
  have hone : ∀ u ∈ X, u.oneCell' = true := by rw [← hXX]; exact flat_one hok
  have hfin : (rows.take at_ ++ c :: rows.drop at_).flatten = X.take (at_ * 3) ++ c ++ X.drop (at_ * 3) := by rw [List.flatten_append, List.flatten_cons, hT, hD, List.append_assoc]
  rw [hXX] at hg hlen hX
  obtain ⟨rows2, hr2⟩ : ∃ r, rows.take at_ ++ c :: rows.drop at_ = r := ⟨_, rfl⟩
  rw [hr2] at hins hlen2 hfin ⊢
  rw [hn] at hlen2 hat hroom hX hle hn1000 ⊢
  clear hlo hok hT hD hXX hn hr2 rows
  have hdl : (X.drop (at_ * 3)).length = (n - at_) * 3 := by rw [List.length_drop, hX]; omega
  have hgl := blk_lt hg
  have hvl := blk_lt hv
  obtain ⟨i0, hi0, hzz⟩ := Option.map_eq_some_iff.1 info27
  simp only [Prod.mk.injEq] at hzz
  obtain ⟨hz0, hzs, hzb⟩ := hzz
  have hold : (Builtin.firstCells i0.size at_ (.slice (some ⟨g, 0, none⟩) at_ cap)).run Try.prog w.drew = .ok (X.take (at_ * 3)).toArray w.drew := by
    rw [hzs]
    exact run_firstCells_some w.drew 3 at_ ⟨g, 0, none⟩ at_ cap _ (by rw [List.length_take]; omega) (cells_of_row (W := w.drew) hg 0 _ (fun j v hj => by
      rw [Nat.zero_add]
      have hjl := (List.getElem?_eq_some_iff.1 hj).1
      rw [List.length_take] at hjl
      rw [List.getElem?_take_of_lt (by omega)] at hj
      rw [List.getElem?_append_left (by omega)]; exact hj))
  have hkk : (n : Int) + 1 - (at_ : Int) = ((n + 1 - at_ : Nat) : Int) := by omega
  have hik : at_ + (n + 1 - at_) = n + 1 := by omega
  obtain ⟨G, hG⟩ : ∃ G, G = grownCap w (n + 1) cap 27 := ⟨_, rfl⟩
  obtain ⟨Z1, hZ1⟩ : ∃ Z1 : List Value, Z1 = (Builtin.zeroCells (Value.agg #[.int .i64 0, .int .i64 0, .slice none 0 0]).cells (n + 1 - at_)).toList := ⟨_, rfl⟩
  obtain ⟨Z2, hZ2⟩ : ∃ Z2 : List Value, Z2 = (Builtin.zeroCells (Value.agg #[.int .i64 0, .int .i64 0, .slice none 0 0]).cells (G - (n + 1))).toList := ⟨_, rfl⟩
  have hGn : n + 1 ≤ G := by rw [hG]; exact grownCap_ge w _ _ _
  have hGm : G ≤ maxLen := by rw [hG]; exact grownCap_le_maxLen w (n + 1) cap 27 (by unfold maxLen; omega)
  have hG63 : G ≤ 9223372036854775807 := by unfold maxLen at hGm; exact hGm
  have hZ1l : Z1.length = (n + 1 - at_) * 3 := by rw [hZ1, Array.length_toList, size_zeroCells]; rfl
  have hZ2l : Z2.length = (G - (n + 1)) * 3 := by rw [hZ2, Array.length_toList, size_zeroCells]; rfl
  obtain ⟨ROW, hROW⟩ : ∃ ROW : List Value, ROW = X.take (at_ * 3) ++ Z1 ++ Z2 := ⟨_, rfl⟩
  have hRl : ROW.length = G * 3 := by
    rw [hROW]
    simp only [List.length_append, List.length_take, hZ1l, hZ2l]
    omega
  have hrz : ∀ ty, (Builtin.append_ #[22, 3] ty #[.slice (some ⟨g, 0, none⟩) at_ cap, .int .i64 ((n : Int) + 1 - (at_ : Int))]).run Try.prog w =
      .ok (.slice (some ⟨w.heap.size, 0, none⟩) (n + 1) G) (w.drew.alloc (.cells ROW.toArray 27)) := fun ty => by
    have h := Lib.run_append_grow_zeros (P := Try.prog) w 22 3 ty 27 i0 _ .i64 .i64 Try.underlying22 Try.underlying3 hi0 hz0 (some ⟨g, 0, none⟩) at_ cap (X.take (at_ * 3)) hold (n + 1 - at_) (by omega) (by rw [hzs]; decide) (by omega) (by omega) (by rw [hzb]; omega) (by rw [hzb, hik]; exact growslice_fits hroom (by omega))
    rw [hik] at h
    rw [hkk, h, ← hG]
    have : (X.take (at_ * 3)).toArray ++ Builtin.zeroCells (Value.agg #[.int .i64 0, .int .i64 0, .slice none 0 0]).cells (n + 1 - at_) ++ Builtin.zeroCells (Value.agg #[.int .i64 0, .int .i64 0, .slice none 0 0]).cells (G - (n + 1)) = ROW.toArray := by
      apply Array.ext'
      rw [hROW, hZ1, hZ2]
      simp
    rw [this]
  have hAA := grow_cells X Z1 Z2 c n at_ hX hat hZ1l hc.1
  rw [← hROW] at hAA
  clear hROW hZ1 hZ2 hG hold hi0 hz0 hzs hzb hkk hik hZ1l
  obtain ⟨W1, hW1⟩ : ∃ W1, W1 = w.drew.alloc (.cells ROW.toArray 27) := ⟨_, rfl⟩
  have hN : W1.heap[w.heap.size]? = some (.cells ROW.toArray 27 (0, 0)) := by rw [hW1]; exact blk_new w.drew _
  have hb1 : Below w.heap.size w W1 := by rw [hW1]; exact below_alloc (below_drew1 (Below.refl _ _)) _
  rw [← hW1] at hrz
  clear hW1
  have hgN : g ≠ w.heap.size := by omega
  have hvN : gv ≠ w.heap.size := by omega
  obtain ⟨A1, hA1⟩ : ∃ A1 : List Value, A1 = ROW.take (at_ * 3) ++ c ++ ROW.drop (at_ * 3 + c.length) := ⟨_, rfl⟩
  have hA1l : A1.length = G * 3 := by
    rw [hA1]
    simp only [List.length_append, List.length_take, List.length_drop, hRl, hc.1]
    omega
  have hcpA : ∀ ty dc, (Builtin.copy_ #[22, 22] ty #[.slice (some ⟨w.heap.size, at_ * 3, none⟩) (n + 1 - at_) dc, .slice (some ⟨gv, 0, none⟩) 1 1]).run Try.prog W1 = .ok (goInt 1) (W1.setRow w.heap.size A1.toArray) := fun ty dc => by
    have := run_copy_sz (P := Try.prog) W1 22 22 ty 27 3 w.heap.size (at_ * 3) (n + 1 - at_) dc ⟨gv, 0, none⟩ 1 1 ROW.toArray 27 c Try.underlying22 (by kernel_rfl) hN 1 (by simp only [Nat.min_def]; split <;> omega) (by rw [hc.1]) (cells_of_row (blk_below hv hb1) 0 _ (fun j v hj => by rw [Nat.zero_add]; exact hj)) (by rw [List.size_toArray, hRl, hc.1]; omega) hc.2
    rw [List.toList_toArray, ← hA1] at this
    exact this
  rw [← hA1] at hAA
  clear hA1
  obtain ⟨W2, hW2⟩ : ∃ W2, W2 = W1.setRow w.heap.size A1.toArray := ⟨_, rfl⟩
  have hN2 : W2.heap[w.heap.size]? = some (.cells A1.toArray 27 (0, 0)) := by rw [hW2]; exact setRow_heap W1 _ _ _ _ _ hN
  have hb2 : Below w.heap.size w W2 := by rw [hW2]; exact setRow_below hb1 (Nat.le_refl _) _
  rw [← hW2] at hcpA
  clear hW2
  have hcpB : ∀ ty dc sc, (Builtin.copy_ #[22, 22] ty #[.slice (some ⟨w.heap.size, (at_ + 1) * 3, none⟩) (n + 1 - (at_ + 1)) dc, .slice (some ⟨g, at_ * 3, none⟩) (n - at_) sc]).run Try.prog W2.drew = .ok (goInt ((n - at_ : Nat) : Int)) (W2.drew.setRow w.heap.size (A1.take ((at_ + 1) * 3) ++ X.drop (at_ * 3) ++ A1.drop ((at_ + 1) * 3 + (X.drop (at_ * 3)).length)).toArray) := fun ty dc sc => by
    have := run_copy_sz (P := Try.prog) W2.drew 22 22 ty 27 3 w.heap.size ((at_ + 1) * 3) (n + 1 - (at_ + 1)) dc ⟨g, at_ * 3, none⟩ (n - at_) sc A1.toArray 27 (X.drop (at_ * 3)) Try.underlying22 (by kernel_rfl) hN2 (n - at_) (by simp only [Nat.min_def]; split <;> omega) hdl
      (cells_of_row (W := W2.drew) (blk_below hg (below_drew1 hb2)) (at_ * 3) _ (fun j v hj => by rw [List.getElem?_drop] at hj; rw [List.getElem?_append_left (by have := (List.getElem?_eq_some_iff.1 hj).1; omega)]; exact hj)) (by rw [List.size_toArray, hA1l, hdl]; omega) (fun v hv => hone v (List.mem_of_mem_drop hv))
    rw [List.toList_toArray] at this
    exact this
  rw [hAA] at hcpB
  have hend : ∀ W, W = W2.drew.setRow w.heap.size (X.take (at_ * 3) ++ c ++ X.drop (at_ * 3) ++ Z2).toArray → Below w.heap.size w W ∧ Row3 W w.heap.size w.heap.size G rows2 Z2 := fun W hW => by
    subst hW
    refine ⟨setRow_below (below_drew1 hb2) (Nat.le_refl _) _, Nat.le_refl _, ?_, by omega, hGm, ?_, hins⟩
    · rw [hfin]; exact setRow_heap W2.drew _ _ _ _ _ hN2
    · rw [hfin]; simp only [List.length_append, List.length_take, hdl, hZ2l, hc.1]; omega
  have HE := Lib.hid hend
  obtain ⟨W3, hW3⟩ : ∃ W3, W3 = W2.drew.setRow w.heap.size (X.take (at_ * 3) ++ c ++ X.drop (at_ * 3) ++ Z2).toArray := ⟨_, rfl⟩
  rw [← hW3] at hcpB
  have H3 := Lib.hid hW3
  clear hend hAA hN hN2 hb1 hb2 hA1l hRl hZ2l hone hX hlen hg hv hgl hvl hc hdl hfin hins hlen2 hmax hGm hW3
  have mixed : Try.prog.follows .mixedOrders = true := by kernel_rfl
  have hz2 : ¬ ((at_ : Int) = (n : Int)) := by omega
  have hz2b : ((at_ : Int) == (n : Int)) = false := by simp; omega
  have hz3 : (cap : Int) < (n : Int) + 1 := by omega
  have hz3b : decide ((n : Int) + 1 > (cap : Int)) = true := decide_eq_true (by omega)
  have hw1 : IntKind.i64.wrap ((at_ : Int) + 1) = (at_ : Int) + 1 := by rw [IntKind.wrap_i64]; omega
  have hb1 : (0 : Int) ≤ (at_ : Int) + 1 := by omega
  have hin : at_ ≤ n := by omega
  have htn : ((at_ : Int) + 1).toNat = at_ + 1 := by omega
  have hb3 : (at_ : Int) ≤ (n : Int) := by omega
  have hb3c : (at_ : Int) ≤ (cap : Int) := by omega
  have hb5 : (at_ : Int) + 1 ≤ ((n + 1 : Nat) : Int) := by omega
  have hb6 : (at_ : Int) ≤ ((n + 1 : Nat) : Int) := by omega
  have hGi : ¬ (G = at_) := by omega
  have hGim : ¬ (G = at_ + 1) := by omega
  have hci : ¬ (cap = at_) := by omega
  go_enter Try.func29, Try.ntmps29
  go_wp2_with (first
    | (at_builtin; refine Lib.wpList_append_run _ rfl _ _ _ _ rfl _ _ rfl rfl _ _ (hrz _) ?_)
    | (at_builtin; refine wpList_copy_runI _ rfl _ _ 22 22 rfl _ _ rfl rfl (hcpA _ _) ?_))
  go_region_law_o (refine step_copy_runI rfl _ _ 22 22 rfl (.slice (some ⟨w.heap.size, (at_ + 1) * 3, none⟩) (n + 1 - (at_ + 1)) (G - (at_ + 1))) (.slice (some ⟨g, at_ * 3, none⟩) (n - at_) (cap - at_)) (by simp [Act.eval, Act.put]) (by simp [Act.eval, Act.put]) (hcpB 3 (G - (at_ + 1)) (cap - at_)) ?_)
  go_wp2
  go_ret
  exact ⟨_, _, rfl, HE.out _ H3.out⟩
theorem grown_setRow2 (w : World) (g : Nat) (A1 A2 : Array Value) : w.grownBy ((w.drew.setRow g A1).setRow g A2) (some g) :=
  ⟨rfl, rfl, rfl, (setRow_below (setRow_below (below_drew1 (Below.refl 0 w)) (Nat.zero_le g) A1) (Nat.zero_le g) A2).size, fun k hk hne => (setRow_other _ g k A2 (fun e => hne (by rw [e]))).trans (setRow_other w.drew g k A1 (fun e => hne (by rw [e])))⟩
theorem grown_below {w w' : World} {row : Option Nat} (h : Below w.heap.size w w') : w.grownBy w' row := ⟨h.os, h.tape, h.output, h.size, fun k hk _ => h.block k hk⟩
set_option maxHeartbeats 8000000 in
set_option maxRecDepth 100000 in
theorem insJob_end (A : Option Addr) (cap : Nat) (w0 w : World) (base gv : Nat) (rows : List (List Value)) (c : List Value) (hR : (Kd.raw 3).R 27 w base (fun _ => True) (.slice A rows.length cap) rows) (hB : Below base w0 w) (hbase : base ≤ w.heap.size) (hn : rows.length ≤ 1000) (hv : w.heap[gv]? = some (.cells c.toArray 27 (0, 0))) (hc : Ok3 c) :
    Calls Try.prog 29 #[.slice A rows.length cap, .int .i64 rows.length, .slice (some ⟨gv, 0, none⟩) 1 1] w fun e w' => ∃ v', e = .returned v' ∧ (Kd.raw 3).R 27 w' base (fun _ => True) v' (rows ++ [c]) ∧ Below base w0 w' ∧ w.grownBy w' (Value.slice A rows.length cap).ownBlock := by
  have HR := Lib.hid hR
  have HB := Lib.hid hB
  have Hb := Lib.hid hbase
  have hcap := (Kd.R_reads' hR).2.1
  have HN := Lib.hid (show ReadsRow Raw3 3 w (some ⟨gv, 0, none⟩) 1 [c] from ⟨rfl, by decide, fun _ => ⟨_, rfl, fun j p hj => by
    obtain rfl : j = 0 := by have := (List.getElem?_eq_some_iff.1 hj).1; simp at this; omega
    obtain rfl : c = p := by simpa using hj
    exact ⟨c, hc.1, ⟨rfl, hc.1, hc.2⟩, fun j u hu => by
      rw [Addr.add_mid, blk_cell hv, List.getElem?_toArray]
      simpa using hu⟩⟩⟩)
  have hz : ((rows.length : Int) == (rows.length : Int)) = true := by simp
  clear hR hB hbase hv hc
  have hA : A = none → rows.length = 0 := fun e => by
    subst e
    obtain ⟨_, inner, ⟨_, ho⟩, _⟩ := HR.out
    rcases ho with ⟨_, h0⟩ | ⟨g, cap', cur, e, _⟩
    · exact h0
    · cases e
  obtain ⟨n, hn2⟩ : ∃ n, rows.length = n := ⟨_, rfl⟩
  cases A with
  | none =>
    have h0 := hA rfl
    have hrn : rows = [] := List.eq_nil_of_length_eq_zero h0
    subst hrn
    clear hA h0 hn2 hn
    go_enter Try.func29, Try.ntmps29
    go_wp2_with ((with_reducible refine gate_builtin (b := .append) (xs := #[.tmp 23, .tmp 24]) rfl ?_); at_builtin; refine Kd.R_append_rows (Kd.raw 3) (w0 := w0) base rfl (.tmp 23) (.tmp 24) 22 27 (.agg #[.int .i64 0, .int .i64 0, .slice none 0 0]) 40 rfl Try.underlying22 info27 rfl (by decide) (by omega) _ [] [c] _ _ _ (fun _ => True) (fun _ => False) rfl rfl HR.out HN.out (fun _ _ hk => hk) (fun _ hk => hk.elim) (fun _ _ => trivial) HB.out Hb.out (by simp) ?_; intro v2 w2 hn_ hb_ hg_ hat_; have HN2 := Lib.hid hn_; have HB2 := Lib.hid hb_; have HG := Lib.hid hg_; clear hn_ hb_ hg_ hat_)
    go_ret
    exact ⟨_, rfl, HN2.out, HB2.out, HG.out⟩
  | some ad =>
    rw [hn2] at HR hz hn hcap ⊢
    clear hA
    have hl : (n + 1) * 40 ≤ 140737488355328 := by omega
    have Hl := Lib.hid (show (rows.length + 1) * 40 ≤ 140737488355328 by omega)
    clear hn2 hl
    have hnn : (n : Int) ≤ (n : Int) := Int.le_refl _
    go_enter Try.func29, Try.ntmps29
    go_wp2_with ((with_reducible refine gate_builtin (b := .append) (xs := #[.tmp 23, .tmp 24]) rfl ?_); at_builtin; refine Kd.R_append_rows (Kd.raw 3) (w0 := w0) base rfl (.tmp 23) (.tmp 24) 22 27 (.agg #[.int .i64 0, .int .i64 0, .slice none 0 0]) 40 rfl Try.underlying22 info27 rfl (by decide) (by omega) _ rows [c] _ _ _ (fun _ => True) (fun _ => False) rfl rfl HR.out HN.out (fun _ _ hk => hk) (fun _ hk => hk.elim) (fun _ _ => trivial) HB.out Hb.out Hl.out ?_; intro v2 w2 hn_ hb_ hg_ hat_; have HN2 := Lib.hid hn_; have HB2 := Lib.hid hb_; have HG := Lib.hid hg_; clear hn_ hb_ hg_ hat_)
    all_goals go_ret
    all_goals exact ⟨_, rfl, HN2.out, HB2.out, HG.out⟩
theorem insJob_calls (v : Value) (w0 w : World) (base gv at_ : Nat) (rows : List (List Value)) (c : List Value) (hR : (Kd.raw 3).R 27 w base (fun _ => True) v rows) (hB : Below base w0 w) (hbase : base ≤ w.heap.size) (hat : at_ ≤ rows.length) (hn : rows.length ≤ 1000) (hv : w.heap[gv]? = some (.cells c.toArray 27 (0, 0))) (hc : Ok3 c) (hgv : some gv ≠ v.ownBlock) :
    Calls Try.prog 29 #[v, .int .i64 at_, .slice (some ⟨gv, 0, none⟩) 1 1] w fun e w' => ∃ v', e = .returned v' ∧ (Kd.raw 3).R 27 w' base (fun _ => True) v' (rows.take at_ ++ c :: rows.drop at_) ∧ Below base w0 w' ∧ w.grownBy w' v.ownBlock := by
  obtain ⟨A, cap, rfl⟩ := Kd.R_slice hR
  rcases Nat.lt_or_ge at_ rows.length with hlt | hge
  · obtain ⟨g, cap', hv', _⟩ := Kd.R_form hR (by omega)
    injection hv' with hA _ hcc
    subst hA hcc
    obtain ⟨_, rest, h3⟩ := row3_of_R hR
    have hins : (rows.take at_ ++ c :: rows.drop at_).length = rows.length + 1 := by rw [List.length_append, List.length_cons, List.length_take, List.length_drop]; omega
    have hok : ∀ d ∈ rows.take at_ ++ c :: rows.drop at_, Ok3 d := fun d hd => by
      rcases List.mem_append.1 hd with hd | hd
      · exact h3.ok d (List.mem_of_mem_take hd)
      · rcases List.mem_cons.1 hd with rfl | hd
        · exact hc
        · exact h3.ok d (List.mem_of_mem_drop hd)
    rcases Nat.lt_or_ge cap (rows.length + 1) with hr | hr
    · refine (insJob_grow w base g cap gv at_ rows rest c h3 hlt hn hr hv hc).mono ?_
      rintro e w' ⟨C, rest', rfl, hb, hr3⟩
      have := R_of_row3 hr3
      rw [hins] at this
      exact ⟨_, rfl, Kd.R_lower this hbase, hB.trans (hb.mono hbase), grown_below hb⟩
    · refine (insJob_shift w base g cap gv at_ rows rest c h3 hlt hr hv hc (fun e => hgv (by rw [e]; rfl))).mono ?_
      rintro e w' ⟨rfl, A1, A2, rfl, rfl⟩
      have hg := h3.blk
      have hfl := flat_len h3.ok
      have hfl2 := flat_len hok
      have hlen := h3.len
      have hr3 : Row3 ((w.drew.setRow g A1).setRow g ((rows.take at_ ++ c :: rows.drop at_).flatten ++ rest.drop 3).toArray) base g cap (rows.take at_ ++ c :: rows.drop at_) (rest.drop 3) := by
        refine ⟨h3.lo, ?_, by omega, h3.max, ?_, hok⟩
        · exact setRow_heap (w.drew.setRow g A1) g _ _ _ _ (setRow_heap w.drew g _ _ _ _ hg)
        · rw [List.length_append] at hlen ⊢
          rw [List.length_drop]
          omega
      have := R_of_row3 hr3
      rw [hins] at this
      exact ⟨_, rfl, this, setRow_below (setRow_below (below_drew hB) h3.lo _) h3.lo _, grown_setRow2 w g _ _⟩
  · obtain rfl : at_ = rows.length := by omega
    refine (insJob_end A cap w0 w base gv rows c hR hB hbase hn hv hc).mono ?_
    rintro e w' ⟨v', rfl, h1, h2, h3⟩
    exact ⟨v', rfl, by rw [List.take_length, List.drop_length]; exact h1, h2, h3⟩
end Go.Proofs.Yteodhffgnkdcfaa.Q
