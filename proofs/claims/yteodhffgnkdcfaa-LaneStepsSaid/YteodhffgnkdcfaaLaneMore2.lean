/- Plain facts, of several texts. -/
import Derived.Test.YteodhffgnkdcfaaQx18
import Derived.Test.YteodhffgnkdcfaaLanePure
/- Words: what calls gave may be read; regions that draw. -/
set_option linter.unusedVariables false
set_option linter.unusedSimpArgs false
namespace Go.Proofs.Yteodhffgnkdcfaa.Q
open Go.RowKit Go.Proofs.YteodhffgnkdcfaaW.PrintWords Go.Proofs.YteodhffgnkdcfaaW.PrintLast Go.Proofs.YteodhffgnkdcfaaW.PrintMore
attribute [local go_sem] max2_int min2_int max_two min_two max_three min_three max_four min_four
theorem Sx.perm {w W : World} {L L' : List (Nat × Array Value × Nat)} {Fs Fs' : List (World → Prop)} (s : Sx w L Fs W) (hL : L.Perm L') (hF : Fs.Perm Fs') : Sx w L' Fs' W := by
  have hp : L.Pairwise (fun a b => a.1 ≠ b.1) := by
    rw [List.pairwise_iff_getElem]
    intro i j hi hj hij e
    have := s.nd i j _ _ (List.getElem?_eq_getElem hi) (List.getElem?_eq_getElem hj) e
    omega
  have hp' : L'.Pairwise (fun a b => a.1 ≠ b.1) := hL.pairwise hp (fun h => h.symm)
  have mem : ∀ (i : Nat) (x : Nat × Array Value × Nat), L'[i]? = some x → ∃ j : Nat, L[j]? = some x := fun i x h => List.mem_iff_getElem?.1 (hL.mem_iff.2 (List.mem_of_getElem? h))
  refine ⟨s.B, fun i x h => by obtain ⟨j, hj⟩ := mem i x h; exact s.bx j x hj, fun i j x y h1 h2 e => ?_, fun i P h => ?_⟩
  · rw [List.pairwise_iff_getElem] at hp'
    obtain ⟨hi, rfl⟩ := List.getElem?_eq_some_iff.1 h1
    obtain ⟨hj, rfl⟩ := List.getElem?_eq_some_iff.1 h2
    rcases Nat.lt_trichotomy i j with c | c | c
    · exact absurd e (hp' i j hi hj c)
    · exact c
    · exact absurd e.symm (hp' j i hj hi c)
  · obtain ⟨j, hj⟩ := List.mem_iff_getElem?.1 (hF.mem_iff.2 (List.mem_of_getElem? h))
    exact (s.fs j P hj).mono (fun k hk i x h => by obtain ⟨j, hj⟩ := mem i x h; exact hk j x hj)
/-- Which places are done: the bits of a number. -/
@[irreducible] def bz (n m : Nat) : Array Bool := ((List.range n).map (fun i => m.testBit i)).toArray
theorem bc_ {w : World} {g : Nat} {cs : Array Value} {t : Nat} {v : Value} (h : w.heap[g]? = some (.cells cs t (0, 0))) (j : Nat) (hv : cs[j]? = some v := by rfl) : w.cell? ⟨g, j, none⟩ = some v := (blk_cell h j).trans hv
section
variable {P : Program} {md : Region.Mode} {ops : Array Oper} {Q : Exit → Act → World → Prop} {S : World → Prop} {ds : List Nat} {i : Nat} {N : Option Tmp} {oi : Oper} {v : Value} {fuel : Nat} {l : Array Bool} {a a' : Act} {w : World}
/-- An operation that reads nothing. -/
theorem pq_ (l' : Array Bool) (h : wpAnyLast P md ops Q S ds fuel l' a' w) (hi : ops[i]? = some oi := by rfl) (hN : oi.dst = N := by rfl) (hc : anyB md ops l l' i = true := by kernel_rfl) (hQ : ∀ c a w, Q (.panic c) (a.put oi.dst v) w → Q (.panic c) a w := by exact fun _ _ _ h => h)
    (hw : Region.wanted oi (yielded ops a.tmps) = true := by rfl) (hy : ∀ w', (execOp a.eval oi).run P w' = .ok (.value v) w' := by intro w'; go_simp; with_reducible rfl) (ha : a.put N v = a' := by simp only [Act.put, List.setIfInBounds_toArray, List.set_cons_zero, List.set_cons_succ, i64_w, i32_w]; rfl) : wpAnyLast P md ops Q S ds (fuel + 1) l a w :=
  pure_ l' hi hN hc hQ (Or.inl ⟨hw, hy⟩) ha h
/-- An operation that is not wanted. -/
theorem sq_ (l' : Array Bool) (h : wpAnyLast P md ops Q S ds fuel l' a' w) (hi : ops[i]? = some oi := by rfl) (hN : oi.dst = N := by rfl) (hc : anyB md ops l l' i = true := by kernel_rfl) (hQ : ∀ c a w, Q (.panic c) (a.put oi.dst undef) w → Q (.panic c) a w := by exact fun _ _ _ h => h)
    (hw : Region.wanted oi (yielded ops a.tmps) = false := by rfl) (ha : a.put N undef = a' := by simp only [Act.put, List.setIfInBounds_toArray, List.set_cons_zero, List.set_cons_succ, i64_w, i32_w]; rfl) : wpAnyLast P md ops Q S ds (fuel + 1) l a w :=
  pure_ l' hi hN hc hQ (Or.inr ⟨hw, rfl⟩) ha h
/-- A load. -/
theorem tq_ (l' : Array Bool) (hS : S w) (h : wpAnyLast P md ops Q S ds fuel l' a' w) (hi : ops[i]? = some oi := by rfl) (hN : oi.dst = N := by rfl) (hc : takeB md ops ds l l' i = true := by kernel_rfl) (hQ : ∀ c a w, Q (.panic c) (a.put oi.dst v) w → Q (.panic c) a w := by exact fun _ _ _ h => h)
    (hw : Region.wanted oi (yielded ops a.tmps) = true := by rfl) (hy : ∀ w', S w' → (execOp a.eval oi).run P w' = .ok (.value v) w' := by intro w' hs; (repeat (have hs1 := hs.1; replace hs := hs.2)); go_simp; with_reducible rfl) (ha : a.put N v = a' := by simp only [Act.put, List.setIfInBounds_toArray, List.set_cons_zero, List.set_cons_succ, i64_w, i32_w]; rfl) : wpAnyLast P md ops Q S ds (fuel + 1) l a w :=
  take_ l' hi hN hc hQ (Or.inl ⟨hw, hy⟩) hS ha h
/-- A box is read as a whole. -/
theorem tb_ (l' : Array Bool) (hS : S w) {v : Value} (hy : ∀ w', S w' → (execOp a.eval oi).run P w' = .ok (.value v) w') (h : wpAnyLast P md ops Q S ds fuel l' a' w) (hi : ops[i]? = some oi := by rfl) (hN : oi.dst = N := by rfl) (hc : takeB md ops ds l l' i = true := by kernel_rfl) (hQ : ∀ c a w, Q (.panic c) (a.put oi.dst v) w → Q (.panic c) a w := by exact fun _ _ _ h => h)
    (hw : Region.wanted oi (yielded ops a.tmps) = true := by rfl) (ha : a.put N v = a' := by simp only [Act.put, List.setIfInBounds_toArray, List.set_cons_zero, List.set_cons_succ, i64_w, i32_w]; rfl) : wpAnyLast P md ops Q S ds (fuel + 1) l a w :=
  take_ l' hi hN hc hQ (Or.inl ⟨hw, hy⟩) hS ha h
end
/-- What a call gave, new: it may be read from now on. -/
theorem Sx.val {α : Type} {d : Kd α} {w W W' : World} {L : List (Nat × Array Value × Nat)} {Fs : List (World → Prop)} {e base : Nat} {v : Value} {xs : List α} (s : Sx w L Fs W) (b : Below W.heap.size W W') (h : Kd.V d e W' base (fun k => W.heap.size ≤ k) v xs) : ∃ A c, v = .slice A xs.length c ∧ xs.length ≤ c ∧ Sx w L ((fun W_ => Kd.C d W_ A xs.length xs) :: Fs) W' := by
  obtain ⟨A, c, hv, hl, hf⟩ := h
  exact ⟨A, c, hv, hl, s.fresh b hf⟩
theorem own_val {d : Kd J3} {W W' : World} {v : Value} {xs : List J3} {e : Nat} (h : Kd.S d e W' W.heap.size (fun _ => True) v xs) : Kd.V d e W' W.heap.size (fun k => W.heap.size ≤ k) v xs := Kd.S_V (Kd.S_mono (Kd.S_bound h) (fun _ hk => hk.2.1))
section
variable {P : Program} {ops : Array Oper} {Q : Exit → Act → World → Prop}
theorem lit0_step {oi : Oper} {N : Option Tmp} {a : Act} {W : World} {K : Act → World → Prop} {t : TypeId} (hw : Region.wanted oi (yielded ops a.tmps) = true) (hN : oi.dst = N) (hrun : (execOp a.eval oi).run P W = .ok (.value (.slice (some ⟨W.heap.size, 0, none⟩) 0 0)) (W.alloc (.cells #[] t (0, 0))))
    (h : ∀ g, g = W.heap.size → ∀ w1, w1.heap[g]? = some (.cells #[] t (0, 0)) → Below W.heap.size W w1 → K (a.put N (.slice (some ⟨g, 0, none⟩) 0 0)) w1) : if Region.wanted oi (yielded ops a.tmps) = true then Oper.wp P oi a W K Q else K (a.put N undef) W :=
  value_ hw hN hrun (h _ rfl _ (blk_new W _) (below_alloc (Below.refl _ _) _))
end
theorem lit0_R {W : World} {base g : Nat} (hb : base ≤ g) (hg : W.heap[g]? = some (.cells #[] 3 (0, 0))) : (Kd.int .i64).R 3 W base (fun _ => True) (.slice (some ⟨g, 0, none⟩) 0 0) ([] : List Int) :=
  ⟨fun _ _ => trivial, [], ⟨rfl, .inr ⟨g, 0, #[], rfl, hb, hg, Nat.le_refl _, by decide, rfl, rfl⟩⟩, Reps.none _ _⟩
/-- Behind an append to a literal of no elements. -/
theorem Sx.app {w W W' : World} {L : List (Nat × Array Value × Nat)} {Fs : List (World → Prop)} {g : Nat} {cs : Array Value} {t : Nat} {v : Value} {xs : List Int} (s : Sx w ((g, cs, t) :: L) Fs W) (hB : Below w.heap.size w W') (hg : W.grownBy W' (some g)) (h : (Kd.int .i64).R 3 W' w.heap.size (fun _ => True) v xs) (h3 : L.all (fun x => x.2.2 != 3) = true) :
    ∃ A c, v = .slice A xs.length c ∧ xs.length ≤ c ∧ Sx w L ((fun W_ => Kd.C (Kd.int .i64) W_ A xs.length xs) :: Fs) W' := by
  have hne : ∀ (i : Nat) (x : Nat × Array Value × Nat), L[i]? = some x → x.1 ≠ g := fun i x hx e => by
    have := s.nd (i + 1) 0 x (g, cs, t) hx rfl e
    omega
  have hbx : ∀ (i : Nat) (x : Nat × Array Value × Nat), L[i]? = some x → W'.heap[x.1]? = some (.cells x.2.1 x.2.2 (0, 0)) ∧ w.heap.size ≤ x.1 := fun i x hx => by
    have hb := s.bx (i + 1) x hx
    exact ⟨(hg.block _ (blk_lt hb.1) (fun e => hne i x hx (Option.some.inj e))).trans hb.1, hb.2⟩
  obtain ⟨A, c, rfl⟩ := Kd.R_slice h
  have hr := Kd.R_reads' h
  have hR2 : (Kd.int .i64).R 3 W' w.heap.size (fun k => some k = (Value.slice A xs.length c).ownBlock) (Value.slice A xs.length c) xs := Kd.R_of_own (Kd.own_of_R h) (fun k hk => hk.symm)
  have hf := Kd.R_F hR2
  refine ⟨A, c, rfl, hr.2.1, hB, hbx, fun i j x y h1 h2 e => by have := s.nd (i + 1) (j + 1) x y h1 h2 e; omega, fun i P hP => ?_⟩
  cases i with
  | zero =>
    obtain rfl := Option.some.inj hP
    refine hf.mono (fun k hk i x hx e => ?_)
    obtain ⟨cells, hc⟩ := Kd.R_typed h k hk.symm
    have hb := (hbx i x hx).1
    rw [← e, hc] at hb
    injection hb with hb
    injection hb with _ hb
    have h4 := List.all_eq_true.1 h3 x (List.mem_of_getElem? hx)
    rw [← hb] at h4
    exact absurd h4 (by decide)
  | succ i =>
    exact ((s.fs i P hP).step (fun k hk hlt => hg.block k hlt (fun e => hk 0 _ rfl (Option.some.inj e)))).mono (fun k hk i x hx => hk (i + 1) x hx)
end Go.Proofs.Yteodhffgnkdcfaa.Q

/- Words: a row of whole numbers as a box; a row of jobs that is added to. -/
set_option linter.unusedVariables false
set_option linter.unusedSimpArgs false
namespace Go.Proofs.Yteodhffgnkdcfaa.Q
open Go.RowKit Go.Proofs.YteodhffgnkdcfaaW.PrintWords Go.Proofs.YteodhffgnkdcfaaW.PrintLast Go.Proofs.YteodhffgnkdcfaaW.PrintMore
attribute [local go_sem] max2_int min2_int max_two min_two max_three min_three max_four min_four
/-! ### A row of whole numbers, as a box -/
def ei (xs : List Int) : List Value := xs.map (fun n => Value.int .i64 n)
theorem ei_len (xs : List Int) : (ei xs).length = xs.length := by unfold ei; simp
theorem ei_cell {W : World} {g t : Nat} {xs : List Int} {rest : List Value} (h : W.heap[g]? = some (.cells (ei xs ++ rest).toArray t (0, 0))) {i : Nat} (hi : i < xs.length) : W.cell? ⟨g, i, none⟩ = some (.int .i64 (xs.getD i 0)) := by
  refine (blk_cell h i).trans ?_
  rw [List.getElem?_toArray, List.getElem?_append_left (by rw [ei_len]; exact hi)]
  unfold ei
  rw [List.getElem?_map, List.getElem?_eq_getElem hi, List.getD_eq_getElem?_getD, List.getElem?_eq_getElem hi]; rfl
theorem ei_set {xs : List Int} {rest : List Value} {i : Nat} (hi : i < xs.length) (v : Int) : ((ei xs ++ rest).toArray.toList.take (i + 0) ++ [Value.int .i64 v] ++ (ei xs ++ rest).toArray.toList.drop (i + 0 + [Value.int .i64 v].length)).toArray = (ei (xs.set i v) ++ rest).toArray := by
  have h1 : (ei xs ++ rest).set i (Value.int .i64 v) = ei (xs.set i v) ++ rest := by
    rw [List.set_append_left _ _ (by rw [ei_len]; exact hi)]
    unfold ei
    rw [List.map_set]
  have h2 : i < (ei xs ++ rest).length := by rw [List.length_append, ei_len]; omega
  rw [← h1, List.set_eq_take_append_cons_drop, if_pos h2]
  simp
theorem ei_C {W : World} {g cap : Nat} {xs : List Int} {rest : List Value} (h : W.heap[g]? = some (.cells (ei xs ++ rest).toArray 3 (0, 0))) (hc : xs.length + rest.length = cap) (hm : cap ≤ 9223372036854775807) : Kd.C (Kd.int .i64) W (some ⟨g, 0, none⟩) xs.length xs := by
  have ho : W.ownsRow 0 3 1 (.slice (some ⟨g, 0, none⟩) xs.length cap) xs.length (encs (fun n => Value.int .i64 n) xs) := by
    refine ⟨by unfold encs; simp, .inr ⟨g, cap, _, rfl, Nat.zero_le _, h, by omega, hm, ?_, ?_⟩⟩
    · rw [List.size_toArray, List.length_append, ei_len]; omega
    · show ((ei xs ++ rest)).take (xs.length * 1) = _
      rw [Nat.mul_one, List.take_append_of_le_length (by rw [ei_len]; exact Nat.le_refl _), List.take_of_length_le (by rw [ei_len]; exact Nat.le_refl _)]
      rfl
  have hR : (Kd.int .i64).R 3 W 0 (fun _ => True) (.slice (some ⟨g, 0, none⟩) xs.length cap) xs := Kd.R_of_own ho (fun _ _ => trivial)
  exact (Kd.R_reads' hR).2.2
theorem ei_of_R {W : World} {base : Nat} {v : Value} {xs : List Int} (h : (Kd.int .i64).R 3 W base (fun _ => True) v xs) (hne : v.ownBlock ≠ none) : ∃ g cap rest, v = .slice (some ⟨g, 0, none⟩) xs.length cap ∧ xs.length + rest.length = cap ∧ cap ≤ 9223372036854775807 ∧ W.heap[g]? = some (.cells (ei xs ++ rest).toArray 3 (0, 0)) ∧ base ≤ g := by
  have ho := Kd.own_of_R h
  obtain ⟨hl, ho⟩ := ho
  rcases ho with ⟨rfl, hn⟩ | ⟨g, cap, cur, rfl, hb, hg, hn, hm, hs, ht⟩
  · exact absurd rfl hne
  · refine ⟨g, cap, cur.toList.drop xs.length, rfl, ?_, hm, ?_, hb⟩
    · have hs2 : cur.size = cap := by simpa using hs
      have hs3 : cur.toList.length = cap := hs2
      rw [List.length_drop, hs3]; omega
    · rw [hg]
      have e : (ei xs ++ cur.toList.drop xs.length).toArray = cur := by
        rw [Nat.mul_one] at ht
        have : ei xs = cur.toList.take xs.length := ht.symm
        rw [this, List.take_append_drop, Array.toArray_toList]
      rw [e]
/-- A row of whole numbers that was appended to a literal: a box. -/
theorem Sx.appBox {w W W' : World} {L : List (Nat × Array Value × Nat)} {Fs : List (World → Prop)} {gl : Nat} {cs : Array Value} {t : Nat} {v : Value} {xs : List Int} (s : Sx w ((gl, cs, t) :: L) Fs W) (hB : Below w.heap.size w W') (hg : W.grownBy W' (some gl)) (h : (Kd.int .i64).R 3 W' w.heap.size (fun _ => True) v xs) (hat : v.ownBlock = some gl ∨ ∃ b, v.ownBlock = some b ∧ W.heap.size ≤ b) :
    ∃ g cap rest, v = .slice (some ⟨g, 0, none⟩) xs.length cap ∧ xs.length + rest.length = cap ∧ cap ≤ 9223372036854775807 ∧ Sx w ((g, (ei xs ++ rest).toArray, 3) :: L) Fs W' := by
  obtain ⟨g, cap, rest, rfl, h1, h2, h3, h4⟩ := ei_of_R h (by rcases hat with h | ⟨b, h, _⟩ <;> rw [h] <;> simp)
  have hg1 : g = gl ∨ W.heap.size ≤ g := by
    rcases hat with h | ⟨b, h, hb⟩
    · left; simpa [Value.ownBlock] using h
    · right
      have : g = b := by simpa [Value.ownBlock] using h
      omega
  have hnl : ∀ (i : Nat) (x : Nat × Array Value × Nat), L[i]? = some x → x.1 ≠ gl := fun i x hx e => by
    have := s.nd (i + 1) 0 x (gl, cs, t) hx rfl e
    omega
  have hng : ∀ (i : Nat) (x : Nat × Array Value × Nat), L[i]? = some x → x.1 ≠ g := fun i x hx e => by
    rcases hg1 with h | h
    · exact hnl i x hx (by rw [e, h])
    · have := s.lt (i := i + 1) hx
      omega
  refine ⟨g, cap, rest, rfl, h1, h2, hB, fun i x hx => ?_, fun i j x y hx hy e => ?_, fun i P hP => ?_⟩
  · cases i with
    | zero => obtain rfl := Option.some.inj hx; exact ⟨h3, h4⟩
    | succ i =>
      have hb := s.bx (i + 1) x hx
      exact ⟨(hg.block _ (blk_lt hb.1) (fun e => hnl i x hx (Option.some.inj e))).trans hb.1, hb.2⟩
  · cases i with
    | zero =>
      cases j with
      | zero => rfl
      | succ j => obtain rfl := Option.some.inj hx; exact absurd e.symm (hng j y hy)
    | succ i =>
      cases j with
      | zero => obtain rfl := Option.some.inj hy; exact absurd e (hng i x hx)
      | succ j => have := s.nd (i + 1) (j + 1) x y hx hy e; omega
  · have hf := (s.fs i P hP).bound
    refine (hf.step (fun k hk hlt => hg.block k hlt (fun e => hk.1 0 _ rfl (Option.some.inj e)))).mono (fun k hk i x hx => ?_)
    cases i with
    | zero =>
      obtain rfl := Option.some.inj hx
      rcases hg1 with h | h
      · exact fun e => hk.1 0 (gl, cs, t) rfl (Eq.trans (show k = g from e) h)
      · have := hk.2; show k ≠ g; omega
    | succ i => exact hk.1 (i + 1) x hx
/-- A new block. -/
theorem Sx.boxGe {w W W' : World} {L : List (Nat × Array Value × Nat)} {Fs : List (World → Prop)} (s : Sx w L Fs W) {g : Nat} {cs : Array Value} {t : Nat} (eg : W.heap.size ≤ g) (bg : W'.heap[g]? = some (.cells cs t (0, 0))) (b : Below W.heap.size W W') : Sx w ((g, cs, t) :: L) Fs W' := by
  have s' := s.below b
  refine ⟨s'.B, fun i x h => ?_, fun i j x y h1 h2 e => ?_, fun i P hP => ?_⟩
  · cases i with
    | zero => obtain rfl := Option.some.inj h; exact ⟨bg, Nat.le_trans s.B.size eg⟩
    | succ i => exact s'.bx i x h
  · cases i with
    | zero =>
      cases j with
      | zero => rfl
      | succ j => obtain rfl := Option.some.inj h1; have := s.lt (i := j) h2; simp at e; omega
    | succ i =>
      cases j with
      | zero => obtain rfl := Option.some.inj h2; have := s.lt (i := i) h1; simp at e; omega
      | succ j => rw [s.nd i j x y h1 h2 e]
  · refine Foot.mono (Foot.step (s.fs i P hP).bound (fun k hk hlt => b.block k hlt)) (fun k hk i x h => ?_)
    cases i with
    | zero => obtain rfl := Option.some.inj h; have := hk.2; show k ≠ g; omega
    | succ i => exact hk.1 i x h
/-- An element of a row of whole numbers. -/
theorem at_elt {W : World} {A : Option Addr} {l : List Int} (h : Kd.C (Kd.int .i64) W A l.length l) {k : Nat} (hk : k < l.length) : ∃ ad, A = some ad ∧ W.cell? (ad.add k) = some (.int .i64 (l.getD k 0)) := by
  obtain ⟨ad, e, hc⟩ := Kd.at_int h (k : Int) (by omega) (by omega)
  have hx : rd l (k : Int) = l.getD k 0 := by unfold rd; rw [Int.toNat_natCast]
  rw [hx, Int.toNat_natCast] at hc
  exact ⟨ad, e, hc⟩
section
variable {P : Program} {o : Oper} {a : Act} {ops : Array Oper} {rest : List Oper} {Q : Exit → Act → World → Prop} {W : World}
/-- A literal of no elements. -/
theorem lit0_event (hgd : o.guard = none) {N : Tmp} (_hd : o.dst = some N) {t : TypeId} (hrun : (execOp a.eval o).run P W = .ok (.value (.slice (some ⟨W.heap.size, 0, none⟩) 0 0)) (W.alloc (.cells #[] t (0, 0))))
    (h : ∀ g, g = W.heap.size → ∀ w1, w1.heap[g]? = some (.cells #[] t (0, 0)) → Below W.heap.size W w1 → wpList P ops Q rest (a.put o.dst (.slice (some ⟨g, 0, none⟩) 0 0)) w1) : wpList P ops Q (o :: rest) a W :=
  Kd.event_run hgd hrun (h _ rfl _ (blk_new W _) (below_alloc (Below.refl _ _) _))
end
/-- What a row's elements may lead to. -/
def OKp (P0 : Nat → Prop) (b : Nat) (ks : List Nat) (k : Nat) : Prop := (P0 k ∨ b ≤ k) ∧ k ∉ ks
/-- A row of jobs of the call's own; what they lead to is only read. -/
def NX (P0 : Nat → Prop) (w W : World) (ks : List Nat) (v : Value) (xs : List J3) : Prop := Kd.N k27 27 W w.heap.size (OKp P0 w.heap.size ks) v xs
section
variable {P0 : Nat → Prop} {w W W' : World} {ks : List Nat} {v : Value} {xs : List J3} {g : Nat}
theorem NX.below (h : NX P0 w W ks v xs) (hb : Below W.heap.size W W') : NX P0 w W' ks v xs := Kd.N_below h hb
theorem NX.box (h : NX P0 w W ks v xs) (hg : W.heap.size ≤ g) (hb : Below W.heap.size W W') : NX P0 w W' (g :: ks) v xs :=
  Kd.N_mono (Kd.N_below (Kd.N_bound h) hb) (fun k hk => ⟨hk.1.1, fun hm => by
    rcases List.mem_cons.1 hm with rfl | hm
    · have := hk.2; omega
    · exact hk.1.2 hm⟩)
theorem NX.row (h : NX P0 w W ks v xs) (hg : g ∈ ks) (cs : Array Value) : NX P0 w (W.setRow g cs) ks v xs := Kd.N_step h (fun k hk _ => setRow_other W g k cs (fun e => hk.2 (e ▸ hg)))
theorem NX.drop (h : NX P0 w W (g :: ks) v xs) : NX P0 w W ks v xs := Kd.N_mono h (fun k hk => ⟨hk.1, fun hm => hk.2 (List.mem_cons_of_mem _ hm)⟩)
theorem NX.away (h : NX P0 w W ks v xs) (hg : g ∈ ks) : some g ≠ v.ownBlock := fun e => (h.1 g e.symm).2 hg
theorem NX.grown (h : NX P0 w W ks v xs) {r : Option Nat} (hg : W.grownBy W' r) (hr : ∀ k, some k = r → k ∈ ks) : NX P0 w W' ks v xs := Kd.N_grown h hg (fun k hk e => hk.2 (hr k e))
theorem NX.V (h : NX P0 w W ks v xs) : Kd.V k27 27 W w.heap.size (fun k => P0 k ∨ w.heap.size ≤ k) v xs := Kd.N_V (Kd.N_mono h (fun _ hk => hk.1))
end
/-- An element of a row that came in. -/
theorem in_job {P0 : Nat → Prop} {w : World} {A : Option Addr} {n c : Nat} {l : List J3} (h : Kd.V k27 27 w w.heap.size (fun k => P0 k) (.slice A n c) l) {i : Nat} (hi : i < l.length) : ∃ ad A2 c2, A = some ad ∧ (l.getD i z27).f2.length ≤ c2 ∧ Kd.FK k27 w (fun k => P0 k ∧ k < w.heap.size) (l.getD i z27) [.int .i64 (l.getD i z27).f0, .int .i64 (l.getD i z27).f1, .slice A2 (l.getD i z27).f2.length c2] ∧ Kd.C (Kd.int .i64) w A2 (l.getD i z27).f2.length (l.getD i z27).f2 ∧
    w.cell? (ad.add (i * 3)) = some (.int .i64 (l.getD i z27).f0) ∧ w.cell? ⟨(ad.add (i * 3)).block, (ad.add (i * 3)).off + 1, none⟩ = some (.int .i64 (l.getD i z27).f1) ∧ w.cell? ⟨(ad.add (i * 3)).block, (ad.add (i * 3)).off + 2, none⟩ = some (.slice A2 (l.getD i z27).f2.length c2) := by
  obtain ⟨hn, hc, hF⟩ := Kd.V_at h
  subst hn
  obtain ⟨ad, A2', c2', hA, x0, x1, x2, -, -⟩ := at_job (Kd.F_now hF) hi
  subst hA
  obtain ⟨cs, hl, hK, hcell⟩ := Kd.V_get h z27 (i : Int) (by omega) (by omega)
  rw [Int.toNat_natCast] at hK hcell
  obtain ⟨A2, c2, rfl, hle, hf⟩ := k27_openF hK
  have e2 := hcell 2 _ rfl
  rw [show (k27 : Kd S27).sz = 3 from rfl] at e2
  have e3 := x2
  rw [← add_field _ _ 2 (by omega)] at e3
  rw [e3] at e2
  injection e2 with e2
  injection e2 with ea _ ec
  subst ea ec
  exact ⟨ad, _, _, rfl, hle, Foot.bound hK, Kd.F_now hf, x0, x1, x2⟩
end Go.Proofs.Yteodhffgnkdcfaa.Q
