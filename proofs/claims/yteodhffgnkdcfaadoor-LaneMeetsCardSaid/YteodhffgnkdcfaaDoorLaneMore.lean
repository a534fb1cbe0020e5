/- Words: what calls gave may be read; regions that draw. -/
import Derived.Test.YteodhffgnkdcfaaDoorQx22
import Derived.Test.YteodhffgnkdcfaaDoorLanePure
set_option linter.unusedVariables false
set_option linter.unusedSimpArgs false
namespace Go.Proofs.YteodhffgnkdcfaaDoor.Q
open Go.RowKit Go.Proofs.YteodhffgnkdcfaaDoorW.PrintWords Go.Proofs.YteodhffgnkdcfaaDoorW.PrintLast Go.Proofs.YteodhffgnkdcfaaDoorW.PrintMore
attribute [local go_sem] max2_int min2_int max_two min_two max_three min_three max_four min_four
theorem Sx.perm {w W : World} {L L' : List (Nat × Array Value × Nat)} {Fs Fs' : List (World → Prop)} (s : Sx w L Fs W) (hL : L.Perm L') (hF : Fs.Perm Fs') : Sx w L' Fs' W := by
  have hp : L.Pairwise (fun a b => a.1 ≠ b.1) := by
    rw [List.pairwise_iff_getElem]
    intro i j hi hj hij e
    have := s.nd i j _ _ (List.getElem?_eq_getElem hi) (List.getElem?_eq_getElem hj) e
    omega
  have hp' : L'.Pairwise (fun a b => a.1 ≠ b.1) := hL.pairwise hp (fun h => h.symm)
  have mem : ∀ (i : Nat) (x : Nat × Array Value × Nat), L'[i]? = some x → ∃ j : Nat, L[j]? = some x := fun i x h => List.mem_iff_getElem?.1 (hL.mem_iff.2 (List.mem_of_getElem? h))
  refine ⟨s.B, fun i x h => by obtain ⟨j, hj⟩ := mem i x h; exact s.bx j x hj, fun i j x y h1 h2 e => ?_, fun i P h => ?_⟩
  · rw [List.pairwise_iff_getElem] at hp'
    obtain ⟨hi, rfl⟩ := List.getElem?_eq_some_iff.1 h1
    obtain ⟨hj, rfl⟩ := List.getElem?_eq_some_iff.1 h2
    rcases Nat.lt_trichotomy i j with c | c | c
    · exact absurd e (hp' i j hi hj c)
    · exact c
    · exact absurd e.symm (hp' j i hj hi c)
  · obtain ⟨j, hj⟩ := List.mem_iff_getElem?.1 (hF.mem_iff.2 (List.mem_of_getElem? h))
    exact (s.fs j P hj).mono (fun k hk i x h => by obtain ⟨j, hj⟩ := mem i x h; exact hk j x hj)
/-- Which places are done: the bits of a number. -/
@[irreducible] def bz (n m : Nat) : Array Bool := ((List.range n).map (fun i => m.testBit i)).toArray
theorem bc_ {w : World} {g : Nat} {cs : Array Value} {t : Nat} {v : Value} (h : w.heap[g]? = some (.cells cs t (0, 0))) (j : Nat) (hv : cs[j]? = some v := by rfl) : w.cell? ⟨g, j, none⟩ = some v := (blk_cell h j).trans hv
section
variable {P : Program} {md : Region.Mode} {ops : Array Oper} {Q : Exit → Act → World → Prop} {S : World → Prop} {ds : List Nat} {i : Nat} {N : Option Tmp} {oi : Oper} {v : Value} {fuel : Nat} {l : Array Bool} {a a' : Act} {w : World}
/-- An operation that reads nothing. -/
theorem pq_ (l' : Array Bool) (h : wpAnyLast P md ops Q S ds fuel l' a' w) (hi : ops[i]? = some oi := by rfl) (hN : oi.dst = N := by rfl) (hc : anyB md ops l l' i = true := by kernel_rfl) (hQ : ∀ c a w, Q (.panic c) (a.put oi.dst v) w → Q (.panic c) a w := by exact fun _ _ _ h => h)
    (hw : Region.wanted oi (yielded ops a.tmps) = true := by rfl) (hy : ∀ w', (execOp a.eval oi).run P w' = .ok (.value v) w' := by intro w'; go_simp; with_reducible rfl) (ha : a.put N v = a' := by simp only [Act.put, List.setIfInBounds_toArray, List.set_cons_zero, List.set_cons_succ, i64_w, i32_w]; rfl) : wpAnyLast P md ops Q S ds (fuel + 1) l a w :=
  pure_ l' hi hN hc hQ (Or.inl ⟨hw, hy⟩) ha h
/-- An operation that is not wanted. -/
theorem sq_ (l' : Array Bool) (h : wpAnyLast P md ops Q S ds fuel l' a' w) (hi : ops[i]? = some oi := by rfl) (hN : oi.dst = N := by rfl) (hc : anyB md ops l l' i = true := by kernel_rfl) (hQ : ∀ c a w, Q (.panic c) (a.put oi.dst undef) w → Q (.panic c) a w := by exact fun _ _ _ h => h)
    (hw : Region.wanted oi (yielded ops a.tmps) = false := by rfl) (ha : a.put N undef = a' := by simp only [Act.put, List.setIfInBounds_toArray, List.set_cons_zero, List.set_cons_succ, i64_w, i32_w]; rfl) : wpAnyLast P md ops Q S ds (fuel + 1) l a w :=
  pure_ l' hi hN hc hQ (Or.inr ⟨hw, rfl⟩) ha h
/-- A load. -/
theorem tq_ (l' : Array Bool) (hS : S w) (h : wpAnyLast P md ops Q S ds fuel l' a' w) (hi : ops[i]? = some oi := by rfl) (hN : oi.dst = N := by rfl) (hc : takeB md ops ds l l' i = true := by kernel_rfl) (hQ : ∀ c a w, Q (.panic c) (a.put oi.dst v) w → Q (.panic c) a w := by exact fun _ _ _ h => h)
    (hw : Region.wanted oi (yielded ops a.tmps) = true := by rfl) (hy : ∀ w', S w' → (execOp a.eval oi).run P w' = .ok (.value v) w' := by intro w' hs; (repeat (have hs1 := hs.1; replace hs := hs.2)); go_simp; with_reducible rfl) (ha : a.put N v = a' := by simp only [Act.put, List.setIfInBounds_toArray, List.set_cons_zero, List.set_cons_succ, i64_w, i32_w]; rfl) : wpAnyLast P md ops Q S ds (fuel + 1) l a w :=
  take_ l' hi hN hc hQ (Or.inl ⟨hw, hy⟩) hS ha h
/-- A box is read as a whole. -/
theorem tb_ (l' : Array Bool) (hS : S w) {v : Value} (hy : ∀ w', S w' → (execOp a.eval oi).run P w' = .ok (.value v) w') (h : wpAnyLast P md ops Q S ds fuel l' a' w) (hi : ops[i]? = some oi := by rfl) (hN : oi.dst = N := by rfl) (hc : takeB md ops ds l l' i = true := by kernel_rfl) (hQ : ∀ c a w, Q (.panic c) (a.put oi.dst v) w → Q (.panic c) a w := by exact fun _ _ _ h => h)
    (hw : Region.wanted oi (yielded ops a.tmps) = true := by rfl) (ha : a.put N v = a' := by simp only [Act.put, List.setIfInBounds_toArray, List.set_cons_zero, List.set_cons_succ, i64_w, i32_w]; rfl) : wpAnyLast P md ops Q S ds (fuel + 1) l a w :=
  take_ l' hi hN hc hQ (Or.inl ⟨hw, hy⟩) hS ha h
end
/-- What a call gave, new: it may be read from now on. -/
theorem Sx.val {α : Type} {d : Kd α} {w W W' : World} {L : List (Nat × Array Value × Nat)} {Fs : List (World → Prop)} {e base : Nat} {v : Value} {xs : List α} (s : Sx w L Fs W) (b : Below W.heap.size W W') (h : Kd.V d e W' base (fun k => W.heap.size ≤ k) v xs) : ∃ A c, v = .slice A xs.length c ∧ xs.length ≤ c ∧ Sx w L ((fun W_ => Kd.C d W_ A xs.length xs) :: Fs) W' := by
  obtain ⟨A, c, hv, hl, hf⟩ := h
  exact ⟨A, c, hv, hl, s.fresh b hf⟩
theorem own_val {d : Kd J3} {W W' : World} {v : Value} {xs : List J3} {e : Nat} (h : Kd.S d e W' W.heap.size (fun _ => True) v xs) : Kd.V d e W' W.heap.size (fun k => W.heap.size ≤ k) v xs := Kd.S_V (Kd.S_mono (Kd.S_bound h) (fun _ hk => hk.2.1))
section
variable {P : Program} {ops : Array Oper} {Q : Exit → Act → World → Prop}
theorem lit0_step {oi : Oper} {N : Option Tmp} {a : Act} {W : World} {K : Act → World → Prop} {t : TypeId} (hw : Region.wanted oi (yielded ops a.tmps) = true) (hN : oi.dst = N) (hrun : (execOp a.eval oi).run P W = .ok (.value (.slice (some ⟨W.heap.size, 0, none⟩) 0 0)) (W.alloc (.cells #[] t (0, 0))))
    (h : ∀ g, g = W.heap.size → ∀ w1, w1.heap[g]? = some (.cells #[] t (0, 0)) → Below W.heap.size W w1 → K (a.put N (.slice (some ⟨g, 0, none⟩) 0 0)) w1) : if Region.wanted oi (yielded ops a.tmps) = true then Oper.wp P oi a W K Q else K (a.put N undef) W :=
  value_ hw hN hrun (h _ rfl _ (blk_new W _) (below_alloc (Below.refl _ _) _))
end
theorem lit0_R {W : World} {base g : Nat} (hb : base ≤ g) (hg : W.heap[g]? = some (.cells #[] 3 (0, 0))) : (Kd.int .i64).R 3 W base (fun _ => True) (.slice (some ⟨g, 0, none⟩) 0 0) ([] : List Int) :=
  ⟨fun _ _ => trivial, [], ⟨rfl, .inr ⟨g, 0, #[], rfl, hb, hg, Nat.le_refl _, by decide, rfl, rfl⟩⟩, Reps.none _ _⟩
/-- Behind an append to a literal of no elements. -/
theorem Sx.app {w W W' : World} {L : List (Nat × Array Value × Nat)} {Fs : List (World → Prop)} {g : Nat} {cs : Array Value} {t : Nat} {v : Value} {xs : List Int} (s : Sx w ((g, cs, t) :: L) Fs W) (hB : Below w.heap.size w W') (hg : W.grownBy W' (some g)) (h : (Kd.int .i64).R 3 W' w.heap.size (fun _ => True) v xs) (h3 : L.all (fun x => x.2.2 != 3) = true) :
    ∃ A c, v = .slice A xs.length c ∧ xs.length ≤ c ∧ Sx w L ((fun W_ => Kd.C (Kd.int .i64) W_ A xs.length xs) :: Fs) W' := by
  have hne : ∀ (i : Nat) (x : Nat × Array Value × Nat), L[i]? = some x → x.1 ≠ g := fun i x hx e => by
    have := s.nd (i + 1) 0 x (g, cs, t) hx rfl e
    omega
  have hbx : ∀ (i : Nat) (x : Nat × Array Value × Nat), L[i]? = some x → W'.heap[x.1]? = some (.cells x.2.1 x.2.2 (0, 0)) ∧ w.heap.size ≤ x.1 := fun i x hx => by
    have hb := s.bx (i + 1) x hx
    exact ⟨(hg.block _ (blk_lt hb.1) (fun e => hne i x hx (Option.some.inj e))).trans hb.1, hb.2⟩
  obtain ⟨A, c, rfl⟩ := Kd.R_slice h
  have hr := Kd.R_reads' h
  have hR2 : (Kd.int .i64).R 3 W' w.heap.size (fun k => some k = (Value.slice A xs.length c).ownBlock) (Value.slice A xs.length c) xs := Kd.R_of_own (Kd.own_of_R h) (fun k hk => hk.symm)
  have hf := Kd.R_F hR2
  refine ⟨A, c, rfl, hr.2.1, hB, hbx, fun i j x y h1 h2 e => by have := s.nd (i + 1) (j + 1) x y h1 h2 e; omega, fun i P hP => ?_⟩
  cases i with
  | zero =>
    obtain rfl := Option.some.inj hP
    refine hf.mono (fun k hk i x hx e => ?_)
    obtain ⟨cells, hc⟩ := Kd.R_typed h k hk.symm
    have hb := (hbx i x hx).1
    rw [← e, hc] at hb
    injection hb with hb
    injection hb with _ hb
    have h4 := List.all_eq_true.1 h3 x (List.mem_of_getElem? hx)
    rw [← hb] at h4
    exact absurd h4 (by decide)
  | succ i =>
    exact ((s.fs i P hP).step (fun k hk hlt => hg.block k hlt (fun e => hk 0 _ rfl (Option.some.inj e)))).mono (fun k hk i x hx => hk (i + 1) x hx)
end Go.Proofs.YteodhffgnkdcfaaDoor.Q
