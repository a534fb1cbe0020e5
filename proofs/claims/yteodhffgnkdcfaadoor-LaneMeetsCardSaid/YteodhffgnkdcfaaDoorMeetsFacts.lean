/- Plain facts: the shape of a task; what a job needs. No memory and no Go in it. -/
import Derived.Test.YteodhffgnkdcfaaDoorQx20
import Derived.Test.YteodhffgnkdcfaaDoorMeetsCore
import Derived.Test.YteodhffgnkdcfaaDoorLaneMore
set_option linter.unusedVariables false
set_option linter.unusedSimpArgs false
namespace Go.Proofs.YteodhffgnkdcfaaDoor.Q
open Go.RowKit Go.Proofs.YteodhffgnkdcfaaDoorW.PrintWords Go.Proofs.YteodhffgnkdcfaaDoorW.PrintLast Go.Proofs.YteodhffgnkdcfaaDoorW.PrintMore

abbrev T3_ := S27
/-- A task whose nodes may be. -/
def okT (x : T3_) : Prop := 1 ≤ x.f0.length ∧ x.f0.length ≤ 20 ∧ ∀ n ∈ x.f0, 1 ≤ n ∧ n ≤ 1000
def mostV : List Int → Int
  | [] => 0
  | n :: l => max n (mostV l)
theorem mostV_le : ∀ {l : List Int} {n : Int}, n ∈ l → n ≤ mostV l
  | m :: l, n, h => by
    unfold mostV
    rcases List.mem_cons.1 h with rfl | h
    · omega
    · have := mostV_le h; omega
def tshape (x : T3_) : S29 := ⟨x.f0.sum, x.f0.sum, mostV x.f0, x.f1, x.f2⟩
theorem shape_loop (l : List Int) (d p : Int) (hl : l.length ≤ 20) (hn : ∀ n ∈ l, 1 ≤ n ∧ n ≤ 1000) : ∀ (e k i : Nat) (tot lo mo : Int), i + e = l.length → e < k → 0 ≤ tot → tot + 1000 * e ≤ 1000000 → 0 ≤ mo → trefoillaw18_shape.l0 k (i : Int) l d p tot lo mo d p = some (tot + (l.drop i).sum, tot + (l.drop i).sum, max mo (mostV (l.drop i)), d, p)
  | 0, k + 1, i, tot, lo, mo, hi, hk, h0, h1, h2 => by
    unfold trefoillaw18_shape.l0
    rw [if_neg (by omega), List.drop_eq_nil_of_le (by omega)]
    have : max mo (mostV ([] : List Int)) = mo := by unfold mostV; omega
    rw [this]
    simp
  | e + 1, k + 1, i, tot, lo, mo, hi, hk, h0, h1, h2 => by
    have hlt : i < l.length := by omega
    have hr : rd l (i : Int) = l.getD i 0 := by unfold rd; rw [Int.toNat_natCast]
    have hm := hn _ (mem_getD (z := 0) hlt)
    have hd : (l.drop i) = l.getD i 0 :: l.drop (i + 1) := by rw [List.drop_eq_getElem_cons hlt, List.getD_eq_getElem?_getD, List.getElem?_eq_getElem hlt]; rfl
    have hw : wrap64 ((i : Int) + 1) = ((i + 1 : Nat) : Int) := by rw [lw64 (by omega) (by omega)]; omega
    generalize hg : l.getD i 0 = g at *
    have e1 : mn (mx g 0) 1000 = g := by unfold mn mx; split <;> split <;> omega
    have e2 : mx mo g = max mo g := by unfold mx; split <;> omega
    unfold trefoillaw18_shape.l0
    rw [if_pos (by omega), if_pos (by omega), if_pos (by omega), hr, e1, e2, hw, lw64 (by omega) (by omega), shape_loop l d p hl hn e k (i + 1) (tot + g) lo (max mo g) (by omega) (by omega) (by omega) (by omega) (by omega), hd]
    have e3 : (g :: l.drop (i + 1)).sum = g + (l.drop (i + 1)).sum := List.sum_cons
    have e4 : mostV (g :: l.drop (i + 1)) = max g (mostV (l.drop (i + 1))) := rfl
    rw [e3, e4]
    have e5 : tot + g + (l.drop (i + 1)).sum = tot + (g + (l.drop (i + 1)).sum) := by omega
    have e6 : max (max mo g) (mostV (l.drop (i + 1))) = max mo (max g (mostV (l.drop (i + 1)))) := by omega
    rw [e5, e6]
theorem mostV_nn : ∀ l : List Int, 0 ≤ mostV l
  | [] => Int.le_refl _
  | n :: l => by have := mostV_nn l; unfold mostV; omega
theorem shape_eq {x : T3_} (h : okT x) {k : Nat} (hk : 1000 < k) : trefoillaw18_shape.f k x.f0 x.f1 x.f2 = some (x.f0.sum, x.f0.sum, mostV x.f0, x.f1, x.f2) := by
  have := shape_loop x.f0 x.f1 x.f2 h.2.1 h.2.2 x.f0.length k 0 0 0 0 (by omega) (by have := h.2.1; omega) (by omega) (by have := h.2.1; omega) (by omega)
  have e : max 0 (mostV x.f0) = mostV x.f0 := by have := mostV_nn x.f0; omega
  rw [List.drop_zero, Int.zero_add, e] at this
  exact this
theorem sum_le_pt : ∀ (a b : List Int), a.length = b.length → (∀ q, q < b.length → a.getD q 0 ≤ b.getD q 0) → a.sum ≤ b.sum
  | [], [], _, _ => Int.le_refl _
  | [], _ :: _, h, _ => by simp at h
  | _ :: _, [], h, _ => by simp at h
  | x :: a, y :: b, h, hp => by
    have h0 : x ≤ y := hp 0 (by simp)
    have := sum_le_pt a b (by simpa using h) (fun q hq => hp (q + 1) (by simpa using hq))
    rw [List.sum_cons, List.sum_cons]
    omega
/-- What a job may need, of its task. -/
structure Needs (nd f : List Int) : Prop where
  len : nd.length = f.length
  pt : ∀ q, q < f.length → 1 ≤ nd.getD q 0 ∧ nd.getD q 0 ≤ f.getD q 0
theorem Needs.self {f : List Int} (h : ∀ n ∈ f, 1 ≤ n ∧ n ≤ 1000) : Needs f f := ⟨rfl, fun q hq => ⟨(h _ (mem_getD (z := 0) hq)).1, Int.le_refl _⟩⟩
theorem Needs.set {nd f : List Int} (h : Needs nd f) {q : Nat} {v : Int} (hq : q < f.length) (h1 : 1 ≤ v) (h2 : v ≤ nd.getD q 0) : Needs (nd.set q v) f := by
  refine ⟨by rw [List.length_set]; exact h.len, fun p hp => ?_⟩
  have := h.pt p hp
  have hl := h.len
  rw [List.getD_eq_getElem?_getD, List.getElem?_set]
  by_cases c : q = p
  · subst c
    rw [if_pos rfl, if_pos (by omega)]
    exact ⟨h1, by have e : (some v).getD 0 = v := rfl; rw [e]; omega⟩
  · rw [if_neg c, ← List.getD_eq_getElem?_getD]
    exact this
theorem Needs.job {nd : List Int} {x : T3_} (h : Needs nd x.f0) (hx : okT x) : 1 ≤ nd.length ∧ nd.length ≤ 64 ∧ (∀ n ∈ nd, 1 ≤ n ∧ n ≤ 1000 ∧ n ≤ (tshape x).f2) ∧ nd.sum ≤ (tshape x).f0 := by
  have hl := h.len
  refine ⟨by have := hx.1; omega, by have := hx.2.1; omega, fun n hn => ?_, sum_le_pt _ _ hl (fun q hq => (h.pt q hq).2)⟩
  obtain ⟨q, hq, rfl⟩ := List.mem_iff_getElem.1 hn
  have hp := h.pt q (by omega)
  have e : nd.getD q 0 = nd[q] := by rw [List.getD_eq_getElem?_getD, List.getElem?_eq_getElem hq]; rfl
  rw [e] at hp
  have hm : x.f0.getD q 0 ∈ x.f0 := mem_getD (by omega)
  have := hx.2.2 _ hm
  have := mostV_le hm
  exact ⟨hp.1, by omega, by show nd[q] ≤ mostV x.f0; omega⟩
/-- What is to be found at a place. -/
theorem shapes_at {l : List T3_} {i : Nat} (h : i < l.length) : (l.map tshape)[i]? = some (tshape (l.getD i z27)) := by
  rw [List.getElem?_map, List.getElem?_eq_getElem h, List.getD_eq_getElem?_getD, List.getElem?_eq_getElem h]; rfl
/-! ### A row of whole numbers, as a box -/
def ei (xs : List Int) : List Value := xs.map (fun n => Value.int .i64 n)
theorem ei_len (xs : List Int) : (ei xs).length = xs.length := by unfold ei; simp
theorem ei_cell {W : World} {g t : Nat} {xs : List Int} {rest : List Value} (h : W.heap[g]? = some (.cells (ei xs ++ rest).toArray t (0, 0))) {i : Nat} (hi : i < xs.length) : W.cell? ⟨g, i, none⟩ = some (.int .i64 (xs.getD i 0)) := by
  refine (blk_cell h i).trans ?_
  rw [List.getElem?_toArray, List.getElem?_append_left (by rw [ei_len]; exact hi)]
  unfold ei
  rw [List.getElem?_map, List.getElem?_eq_getElem hi, List.getD_eq_getElem?_getD, List.getElem?_eq_getElem hi]; rfl
theorem ei_set {xs : List Int} {rest : List Value} {i : Nat} (hi : i < xs.length) (v : Int) : ((ei xs ++ rest).toArray.toList.take (i + 0) ++ [Value.int .i64 v] ++ (ei xs ++ rest).toArray.toList.drop (i + 0 + [Value.int .i64 v].length)).toArray = (ei (xs.set i v) ++ rest).toArray := by
  have h1 : (ei xs ++ rest).set i (Value.int .i64 v) = ei (xs.set i v) ++ rest := by
    rw [List.set_append_left _ _ (by rw [ei_len]; exact hi)]
    unfold ei
    rw [List.map_set]
  have h2 : i < (ei xs ++ rest).length := by rw [List.length_append, ei_len]; omega
  rw [← h1, List.set_eq_take_append_cons_drop, if_pos h2]
  simp
theorem ei_C {W : World} {g cap : Nat} {xs : List Int} {rest : List Value} (h : W.heap[g]? = some (.cells (ei xs ++ rest).toArray 3 (0, 0))) (hc : xs.length + rest.length = cap) (hm : cap ≤ 9223372036854775807) : Kd.C (Kd.int .i64) W (some ⟨g, 0, none⟩) xs.length xs := by
  have ho : W.ownsRow 0 3 1 (.slice (some ⟨g, 0, none⟩) xs.length cap) xs.length (encs (fun n => Value.int .i64 n) xs) := by
    refine ⟨by unfold encs; simp, .inr ⟨g, cap, _, rfl, Nat.zero_le _, h, by omega, hm, ?_, ?_⟩⟩
    · rw [List.size_toArray, List.length_append, ei_len]; omega
    · show ((ei xs ++ rest)).take (xs.length * 1) = _
      rw [Nat.mul_one, List.take_append_of_le_length (by rw [ei_len]; exact Nat.le_refl _), List.take_of_length_le (by rw [ei_len]; exact Nat.le_refl _)]
      rfl
  have hR : (Kd.int .i64).R 3 W 0 (fun _ => True) (.slice (some ⟨g, 0, none⟩) xs.length cap) xs := Kd.R_of_own ho (fun _ _ => trivial)
  exact (Kd.R_reads' hR).2.2
theorem ei_of_R {W : World} {base : Nat} {v : Value} {xs : List Int} (h : (Kd.int .i64).R 3 W base (fun _ => True) v xs) (hne : v.ownBlock ≠ none) : ∃ g cap rest, v = .slice (some ⟨g, 0, none⟩) xs.length cap ∧ xs.length + rest.length = cap ∧ cap ≤ 9223372036854775807 ∧ W.heap[g]? = some (.cells (ei xs ++ rest).toArray 3 (0, 0)) ∧ base ≤ g := by
  have ho := Kd.own_of_R h
  obtain ⟨hl, ho⟩ := ho
  rcases ho with ⟨rfl, hn⟩ | ⟨g, cap, cur, rfl, hb, hg, hn, hm, hs, ht⟩
  · exact absurd rfl hne
  · refine ⟨g, cap, cur.toList.drop xs.length, rfl, ?_, hm, ?_, hb⟩
    · have hs2 : cur.size = cap := by simpa using hs
      have hs3 : cur.toList.length = cap := hs2
      rw [List.length_drop, hs3]; omega
    · rw [hg]
      have e : (ei xs ++ cur.toList.drop xs.length).toArray = cur := by
        rw [Nat.mul_one] at ht
        have : ei xs = cur.toList.take xs.length := ht.symm
        rw [this, List.take_append_drop, Array.toArray_toList]
      rw [e]
/-- A row of whole numbers that was appended to a literal: a box. -/
theorem Sx.appBox {w W W' : World} {L : List (Nat × Array Value × Nat)} {Fs : List (World → Prop)} {gl : Nat} {cs : Array Value} {t : Nat} {v : Value} {xs : List Int} (s : Sx w ((gl, cs, t) :: L) Fs W) (hB : Below w.heap.size w W') (hg : W.grownBy W' (some gl)) (h : (Kd.int .i64).R 3 W' w.heap.size (fun _ => True) v xs) (hat : v.ownBlock = some gl ∨ ∃ b, v.ownBlock = some b ∧ W.heap.size ≤ b) :
    ∃ g cap rest, v = .slice (some ⟨g, 0, none⟩) xs.length cap ∧ xs.length + rest.length = cap ∧ cap ≤ 9223372036854775807 ∧ Sx w ((g, (ei xs ++ rest).toArray, 3) :: L) Fs W' := by
  obtain ⟨g, cap, rest, rfl, h1, h2, h3, h4⟩ := ei_of_R h (by rcases hat with h | ⟨b, h, _⟩ <;> rw [h] <;> simp)
  have hg1 : g = gl ∨ W.heap.size ≤ g := by
    rcases hat with h | ⟨b, h, hb⟩
    · left; simpa [Value.ownBlock] using h
    · right
      have : g = b := by simpa [Value.ownBlock] using h
      omega
  have hnl : ∀ (i : Nat) (x : Nat × Array Value × Nat), L[i]? = some x → x.1 ≠ gl := fun i x hx e => by
    have := s.nd (i + 1) 0 x (gl, cs, t) hx rfl e
    omega
  have hng : ∀ (i : Nat) (x : Nat × Array Value × Nat), L[i]? = some x → x.1 ≠ g := fun i x hx e => by
    rcases hg1 with h | h
    · exact hnl i x hx (by rw [e, h])
    · have := s.lt (i := i + 1) hx
      omega
  refine ⟨g, cap, rest, rfl, h1, h2, hB, fun i x hx => ?_, fun i j x y hx hy e => ?_, fun i P hP => ?_⟩
  · cases i with
    | zero => obtain rfl := Option.some.inj hx; exact ⟨h3, h4⟩
    | succ i =>
      have hb := s.bx (i + 1) x hx
      exact ⟨(hg.block _ (blk_lt hb.1) (fun e => hnl i x hx (Option.some.inj e))).trans hb.1, hb.2⟩
  · cases i with
    | zero =>
      cases j with
      | zero => rfl
      | succ j => obtain rfl := Option.some.inj hx; exact absurd e.symm (hng j y hy)
    | succ i =>
      cases j with
      | zero => obtain rfl := Option.some.inj hy; exact absurd e (hng i x hx)
      | succ j => have := s.nd (i + 1) (j + 1) x y hx hy e; omega
  · have hf := (s.fs i P hP).bound
    refine (hf.step (fun k hk hlt => hg.block k hlt (fun e => hk.1 0 _ rfl (Option.some.inj e)))).mono (fun k hk i x hx => ?_)
    cases i with
    | zero =>
      obtain rfl := Option.some.inj hx
      rcases hg1 with h | h
      · exact fun e => hk.1 0 (gl, cs, t) rfl (Eq.trans (show k = g from e) h)
      · have := hk.2; show k ≠ g; omega
    | succ i => exact hk.1 (i + 1) x hx
/-- A new block. -/
theorem Sx.boxGe {w W W' : World} {L : List (Nat × Array Value × Nat)} {Fs : List (World → Prop)} (s : Sx w L Fs W) {g : Nat} {cs : Array Value} {t : Nat} (eg : W.heap.size ≤ g) (bg : W'.heap[g]? = some (.cells cs t (0, 0))) (b : Below W.heap.size W W') : Sx w ((g, cs, t) :: L) Fs W' := by
  have s' := s.below b
  refine ⟨s'.B, fun i x h => ?_, fun i j x y h1 h2 e => ?_, fun i P hP => ?_⟩
  · cases i with
    | zero => obtain rfl := Option.some.inj h; exact ⟨bg, Nat.le_trans s.B.size eg⟩
    | succ i => exact s'.bx i x h
  · cases i with
    | zero =>
      cases j with
      | zero => rfl
      | succ j => obtain rfl := Option.some.inj h1; have := s.lt (i := j) h2; simp at e; omega
    | succ i =>
      cases j with
      | zero => obtain rfl := Option.some.inj h2; have := s.lt (i := i) h1; simp at e; omega
      | succ j => rw [s.nd i j x y h1 h2 e]
  · refine Foot.mono (Foot.step (s.fs i P hP).bound (fun k hk hlt => b.block k hlt)) (fun k hk i x h => ?_)
    cases i with
    | zero => obtain rfl := Option.some.inj h; have := hk.2; show k ≠ g; omega
    | succ i => exact hk.1 i x h
/-- An element of a row of whole numbers. -/
theorem at_elt {W : World} {A : Option Addr} {l : List Int} (h : Kd.C (Kd.int .i64) W A l.length l) {k : Nat} (hk : k < l.length) : ∃ ad, A = some ad ∧ W.cell? (ad.add k) = some (.int .i64 (l.getD k 0)) := by
  obtain ⟨ad, e, hc⟩ := Kd.at_int h (k : Int) (by omega) (by omega)
  have hx : rd l (k : Int) = l.getD k 0 := by unfold rd; rw [Int.toNat_natCast]
  rw [hx, Int.toNat_natCast] at hc
  exact ⟨ad, e, hc⟩
theorem at_task {W : World} {A : Option Addr} {l : List T3_} (h : Kd.C k27 W A l.length l) {k : Nat} (hk : k < l.length) : ∃ ad A2 c2, A = some ad ∧ W.cell? (ad.add (k * 3)) = some (.slice A2 (l.getD k z27).f0.length c2) ∧ W.cell? ⟨(ad.add (k * 3)).block, (ad.add (k * 3)).off + 1, none⟩ = some (.int .i64 (l.getD k z27).f1) ∧ W.cell? ⟨(ad.add (k * 3)).block, (ad.add (k * 3)).off + 2, none⟩ = some (.int .i64 (l.getD k z27).f2) ∧ (l.getD k z27).f0.length ≤ c2 ∧ Kd.C (Kd.int .i64) W A2 (l.getD k z27).f0.length (l.getD k z27).f0 := by
  obtain ⟨ad, A2, c2, e, h0, h1, h2, h3, h4⟩ := at_T27 h (k : Int) (by omega) (by omega)
  have hx : rd_T27 l (k : Int) = l.getD k z27 := by unfold rd_T27; rw [Int.toNat_natCast]
  rw [hx] at h0 h1 h2 h3 h4
  rw [Int.toNat_natCast] at h0 h1 h2
  exact ⟨ad, A2, c2, e, h0, h1, h2, h3, h4⟩
section
variable {P : Program} {o : Oper} {a : Act} {ops : Array Oper} {rest : List Oper} {Q : Exit → Act → World → Prop} {W : World}
/-- A literal of no elements. -/
theorem lit0_event (hgd : o.guard = none) {N : Tmp} (_hd : o.dst = some N) {t : TypeId} (hrun : (execOp a.eval o).run P W = .ok (.value (.slice (some ⟨W.heap.size, 0, none⟩) 0 0)) (W.alloc (.cells #[] t (0, 0))))
    (h : ∀ g, g = W.heap.size → ∀ w1, w1.heap[g]? = some (.cells #[] t (0, 0)) → Below W.heap.size W w1 → wpList P ops Q rest (a.put o.dst (.slice (some ⟨g, 0, none⟩) 0 0)) w1) : wpList P ops Q (o :: rest) a W :=
  Kd.event_run hgd hrun (h _ rfl _ (blk_new W _) (below_alloc (Below.refl _ _) _))
end
end Go.Proofs.YteodhffgnkdcfaaDoor.Q
