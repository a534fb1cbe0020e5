-- PRINTED by print.py (a twelfth state) out of the translation. Not trusted: Lean checks it.
import Derived.Test.YtdmgigicbppjkaaDoorQx0
import Derived.Test.YtdmgigicbppjkaaDoorQx4
import Derived.Test.YtdmgigicbppjkaaDoorQx5
import Derived.Test.YtdmgigicbppjkaaDoorQx7
namespace Go.Proofs.YtdmgigicbppjkaaDoor.Q
open Go.RowKit Go.Proofs.YtdmgigicbppjkaaDoorW.PrintWords Go.Proofs.YtdmgigicbppjkaaDoorW.PrintLast Go.Proofs.YtdmgigicbppjkaaDoorW.PrintMore
attribute [local go_sem] max2_int min2_int max_two min_two max_three min_three max_four min_four   -- for this text's walks alone
set_option linter.unusedVariables false
set_option linter.unusedSimpArgs false

-- BREAK
/-- A taker, part by part. -/
structure Tk where mk ::
  (s : Bool) (k t b n e : Int)
def tz (s : Bool) : Tk := ⟨s, 0, 0, 0, 0, 0⟩
def tat (T : List Tk) (j : Nat) : Tk := T.getD j (tz false)
theorem tat_set (T : List Tk) (k j : Nat) (x : Tk) (h : k < T.length) : tat (T.set k x) j = if j = k then x else tat T j := by
  unfold tat
  rw [List.getD_eq_getElem?_getD, List.getD_eq_getElem?_getD, List.getElem?_set]
  by_cases c : k = j
  · subst c; rw [if_pos rfl, if_pos h, if_pos rfl]; rfl
  · rw [if_neg c, if_neg (fun e => c e.symm)]
/-- Whose turn it is; less than 0: something is pushed. -/
def pick (ks : List Int) (i : Nat) : Int := if i < ks.length then mn (mx (rd ks (i : Int)) 0) 4 - 1 else ((i : Int) - (ks.length : Int)) % 4
theorem pick_in (ks : List Int) (i : Nat) : -1 ≤ pick ks i ∧ pick ks i < 4 := by
  unfold pick
  split
  · unfold mn mx; (repeat' split) <;> omega
  · omega
/-- What a play comes to; no answer where it tells that something may not be. -/
def play_l0 (ks : List Int) : Nat → Nat → Int → List Int → Int → Int → List Tk → List Int → Option (List Int × Int × Int × List Int × Int × Bool)
  | 0, _, _, _, _, _, _, _ => none
  | j + 1, i, pu, r, tp, bt, T, G => if i < ks.length + 32 then
      (if pick ks i < 0 then
        (if (tat T 0).k = 0 then
          (deque_Push.f 1 r tp bt (wrap64 (pu + 1))).bind fun x => if x.2.2.2 = 0 then play_l0 ks j (i + 1) (wrap64 (pu + 1)) x.1 x.2.1 x.2.2.1 T G else if x.2.2.2 = 121 then play_l0 ks j (i + 1) pu r tp bt T G else none
        else play_l0 ks j (i + 1) pu r tp bt T G)
      else if ks.length ≤ i ∧ (tat T (pick ks i).toNat).k = 0 then play_l0 ks j (i + 1) pu r tp bt T G
      else (deque_Step.f r tp bt (tat T (pick ks i).toNat).s (tat T (pick ks i).toNat).k (tat T (pick ks i).toNat).t (tat T (pick ks i).toNat).b (tat T (pick ks i).toNat).n (tat T (pick ks i).toNat).e).bind fun y =>
        if y.2.2.2.2.2.2.2.2.2 = 0 then play_l0 ks j (i + 1) pu y.1 y.2.1 y.2.2.1
          (T.set (pick ks i).toNat (if y.2.2.2.2.2.2.2.2.1 ≠ 0 then tz y.2.2.2.1 else ⟨y.2.2.2.1, y.2.2.2.2.1, y.2.2.2.2.2.1, y.2.2.2.2.2.2.1, y.2.2.2.2.2.2.2.1, y.2.2.2.2.2.2.2.2.1⟩)) (if y.2.2.2.2.2.2.2.2.1 = 1 then G ++ [y.2.2.2.2.2.2.2.1] else G)
        else none)
    else some (r, tp, bt, G, pu, true)
/-- The takers at the start. -/
def takers0 : List Tk := [tz false, tz true, tz true, tz true]
def tkc (x : Tk) : List Value := [.bool x.s, .int .i64 x.k, .int .i64 x.t, .int .i64 x.b, .int .i64 x.n, .int .i64 x.e]
def tcs (T : List Tk) : Array Value := (T.flatMap tkc).toArray
theorem tkc_len (x : Tk) : (tkc x).length = 6 := rfl
theorem tcs_list : ∀ T : List Tk, (T.flatMap tkc).length = 6 * T.length
  | [] => rfl
  | x :: T => by rw [List.flatMap_cons, List.length_append, tcs_list T, tkc_len, List.length_cons]; omega
theorem tcs_size (T : List Tk) : (tcs T).size = 6 * T.length := by unfold tcs; rw [List.size_toArray]; exact tcs_list T
theorem tcs_split (T : List Tk) (j : Nat) (h : j < T.length) : T.flatMap tkc = (T.take j).flatMap tkc ++ (tkc (tat T j) ++ (T.drop (j + 1)).flatMap tkc) := by
  have e : T = T.take j ++ tat T j :: T.drop (j + 1) := by
    have : tat T j = T[j] := by unfold tat; rw [List.getD_eq_getElem?_getD, List.getElem?_eq_getElem h]; rfl
    rw [this, ← List.drop_eq_getElem_cons h, List.take_append_drop]
  conv => lhs; rw [e]
  rw [List.flatMap_append, List.flatMap_cons]
theorem tcs_get (T : List Tk) (j m : Nat) (h : j < T.length) (hm : m < 6) : (tcs T)[j * 6 + m]? = (tkc (tat T j))[m]? := by
  unfold tcs
  have hl : ((T.take j).flatMap tkc).length = 6 * j := by rw [tcs_list, List.length_take]; omega
  rw [List.getElem?_toArray, tcs_split T j h, List.getElem?_append_right (by omega), hl, show j * 6 + m - 6 * j = m by omega, List.getElem?_append_left (by rw [tkc_len]; exact hm)]
theorem tcs_set (T : List Tk) (j : Nat) (x : Tk) (h : j < T.length) : ((tcs T).toList.take (j * 6 + 0) ++ tkc x ++ (tcs T).toList.drop (j * 6 + 0 + (tkc x).length)).toArray = tcs (T.set j x) := by
  unfold tcs
  have hl : ((T.take j).flatMap tkc).length = 6 * j := by rw [tcs_list, List.length_take]; omega
  have hs : (T.set j x).flatMap tkc = (T.take j).flatMap tkc ++ (tkc x ++ (T.drop (j + 1)).flatMap tkc) := by
    rw [tcs_split (T.set j x) j (by rw [List.length_set]; exact h), tat_set T j j x h, if_pos rfl, List.take_set_of_le (Nat.le_refl _), List.drop_set_of_lt (by omega)]
  rw [hs, List.toList_toArray, tcs_split T j h, List.take_append, hl, show j * 6 + 0 - 6 * j = 0 by omega, List.take_zero, List.append_nil, List.take_of_length_le (by omega), tkc_len, List.drop_append, hl, List.drop_eq_nil_of_le (by omega), show j * 6 + 0 + 6 - 6 * j = 6 by omega, List.nil_append, List.drop_append, tkc_len, List.drop_eq_nil_of_le (by rw [tkc_len]; omega), Nat.sub_self, List.drop_zero, List.nil_append, List.append_assoc]
section
variable {P : Program} {ops : Array Oper} {rest : List Oper} {o : Oper} {a : Act} {Q : Exit → Act → World → Prop} {w : World}
/-- A struct out of the middle of a block. -/
theorem run_load_mid_ {ty : TypeId} {x : Operand} (ho : o.op = .load ty x) (b f : Nat) (hx : a.eval x = .pointer (some ⟨b, f, none⟩)) (cs : List Value) (d : TypeDesc) (hc : w.rangeAt b f cs) (hu : P.underlying ty = some d) (hd : d.isRow = true) (hi : (P.info? ty).map (·.size) = some cs.length) :
    (execOp a.eval o).run P w = .ok (.value (.agg cs.toArray)) w := by
  unfold execOp
  simp only [ho, hx, Instr.loadAt, Instr.sureAddr, Sem.run_bind, Sem.run_pure, Result.andThen_ok, run_loadVar_mid w b f ty cs d hc hu hd hi]
/-- A struct into the middle of a block. -/
theorem run_store_mid_ {ty : TypeId} {p x : Operand} (ho : o.op = .store ty p x) (g f : Nat) (hp : a.eval p = .pointer (some ⟨g, f, none⟩)) (t : TypeId) (cur : Array Value) (cs : List Value) (hg : w.heap[g]? = some (.cells cur t (0, 0)))
    (hv : (a.eval x).cells = cs.toArray) (hi : (P.info? ty).map (·.size) = some cs.length) (hsz : f + 0 + cs.length ≤ cur.size) (h1 : cs.all (·.oneCell') = true) :
    (execOp a.eval o).run P w = .ok .skip (w.setRow g (cur.toList.take (f + 0) ++ cs ++ cur.toList.drop (f + 0 + cs.length)).toArray) := by
  have hr : (storeVar ty ⟨g, f, none⟩ (a.eval x)).run P w = .ok () (w.setRow g (cur.toList.take (f + 0) ++ cs ++ cur.toList.drop (f + 0 + cs.length)).toArray) := by
    cases hq : P.info? ty with
    | none => simp [hq] at hi
    | some i =>
      have hs : i.size = cs.length := by simpa [hq] using hi
      have h := run_storeCells_at (P := P) g f t cs 0 cur w hg hsz (fun v hv => List.all_eq_true.mp h1 v hv)
      simp [storeVar, Sem.run_bind, sizeOf, typeInfo, hq, hs, hv, h]
  unfold execOp
  simp only [ho, hp, Instr.storeAt, Instr.sureAddr, Sem.run_bind, Sem.run_pure, Result.andThen_ok, hr]
theorem wpList_load_tk (hgd : o.guard = none) (ty : TypeId) (x : Operand) (ho : o.op = .load ty x) (b f : Nat) (hx : a.eval x = .pointer (some ⟨b, f, none⟩)) (cs : List Value) (d : TypeDesc) (hc : w.rangeAt b f cs)
    (hu : P.underlying ty = some d) (hd : d.isRow = true) (hi : (P.info? ty).map (·.size) = some cs.length) (h : wpList P ops Q rest (a.put o.dst (.agg cs.toArray)) w) : wpList P ops Q (o :: rest) a w :=
  wpList_load_mid hgd ty x ho b f hx cs d hc hu hd hi h
/-- A taker goes into the array. -/
theorem wpList_store_tk (hgd : o.guard = none) (hN : o.dst = none) (ty : TypeId) (p : Tmp) (x : Operand) (ho : o.op = .store ty (.tmp p) x) (g j : Nat) (hp : a.eval (.tmp p) = .pointer (some ⟨g, j * 6, none⟩)) (t : TypeId) (T : List Tk) (y : Tk) (hg : w.heap[g]? = some (.cells (tcs T) t (0, 0)))
    (hv : (a.eval x).cells = (tkc y).toArray) (hi : (P.info? ty).map (·.size) = some 6) (hj : j < T.length) (I : World → Prop) (hI : I (w.setRow g (tcs (T.set j y)))) (h : ∀ w', I w' → wpList P ops Q rest a w') : wpList P ops Q (o :: rest) a w := by
  refine store_event hgd ho hN (w1 := w.setRow g (tcs (T.set j y))) ?_ (fun w' e => h w' (e.symm ▸ hI))
  rw [run_store_mid_ ho g (j * 6) hp t (tcs T) (tkc y) hg hv hi (by rw [tcs_size, tkc_len]; omega) rfl, tcs_set T j y hj]
end
theorem tcs_range {W : World} {g t : Nat} {T : List Tk} (hg : W.heap[g]? = some (.cells (tcs T) t (0, 0))) (j : Nat) (h : j < T.length) : W.rangeAt g (j * 6) (tkc (tat T j)) := fun m v hv => by
  have hm : m < 6 := (List.getElem?_eq_some_iff.1 hv).1
  rw [blk_cell hg (j * 6 + m), tcs_get T j m h hm, hv]
/-- What the play holds: its boxes, the ring of the deque, and what was got. -/
structure Ps (w : World) (L : List (Nat × Array Value × Nat)) (vq : Value) (r : List Int) (vg : Value) (G : List Int) (W : World) : Prop where mk ::
  (st : St w L [] W) (ty : ∀ (i : Nat) (x : Nat × Array Value × Nat), L[i]? = some x → 3 ≠ x.2.2)
  (rq : Kd.R (Kd.int .i64) 3 W w.heap.size (fun k => True ∧ some k ≠ vg.ownBlock) vq r) (rg : Kd.R (Kd.int .i64) 3 W w.heap.size (fun _ => True) vg G)
section
variable {w W W' : World} {L : List (Nat × Array Value × Nat)} {vq vg : Value} {r G : List Int}
theorem Ps.start (w : World) : Ps w [] (.slice none 0 0) [] (.slice none 0 0) [] w := ⟨St.start w, fun i x h => by simp at h, Kd.R_nil _ _ _ _ _, Kd.R_nil _ _ _ _ _⟩
theorem Ps.below (s : Ps w L vq r vg G W) (b : Below W.heap.size W W') : Ps w L vq r vg G W' := ⟨s.st.below b, s.ty, Kd.R_below s.rq b, Kd.R_below s.rg b⟩
theorem Ps.box (s : Ps w L vq r vg G W) {g : Nat} {cs : Array Value} {t : Nat} (eg : g = W.heap.size) (bg : W'.heap[g]? = some (.cells cs t (0, 0))) (b : Below W.heap.size W W') (ht : 3 ≠ t) : Ps w ((g, cs, t) :: L) vq r vg G W' :=
  ⟨s.st.box eg bg b, fun i x h => by
    cases i with
    | zero => obtain rfl := Option.some.inj h; exact ht
    | succ i => exact s.ty i x h, Kd.R_below s.rq b, Kd.R_below s.rg b⟩
theorem Ps.row (s : Ps w L vq r vg G W) (i : Nat) {g : Nat} {cur : Array Value} {t : Nat} (h : L[i]? = some (g, cur, t)) (cs : Array Value) : Ps w (L.set i (g, cs, t)) vq r vg G (W.setRow g cs) := by
  have ht : 3 ≠ t := s.ty i _ h
  have ht' : ∀ q, q ∈ 3 :: (Kd.int .i64).E → q ≠ t := fun q hq => by
    rcases List.mem_cons.1 hq with rfl | hq
    · exact ht
    · exact absurd hq (by show ¬ q ∈ ([] : List Nat); simp)
  refine ⟨s.st.row i h cs, fun j x hx => ?_, R_row_ s.rq (s.st.bx i _ h).1 ht' cs, R_row_ s.rg (s.st.bx i _ h).1 ht' cs⟩
  rw [List.getElem?_set] at hx
  by_cases c : i = j
  · rw [if_pos c] at hx
    split at hx
    · obtain rfl := Option.some.inj hx; exact ht
    · cases hx
  · rw [if_neg c] at hx; exact s.ty j x hx
theorem Ps.drop {x : Nat × Array Value × Nat} (s : Ps w (x :: L) vq r vg G W) : Ps w L vq r vg G W :=
  ⟨⟨s.st.B, fun i y h => s.st.bx (i + 1) y h, fun i j y z h1 h2 e => by have := s.st.nd (i + 1) (j + 1) y z h1 h2 e; omega, fun r hr => by cases hr⟩, fun i y h => s.ty (i + 1) y h, s.rq, s.rg⟩
theorem Ps.ring (s : Ps w L vq r vg G W) (b : Below W.heap.size W W') {v : Value} {r' : List Int} (hR : Kd.R (Kd.int .i64) 3 W' W.heap.size (fun _ => True) v r') : Ps w L v r' vg G W' :=
  ⟨s.st.below b, s.ty, Kd.R_lower (Kd.R_newR hR s.rg) s.st.B.size, Kd.R_below s.rg b⟩
theorem Ps.lit (s : Ps w L vq r vg G W) (b : Below W.heap.size W W') {v : Value} {G' : List Int} (hR : Kd.R (Kd.int .i64) 3 W' W.heap.size (fun _ => True) v G') : Ps w L vq r v G' W' :=
  ⟨s.st.below b, s.ty, Kd.R_mono (Kd.R_elder s.rq hR b) (fun k hk => ⟨trivial, hk.2⟩), Kd.R_lower hR s.st.B.size⟩
theorem Ps.app (s : Ps w L vq r vg G W) {v1 : Value} {G' : List Int} (hR : Kd.R (Kd.int .i64) 3 W' w.heap.size (fun _ => True) v1 G') (hB : Below w.heap.size w W') (hg : W.grownBy W' vg.ownBlock) (hat : v1.ownBlock = vg.ownBlock ∨ ∃ b, v1.ownBlock = some b ∧ W.heap.size ≤ b) : Ps w L vq r v1 G' W' :=
  ⟨⟨hB, fun i x h => ⟨blk_grown (s.st.bx i x h).1 hg (Kd.R_ne s.rg (s.st.bx i x h).1 (s.ty i x h)), (s.st.bx i x h).2⟩, s.st.nd, fun r hr => by cases hr⟩, s.ty, Kd.R_after s.rq hg hat, hR⟩
theorem Ps.get (s : Ps w L vq r vg G W) (i : Nat) {g : Nat} {cs : Array Value} {t : Nat} (h : L[i]? = some (g, cs, t)) : W.heap[g]? = some (.cells cs t (0, 0)) := (s.st.bx i _ h).1
theorem Ps.apart (s : Ps w L vq r vg G W) : Kd.R (Kd.int .i64) 3 W w.heap.size (fun k => some k ≠ vg.ownBlock) vq r ∧ Kd.R (Kd.int .i64) 3 W w.heap.size (fun k => some k ≠ vq.ownBlock) vg G :=
  ⟨Kd.R_mono s.rq (fun _ hk => hk.2), Kd.R_of_own (Kd.own_of_R s.rg) (fun k hk e => (s.rq.1 k e.symm).2 hk.symm)⟩
end
theorem rd_acts (l : List S51) (i : Int) (h : i.toNat < l.length) : rd (l.map fun a => a.f0) i = (rd_T51 l i).f0 := by
  unfold rd rd_T51
  rw [List.getD_eq_getElem?_getD, List.getD_eq_getElem?_getD, List.getElem?_map, List.getElem?_eq_getElem h]; rfl
theorem pick_lt {l : List S51} {i : Nat} {k : Int} (h : i < l.length) (e : pick (l.map fun a => a.f0) i = k) : mn (mx (rd_T51 l (i : Int)).f0 0) 4 = k + 1 := by
  unfold pick at e
  rw [List.length_map, if_pos h, rd_acts l i (by omega)] at e
  omega
theorem pick_ge {l : List S51} {i : Nat} {k : Int} (h : ¬ i < l.length) (e : pick (l.map fun a => a.f0) i = k) : ((i : Int) - (l.length : Int)) % 4 = k := by
  unfold pick at e
  rwa [List.length_map, if_neg h] at e
theorem tk_cell {W : World} {g t : Nat} {T : List Tk} (hg : W.heap[g]? = some (.cells (tcs T) t (0, 0))) (j m : Nat) (h : j < T.length) (hm : m < 6) {v : Value} (e : (tkc (tat T j))[m]? = some v) : W.cell? ⟨g, j * 6 + m, none⟩ = some v := by
  rw [blk_cell hg (j * 6 + m), tcs_get T j m h hm, e]
theorem box_step {P : Program} {ops : Array Oper} {Q : Exit → Act → World → Prop} {oi : Oper} {N : Option Tmp} {a : Act} {W : World} {K : Act → World → Prop} {cs : Array Value} {t : TypeId} (hw : Region.wanted oi (yielded ops a.tmps) = true) (hN : oi.dst = N)
    (hrun : (execOp a.eval oi).run P W = .ok (.value (.pointer (some ⟨W.heap.size, 0, none⟩))) (W.alloc (.cells cs t (0, 0))))
    (h : ∀ g, g = W.heap.size → ∀ w1, w1.heap[g]? = some (.cells cs t (0, 0)) → Below W.heap.size W w1 → K (a.put N (.pointer (some ⟨g, 0, none⟩))) w1) : if Region.wanted oi (yielded ops a.tmps) = true then Oper.wp P oi a W K Q else K (a.put N undef) W :=
  value_ hw hN hrun (h _ rfl _ (blk_new W _) (below_alloc (Below.refl _ _) _))
theorem St.swap {w W : World} {L : List (Nat × Array Value × Nat)} {Rs : List (Value × List Int)} {x y : Nat × Array Value × Nat} (s : St w (x :: y :: L) Rs W) : St w (y :: x :: L) Rs W := by
  have key : ∀ (i : Nat) (z : Nat × Array Value × Nat), (y :: x :: L)[i]? = some z → ∃ j, (x :: y :: L)[j]? = some z ∧ (i = 0 → j = 1) ∧ (i = 1 → j = 0) ∧ (2 ≤ i → j = i) := fun i z h => by
    match i, h with
    | 0, h => exact ⟨1, h, by simp, by simp, by omega⟩
    | 1, h => exact ⟨0, h, by simp, by simp, by omega⟩
    | i + 2, h => exact ⟨i + 2, h, by omega, by omega, fun _ => rfl⟩
  refine ⟨s.B, fun i z h => ?_, fun i j a b h1 h2 e => ?_, fun r hr => Kd.V_mono (s.rs r hr) (fun k hk i z h => ?_)⟩
  · obtain ⟨j, hj, _⟩ := key i z h
    exact s.bx j z hj
  · obtain ⟨p, hp, p1, p2, p3⟩ := key i a h1
    obtain ⟨q, hq, q1, q2, q3⟩ := key j b h2
    have := s.nd p q a b hp hq e
    rcases Nat.lt_or_ge i 2 with hi | hi <;> rcases Nat.lt_or_ge j 2 with hj | hj <;> omega
  · obtain ⟨j, hj, _⟩ := key i z h
    exact hk j z hj
theorem Ps.swap {w W : World} {L : List (Nat × Array Value × Nat)} {vq vg : Value} {r G : List Int} {x y : Nat × Array Value × Nat} (s : Ps w (x :: y :: L) vq r vg G W) : Ps w (y :: x :: L) vq r vg G W :=
  ⟨s.st.swap, fun i z h => by
    match i, h with
    | 0, h => exact s.ty 1 z h
    | 1, h => exact s.ty 0 z h
    | i + 2, h => exact s.ty (i + 2) z h, s.rq, s.rg⟩
theorem six {r1 s1 : List Int} {a1 a2 b1 b2 : Int} {g1 g2 : List Int} {p1 p2 : Int} {t1 t2 : Bool} (h : some (r1, a1, a2, g1, p1, t1) = some (s1, b1, b2, g2, p2, t2)) : r1 = s1 ∧ a1 = b1 ∧ a2 = b2 ∧ g1 = g2 ∧ p1 = p2 ∧ t1 = t2 := by
  injection h with h; simpa [Prod.mk.injEq] using h

/-! ### trefoillaw12_play: function 25 -/
-- by hand
def trefoillaw12_play.f (k : Nat) (a0 : Int) (l1 : List S51) : Option (List Int × Int × Int × List Int × Int × Bool) :=
  if l1.length ≤ 800 then (deque_New.f a0).bind fun x => if x.2.2.2 = 0 then play_l0 (l1.map fun a => a.f0) k 0 0 x.1 x.2.1 x.2.2.1 takers0 [] else none else none
theorem play_mono_l (ks : List Int) : ∀ k, ∀ y0 y1 y2 y3 y4 y5 y6, LeO (play_l0 ks k y0 y1 y2 y3 y4 y5 y6) (play_l0 ks (k + 1) y0 y1 y2 y3 y4 y5 y6)
  | 0 => fun _ _ _ _ _ _ _ r h => by simp [play_l0] at h
  | k + 1 => by
    have ih0 := play_mono_l ks k
    intro y0 y1 y2 y3 y4 y5 y6
    unfold play_l0
    repeat' first
      | (with_reducible exact ih0 _ _ _ _ _ _ _)
      | (with_reducible exact LeO.refl _)
      | (with_reducible exact LeO.none _)
      | (with_reducible refine LeO.ite ?_ ?_)
      | (with_reducible refine LeO.bind ?_ (fun _ => ?_))
theorem trefoillaw12_play.mono : ∀ a0 a1 k, LeO (trefoillaw12_play.f k a0 a1) (trefoillaw12_play.f (k + 1) a0 a1) := by
  intro a0 a1 k
  have ih0 := play_mono_l (a1.map fun a => a.f0) k
  unfold trefoillaw12_play.f
  repeat' first
      | (with_reducible exact ih0 _ _ _ _ _ _ _)
      | (with_reducible exact LeO.refl _)
      | (with_reducible exact LeO.none _)
      | (with_reducible refine LeO.ite ?_ ?_)
      | (with_reducible refine LeO.bind ?_ (fun _ => ?_))
set_option maxHeartbeats 16000000 in
set_option maxRecDepth 100000 in
theorem trefoillaw12_play.calls (k : Nat) (a0 : Int) (A1 : Option Addr) (c1 : Nat) (l1 : List (S51)) (r1 : List Int) (r2 : Int) (r3 : Int) (r4 : List Int) (r5 : Int) (r6 : Bool) (w : World) (hr1 : Kd.C k51 w A1 l1.length l1) (hc1 : l1.length ≤ c1) (h : trefoillaw12_play.f k a0 l1 = some (r1, r2, r3, r4, r5, r6)) (hTab : TabOK w := by first | exact hTab | exact TabOK.below hTab HB.out | exact TabOK.drewN hTab _ | exact TabOK.below hTab (by repeat (first | (with_reducible first | exact HB.out | apply below_alloc | apply pw_below_drewN | apply below_drew1 | refine below_set ?_ (Aside0.out (by assumption))) | exact HB.out)) | (repeat (first | exact hTab | apply TabOK.drewN | apply TabOK.drew | apply TabOK.alloc); done)) :
    Calls Tryd.prog 25 #[.int .i64 a0, .slice A1 l1.length c1] w fun e w' => ∃ v0_ v3_ : Value, e = .returned (.tuple #[.agg #[v0_, .int .i64 r2, .int .i64 r3], v3_, .int .i64 r5, .bool r6]) ∧ Kd.R (Kd.int .i64) 3 w' w.heap.size (fun k_ => some k_ ≠ (v3_ : Value).ownBlock) v0_ r1 ∧ Kd.R (Kd.int .i64) 3 w' w.heap.size (fun k_ => some k_ ≠ (v0_ : Value).ownBlock) v3_ r4 ∧ Below w.heap.size w w' := by
  unfold trefoillaw12_play.f at h
  by_cases hl8 : l1.length ≤ 800
  case neg => rw [if_neg hl8] at h; cases h
  rw [if_pos hl8] at h
  replace h := Option.bind_eq_some_iff.mp h
  obtain ⟨⟨x1, x2, x3, x4⟩, hx, h⟩ := h
  simp only at h
  by_cases hx0 : x4 = 0
  case neg => rw [if_neg hx0] at h; cases h
  rw [if_pos hx0] at h
  subst hx0
  have HX := Lib.hid hx
  have H' := Aside0.mk h
  have HR := Lib.hid hr1
  have Hc := Lib.hid hc1
  have HTab := Lib.hid hTab
  have HS := Lib.hid (Ps.start w)
  clear hx h hr1 hc1 hTab
  go_enter Tryd.func25, Tryd.ntmps25
  go_wp2_with (first | ((with_reducible refine gate_dst (N := 4) rfl ?_); refine box_event ?hg (N := 4) ?hd (cs := #[.slice none 0 0, .int .i64 0, .int .i64 0]) (t := 24) ?hr ?_; (case hd => rfl); (case hg => rfl); (case hr => first | (go_simp; done) | (go_simp; rfl)); intro kc hE_ w1 hbox hb; have HN := Lib.hid (show Ps w [(kc, #[.slice none 0 0, .int .i64 0, .int .i64 0], 24)] (.slice none 0 0) [] (.slice none 0 0) [] w1 from HS.out.box hE_ hbox hb (by decide)); clear HS hE_ hbox hb; have HS := Lib.hid HN.out; clear HN) | (go_at_call 17; refine Calls.mono (deque_New.calls a0 x1 x2 x3 0 _ HX.out (TabOK.below HTab.out HS.out.st.B)) ?_; rintro e_ w2 ⟨v_, rfl, hR_, hb⟩; obtain ⟨Aq, cq, rfl⟩ := Kd.R_slice hR_; have HN := Lib.hid (show Ps w [(kc, #[.slice none 0 0, .int .i64 0, .int .i64 0], 24)] (.slice Aq x1.length cq) x1 (.slice none 0 0) [] w2 from HS.out.ring hb hR_); clear HS hb hR_; have HS := Lib.hid HN.out; clear HN) | ((with_reducible refine gate_dst (N := 8) rfl ?_); refine box_event ?hg (N := 8) ?hd (cs := #[.slice none 0 0, .int .i64 0, .int .i64 0]) (t := 24) ?hr ?_; (case hd => rfl); (case hg => rfl); (case hr => first | (go_simp; done) | (go_simp; rfl)); intro kq hE_ w3 hbox hb; have HN := Lib.hid (show Ps w [(kq, #[.slice none 0 0, .int .i64 0, .int .i64 0], 24), (kc, #[.slice none 0 0, .int .i64 0, .int .i64 0], 24)] (.slice Aq x1.length cq) x1 (.slice none 0 0) [] w3 from HS.out.box hE_ hbox hb (by decide)); clear HS hE_ hbox hb; have HS := Lib.hid HN.out; clear HN) | ((with_reducible refine gate_store (t := 24) (p := 8) (v := .tmp 23) ?hgs ?_); (case hgs => rfl); refine wpList_store_row rfl rfl 24 8 (.tmp 23) rfl kq rfl #[(.slice Aq x1.length cq), .int .i64 (x2), .int .i64 (x3)] #[.slice none 0 0, .int .i64 0, .int .i64 0] 24 (HS.out.get 0 rfl) (by rfl) (by kernel_rfl) rfl (by rfl) (fun W_ => Ps w [(kq, #[(.slice Aq x1.length cq), .int .i64 (x2), .int .i64 (x3)], 24), (kc, #[.slice none 0 0, .int .i64 0, .int .i64 0], 24)] (.slice Aq x1.length cq) x1 (.slice none 0 0) [] W_) (HS.out.row 0 rfl #[(.slice Aq x1.length cq), .int .i64 (x2), .int .i64 (x3)]) ?_; rintro w4 he_; clear HS; have HS := Lib.hid he_; clear he_) | ((with_reducible refine gate_dst (N := 25) rfl ?_); refine Kd.R_lit (Kd.int .i64) _ 3 ?hg (N := 25) ?hd (xs := ([] : List Int)) (inner := []) (ok := fun _ => True) (okp := fun _ => True) ?hr ?hp (fun _ hk => hk) trivial (Below.refl _ _) (Nat.le_refl _) (by simp) ?_; (case hd => rfl); (case hg => rfl); (case hr => first | (go_simp; done) | (go_simp; rfl)); (case hp => exact (Reps.none _ _)); intro vg w5 hR_ hb hg_ hnew_; clear hg_ hnew_; have HN := Lib.hid (show Ps w [(kq, #[(.slice Aq x1.length cq), .int .i64 (x2), .int .i64 (x3)], 24), (kc, #[.slice none 0 0, .int .i64 0, .int .i64 0], 24)] (.slice Aq x1.length cq) x1 vg [] w5 from HS.out.lit hb hR_); clear HS hb hR_; have HS := Lib.hid HN.out; clear HN) | ((with_reducible refine gate_dst (N := 12) rfl ?_); refine box_event ?hg (N := 12) ?hd (cs := (tcs [tz false, tz false, tz false, tz false])) (t := 63) ?hr ?_; (case hd => rfl); (case hg => rfl); (case hr => first | (go_simp; done) | (go_simp; rfl)); intro kt hE_ w6 hbox hb; have HN := Lib.hid (show Ps w [(kt, (tcs [tz false, tz false, tz false, tz false]), 63), (kq, #[(.slice Aq x1.length cq), .int .i64 (x2), .int .i64 (x3)], 24), (kc, #[.slice none 0 0, .int .i64 0, .int .i64 0], 24)] (.slice Aq x1.length cq) x1 vg [] w6 from HS.out.box hE_ hbox hb (by decide)); clear HS hE_ hbox hb; have HS := Lib.hid HN.out; clear HN) | ((with_reducible refine gate_store (t := 63) (p := 12) (v := .tmp 30) ?hgs ?_); (case hgs => rfl); refine wpList_store_row rfl rfl 63 12 (.tmp 30) rfl kt rfl (tcs takers0) (tcs [tz false, tz false, tz false, tz false]) 63 (HS.out.get 0 rfl) (by rfl) (by kernel_rfl) rfl (by rfl) (fun W_ => Ps w [(kt, (tcs takers0), 63), (kq, #[(.slice Aq x1.length cq), .int .i64 (x2), .int .i64 (x3)], 24), (kc, #[.slice none 0 0, .int .i64 0, .int .i64 0], 24)] (.slice Aq x1.length cq) x1 vg [] W_) (HS.out.row 0 rfl (tcs takers0)) ?_; rintro w7 he_; clear HS; have HS := Lib.hid he_; clear he_))
  go_loopg [10, 11, 13] k (fun gk v10 v11 v13 w' => ∃ (i_ : Nat) (pu_ tp_ bt_ : Int) (r_ G_ : List Int) (T_ : List Tk) (A_ : Option Addr) (c_ : Nat), v13 = .int .i64 i_ ∧ v11 = .int .i64 pu_ ∧ T_.length = 4 ∧ Aside0 (G_.length ≤ i_) ∧ Aside0 (i_ ≤ l1.length + 32) ∧ Aside0 (play_l0 (l1.map fun a => a.f0) gk i_ pu_ r_ tp_ bt_ T_ G_ = some (r1, r2, r3, r4, r5, r6)) ∧ Aside0 (gk ≤ k) ∧ Aside0 (Ps w [(kt, (tcs T_), 63), (kq, #[(.slice A_ r_.length c_), .int .i64 (tp_), .int .i64 (bt_)], 24), (kc, #[.slice none 0 0, .int .i64 0, .int .i64 0], 24)] (.slice A_ r_.length c_) r_ v10 G_ w'))
  case atStart => exact ⟨0, 0, x2, x3, x1, [], takers0, Aq, cq, rfl, rfl, rfl, ⟨Nat.zero_le _⟩, ⟨Nat.zero_le _⟩, H', ⟨Nat.le_refl _⟩, ⟨HS.out⟩⟩
  case round =>
    clear H' HS HX
    obtain ⟨i_, pu_, tp_, bt_, r_, G_, T_, A_, c_, rfl, rfl, hT4, HG, Hi, HA, HK1, HS0⟩ := hrel
    have HS := Lib.hid HS0.out
    clear HS0
    cases gk with
    | zero => exact absurd HA.out (by simp [play_l0])
    | succ k1 =>
      have H := HA.out
      clear HA
      simp only [play_l0] at H
      have hi := Hi.out
      rw [List.length_map] at H
      by_cases ci : i_ < l1.length + 32
      case neg =>
        rw [if_neg ci] at H
        obtain ⟨rfl, rfl, rfl, rfl, rfl, rfl⟩ := six H
        have cib : decide ((i_ : Int) < (l1.length : Int) + 32) = false := decide_eq_false (by omega)
        go_wp2_with (first | ((with_reducible refine gate_dst (N := 128) rfl ?_); refine wpList_load_row rfl 24 (.tmp 8) rfl kq rfl 24 #[(.slice A_ r_.length c_), .int .i64 (tp_), .int .i64 (bt_)] (0, 0) _ (HS.out.get 1 rfl) Tryd.underlying24 rfl (by kernel_rfl) ?_) | ((with_reducible refine gate_store (t := 24) (p := 4) (v := .tmp 128) ?hgs ?_); (case hgs => rfl); refine wpList_store_row rfl rfl 24 4 (.tmp 128) rfl kc rfl #[(.slice A_ r_.length c_), .int .i64 (tp_), .int .i64 (bt_)] #[.slice none 0 0, .int .i64 0, .int .i64 0] 24 (HS.out.get 2 rfl) (by rfl) (by kernel_rfl) rfl (by rfl) (fun W_ => Ps w [(kt, (tcs T_), 63), (kq, #[(.slice A_ r_.length c_), .int .i64 (tp_), .int .i64 (bt_)], 24), (kc, #[(.slice A_ r_.length c_), .int .i64 (tp_), .int .i64 (bt_)], 24)] (.slice A_ r_.length c_) r_ u10 G_ W_) (HS.out.row 2 rfl #[(.slice A_ r_.length c_), .int .i64 (tp_), .int .i64 (bt_)]) ?_; rintro w8 he_; clear HS; have HS := Lib.hid he_; clear he_))
        refine bodyPost_ret (results_list (rs := [.cell 4 24, .tmp 5, .tmp 6, .tmp 7]) rfl (by simp) (.cell kc 24 _ (0, 0) _ rfl (HS.out.get 2 rfl) Tryd.underlying24 rfl (by kernel_rfl) (.tmp (.tmp (.tmp .nil))))) rfl ?_
        exact ⟨_, _, rfl, HS.out.apart.1, HS.out.apart.2, HS.out.st.B⟩
      rw [if_pos ci] at H
      have cib : decide ((i_ : Int) < (l1.length : Int) + 32) = true := decide_eq_true (by omega)
      obtain ⟨kk, hkk⟩ : ∃ kk, pick (l1.map fun a => a.f0) i_ = kk := ⟨_, rfl⟩
      rw [hkk] at H
      have HK := Lib.hid hkk
      have hkin := pick_in (l1.map fun a => a.f0) i_
      rw [hkk] at hkin
      obtain ⟨hkk1, hkk4⟩ := hkin
      clear hkk
      go_upto_if 51 with (fail)
      go_cut [14] (fun v14 wc => v14 = .int .i64 kk ∧ Aside0 (Ps w [(kt, (tcs T_), 63), (kq, #[(.slice A_ r_.length c_), .int .i64 (tp_), .int .i64 (bt_)], 24), (kc, #[.slice none 0 0, .int .i64 0, .int .i64 0], 24)] (.slice A_ r_.length c_) r_ u10 G_ wc))
      case first =>
        by_cases cl : i_ < l1.length
        · have clb : decide ((i_ : Int) < (l1.length : Int)) = true := decide_eq_true (by omega)
          obtain ⟨ad, hA, e0⟩ := at_T51 (Kd.C_below HR.out HS.out.st.B) (i_ : Int) (by omega) (by omega)
          cases hA
          rw [Int.toNat_natCast] at e0
          go_wp2
          all_goals
            go_meet
            refine ⟨?_, ⟨HS.out⟩⟩
            congr 1
            have hm := pick_lt cl HK.out
            unfold mn mx at hm
            (repeat' split at hm) <;> omega
        · have clb : decide ((i_ : Int) < (l1.length : Int)) = false := decide_eq_false (by omega)
          have hge : (l1.length : Int) ≤ (i_ : Int) := by omega
          go_wp2
          go_meet
          refine ⟨?_, ⟨HS.out⟩⟩
          congr 1
          have hm := pick_ge cl HK.out
          rw [Int.tmod_eq_emod_of_nonneg (by omega)]
          exact hm
      case rest =>
      clear HS
      obtain ⟨rfl, HS0⟩ := hcut
      have HS := Lib.hid HS0.out
      clear HS0
      by_cases ck : kk < 0
      case pos =>
        rw [if_pos ck] at H
        have cl : i_ < l1.length := Classical.byContradiction fun q => by have := pick_ge q HK.out; omega
        have ckb : decide (kk < 0) = true := decide_eq_true ck
        have t0 : wc.cell? ⟨kt, 1, none⟩ = some (.int .i64 (tat T_ 0).k) := by have := tk_cell (HS.out.get 0 rfl) 0 1 (by omega) (by decide) (v := .int .i64 (tat T_ 0).k) rfl; simpa using this
        by_cases c0 : (tat T_ 0).k = 0
        · rw [if_pos c0] at H
          have c0b : ((tat T_ 0).k == 0) = true := by simp [c0]
          clear c0
          replace H := Option.bind_eq_some_iff.mp H
          obtain ⟨⟨y1, y2, y3, y4⟩, hy, H⟩ := H
          simp only at H
          have HY := Lib.hid hy
          clear hy
          by_cases c4 : y4 = 0
          · rw [if_pos c4] at H
            have c4b : (y4 == 0) = true := by simp [c4]
            clear c4
            go_wp2_with (first | ((with_reducible refine gate_dst (N := 67) rfl ?_); refine wpList_load_row rfl 24 (.tmp 8) rfl kq rfl 24 #[(.slice A_ r_.length c_), .int .i64 (tp_), .int .i64 (bt_)] (0, 0) _ (HS.out.get 1 rfl) Tryd.underlying24 rfl (by kernel_rfl) ?_) | (go_at_call 15; refine Calls.mono (deque_Push.calls 1 A_ c_ r_ tp_ bt_ (wrap64 (pu_ + 1)) y1 y2 y3 y4 _ (Kd.R_reads' HS.out.rq).2.2 (Kd.R_reads' HS.out.rq).2.1 HY.out (TabOK.below HTab.out HS.out.st.B)) ?_; rintro e_ w8 ⟨v_, rfl, hR_, hb⟩; obtain ⟨Ay, cy, rfl⟩ := Kd.R_slice hR_; have HN := Lib.hid (show Ps w [(kt, (tcs T_), 63), (kq, #[(.slice A_ r_.length c_), .int .i64 (tp_), .int .i64 (bt_)], 24), (kc, #[.slice none 0 0, .int .i64 0, .int .i64 0], 24)] (.slice Ay y1.length cy) y1 u10 G_ w8 from HS.out.ring hb hR_); clear HS hb hR_; have HS := Lib.hid HN.out; clear HN; clear t0) | ((with_reducible refine gate_dst (N := 15) rfl ?_); refine box_event ?hg (N := 15) ?hd (cs := #[.slice none 0 0, .int .i64 0, .int .i64 0]) (t := 24) ?hr ?_; (case hd => rfl); (case hg => rfl); (case hr => first | (go_simp; done) | (go_simp; rfl)); intro kx hE_ w9 hbox hb; have HN := Lib.hid (show Ps w [(kx, #[.slice none 0 0, .int .i64 0, .int .i64 0], 24), (kt, (tcs T_), 63), (kq, #[(.slice A_ r_.length c_), .int .i64 (tp_), .int .i64 (bt_)], 24), (kc, #[.slice none 0 0, .int .i64 0, .int .i64 0], 24)] (.slice Ay y1.length cy) y1 u10 G_ w9 from HS.out.box hE_ hbox hb (by decide)); clear HS hE_ hbox hb; have HS := Lib.hid HN.out; clear HN) | ((with_reducible refine gate_store (t := 24) (p := 15) (v := .tmp 71) ?hgs ?_); (case hgs => rfl); refine wpList_store_row rfl rfl 24 15 (.tmp 71) rfl kx rfl #[(.slice Ay y1.length cy), .int .i64 (y2), .int .i64 (y3)] #[.slice none 0 0, .int .i64 0, .int .i64 0] 24 (HS.out.get 0 rfl) (by rfl) (by kernel_rfl) rfl (by rfl) (fun W_ => Ps w [(kx, #[(.slice Ay y1.length cy), .int .i64 (y2), .int .i64 (y3)], 24), (kt, (tcs T_), 63), (kq, #[(.slice A_ r_.length c_), .int .i64 (tp_), .int .i64 (bt_)], 24), (kc, #[.slice none 0 0, .int .i64 0, .int .i64 0], 24)] (.slice Ay y1.length cy) y1 u10 G_ W_) (HS.out.row 0 rfl #[(.slice Ay y1.length cy), .int .i64 (y2), .int .i64 (y3)]) ?_; rintro w10 he_; clear HS; have HS := Lib.hid he_; clear he_) | ((with_reducible refine gate_dst (N := 75) rfl ?_); refine wpList_load_row rfl 24 (.tmp 15) rfl kx rfl 24 #[(.slice Ay y1.length cy), .int .i64 (y2), .int .i64 (y3)] (0, 0) _ (HS.out.get 0 rfl) Tryd.underlying24 rfl (by kernel_rfl) ?_) | ((with_reducible refine gate_store (t := 24) (p := 8) (v := .tmp 75) ?hgs ?_); (case hgs => rfl); refine wpList_store_row rfl rfl 24 8 (.tmp 75) rfl kq rfl #[(.slice Ay y1.length cy), .int .i64 (y2), .int .i64 (y3)] #[(.slice A_ r_.length c_), .int .i64 (tp_), .int .i64 (bt_)] 24 (HS.out.get 2 rfl) (by rfl) (by kernel_rfl) rfl (by rfl) (fun W_ => Ps w [(kx, #[(.slice Ay y1.length cy), .int .i64 (y2), .int .i64 (y3)], 24), (kt, (tcs T_), 63), (kq, #[(.slice Ay y1.length cy), .int .i64 (y2), .int .i64 (y3)], 24), (kc, #[.slice none 0 0, .int .i64 0, .int .i64 0], 24)] (.slice Ay y1.length cy) y1 u10 G_ W_) (HS.out.row 2 rfl #[(.slice Ay y1.length cy), .int .i64 (y2), .int .i64 (y3)]) ?_; rintro w11 he_; clear HS; have HS := Lib.hid he_; clear he_))
            have HN := Lib.hid HS.out.drop
            clear HS
            have HS := Lib.hid HN.out
            clear HN
            go_roundg k1
            case measure => have := HK1.out; omega
            case rel => exact ⟨i_ + 1, _, _, _, _, _, T_, _, _, by go_num, rfl, hT4, ⟨by have := HG.out; omega⟩, ⟨by omega⟩, ⟨H⟩, ⟨by have := HK1.out; omega⟩, ⟨HS.out⟩⟩
          · rw [if_neg c4] at H
            by_cases c5 : y4 = 121
            case neg => rw [if_neg c5] at H; cases H
            rw [if_pos c5] at H
            have c4b : (y4 == 0) = false := by simp [c4]
            have c5b : (y4 != 121) = false := by simp [c5]
            clear c4 c5
            go_wp2_with (first | ((with_reducible refine gate_dst (N := 67) rfl ?_); refine wpList_load_row rfl 24 (.tmp 8) rfl kq rfl 24 #[(.slice A_ r_.length c_), .int .i64 (tp_), .int .i64 (bt_)] (0, 0) _ (HS.out.get 1 rfl) Tryd.underlying24 rfl (by kernel_rfl) ?_) | (go_at_call 15; refine Calls.mono (deque_Push.calls 1 A_ c_ r_ tp_ bt_ (wrap64 (pu_ + 1)) y1 y2 y3 y4 _ (Kd.R_reads' HS.out.rq).2.2 (Kd.R_reads' HS.out.rq).2.1 HY.out (TabOK.below HTab.out HS.out.st.B)) ?_; rintro e_ w8 ⟨v_, rfl, hR_, hb⟩; obtain ⟨Ay, cy, rfl⟩ := Kd.R_slice hR_; have HN := Lib.hid (show Ps w [(kt, (tcs T_), 63), (kq, #[(.slice A_ r_.length c_), .int .i64 (tp_), .int .i64 (bt_)], 24), (kc, #[.slice none 0 0, .int .i64 0, .int .i64 0], 24)] (.slice A_ r_.length c_) r_ u10 G_ w8 from HS.out.below hb); clear HS hb hR_; have HS := Lib.hid HN.out; clear HN; clear t0) | ((with_reducible refine gate_dst (N := 15) rfl ?_); refine box_event ?hg (N := 15) ?hd (cs := #[.slice none 0 0, .int .i64 0, .int .i64 0]) (t := 24) ?hr ?_; (case hd => rfl); (case hg => rfl); (case hr => first | (go_simp; done) | (go_simp; rfl)); intro kx hE_ w9 hbox hb; have HN := Lib.hid (show Ps w [(kx, #[.slice none 0 0, .int .i64 0, .int .i64 0], 24), (kt, (tcs T_), 63), (kq, #[(.slice A_ r_.length c_), .int .i64 (tp_), .int .i64 (bt_)], 24), (kc, #[.slice none 0 0, .int .i64 0, .int .i64 0], 24)] (.slice A_ r_.length c_) r_ u10 G_ w9 from HS.out.box hE_ hbox hb (by decide)); clear HS hE_ hbox hb; have HS := Lib.hid HN.out; clear HN) | ((with_reducible refine gate_store (t := 24) (p := 15) (v := .tmp 71) ?hgs ?_); (case hgs => rfl); refine wpList_store_row rfl rfl 24 15 (.tmp 71) rfl kx rfl #[(.slice Ay y1.length cy), .int .i64 (y2), .int .i64 (y3)] #[.slice none 0 0, .int .i64 0, .int .i64 0] 24 (HS.out.get 0 rfl) (by rfl) (by kernel_rfl) rfl (by rfl) (fun W_ => Ps w [(kx, #[(.slice Ay y1.length cy), .int .i64 (y2), .int .i64 (y3)], 24), (kt, (tcs T_), 63), (kq, #[(.slice A_ r_.length c_), .int .i64 (tp_), .int .i64 (bt_)], 24), (kc, #[.slice none 0 0, .int .i64 0, .int .i64 0], 24)] (.slice A_ r_.length c_) r_ u10 G_ W_) (HS.out.row 0 rfl #[(.slice Ay y1.length cy), .int .i64 (y2), .int .i64 (y3)]) ?_; rintro w10 he_; clear HS; have HS := Lib.hid he_; clear he_))
            have HN := Lib.hid HS.out.drop
            clear HS
            have HS := Lib.hid HN.out
            clear HN
            go_roundg k1
            case measure => have := HK1.out; omega
            case rel => exact ⟨i_ + 1, _, _, _, _, _, T_, _, _, by go_num, rfl, hT4, ⟨by have := HG.out; omega⟩, ⟨by omega⟩, ⟨H⟩, ⟨by have := HK1.out; omega⟩, ⟨HS.out⟩⟩
        · rw [if_neg c0] at H
          have c0b : ((tat T_ 0).k == 0) = false := by simp [c0]
          clear c0
          go_wp2
          go_roundg k1
          case measure => have := HK1.out; omega
          case rel => exact ⟨i_ + 1, _, _, _, _, _, T_, _, _, by go_num, rfl, hT4, ⟨by have := HG.out; omega⟩, ⟨by omega⟩, ⟨H⟩, ⟨by have := HK1.out; omega⟩, ⟨HS.out⟩⟩
      case neg =>
        rw [if_neg ck] at H
        obtain ⟨jj, rfl⟩ : ∃ jj : Nat, kk = jj := ⟨kk.toNat, by omega⟩
        rw [Int.toNat_natCast] at H
        have ckb : decide ((jj : Int) < 0) = false := decide_eq_false ck
        have hj4 : jj < 4 := by omega
        have hjT : jj < T_.length := by omega
        have Hj := Lib.hid hjT
        clear ck hkk1 hjT
        have t1 : wc.cell? ⟨kt, jj * 6 + 1, none⟩ = some (.int .i64 (tat T_ jj).k) := tk_cell (HS.out.get 0 rfl) jj 1 Hj.out (by decide) rfl
        by_cases cl : i_ < l1.length
        case' pos =>
          have clg : decide ((i_ : Int) ≥ (l1.length : Int)) = false := decide_eq_false (by omega)
          rw [if_neg (by omega)] at H
          replace H := Option.bind_eq_some_iff.mp H
          obtain ⟨⟨y1, y2, y3, y4, y5, y6, y7, y8, y9, y10⟩, hy, H⟩ := H
          simp only at H
          by_cases c10 : y10 = 0
          case neg => rw [if_neg c10] at H; cases H
          rw [if_pos c10] at H
          subst c10
          have HY := Lib.hid hy
          have HH := Lib.hid H
          clear hy H
          go_wp2
          clear clg
        case' neg =>
          have clg : decide ((i_ : Int) ≥ (l1.length : Int)) = true := decide_eq_true (by omega)
          have hge : (l1.length : Int) ≤ (i_ : Int) := by omega
          by_cases c0 : (tat T_ jj).k = 0
          case pos =>
            rw [if_pos ⟨by omega, c0⟩] at H
            have c0b : ((tat T_ jj).k == 0) = true := by simp [c0]
            clear c0
            go_wp2
            go_roundg k1
            case measure => have := HK1.out; omega
            case rel => exact ⟨i_ + 1, _, _, _, _, _, T_, _, _, by go_num, rfl, hT4, ⟨by have := HG.out; omega⟩, ⟨by omega⟩, ⟨H⟩, ⟨by have := HK1.out; omega⟩, ⟨HS.out⟩⟩
          rw [if_neg (fun q => c0 q.2)] at H
          have c0b : ((tat T_ jj).k == 0) = false := by simp [c0]
          clear c0
          replace H := Option.bind_eq_some_iff.mp H
          obtain ⟨⟨y1, y2, y3, y4, y5, y6, y7, y8, y9, y10⟩, hy, H⟩ := H
          simp only at H
          by_cases c10 : y10 = 0
          case neg => rw [if_neg c10] at H; cases H
          rw [if_pos c10] at H
          subst c10
          have HY := Lib.hid hy
          have HH := Lib.hid H
          clear hy H
          go_wp2
          clear hge clg c0b
        all_goals clear t1 cl
        all_goals
          go_cut [17, 18, 19] (fun v17 v18 v19 wc => ∃ (kx ky : Nat) (Ay : Option Addr) (cy : Nat), v17 = .pointer (some ⟨kx, 0, none⟩) ∧ v18 = .pointer (some ⟨ky, 0, none⟩) ∧ v19 = .int .i64 0 ∧ Aside0 (Ps w [(ky, #[.bool y4, .int .i64 y5, .int .i64 y6, .int .i64 y7, .int .i64 y8, .int .i64 y9], 27), (kx, #[(.slice Ay y1.length cy), .int .i64 (y2), .int .i64 (y3)], 24), (kt, (tcs T_), 63), (kq, #[(.slice A_ r_.length c_), .int .i64 (tp_), .int .i64 (bt_)], 24), (kc, #[.slice none 0 0, .int .i64 0, .int .i64 0], 24)] (.slice Ay y1.length cy) y1 u10 G_ wc))
          case first =>
            have HN := Lib.hid (HS.out.below (below_drew1 (Below.refl _ _)))
            clear HS
            have HS := Lib.hid HN.out
            clear HN
            refine start_ (n := 14) (S := fun W_ => W_.heap[kq]? = some (.cells #[(.slice A_ r_.length c_), .int .i64 (tp_), .int .i64 (bt_)] 24 (0, 0)) ∧ W_.heap[kt]? = some (.cells (tcs T_) 63 (0, 0))) (ds := []) #[false, false, false, false, false, false, false, false, false, false, false, false, false, false] (by kernel_rfl) rfl rfl ⟨HS.out.get 1 rfl, HS.out.get 0 rfl⟩ (fun hHeld => ?_)
            refine take_ (i := 0) (N := some 95) (v := .agg #[(.slice A_ r_.length c_), .int .i64 (tp_), .int .i64 (bt_)]) (a' := ?_) #[true, false, false, false, false, false, false, false, false, false, false, false, false, false] rfl rfl (by kernel_rfl) (fun _ _ _ h => h) (Or.inl ⟨by rfl, fun w' hs => run_load_row_ rfl kq rfl 24 _ _ hs.1 Tryd.underlying24 rfl (by kernel_rfl)⟩) hHeld ?_ ?_
            rotate_left
            · simp only [Act.put, List.setIfInBounds_toArray, List.set_cons_zero, List.set_cons_succ, i64_w, i32_w]
              rfl
            refine pure_ (i := 1) (N := some 96) (v := .int .i64 jj) (a' := ?_) #[true, true, false, false, false, false, false, false, false, false, false, false, false, false] rfl rfl (by kernel_rfl) (fun _ _ _ h => h) (Or.inl ⟨by rfl, fun w' => by go_simp⟩) ?_ ?_
            rotate_left
            · simp only [Act.put, List.setIfInBounds_toArray, List.set_cons_zero, List.set_cons_succ, i64_w, i32_w]
              rfl
            refine pure_ (i := 2) (N := some 97) (v := .pointer (some ⟨kt, jj * 6, none⟩)) (a' := ?_) #[true, true, true, false, false, false, false, false, false, false, false, false, false, false] rfl rfl (by kernel_rfl) (fun _ _ _ h => h) (Or.inl ⟨by rfl, fun w' => by go_simp⟩) ?_ ?_
            rotate_left
            · simp only [Act.put, List.setIfInBounds_toArray, List.set_cons_zero, List.set_cons_succ, i64_w, i32_w]
              rfl
            refine take_ (i := 3) (N := some 98) (v := .agg #[.bool (tat T_ jj).s, .int .i64 (tat T_ jj).k, .int .i64 (tat T_ jj).t, .int .i64 (tat T_ jj).b, .int .i64 (tat T_ jj).n, .int .i64 (tat T_ jj).e]) (a' := ?_) #[true, true, true, true, false, false, false, false, false, false, false, false, false, false] rfl rfl (by kernel_rfl) (fun _ _ _ h => h) (Or.inl ⟨by rfl, fun w' hs => run_load_mid_ rfl kt (jj * 6) rfl (tkc (tat T_ jj)) _ (tcs_range hs.2 jj Hj.out) Tryd.underlying27 rfl (by kernel_rfl)⟩) hHeld ?_ ?_
            rotate_left
            · simp only [Act.put, List.setIfInBounds_toArray, List.set_cons_zero, List.set_cons_succ, i64_w, i32_w]
              rfl
            all_goals (first
              | (refine three_ (l := #[true, true, true, true, false, false, false, false, false, false, false, false, false, false]) (i := 4) (j := 9) (k := 10) (Ni := some 99) (Nj := some 17) (Nk := some 18) #[true, true, true, true, true, false, false, false, false, false, false, false, false, false] #[true, true, true, true, false, false, false, false, false, true, false, false, false, false] #[true, true, true, true, false, false, false, false, false, false, true, false, false, false] rfl rfl rfl rfl rfl rfl (by kernel_rfl) (by decide) (by decide) (by decide) (fun K hK => ?_) (fun K hK => ?_) (fun K hK => ?_)
                 refine goes_ Tryd.func9 (by kernel_rfl) rfl #[.agg #[(.slice A_ r_.length c_), .int .i64 (tp_), .int .i64 (bt_)], .agg #[.bool (tat T_ jj).s, .int .i64 (tat T_ jj).k, .int .i64 (tat T_ jj).t, .int .i64 (tat T_ jj).b, .int .i64 (tat T_ jj).n, .int .i64 (tat T_ jj).e]] (by rfl) rfl rfl (by (try simp only [List.map_toArray, List.map_cons, List.map_nil]); first | done | rfl) ?_
                 refine Calls.mono (deque_Step.calls A_ c_ r_ tp_ bt_ (tat T_ jj).s (tat T_ jj).k (tat T_ jj).t (tat T_ jj).b (tat T_ jj).n (tat T_ jj).e y1 y2 y3 y4 y5 y6 y7 y8 y9 0 _ (Kd.R_reads' HS.out.rq).2.2 (Kd.R_reads' HS.out.rq).2.1 HY.out (TabOK.below HTab.out HS.out.st.B)) ?_
                 rintro e_ W_ ⟨v_, rfl, hR_, hb⟩
                 refine ⟨_, rfl, ?_⟩
                 obtain ⟨Ay, cy, rfl⟩ := Kd.R_slice hR_
                 have HN := Lib.hid (HS.out.ring hb hR_)
                 clear HS hb hR_
                 have HS := Lib.hid HN.out
                 clear HN
                 refine hK.out _ _ ⟨HS.out.get 1 rfl, HS.out.get 0 rfl⟩ (fun hHeld => ?_)
                 clear hK K
                 refine norm_ (a' := ?_) ?_ ?_
                 rotate_left
                 · show Act.put _ (some 99) _ = _
                   simp only [Act.put, List.setIfInBounds_toArray, List.set_cons_zero, List.set_cons_succ, i64_w, i32_w]
                   rfl
                 refine pure_ (i := 5) (N := some 94) (v := .tuple #[.agg #[(.slice Ay y1.length cy), .int .i64 (y2), .int .i64 (y3)], .agg #[.bool y4, .int .i64 y5, .int .i64 y6, .int .i64 y7, .int .i64 y8, .int .i64 y9], .int .i64 0]) (a' := ?_) #[true, true, true, true, true, true, false, false, false, false, false, false, false, false] rfl rfl (by kernel_rfl) (fun _ _ _ h => h) (Or.inl ⟨by rfl, fun w' => by go_simp⟩) ?_ ?_
                 rotate_left
                 · simp only [Act.put, List.setIfInBounds_toArray, List.set_cons_zero, List.set_cons_succ, i64_w, i32_w]
                   rfl
                 refine pure_ (i := 6) (N := some 100) (v := .agg #[(.slice Ay y1.length cy), .int .i64 (y2), .int .i64 (y3)]) (a' := ?_) #[true, true, true, true, true, true, true, false, false, false, false, false, false, false] rfl rfl (by kernel_rfl) (fun _ _ _ h => h) (Or.inl ⟨by rfl, fun w' => by go_simp⟩) ?_ ?_
                 rotate_left
                 · simp only [Act.put, List.setIfInBounds_toArray, List.set_cons_zero, List.set_cons_succ, i64_w, i32_w]
                   rfl
                 refine pure_ (i := 7) (N := some 101) (v := .agg #[.bool y4, .int .i64 y5, .int .i64 y6, .int .i64 y7, .int .i64 y8, .int .i64 y9]) (a' := ?_) #[true, true, true, true, true, true, true, true, false, false, false, false, false, false] rfl rfl (by kernel_rfl) (fun _ _ _ h => h) (Or.inl ⟨by rfl, fun w' => by go_simp⟩) ?_ ?_
                 rotate_left
                 · simp only [Act.put, List.setIfInBounds_toArray, List.set_cons_zero, List.set_cons_succ, i64_w, i32_w]
                   rfl
                 refine pure_ (i := 8) (N := some 102) (v := .int .i64 0) (a' := ?_) #[true, true, true, true, true, true, true, true, true, false, false, false, false, false] rfl rfl (by kernel_rfl) (fun _ _ _ h => h) (Or.inl ⟨by rfl, fun w' => by go_simp⟩) ?_ ?_
                 rotate_left
                 · simp only [Act.put, List.setIfInBounds_toArray, List.set_cons_zero, List.set_cons_succ, i64_w, i32_w]
                   rfl
                 rotate_left
                 refine box_step (cs := #[.slice none 0 0, .int .i64 0, .int .i64 0]) (t := 24) (by rfl) rfl (by first | (go_simp; done) | (go_simp; rfl)) ?_
                 intro kx hE_ W_ hbox hb
                 have HN := Lib.hid (HS.out.box hE_ hbox hb (by decide))
                 clear HS hE_ hbox hb
                 have HS := Lib.hid HN.out
                 clear HN
                 refine hK.out _ _ ⟨HS.out.get 2 rfl, HS.out.get 1 rfl⟩ (fun hHeld => ?_)
                 clear hK K
                 refine norm_ (a' := ?_) ?_ ?_
                 rotate_left
                 · show Act.put _ (some 17) _ = _
                   simp only [Act.put, List.setIfInBounds_toArray, List.set_cons_zero, List.set_cons_succ, i64_w, i32_w]
                   rfl
                 rotate_left
                 refine box_step (cs := #[.bool false, .int .i64 0, .int .i64 0, .int .i64 0, .int .i64 0, .int .i64 0]) (t := 27) (by rfl) rfl (by first | (go_simp; done) | (go_simp; rfl)) ?_
                 intro ky hE_ W_ hbox hb
                 have HN := Lib.hid (HS.out.box hE_ hbox hb (by decide))
                 clear HS hE_ hbox hb
                 have HS := Lib.hid HN.out
                 clear HN
                 refine hK.out _ _ ⟨HS.out.get 2 rfl, HS.out.get 1 rfl⟩ (fun hHeld => ?_)
                 clear hK K
                 refine norm_ (a' := ?_) ?_ ?_
                 rotate_left
                 · show Act.put _ (some 18) _ = _
                   simp only [Act.put, List.setIfInBounds_toArray, List.set_cons_zero, List.set_cons_succ, i64_w, i32_w]
                   rfl
                 rotate_left)
              )
            all_goals (first
              | (refine two_ (l := #[true, true, true, true, true, true, true, true, true, false, false, false, false, false]) (i := 9) (j := 10) (Ni := some 17) (Nj := some 18) #[true, true, true, true, true, true, true, true, true, true, false, false, false, false] #[true, true, true, true, true, true, true, true, true, false, true, false, false, false] rfl rfl rfl rfl (by kernel_rfl) (by decide) (by decide) (fun K hK => ?_) (fun K hK => ?_)
                 refine box_step (cs := #[.slice none 0 0, .int .i64 0, .int .i64 0]) (t := 24) (by rfl) rfl (by first | (go_simp; done) | (go_simp; rfl)) ?_
                 intro kx hE_ W_ hbox hb
                 have HN := Lib.hid (HS.out.box hE_ hbox hb (by decide))
                 clear HS hE_ hbox hb
                 have HS := Lib.hid HN.out
                 clear HN
                 refine hK.out _ _ ⟨HS.out.get 2 rfl, HS.out.get 1 rfl⟩ (fun hHeld => ?_)
                 clear hK K
                 refine norm_ (a' := ?_) ?_ ?_
                 rotate_left
                 · show Act.put _ (some 17) _ = _
                   simp only [Act.put, List.setIfInBounds_toArray, List.set_cons_zero, List.set_cons_succ, i64_w, i32_w]
                   rfl
                 rotate_left
                 refine box_step (cs := #[.bool false, .int .i64 0, .int .i64 0, .int .i64 0, .int .i64 0, .int .i64 0]) (t := 27) (by rfl) rfl (by first | (go_simp; done) | (go_simp; rfl)) ?_
                 intro ky hE_ W_ hbox hb
                 have HN := Lib.hid (HS.out.box hE_ hbox hb (by decide))
                 clear HS hE_ hbox hb
                 have HS := Lib.hid HN.out
                 clear HN
                 refine hK.out _ _ ⟨HS.out.get 2 rfl, HS.out.get 1 rfl⟩ (fun hHeld => ?_)
                 clear hK K
                 refine norm_ (a' := ?_) ?_ ?_
                 rotate_left
                 · show Act.put _ (some 18) _ = _
                   simp only [Act.put, List.setIfInBounds_toArray, List.set_cons_zero, List.set_cons_succ, i64_w, i32_w]
                   rfl
                 rotate_left)
              | (refine two_ (l := #[true, true, true, true, false, false, false, false, false, true, false, false, false, false]) (i := 4) (j := 10) (Ni := some 99) (Nj := some 18) #[true, true, true, true, true, false, false, false, false, true, false, false, false, false] #[true, true, true, true, false, false, false, false, false, true, true, false, false, false] rfl rfl rfl rfl (by kernel_rfl) (by decide) (by decide) (fun K hK => ?_) (fun K hK => ?_)
                 refine goes_ Tryd.func9 (by kernel_rfl) rfl #[.agg #[(.slice A_ r_.length c_), .int .i64 (tp_), .int .i64 (bt_)], .agg #[.bool (tat T_ jj).s, .int .i64 (tat T_ jj).k, .int .i64 (tat T_ jj).t, .int .i64 (tat T_ jj).b, .int .i64 (tat T_ jj).n, .int .i64 (tat T_ jj).e]] (by rfl) rfl rfl (by (try simp only [List.map_toArray, List.map_cons, List.map_nil]); first | done | rfl) ?_
                 refine Calls.mono (deque_Step.calls A_ c_ r_ tp_ bt_ (tat T_ jj).s (tat T_ jj).k (tat T_ jj).t (tat T_ jj).b (tat T_ jj).n (tat T_ jj).e y1 y2 y3 y4 y5 y6 y7 y8 y9 0 _ (Kd.R_reads' HS.out.rq).2.2 (Kd.R_reads' HS.out.rq).2.1 HY.out (TabOK.below HTab.out HS.out.st.B)) ?_
                 rintro e_ W_ ⟨v_, rfl, hR_, hb⟩
                 refine ⟨_, rfl, ?_⟩
                 obtain ⟨Ay, cy, rfl⟩ := Kd.R_slice hR_
                 have HN := Lib.hid (HS.out.ring hb hR_)
                 clear HS hb hR_
                 have HS := Lib.hid HN.out
                 clear HN
                 refine hK.out _ _ ⟨HS.out.get 2 rfl, HS.out.get 1 rfl⟩ (fun hHeld => ?_)
                 clear hK K
                 refine norm_ (a' := ?_) ?_ ?_
                 rotate_left
                 · show Act.put _ (some 99) _ = _
                   simp only [Act.put, List.setIfInBounds_toArray, List.set_cons_zero, List.set_cons_succ, i64_w, i32_w]
                   rfl
                 refine pure_ (i := 5) (N := some 94) (v := .tuple #[.agg #[(.slice Ay y1.length cy), .int .i64 (y2), .int .i64 (y3)], .agg #[.bool y4, .int .i64 y5, .int .i64 y6, .int .i64 y7, .int .i64 y8, .int .i64 y9], .int .i64 0]) (a' := ?_) #[true, true, true, true, true, true, false, false, false, true, false, false, false, false] rfl rfl (by kernel_rfl) (fun _ _ _ h => h) (Or.inl ⟨by rfl, fun w' => by go_simp⟩) ?_ ?_
                 rotate_left
                 · simp only [Act.put, List.setIfInBounds_toArray, List.set_cons_zero, List.set_cons_succ, i64_w, i32_w]
                   rfl
                 refine pure_ (i := 6) (N := some 100) (v := .agg #[(.slice Ay y1.length cy), .int .i64 (y2), .int .i64 (y3)]) (a' := ?_) #[true, true, true, true, true, true, true, false, false, true, false, false, false, false] rfl rfl (by kernel_rfl) (fun _ _ _ h => h) (Or.inl ⟨by rfl, fun w' => by go_simp⟩) ?_ ?_
                 rotate_left
                 · simp only [Act.put, List.setIfInBounds_toArray, List.set_cons_zero, List.set_cons_succ, i64_w, i32_w]
                   rfl
                 refine pure_ (i := 7) (N := some 101) (v := .agg #[.bool y4, .int .i64 y5, .int .i64 y6, .int .i64 y7, .int .i64 y8, .int .i64 y9]) (a' := ?_) #[true, true, true, true, true, true, true, true, false, true, false, false, false, false] rfl rfl (by kernel_rfl) (fun _ _ _ h => h) (Or.inl ⟨by rfl, fun w' => by go_simp⟩) ?_ ?_
                 rotate_left
                 · simp only [Act.put, List.setIfInBounds_toArray, List.set_cons_zero, List.set_cons_succ, i64_w, i32_w]
                   rfl
                 refine pure_ (i := 8) (N := some 102) (v := .int .i64 0) (a' := ?_) #[true, true, true, true, true, true, true, true, true, true, false, false, false, false] rfl rfl (by kernel_rfl) (fun _ _ _ h => h) (Or.inl ⟨by rfl, fun w' => by go_simp⟩) ?_ ?_
                 rotate_left
                 · simp only [Act.put, List.setIfInBounds_toArray, List.set_cons_zero, List.set_cons_succ, i64_w, i32_w]
                   rfl
                 rotate_left
                 refine box_step (cs := #[.bool false, .int .i64 0, .int .i64 0, .int .i64 0, .int .i64 0, .int .i64 0]) (t := 27) (by rfl) rfl (by first | (go_simp; done) | (go_simp; rfl)) ?_
                 intro ky hE_ W_ hbox hb
                 have HN := Lib.hid (HS.out.box hE_ hbox hb (by decide))
                 clear HS hE_ hbox hb
                 have HS := Lib.hid HN.out
                 clear HN
                 refine hK.out _ _ ⟨HS.out.get 3 rfl, HS.out.get 2 rfl⟩ (fun hHeld => ?_)
                 clear hK K
                 refine norm_ (a' := ?_) ?_ ?_
                 rotate_left
                 · show Act.put _ (some 18) _ = _
                   simp only [Act.put, List.setIfInBounds_toArray, List.set_cons_zero, List.set_cons_succ, i64_w, i32_w]
                   rfl
                 rotate_left)
              | (refine two_ (l := #[true, true, true, true, false, false, false, false, false, false, true, false, false, false]) (i := 4) (j := 9) (Ni := some 99) (Nj := some 17) #[true, true, true, true, true, false, false, false, false, false, true, false, false, false] #[true, true, true, true, false, false, false, false, false, true, true, false, false, false] rfl rfl rfl rfl (by kernel_rfl) (by decide) (by decide) (fun K hK => ?_) (fun K hK => ?_)
                 refine goes_ Tryd.func9 (by kernel_rfl) rfl #[.agg #[(.slice A_ r_.length c_), .int .i64 (tp_), .int .i64 (bt_)], .agg #[.bool (tat T_ jj).s, .int .i64 (tat T_ jj).k, .int .i64 (tat T_ jj).t, .int .i64 (tat T_ jj).b, .int .i64 (tat T_ jj).n, .int .i64 (tat T_ jj).e]] (by rfl) rfl rfl (by (try simp only [List.map_toArray, List.map_cons, List.map_nil]); first | done | rfl) ?_
                 refine Calls.mono (deque_Step.calls A_ c_ r_ tp_ bt_ (tat T_ jj).s (tat T_ jj).k (tat T_ jj).t (tat T_ jj).b (tat T_ jj).n (tat T_ jj).e y1 y2 y3 y4 y5 y6 y7 y8 y9 0 _ (Kd.R_reads' HS.out.rq).2.2 (Kd.R_reads' HS.out.rq).2.1 HY.out (TabOK.below HTab.out HS.out.st.B)) ?_
                 rintro e_ W_ ⟨v_, rfl, hR_, hb⟩
                 refine ⟨_, rfl, ?_⟩
                 obtain ⟨Ay, cy, rfl⟩ := Kd.R_slice hR_
                 have HN := Lib.hid (HS.out.ring hb hR_)
                 clear HS hb hR_
                 have HS := Lib.hid HN.out
                 clear HN
                 refine hK.out _ _ ⟨HS.out.get 2 rfl, HS.out.get 1 rfl⟩ (fun hHeld => ?_)
                 clear hK K
                 refine norm_ (a' := ?_) ?_ ?_
                 rotate_left
                 · show Act.put _ (some 99) _ = _
                   simp only [Act.put, List.setIfInBounds_toArray, List.set_cons_zero, List.set_cons_succ, i64_w, i32_w]
                   rfl
                 refine pure_ (i := 5) (N := some 94) (v := .tuple #[.agg #[(.slice Ay y1.length cy), .int .i64 (y2), .int .i64 (y3)], .agg #[.bool y4, .int .i64 y5, .int .i64 y6, .int .i64 y7, .int .i64 y8, .int .i64 y9], .int .i64 0]) (a' := ?_) #[true, true, true, true, true, true, false, false, false, false, true, false, false, false] rfl rfl (by kernel_rfl) (fun _ _ _ h => h) (Or.inl ⟨by rfl, fun w' => by go_simp⟩) ?_ ?_
                 rotate_left
                 · simp only [Act.put, List.setIfInBounds_toArray, List.set_cons_zero, List.set_cons_succ, i64_w, i32_w]
                   rfl
                 refine pure_ (i := 6) (N := some 100) (v := .agg #[(.slice Ay y1.length cy), .int .i64 (y2), .int .i64 (y3)]) (a' := ?_) #[true, true, true, true, true, true, true, false, false, false, true, false, false, false] rfl rfl (by kernel_rfl) (fun _ _ _ h => h) (Or.inl ⟨by rfl, fun w' => by go_simp⟩) ?_ ?_
                 rotate_left
                 · simp only [Act.put, List.setIfInBounds_toArray, List.set_cons_zero, List.set_cons_succ, i64_w, i32_w]
                   rfl
                 refine pure_ (i := 7) (N := some 101) (v := .agg #[.bool y4, .int .i64 y5, .int .i64 y6, .int .i64 y7, .int .i64 y8, .int .i64 y9]) (a' := ?_) #[true, true, true, true, true, true, true, true, false, false, true, false, false, false] rfl rfl (by kernel_rfl) (fun _ _ _ h => h) (Or.inl ⟨by rfl, fun w' => by go_simp⟩) ?_ ?_
                 rotate_left
                 · simp only [Act.put, List.setIfInBounds_toArray, List.set_cons_zero, List.set_cons_succ, i64_w, i32_w]
                   rfl
                 refine pure_ (i := 8) (N := some 102) (v := .int .i64 0) (a' := ?_) #[true, true, true, true, true, true, true, true, true, false, true, false, false, false] rfl rfl (by kernel_rfl) (fun _ _ _ h => h) (Or.inl ⟨by rfl, fun w' => by go_simp⟩) ?_ ?_
                 rotate_left
                 · simp only [Act.put, List.setIfInBounds_toArray, List.set_cons_zero, List.set_cons_succ, i64_w, i32_w]
                   rfl
                 rotate_left
                 refine box_step (cs := #[.slice none 0 0, .int .i64 0, .int .i64 0]) (t := 24) (by rfl) rfl (by first | (go_simp; done) | (go_simp; rfl)) ?_
                 intro kx hE_ W_ hbox hb
                 have HN := Lib.hid (HS.out.box hE_ hbox hb (by decide))
                 clear HS hE_ hbox hb
                 have HS := Lib.hid HN.out
                 clear HN
                 have HN := Lib.hid HS.out.swap
                 clear HS
                 have HS := Lib.hid HN.out
                 clear HN
                 refine hK.out _ _ ⟨HS.out.get 3 rfl, HS.out.get 2 rfl⟩ (fun hHeld => ?_)
                 clear hK K
                 refine norm_ (a' := ?_) ?_ ?_
                 rotate_left
                 · show Act.put _ (some 17) _ = _
                   simp only [Act.put, List.setIfInBounds_toArray, List.set_cons_zero, List.set_cons_succ, i64_w, i32_w]
                   rfl
                 rotate_left)
              )
            all_goals (first
              | (refine one_ (l := #[true, true, true, true, true, true, true, true, true, true, false, false, false, false]) (i := 10) (N := some 18) #[true, true, true, true, true, true, true, true, true, true, true, false, false, false] rfl rfl (by kernel_rfl) (by decide) (fun K hK => ?_)
                 refine box_step (cs := #[.bool false, .int .i64 0, .int .i64 0, .int .i64 0, .int .i64 0, .int .i64 0]) (t := 27) (by rfl) rfl (by first | (go_simp; done) | (go_simp; rfl)) ?_
                 intro ky hE_ W_ hbox hb
                 have HN := Lib.hid (HS.out.box hE_ hbox hb (by decide))
                 clear HS hE_ hbox hb
                 have HS := Lib.hid HN.out
                 clear HN
                 refine hK.out _ _ ⟨HS.out.get 3 rfl, HS.out.get 2 rfl⟩ (fun hHeld => ?_)
                 clear hK K
                 refine norm_ (a' := ?_) ?_ ?_
                 rotate_left
                 · show Act.put _ (some 18) _ = _
                   simp only [Act.put, List.setIfInBounds_toArray, List.set_cons_zero, List.set_cons_succ, i64_w, i32_w]
                   rfl)
              | (refine one_ (l := #[true, true, true, true, true, true, true, true, true, false, true, false, false, false]) (i := 9) (N := some 17) #[true, true, true, true, true, true, true, true, true, true, true, false, false, false] rfl rfl (by kernel_rfl) (by decide) (fun K hK => ?_)
                 refine box_step (cs := #[.slice none 0 0, .int .i64 0, .int .i64 0]) (t := 24) (by rfl) rfl (by first | (go_simp; done) | (go_simp; rfl)) ?_
                 intro kx hE_ W_ hbox hb
                 have HN := Lib.hid (HS.out.box hE_ hbox hb (by decide))
                 clear HS hE_ hbox hb
                 have HS := Lib.hid HN.out
                 clear HN
                 have HN := Lib.hid HS.out.swap
                 clear HS
                 have HS := Lib.hid HN.out
                 clear HN
                 refine hK.out _ _ ⟨HS.out.get 3 rfl, HS.out.get 2 rfl⟩ (fun hHeld => ?_)
                 clear hK K
                 refine norm_ (a' := ?_) ?_ ?_
                 rotate_left
                 · show Act.put _ (some 17) _ = _
                   simp only [Act.put, List.setIfInBounds_toArray, List.set_cons_zero, List.set_cons_succ, i64_w, i32_w]
                   rfl)
              | (refine one_ (l := #[true, true, true, true, false, false, false, false, false, true, true, false, false, false]) (i := 4) (N := some 99) #[true, true, true, true, true, false, false, false, false, true, true, false, false, false] rfl rfl (by kernel_rfl) (by decide) (fun K hK => ?_)
                 refine goes_ Tryd.func9 (by kernel_rfl) rfl #[.agg #[(.slice A_ r_.length c_), .int .i64 (tp_), .int .i64 (bt_)], .agg #[.bool (tat T_ jj).s, .int .i64 (tat T_ jj).k, .int .i64 (tat T_ jj).t, .int .i64 (tat T_ jj).b, .int .i64 (tat T_ jj).n, .int .i64 (tat T_ jj).e]] (by rfl) rfl rfl (by (try simp only [List.map_toArray, List.map_cons, List.map_nil]); first | done | rfl) ?_
                 refine Calls.mono (deque_Step.calls A_ c_ r_ tp_ bt_ (tat T_ jj).s (tat T_ jj).k (tat T_ jj).t (tat T_ jj).b (tat T_ jj).n (tat T_ jj).e y1 y2 y3 y4 y5 y6 y7 y8 y9 0 _ (Kd.R_reads' HS.out.rq).2.2 (Kd.R_reads' HS.out.rq).2.1 HY.out (TabOK.below HTab.out HS.out.st.B)) ?_
                 rintro e_ W_ ⟨v_, rfl, hR_, hb⟩
                 refine ⟨_, rfl, ?_⟩
                 obtain ⟨Ay, cy, rfl⟩ := Kd.R_slice hR_
                 have HN := Lib.hid (HS.out.ring hb hR_)
                 clear HS hb hR_
                 have HS := Lib.hid HN.out
                 clear HN
                 refine hK.out _ _ ⟨HS.out.get 3 rfl, HS.out.get 2 rfl⟩ (fun hHeld => ?_)
                 clear hK K
                 refine norm_ (a' := ?_) ?_ ?_
                 rotate_left
                 · show Act.put _ (some 99) _ = _
                   simp only [Act.put, List.setIfInBounds_toArray, List.set_cons_zero, List.set_cons_succ, i64_w, i32_w]
                   rfl
                 refine pure_ (i := 5) (N := some 94) (v := .tuple #[.agg #[(.slice Ay y1.length cy), .int .i64 (y2), .int .i64 (y3)], .agg #[.bool y4, .int .i64 y5, .int .i64 y6, .int .i64 y7, .int .i64 y8, .int .i64 y9], .int .i64 0]) (a' := ?_) #[true, true, true, true, true, true, false, false, false, true, true, false, false, false] rfl rfl (by kernel_rfl) (fun _ _ _ h => h) (Or.inl ⟨by rfl, fun w' => by go_simp⟩) ?_ ?_
                 rotate_left
                 · simp only [Act.put, List.setIfInBounds_toArray, List.set_cons_zero, List.set_cons_succ, i64_w, i32_w]
                   rfl
                 refine pure_ (i := 6) (N := some 100) (v := .agg #[(.slice Ay y1.length cy), .int .i64 (y2), .int .i64 (y3)]) (a' := ?_) #[true, true, true, true, true, true, true, false, false, true, true, false, false, false] rfl rfl (by kernel_rfl) (fun _ _ _ h => h) (Or.inl ⟨by rfl, fun w' => by go_simp⟩) ?_ ?_
                 rotate_left
                 · simp only [Act.put, List.setIfInBounds_toArray, List.set_cons_zero, List.set_cons_succ, i64_w, i32_w]
                   rfl
                 refine pure_ (i := 7) (N := some 101) (v := .agg #[.bool y4, .int .i64 y5, .int .i64 y6, .int .i64 y7, .int .i64 y8, .int .i64 y9]) (a' := ?_) #[true, true, true, true, true, true, true, true, false, true, true, false, false, false] rfl rfl (by kernel_rfl) (fun _ _ _ h => h) (Or.inl ⟨by rfl, fun w' => by go_simp⟩) ?_ ?_
                 rotate_left
                 · simp only [Act.put, List.setIfInBounds_toArray, List.set_cons_zero, List.set_cons_succ, i64_w, i32_w]
                   rfl
                 refine pure_ (i := 8) (N := some 102) (v := .int .i64 0) (a' := ?_) #[true, true, true, true, true, true, true, true, true, true, true, false, false, false] rfl rfl (by kernel_rfl) (fun _ _ _ h => h) (Or.inl ⟨by rfl, fun w' => by go_simp⟩) ?_ ?_
                 rotate_left
                 · simp only [Act.put, List.setIfInBounds_toArray, List.set_cons_zero, List.set_cons_succ, i64_w, i32_w]
                   rfl)
              )
            all_goals (
              refine one_ (i := 11) (N := none) #[true, true, true, true, true, true, true, true, true, true, true, true, false, false] rfl rfl (by kernel_rfl) (by decide) (fun K hK => ?_)
              refine skip_ (by rfl) rfl (run_store_row_ rfl kx rfl #[(.slice Ay y1.length cy), .int .i64 (y2), .int .i64 (y3)] #[.slice none 0 0, .int .i64 0, .int .i64 0] 24 (HS.out.get 1 rfl) rfl (by kernel_rfl) rfl rfl) ?_
              have HN := Lib.hid (show Ps w [(ky, #[.bool false, .int .i64 0, .int .i64 0, .int .i64 0, .int .i64 0, .int .i64 0], 27), (kx, #[(.slice Ay y1.length cy), .int .i64 (y2), .int .i64 (y3)], 24), (kt, (tcs T_), 63), (kq, #[(.slice A_ r_.length c_), .int .i64 (tp_), .int .i64 (bt_)], 24), (kc, #[.slice none 0 0, .int .i64 0, .int .i64 0], 24)] (.slice Ay y1.length cy) y1 u10 G_ _ from HS.out.row 1 rfl #[(.slice Ay y1.length cy), .int .i64 (y2), .int .i64 (y3)])
              clear HS
              have HS := Lib.hid HN.out
              clear HN
              refine hK.out _ _ ⟨HS.out.get 3 rfl, HS.out.get 2 rfl⟩ (fun hHeld => ?_)
              clear hK K
              refine one_ (i := 12) (N := none) #[true, true, true, true, true, true, true, true, true, true, true, true, true, false] rfl rfl (by kernel_rfl) (by decide) (fun K hK => ?_)
              refine skip_ (by rfl) rfl (run_store_row_ rfl ky rfl #[.bool y4, .int .i64 y5, .int .i64 y6, .int .i64 y7, .int .i64 y8, .int .i64 y9] #[.bool false, .int .i64 0, .int .i64 0, .int .i64 0, .int .i64 0, .int .i64 0] 27 (HS.out.get 0 rfl) rfl (by kernel_rfl) rfl rfl) ?_
              have HN := Lib.hid (show Ps w [(ky, #[.bool y4, .int .i64 y5, .int .i64 y6, .int .i64 y7, .int .i64 y8, .int .i64 y9], 27), (kx, #[(.slice Ay y1.length cy), .int .i64 (y2), .int .i64 (y3)], 24), (kt, (tcs T_), 63), (kq, #[(.slice A_ r_.length c_), .int .i64 (tp_), .int .i64 (bt_)], 24), (kc, #[.slice none 0 0, .int .i64 0, .int .i64 0], 24)] (.slice Ay y1.length cy) y1 u10 G_ _ from HS.out.row 0 rfl #[.bool y4, .int .i64 y5, .int .i64 y6, .int .i64 y7, .int .i64 y8, .int .i64 y9])
              clear HS
              have HS := Lib.hid HN.out
              clear HN
              refine hK.out _ _ ⟨HS.out.get 3 rfl, HS.out.get 2 rfl⟩ (fun hHeld => ?_)
              clear hK K
              refine pure_ (i := 13) (N := some 19) (v := .int .i64 0) (a' := ?_) #[true, true, true, true, true, true, true, true, true, true, true, true, true, true] rfl rfl (by kernel_rfl) (fun _ _ _ h => h) (Or.inl ⟨by rfl, fun w' => by go_simp⟩) ?_ ?_
              rotate_left
              · simp only [Act.put, List.setIfInBounds_toArray, List.set_cons_zero, List.set_cons_succ, i64_w, i32_w]
                rfl
              refine done_ (by kernel_rfl) ?_
              try go_wp2
              go_meet
              exact ⟨kx, ky, Ay, cy, rfl, rfl, rfl, ⟨HS.out⟩⟩
              )
          case rest =>
            clear HS
            obtain ⟨kx, ky, Ay, cy, rfl, rfl, rfl, HS0⟩ := hcut
            have HS := Lib.hid HS0.out
            clear HS0
            have H := HH.out
            clear HH
            by_cases e0 : y9 = 0
            · subst e0
              rw [if_neg (show ¬ (0 : Int) ≠ 0 by decide), if_neg (show ¬ (0 : Int) = 1 by decide)] at H
              have e1b : ((0 : Int) == 1) = false := rfl
              go_wp2_with (first | ((with_reducible refine gate_dst (N := 108) rfl ?_); refine wpList_load_row rfl 24 (.tmp 17) rfl kx rfl 24 #[(.slice Ay y1.length cy), .int .i64 (y2), .int .i64 (y3)] (0, 0) _ (HS.out.get 1 rfl) Tryd.underlying24 rfl (by kernel_rfl) ?_) | ((with_reducible refine gate_store (t := 24) (p := 8) (v := .tmp 108) ?hgs ?_); (case hgs => rfl); refine wpList_store_row rfl rfl 24 8 (.tmp 108) rfl kq rfl #[(.slice Ay y1.length cy), .int .i64 (y2), .int .i64 (y3)] #[(.slice A_ r_.length c_), .int .i64 (tp_), .int .i64 (bt_)] 24 (HS.out.get 3 rfl) (by rfl) (by kernel_rfl) rfl (by rfl) (fun W_ => Ps w [(ky, #[.bool y4, .int .i64 y5, .int .i64 y6, .int .i64 y7, .int .i64 y8, .int .i64 0], 27), (kx, #[(.slice Ay y1.length cy), .int .i64 (y2), .int .i64 (y3)], 24), (kt, (tcs T_), 63), (kq, #[(.slice Ay y1.length cy), .int .i64 (y2), .int .i64 (y3)], 24), (kc, #[.slice none 0 0, .int .i64 0, .int .i64 0], 24)] (.slice Ay y1.length cy) y1 u10 G_ W_) (HS.out.row 3 rfl #[(.slice Ay y1.length cy), .int .i64 (y2), .int .i64 (y3)]) ?_; rintro w8 he_; clear HS; have HS := Lib.hid he_; clear he_) | ((with_reducible refine gate_dst (N := 110) rfl ?_); refine wpList_load_row rfl 27 (.tmp 18) rfl ky rfl 27 #[.bool y4, .int .i64 y5, .int .i64 y6, .int .i64 y7, .int .i64 y8, .int .i64 0] (0, 0) _ (HS.out.get 0 rfl) Tryd.underlying27 rfl (by kernel_rfl) ?_) | ((with_reducible refine gate_store (t := 27) (p := 111) (v := .tmp 110) ?hgs ?_); (case hgs => rfl); refine wpList_store_tk rfl rfl 27 111 (.tmp 110) rfl kt jj rfl 63 T_ ⟨y4, y5, y6, y7, y8, 0⟩ (HS.out.get 2 rfl) (by rfl) (by kernel_rfl) Hj.out (fun W_ => Ps w [(ky, #[.bool y4, .int .i64 y5, .int .i64 y6, .int .i64 y7, .int .i64 y8, .int .i64 0], 27), (kx, #[(.slice Ay y1.length cy), .int .i64 (y2), .int .i64 (y3)], 24), (kt, (tcs (T_.set jj ⟨y4, y5, y6, y7, y8, 0⟩)), 63), (kq, #[(.slice Ay y1.length cy), .int .i64 (y2), .int .i64 (y3)], 24), (kc, #[.slice none 0 0, .int .i64 0, .int .i64 0], 24)] (.slice Ay y1.length cy) y1 u10 G_ W_) (HS.out.row 2 rfl (tcs (T_.set jj ⟨y4, y5, y6, y7, y8, 0⟩))) ?_; rintro w9 he_; clear HS; have HS := Lib.hid he_; clear he_; have fk0 : w9.cell? ⟨ky, 0, none⟩ = some (.bool y4) := (blk_cell (HS.out.get 0 rfl) 0).trans rfl; have fk4 : w9.cell? ⟨ky, 4, none⟩ = some (.int .i64 y8) := (blk_cell (HS.out.get 0 rfl) 4).trans rfl; have fk5 : w9.cell? ⟨ky, 5, none⟩ = some (.int .i64 0) := (blk_cell (HS.out.get 0 rfl) 5).trans rfl))
              (try clear fk0 fk4 fk5)
              have HN := Lib.hid HS.out.drop.drop
              clear HS
              have HS := Lib.hid HN.out
              clear HN
              go_roundg k1
              case measure => have := HK1.out; omega
              case rel => exact ⟨i_ + 1, _, _, _, _, _, _, _, _, by go_num, rfl, by rw [List.length_set]; exact hT4, ⟨by have := HG.out; omega⟩, ⟨by omega⟩, ⟨H⟩, ⟨by have := HK1.out; omega⟩, ⟨HS.out⟩⟩
            · have e0b : (y9 != 0) = true := by simp [e0]
              rw [if_pos e0] at H
              by_cases e1 : y9 = 1
              · subst e1
                rw [if_pos rfl] at H
                clear e0
                go_wp2_with (first | ((with_reducible refine gate_dst (N := 108) rfl ?_); refine wpList_load_row rfl 24 (.tmp 17) rfl kx rfl 24 #[(.slice Ay y1.length cy), .int .i64 (y2), .int .i64 (y3)] (0, 0) _ (HS.out.get 1 rfl) Tryd.underlying24 rfl (by kernel_rfl) ?_) | ((with_reducible refine gate_store (t := 24) (p := 8) (v := .tmp 108) ?hgs ?_); (case hgs => rfl); refine wpList_store_row rfl rfl 24 8 (.tmp 108) rfl kq rfl #[(.slice Ay y1.length cy), .int .i64 (y2), .int .i64 (y3)] #[(.slice A_ r_.length c_), .int .i64 (tp_), .int .i64 (bt_)] 24 (HS.out.get 3 rfl) (by rfl) (by kernel_rfl) rfl (by rfl) (fun W_ => Ps w [(ky, #[.bool y4, .int .i64 y5, .int .i64 y6, .int .i64 y7, .int .i64 y8, .int .i64 1], 27), (kx, #[(.slice Ay y1.length cy), .int .i64 (y2), .int .i64 (y3)], 24), (kt, (tcs T_), 63), (kq, #[(.slice Ay y1.length cy), .int .i64 (y2), .int .i64 (y3)], 24), (kc, #[.slice none 0 0, .int .i64 0, .int .i64 0], 24)] (.slice Ay y1.length cy) y1 u10 G_ W_) (HS.out.row 3 rfl #[(.slice Ay y1.length cy), .int .i64 (y2), .int .i64 (y3)]) ?_; rintro w8 he_; clear HS; have HS := Lib.hid he_; clear he_) | ((with_reducible refine gate_dst (N := 110) rfl ?_); refine wpList_load_row rfl 27 (.tmp 18) rfl ky rfl 27 #[.bool y4, .int .i64 y5, .int .i64 y6, .int .i64 y7, .int .i64 y8, .int .i64 1] (0, 0) _ (HS.out.get 0 rfl) Tryd.underlying27 rfl (by kernel_rfl) ?_) | ((with_reducible refine gate_store (t := 27) (p := 111) (v := .tmp 110) ?hgs ?_); (case hgs => rfl); refine wpList_store_tk rfl rfl 27 111 (.tmp 110) rfl kt jj rfl 63 T_ ⟨y4, y5, y6, y7, y8, 1⟩ (HS.out.get 2 rfl) (by rfl) (by kernel_rfl) Hj.out (fun W_ => Ps w [(ky, #[.bool y4, .int .i64 y5, .int .i64 y6, .int .i64 y7, .int .i64 y8, .int .i64 1], 27), (kx, #[(.slice Ay y1.length cy), .int .i64 (y2), .int .i64 (y3)], 24), (kt, (tcs (T_.set jj ⟨y4, y5, y6, y7, y8, 1⟩)), 63), (kq, #[(.slice Ay y1.length cy), .int .i64 (y2), .int .i64 (y3)], 24), (kc, #[.slice none 0 0, .int .i64 0, .int .i64 0], 24)] (.slice Ay y1.length cy) y1 u10 G_ W_) (HS.out.row 2 rfl (tcs (T_.set jj ⟨y4, y5, y6, y7, y8, 1⟩))) ?_; rintro w9 he_; clear HS; have HS := Lib.hid he_; clear he_; have fk0 : w9.cell? ⟨ky, 0, none⟩ = some (.bool y4) := (blk_cell (HS.out.get 0 rfl) 0).trans rfl; have fk4 : w9.cell? ⟨ky, 4, none⟩ = some (.int .i64 y8) := (blk_cell (HS.out.get 0 rfl) 4).trans rfl; have fk5 : w9.cell? ⟨ky, 5, none⟩ = some (.int .i64 1) := (blk_cell (HS.out.get 0 rfl) 5).trans rfl) | ((with_reducible refine gate_builtin (b := .append) (xs := #[.tmp 115, .tmp 118]) rfl ?_); at_builtin; refine Kd.R_append (Kd.int .i64) (w0 := w) w.heap.size rfl (.tmp 115) (.tmp 118) 22 3 (.int .i64 0) 8 rfl Tryd.underlying22 info3 rfl (by decide) (by omega) u10 G_ y8 [.int .i64 y8] (fun _ => True) (fun _ => False) rfl rfl ?aP (fun _ hk => hk.elim) ?aF ?aO ?aB ?aS ?aL ?_; (case aP => exact rfl); (case aB => exact HS.out.st.B); (case aF => exact (fun _ _ => trivial)); (case aO => exact HS.out.rg); (case aS => exact HS.out.st.B.size); (case aL => have := HG.out; omega); intro va wa ho_ hb_ hg_ hat_; have HN := Lib.hid (show Ps w [(ky, #[.bool y4, .int .i64 y5, .int .i64 y6, .int .i64 y7, .int .i64 y8, .int .i64 1], 27), (kx, #[(.slice Ay y1.length cy), .int .i64 (y2), .int .i64 (y3)], 24), (kt, (tcs (T_.set jj ⟨y4, y5, y6, y7, y8, 1⟩)), 63), (kq, #[(.slice Ay y1.length cy), .int .i64 (y2), .int .i64 (y3)], 24), (kc, #[.slice none 0 0, .int .i64 0, .int .i64 0], 24)] (.slice Ay y1.length cy) y1 va (G_ ++ [y8]) wa from HS.out.app ho_ hb_ hg_ hat_); clear HS ho_ hb_ hg_ hat_ fk0 fk4 fk5; have HS := Lib.hid HN.out; clear HN; have fk0 : wa.cell? ⟨ky, 0, none⟩ = some (.bool y4) := (blk_cell (HS.out.get 0 rfl) 0).trans rfl; have fk5 : wa.cell? ⟨ky, 5, none⟩ = some (.int .i64 1) := (blk_cell (HS.out.get 0 rfl) 5).trans rfl) | ((with_reducible refine gate_store (t := 27) (p := 127) (v := .tmp 126) ?hgs ?_); (case hgs => rfl); refine wpList_store_tk rfl rfl 27 127 (.tmp 126) rfl kt jj rfl 63 (T_.set jj ⟨y4, y5, y6, y7, y8, 1⟩) (tz y4) (HS.out.get 2 rfl) (by rfl) (by kernel_rfl) (by rw [List.length_set]; exact Hj.out) (fun W_ => Ps w [(ky, #[.bool y4, .int .i64 y5, .int .i64 y6, .int .i64 y7, .int .i64 y8, .int .i64 1], 27), (kx, #[(.slice Ay y1.length cy), .int .i64 (y2), .int .i64 (y3)], 24), (kt, (tcs ((T_.set jj ⟨y4, y5, y6, y7, y8, 1⟩).set jj (tz y4))), 63), (kq, #[(.slice Ay y1.length cy), .int .i64 (y2), .int .i64 (y3)], 24), (kc, #[.slice none 0 0, .int .i64 0, .int .i64 0], 24)] (.slice Ay y1.length cy) y1 va (G_ ++ [y8]) W_) (HS.out.row 2 rfl (tcs ((T_.set jj ⟨y4, y5, y6, y7, y8, 1⟩).set jj (tz y4)))) ?_; rintro w10 he_; clear HS; have HS := Lib.hid he_; clear he_; (try clear fk0 fk5)))
                have HN := Lib.hid HS.out.drop.drop
                clear HS
                rw [List.set_set] at HN
                have HS := Lib.hid HN.out
                clear HN
                go_roundg k1
                case measure => have := HK1.out; omega
                case rel => exact ⟨i_ + 1, _, _, _, _, _, _, _, _, by go_num, rfl, by rw [List.length_set]; exact hT4, ⟨by rw [List.length_append]; have := HG.out; show _ + 1 ≤ _; omega⟩, ⟨by omega⟩, ⟨H⟩, ⟨by have := HK1.out; omega⟩, ⟨HS.out⟩⟩
              · rw [if_neg e1] at H
                have e1b : (y9 == 1) = false := by simp [e1]
                clear e0 e1
                go_wp2_with (first | ((with_reducible refine gate_dst (N := 108) rfl ?_); refine wpList_load_row rfl 24 (.tmp 17) rfl kx rfl 24 #[(.slice Ay y1.length cy), .int .i64 (y2), .int .i64 (y3)] (0, 0) _ (HS.out.get 1 rfl) Tryd.underlying24 rfl (by kernel_rfl) ?_) | ((with_reducible refine gate_store (t := 24) (p := 8) (v := .tmp 108) ?hgs ?_); (case hgs => rfl); refine wpList_store_row rfl rfl 24 8 (.tmp 108) rfl kq rfl #[(.slice Ay y1.length cy), .int .i64 (y2), .int .i64 (y3)] #[(.slice A_ r_.length c_), .int .i64 (tp_), .int .i64 (bt_)] 24 (HS.out.get 3 rfl) (by rfl) (by kernel_rfl) rfl (by rfl) (fun W_ => Ps w [(ky, #[.bool y4, .int .i64 y5, .int .i64 y6, .int .i64 y7, .int .i64 y8, .int .i64 y9], 27), (kx, #[(.slice Ay y1.length cy), .int .i64 (y2), .int .i64 (y3)], 24), (kt, (tcs T_), 63), (kq, #[(.slice Ay y1.length cy), .int .i64 (y2), .int .i64 (y3)], 24), (kc, #[.slice none 0 0, .int .i64 0, .int .i64 0], 24)] (.slice Ay y1.length cy) y1 u10 G_ W_) (HS.out.row 3 rfl #[(.slice Ay y1.length cy), .int .i64 (y2), .int .i64 (y3)]) ?_; rintro w8 he_; clear HS; have HS := Lib.hid he_; clear he_) | ((with_reducible refine gate_dst (N := 110) rfl ?_); refine wpList_load_row rfl 27 (.tmp 18) rfl ky rfl 27 #[.bool y4, .int .i64 y5, .int .i64 y6, .int .i64 y7, .int .i64 y8, .int .i64 y9] (0, 0) _ (HS.out.get 0 rfl) Tryd.underlying27 rfl (by kernel_rfl) ?_) | ((with_reducible refine gate_store (t := 27) (p := 111) (v := .tmp 110) ?hgs ?_); (case hgs => rfl); refine wpList_store_tk rfl rfl 27 111 (.tmp 110) rfl kt jj rfl 63 T_ ⟨y4, y5, y6, y7, y8, y9⟩ (HS.out.get 2 rfl) (by rfl) (by kernel_rfl) Hj.out (fun W_ => Ps w [(ky, #[.bool y4, .int .i64 y5, .int .i64 y6, .int .i64 y7, .int .i64 y8, .int .i64 y9], 27), (kx, #[(.slice Ay y1.length cy), .int .i64 (y2), .int .i64 (y3)], 24), (kt, (tcs (T_.set jj ⟨y4, y5, y6, y7, y8, y9⟩)), 63), (kq, #[(.slice Ay y1.length cy), .int .i64 (y2), .int .i64 (y3)], 24), (kc, #[.slice none 0 0, .int .i64 0, .int .i64 0], 24)] (.slice Ay y1.length cy) y1 u10 G_ W_) (HS.out.row 2 rfl (tcs (T_.set jj ⟨y4, y5, y6, y7, y8, y9⟩))) ?_; rintro w9 he_; clear HS; have HS := Lib.hid he_; clear he_; have fk0 : w9.cell? ⟨ky, 0, none⟩ = some (.bool y4) := (blk_cell (HS.out.get 0 rfl) 0).trans rfl; have fk4 : w9.cell? ⟨ky, 4, none⟩ = some (.int .i64 y8) := (blk_cell (HS.out.get 0 rfl) 4).trans rfl; have fk5 : w9.cell? ⟨ky, 5, none⟩ = some (.int .i64 y9) := (blk_cell (HS.out.get 0 rfl) 5).trans rfl) | ((with_reducible refine gate_store (t := 27) (p := 127) (v := .tmp 126) ?hgs ?_); (case hgs => rfl); refine wpList_store_tk rfl rfl 27 127 (.tmp 126) rfl kt jj rfl 63 (T_.set jj ⟨y4, y5, y6, y7, y8, y9⟩) (tz y4) (HS.out.get 2 rfl) (by rfl) (by kernel_rfl) (by rw [List.length_set]; exact Hj.out) (fun W_ => Ps w [(ky, #[.bool y4, .int .i64 y5, .int .i64 y6, .int .i64 y7, .int .i64 y8, .int .i64 y9], 27), (kx, #[(.slice Ay y1.length cy), .int .i64 (y2), .int .i64 (y3)], 24), (kt, (tcs ((T_.set jj ⟨y4, y5, y6, y7, y8, y9⟩).set jj (tz y4))), 63), (kq, #[(.slice Ay y1.length cy), .int .i64 (y2), .int .i64 (y3)], 24), (kc, #[.slice none 0 0, .int .i64 0, .int .i64 0], 24)] (.slice Ay y1.length cy) y1 u10 G_ W_) (HS.out.row 2 rfl (tcs ((T_.set jj ⟨y4, y5, y6, y7, y8, y9⟩).set jj (tz y4)))) ?_; rintro w10 he_; clear HS; have HS := Lib.hid he_; clear he_; (try clear fk0 fk4 fk5)))
                have HN := Lib.hid HS.out.drop.drop
                clear HS
                rw [List.set_set] at HN
                have HS := Lib.hid HN.out
                clear HN
                go_roundg k1
                case measure => have := HK1.out; omega
                case rel => exact ⟨i_ + 1, _, _, _, _, _, _, _, _, by go_num, rfl, by rw [List.length_set]; exact hT4, ⟨by have := HG.out; omega⟩, ⟨by omega⟩, ⟨H⟩, ⟨by have := HK1.out; omega⟩, ⟨HS.out⟩⟩

/-! ### trefoilref04_Has: function 26 -/
def trefoilref04_Has.l0 : Nat → List Int → Int → Int → Option (Bool)
  | 0, _, _, _ => none
  | k + 1, x0, x1, x5 => if x5 < (x0.length : Int) then (if 0 ≤ x5 then (if (rd x0 x5) = x1 then (some true) else (trefoilref04_Has.l0 k x0 x1 (wrap64 (x5 + 1)))) else (none)) else (some false)
def trefoilref04_Has.f (k : Nat) (l0 : List Int) (a1 : Int) : Option (Bool) := trefoilref04_Has.l0 k l0 a1 0
theorem trefoilref04_Has.mono_l : ∀ k, (∀ y0 y1 y2, LeO (trefoilref04_Has.l0 k y0 y1 y2) (trefoilref04_Has.l0 (k + 1) y0 y1 y2))
  | 0 => fun _ _ _ r h => by simp [trefoilref04_Has.l0] at h
  | k + 1 => by
    have ih0 := trefoilref04_Has.mono_l k
    · intro y0 y1 y2
      unfold trefoilref04_Has.l0
      repeat' first
      | (with_reducible exact ih0 _ _ _)
      | (with_reducible exact LeO.refl _)
      | (with_reducible exact LeO.none _)
      | (with_reducible refine LeO.ite ?_ ?_)
      | (with_reducible refine LeO.bind ?_ (fun _ => ?_))
      | exact ih0 _ _ _
      | exact LeO.none _
      | refine LeO.ite ?_ ?_
      | refine LeO.bind ?_ (fun _ => ?_)
theorem trefoilref04_Has.mono : ∀ a0 a1 k, LeO (trefoilref04_Has.f k a0 a1) (trefoilref04_Has.f (k + 1) a0 a1) := by
  intro a0 a1 k
  have ih0 := trefoilref04_Has.mono_l k
  unfold trefoilref04_Has.f
  repeat' first
      | (with_reducible exact ih0 _ _ _)
      | (with_reducible exact LeO.refl _)
      | (with_reducible exact LeO.none _)
      | (with_reducible refine LeO.ite ?_ ?_)
      | (with_reducible refine LeO.bind ?_ (fun _ => ?_))
      | exact ih0 _ _ _
      | exact LeO.none _
      | refine LeO.ite ?_ ?_
      | refine LeO.bind ?_ (fun _ => ?_)
set_option maxHeartbeats 8000000 in
set_option maxRecDepth 100000 in
theorem trefoilref04_Has.calls (k : Nat) (A0 : Option Addr) (c0 : Nat) (l0 : List Int) (a1 : Int) (r : Bool) (w : World) (hr0 : Kd.C (Kd.int .i64) w A0 l0.length l0) (hc0 : l0.length ≤ c0) (h : trefoilref04_Has.f k l0 a1 = some r) :
    Calls Tryd.prog 26 #[.slice A0 l0.length c0, .int .i64 a1] w fun e w' => e = .returned (.bool r) ∧ Drawn0 w w' := by
  have HR0 := Aside0.mk hr0
  have HC0 := Aside0.mk hc0
  clear hr0 hc0
  have H : (trefoilref04_Has.l0 k l0 a1 0) = some r := h
  clear h
  have H' := Aside0.mk H
  clear H
  go_enter Tryd.func26, Tryd.ntmps26
  go_wp2
  go_loopg [5] k (fun kq v5 w' => ∃ (x5_1 : Int), v5 = .int .i64 x5_1 ∧ Aside0 (trefoilref04_Has.l0 kq l0 a1 x5_1 = some r) ∧ Aside0 (kq ≤ k) ∧ Drawn0 w w')
  case atStart => exact ⟨(0), (by first | rfl | (simp; done) | (simp [*]; done)), H', ⟨Nat.le_refl _⟩, by repeat (first | exact Drawn0.refl _ | apply Drawn0.step)⟩
  case round =>
    clear H'
    try clear c2
    try clear p2
    obtain ⟨x5_1, rfl, HA, HK1, ⟨m1, rfl⟩⟩ := hrel
    cases gk with
    | zero => exact absurd HA.out (by simp [trefoilref04_Has.l0])
    | succ k1 =>
      have H := HA.out
      clear HA
      simp only [trefoilref04_Has.l0] at H
      by_cases c3 : x5_1 < (l0.length : Int)
      · rw [if_pos c3] at H
        have c3b0 : decide (x5_1 < (l0.length : Int)) = true := decide_eq_true c3
        clear c3
        by_cases c4 : 0 ≤ x5_1
        · rw [if_pos c4] at H
          have c4b0 : decide (0 ≤ x5_1) = true := decide_eq_true c4
          clear c4
          by_cases c5 : (rd l0 x5_1) = a1
          · rw [if_pos c5] at H
            have c5b0 : ((rd l0 x5_1) == a1) = true := beq_iff_eq.mpr c5
            have c5b1 : ((rd l0 x5_1) != a1) = false := bne_eq_false_iff_eq.mpr c5
            clear c5
            obtain rfl := Option.some.inj H
            have p372 : 0 ≤ (x5_1 : Int) := of_decide_eq_true (by first | (with_reducible assumption) | assumption)
            have q372 : x5_1 < (l0.length : Int) := of_decide_eq_true (by first | (with_reducible assumption) | assumption)
            obtain ⟨ad372, e372, hx372_0⟩ := Kd.at_int HR0.out x5_1 p372 q372
            cases e372
            replace p372 := eq_true p372
            replace q372 := eq_true q372
            go_wp2
            go_ret
            exact ⟨by first | rfl | (simp; done) | (simp [*]; done), by repeat (first | exact Drawn0.refl _ | apply Drawn0.step)⟩
          · rw [if_neg c5] at H
            have c5b0 : ((rd l0 x5_1) == a1) = false := beq_eq_false_iff_ne.mpr c5
            have c5b1 : ((rd l0 x5_1) != a1) = true := bne_iff_ne.mpr c5
            have H' := Aside0.mk H
            clear H
            have p372 : 0 ≤ (x5_1 : Int) := of_decide_eq_true (by first | (with_reducible assumption) | assumption)
            have q372 : x5_1 < (l0.length : Int) := of_decide_eq_true (by first | (with_reducible assumption) | assumption)
            obtain ⟨ad372, e372, hx372_0⟩ := Kd.at_int HR0.out x5_1 p372 q372
            cases e372
            replace p372 := eq_true p372
            replace q372 := eq_true q372
            go_wp2
            go_roundg k1
            case measure => have := HK1.out; omega
            case rel => exact ⟨(wrap64 (x5_1 + 1)), (by first | rfl | (simp; done) | (simp [*]; done)), H', ⟨by have := HK1.out; omega⟩, by repeat (first | exact Drawn0.refl _ | apply Drawn0.step)⟩
        · rw [if_neg c4] at H
          exact absurd H (by simp)
      · rw [if_neg c3] at H
        have c3b0 : decide (x5_1 < (l0.length : Int)) = false := decide_eq_false c3
        clear c3
        obtain rfl := Option.some.inj H
        go_wp2
        go_ret
        exact ⟨by first | rfl | (simp; done) | (simp [*]; done), by repeat (first | exact Drawn0.refl _ | apply Drawn0.step)⟩

end Go.Proofs.YtdmgigicbppjkaaDoor.Q
