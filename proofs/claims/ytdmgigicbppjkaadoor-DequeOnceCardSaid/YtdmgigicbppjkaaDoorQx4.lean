-- PRINTED by print.py (a twelfth state) out of the translation. Not trusted: Lean checks it.
import Derived.Test.YtdmgigicbppjkaaDoorQx0
import Derived.Test.YtdmgigicbppjkaaDoorQx1
import Derived.Test.YtdmgigicbppjkaaDoorQx2
import Derived.Test.YtdmgigicbppjkaaDoorQx3
namespace Go.Proofs.YtdmgigicbppjkaaDoor.Q
open Go.RowKit Go.Proofs.YtdmgigicbppjkaaDoorW.PrintWords Go.Proofs.YtdmgigicbppjkaaDoorW.PrintLast Go.Proofs.YtdmgigicbppjkaaDoorW.PrintMore
attribute [local go_sem] max2_int min2_int max_two min_two max_three min_three max_four min_four   -- for this text's walks alone
set_option linter.unusedVariables false
set_option linter.unusedSimpArgs false

-- BREAK
/-- Two boxes and two results' cells, all of the call's own. -/
structure Four (w : World) (g h c d : Nat) (Q T C D : Array Value) (W : World) : Prop where mk ::
  (B : Below w.heap.size w W) (bg : W.heap[g]? = some (.cells Q 24 (0, 0))) (bh : W.heap[h]? = some (.cells T 27 (0, 0))) (bc : W.heap[c]? = some (.cells C 24 (0, 0))) (bd : W.heap[d]? = some (.cells D 27 (0, 0)))
  (eg : w.heap.size ≤ g) (eh : w.heap.size ≤ h) (ec : w.heap.size ≤ c) (ed : w.heap.size ≤ d) (gc : g ≠ c) (hd : h ≠ d)
section
variable {w W W' : World} {g h c d : Nat} {Q T C D : Array Value}
theorem Four.below (x : Four w g h c d Q T C D W) (b : Below W.heap.size W W') : Four w g h c d Q T C D W' :=
  ⟨below_step x.B b, blk_below x.bg b, blk_below x.bh b, blk_below x.bc b, blk_below x.bd b, x.eg, x.eh, x.ec, x.ed, x.gc, x.hd⟩
theorem Four.drew (x : Four w g h c d Q T C D W) : Four w g h c d Q T C D W.drew := x.below (below_drew1 (Below.refl _ _))
theorem Four.drewN (x : Four w g h c d Q T C D W) (n : Nat) : Four w g h c d Q T C D (W.drewN n) := x.below (pw_below_drewN (Below.refl _ _) n)
theorem Four.setG (x : Four w g h c d Q T C D W) (i : Nat) (u : Value) : Four w g h c d (Q.setIfInBounds i u) T C D (W.setCell ⟨g, i, none⟩ u) :=
  ⟨below_set x.B x.eg, blk_set x.bg i u, blk_far x.bh (blk_ne x.bh x.bg (by decide)) u, blk_far x.bc x.gc.symm u, blk_far x.bd (blk_ne x.bd x.bg (by decide)) u, x.eg, x.eh, x.ec, x.ed, x.gc, x.hd⟩
theorem Four.setC (x : Four w g h c d Q T C D W) (i : Nat) (u : Value) : Four w g h c d Q T (C.setIfInBounds i u) D (W.setCell ⟨c, i, none⟩ u) :=
  ⟨below_set x.B x.ec, blk_far x.bg x.gc u, blk_far x.bh (blk_ne x.bh x.bc (by decide)) u, blk_set x.bc i u, blk_far x.bd (blk_ne x.bd x.bc (by decide)) u, x.eg, x.eh, x.ec, x.ed, x.gc, x.hd⟩
theorem Four.setD (x : Four w g h c d Q T C D W) (i : Nat) (u : Value) : Four w g h c d Q T C (D.setIfInBounds i u) (W.setCell ⟨d, i, none⟩ u) :=
  ⟨below_set x.B x.ed, blk_far x.bg (blk_ne x.bg x.bd (by decide)) u, blk_far x.bh x.hd u, blk_far x.bc (blk_ne x.bc x.bd (by decide)) u, blk_set x.bd i u, x.eg, x.eh, x.ec, x.ed, x.gc, x.hd⟩
theorem Four.two {Q' T' : Array Value} (x : Four w g h c d Q T C D W) (y : Two g h W W') (hg : W'.heap[g]? = some (.cells Q' 24 (0, 0))) (hh : W'.heap[h]? = some (.cells T' 27 (0, 0))) : Four w g h c d Q' T' C D W' :=
  ⟨Two.below x.B y x.B.size x.eg x.eh, hg, hh, (y.block c (blk_lt x.bc) x.gc.symm (blk_ne x.bc x.bh (by decide))).trans x.bc, (y.block d (blk_lt x.bd) (blk_ne x.bd x.bg (by decide)) x.hd.symm).trans x.bd, x.eg, x.eh, x.ec, x.ed, x.gc, x.hd⟩
theorem Four.to {Q' T' C' D' : Array Value} (x : Four w g h c d Q T C D W) (e1 : Q = Q') (e2 : T = T') (e3 : C = C') (e4 : D = D') : Four w g h c d Q' T' C' D' W := by subst e1 e2 e3 e4; exact x
theorem Four.make {g h c d : Nat} {w1 w2 w3 w4 : World} (b1 : Below w.heap.size w w1) (b2 : Below w1.heap.size w1 w2) (b3 : Below w2.heap.size w2 w3) (b4 : Below w3.heap.size w3 w4)
    (eg : g = w.heap.size) (eh : h = w1.heap.size) (ec : c = w2.heap.size) (ed : d = w3.heap.size)
    (bg : w1.heap[g]? = some (.cells Q 24 (0, 0))) (bh : w2.heap[h]? = some (.cells T 27 (0, 0))) (bc : w3.heap[c]? = some (.cells C 24 (0, 0))) (bd : w4.heap[d]? = some (.cells D 27 (0, 0))) : Four w g h c d Q T C D w4 := by
  have s1 := b1.size
  have s2 := b2.size
  have s3 := b3.size
  refine ⟨below_step (below_step (below_step b1 b2) b3) b4, blk_below (blk_below (blk_below bg b2) b3) b4, blk_below (blk_below bh b3) b4, blk_below bc b4, bd, by omega, by omega, by omega, by omega, ?_, ?_⟩
  · have := blk_lt (blk_below bg b2); omega
  · have := blk_lt (blk_below bh b3); omega
end
section
variable {P : Program} {ops : Array Oper} {rest : List Oper} {o : Oper} {a : Act} {Q : Exit → Act → World → Prop} {w : World}
theorem run_storeVar_row (w : World) (g : Nat) (t ty : TypeId) (cur cs : Array Value) (v : Value) (hg : w.heap[g]? = some (.cells cur t (0, 0))) (hv : v.cells = cs) (hi : (P.info? ty).map (·.size) = some cs.size) (hsz : cs.size = cur.size) (h1 : ∀ v ∈ cs.toList, v.oneCell' = true) :
    (storeVar ty ⟨g, 0, none⟩ v).run P w = .ok () (w.setRow g cs) := by
  cases hq : P.info? ty with
  | none => simp [hq] at hi
  | some i =>
    have hs : i.size = cs.size := by simpa [hq] using hi
    have h := run_storeCells_at (P := P) g 0 t cs.toList 0 cur w hg (by simp [hsz]) h1
    have he : (cur.toList.take (0 + 0) ++ cs.toList ++ cur.toList.drop (0 + 0 + cs.toList.length)).toArray = cs := by
      rw [List.drop_eq_nil_of_le (by simp [hsz])]
      simp
    rw [he] at h
    simp [storeVar, Sem.run_bind, sizeOf, typeInfo, hq, hs, hv, h]
theorem wpList_store_row (hgd : o.guard = none) (hN : o.dst = none) (ty : TypeId) (p : Tmp) (x : Operand) (ho : o.op = .store ty (.tmp p) x) (g : Nat) (hp : a.eval (.tmp p) = .pointer (some ⟨g, 0, none⟩)) (cs cur : Array Value) (t : TypeId) (hg : w.heap[g]? = some (.cells cur t (0, 0)))
    (hv : (a.eval x).cells = cs) (hi : (P.info? ty).map (·.size) = some cs.size) (hsz : cs.size = cur.size) (h1 : cs.toList.all (·.oneCell') = true) (I : World → Prop) (hI : I (w.setRow g cs)) (h : ∀ w', I w' → wpList P ops Q rest a w') : wpList P ops Q (o :: rest) a w := by
  refine store_event hgd ho hN (w1 := w.setRow g cs) ?_ (fun w' e => h w' (e.symm ▸ hI))
  have hr := run_storeVar_row (P := P) w g t ty cur cs (a.eval x) hg hv hi hsz (fun v hv => List.all_eq_true.mp h1 v hv)
  unfold execOp
  simp only [ho, hp, Instr.storeAt, Instr.sureAddr, Sem.run_bind, Sem.run_pure, Result.andThen_ok, hr]
end
section
variable {w W : World} {g h c d : Nat} {Q T C D : Array Value}
theorem below_setRow_ {B g : Nat} {w0 w : World} (hb : Below B w0 w) (hBg : B ≤ g) (cs : Array Value) : Below B w0 (w.setRow g cs) :=
  hb.trans ⟨rfl, rfl, rfl, by simp [World.setRow], fun k hk => setRow_other w g k cs (by omega)⟩
theorem Four.rowC (x : Four w g h c d Q T C D W) (C' : Array Value) : Four w g h c d Q T C' D (W.setRow c C') :=
  ⟨below_setRow_ x.B x.ec C', (setRow_other W c g C' x.gc).trans x.bg, (setRow_other W c h C' (blk_ne x.bh x.bc (by decide))).trans x.bh, setRow_heap W c C C' _ _ x.bc, (setRow_other W c d C' (blk_ne x.bd x.bc (by decide))).trans x.bd, x.eg, x.eh, x.ec, x.ed, x.gc, x.hd⟩
theorem Four.rowD (x : Four w g h c d Q T C D W) (D' : Array Value) : Four w g h c d Q T C D' (W.setRow d D') :=
  ⟨below_setRow_ x.B x.ed D', (setRow_other W d g D' (blk_ne x.bg x.bd (by decide))).trans x.bg, (setRow_other W d h D' x.hd).trans x.bh, (setRow_other W d c D' (blk_ne x.bc x.bd (by decide))).trans x.bc, setRow_heap W d D D' _ _ x.bd, x.eg, x.eh, x.ec, x.ed, x.gc, x.hd⟩
theorem Four.rowG (x : Four w g h c d Q T C D W) (Q' : Array Value) : Four w g h c d Q' T C D (W.setRow g Q') :=
  ⟨below_setRow_ x.B x.eg Q', setRow_heap W g Q Q' _ _ x.bg, (setRow_other W g h Q' (blk_ne x.bh x.bg (by decide))).trans x.bh, (setRow_other W g c Q' x.gc.symm).trans x.bc, (setRow_other W g d Q' (blk_ne x.bd x.bg (by decide))).trans x.bd, x.eg, x.eh, x.ec, x.ed, x.gc, x.hd⟩
end
section
variable {P : Program} {o : Oper} {a : Act} {w : World}
theorem run_load_row_ {ty : TypeId} {x : Operand} (ho : o.op = .load ty x) (g : Nat) (hx : a.eval x = .pointer (some ⟨g, 0, none⟩)) (t : TypeId) (cs : Array Value) (d : TypeDesc) (hg : w.heap[g]? = some (.cells cs t (0, 0)))
    (hu : P.underlying ty = some d) (hd : (match d with | .struct _ | .array _ _ => true | _ => false) = true) (hi : (P.info? ty).map (·.size) = some cs.size) : (execOp a.eval o).run P w = .ok (.value (.agg cs)) w := by
  unfold execOp
  simp only [ho, hx, Instr.loadAt, Instr.sureAddr, Sem.run_bind, Sem.run_pure, Result.andThen_ok, run_loadVar_row w g t ty cs (0, 0) d hg hu hd hi]
theorem run_store_row_ {ty : TypeId} {p x : Operand} (ho : o.op = .store ty p x) (g : Nat) (hp : a.eval p = .pointer (some ⟨g, 0, none⟩)) (cs cur : Array Value) (t : TypeId) (hg : w.heap[g]? = some (.cells cur t (0, 0)))
    (hv : (a.eval x).cells = cs) (hi : (P.info? ty).map (·.size) = some cs.size) (hsz : cs.size = cur.size) (h1 : cs.toList.all (·.oneCell') = true) : (execOp a.eval o).run P w = .ok .skip (w.setRow g cs) := by
  have hr := run_storeVar_row (P := P) w g t ty cur cs (a.eval x) hg hv hi hsz (fun v hv => List.all_eq_true.mp h1 v hv)
  unfold execOp
  simp only [ho, hp, Instr.storeAt, Instr.sureAddr, Sem.run_bind, Sem.run_pure, Result.andThen_ok, hr]
end
theorem R_row_ {w : World} {g base t : Nat} {ok : Nat → Prop} {v : Value} {xs : List Int} {cells : Array Value} (r : Kd.R (Kd.int .i64) 3 w base ok v xs) (hb : w.heap[g]? = some (.cells cells t (0, 0))) (ht : ∀ q, q ∈ 3 :: (Kd.int .i64).E → q ≠ t) (cs : Array Value) : Kd.R (Kd.int .i64) 3 (w.setRow g cs) base ok v xs :=
  Kd.R_mono (Kd.R_step (Kd.R_types r hb ht) (fun k hk _ => setRow_other w g k cs hk.2)) (fun _ hk => hk.1)
theorem ring_ {w : World} {base c : Nat} {A : Option Addr} {ok : Nat → Prop} {xs : List Int} (r : Kd.R (Kd.int .i64) 3 w base ok (.slice A xs.length c) xs) : xs.length ≤ c ∧ Kd.C (Kd.int .i64) w A xs.length xs := (Kd.R_reads' r).2
def deque_steal.r (l : List Int) (tp bt k t b n e : Int) : Option (Int × Int × Int × Int × Int × Int × Int) :=
  if k = 0 then some (tp, bt, 1, tp, b, n, e)
  else if k = 1 then (if t ≥ bt then some (tp, bt, 1, t, bt, n, 2) else some (tp, bt, 2, t, bt, n, e))
  else if k = 2 then (deque_place.f l tp bt t).bind fun p => if 0 ≤ p ∧ p < l.length then some (tp, bt, 3, t, b, rd l p, e) else none
  else if tp = t then some (wrap64 (tp + 1), bt, k, t, b, n, 1) else some (tp, bt, k, t, b, 0, 3)
def deque_pop.r (l : List Int) (tp bt k t b n e : Int) : Option (Int × Int × Int × Int × Int × Int × Int) :=
  if k = 0 then some (tp, wrap64 (bt - 1), 1, t, wrap64 (bt - 1), n, e)
  else if k = 1 then (if tp < b then (deque_place.f l tp bt b).bind fun p => if 0 ≤ p ∧ p < l.length then some (tp, bt, 1, tp, b, rd l p, 1) else none
    else if tp = b then some (tp, bt, 2, tp, b, n, e) else some (tp, bt, 3, tp, b, n, e))
  else if k = 2 then (if tp = t then (deque_place.f l (wrap64 (tp + 1)) bt b).bind fun p => if 0 ≤ p ∧ p < l.length then some (wrap64 (tp + 1), bt, 4, t, b, rd l p, e) else none
    else some (tp, bt, 3, t, b, n, e))
  else if k = 4 then some (tp, wrap64 (b + 1), k, t, b, n, 1) else some (tp, wrap64 (b + 1), k, t, b, n, 2)
theorem seven {a1 a2 a3 a4 a5 a6 a7 b1 b2 b3 b4 b5 b6 b7 : Int} (h : some (a1, a2, a3, a4, a5, a6, a7) = some (b1, b2, b3, b4, b5, b6, b7)) : a1 = b1 ∧ a2 = b2 ∧ a3 = b3 ∧ a4 = b4 ∧ a5 = b5 ∧ a6 = b6 ∧ a7 = b7 := by
  injection h with h; simpa [Prod.mk.injEq] using h
theorem deque_steal.does (g h base : Nat) (ok : Nat → Prop) (A : Option Addr) (cp : Nat) (l : List Int) (tp bt : Int) (s : Bool) (k t b n e r1 r2 r3 r4 r5 r6 r7 : Int) (hr : deque_steal.r l tp bt k t b n e = some (r1, r2, r3, r4, r5, r6, r7)) (w : World)
    (hg : w.heap[g]? = some (.cells (qCells (.slice A l.length cp) tp bt) 24 (0, 0))) (hh : w.heap[h]? = some (.cells (tCells s k t b n e) 27 (0, 0))) (hR : Kd.R (Kd.int .i64) 3 w base ok (.slice A l.length cp) l) :
    Calls Tryd.prog 29 #[.pointer (some ⟨g, 0, none⟩), .pointer (some ⟨h, 0, none⟩)] w fun en w' => en = .returned (.tuple #[]) ∧ Two g h w w' ∧ w'.heap[g]? = some (.cells (qCells (.slice A l.length cp) r1 r2) 24 (0, 0)) ∧ w'.heap[h]? = some (.cells (tCells s r3 r4 r5 r6 r7) 27 (0, 0)) := by
  unfold deque_steal.r at hr
  by_cases c0 : k = 0
  · rw [if_pos c0] at hr
    subst c0
    obtain ⟨rfl, rfl, rfl, rfl, rfl, rfl, rfl⟩ := seven hr
    exact steal_0 g h _ _ _ s _ _ _ _ w hg hh
  rw [if_neg c0] at hr
  by_cases c1 : k = 1
  · rw [if_pos c1] at hr
    subst c1
    by_cases c : t ≥ bt
    · rw [if_pos c] at hr
      obtain ⟨rfl, rfl, rfl, rfl, rfl, rfl, rfl⟩ := seven hr
      exact steal_1e g h _ _ _ s _ _ _ _ c w hg hh
    · rw [if_neg c] at hr
      obtain ⟨rfl, rfl, rfl, rfl, rfl, rfl, rfl⟩ := seven hr
      exact steal_1o g h _ _ _ s _ _ _ _ c w hg hh
  rw [if_neg c1] at hr
  by_cases c2 : k = 2
  · rw [if_pos c2] at hr
    subst c2
    obtain ⟨p, hp, hr⟩ := Option.bind_eq_some_iff.mp hr
    by_cases hb : 0 ≤ p ∧ p < l.length
    · rw [if_pos hb] at hr
      obtain ⟨rfl, rfl, rfl, rfl, rfl, rfl, rfl⟩ := seven hr
      exact steal_2 g h base ok A cp l p _ _ s _ _ _ _ hp hb.1 hb.2 w hg hh hR
    · rw [if_neg hb] at hr; cases hr
  rw [if_neg c2] at hr
  by_cases c : tp = t
  · rw [if_pos c] at hr
    obtain ⟨rfl, rfl, rfl, rfl, rfl, rfl, rfl⟩ := seven hr
    exact steal_oy g h _ _ _ s _ _ _ _ _ c0 c1 c2 c w hg hh
  · rw [if_neg c] at hr
    obtain ⟨rfl, rfl, rfl, rfl, rfl, rfl, rfl⟩ := seven hr
    exact steal_on g h _ _ _ s _ _ _ _ _ c0 c1 c2 c w hg hh
theorem deque_pop.does (g h base : Nat) (ok : Nat → Prop) (A : Option Addr) (cp : Nat) (l : List Int) (tp bt : Int) (s : Bool) (k t b n e r1 r2 r3 r4 r5 r6 r7 : Int) (hr : deque_pop.r l tp bt k t b n e = some (r1, r2, r3, r4, r5, r6, r7)) (w : World)
    (hg : w.heap[g]? = some (.cells (qCells (.slice A l.length cp) tp bt) 24 (0, 0))) (hh : w.heap[h]? = some (.cells (tCells s k t b n e) 27 (0, 0))) (hR : Kd.R (Kd.int .i64) 3 w base ok (.slice A l.length cp) l) :
    Calls Tryd.prog 30 #[.pointer (some ⟨g, 0, none⟩), .pointer (some ⟨h, 0, none⟩)] w fun en w' => en = .returned (.tuple #[]) ∧ Two g h w w' ∧ w'.heap[g]? = some (.cells (qCells (.slice A l.length cp) r1 r2) 24 (0, 0)) ∧ w'.heap[h]? = some (.cells (tCells s r3 r4 r5 r6 r7) 27 (0, 0)) := by
  unfold deque_pop.r at hr
  by_cases c0 : k = 0
  · rw [if_pos c0] at hr
    subst c0
    obtain ⟨rfl, rfl, rfl, rfl, rfl, rfl, rfl⟩ := seven hr
    exact pop_0 g h _ _ _ s _ _ _ _ w hg hh
  rw [if_neg c0] at hr
  by_cases c1 : k = 1
  · rw [if_pos c1] at hr
    subst c1
    by_cases c : tp < b
    · rw [if_pos c] at hr
      obtain ⟨p, hp, hr⟩ := Option.bind_eq_some_iff.mp hr
      by_cases hb : 0 ≤ p ∧ p < l.length
      · rw [if_pos hb] at hr
        obtain ⟨rfl, rfl, rfl, rfl, rfl, rfl, rfl⟩ := seven hr
        exact pop_1l g h base ok A cp l p _ _ s _ _ _ _ c hp hb.1 hb.2 w hg hh hR
      · rw [if_neg hb] at hr; cases hr
    · rw [if_neg c] at hr
      by_cases c2 : tp = b
      · rw [if_pos c2] at hr
        obtain ⟨rfl, rfl, rfl, rfl, rfl, rfl, rfl⟩ := seven hr
        exact pop_1e g h _ _ _ s _ _ _ _ c c2 w hg hh
      · rw [if_neg c2] at hr
        obtain ⟨rfl, rfl, rfl, rfl, rfl, rfl, rfl⟩ := seven hr
        exact pop_1g g h _ _ _ s _ _ _ _ c c2 w hg hh
  rw [if_neg c1] at hr
  by_cases c2 : k = 2
  · rw [if_pos c2] at hr
    subst c2
    by_cases c : tp = t
    · rw [if_pos c] at hr
      obtain ⟨p, hp, hr⟩ := Option.bind_eq_some_iff.mp hr
      by_cases hb : 0 ≤ p ∧ p < l.length
      · rw [if_pos hb] at hr
        obtain ⟨rfl, rfl, rfl, rfl, rfl, rfl, rfl⟩ := seven hr
        exact pop_2y g h base ok A cp l p _ _ s _ _ _ _ c _ rfl hp hb.1 hb.2 w hg hh hR
      · rw [if_neg hb] at hr; cases hr
    · rw [if_neg c] at hr
      obtain ⟨rfl, rfl, rfl, rfl, rfl, rfl, rfl⟩ := seven hr
      exact pop_2n g h _ _ _ s _ _ _ _ c w hg hh
  rw [if_neg c2] at hr
  by_cases c : k = 4
  · rw [if_pos c] at hr
    obtain ⟨rfl, rfl, rfl, rfl, rfl, rfl, rfl⟩ := seven hr
    exact pop_o4 g h _ _ _ s _ _ _ _ _ c0 c1 c2 c w hg hh
  · rw [if_neg c] at hr
    obtain ⟨rfl, rfl, rfl, rfl, rfl, rfl, rfl⟩ := seven hr
    exact pop_oo g h _ _ _ s _ _ _ _ _ c0 c1 c2 c w hg hh
-- BREAK
set_option maxHeartbeats 8000000 in
theorem step_form (A0_0 : Option Addr) (c0_0 : Nat) (l0_0 : List Int) (a0_1 : Int) (a0_2 : Int) (a1_0 : Bool) (a1_1 : Int) (a1_2 : Int) (a1_3 : Int) (a1_4 : Int) (a1_5 : Int) (x : Int) (hx : deque_Check.f l0_0 a0_1 a0_2 = some x) (hx0 : ¬ x = 0) (w : World) (hr0_0 : Kd.C (Kd.int .i64) w A0_0 l0_0.length l0_0) (hc0_0 : l0_0.length ≤ c0_0) (hTab : TabOK w) :
    Calls Tryd.prog 9 #[.agg #[.slice A0_0 l0_0.length c0_0, .int .i64 a0_1, .int .i64 a0_2], .agg #[.bool a1_0, .int .i64 a1_1, .int .i64 a1_2, .int .i64 a1_3, .int .i64 a1_4, .int .i64 a1_5]] w fun e w' => ∃ v0_ : Value, e = .returned (.tuple #[.agg #[v0_, .int .i64 0, .int .i64 0], .agg #[.bool false, .int .i64 0, .int .i64 0, .int .i64 0, .int .i64 0, .int .i64 0], .int .i64 (x)]) ∧ Kd.R (Kd.int .i64) 3 w' w.heap.size (fun _ => True) v0_ [] ∧ Below w.heap.size w w' := by
  have HX := Lib.hid hx
  have hb0 : (x != 0) = true := by simpa using hx0
  clear hx hx0
  have HR := Lib.hid hr0_0
  have Hc := Lib.hid hc0_0
  have HTab := Lib.hid hTab
  clear hr0_0 hc0_0 hTab
  go_enter Tryd.func9, Tryd.ntmps9
  go_wp2_with (first | ((with_reducible refine gate_dst (N := 2) rfl ?_); refine box_event ?hg (N := 2) ?hd (cs := #[.slice A0_0 l0_0.length c0_0, .int .i64 a0_1, .int .i64 a0_2]) (t := 24) ?hr ?_; (case hd => rfl); (case hg => rfl); (case hr => first | (go_simp; done) | (go_simp; rfl)); intro kq hE_ w1 hbox hb; have Ekq := Lib.hid hE_; have Xkq := Lib.hid hbox; have Bkq := Lib.hid hb; clear hE_ hbox hb) | ((with_reducible refine gate_dst (N := 3) rfl ?_); refine box_event ?hg (N := 3) ?hd (cs := #[.bool a1_0, .int .i64 a1_1, .int .i64 a1_2, .int .i64 a1_3, .int .i64 a1_4, .int .i64 a1_5]) (t := 27) ?hr ?_; (case hd => rfl); (case hg => rfl); (case hr => first | (go_simp; done) | (go_simp; rfl)); intro kt hE_ w2 hbox hb; have Ekt := Lib.hid hE_; have Xkt := Lib.hid hbox; have Bkt := Lib.hid hb; clear hE_ hbox hb) | ((with_reducible refine gate_dst (N := 4) rfl ?_); refine box_event ?hg (N := 4) ?hd (cs := #[.slice none 0 0, .int .i64 0, .int .i64 0]) (t := 24) ?hr ?_; (case hd => rfl); (case hg => rfl); (case hr => first | (go_simp; done) | (go_simp; rfl)); intro kc hE_ w3 hbox hb; have Ekc := Lib.hid hE_; have Xkc := Lib.hid hbox; have Bkc := Lib.hid hb; clear hE_ hbox hb) | ((with_reducible refine gate_dst (N := 5) rfl ?_); refine box_event ?hg (N := 5) ?hd (cs := #[.bool false, .int .i64 0, .int .i64 0, .int .i64 0, .int .i64 0, .int .i64 0]) (t := 27) ?hr ?_; (case hd => rfl); (case hg => rfl); (case hr => first | (go_simp; done) | (go_simp; rfl)); intro kd hE_ w4 hbox hb; have Ekd := Lib.hid hE_; have Xkd := Lib.hid hbox; have Bkd := Lib.hid hb; clear hE_ hbox hb; have HF := Lib.hid (Four.make Bkq.out Bkt.out Bkc.out Bkd.out Ekq.out Ekt.out Ekc.out Ekd.out Xkq.out Xkt.out Xkc.out Xkd.out); clear Bkq Bkt Bkc Bkd Ekq Ekt Ekc Ekd Xkq Xkt Xkc Xkd; have g0 : w4.cell? ⟨kq, 0, none⟩ = some (.slice A0_0 l0_0.length c0_0) := (blk_cell HF.out.bg 0).trans rfl; have g1 : w4.cell? ⟨kq, 1, none⟩ = some (.int .i64 a0_1) := (blk_cell HF.out.bg 1).trans rfl; have g2 : w4.cell? ⟨kq, 2, none⟩ = some (.int .i64 a0_2) := (blk_cell HF.out.bg 2).trans rfl) | (go_at_call 23; refine Calls.mono (deque_Check.calls A0_0 c0_0 l0_0 a0_1 a0_2 x _ ?_ ?_ HX.out (TabOK.below HTab.out (by repeat (first | exact HF.out.B | apply below_drew1 | apply pw_below_drewN)))) ?_; exact Kd.C_below HR.out (by repeat (first | exact HF.out.B | apply below_drew1 | apply pw_below_drewN)); exact Hc.out; rintro _ w5 ⟨rfl, hb⟩; have HF5 := Lib.hid (Four.below (by repeat (first | exact HF.out | apply Four.drew | apply Four.drewN)) hb); clear HF; clear hb; clear g0 g1 g2) | ((with_reducible refine gate_store (t := 24) (p := 4) (v := .tmp 13) ?hgs ?_); (case hgs => rfl); have HL_ := HF5.out; refine wpList_store_row rfl rfl 24 4 (.tmp 13) rfl kc rfl #[.slice none 0 0, .int .i64 0, .int .i64 0] #[.slice none 0 0, .int .i64 0, .int .i64 0] 24 (HL_).bc (by rfl) (by kernel_rfl) rfl (by rfl) (fun W_ => Four w kq kt kc kd #[.slice A0_0 l0_0.length c0_0, .int .i64 a0_1, .int .i64 a0_2] #[.bool a1_0, .int .i64 a1_1, .int .i64 a1_2, .int .i64 a1_3, .int .i64 a1_4, .int .i64 a1_5] #[.slice none 0 0, .int .i64 0, .int .i64 0] #[.bool false, .int .i64 0, .int .i64 0, .int .i64 0, .int .i64 0, .int .i64 0] W_) (HL_.rowC #[.slice none 0 0, .int .i64 0, .int .i64 0]) ?_; clear HL_; intro w5c he; have HC_ := Lib.hid he; clear he HF5) | ((with_reducible refine gate_store (t := 27) (p := 5) (v := .tmp 14) ?hgs ?_); (case hgs => rfl); have HL_ := HC_.out; refine wpList_store_row rfl rfl 27 5 (.tmp 14) rfl kd rfl #[.bool false, .int .i64 0, .int .i64 0, .int .i64 0, .int .i64 0, .int .i64 0] #[.bool false, .int .i64 0, .int .i64 0, .int .i64 0, .int .i64 0, .int .i64 0] 27 (HL_).bd (by rfl) (by kernel_rfl) rfl (by rfl) (fun W_ => Four w kq kt kc kd #[.slice A0_0 l0_0.length c0_0, .int .i64 a0_1, .int .i64 a0_2] #[.bool a1_0, .int .i64 a1_1, .int .i64 a1_2, .int .i64 a1_3, .int .i64 a1_4, .int .i64 a1_5] #[.slice none 0 0, .int .i64 0, .int .i64 0] #[.bool false, .int .i64 0, .int .i64 0, .int .i64 0, .int .i64 0, .int .i64 0] W_) (HL_.rowD #[.bool false, .int .i64 0, .int .i64 0, .int .i64 0, .int .i64 0, .int .i64 0]) ?_; clear HL_; intro w5d he; have HD_ := Lib.hid he; clear he HC_))
  have HZ := Lib.hid (show Four w kq kt kc kd _ _ #[.slice none 0 0, .int .i64 0, .int .i64 0] #[.bool false, .int .i64 0, .int .i64 0, .int .i64 0, .int .i64 0, .int .i64 0] _ by with_reducible repeat (first | exact HD_.out | refine Four.drew ?_ | refine Four.drewN ?_ _))
  refine bodyPost_ret (results_list (rs := [.cell 4 24, .cell 5 27, .tmp 6]) rfl (by simp) (.cell kc 24 _ (0, 0) _ rfl HZ.out.bc Tryd.underlying24 rfl (by kernel_rfl) (.cell kd 27 _ (0, 0) _ rfl HZ.out.bd Tryd.underlying27 rfl (by kernel_rfl) (.tmp .nil)))) rfl ?_
  exact ⟨_, rfl, Kd.R_nil _ _ _ _ _, HZ.out.B⟩

-- BREAK
set_option maxHeartbeats 8000000 in
theorem step_over (A0_0 : Option Addr) (c0_0 : Nat) (l0_0 : List Int) (a0_1 : Int) (a0_2 : Int) (a1_0 : Bool) (a1_1 : Int) (a1_2 : Int) (a1_3 : Int) (a1_4 : Int) (a1_5 : Int) (hx : deque_Check.f l0_0 a0_1 a0_2 = some 0) (ho : deque_open.f a1_0 a1_1 a1_2 a1_3 a1_4 a1_5 = some false) (w : World) (hr0_0 : Kd.C (Kd.int .i64) w A0_0 l0_0.length l0_0) (hc0_0 : l0_0.length ≤ c0_0) (hTab : TabOK w) :
    Calls Tryd.prog 9 #[.agg #[.slice A0_0 l0_0.length c0_0, .int .i64 a0_1, .int .i64 a0_2], .agg #[.bool a1_0, .int .i64 a1_1, .int .i64 a1_2, .int .i64 a1_3, .int .i64 a1_4, .int .i64 a1_5]] w fun e w' => ∃ v0_ : Value, e = .returned (.tuple #[.agg #[v0_, .int .i64 0, .int .i64 0], .agg #[.bool false, .int .i64 0, .int .i64 0, .int .i64 0, .int .i64 0, .int .i64 0], .int .i64 (122)]) ∧ Kd.R (Kd.int .i64) 3 w' w.heap.size (fun _ => True) v0_ [] ∧ Below w.heap.size w w' := by
  have HX := Lib.hid hx
  have HO := Lib.hid ho
  clear hx ho
  have HR := Lib.hid hr0_0
  have Hc := Lib.hid hc0_0
  have HTab := Lib.hid hTab
  clear hr0_0 hc0_0 hTab
  go_enter Tryd.func9, Tryd.ntmps9
  go_wp2_with (first | ((with_reducible refine gate_dst (N := 2) rfl ?_); refine box_event ?hg (N := 2) ?hd (cs := #[.slice A0_0 l0_0.length c0_0, .int .i64 a0_1, .int .i64 a0_2]) (t := 24) ?hr ?_; (case hd => rfl); (case hg => rfl); (case hr => first | (go_simp; done) | (go_simp; rfl)); intro kq hE_ w1 hbox hb; have Ekq := Lib.hid hE_; have Xkq := Lib.hid hbox; have Bkq := Lib.hid hb; clear hE_ hbox hb) | ((with_reducible refine gate_dst (N := 3) rfl ?_); refine box_event ?hg (N := 3) ?hd (cs := #[.bool a1_0, .int .i64 a1_1, .int .i64 a1_2, .int .i64 a1_3, .int .i64 a1_4, .int .i64 a1_5]) (t := 27) ?hr ?_; (case hd => rfl); (case hg => rfl); (case hr => first | (go_simp; done) | (go_simp; rfl)); intro kt hE_ w2 hbox hb; have Ekt := Lib.hid hE_; have Xkt := Lib.hid hbox; have Bkt := Lib.hid hb; clear hE_ hbox hb) | ((with_reducible refine gate_dst (N := 4) rfl ?_); refine box_event ?hg (N := 4) ?hd (cs := #[.slice none 0 0, .int .i64 0, .int .i64 0]) (t := 24) ?hr ?_; (case hd => rfl); (case hg => rfl); (case hr => first | (go_simp; done) | (go_simp; rfl)); intro kc hE_ w3 hbox hb; have Ekc := Lib.hid hE_; have Xkc := Lib.hid hbox; have Bkc := Lib.hid hb; clear hE_ hbox hb) | ((with_reducible refine gate_dst (N := 5) rfl ?_); refine box_event ?hg (N := 5) ?hd (cs := #[.bool false, .int .i64 0, .int .i64 0, .int .i64 0, .int .i64 0, .int .i64 0]) (t := 27) ?hr ?_; (case hd => rfl); (case hg => rfl); (case hr => first | (go_simp; done) | (go_simp; rfl)); intro kd hE_ w4 hbox hb; have Ekd := Lib.hid hE_; have Xkd := Lib.hid hbox; have Bkd := Lib.hid hb; clear hE_ hbox hb; have HF := Lib.hid (Four.make Bkq.out Bkt.out Bkc.out Bkd.out Ekq.out Ekt.out Ekc.out Ekd.out Xkq.out Xkt.out Xkc.out Xkd.out); clear Bkq Bkt Bkc Bkd Ekq Ekt Ekc Ekd Xkq Xkt Xkc Xkd; have g0 : w4.cell? ⟨kq, 0, none⟩ = some (.slice A0_0 l0_0.length c0_0) := (blk_cell HF.out.bg 0).trans rfl; have g1 : w4.cell? ⟨kq, 1, none⟩ = some (.int .i64 a0_1) := (blk_cell HF.out.bg 1).trans rfl; have g2 : w4.cell? ⟨kq, 2, none⟩ = some (.int .i64 a0_2) := (blk_cell HF.out.bg 2).trans rfl) | (go_at_call 23; refine Calls.mono (deque_Check.calls A0_0 c0_0 l0_0 a0_1 a0_2 0 _ ?_ ?_ HX.out (TabOK.below HTab.out (by repeat (first | exact HF.out.B | apply below_drew1 | apply pw_below_drewN)))) ?_; exact Kd.C_below HR.out (by repeat (first | exact HF.out.B | apply below_drew1 | apply pw_below_drewN)); exact Hc.out; rintro _ w5 ⟨rfl, hb⟩; have HF5 := Lib.hid (Four.below (by repeat (first | exact HF.out | apply Four.drew | apply Four.drewN)) hb); clear HF; clear hb; clear g0 g1 g2; have h0 : w5.cell? ⟨kt, 0, none⟩ = some (.bool a1_0) := (blk_cell HF5.out.bh 0).trans rfl; have h1 : w5.cell? ⟨kt, 1, none⟩ = some (.int .i64 a1_1) := (blk_cell HF5.out.bh 1).trans rfl; have h2 : w5.cell? ⟨kt, 2, none⟩ = some (.int .i64 a1_2) := (blk_cell HF5.out.bh 2).trans rfl; have h3 : w5.cell? ⟨kt, 3, none⟩ = some (.int .i64 a1_3) := (blk_cell HF5.out.bh 3).trans rfl; have h4 : w5.cell? ⟨kt, 4, none⟩ = some (.int .i64 a1_4) := (blk_cell HF5.out.bh 4).trans rfl; have h5 : w5.cell? ⟨kt, 5, none⟩ = some (.int .i64 a1_5) := (blk_cell HF5.out.bh 5).trans rfl) | (go_at_call 27; refine Calls.mono (deque_open.calls a1_0 a1_1 a1_2 a1_3 a1_4 a1_5 false _ HO.out) ?_; rintro _ w6 ⟨rfl, hb⟩; have HF6 := Lib.hid (show Four w kq kt kc kd #[.slice A0_0 l0_0.length c0_0, .int .i64 a0_1, .int .i64 a0_2] #[.bool a1_0, .int .i64 a1_1, .int .i64 a1_2, .int .i64 a1_3, .int .i64 a1_4, .int .i64 a1_5] #[.slice none 0 0, .int .i64 0, .int .i64 0] #[.bool false, .int .i64 0, .int .i64 0, .int .i64 0, .int .i64 0, .int .i64 0] w6 from Four.below (by with_reducible repeat (first | exact HF5.out | refine Four.drew ?_ | refine Four.drewN ?_ _)) hb); clear HF5 hb h0 h1 h2 h3 h4 h5) | ((with_reducible refine gate_store (t := 24) (p := 4) (v := .tmp 19) ?hgs ?_); (case hgs => rfl); have HL_ := HF6.out; refine wpList_store_row rfl rfl 24 4 (.tmp 19) rfl kc rfl #[.slice none 0 0, .int .i64 0, .int .i64 0] #[.slice none 0 0, .int .i64 0, .int .i64 0] 24 (HL_).bc (by rfl) (by kernel_rfl) rfl (by rfl) (fun W_ => Four w kq kt kc kd #[.slice A0_0 l0_0.length c0_0, .int .i64 a0_1, .int .i64 a0_2] #[.bool a1_0, .int .i64 a1_1, .int .i64 a1_2, .int .i64 a1_3, .int .i64 a1_4, .int .i64 a1_5] #[.slice none 0 0, .int .i64 0, .int .i64 0] #[.bool false, .int .i64 0, .int .i64 0, .int .i64 0, .int .i64 0, .int .i64 0] W_) (HL_.rowC #[.slice none 0 0, .int .i64 0, .int .i64 0]) ?_; clear HL_; intro w6c he; have HC_ := Lib.hid he; clear he HF6) | ((with_reducible refine gate_store (t := 27) (p := 5) (v := .tmp 20) ?hgs ?_); (case hgs => rfl); have HL_ := HC_.out; refine wpList_store_row rfl rfl 27 5 (.tmp 20) rfl kd rfl #[.bool false, .int .i64 0, .int .i64 0, .int .i64 0, .int .i64 0, .int .i64 0] #[.bool false, .int .i64 0, .int .i64 0, .int .i64 0, .int .i64 0, .int .i64 0] 27 (HL_).bd (by rfl) (by kernel_rfl) rfl (by rfl) (fun W_ => Four w kq kt kc kd #[.slice A0_0 l0_0.length c0_0, .int .i64 a0_1, .int .i64 a0_2] #[.bool a1_0, .int .i64 a1_1, .int .i64 a1_2, .int .i64 a1_3, .int .i64 a1_4, .int .i64 a1_5] #[.slice none 0 0, .int .i64 0, .int .i64 0] #[.bool false, .int .i64 0, .int .i64 0, .int .i64 0, .int .i64 0, .int .i64 0] W_) (HL_.rowD #[.bool false, .int .i64 0, .int .i64 0, .int .i64 0, .int .i64 0, .int .i64 0]) ?_; clear HL_; intro w6d he; have HD_ := Lib.hid he; clear he HC_))
  have HZ := Lib.hid (show Four w kq kt kc kd _ _ #[.slice none 0 0, .int .i64 0, .int .i64 0] #[.bool false, .int .i64 0, .int .i64 0, .int .i64 0, .int .i64 0, .int .i64 0] _ by with_reducible repeat (first | exact HD_.out | refine Four.drew ?_ | refine Four.drewN ?_ _))
  refine bodyPost_ret (results_list (rs := [.cell 4 24, .cell 5 27, .tmp 6]) rfl (by simp) (.cell kc 24 _ (0, 0) _ rfl HZ.out.bc Tryd.underlying24 rfl (by kernel_rfl) (.cell kd 27 _ (0, 0) _ rfl HZ.out.bd Tryd.underlying27 rfl (by kernel_rfl) (.tmp .nil)))) rfl ?_
  exact ⟨_, rfl, Kd.R_nil _ _ _ _ _, HZ.out.B⟩

-- BREAK
set_option maxHeartbeats 8000000 in
theorem step_late_steal (A0_0 : Option Addr) (c0_0 : Nat) (l0_0 : List Int) (a0_1 : Int) (a0_2 : Int) (a1_1 : Int) (a1_2 : Int) (a1_3 : Int) (a1_4 : Int) (a1_5 : Int) (x : Int) (r1 r2 r3 r4 r5 r6 r7 : Int) (hx : deque_Check.f l0_0 a0_1 a0_2 = some 0) (ho : deque_open.f true a1_1 a1_2 a1_3 a1_4 a1_5 = some true) (hw : deque_own.f l0_0 a0_1 a0_2 = some (l0_0, a0_1, a0_2)) (hd : deque_steal.r l0_0 a0_1 a0_2 a1_1 a1_2 a1_3 a1_4 a1_5 = some (r1, r2, r3, r4, r5, r6, r7)) (hy : deque_Check.f l0_0 r1 r2 = some x) (hx0 : ¬ x = 0) (w : World) (hr0_0 : Kd.C (Kd.int .i64) w A0_0 l0_0.length l0_0) (hc0_0 : l0_0.length ≤ c0_0) (hTab : TabOK w) :
    Calls Tryd.prog 9 #[.agg #[.slice A0_0 l0_0.length c0_0, .int .i64 a0_1, .int .i64 a0_2], .agg #[.bool true, .int .i64 a1_1, .int .i64 a1_2, .int .i64 a1_3, .int .i64 a1_4, .int .i64 a1_5]] w fun e w' => ∃ v0_ : Value, e = .returned (.tuple #[.agg #[v0_, .int .i64 0, .int .i64 0], .agg #[.bool false, .int .i64 0, .int .i64 0, .int .i64 0, .int .i64 0, .int .i64 0], .int .i64 (x)]) ∧ Kd.R (Kd.int .i64) 3 w' w.heap.size (fun _ => True) v0_ [] ∧ Below w.heap.size w w' := by
  have hb0 : (x != 0) = true := by simpa using hx0
  clear hx0
  have HX := Lib.hid hx
  have HO := Lib.hid ho
  have HW := Lib.hid hw
  have HD := Lib.hid hd
  have HY := Lib.hid hy
  clear hx ho hw hd hy
  have HR := Lib.hid hr0_0
  have Hc := Lib.hid hc0_0
  have HTab := Lib.hid hTab
  clear hr0_0 hc0_0 hTab
  go_enter Tryd.func9, Tryd.ntmps9
  go_wp2_with (first | ((with_reducible refine gate_dst (N := 2) rfl ?_); refine box_event ?hg (N := 2) ?hd (cs := #[.slice A0_0 l0_0.length c0_0, .int .i64 a0_1, .int .i64 a0_2]) (t := 24) ?hr ?_; (case hd => rfl); (case hg => rfl); (case hr => first | (go_simp; done) | (go_simp; rfl)); intro kq hE_ w1 hbox hb; have Ekq := Lib.hid hE_; have Xkq := Lib.hid hbox; have Bkq := Lib.hid hb; clear hE_ hbox hb) | ((with_reducible refine gate_dst (N := 3) rfl ?_); refine box_event ?hg (N := 3) ?hd (cs := #[.bool true, .int .i64 a1_1, .int .i64 a1_2, .int .i64 a1_3, .int .i64 a1_4, .int .i64 a1_5]) (t := 27) ?hr ?_; (case hd => rfl); (case hg => rfl); (case hr => first | (go_simp; done) | (go_simp; rfl)); intro kt hE_ w2 hbox hb; have Ekt := Lib.hid hE_; have Xkt := Lib.hid hbox; have Bkt := Lib.hid hb; clear hE_ hbox hb) | ((with_reducible refine gate_dst (N := 4) rfl ?_); refine box_event ?hg (N := 4) ?hd (cs := #[.slice none 0 0, .int .i64 0, .int .i64 0]) (t := 24) ?hr ?_; (case hd => rfl); (case hg => rfl); (case hr => first | (go_simp; done) | (go_simp; rfl)); intro kc hE_ w3 hbox hb; have Ekc := Lib.hid hE_; have Xkc := Lib.hid hbox; have Bkc := Lib.hid hb; clear hE_ hbox hb) | ((with_reducible refine gate_dst (N := 5) rfl ?_); refine box_event ?hg (N := 5) ?hd (cs := #[.bool false, .int .i64 0, .int .i64 0, .int .i64 0, .int .i64 0, .int .i64 0]) (t := 27) ?hr ?_; (case hd => rfl); (case hg => rfl); (case hr => first | (go_simp; done) | (go_simp; rfl)); intro kd hE_ w4 hbox hb; have Ekd := Lib.hid hE_; have Xkd := Lib.hid hbox; have Bkd := Lib.hid hb; clear hE_ hbox hb; have HF := Lib.hid (Four.make Bkq.out Bkt.out Bkc.out Bkd.out Ekq.out Ekt.out Ekc.out Ekd.out Xkq.out Xkt.out Xkc.out Xkd.out); clear Bkq Bkt Bkc Bkd Ekq Ekt Ekc Ekd Xkq Xkt Xkc Xkd; have g0 : w4.cell? ⟨kq, 0, none⟩ = some (.slice A0_0 l0_0.length c0_0) := (blk_cell HF.out.bg 0).trans rfl; have g1 : w4.cell? ⟨kq, 1, none⟩ = some (.int .i64 a0_1) := (blk_cell HF.out.bg 1).trans rfl; have g2 : w4.cell? ⟨kq, 2, none⟩ = some (.int .i64 a0_2) := (blk_cell HF.out.bg 2).trans rfl) | (go_at_call 23; refine Calls.mono (deque_Check.calls A0_0 c0_0 l0_0 a0_1 a0_2 0 _ ?_ ?_ HX.out (TabOK.below HTab.out (by repeat (first | exact HF.out.B | apply below_drew1 | apply pw_below_drewN)))) ?_; exact Kd.C_below HR.out (by repeat (first | exact HF.out.B | apply below_drew1 | apply pw_below_drewN)); exact Hc.out; rintro _ w5 ⟨rfl, hb⟩; have HF5 := Lib.hid (Four.below (by repeat (first | exact HF.out | apply Four.drew | apply Four.drewN)) hb); clear HF; clear hb; clear g0 g1 g2; have h0 : w5.cell? ⟨kt, 0, none⟩ = some (.bool true) := (blk_cell HF5.out.bh 0).trans rfl; have h1 : w5.cell? ⟨kt, 1, none⟩ = some (.int .i64 a1_1) := (blk_cell HF5.out.bh 1).trans rfl; have h2 : w5.cell? ⟨kt, 2, none⟩ = some (.int .i64 a1_2) := (blk_cell HF5.out.bh 2).trans rfl; have h3 : w5.cell? ⟨kt, 3, none⟩ = some (.int .i64 a1_3) := (blk_cell HF5.out.bh 3).trans rfl; have h4 : w5.cell? ⟨kt, 4, none⟩ = some (.int .i64 a1_4) := (blk_cell HF5.out.bh 4).trans rfl; have h5 : w5.cell? ⟨kt, 5, none⟩ = some (.int .i64 a1_5) := (blk_cell HF5.out.bh 5).trans rfl) | (go_at_call 27; refine Calls.mono (deque_open.calls true a1_1 a1_2 a1_3 a1_4 a1_5 true _ HO.out) ?_; rintro _ w6 ⟨rfl, hb⟩; have HF6 := Lib.hid (show Four w kq kt kc kd #[.slice A0_0 l0_0.length c0_0, .int .i64 a0_1, .int .i64 a0_2] #[.bool true, .int .i64 a1_1, .int .i64 a1_2, .int .i64 a1_3, .int .i64 a1_4, .int .i64 a1_5] #[.slice none 0 0, .int .i64 0, .int .i64 0] #[.bool false, .int .i64 0, .int .i64 0, .int .i64 0, .int .i64 0, .int .i64 0] w6 from Four.below (by with_reducible repeat (first | exact HF5.out | refine Four.drew ?_ | refine Four.drewN ?_ _)) hb); clear HF5 hb h0 h1 h2 h3 h4 h5; have g0 : w6.cell? ⟨kq, 0, none⟩ = some (.slice A0_0 l0_0.length c0_0) := (blk_cell HF6.out.bg 0).trans rfl; have g1 : w6.cell? ⟨kq, 1, none⟩ = some (.int .i64 a0_1) := (blk_cell HF6.out.bg 1).trans rfl; have g2 : w6.cell? ⟨kq, 2, none⟩ = some (.int .i64 a0_2) := (blk_cell HF6.out.bg 2).trans rfl) | (go_at_call 28; refine Calls.mono (deque_own.calls A0_0 c0_0 l0_0 a0_1 a0_2 l0_0 a0_1 a0_2 _ ?_ ?_ HW.out) ?_; exact Kd.C_below HR.out (Four.B (by with_reducible repeat (first | exact HF6.out | refine Four.drew ?_ | refine Four.drewN ?_ _))); exact Hc.out; rintro _ w7 ⟨vo, rfl, hR0, hb⟩; have HF7 := Lib.hid (show Four w kq kt kc kd #[.slice A0_0 l0_0.length c0_0, .int .i64 a0_1, .int .i64 a0_2] #[.bool true, .int .i64 a1_1, .int .i64 a1_2, .int .i64 a1_3, .int .i64 a1_4, .int .i64 a1_5] #[.slice none 0 0, .int .i64 0, .int .i64 0] #[.bool false, .int .i64 0, .int .i64 0, .int .i64 0, .int .i64 0, .int .i64 0] w7 from Four.below (by with_reducible repeat (first | exact HF6.out | refine Four.drew ?_ | refine Four.drewN ?_ _)) hb); obtain ⟨Ao, co, rfl⟩ := Kd.R_slice hR0; have HR7 := Lib.hid (Kd.R_lower hR0 (Four.B (by with_reducible repeat (first | exact HF6.out | refine Four.drew ?_ | refine Four.drewN ?_ _))).size); clear HF6 hb hR0 g0 g1 g2) | ((with_reducible refine gate_store (t := 24) (p := 2) (v := .tmp 22) ?hgs ?_); (case hgs => rfl); refine wpList_store_row rfl rfl 24 2 (.tmp 22) rfl kq rfl #[.slice Ao l0_0.length co, .int .i64 a0_1, .int .i64 a0_2] #[.slice A0_0 l0_0.length c0_0, .int .i64 a0_1, .int .i64 a0_2] 24 HF7.out.bg (by rfl) (by kernel_rfl) rfl (by rfl) (fun W_ => Four w kq kt kc kd #[.slice Ao l0_0.length co, .int .i64 a0_1, .int .i64 a0_2] #[.bool true, .int .i64 a1_1, .int .i64 a1_2, .int .i64 a1_3, .int .i64 a1_4, .int .i64 a1_5] #[.slice none 0 0, .int .i64 0, .int .i64 0] #[.bool false, .int .i64 0, .int .i64 0, .int .i64 0, .int .i64 0, .int .i64 0] W_ ∧ Kd.R (Kd.int .i64) 3 W_ w.heap.size (fun _ => True) (.slice Ao l0_0.length co) l0_0) ⟨HF7.out.rowG #[.slice Ao l0_0.length co, .int .i64 a0_1, .int .i64 a0_2], R_row_ HR7.out HF7.out.bg (by decide) _⟩ ?_; rintro w8 ⟨he, hR8⟩; have HF8 := Lib.hid he; have HR8 := Lib.hid hR8; clear he hR8 HF7 HR7; have h0 : w8.cell? ⟨kt, 0, none⟩ = some (.bool true) := (blk_cell HF8.out.bh 0).trans rfl))
  rename_i K1 hK1 K2 hK2
  refine Calls.mono (deque_steal.does kq kt w.heap.size (fun _ => True) Ao co l0_0 a0_1 a0_2 true a1_1 a1_2 a1_3 a1_4 a1_5 r1 r2 r3 r4 r5 r6 r7 HD.out _ (Four.bg (by with_reducible repeat (first | exact HF8.out | refine Four.drew ?_ | refine Four.drewN ?_ _))) (Four.bh (by with_reducible repeat (first | exact HF8.out | refine Four.drew ?_ | refine Four.drewN ?_ _))) ?_) ?_
  (repeat (first | exact HR8.out | refine Kd.R_drew ?_ | refine Kd.R_drewN ?_ _))
  rintro _ w9 ⟨rfl, ht, hg9, hh9⟩
  have HF9 := Lib.hid (show Four w kq kt kc kd #[.slice Ao l0_0.length co, .int .i64 r1, .int .i64 r2] #[.bool true, .int .i64 r3, .int .i64 r4, .int .i64 r5, .int .i64 r6, .int .i64 r7] #[.slice none 0 0, .int .i64 0, .int .i64 0] #[.bool false, .int .i64 0, .int .i64 0, .int .i64 0, .int .i64 0, .int .i64 0] w9 from Four.two (by with_reducible repeat (first | exact HF8.out | refine Four.drew ?_ | refine Four.drewN ?_ _)) ht hg9 hh9)
  have HR9 := Lib.hid (R_two ht (Four.bg (by with_reducible repeat (first | exact HF8.out | refine Four.drew ?_ | refine Four.drewN ?_ _))) (Four.bh (by with_reducible repeat (first | exact HF8.out | refine Four.drew ?_ | refine Four.drewN ?_ _))) (by repeat (first | exact HR8.out | refine Kd.R_drew ?_ | refine Kd.R_drewN ?_ _)))
  clear HF8 HR8 ht hg9 hh9 h0
  have g0 : w9.cell? ⟨kq, 0, none⟩ = some (.slice Ao l0_0.length co) := (blk_cell HF9.out.bg 0).trans rfl
  have g1 : w9.cell? ⟨kq, 1, none⟩ = some (.int .i64 r1) := (blk_cell HF9.out.bg 1).trans rfl
  have g2 : w9.cell? ⟨kq, 2, none⟩ = some (.int .i64 r2) := (blk_cell HF9.out.bg 2).trans rfl
  show K2 _ w9
  refine hK2 _ _ ?_
  show K1 _ w9
  refine hK1 _ _ ?_
  go_wp2_with (first | (go_at_call 23; refine Calls.mono (deque_Check.calls Ao co l0_0 r1 r2 x _ ?_ ?_ HY.out (TabOK.below HTab.out (Four.B (by with_reducible repeat (first | exact HF9.out | refine Four.drew ?_ | refine Four.drewN ?_ _))))) ?_; exact (ring_ (by repeat (first | exact HR9.out | refine Kd.R_drew ?_ | refine Kd.R_drewN ?_ _))).2; exact (ring_ HR9.out).1; rintro _ wa ⟨rfl, hb⟩; have HFa := Lib.hid (show Four w kq kt kc kd #[.slice Ao l0_0.length co, .int .i64 r1, .int .i64 r2] #[.bool true, .int .i64 r3, .int .i64 r4, .int .i64 r5, .int .i64 r6, .int .i64 r7] #[.slice none 0 0, .int .i64 0, .int .i64 0] #[.bool false, .int .i64 0, .int .i64 0, .int .i64 0, .int .i64 0, .int .i64 0] wa from Four.below (by with_reducible repeat (first | exact HF9.out | refine Four.drew ?_ | refine Four.drewN ?_ _)) hb); have HRa := Lib.hid (Kd.R_below (by repeat (first | exact HR9.out | refine Kd.R_drew ?_ | refine Kd.R_drewN ?_ _)) hb); clear HF9 HR9 hb g0 g1 g2; skip) | ((with_reducible refine gate_store (t := 24) (p := 4) (v := .tmp 31) ?hgs ?_); (case hgs => rfl); have HL_ := HFa.out; refine wpList_store_row rfl rfl 24 4 (.tmp 31) rfl kc rfl #[.slice none 0 0, .int .i64 0, .int .i64 0] #[.slice none 0 0, .int .i64 0, .int .i64 0] 24 (HL_).bc (by rfl) (by kernel_rfl) rfl (by rfl) (fun W_ => Four w kq kt kc kd #[.slice Ao l0_0.length co, .int .i64 r1, .int .i64 r2] #[.bool true, .int .i64 r3, .int .i64 r4, .int .i64 r5, .int .i64 r6, .int .i64 r7] #[.slice none 0 0, .int .i64 0, .int .i64 0] #[.bool false, .int .i64 0, .int .i64 0, .int .i64 0, .int .i64 0, .int .i64 0] W_) (HL_.rowC #[.slice none 0 0, .int .i64 0, .int .i64 0]) ?_; clear HL_; intro wac he; have HC_ := Lib.hid he; clear he HFa) | ((with_reducible refine gate_store (t := 27) (p := 5) (v := .tmp 32) ?hgs ?_); (case hgs => rfl); have HL_ := HC_.out; refine wpList_store_row rfl rfl 27 5 (.tmp 32) rfl kd rfl #[.bool false, .int .i64 0, .int .i64 0, .int .i64 0, .int .i64 0, .int .i64 0] #[.bool false, .int .i64 0, .int .i64 0, .int .i64 0, .int .i64 0, .int .i64 0] 27 (HL_).bd (by rfl) (by kernel_rfl) rfl (by rfl) (fun W_ => Four w kq kt kc kd #[.slice Ao l0_0.length co, .int .i64 r1, .int .i64 r2] #[.bool true, .int .i64 r3, .int .i64 r4, .int .i64 r5, .int .i64 r6, .int .i64 r7] #[.slice none 0 0, .int .i64 0, .int .i64 0] #[.bool false, .int .i64 0, .int .i64 0, .int .i64 0, .int .i64 0, .int .i64 0] W_) (HL_.rowD #[.bool false, .int .i64 0, .int .i64 0, .int .i64 0, .int .i64 0, .int .i64 0]) ?_; clear HL_; intro wad he; have HD_ := Lib.hid he; clear he HC_))
  have HZ := Lib.hid (show Four w kq kt kc kd _ _ #[.slice none 0 0, .int .i64 0, .int .i64 0] #[.bool false, .int .i64 0, .int .i64 0, .int .i64 0, .int .i64 0, .int .i64 0] _ by with_reducible repeat (first | exact HD_.out | refine Four.drew ?_ | refine Four.drewN ?_ _))
  refine bodyPost_ret (results_list (rs := [.cell 4 24, .cell 5 27, .tmp 6]) rfl (by simp) (.cell kc 24 _ (0, 0) _ rfl HZ.out.bc Tryd.underlying24 rfl (by kernel_rfl) (.cell kd 27 _ (0, 0) _ rfl HZ.out.bd Tryd.underlying27 rfl (by kernel_rfl) (.tmp .nil)))) rfl ?_
  exact ⟨_, rfl, Kd.R_nil _ _ _ _ _, HZ.out.B⟩

-- BREAK
set_option maxHeartbeats 8000000 in
theorem step_ok_steal (A0_0 : Option Addr) (c0_0 : Nat) (l0_0 : List Int) (a0_1 : Int) (a0_2 : Int) (a1_1 : Int) (a1_2 : Int) (a1_3 : Int) (a1_4 : Int) (a1_5 : Int) (r1 r2 r3 r4 r5 r6 r7 : Int) (hx : deque_Check.f l0_0 a0_1 a0_2 = some 0) (ho : deque_open.f true a1_1 a1_2 a1_3 a1_4 a1_5 = some true) (hw : deque_own.f l0_0 a0_1 a0_2 = some (l0_0, a0_1, a0_2)) (hd : deque_steal.r l0_0 a0_1 a0_2 a1_1 a1_2 a1_3 a1_4 a1_5 = some (r1, r2, r3, r4, r5, r6, r7)) (hy : deque_Check.f l0_0 r1 r2 = some 0) (w : World) (hr0_0 : Kd.C (Kd.int .i64) w A0_0 l0_0.length l0_0) (hc0_0 : l0_0.length ≤ c0_0) (hTab : TabOK w) :
    Calls Tryd.prog 9 #[.agg #[.slice A0_0 l0_0.length c0_0, .int .i64 a0_1, .int .i64 a0_2], .agg #[.bool true, .int .i64 a1_1, .int .i64 a1_2, .int .i64 a1_3, .int .i64 a1_4, .int .i64 a1_5]] w fun e w' => ∃ v0_ : Value, e = .returned (.tuple #[.agg #[v0_, .int .i64 r1, .int .i64 r2], .agg #[.bool true, .int .i64 r3, .int .i64 r4, .int .i64 r5, .int .i64 r6, .int .i64 r7], .int .i64 0]) ∧ Kd.R (Kd.int .i64) 3 w' w.heap.size (fun _ => True) v0_ l0_0 ∧ Below w.heap.size w w' := by
  have HX := Lib.hid hx
  have HO := Lib.hid ho
  have HW := Lib.hid hw
  have HD := Lib.hid hd
  have HY := Lib.hid hy
  clear hx ho hw hd hy
  have HR := Lib.hid hr0_0
  have Hc := Lib.hid hc0_0
  have HTab := Lib.hid hTab
  clear hr0_0 hc0_0 hTab
  go_enter Tryd.func9, Tryd.ntmps9
  go_wp2_with (first | ((with_reducible refine gate_dst (N := 2) rfl ?_); refine box_event ?hg (N := 2) ?hd (cs := #[.slice A0_0 l0_0.length c0_0, .int .i64 a0_1, .int .i64 a0_2]) (t := 24) ?hr ?_; (case hd => rfl); (case hg => rfl); (case hr => first | (go_simp; done) | (go_simp; rfl)); intro kq hE_ w1 hbox hb; have Ekq := Lib.hid hE_; have Xkq := Lib.hid hbox; have Bkq := Lib.hid hb; clear hE_ hbox hb) | ((with_reducible refine gate_dst (N := 3) rfl ?_); refine box_event ?hg (N := 3) ?hd (cs := #[.bool true, .int .i64 a1_1, .int .i64 a1_2, .int .i64 a1_3, .int .i64 a1_4, .int .i64 a1_5]) (t := 27) ?hr ?_; (case hd => rfl); (case hg => rfl); (case hr => first | (go_simp; done) | (go_simp; rfl)); intro kt hE_ w2 hbox hb; have Ekt := Lib.hid hE_; have Xkt := Lib.hid hbox; have Bkt := Lib.hid hb; clear hE_ hbox hb) | ((with_reducible refine gate_dst (N := 4) rfl ?_); refine box_event ?hg (N := 4) ?hd (cs := #[.slice none 0 0, .int .i64 0, .int .i64 0]) (t := 24) ?hr ?_; (case hd => rfl); (case hg => rfl); (case hr => first | (go_simp; done) | (go_simp; rfl)); intro kc hE_ w3 hbox hb; have Ekc := Lib.hid hE_; have Xkc := Lib.hid hbox; have Bkc := Lib.hid hb; clear hE_ hbox hb) | ((with_reducible refine gate_dst (N := 5) rfl ?_); refine box_event ?hg (N := 5) ?hd (cs := #[.bool false, .int .i64 0, .int .i64 0, .int .i64 0, .int .i64 0, .int .i64 0]) (t := 27) ?hr ?_; (case hd => rfl); (case hg => rfl); (case hr => first | (go_simp; done) | (go_simp; rfl)); intro kd hE_ w4 hbox hb; have Ekd := Lib.hid hE_; have Xkd := Lib.hid hbox; have Bkd := Lib.hid hb; clear hE_ hbox hb; have HF := Lib.hid (Four.make Bkq.out Bkt.out Bkc.out Bkd.out Ekq.out Ekt.out Ekc.out Ekd.out Xkq.out Xkt.out Xkc.out Xkd.out); clear Bkq Bkt Bkc Bkd Ekq Ekt Ekc Ekd Xkq Xkt Xkc Xkd; have g0 : w4.cell? ⟨kq, 0, none⟩ = some (.slice A0_0 l0_0.length c0_0) := (blk_cell HF.out.bg 0).trans rfl; have g1 : w4.cell? ⟨kq, 1, none⟩ = some (.int .i64 a0_1) := (blk_cell HF.out.bg 1).trans rfl; have g2 : w4.cell? ⟨kq, 2, none⟩ = some (.int .i64 a0_2) := (blk_cell HF.out.bg 2).trans rfl) | (go_at_call 23; refine Calls.mono (deque_Check.calls A0_0 c0_0 l0_0 a0_1 a0_2 0 _ ?_ ?_ HX.out (TabOK.below HTab.out (by repeat (first | exact HF.out.B | apply below_drew1 | apply pw_below_drewN)))) ?_; exact Kd.C_below HR.out (by repeat (first | exact HF.out.B | apply below_drew1 | apply pw_below_drewN)); exact Hc.out; rintro _ w5 ⟨rfl, hb⟩; have HF5 := Lib.hid (Four.below (by repeat (first | exact HF.out | apply Four.drew | apply Four.drewN)) hb); clear HF; clear hb; clear g0 g1 g2; have h0 : w5.cell? ⟨kt, 0, none⟩ = some (.bool true) := (blk_cell HF5.out.bh 0).trans rfl; have h1 : w5.cell? ⟨kt, 1, none⟩ = some (.int .i64 a1_1) := (blk_cell HF5.out.bh 1).trans rfl; have h2 : w5.cell? ⟨kt, 2, none⟩ = some (.int .i64 a1_2) := (blk_cell HF5.out.bh 2).trans rfl; have h3 : w5.cell? ⟨kt, 3, none⟩ = some (.int .i64 a1_3) := (blk_cell HF5.out.bh 3).trans rfl; have h4 : w5.cell? ⟨kt, 4, none⟩ = some (.int .i64 a1_4) := (blk_cell HF5.out.bh 4).trans rfl; have h5 : w5.cell? ⟨kt, 5, none⟩ = some (.int .i64 a1_5) := (blk_cell HF5.out.bh 5).trans rfl) | (go_at_call 27; refine Calls.mono (deque_open.calls true a1_1 a1_2 a1_3 a1_4 a1_5 true _ HO.out) ?_; rintro _ w6 ⟨rfl, hb⟩; have HF6 := Lib.hid (show Four w kq kt kc kd #[.slice A0_0 l0_0.length c0_0, .int .i64 a0_1, .int .i64 a0_2] #[.bool true, .int .i64 a1_1, .int .i64 a1_2, .int .i64 a1_3, .int .i64 a1_4, .int .i64 a1_5] #[.slice none 0 0, .int .i64 0, .int .i64 0] #[.bool false, .int .i64 0, .int .i64 0, .int .i64 0, .int .i64 0, .int .i64 0] w6 from Four.below (by with_reducible repeat (first | exact HF5.out | refine Four.drew ?_ | refine Four.drewN ?_ _)) hb); clear HF5 hb h0 h1 h2 h3 h4 h5; have g0 : w6.cell? ⟨kq, 0, none⟩ = some (.slice A0_0 l0_0.length c0_0) := (blk_cell HF6.out.bg 0).trans rfl; have g1 : w6.cell? ⟨kq, 1, none⟩ = some (.int .i64 a0_1) := (blk_cell HF6.out.bg 1).trans rfl; have g2 : w6.cell? ⟨kq, 2, none⟩ = some (.int .i64 a0_2) := (blk_cell HF6.out.bg 2).trans rfl) | (go_at_call 28; refine Calls.mono (deque_own.calls A0_0 c0_0 l0_0 a0_1 a0_2 l0_0 a0_1 a0_2 _ ?_ ?_ HW.out) ?_; exact Kd.C_below HR.out (Four.B (by with_reducible repeat (first | exact HF6.out | refine Four.drew ?_ | refine Four.drewN ?_ _))); exact Hc.out; rintro _ w7 ⟨vo, rfl, hR0, hb⟩; have HF7 := Lib.hid (show Four w kq kt kc kd #[.slice A0_0 l0_0.length c0_0, .int .i64 a0_1, .int .i64 a0_2] #[.bool true, .int .i64 a1_1, .int .i64 a1_2, .int .i64 a1_3, .int .i64 a1_4, .int .i64 a1_5] #[.slice none 0 0, .int .i64 0, .int .i64 0] #[.bool false, .int .i64 0, .int .i64 0, .int .i64 0, .int .i64 0, .int .i64 0] w7 from Four.below (by with_reducible repeat (first | exact HF6.out | refine Four.drew ?_ | refine Four.drewN ?_ _)) hb); obtain ⟨Ao, co, rfl⟩ := Kd.R_slice hR0; have HR7 := Lib.hid (Kd.R_lower hR0 (Four.B (by with_reducible repeat (first | exact HF6.out | refine Four.drew ?_ | refine Four.drewN ?_ _))).size); clear HF6 hb hR0 g0 g1 g2) | ((with_reducible refine gate_store (t := 24) (p := 2) (v := .tmp 22) ?hgs ?_); (case hgs => rfl); refine wpList_store_row rfl rfl 24 2 (.tmp 22) rfl kq rfl #[.slice Ao l0_0.length co, .int .i64 a0_1, .int .i64 a0_2] #[.slice A0_0 l0_0.length c0_0, .int .i64 a0_1, .int .i64 a0_2] 24 HF7.out.bg (by rfl) (by kernel_rfl) rfl (by rfl) (fun W_ => Four w kq kt kc kd #[.slice Ao l0_0.length co, .int .i64 a0_1, .int .i64 a0_2] #[.bool true, .int .i64 a1_1, .int .i64 a1_2, .int .i64 a1_3, .int .i64 a1_4, .int .i64 a1_5] #[.slice none 0 0, .int .i64 0, .int .i64 0] #[.bool false, .int .i64 0, .int .i64 0, .int .i64 0, .int .i64 0, .int .i64 0] W_ ∧ Kd.R (Kd.int .i64) 3 W_ w.heap.size (fun _ => True) (.slice Ao l0_0.length co) l0_0) ⟨HF7.out.rowG #[.slice Ao l0_0.length co, .int .i64 a0_1, .int .i64 a0_2], R_row_ HR7.out HF7.out.bg (by decide) _⟩ ?_; rintro w8 ⟨he, hR8⟩; have HF8 := Lib.hid he; have HR8 := Lib.hid hR8; clear he hR8 HF7 HR7; have h0 : w8.cell? ⟨kt, 0, none⟩ = some (.bool true) := (blk_cell HF8.out.bh 0).trans rfl))
  rename_i K1 hK1 K2 hK2
  refine Calls.mono (deque_steal.does kq kt w.heap.size (fun _ => True) Ao co l0_0 a0_1 a0_2 true a1_1 a1_2 a1_3 a1_4 a1_5 r1 r2 r3 r4 r5 r6 r7 HD.out _ (Four.bg (by with_reducible repeat (first | exact HF8.out | refine Four.drew ?_ | refine Four.drewN ?_ _))) (Four.bh (by with_reducible repeat (first | exact HF8.out | refine Four.drew ?_ | refine Four.drewN ?_ _))) ?_) ?_
  (repeat (first | exact HR8.out | refine Kd.R_drew ?_ | refine Kd.R_drewN ?_ _))
  rintro _ w9 ⟨rfl, ht, hg9, hh9⟩
  have HF9 := Lib.hid (show Four w kq kt kc kd #[.slice Ao l0_0.length co, .int .i64 r1, .int .i64 r2] #[.bool true, .int .i64 r3, .int .i64 r4, .int .i64 r5, .int .i64 r6, .int .i64 r7] #[.slice none 0 0, .int .i64 0, .int .i64 0] #[.bool false, .int .i64 0, .int .i64 0, .int .i64 0, .int .i64 0, .int .i64 0] w9 from Four.two (by with_reducible repeat (first | exact HF8.out | refine Four.drew ?_ | refine Four.drewN ?_ _)) ht hg9 hh9)
  have HR9 := Lib.hid (R_two ht (Four.bg (by with_reducible repeat (first | exact HF8.out | refine Four.drew ?_ | refine Four.drewN ?_ _))) (Four.bh (by with_reducible repeat (first | exact HF8.out | refine Four.drew ?_ | refine Four.drewN ?_ _))) (by repeat (first | exact HR8.out | refine Kd.R_drew ?_ | refine Kd.R_drewN ?_ _)))
  clear HF8 HR8 ht hg9 hh9 h0
  have g0 : w9.cell? ⟨kq, 0, none⟩ = some (.slice Ao l0_0.length co) := (blk_cell HF9.out.bg 0).trans rfl
  have g1 : w9.cell? ⟨kq, 1, none⟩ = some (.int .i64 r1) := (blk_cell HF9.out.bg 1).trans rfl
  have g2 : w9.cell? ⟨kq, 2, none⟩ = some (.int .i64 r2) := (blk_cell HF9.out.bg 2).trans rfl
  show K2 _ w9
  refine hK2 _ _ ?_
  show K1 _ w9
  refine hK1 _ _ ?_
  try go_wp2_with (first | (go_at_call 23; refine Calls.mono (deque_Check.calls Ao co l0_0 r1 r2 0 _ ?_ ?_ HY.out (TabOK.below HTab.out (Four.B (by with_reducible repeat (first | exact HF9.out | refine Four.drew ?_ | refine Four.drewN ?_ _))))) ?_; exact (ring_ (by repeat (first | exact HR9.out | refine Kd.R_drew ?_ | refine Kd.R_drewN ?_ _))).2; exact (ring_ HR9.out).1; rintro _ wa ⟨rfl, hb⟩; have HFa := Lib.hid (show Four w kq kt kc kd #[.slice Ao l0_0.length co, .int .i64 r1, .int .i64 r2] #[.bool true, .int .i64 r3, .int .i64 r4, .int .i64 r5, .int .i64 r6, .int .i64 r7] #[.slice none 0 0, .int .i64 0, .int .i64 0] #[.bool false, .int .i64 0, .int .i64 0, .int .i64 0, .int .i64 0, .int .i64 0] wa from Four.below (by with_reducible repeat (first | exact HF9.out | refine Four.drew ?_ | refine Four.drewN ?_ _)) hb); have HRa := Lib.hid (Kd.R_below (by repeat (first | exact HR9.out | refine Kd.R_drew ?_ | refine Kd.R_drewN ?_ _)) hb); clear HF9 HR9 hb g0 g1 g2; have g0 : wa.cell? ⟨kq, 0, none⟩ = some (.slice Ao l0_0.length co) := (blk_cell HFa.out.bg 0).trans rfl; have g1 : wa.cell? ⟨kq, 1, none⟩ = some (.int .i64 r1) := (blk_cell HFa.out.bg 1).trans rfl; have g2 : wa.cell? ⟨kq, 2, none⟩ = some (.int .i64 r2) := (blk_cell HFa.out.bg 2).trans rfl; have h0 : wa.cell? ⟨kt, 0, none⟩ = some (.bool true) := (blk_cell HFa.out.bh 0).trans rfl; have h1 : wa.cell? ⟨kt, 1, none⟩ = some (.int .i64 r3) := (blk_cell HFa.out.bh 1).trans rfl; have h2 : wa.cell? ⟨kt, 2, none⟩ = some (.int .i64 r4) := (blk_cell HFa.out.bh 2).trans rfl; have h3 : wa.cell? ⟨kt, 3, none⟩ = some (.int .i64 r5) := (blk_cell HFa.out.bh 3).trans rfl; have h4 : wa.cell? ⟨kt, 4, none⟩ = some (.int .i64 r6) := (blk_cell HFa.out.bh 4).trans rfl; have h5 : wa.cell? ⟨kt, 5, none⟩ = some (.int .i64 r7) := (blk_cell HFa.out.bh 5).trans rfl))
  have Ha := Lib.hid (Four.drew (by with_reducible repeat (first | exact HFa.out | refine Four.drew ?_ | refine Four.drewN ?_ _)))
  have HRHa := Lib.hid (Kd.R_drew (by with_reducible repeat (first | exact HRa.out | refine Kd.R_drew ?_ | refine Kd.R_drewN ?_ _)))
  clear HFa HRa g0 g1 g2 h0 h1 h2 h3 h4 h5
  refine start_ (n := 5) (S := fun W_ => W_.heap[kq]? = some (.cells #[.slice Ao l0_0.length co, .int .i64 r1, .int .i64 r2] 24 (0, 0)) ∧ W_.heap[kt]? = some (.cells #[.bool true, .int .i64 r3, .int .i64 r4, .int .i64 r5, .int .i64 r6, .int .i64 r7] 27 (0, 0))) (ds := []) #[false, false, false, false, false] (by kernel_rfl) rfl rfl ⟨Ha.out.bg, Ha.out.bh⟩ (fun hHeld => ?_)
  refine take_ (i := 0) (N := some 34) (v := .agg #[.slice Ao l0_0.length co, .int .i64 r1, .int .i64 r2]) (a' := ?_) #[true, false, false, false, false] rfl rfl (by kernel_rfl) (fun _ _ _ h => h) (Or.inl ⟨by rfl, fun w' hs => run_load_row_ rfl kq rfl 24 _ _ hs.1 Tryd.underlying24 rfl (by kernel_rfl)⟩) hHeld ?_ ?_
  rotate_left
  · simp only [Act.put, List.setIfInBounds_toArray, List.set_cons_zero, List.set_cons_succ, i64_w, i32_w]
    rfl
  refine take_ (i := 1) (N := some 35) (v := .agg #[.bool true, .int .i64 r3, .int .i64 r4, .int .i64 r5, .int .i64 r6, .int .i64 r7]) (a' := ?_) #[true, true, false, false, false] rfl rfl (by kernel_rfl) (fun _ _ _ h => h) (Or.inl ⟨by rfl, fun w' hs => run_load_row_ rfl kt rfl 27 _ _ hs.2 Tryd.underlying27 rfl (by kernel_rfl)⟩) hHeld ?_ ?_
  rotate_left
  · simp only [Act.put, List.setIfInBounds_toArray, List.set_cons_zero, List.set_cons_succ, i64_w, i32_w]
    rfl
  refine one_ (i := 2) (N := none) #[true, true, true, false, false] rfl rfl (by kernel_rfl) (by decide) (fun K hK => ?_)
  refine skip_ (by rfl) rfl (run_store_row_ rfl kc rfl #[.slice Ao l0_0.length co, .int .i64 r1, .int .i64 r2] #[.slice none 0 0, .int .i64 0, .int .i64 0] 24 Ha.out.bc rfl (by kernel_rfl) rfl rfl) ?_
  have Hb := Lib.hid (Four.rowC Ha.out #[.slice Ao l0_0.length co, .int .i64 r1, .int .i64 r2])
  have HRHb := Lib.hid (R_row_ HRHa.out Ha.out.bc (by decide) #[.slice Ao l0_0.length co, .int .i64 r1, .int .i64 r2])
  refine hK.out _ _ ⟨Hb.out.bg, Hb.out.bh⟩ (fun hHeld => ?_)
  clear hK K Ha HRHa
  refine one_ (i := 3) (N := none) #[true, true, true, true, false] rfl rfl (by kernel_rfl) (by decide) (fun K hK => ?_)
  refine skip_ (by rfl) rfl (run_store_row_ rfl kd rfl #[.bool true, .int .i64 r3, .int .i64 r4, .int .i64 r5, .int .i64 r6, .int .i64 r7] #[.bool false, .int .i64 0, .int .i64 0, .int .i64 0, .int .i64 0, .int .i64 0] 27 Hb.out.bd rfl (by kernel_rfl) rfl rfl) ?_
  have HD_ := Lib.hid (Four.rowD Hb.out #[.bool true, .int .i64 r3, .int .i64 r4, .int .i64 r5, .int .i64 r6, .int .i64 r7])
  have HRHD_ := Lib.hid (R_row_ HRHb.out Hb.out.bd (by decide) #[.bool true, .int .i64 r3, .int .i64 r4, .int .i64 r5, .int .i64 r6, .int .i64 r7])
  refine hK.out _ _ ⟨HD_.out.bg, HD_.out.bh⟩ (fun hHeld => ?_)
  clear hK K Hb HRHb
  refine pure_ (i := 4) (N := some 6) (v := .int .i64 0) #[true, true, true, true, true] rfl rfl (by kernel_rfl) (fun _ _ _ h => h) (Or.inl ⟨by rfl, fun w' => by go_simp⟩) rfl ?_
  refine done_ (by kernel_rfl) ?_
  try go_wp2
  have HZ := Lib.hid (show Four w kq kt kc kd _ _ #[.slice Ao l0_0.length co, .int .i64 r1, .int .i64 r2] #[.bool true, .int .i64 r3, .int .i64 r4, .int .i64 r5, .int .i64 r6, .int .i64 r7] _ by with_reducible repeat (first | exact HD_.out | refine Four.drew ?_ | refine Four.drewN ?_ _))
  refine bodyPost_ret (results_list (rs := [.cell 4 24, .cell 5 27, .tmp 6]) rfl (by simp) (.cell kc 24 _ (0, 0) _ rfl HZ.out.bc Tryd.underlying24 rfl (by kernel_rfl) (.cell kd 27 _ (0, 0) _ rfl HZ.out.bd Tryd.underlying27 rfl (by kernel_rfl) (.tmp .nil)))) rfl ?_
  exact ⟨_, rfl, HRHD_.out, HZ.out.B⟩

-- BREAK
set_option maxHeartbeats 8000000 in
theorem step_late_pop (A0_0 : Option Addr) (c0_0 : Nat) (l0_0 : List Int) (a0_1 : Int) (a0_2 : Int) (a1_1 : Int) (a1_2 : Int) (a1_3 : Int) (a1_4 : Int) (a1_5 : Int) (x : Int) (r1 r2 r3 r4 r5 r6 r7 : Int) (hx : deque_Check.f l0_0 a0_1 a0_2 = some 0) (ho : deque_open.f false a1_1 a1_2 a1_3 a1_4 a1_5 = some true) (hw : deque_own.f l0_0 a0_1 a0_2 = some (l0_0, a0_1, a0_2)) (hd : deque_pop.r l0_0 a0_1 a0_2 a1_1 a1_2 a1_3 a1_4 a1_5 = some (r1, r2, r3, r4, r5, r6, r7)) (hy : deque_Check.f l0_0 r1 r2 = some x) (hx0 : ¬ x = 0) (w : World) (hr0_0 : Kd.C (Kd.int .i64) w A0_0 l0_0.length l0_0) (hc0_0 : l0_0.length ≤ c0_0) (hTab : TabOK w) :
    Calls Tryd.prog 9 #[.agg #[.slice A0_0 l0_0.length c0_0, .int .i64 a0_1, .int .i64 a0_2], .agg #[.bool false, .int .i64 a1_1, .int .i64 a1_2, .int .i64 a1_3, .int .i64 a1_4, .int .i64 a1_5]] w fun e w' => ∃ v0_ : Value, e = .returned (.tuple #[.agg #[v0_, .int .i64 0, .int .i64 0], .agg #[.bool false, .int .i64 0, .int .i64 0, .int .i64 0, .int .i64 0, .int .i64 0], .int .i64 (x)]) ∧ Kd.R (Kd.int .i64) 3 w' w.heap.size (fun _ => True) v0_ [] ∧ Below w.heap.size w w' := by
  have hb0 : (x != 0) = true := by simpa using hx0
  clear hx0
  have HX := Lib.hid hx
  have HO := Lib.hid ho
  have HW := Lib.hid hw
  have HD := Lib.hid hd
  have HY := Lib.hid hy
  clear hx ho hw hd hy
  have HR := Lib.hid hr0_0
  have Hc := Lib.hid hc0_0
  have HTab := Lib.hid hTab
  clear hr0_0 hc0_0 hTab
  go_enter Tryd.func9, Tryd.ntmps9
  go_wp2_with (first | ((with_reducible refine gate_dst (N := 2) rfl ?_); refine box_event ?hg (N := 2) ?hd (cs := #[.slice A0_0 l0_0.length c0_0, .int .i64 a0_1, .int .i64 a0_2]) (t := 24) ?hr ?_; (case hd => rfl); (case hg => rfl); (case hr => first | (go_simp; done) | (go_simp; rfl)); intro kq hE_ w1 hbox hb; have Ekq := Lib.hid hE_; have Xkq := Lib.hid hbox; have Bkq := Lib.hid hb; clear hE_ hbox hb) | ((with_reducible refine gate_dst (N := 3) rfl ?_); refine box_event ?hg (N := 3) ?hd (cs := #[.bool false, .int .i64 a1_1, .int .i64 a1_2, .int .i64 a1_3, .int .i64 a1_4, .int .i64 a1_5]) (t := 27) ?hr ?_; (case hd => rfl); (case hg => rfl); (case hr => first | (go_simp; done) | (go_simp; rfl)); intro kt hE_ w2 hbox hb; have Ekt := Lib.hid hE_; have Xkt := Lib.hid hbox; have Bkt := Lib.hid hb; clear hE_ hbox hb) | ((with_reducible refine gate_dst (N := 4) rfl ?_); refine box_event ?hg (N := 4) ?hd (cs := #[.slice none 0 0, .int .i64 0, .int .i64 0]) (t := 24) ?hr ?_; (case hd => rfl); (case hg => rfl); (case hr => first | (go_simp; done) | (go_simp; rfl)); intro kc hE_ w3 hbox hb; have Ekc := Lib.hid hE_; have Xkc := Lib.hid hbox; have Bkc := Lib.hid hb; clear hE_ hbox hb) | ((with_reducible refine gate_dst (N := 5) rfl ?_); refine box_event ?hg (N := 5) ?hd (cs := #[.bool false, .int .i64 0, .int .i64 0, .int .i64 0, .int .i64 0, .int .i64 0]) (t := 27) ?hr ?_; (case hd => rfl); (case hg => rfl); (case hr => first | (go_simp; done) | (go_simp; rfl)); intro kd hE_ w4 hbox hb; have Ekd := Lib.hid hE_; have Xkd := Lib.hid hbox; have Bkd := Lib.hid hb; clear hE_ hbox hb; have HF := Lib.hid (Four.make Bkq.out Bkt.out Bkc.out Bkd.out Ekq.out Ekt.out Ekc.out Ekd.out Xkq.out Xkt.out Xkc.out Xkd.out); clear Bkq Bkt Bkc Bkd Ekq Ekt Ekc Ekd Xkq Xkt Xkc Xkd; have g0 : w4.cell? ⟨kq, 0, none⟩ = some (.slice A0_0 l0_0.length c0_0) := (blk_cell HF.out.bg 0).trans rfl; have g1 : w4.cell? ⟨kq, 1, none⟩ = some (.int .i64 a0_1) := (blk_cell HF.out.bg 1).trans rfl; have g2 : w4.cell? ⟨kq, 2, none⟩ = some (.int .i64 a0_2) := (blk_cell HF.out.bg 2).trans rfl) | (go_at_call 23; refine Calls.mono (deque_Check.calls A0_0 c0_0 l0_0 a0_1 a0_2 0 _ ?_ ?_ HX.out (TabOK.below HTab.out (by repeat (first | exact HF.out.B | apply below_drew1 | apply pw_below_drewN)))) ?_; exact Kd.C_below HR.out (by repeat (first | exact HF.out.B | apply below_drew1 | apply pw_below_drewN)); exact Hc.out; rintro _ w5 ⟨rfl, hb⟩; have HF5 := Lib.hid (Four.below (by repeat (first | exact HF.out | apply Four.drew | apply Four.drewN)) hb); clear HF; clear hb; clear g0 g1 g2; have h0 : w5.cell? ⟨kt, 0, none⟩ = some (.bool false) := (blk_cell HF5.out.bh 0).trans rfl; have h1 : w5.cell? ⟨kt, 1, none⟩ = some (.int .i64 a1_1) := (blk_cell HF5.out.bh 1).trans rfl; have h2 : w5.cell? ⟨kt, 2, none⟩ = some (.int .i64 a1_2) := (blk_cell HF5.out.bh 2).trans rfl; have h3 : w5.cell? ⟨kt, 3, none⟩ = some (.int .i64 a1_3) := (blk_cell HF5.out.bh 3).trans rfl; have h4 : w5.cell? ⟨kt, 4, none⟩ = some (.int .i64 a1_4) := (blk_cell HF5.out.bh 4).trans rfl; have h5 : w5.cell? ⟨kt, 5, none⟩ = some (.int .i64 a1_5) := (blk_cell HF5.out.bh 5).trans rfl) | (go_at_call 27; refine Calls.mono (deque_open.calls false a1_1 a1_2 a1_3 a1_4 a1_5 true _ HO.out) ?_; rintro _ w6 ⟨rfl, hb⟩; have HF6 := Lib.hid (show Four w kq kt kc kd #[.slice A0_0 l0_0.length c0_0, .int .i64 a0_1, .int .i64 a0_2] #[.bool false, .int .i64 a1_1, .int .i64 a1_2, .int .i64 a1_3, .int .i64 a1_4, .int .i64 a1_5] #[.slice none 0 0, .int .i64 0, .int .i64 0] #[.bool false, .int .i64 0, .int .i64 0, .int .i64 0, .int .i64 0, .int .i64 0] w6 from Four.below (by with_reducible repeat (first | exact HF5.out | refine Four.drew ?_ | refine Four.drewN ?_ _)) hb); clear HF5 hb h0 h1 h2 h3 h4 h5; have g0 : w6.cell? ⟨kq, 0, none⟩ = some (.slice A0_0 l0_0.length c0_0) := (blk_cell HF6.out.bg 0).trans rfl; have g1 : w6.cell? ⟨kq, 1, none⟩ = some (.int .i64 a0_1) := (blk_cell HF6.out.bg 1).trans rfl; have g2 : w6.cell? ⟨kq, 2, none⟩ = some (.int .i64 a0_2) := (blk_cell HF6.out.bg 2).trans rfl) | (go_at_call 28; refine Calls.mono (deque_own.calls A0_0 c0_0 l0_0 a0_1 a0_2 l0_0 a0_1 a0_2 _ ?_ ?_ HW.out) ?_; exact Kd.C_below HR.out (Four.B (by with_reducible repeat (first | exact HF6.out | refine Four.drew ?_ | refine Four.drewN ?_ _))); exact Hc.out; rintro _ w7 ⟨vo, rfl, hR0, hb⟩; have HF7 := Lib.hid (show Four w kq kt kc kd #[.slice A0_0 l0_0.length c0_0, .int .i64 a0_1, .int .i64 a0_2] #[.bool false, .int .i64 a1_1, .int .i64 a1_2, .int .i64 a1_3, .int .i64 a1_4, .int .i64 a1_5] #[.slice none 0 0, .int .i64 0, .int .i64 0] #[.bool false, .int .i64 0, .int .i64 0, .int .i64 0, .int .i64 0, .int .i64 0] w7 from Four.below (by with_reducible repeat (first | exact HF6.out | refine Four.drew ?_ | refine Four.drewN ?_ _)) hb); obtain ⟨Ao, co, rfl⟩ := Kd.R_slice hR0; have HR7 := Lib.hid (Kd.R_lower hR0 (Four.B (by with_reducible repeat (first | exact HF6.out | refine Four.drew ?_ | refine Four.drewN ?_ _))).size); clear HF6 hb hR0 g0 g1 g2) | ((with_reducible refine gate_store (t := 24) (p := 2) (v := .tmp 22) ?hgs ?_); (case hgs => rfl); refine wpList_store_row rfl rfl 24 2 (.tmp 22) rfl kq rfl #[.slice Ao l0_0.length co, .int .i64 a0_1, .int .i64 a0_2] #[.slice A0_0 l0_0.length c0_0, .int .i64 a0_1, .int .i64 a0_2] 24 HF7.out.bg (by rfl) (by kernel_rfl) rfl (by rfl) (fun W_ => Four w kq kt kc kd #[.slice Ao l0_0.length co, .int .i64 a0_1, .int .i64 a0_2] #[.bool false, .int .i64 a1_1, .int .i64 a1_2, .int .i64 a1_3, .int .i64 a1_4, .int .i64 a1_5] #[.slice none 0 0, .int .i64 0, .int .i64 0] #[.bool false, .int .i64 0, .int .i64 0, .int .i64 0, .int .i64 0, .int .i64 0] W_ ∧ Kd.R (Kd.int .i64) 3 W_ w.heap.size (fun _ => True) (.slice Ao l0_0.length co) l0_0) ⟨HF7.out.rowG #[.slice Ao l0_0.length co, .int .i64 a0_1, .int .i64 a0_2], R_row_ HR7.out HF7.out.bg (by decide) _⟩ ?_; rintro w8 ⟨he, hR8⟩; have HF8 := Lib.hid he; have HR8 := Lib.hid hR8; clear he hR8 HF7 HR7; have h0 : w8.cell? ⟨kt, 0, none⟩ = some (.bool false) := (blk_cell HF8.out.bh 0).trans rfl))
  rename_i K1 hK1 K2 hK2
  refine Calls.mono (deque_pop.does kq kt w.heap.size (fun _ => True) Ao co l0_0 a0_1 a0_2 false a1_1 a1_2 a1_3 a1_4 a1_5 r1 r2 r3 r4 r5 r6 r7 HD.out _ (Four.bg (by with_reducible repeat (first | exact HF8.out | refine Four.drew ?_ | refine Four.drewN ?_ _))) (Four.bh (by with_reducible repeat (first | exact HF8.out | refine Four.drew ?_ | refine Four.drewN ?_ _))) ?_) ?_
  (repeat (first | exact HR8.out | refine Kd.R_drew ?_ | refine Kd.R_drewN ?_ _))
  rintro _ w9 ⟨rfl, ht, hg9, hh9⟩
  have HF9 := Lib.hid (show Four w kq kt kc kd #[.slice Ao l0_0.length co, .int .i64 r1, .int .i64 r2] #[.bool false, .int .i64 r3, .int .i64 r4, .int .i64 r5, .int .i64 r6, .int .i64 r7] #[.slice none 0 0, .int .i64 0, .int .i64 0] #[.bool false, .int .i64 0, .int .i64 0, .int .i64 0, .int .i64 0, .int .i64 0] w9 from Four.two (by with_reducible repeat (first | exact HF8.out | refine Four.drew ?_ | refine Four.drewN ?_ _)) ht hg9 hh9)
  have HR9 := Lib.hid (R_two ht (Four.bg (by with_reducible repeat (first | exact HF8.out | refine Four.drew ?_ | refine Four.drewN ?_ _))) (Four.bh (by with_reducible repeat (first | exact HF8.out | refine Four.drew ?_ | refine Four.drewN ?_ _))) (by repeat (first | exact HR8.out | refine Kd.R_drew ?_ | refine Kd.R_drewN ?_ _)))
  clear HF8 HR8 ht hg9 hh9 h0
  have g0 : w9.cell? ⟨kq, 0, none⟩ = some (.slice Ao l0_0.length co) := (blk_cell HF9.out.bg 0).trans rfl
  have g1 : w9.cell? ⟨kq, 1, none⟩ = some (.int .i64 r1) := (blk_cell HF9.out.bg 1).trans rfl
  have g2 : w9.cell? ⟨kq, 2, none⟩ = some (.int .i64 r2) := (blk_cell HF9.out.bg 2).trans rfl
  show K2 _ w9
  refine hK2 _ _ ?_
  show K1 _ w9
  refine hK1 _ _ ?_
  go_wp2_with (first | (go_at_call 23; refine Calls.mono (deque_Check.calls Ao co l0_0 r1 r2 x _ ?_ ?_ HY.out (TabOK.below HTab.out (Four.B (by with_reducible repeat (first | exact HF9.out | refine Four.drew ?_ | refine Four.drewN ?_ _))))) ?_; exact (ring_ (by repeat (first | exact HR9.out | refine Kd.R_drew ?_ | refine Kd.R_drewN ?_ _))).2; exact (ring_ HR9.out).1; rintro _ wa ⟨rfl, hb⟩; have HFa := Lib.hid (show Four w kq kt kc kd #[.slice Ao l0_0.length co, .int .i64 r1, .int .i64 r2] #[.bool false, .int .i64 r3, .int .i64 r4, .int .i64 r5, .int .i64 r6, .int .i64 r7] #[.slice none 0 0, .int .i64 0, .int .i64 0] #[.bool false, .int .i64 0, .int .i64 0, .int .i64 0, .int .i64 0, .int .i64 0] wa from Four.below (by with_reducible repeat (first | exact HF9.out | refine Four.drew ?_ | refine Four.drewN ?_ _)) hb); have HRa := Lib.hid (Kd.R_below (by repeat (first | exact HR9.out | refine Kd.R_drew ?_ | refine Kd.R_drewN ?_ _)) hb); clear HF9 HR9 hb g0 g1 g2; skip) | ((with_reducible refine gate_store (t := 24) (p := 4) (v := .tmp 31) ?hgs ?_); (case hgs => rfl); have HL_ := HFa.out; refine wpList_store_row rfl rfl 24 4 (.tmp 31) rfl kc rfl #[.slice none 0 0, .int .i64 0, .int .i64 0] #[.slice none 0 0, .int .i64 0, .int .i64 0] 24 (HL_).bc (by rfl) (by kernel_rfl) rfl (by rfl) (fun W_ => Four w kq kt kc kd #[.slice Ao l0_0.length co, .int .i64 r1, .int .i64 r2] #[.bool false, .int .i64 r3, .int .i64 r4, .int .i64 r5, .int .i64 r6, .int .i64 r7] #[.slice none 0 0, .int .i64 0, .int .i64 0] #[.bool false, .int .i64 0, .int .i64 0, .int .i64 0, .int .i64 0, .int .i64 0] W_) (HL_.rowC #[.slice none 0 0, .int .i64 0, .int .i64 0]) ?_; clear HL_; intro wac he; have HC_ := Lib.hid he; clear he HFa) | ((with_reducible refine gate_store (t := 27) (p := 5) (v := .tmp 32) ?hgs ?_); (case hgs => rfl); have HL_ := HC_.out; refine wpList_store_row rfl rfl 27 5 (.tmp 32) rfl kd rfl #[.bool false, .int .i64 0, .int .i64 0, .int .i64 0, .int .i64 0, .int .i64 0] #[.bool false, .int .i64 0, .int .i64 0, .int .i64 0, .int .i64 0, .int .i64 0] 27 (HL_).bd (by rfl) (by kernel_rfl) rfl (by rfl) (fun W_ => Four w kq kt kc kd #[.slice Ao l0_0.length co, .int .i64 r1, .int .i64 r2] #[.bool false, .int .i64 r3, .int .i64 r4, .int .i64 r5, .int .i64 r6, .int .i64 r7] #[.slice none 0 0, .int .i64 0, .int .i64 0] #[.bool false, .int .i64 0, .int .i64 0, .int .i64 0, .int .i64 0, .int .i64 0] W_) (HL_.rowD #[.bool false, .int .i64 0, .int .i64 0, .int .i64 0, .int .i64 0, .int .i64 0]) ?_; clear HL_; intro wad he; have HD_ := Lib.hid he; clear he HC_))
  have HZ := Lib.hid (show Four w kq kt kc kd _ _ #[.slice none 0 0, .int .i64 0, .int .i64 0] #[.bool false, .int .i64 0, .int .i64 0, .int .i64 0, .int .i64 0, .int .i64 0] _ by with_reducible repeat (first | exact HD_.out | refine Four.drew ?_ | refine Four.drewN ?_ _))
  refine bodyPost_ret (results_list (rs := [.cell 4 24, .cell 5 27, .tmp 6]) rfl (by simp) (.cell kc 24 _ (0, 0) _ rfl HZ.out.bc Tryd.underlying24 rfl (by kernel_rfl) (.cell kd 27 _ (0, 0) _ rfl HZ.out.bd Tryd.underlying27 rfl (by kernel_rfl) (.tmp .nil)))) rfl ?_
  exact ⟨_, rfl, Kd.R_nil _ _ _ _ _, HZ.out.B⟩

-- BREAK
set_option maxHeartbeats 8000000 in
theorem step_ok_pop (A0_0 : Option Addr) (c0_0 : Nat) (l0_0 : List Int) (a0_1 : Int) (a0_2 : Int) (a1_1 : Int) (a1_2 : Int) (a1_3 : Int) (a1_4 : Int) (a1_5 : Int) (r1 r2 r3 r4 r5 r6 r7 : Int) (hx : deque_Check.f l0_0 a0_1 a0_2 = some 0) (ho : deque_open.f false a1_1 a1_2 a1_3 a1_4 a1_5 = some true) (hw : deque_own.f l0_0 a0_1 a0_2 = some (l0_0, a0_1, a0_2)) (hd : deque_pop.r l0_0 a0_1 a0_2 a1_1 a1_2 a1_3 a1_4 a1_5 = some (r1, r2, r3, r4, r5, r6, r7)) (hy : deque_Check.f l0_0 r1 r2 = some 0) (w : World) (hr0_0 : Kd.C (Kd.int .i64) w A0_0 l0_0.length l0_0) (hc0_0 : l0_0.length ≤ c0_0) (hTab : TabOK w) :
    Calls Tryd.prog 9 #[.agg #[.slice A0_0 l0_0.length c0_0, .int .i64 a0_1, .int .i64 a0_2], .agg #[.bool false, .int .i64 a1_1, .int .i64 a1_2, .int .i64 a1_3, .int .i64 a1_4, .int .i64 a1_5]] w fun e w' => ∃ v0_ : Value, e = .returned (.tuple #[.agg #[v0_, .int .i64 r1, .int .i64 r2], .agg #[.bool false, .int .i64 r3, .int .i64 r4, .int .i64 r5, .int .i64 r6, .int .i64 r7], .int .i64 0]) ∧ Kd.R (Kd.int .i64) 3 w' w.heap.size (fun _ => True) v0_ l0_0 ∧ Below w.heap.size w w' := by
  have HX := Lib.hid hx
  have HO := Lib.hid ho
  have HW := Lib.hid hw
  have HD := Lib.hid hd
  have HY := Lib.hid hy
  clear hx ho hw hd hy
  have HR := Lib.hid hr0_0
  have Hc := Lib.hid hc0_0
  have HTab := Lib.hid hTab
  clear hr0_0 hc0_0 hTab
  go_enter Tryd.func9, Tryd.ntmps9
  go_wp2_with (first | ((with_reducible refine gate_dst (N := 2) rfl ?_); refine box_event ?hg (N := 2) ?hd (cs := #[.slice A0_0 l0_0.length c0_0, .int .i64 a0_1, .int .i64 a0_2]) (t := 24) ?hr ?_; (case hd => rfl); (case hg => rfl); (case hr => first | (go_simp; done) | (go_simp; rfl)); intro kq hE_ w1 hbox hb; have Ekq := Lib.hid hE_; have Xkq := Lib.hid hbox; have Bkq := Lib.hid hb; clear hE_ hbox hb) | ((with_reducible refine gate_dst (N := 3) rfl ?_); refine box_event ?hg (N := 3) ?hd (cs := #[.bool false, .int .i64 a1_1, .int .i64 a1_2, .int .i64 a1_3, .int .i64 a1_4, .int .i64 a1_5]) (t := 27) ?hr ?_; (case hd => rfl); (case hg => rfl); (case hr => first | (go_simp; done) | (go_simp; rfl)); intro kt hE_ w2 hbox hb; have Ekt := Lib.hid hE_; have Xkt := Lib.hid hbox; have Bkt := Lib.hid hb; clear hE_ hbox hb) | ((with_reducible refine gate_dst (N := 4) rfl ?_); refine box_event ?hg (N := 4) ?hd (cs := #[.slice none 0 0, .int .i64 0, .int .i64 0]) (t := 24) ?hr ?_; (case hd => rfl); (case hg => rfl); (case hr => first | (go_simp; done) | (go_simp; rfl)); intro kc hE_ w3 hbox hb; have Ekc := Lib.hid hE_; have Xkc := Lib.hid hbox; have Bkc := Lib.hid hb; clear hE_ hbox hb) | ((with_reducible refine gate_dst (N := 5) rfl ?_); refine box_event ?hg (N := 5) ?hd (cs := #[.bool false, .int .i64 0, .int .i64 0, .int .i64 0, .int .i64 0, .int .i64 0]) (t := 27) ?hr ?_; (case hd => rfl); (case hg => rfl); (case hr => first | (go_simp; done) | (go_simp; rfl)); intro kd hE_ w4 hbox hb; have Ekd := Lib.hid hE_; have Xkd := Lib.hid hbox; have Bkd := Lib.hid hb; clear hE_ hbox hb; have HF := Lib.hid (Four.make Bkq.out Bkt.out Bkc.out Bkd.out Ekq.out Ekt.out Ekc.out Ekd.out Xkq.out Xkt.out Xkc.out Xkd.out); clear Bkq Bkt Bkc Bkd Ekq Ekt Ekc Ekd Xkq Xkt Xkc Xkd; have g0 : w4.cell? ⟨kq, 0, none⟩ = some (.slice A0_0 l0_0.length c0_0) := (blk_cell HF.out.bg 0).trans rfl; have g1 : w4.cell? ⟨kq, 1, none⟩ = some (.int .i64 a0_1) := (blk_cell HF.out.bg 1).trans rfl; have g2 : w4.cell? ⟨kq, 2, none⟩ = some (.int .i64 a0_2) := (blk_cell HF.out.bg 2).trans rfl) | (go_at_call 23; refine Calls.mono (deque_Check.calls A0_0 c0_0 l0_0 a0_1 a0_2 0 _ ?_ ?_ HX.out (TabOK.below HTab.out (by repeat (first | exact HF.out.B | apply below_drew1 | apply pw_below_drewN)))) ?_; exact Kd.C_below HR.out (by repeat (first | exact HF.out.B | apply below_drew1 | apply pw_below_drewN)); exact Hc.out; rintro _ w5 ⟨rfl, hb⟩; have HF5 := Lib.hid (Four.below (by repeat (first | exact HF.out | apply Four.drew | apply Four.drewN)) hb); clear HF; clear hb; clear g0 g1 g2; have h0 : w5.cell? ⟨kt, 0, none⟩ = some (.bool false) := (blk_cell HF5.out.bh 0).trans rfl; have h1 : w5.cell? ⟨kt, 1, none⟩ = some (.int .i64 a1_1) := (blk_cell HF5.out.bh 1).trans rfl; have h2 : w5.cell? ⟨kt, 2, none⟩ = some (.int .i64 a1_2) := (blk_cell HF5.out.bh 2).trans rfl; have h3 : w5.cell? ⟨kt, 3, none⟩ = some (.int .i64 a1_3) := (blk_cell HF5.out.bh 3).trans rfl; have h4 : w5.cell? ⟨kt, 4, none⟩ = some (.int .i64 a1_4) := (blk_cell HF5.out.bh 4).trans rfl; have h5 : w5.cell? ⟨kt, 5, none⟩ = some (.int .i64 a1_5) := (blk_cell HF5.out.bh 5).trans rfl) | (go_at_call 27; refine Calls.mono (deque_open.calls false a1_1 a1_2 a1_3 a1_4 a1_5 true _ HO.out) ?_; rintro _ w6 ⟨rfl, hb⟩; have HF6 := Lib.hid (show Four w kq kt kc kd #[.slice A0_0 l0_0.length c0_0, .int .i64 a0_1, .int .i64 a0_2] #[.bool false, .int .i64 a1_1, .int .i64 a1_2, .int .i64 a1_3, .int .i64 a1_4, .int .i64 a1_5] #[.slice none 0 0, .int .i64 0, .int .i64 0] #[.bool false, .int .i64 0, .int .i64 0, .int .i64 0, .int .i64 0, .int .i64 0] w6 from Four.below (by with_reducible repeat (first | exact HF5.out | refine Four.drew ?_ | refine Four.drewN ?_ _)) hb); clear HF5 hb h0 h1 h2 h3 h4 h5; have g0 : w6.cell? ⟨kq, 0, none⟩ = some (.slice A0_0 l0_0.length c0_0) := (blk_cell HF6.out.bg 0).trans rfl; have g1 : w6.cell? ⟨kq, 1, none⟩ = some (.int .i64 a0_1) := (blk_cell HF6.out.bg 1).trans rfl; have g2 : w6.cell? ⟨kq, 2, none⟩ = some (.int .i64 a0_2) := (blk_cell HF6.out.bg 2).trans rfl) | (go_at_call 28; refine Calls.mono (deque_own.calls A0_0 c0_0 l0_0 a0_1 a0_2 l0_0 a0_1 a0_2 _ ?_ ?_ HW.out) ?_; exact Kd.C_below HR.out (Four.B (by with_reducible repeat (first | exact HF6.out | refine Four.drew ?_ | refine Four.drewN ?_ _))); exact Hc.out; rintro _ w7 ⟨vo, rfl, hR0, hb⟩; have HF7 := Lib.hid (show Four w kq kt kc kd #[.slice A0_0 l0_0.length c0_0, .int .i64 a0_1, .int .i64 a0_2] #[.bool false, .int .i64 a1_1, .int .i64 a1_2, .int .i64 a1_3, .int .i64 a1_4, .int .i64 a1_5] #[.slice none 0 0, .int .i64 0, .int .i64 0] #[.bool false, .int .i64 0, .int .i64 0, .int .i64 0, .int .i64 0, .int .i64 0] w7 from Four.below (by with_reducible repeat (first | exact HF6.out | refine Four.drew ?_ | refine Four.drewN ?_ _)) hb); obtain ⟨Ao, co, rfl⟩ := Kd.R_slice hR0; have HR7 := Lib.hid (Kd.R_lower hR0 (Four.B (by with_reducible repeat (first | exact HF6.out | refine Four.drew ?_ | refine Four.drewN ?_ _))).size); clear HF6 hb hR0 g0 g1 g2) | ((with_reducible refine gate_store (t := 24) (p := 2) (v := .tmp 22) ?hgs ?_); (case hgs => rfl); refine wpList_store_row rfl rfl 24 2 (.tmp 22) rfl kq rfl #[.slice Ao l0_0.length co, .int .i64 a0_1, .int .i64 a0_2] #[.slice A0_0 l0_0.length c0_0, .int .i64 a0_1, .int .i64 a0_2] 24 HF7.out.bg (by rfl) (by kernel_rfl) rfl (by rfl) (fun W_ => Four w kq kt kc kd #[.slice Ao l0_0.length co, .int .i64 a0_1, .int .i64 a0_2] #[.bool false, .int .i64 a1_1, .int .i64 a1_2, .int .i64 a1_3, .int .i64 a1_4, .int .i64 a1_5] #[.slice none 0 0, .int .i64 0, .int .i64 0] #[.bool false, .int .i64 0, .int .i64 0, .int .i64 0, .int .i64 0, .int .i64 0] W_ ∧ Kd.R (Kd.int .i64) 3 W_ w.heap.size (fun _ => True) (.slice Ao l0_0.length co) l0_0) ⟨HF7.out.rowG #[.slice Ao l0_0.length co, .int .i64 a0_1, .int .i64 a0_2], R_row_ HR7.out HF7.out.bg (by decide) _⟩ ?_; rintro w8 ⟨he, hR8⟩; have HF8 := Lib.hid he; have HR8 := Lib.hid hR8; clear he hR8 HF7 HR7; have h0 : w8.cell? ⟨kt, 0, none⟩ = some (.bool false) := (blk_cell HF8.out.bh 0).trans rfl))
  rename_i K1 hK1 K2 hK2
  refine Calls.mono (deque_pop.does kq kt w.heap.size (fun _ => True) Ao co l0_0 a0_1 a0_2 false a1_1 a1_2 a1_3 a1_4 a1_5 r1 r2 r3 r4 r5 r6 r7 HD.out _ (Four.bg (by with_reducible repeat (first | exact HF8.out | refine Four.drew ?_ | refine Four.drewN ?_ _))) (Four.bh (by with_reducible repeat (first | exact HF8.out | refine Four.drew ?_ | refine Four.drewN ?_ _))) ?_) ?_
  (repeat (first | exact HR8.out | refine Kd.R_drew ?_ | refine Kd.R_drewN ?_ _))
  rintro _ w9 ⟨rfl, ht, hg9, hh9⟩
  have HF9 := Lib.hid (show Four w kq kt kc kd #[.slice Ao l0_0.length co, .int .i64 r1, .int .i64 r2] #[.bool false, .int .i64 r3, .int .i64 r4, .int .i64 r5, .int .i64 r6, .int .i64 r7] #[.slice none 0 0, .int .i64 0, .int .i64 0] #[.bool false, .int .i64 0, .int .i64 0, .int .i64 0, .int .i64 0, .int .i64 0] w9 from Four.two (by with_reducible repeat (first | exact HF8.out | refine Four.drew ?_ | refine Four.drewN ?_ _)) ht hg9 hh9)
  have HR9 := Lib.hid (R_two ht (Four.bg (by with_reducible repeat (first | exact HF8.out | refine Four.drew ?_ | refine Four.drewN ?_ _))) (Four.bh (by with_reducible repeat (first | exact HF8.out | refine Four.drew ?_ | refine Four.drewN ?_ _))) (by repeat (first | exact HR8.out | refine Kd.R_drew ?_ | refine Kd.R_drewN ?_ _)))
  clear HF8 HR8 ht hg9 hh9 h0
  have g0 : w9.cell? ⟨kq, 0, none⟩ = some (.slice Ao l0_0.length co) := (blk_cell HF9.out.bg 0).trans rfl
  have g1 : w9.cell? ⟨kq, 1, none⟩ = some (.int .i64 r1) := (blk_cell HF9.out.bg 1).trans rfl
  have g2 : w9.cell? ⟨kq, 2, none⟩ = some (.int .i64 r2) := (blk_cell HF9.out.bg 2).trans rfl
  show K2 _ w9
  refine hK2 _ _ ?_
  show K1 _ w9
  refine hK1 _ _ ?_
  try go_wp2_with (first | (go_at_call 23; refine Calls.mono (deque_Check.calls Ao co l0_0 r1 r2 0 _ ?_ ?_ HY.out (TabOK.below HTab.out (Four.B (by with_reducible repeat (first | exact HF9.out | refine Four.drew ?_ | refine Four.drewN ?_ _))))) ?_; exact (ring_ (by repeat (first | exact HR9.out | refine Kd.R_drew ?_ | refine Kd.R_drewN ?_ _))).2; exact (ring_ HR9.out).1; rintro _ wa ⟨rfl, hb⟩; have HFa := Lib.hid (show Four w kq kt kc kd #[.slice Ao l0_0.length co, .int .i64 r1, .int .i64 r2] #[.bool false, .int .i64 r3, .int .i64 r4, .int .i64 r5, .int .i64 r6, .int .i64 r7] #[.slice none 0 0, .int .i64 0, .int .i64 0] #[.bool false, .int .i64 0, .int .i64 0, .int .i64 0, .int .i64 0, .int .i64 0] wa from Four.below (by with_reducible repeat (first | exact HF9.out | refine Four.drew ?_ | refine Four.drewN ?_ _)) hb); have HRa := Lib.hid (Kd.R_below (by repeat (first | exact HR9.out | refine Kd.R_drew ?_ | refine Kd.R_drewN ?_ _)) hb); clear HF9 HR9 hb g0 g1 g2; have g0 : wa.cell? ⟨kq, 0, none⟩ = some (.slice Ao l0_0.length co) := (blk_cell HFa.out.bg 0).trans rfl; have g1 : wa.cell? ⟨kq, 1, none⟩ = some (.int .i64 r1) := (blk_cell HFa.out.bg 1).trans rfl; have g2 : wa.cell? ⟨kq, 2, none⟩ = some (.int .i64 r2) := (blk_cell HFa.out.bg 2).trans rfl; have h0 : wa.cell? ⟨kt, 0, none⟩ = some (.bool false) := (blk_cell HFa.out.bh 0).trans rfl; have h1 : wa.cell? ⟨kt, 1, none⟩ = some (.int .i64 r3) := (blk_cell HFa.out.bh 1).trans rfl; have h2 : wa.cell? ⟨kt, 2, none⟩ = some (.int .i64 r4) := (blk_cell HFa.out.bh 2).trans rfl; have h3 : wa.cell? ⟨kt, 3, none⟩ = some (.int .i64 r5) := (blk_cell HFa.out.bh 3).trans rfl; have h4 : wa.cell? ⟨kt, 4, none⟩ = some (.int .i64 r6) := (blk_cell HFa.out.bh 4).trans rfl; have h5 : wa.cell? ⟨kt, 5, none⟩ = some (.int .i64 r7) := (blk_cell HFa.out.bh 5).trans rfl))
  have Ha := Lib.hid (Four.drew (by with_reducible repeat (first | exact HFa.out | refine Four.drew ?_ | refine Four.drewN ?_ _)))
  have HRHa := Lib.hid (Kd.R_drew (by with_reducible repeat (first | exact HRa.out | refine Kd.R_drew ?_ | refine Kd.R_drewN ?_ _)))
  clear HFa HRa g0 g1 g2 h0 h1 h2 h3 h4 h5
  refine start_ (n := 5) (S := fun W_ => W_.heap[kq]? = some (.cells #[.slice Ao l0_0.length co, .int .i64 r1, .int .i64 r2] 24 (0, 0)) ∧ W_.heap[kt]? = some (.cells #[.bool false, .int .i64 r3, .int .i64 r4, .int .i64 r5, .int .i64 r6, .int .i64 r7] 27 (0, 0))) (ds := []) #[false, false, false, false, false] (by kernel_rfl) rfl rfl ⟨Ha.out.bg, Ha.out.bh⟩ (fun hHeld => ?_)
  refine take_ (i := 0) (N := some 34) (v := .agg #[.slice Ao l0_0.length co, .int .i64 r1, .int .i64 r2]) (a' := ?_) #[true, false, false, false, false] rfl rfl (by kernel_rfl) (fun _ _ _ h => h) (Or.inl ⟨by rfl, fun w' hs => run_load_row_ rfl kq rfl 24 _ _ hs.1 Tryd.underlying24 rfl (by kernel_rfl)⟩) hHeld ?_ ?_
  rotate_left
  · simp only [Act.put, List.setIfInBounds_toArray, List.set_cons_zero, List.set_cons_succ, i64_w, i32_w]
    rfl
  refine take_ (i := 1) (N := some 35) (v := .agg #[.bool false, .int .i64 r3, .int .i64 r4, .int .i64 r5, .int .i64 r6, .int .i64 r7]) (a' := ?_) #[true, true, false, false, false] rfl rfl (by kernel_rfl) (fun _ _ _ h => h) (Or.inl ⟨by rfl, fun w' hs => run_load_row_ rfl kt rfl 27 _ _ hs.2 Tryd.underlying27 rfl (by kernel_rfl)⟩) hHeld ?_ ?_
  rotate_left
  · simp only [Act.put, List.setIfInBounds_toArray, List.set_cons_zero, List.set_cons_succ, i64_w, i32_w]
    rfl
  refine one_ (i := 2) (N := none) #[true, true, true, false, false] rfl rfl (by kernel_rfl) (by decide) (fun K hK => ?_)
  refine skip_ (by rfl) rfl (run_store_row_ rfl kc rfl #[.slice Ao l0_0.length co, .int .i64 r1, .int .i64 r2] #[.slice none 0 0, .int .i64 0, .int .i64 0] 24 Ha.out.bc rfl (by kernel_rfl) rfl rfl) ?_
  have Hb := Lib.hid (Four.rowC Ha.out #[.slice Ao l0_0.length co, .int .i64 r1, .int .i64 r2])
  have HRHb := Lib.hid (R_row_ HRHa.out Ha.out.bc (by decide) #[.slice Ao l0_0.length co, .int .i64 r1, .int .i64 r2])
  refine hK.out _ _ ⟨Hb.out.bg, Hb.out.bh⟩ (fun hHeld => ?_)
  clear hK K Ha HRHa
  refine one_ (i := 3) (N := none) #[true, true, true, true, false] rfl rfl (by kernel_rfl) (by decide) (fun K hK => ?_)
  refine skip_ (by rfl) rfl (run_store_row_ rfl kd rfl #[.bool false, .int .i64 r3, .int .i64 r4, .int .i64 r5, .int .i64 r6, .int .i64 r7] #[.bool false, .int .i64 0, .int .i64 0, .int .i64 0, .int .i64 0, .int .i64 0] 27 Hb.out.bd rfl (by kernel_rfl) rfl rfl) ?_
  have HD_ := Lib.hid (Four.rowD Hb.out #[.bool false, .int .i64 r3, .int .i64 r4, .int .i64 r5, .int .i64 r6, .int .i64 r7])
  have HRHD_ := Lib.hid (R_row_ HRHb.out Hb.out.bd (by decide) #[.bool false, .int .i64 r3, .int .i64 r4, .int .i64 r5, .int .i64 r6, .int .i64 r7])
  refine hK.out _ _ ⟨HD_.out.bg, HD_.out.bh⟩ (fun hHeld => ?_)
  clear hK K Hb HRHb
  refine pure_ (i := 4) (N := some 6) (v := .int .i64 0) #[true, true, true, true, true] rfl rfl (by kernel_rfl) (fun _ _ _ h => h) (Or.inl ⟨by rfl, fun w' => by go_simp⟩) rfl ?_
  refine done_ (by kernel_rfl) ?_
  try go_wp2
  have HZ := Lib.hid (show Four w kq kt kc kd _ _ #[.slice Ao l0_0.length co, .int .i64 r1, .int .i64 r2] #[.bool false, .int .i64 r3, .int .i64 r4, .int .i64 r5, .int .i64 r6, .int .i64 r7] _ by with_reducible repeat (first | exact HD_.out | refine Four.drew ?_ | refine Four.drewN ?_ _))
  refine bodyPost_ret (results_list (rs := [.cell 4 24, .cell 5 27, .tmp 6]) rfl (by simp) (.cell kc 24 _ (0, 0) _ rfl HZ.out.bc Tryd.underlying24 rfl (by kernel_rfl) (.cell kd 27 _ (0, 0) _ rfl HZ.out.bd Tryd.underlying27 rfl (by kernel_rfl) (.tmp .nil)))) rfl ?_
  exact ⟨_, rfl, HRHD_.out, HZ.out.B⟩

/-! ### deque_Step: function 9 -/
-- by hand
def deque_Step.f (l0_0 : List Int) (a0_1 : Int) (a0_2 : Int) (a1_0 : Bool) (a1_1 : Int) (a1_2 : Int) (a1_3 : Int) (a1_4 : Int) (a1_5 : Int) : Option (List Int × Int × Int × Bool × Int × Int × Int × Int × Int × Int) :=
  (deque_Check.f l0_0 a0_1 a0_2).bind fun x => if x = 0 then
    (deque_open.f a1_0 a1_1 a1_2 a1_3 a1_4 a1_5).bind fun o => if o = true then
      (deque_own.f l0_0 a0_1 a0_2).bind fun _ =>
        (if a1_0 = true then deque_steal.r l0_0 a0_1 a0_2 a1_1 a1_2 a1_3 a1_4 a1_5 else deque_pop.r l0_0 a0_1 a0_2 a1_1 a1_2 a1_3 a1_4 a1_5).bind fun s =>
          (deque_Check.f l0_0 s.1 s.2.1).bind fun y => if y = 0 then some (l0_0, s.1, s.2.1, a1_0, s.2.2.1, s.2.2.2.1, s.2.2.2.2.1, s.2.2.2.2.2.1, s.2.2.2.2.2.2, 0)
            else some ([], 0, 0, false, 0, 0, 0, 0, 0, y)
    else some ([], 0, 0, false, 0, 0, 0, 0, 0, 122)
  else some ([], 0, 0, false, 0, 0, 0, 0, 0, x)
theorem own_same {l : List Int} {a b : Int} {q : List Int × Int × Int} (h : deque_own.f l a b = some q) : deque_own.f l a b = some (l, a, b) := by
  unfold deque_own.f slices_Clone_int_int.f at h ⊢
  by_cases c : l.length < 17592186044416
  · rw [if_pos c]; rfl
  · rw [if_neg c] at h; simp at h
theorem ten {l1 l2 : List Int} {s1 s2 : Bool} {a1 a2 a3 a4 a5 a6 a7 a8 b1 b2 b3 b4 b5 b6 b7 b8 : Int} (h : some (l1, a1, a2, s1, a3, a4, a5, a6, a7, a8) = some (l2, b1, b2, s2, b3, b4, b5, b6, b7, b8)) : l1 = l2 ∧ a1 = b1 ∧ a2 = b2 ∧ s1 = s2 ∧ a3 = b3 ∧ a4 = b4 ∧ a5 = b5 ∧ a6 = b6 ∧ a7 = b7 ∧ a8 = b8 := by
  injection h with h; simpa [Prod.mk.injEq] using h
set_option maxHeartbeats 1000000 in
theorem deque_Step.calls (A0_0 : Option Addr) (c0_0 : Nat) (l0_0 : List Int) (a0_1 : Int) (a0_2 : Int) (a1_0 : Bool) (a1_1 : Int) (a1_2 : Int) (a1_3 : Int) (a1_4 : Int) (a1_5 : Int) (r1 : List Int) (r2 : Int) (r3 : Int) (r4 : Bool) (r5 : Int) (r6 : Int) (r7 : Int) (r8 : Int) (r9 : Int) (r10 : Int) (w : World) (hr0_0 : Kd.C (Kd.int .i64) w A0_0 l0_0.length l0_0) (hc0_0 : l0_0.length ≤ c0_0) (h : deque_Step.f l0_0 a0_1 a0_2 a1_0 a1_1 a1_2 a1_3 a1_4 a1_5 = some (r1, r2, r3, r4, r5, r6, r7, r8, r9, r10)) (hTab : TabOK w := by first | exact hTab | exact TabOK.below hTab HB.out | exact TabOK.drewN hTab _ | exact TabOK.below hTab (by repeat (first | (with_reducible first | exact HB.out | apply below_alloc | apply pw_below_drewN | apply below_drew1 | refine below_set ?_ (Aside0.out (by assumption))) | exact HB.out)) | (repeat (first | exact hTab | apply TabOK.drewN | apply TabOK.drew | apply TabOK.alloc); done)) :
    Calls Tryd.prog 9 #[.agg #[.slice A0_0 l0_0.length c0_0, .int .i64 a0_1, .int .i64 a0_2], .agg #[.bool a1_0, .int .i64 a1_1, .int .i64 a1_2, .int .i64 a1_3, .int .i64 a1_4, .int .i64 a1_5]] w fun e w' => ∃ v0_ : Value, e = .returned (.tuple #[.agg #[v0_, .int .i64 r2, .int .i64 r3], .agg #[.bool r4, .int .i64 r5, .int .i64 r6, .int .i64 r7, .int .i64 r8, .int .i64 r9], .int .i64 r10]) ∧ Kd.R (Kd.int .i64) 3 w' w.heap.size (fun _ => True) v0_ r1 ∧ Below w.heap.size w w' := by
  unfold deque_Step.f at h
  obtain ⟨x, hx, h⟩ := Option.bind_eq_some_iff.mp h
  by_cases hx0 : ¬ x = 0
  · rw [if_neg hx0] at h
    obtain ⟨rfl, rfl, rfl, rfl, rfl, rfl, rfl, rfl, rfl, rfl⟩ := ten h
    exact step_form A0_0 c0_0 l0_0 a0_1 a0_2 a1_0 a1_1 a1_2 a1_3 a1_4 a1_5 _ hx hx0 w hr0_0 hc0_0 hTab
  replace hx0 := Decidable.not_not.mp hx0
  rw [if_pos hx0] at h
  subst hx0
  obtain ⟨o, ho, h⟩ := Option.bind_eq_some_iff.mp h
  by_cases ho1 : ¬ o = true
  · rw [if_neg ho1] at h
    obtain rfl : o = false := by simpa using ho1
    obtain ⟨rfl, rfl, rfl, rfl, rfl, rfl, rfl, rfl, rfl, rfl⟩ := ten h
    exact step_over A0_0 c0_0 l0_0 a0_1 a0_2 a1_0 a1_1 a1_2 a1_3 a1_4 a1_5 hx ho w hr0_0 hc0_0 hTab
  replace ho1 := Decidable.not_not.mp ho1
  rw [if_pos ho1] at h
  subst ho1
  obtain ⟨q, hq, h⟩ := Option.bind_eq_some_iff.mp h
  replace hq := own_same hq
  obtain ⟨⟨s1, s2, s3, s4, s5, s6, s7⟩, hd, h⟩ := Option.bind_eq_some_iff.mp h
  obtain ⟨y, hy, h⟩ := Option.bind_eq_some_iff.mp h
  cases a1_0 with
  | true =>
    rw [if_pos rfl] at hd
    by_cases hy0 : y = 0
    · rw [if_pos hy0] at h
      subst hy0
      obtain ⟨rfl, rfl, rfl, rfl, rfl, rfl, rfl, rfl, rfl, rfl⟩ := ten h
      exact step_ok_steal A0_0 c0_0 l0_0 a0_1 a0_2 a1_1 a1_2 a1_3 a1_4 a1_5 _ _ _ _ _ _ _ hx ho hq hd hy w hr0_0 hc0_0 hTab
    · rw [if_neg hy0] at h
      obtain ⟨rfl, rfl, rfl, rfl, rfl, rfl, rfl, rfl, rfl, rfl⟩ := ten h
      exact step_late_steal A0_0 c0_0 l0_0 a0_1 a0_2 a1_1 a1_2 a1_3 a1_4 a1_5 _ _ _ _ _ _ _ _ hx ho hq hd hy hy0 w hr0_0 hc0_0 hTab
  | false =>
    rw [if_neg (by simp)] at hd
    by_cases hy0 : y = 0
    · rw [if_pos hy0] at h
      subst hy0
      obtain ⟨rfl, rfl, rfl, rfl, rfl, rfl, rfl, rfl, rfl, rfl⟩ := ten h
      exact step_ok_pop A0_0 c0_0 l0_0 a0_1 a0_2 a1_1 a1_2 a1_3 a1_4 a1_5 _ _ _ _ _ _ _ hx ho hq hd hy w hr0_0 hc0_0 hTab
    · rw [if_neg hy0] at h
      obtain ⟨rfl, rfl, rfl, rfl, rfl, rfl, rfl, rfl, rfl, rfl⟩ := ten h
      exact step_late_pop A0_0 c0_0 l0_0 a0_1 a0_2 a1_1 a1_2 a1_3 a1_4 a1_5 _ _ _ _ _ _ _ _ hx ho hq hd hy hy0 w hr0_0 hc0_0 hTab

/-! ### deque_Take: function 12 -/
def deque_Take.l0 : Nat → Int → List Int → Int → Int → Bool → Int → Int → Int → Int → Int → Option (List Int × Int × Int × Bool × Int × Int × Int × Int × Int × Int)
  | 0, _, _, _, _, _, _, _, _, _, _ => none
  | k + 1, x8, x121000, x121001, x121002, x124000, x124001, x124002, x124003, x124004, x124005 => if x8 = 0 then (if x124005 = 0 then ((deque_Step.f x121000 x121001 x121002 x124000 x124001 x124002 x124003 x124004 x124005).bind fun bt125 => (deque_Take.l0 k bt125.2.2.2.2.2.2.2.2.2 bt125.1 bt125.2.1 bt125.2.2.1 bt125.2.2.2.1 bt125.2.2.2.2.1 bt125.2.2.2.2.2.1 bt125.2.2.2.2.2.2.1 bt125.2.2.2.2.2.2.2.1 bt125.2.2.2.2.2.2.2.2.1)) else (some (x121000, x121001, x121002, x124000, x124001, x124002, x124003, x124004, x124005, 0))) else (some (([] : List Int), 0, 0, false, 0, 0, 0, 0, 0, x8))
def deque_Take.f (k : Nat) (l0_0 : List Int) (a0_1 : Int) (a0_2 : Int) (a1 : Bool) : Option (List Int × Int × Int × Bool × Int × Int × Int × Int × Int × Int) := (deque_Check.f l0_0 a0_1 a0_2).bind fun t124 => (deque_Take.l0 k t124 l0_0 a0_1 a0_2 a1 0 0 0 0 0)
theorem deque_Take.mono_l : ∀ k, (∀ y0 y1 y2 y3 y4 y5 y6 y7 y8 y9, LeO (deque_Take.l0 k y0 y1 y2 y3 y4 y5 y6 y7 y8 y9) (deque_Take.l0 (k + 1) y0 y1 y2 y3 y4 y5 y6 y7 y8 y9))
  | 0 => fun _ _ _ _ _ _ _ _ _ _ r h => by simp [deque_Take.l0] at h
  | k + 1 => by
    have ih0 := deque_Take.mono_l k
    · intro y0 y1 y2 y3 y4 y5 y6 y7 y8 y9
      unfold deque_Take.l0
      repeat' first
      | (with_reducible exact ih0 _ _ _ _ _ _ _ _ _ _)
      | (with_reducible exact LeO.refl _)
      | (with_reducible exact LeO.none _)
      | (with_reducible refine LeO.ite ?_ ?_)
      | (with_reducible refine LeO.bind ?_ (fun _ => ?_))
      | exact ih0 _ _ _ _ _ _ _ _ _ _
      | exact LeO.none _
      | refine LeO.ite ?_ ?_
      | refine LeO.bind ?_ (fun _ => ?_)
theorem deque_Take.mono : ∀ a0 a1 a2 a3 k, LeO (deque_Take.f k a0 a1 a2 a3) (deque_Take.f (k + 1) a0 a1 a2 a3) := by
  intro a0 a1 a2 a3 k
  have ih0 := deque_Take.mono_l k
  unfold deque_Take.f
  repeat' first
      | (with_reducible exact ih0 _ _ _ _ _ _ _ _ _ _)
      | (with_reducible exact LeO.refl _)
      | (with_reducible exact LeO.none _)
      | (with_reducible refine LeO.ite ?_ ?_)
      | (with_reducible refine LeO.bind ?_ (fun _ => ?_))
      | exact ih0 _ _ _ _ _ _ _ _ _ _
      | exact LeO.none _
      | refine LeO.ite ?_ ?_
      | refine LeO.bind ?_ (fun _ => ?_)
set_option maxHeartbeats 8000000 in
set_option maxRecDepth 100000 in
theorem deque_Take.calls (k : Nat) (P0_0_ : Nat → Prop) (A0_0 : Option Addr) (c0_0 : Nat) (l0_0 : List Int) (a0_1 : Int) (a0_2 : Int) (a1 : Bool) (r1 : List Int) (r2 : Int) (r3 : Int) (r4 : Bool) (r5 : Int) (r6 : Int) (r7 : Int) (r8 : Int) (r9 : Int) (r10 : Int) (w : World) (hs0_0 : Kd.V (Kd.int .i64) 3 w w.heap.size (fun k_ => P0_0_ k_) (.slice A0_0 l0_0.length c0_0) l0_0) (h : deque_Take.f k l0_0 a0_1 a0_2 a1 = some (r1, r2, r3, r4, r5, r6, r7, r8, r9, r10)) (hTab : TabOK w := by first | exact hTab | exact TabOK.below hTab HB.out | exact TabOK.drewN hTab _ | exact TabOK.below hTab (by repeat (first | (with_reducible first | exact HB.out | apply below_alloc | apply pw_below_drewN | apply below_drew1 | refine below_set ?_ (Aside0.out (by assumption))) | exact HB.out)) | (repeat (first | exact hTab | apply TabOK.drewN | apply TabOK.drew | apply TabOK.alloc); done)) :
    Calls Tryd.prog 12 #[.agg #[.slice A0_0 l0_0.length c0_0, .int .i64 a0_1, .int .i64 a0_2], .bool a1] w fun e w' => ∃ v0_ : Value, e = .returned (.tuple #[.agg #[v0_, .int .i64 r2, .int .i64 r3], .agg #[.bool r4, .int .i64 r5, .int .i64 r6, .int .i64 r7, .int .i64 r8, .int .i64 r9], .int .i64 r10]) ∧ Kd.V (Kd.int .i64) 3 w' w.heap.size (fun k_ => (P0_0_ k_ ∨ w.heap.size ≤ k_)) v0_ r1 ∧ Below w.heap.size w w' := by
  have hu24 := Tryd.underlying24
  have hu27 := Tryd.underlying27
  have HO0_0 := Aside0.mk (show Kd.V (Kd.int .i64) 3 w w.heap.size (fun k_ => (P0_0_ k_ ∨ w.heap.size ≤ k_)) (.slice A0_0 l0_0.length c0_0) l0_0 from Kd.V_mono hs0_0 (fun k_ hk => .inl hk))
  have HB := Aside0.mk (Below.refl w.heap.size w)
  have H : ((deque_Check.f l0_0 a0_1 a0_2).bind fun t124 => (deque_Take.l0 k t124 l0_0 a0_1 a0_2 a1 0 0 0 0 0)) = some (r1, r2, r3, r4, r5, r6, r7, r8, r9, r10) := h
  clear h
  replace H := Option.bind_eq_some_iff.mp H
  obtain ⟨t124, A30, H⟩ := H
  replace H : (deque_Take.l0 k t124 l0_0 a0_1 a0_2 a1 0 0 0 0 0) = some (r1, r2, r3, r4, r5, r6, r7, r8, r9, r10) := H
  have A3 := Aside0.mk A30
  clear A30
  have H' := Aside0.mk H
  clear H
  go_enter Tryd.func12, Tryd.ntmps12
  go_wp2_with (first | ((with_reducible refine gate_dst (N := 2) rfl ?_); refine box_event ?hg (N := 2) ?hd (cs := #[.slice A0_0 l0_0.length c0_0, .int .i64 a0_1, .int .i64 a0_2]) (t := 24) ?hr ?_; (case hd => rfl); (case hg => rfl); (case hr => first | (go_simp; done) | (go_simp; rfl)); intro gb120 hg w4 hbox hb; have n0_ := Aside0.mk (Kd.V_below (Kd.V_elderB (by (with_reducible repeat (first | apply Kd.V_alloc | apply Kd.V_drewN | apply Kd.V_drew)); exact HO0_0.out) gb120 (Nat.le_of_eq hg.symm)) hb); have n1_ := Aside0.mk (below_step (by repeat (first | (with_reducible first | exact HB.out | apply below_alloc | apply pw_below_drewN | apply below_drew1) | exact HB.out)) hb); have n2_ := Aside0.mk (hbox); have n3_ := Aside0.mk ((by rw [hg]; exact (below_size (by repeat (first | (with_reducible first | exact HB.out | apply below_alloc | apply pw_below_drewN | apply below_drew1) | exact HB.out))) : w.heap.size ≤ gb120)); have n4_ := Aside0.mk ((by rw [hg]; exact (below_size (by repeat (first | (with_reducible first | exact HB.out | apply below_alloc | apply pw_below_drewN | apply below_drew1) | exact HB.out))) : w.heap.size ≤ gb120)); clear HO0_0; clear HB; have HO0_0 := n0_; have HB := n1_; have BK120 := n2_; have GW120 := n3_; have GE120 := n4_; clear n0_ n1_ n2_ n3_ n4_; clear hb hbox hg) | ((with_reducible refine gate_dst (N := 4) rfl ?_); refine box_event ?hg (N := 4) ?hd (cs := #[.slice none 0 0, .int .i64 0, .int .i64 0]) (t := 24) ?hr ?_; (case hd => rfl); (case hg => rfl); (case hr => first | (go_simp; done) | (go_simp; rfl)); intro gb121 hg w5 hbox hb; have n0_ := Aside0.mk (Kd.V_below (Kd.V_elderB (by (with_reducible repeat (first | apply Kd.V_alloc | apply Kd.V_drewN | apply Kd.V_drew)); exact HO0_0.out) gb121 (Nat.le_of_eq hg.symm)) hb); have n1_ := Aside0.mk (blk_below (g := gb120) (o := .cells #[.slice A0_0 l0_0.length c0_0, .int .i64 a0_1, .int .i64 a0_2] 24 (0, 0)) (by (with_reducible repeat (first | refine blk_drewN ?_ _ | refine blk_drew ?_ | refine blk_alloc ?_ _)); exact BK120.out) hb); have n2_ := Aside0.mk (below_step (by repeat (first | (with_reducible first | exact HB.out | apply below_alloc | apply pw_below_drewN | apply below_drew1 | refine below_set ?_ GE120.out) | exact HB.out)) hb); have n3_ := Aside0.mk (hbox); have n4_ := Aside0.mk ((by rw [hg]; exact (below_size (by repeat (first | (with_reducible first | exact HB.out | apply below_alloc | apply pw_below_drewN | apply below_drew1 | refine below_set ?_ GE120.out) | exact HB.out))) : w.heap.size ≤ gb121)); have n5_ := Aside0.mk ((by rw [hg]; exact (below_size (by repeat (first | (with_reducible first | exact HB.out | apply below_alloc | apply pw_below_drewN | apply below_drew1 | refine below_set ?_ GE120.out) | exact HB.out))) : w.heap.size ≤ gb121)); have n6_ := Aside0.mk ((by rw [hg]; exact Nat.ne_of_lt (blk_lt (g := gb120) (o := .cells #[.slice A0_0 l0_0.length c0_0, .int .i64 a0_1, .int .i64 a0_2] 24 (0, 0)) (by (with_reducible repeat (first | refine blk_drewN ?_ _ | refine blk_drew ?_ | refine blk_alloc ?_ _)); exact BK120.out)) : gb120 ≠ gb121)); have n7_ := Aside0.mk ((by rw [hg]; exact Nat.ne_of_gt (blk_lt (g := gb120) (o := .cells #[.slice A0_0 l0_0.length c0_0, .int .i64 a0_1, .int .i64 a0_2] 24 (0, 0)) (by (with_reducible repeat (first | refine blk_drewN ?_ _ | refine blk_drew ?_ | refine blk_alloc ?_ _)); exact BK120.out)) : gb121 ≠ gb120)); clear HO0_0; clear BK120; clear HB; have HO0_0 := n0_; have BK120 := n1_; have HB := n2_; have BK121 := n3_; have GW121 := n4_; have GE121 := n5_; have NB120_121 := n6_; have NB121_120 := n7_; clear n0_ n1_ n2_ n3_ n4_ n5_ n6_ n7_; clear hb hbox hg) | ((with_reducible refine gate_dst (N := 5) rfl ?_); refine box_event ?hg (N := 5) ?hd (cs := #[.bool false, .int .i64 0, .int .i64 0, .int .i64 0, .int .i64 0, .int .i64 0]) (t := 27) ?hr ?_; (case hd => rfl); (case hg => rfl); (case hr => first | (go_simp; done) | (go_simp; rfl)); intro gb122 hg w6 hbox hb; have n0_ := Aside0.mk (Kd.V_below (Kd.V_elderB (by (with_reducible repeat (first | apply Kd.V_alloc | apply Kd.V_drewN | apply Kd.V_drew)); exact HO0_0.out) gb122 (Nat.le_of_eq hg.symm)) hb); have n1_ := Aside0.mk (blk_below (g := gb120) (o := .cells #[.slice A0_0 l0_0.length c0_0, .int .i64 a0_1, .int .i64 a0_2] 24 (0, 0)) (by (with_reducible repeat (first | refine blk_drewN ?_ _ | refine blk_drew ?_ | refine blk_alloc ?_ _)); exact BK120.out) hb); have n2_ := Aside0.mk (blk_below (g := gb121) (o := .cells #[.slice none 0 0, .int .i64 0, .int .i64 0] 24 (0, 0)) (by (with_reducible repeat (first | refine blk_drewN ?_ _ | refine blk_drew ?_ | refine blk_alloc ?_ _)); exact BK121.out) hb); have n3_ := Aside0.mk (below_step (by repeat (first | (with_reducible first | exact HB.out | apply below_alloc | apply pw_below_drewN | apply below_drew1 | refine below_set ?_ GE120.out | refine below_set ?_ GE121.out) | exact HB.out)) hb); have n4_ := Aside0.mk (hbox); have n5_ := Aside0.mk ((by rw [hg]; exact (below_size (by repeat (first | (with_reducible first | exact HB.out | apply below_alloc | apply pw_below_drewN | apply below_drew1 | refine below_set ?_ GE120.out | refine below_set ?_ GE121.out) | exact HB.out))) : w.heap.size ≤ gb122)); have n6_ := Aside0.mk ((by rw [hg]; exact (below_size (by repeat (first | (with_reducible first | exact HB.out | apply below_alloc | apply pw_below_drewN | apply below_drew1 | refine below_set ?_ GE120.out | refine below_set ?_ GE121.out) | exact HB.out))) : w.heap.size ≤ gb122)); have n7_ := Aside0.mk ((by rw [hg]; exact Nat.ne_of_lt (blk_lt (g := gb120) (o := .cells #[.slice A0_0 l0_0.length c0_0, .int .i64 a0_1, .int .i64 a0_2] 24 (0, 0)) (by (with_reducible repeat (first | refine blk_drewN ?_ _ | refine blk_drew ?_ | refine blk_alloc ?_ _)); exact BK120.out)) : gb120 ≠ gb122)); have n8_ := Aside0.mk ((by rw [hg]; exact Nat.ne_of_gt (blk_lt (g := gb120) (o := .cells #[.slice A0_0 l0_0.length c0_0, .int .i64 a0_1, .int .i64 a0_2] 24 (0, 0)) (by (with_reducible repeat (first | refine blk_drewN ?_ _ | refine blk_drew ?_ | refine blk_alloc ?_ _)); exact BK120.out)) : gb122 ≠ gb120)); have n9_ := Aside0.mk ((by rw [hg]; exact Nat.ne_of_lt (blk_lt (g := gb121) (o := .cells #[.slice none 0 0, .int .i64 0, .int .i64 0] 24 (0, 0)) (by (with_reducible repeat (first | refine blk_drewN ?_ _ | refine blk_drew ?_ | refine blk_alloc ?_ _)); exact BK121.out)) : gb121 ≠ gb122)); have n10_ := Aside0.mk ((by rw [hg]; exact Nat.ne_of_gt (blk_lt (g := gb121) (o := .cells #[.slice none 0 0, .int .i64 0, .int .i64 0] 24 (0, 0)) (by (with_reducible repeat (first | refine blk_drewN ?_ _ | refine blk_drew ?_ | refine blk_alloc ?_ _)); exact BK121.out)) : gb122 ≠ gb121)); clear HO0_0; clear BK120; clear BK121; clear HB; have HO0_0 := n0_; have BK120 := n1_; have BK121 := n2_; have HB := n3_; have BK122 := n4_; have GW122 := n5_; have GE122 := n6_; have NB120_122 := n7_; have NB122_120 := n8_; have NB121_122 := n9_; have NB122_121 := n10_; clear n0_ n1_ n2_ n3_ n4_ n5_ n6_ n7_ n8_ n9_ n10_; clear hb hbox hg) | ((with_reducible refine gate_dst (N := 7) rfl ?_); refine box_event ?hg (N := 7) ?hd (cs := #[.bool false, .int .i64 0, .int .i64 0, .int .i64 0, .int .i64 0, .int .i64 0]) (t := 27) ?hr ?_; (case hd => rfl); (case hg => rfl); (case hr => first | (go_simp; done) | (go_simp; rfl)); intro gb123 hg w7 hbox hb; have n0_ := Aside0.mk (Kd.V_below (Kd.V_elderB (by (with_reducible repeat (first | apply Kd.V_alloc | apply Kd.V_drewN | apply Kd.V_drew)); exact HO0_0.out) gb123 (Nat.le_of_eq hg.symm)) hb); have n1_ := Aside0.mk (blk_below (g := gb120) (o := .cells #[.slice A0_0 l0_0.length c0_0, .int .i64 a0_1, .int .i64 a0_2] 24 (0, 0)) (by (with_reducible repeat (first | refine blk_drewN ?_ _ | refine blk_drew ?_ | refine blk_alloc ?_ _)); exact BK120.out) hb); have n2_ := Aside0.mk (blk_below (g := gb121) (o := .cells #[.slice none 0 0, .int .i64 0, .int .i64 0] 24 (0, 0)) (by (with_reducible repeat (first | refine blk_drewN ?_ _ | refine blk_drew ?_ | refine blk_alloc ?_ _)); exact BK121.out) hb); have n3_ := Aside0.mk (blk_below (g := gb122) (o := .cells #[.bool false, .int .i64 0, .int .i64 0, .int .i64 0, .int .i64 0, .int .i64 0] 27 (0, 0)) (by (with_reducible repeat (first | refine blk_drewN ?_ _ | refine blk_drew ?_ | refine blk_alloc ?_ _)); exact BK122.out) hb); have n4_ := Aside0.mk (below_step (by repeat (first | (with_reducible first | exact HB.out | apply below_alloc | apply pw_below_drewN | apply below_drew1 | refine below_set ?_ GE120.out | refine below_set ?_ GE121.out | refine below_set ?_ GE122.out) | exact HB.out)) hb); have n5_ := Aside0.mk (hbox); have n6_ := Aside0.mk ((by rw [hg]; exact (below_size (by repeat (first | (with_reducible first | exact HB.out | apply below_alloc | apply pw_below_drewN | apply below_drew1 | refine below_set ?_ GE120.out | refine below_set ?_ GE121.out | refine below_set ?_ GE122.out) | exact HB.out))) : w.heap.size ≤ gb123)); have n7_ := Aside0.mk ((by rw [hg]; exact (below_size (by repeat (first | (with_reducible first | exact HB.out | apply below_alloc | apply pw_below_drewN | apply below_drew1 | refine below_set ?_ GE120.out | refine below_set ?_ GE121.out | refine below_set ?_ GE122.out) | exact HB.out))) : w.heap.size ≤ gb123)); have n8_ := Aside0.mk ((by rw [hg]; exact Nat.ne_of_lt (blk_lt (g := gb120) (o := .cells #[.slice A0_0 l0_0.length c0_0, .int .i64 a0_1, .int .i64 a0_2] 24 (0, 0)) (by (with_reducible repeat (first | refine blk_drewN ?_ _ | refine blk_drew ?_ | refine blk_alloc ?_ _)); exact BK120.out)) : gb120 ≠ gb123)); have n9_ := Aside0.mk ((by rw [hg]; exact Nat.ne_of_gt (blk_lt (g := gb120) (o := .cells #[.slice A0_0 l0_0.length c0_0, .int .i64 a0_1, .int .i64 a0_2] 24 (0, 0)) (by (with_reducible repeat (first | refine blk_drewN ?_ _ | refine blk_drew ?_ | refine blk_alloc ?_ _)); exact BK120.out)) : gb123 ≠ gb120)); have n10_ := Aside0.mk ((by rw [hg]; exact Nat.ne_of_lt (blk_lt (g := gb121) (o := .cells #[.slice none 0 0, .int .i64 0, .int .i64 0] 24 (0, 0)) (by (with_reducible repeat (first | refine blk_drewN ?_ _ | refine blk_drew ?_ | refine blk_alloc ?_ _)); exact BK121.out)) : gb121 ≠ gb123)); have n11_ := Aside0.mk ((by rw [hg]; exact Nat.ne_of_gt (blk_lt (g := gb121) (o := .cells #[.slice none 0 0, .int .i64 0, .int .i64 0] 24 (0, 0)) (by (with_reducible repeat (first | refine blk_drewN ?_ _ | refine blk_drew ?_ | refine blk_alloc ?_ _)); exact BK121.out)) : gb123 ≠ gb121)); have n12_ := Aside0.mk ((by rw [hg]; exact Nat.ne_of_lt (blk_lt (g := gb122) (o := .cells #[.bool false, .int .i64 0, .int .i64 0, .int .i64 0, .int .i64 0, .int .i64 0] 27 (0, 0)) (by (with_reducible repeat (first | refine blk_drewN ?_ _ | refine blk_drew ?_ | refine blk_alloc ?_ _)); exact BK122.out)) : gb122 ≠ gb123)); have n13_ := Aside0.mk ((by rw [hg]; exact Nat.ne_of_gt (blk_lt (g := gb122) (o := .cells #[.bool false, .int .i64 0, .int .i64 0, .int .i64 0, .int .i64 0, .int .i64 0] 27 (0, 0)) (by (with_reducible repeat (first | refine blk_drewN ?_ _ | refine blk_drew ?_ | refine blk_alloc ?_ _)); exact BK122.out)) : gb123 ≠ gb122)); clear HO0_0; clear BK120; clear BK121; clear BK122; clear HB; have HO0_0 := n0_; have BK120 := n1_; have BK121 := n2_; have BK122 := n3_; have HB := n4_; have BK123 := n5_; have GW123 := n6_; have GE123 := n7_; have NB120_123 := n8_; have NB123_120 := n9_; have NB121_123 := n10_; have NB123_121 := n11_; have NB122_123 := n12_; have NB123_122 := n13_; clear n0_ n1_ n2_ n3_ n4_ n5_ n6_ n7_ n8_ n9_ n10_ n11_ n12_ n13_; clear hb hbox hg; have hnb8 := NB123_120.out; have hnc8 := NB120_123.out; have hnb9 := NB123_121.out; have hnc9 := NB121_123.out; have hnb10 := NB123_122.out; have hnc10 := NB122_123.out; have hcz11_0 : w7.cell? ⟨gb123, 0, none⟩ = some (.bool false) := (blk_cell BK123.out 0).trans rfl; have hcz11_1 : w7.cell? ⟨gb123, 1, none⟩ = some (.int .i64 0) := (blk_cell BK123.out 1).trans rfl; have hcz11_2 : w7.cell? ⟨gb123, 2, none⟩ = some (.int .i64 0) := (blk_cell BK123.out 2).trans rfl; have hcz11_3 : w7.cell? ⟨gb123, 3, none⟩ = some (.int .i64 0) := (blk_cell BK123.out 3).trans rfl; have hcz11_4 : w7.cell? ⟨gb123, 4, none⟩ = some (.int .i64 0) := (blk_cell BK123.out 4).trans rfl; have hcz11_5 : w7.cell? ⟨gb123, 5, none⟩ = some (.int .i64 0) := (blk_cell BK123.out 5).trans rfl; have hfz11_0 := blk_frozen BK123.out 0; have hfz11_1 := blk_frozen BK123.out 1; have hfz11_2 := blk_frozen BK123.out 2; have hfz11_3 := blk_frozen BK123.out 3; have hfz11_4 := blk_frozen BK123.out 4; have hfz11_5 := blk_frozen BK123.out 5; have hnb12 := NB120_121.out; have hnc12 := NB121_120.out; have hnb13 := NB120_122.out; have hnc13 := NB122_120.out; have hcz14_0 : w7.cell? ⟨gb120, 0, none⟩ = some (.slice A0_0 l0_0.length c0_0) := (blk_cell BK120.out 0).trans rfl; have hcz14_1 : w7.cell? ⟨gb120, 1, none⟩ = some (.int .i64 a0_1) := (blk_cell BK120.out 1).trans rfl; have hcz14_2 : w7.cell? ⟨gb120, 2, none⟩ = some (.int .i64 a0_2) := (blk_cell BK120.out 2).trans rfl; have hfz14_0 := blk_frozen BK120.out 0; have hfz14_1 := blk_frozen BK120.out 1; have hfz14_2 := blk_frozen BK120.out 2) | ((with_reducible refine gate_callee (f := 23) rfl ?_); refine goesL_ (some 12) rfl rfl Tryd.func23 (by kernel_rfl) rfl #[.agg #[.slice A0_0 l0_0.length c0_0, .int .i64 a0_1, .int .i64 a0_2]] rfl (by (try simp only [List.map_toArray, List.map_cons, List.map_nil]); first | done | rfl | (simp only [List.length_drop, List.length_take]; rfl)) ?_; (with_reducible refine (deque_Check.calls _ _ l0_0 a0_1 a0_2 t124 _ ?side1 ?side2 A3.out).mono ?_); (case side1 => refine (Kd.V_reads' (e := 3) (base := w.heap.size) (ok := fun k_ => (((((P0_0_ k_ ∨ w.heap.size ≤ k_) ∧ k_ ≠ gb120) ∧ k_ ≠ gb121) ∧ k_ ≠ gb122) ∧ k_ ≠ gb123)) (n := l0_0.length) (c := c0_0) ?_).2.2; exact (by (with_reducible repeat (first | apply Kd.V_alloc | apply Kd.V_drewN | apply Kd.V_drew)); exact (Kd.V_mono (Kd.V_far (p := ⟨gb123, 5, none⟩) (Kd.V_far (p := ⟨gb123, 4, none⟩) (Kd.V_far (p := ⟨gb123, 3, none⟩) (Kd.V_far (p := ⟨gb123, 2, none⟩) (Kd.V_far (p := ⟨gb123, 1, none⟩) (Kd.V_far (p := ⟨gb123, 0, none⟩) (Kd.V_mono HO0_0.out (fun k_ hk => (⟨hk, hk.2⟩ : _ ∧ k_ ≠ gb123))) (fun _ hk => hk.2) (.bool a1)) (fun _ hk => hk.2) (.int .i64 0)) (fun _ hk => hk.2) (.int .i64 0)) (fun _ hk => hk.2) (.int .i64 0)) (fun _ hk => hk.2) (.int .i64 0)) (fun _ hk => hk.2) (.int .i64 0)) (fun _ h_ => h_.1)))); (case side2 => exact (Kd.V_reads' HO0_0.out).2.1); rintro e w15 ⟨rfl, hb⟩; refine ⟨_, rfl, ?_⟩; have n0_ := Aside0.mk (Kd.V_below (by (with_reducible repeat (first | apply Kd.V_alloc | apply Kd.V_drewN | apply Kd.V_drew)); exact (Kd.V_mono (Kd.V_far (p := ⟨gb123, 5, none⟩) (Kd.V_far (p := ⟨gb123, 4, none⟩) (Kd.V_far (p := ⟨gb123, 3, none⟩) (Kd.V_far (p := ⟨gb123, 2, none⟩) (Kd.V_far (p := ⟨gb123, 1, none⟩) (Kd.V_far (p := ⟨gb123, 0, none⟩) (Kd.V_mono HO0_0.out (fun k_ hk => (⟨hk, hk.2⟩ : _ ∧ k_ ≠ gb123))) (fun _ hk => hk.2) (.bool a1)) (fun _ hk => hk.2) (.int .i64 0)) (fun _ hk => hk.2) (.int .i64 0)) (fun _ hk => hk.2) (.int .i64 0)) (fun _ hk => hk.2) (.int .i64 0)) (fun _ hk => hk.2) (.int .i64 0)) (fun _ h_ => h_.1))) hb); have n1_ := Aside0.mk (blk_below (g := gb120) (o := .cells #[.slice A0_0 l0_0.length c0_0, .int .i64 a0_1, .int .i64 a0_2] 24 (0, 0)) (by (with_reducible repeat (first | refine blk_drewN ?_ _ | refine blk_drew ?_ | refine blk_alloc ?_ _)); refine blk_far ?_ NB120_123.out _; (with_reducible repeat (first | refine blk_drewN ?_ _ | refine blk_drew ?_ | refine blk_alloc ?_ _)); refine blk_far ?_ NB120_123.out _; (with_reducible repeat (first | refine blk_drewN ?_ _ | refine blk_drew ?_ | refine blk_alloc ?_ _)); refine blk_far ?_ NB120_123.out _; (with_reducible repeat (first | refine blk_drewN ?_ _ | refine blk_drew ?_ | refine blk_alloc ?_ _)); refine blk_far ?_ NB120_123.out _; (with_reducible repeat (first | refine blk_drewN ?_ _ | refine blk_drew ?_ | refine blk_alloc ?_ _)); refine blk_far ?_ NB120_123.out _; (with_reducible repeat (first | refine blk_drewN ?_ _ | refine blk_drew ?_ | refine blk_alloc ?_ _)); refine blk_far ?_ NB120_123.out _; (with_reducible repeat (first | refine blk_drewN ?_ _ | refine blk_drew ?_ | refine blk_alloc ?_ _)); exact BK120.out) hb); have n2_ := Aside0.mk (blk_below (g := gb121) (o := .cells #[.slice none 0 0, .int .i64 0, .int .i64 0] 24 (0, 0)) (by (with_reducible repeat (first | refine blk_drewN ?_ _ | refine blk_drew ?_ | refine blk_alloc ?_ _)); refine blk_far ?_ NB121_123.out _; (with_reducible repeat (first | refine blk_drewN ?_ _ | refine blk_drew ?_ | refine blk_alloc ?_ _)); refine blk_far ?_ NB121_123.out _; (with_reducible repeat (first | refine blk_drewN ?_ _ | refine blk_drew ?_ | refine blk_alloc ?_ _)); refine blk_far ?_ NB121_123.out _; (with_reducible repeat (first | refine blk_drewN ?_ _ | refine blk_drew ?_ | refine blk_alloc ?_ _)); refine blk_far ?_ NB121_123.out _; (with_reducible repeat (first | refine blk_drewN ?_ _ | refine blk_drew ?_ | refine blk_alloc ?_ _)); refine blk_far ?_ NB121_123.out _; (with_reducible repeat (first | refine blk_drewN ?_ _ | refine blk_drew ?_ | refine blk_alloc ?_ _)); refine blk_far ?_ NB121_123.out _; (with_reducible repeat (first | refine blk_drewN ?_ _ | refine blk_drew ?_ | refine blk_alloc ?_ _)); exact BK121.out) hb); have n3_ := Aside0.mk (blk_below (g := gb122) (o := .cells #[.bool false, .int .i64 0, .int .i64 0, .int .i64 0, .int .i64 0, .int .i64 0] 27 (0, 0)) (by (with_reducible repeat (first | refine blk_drewN ?_ _ | refine blk_drew ?_ | refine blk_alloc ?_ _)); refine blk_far ?_ NB122_123.out _; (with_reducible repeat (first | refine blk_drewN ?_ _ | refine blk_drew ?_ | refine blk_alloc ?_ _)); refine blk_far ?_ NB122_123.out _; (with_reducible repeat (first | refine blk_drewN ?_ _ | refine blk_drew ?_ | refine blk_alloc ?_ _)); refine blk_far ?_ NB122_123.out _; (with_reducible repeat (first | refine blk_drewN ?_ _ | refine blk_drew ?_ | refine blk_alloc ?_ _)); refine blk_far ?_ NB122_123.out _; (with_reducible repeat (first | refine blk_drewN ?_ _ | refine blk_drew ?_ | refine blk_alloc ?_ _)); refine blk_far ?_ NB122_123.out _; (with_reducible repeat (first | refine blk_drewN ?_ _ | refine blk_drew ?_ | refine blk_alloc ?_ _)); refine blk_far ?_ NB122_123.out _; (with_reducible repeat (first | refine blk_drewN ?_ _ | refine blk_drew ?_ | refine blk_alloc ?_ _)); exact BK122.out) hb); have n4_ := Aside0.mk (blk_below (g := gb123) (o := .cells #[.bool a1, .int .i64 0, .int .i64 0, .int .i64 0, .int .i64 0, .int .i64 0] 27 (0, 0)) (by (with_reducible repeat (first | refine blk_drewN ?_ _ | refine blk_drew ?_ | refine blk_alloc ?_ _)); refine blk_put (cs := #[.bool a1, .int .i64 0, .int .i64 0, .int .i64 0, .int .i64 0, .int .i64 0]) ?_ 5 _ rfl; (with_reducible repeat (first | refine blk_drewN ?_ _ | refine blk_drew ?_ | refine blk_alloc ?_ _)); refine blk_put (cs := #[.bool a1, .int .i64 0, .int .i64 0, .int .i64 0, .int .i64 0, .int .i64 0]) ?_ 4 _ rfl; (with_reducible repeat (first | refine blk_drewN ?_ _ | refine blk_drew ?_ | refine blk_alloc ?_ _)); refine blk_put (cs := #[.bool a1, .int .i64 0, .int .i64 0, .int .i64 0, .int .i64 0, .int .i64 0]) ?_ 3 _ rfl; (with_reducible repeat (first | refine blk_drewN ?_ _ | refine blk_drew ?_ | refine blk_alloc ?_ _)); refine blk_put (cs := #[.bool a1, .int .i64 0, .int .i64 0, .int .i64 0, .int .i64 0, .int .i64 0]) ?_ 2 _ rfl; (with_reducible repeat (first | refine blk_drewN ?_ _ | refine blk_drew ?_ | refine blk_alloc ?_ _)); refine blk_put (cs := #[.bool a1, .int .i64 0, .int .i64 0, .int .i64 0, .int .i64 0, .int .i64 0]) ?_ 1 _ rfl; (with_reducible repeat (first | refine blk_drewN ?_ _ | refine blk_drew ?_ | refine blk_alloc ?_ _)); refine blk_put (cs := #[.bool false, .int .i64 0, .int .i64 0, .int .i64 0, .int .i64 0, .int .i64 0]) ?_ 0 _ rfl; (with_reducible repeat (first | refine blk_drewN ?_ _ | refine blk_drew ?_ | refine blk_alloc ?_ _)); exact BK123.out) hb); have n5_ := Aside0.mk (below_step (by repeat (first | (with_reducible first | exact HB.out | apply below_alloc | apply pw_below_drewN | apply below_drew1 | refine below_set ?_ GE120.out | refine below_set ?_ GE121.out | refine below_set ?_ GE122.out | refine below_set ?_ GE123.out) | exact HB.out)) hb); clear HO0_0; clear BK120; clear BK121; clear BK122; clear BK123; clear HB; have HO0_0 := n0_; have BK120 := n1_; have BK121 := n2_; have BK122 := n3_; have BK123 := n4_; have HB := n5_; clear n0_ n1_ n2_ n3_ n4_ n5_; (try clear hb); (try clear hb2); (try clear hk); (try clear hi)))
  go_loopg [8] k (fun kq v8 w' => ∃ (x8_1 : Int) (x121000_1 : List Int) (x121001_1 : Int) (x121002_1 : Int) (x124000_1 : Bool) (x124001_1 : Int) (x124002_1 : Int) (x124003_1 : Int) (x124004_1 : Int) (x124005_1 : Int) (u121000 : Value), v8 = .int .i64 x8_1 ∧ Aside0 (deque_Take.l0 kq x8_1 x121000_1 x121001_1 x121002_1 x124000_1 x124001_1 x124002_1 x124003_1 x124004_1 x124005_1 = some (r1, r2, r3, r4, r5, r6, r7, r8, r9, r10)) ∧ Aside0 (kq ≤ k) ∧ Aside0 (Kd.V (Kd.int .i64) 3 w' w.heap.size (fun k_ => (P0_0_ k_ ∨ w.heap.size ≤ k_) ∧ k_ ≠ gb120 ∧ k_ ≠ gb121 ∧ k_ ≠ gb122 ∧ k_ ≠ gb123) u121000 x121000_1) ∧ Aside0 (w'.heap[gb120]? = some (.cells #[u121000, .int .i64 x121001_1, .int .i64 x121002_1] 24 (0, 0))) ∧ Aside0 (w'.heap[gb121]? = some (.cells #[(.slice none 0 0), .int .i64 0, .int .i64 0] 24 (0, 0))) ∧ Aside0 (w'.heap[gb122]? = some (.cells #[.bool false, .int .i64 0, .int .i64 0, .int .i64 0, .int .i64 0, .int .i64 0] 27 (0, 0))) ∧ Aside0 (w'.heap[gb123]? = some (.cells #[.bool x124000_1, .int .i64 x124001_1, .int .i64 x124002_1, .int .i64 x124003_1, .int .i64 x124004_1, .int .i64 x124005_1] 27 (0, 0))) ∧ Aside0 (Below w.heap.size w w'))
  case atStart => exact ⟨(t124), (l0_0), (a0_1), (a0_2), (a1), (0), (0), (0), (0), (0), (.slice A0_0 l0_0.length c0_0), (by first | rfl | (simp; done) | (simp [*]; done)), H', ⟨Nat.le_refl _⟩, ⟨by (with_reducible repeat (first | apply Kd.V_alloc | apply Kd.V_drewN | apply Kd.V_drew)); exact Kd.V_mono HO0_0.out (fun _ hk => ⟨hk.1.1.1.1, ⟨hk.1.1.1.2, ⟨hk.1.1.2, ⟨hk.1.2, hk.2⟩⟩⟩⟩)⟩, ⟨by (with_reducible repeat (first | refine blk_drewN ?_ _ | refine blk_drew ?_ | refine blk_alloc ?_ _)); exact BK120.out⟩, ⟨by (with_reducible repeat (first | refine blk_drewN ?_ _ | refine blk_drew ?_ | refine blk_alloc ?_ _)); exact BK121.out⟩, ⟨by (with_reducible repeat (first | refine blk_drewN ?_ _ | refine blk_drew ?_ | refine blk_alloc ?_ _)); exact BK122.out⟩, ⟨by (with_reducible repeat (first | refine blk_drewN ?_ _ | refine blk_drew ?_ | refine blk_alloc ?_ _)); exact BK123.out⟩, ⟨by repeat (first | (with_reducible first | exact HB.out | apply below_alloc | apply pw_below_drewN | apply below_drew1 | refine below_set ?_ GE120.out | refine below_set ?_ GE121.out | refine below_set ?_ GE122.out | refine below_set ?_ GE123.out) | exact HB.out)⟩⟩
  case round =>
    clear H'
    try clear c1
    try clear c2
    try clear p2
    try clear c8
    try clear c9
    try clear c10
    try clear c12
    try clear c13
    try clear hcz11_0
    try clear hcz11_1
    try clear hcz11_2
    try clear hcz11_3
    try clear hcz11_4
    try clear hcz11_5
    try clear hcz14_0
    try clear hcz14_1
    try clear hcz14_2
    try clear hfz11_0
    try clear hfz11_1
    try clear hfz11_2
    try clear hfz11_3
    try clear hfz11_4
    try clear hfz11_5
    try clear hfz14_0
    try clear hfz14_1
    try clear hfz14_2
    obtain ⟨x8_1, x121000_1, x121001_1, x121002_1, x124000_1, x124001_1, x124002_1, x124003_1, x124004_1, x124005_1, u121000, rfl, HA, HK1, HO_121000, BK120, BK121, BK122, BK123, HB⟩ := hrel
    cases gk with
    | zero => exact absurd HA.out (by simp [deque_Take.l0])
    | succ k1 =>
      have H := HA.out
      clear HA
      simp only [deque_Take.l0] at H
      by_cases c16 : x8_1 = 0
      · rw [if_pos c16] at H
        have c16b0 : (x8_1 == 0) = true := beq_iff_eq.mpr c16
        have c16b1 : (x8_1 != 0) = false := bne_eq_false_iff_eq.mpr c16
        clear c16
        by_cases c17 : x124005_1 = 0
        · rw [if_pos c17] at H
          have c17b0 : (x124005_1 == 0) = true := beq_iff_eq.mpr c17
          have c17b1 : (x124005_1 != 0) = false := bne_eq_false_iff_eq.mpr c17
          clear c17
          replace H := Option.bind_eq_some_iff.mp H
          obtain ⟨⟨t125, t128, t129, t130, t131, t132, t133, t134, t135, t136⟩, A180, H⟩ := H
          replace H : (deque_Take.l0 k1 t136 t125 t128 t129 t130 t131 t132 t133 t134 t135) = some (r1, r2, r3, r4, r5, r6, r7, r8, r9, r10) := H
          have A18 := Aside0.mk A180
          clear A180
          have H' := Aside0.mk H
          clear H
          have hnb19 := NB123_120.out
          have hnc19 := NB120_123.out
          have hnb20 := NB123_121.out
          have hnc20 := NB121_123.out
          have hnb21 := NB123_122.out
          have hnc21 := NB122_123.out
          have hcz22_0 : wr.cell? ⟨gb123, 0, none⟩ = some (.bool x124000_1) := (blk_cell BK123.out 0).trans rfl
          have hcz22_1 : wr.cell? ⟨gb123, 1, none⟩ = some (.int .i64 x124001_1) := (blk_cell BK123.out 1).trans rfl
          have hcz22_2 : wr.cell? ⟨gb123, 2, none⟩ = some (.int .i64 x124002_1) := (blk_cell BK123.out 2).trans rfl
          have hcz22_3 : wr.cell? ⟨gb123, 3, none⟩ = some (.int .i64 x124003_1) := (blk_cell BK123.out 3).trans rfl
          have hcz22_4 : wr.cell? ⟨gb123, 4, none⟩ = some (.int .i64 x124004_1) := (blk_cell BK123.out 4).trans rfl
          have hcz22_5 : wr.cell? ⟨gb123, 5, none⟩ = some (.int .i64 x124005_1) := (blk_cell BK123.out 5).trans rfl
          have hfz22_0 := blk_frozen BK123.out 0
          have hfz22_1 := blk_frozen BK123.out 1
          have hfz22_2 := blk_frozen BK123.out 2
          have hfz22_3 := blk_frozen BK123.out 3
          have hfz22_4 := blk_frozen BK123.out 4
          have hfz22_5 := blk_frozen BK123.out 5
          have hnb23 := NB120_121.out
          have hnc23 := NB121_120.out
          have hnb24 := NB120_122.out
          have hnc24 := NB122_120.out
          have hcz25_0 : wr.cell? ⟨gb120, 0, none⟩ = some (u121000) := (blk_cell BK120.out 0).trans rfl
          have hcz25_1 : wr.cell? ⟨gb120, 1, none⟩ = some (.int .i64 x121001_1) := (blk_cell BK120.out 1).trans rfl
          have hcz25_2 : wr.cell? ⟨gb120, 2, none⟩ = some (.int .i64 x121002_1) := (blk_cell BK120.out 2).trans rfl
          have hfz25_0 := blk_frozen BK120.out 0
          have hfz25_1 := blk_frozen BK120.out 1
          have hfz25_2 := blk_frozen BK120.out 2
          obtain ⟨Ao26, co26, eo26⟩ := Kd.V_slice HO_121000.out
          subst eo26
          go_wp2_with (first | ((with_reducible refine gate_callee (f := 9) rfl ?_); refine goesL_ (some 23) rfl rfl Tryd.func9 (by kernel_rfl) rfl #[.agg #[.slice Ao26 x121000_1.length co26, .int .i64 x121001_1, .int .i64 x121002_1], .agg #[.bool x124000_1, .int .i64 x124001_1, .int .i64 x124002_1, .int .i64 x124003_1, .int .i64 x124004_1, .int .i64 x124005_1]] rfl (by (try simp only [List.map_toArray, List.map_cons, List.map_nil]); first | done | rfl | (simp only [List.length_drop, List.length_take]; rfl)) ?_; (with_reducible refine (deque_Step.calls _ _ x121000_1 x121001_1 x121002_1 x124000_1 x124001_1 x124002_1 x124003_1 x124004_1 x124005_1 t125 t128 t129 t130 t131 t132 t133 t134 t135 t136 _ ?side1 ?side2 A18.out).mono ?_); (case side1 => repeat (first | exact (Kd.V_reads' HO_121000.out).2.2 | (with_reducible refine Kd.C_alloc ?_ _) | (with_reducible refine Kd.C_drewN ?_ _) | (with_reducible refine Kd.C_drew ?_))); (case side2 => exact (Kd.V_reads' HO_121000.out).2.1); rintro e w27 ⟨v126, rfl, ho0, hb⟩; refine ⟨_, rfl, ?_⟩; have n0_ := Aside0.mk (Kd.V_elder' (by (with_reducible repeat (first | apply Kd.V_alloc | apply Kd.V_drewN | apply Kd.V_drew)); exact HO_121000.out) (Kd.R_base ho0) hb); have n1_ := Aside0.mk (Kd.R_lower (Kd.R_newM (M := fun k_ => (w.heap.size ≤ k_)) ho0 (below_size (by repeat (first | (with_reducible first | exact HB.out | apply below_alloc | apply pw_below_drewN | apply below_drew1 | refine below_set ?_ GE120.out | refine below_set ?_ GE121.out | refine below_set ?_ GE122.out | refine below_set ?_ GE123.out) | exact HB.out))) (fun k_ h_ => h_)) (below_size (by repeat (first | (with_reducible first | exact HB.out | apply below_alloc | apply pw_below_drewN | apply below_drew1 | refine below_set ?_ GE120.out | refine below_set ?_ GE121.out | refine below_set ?_ GE122.out | refine below_set ?_ GE123.out) | exact HB.out)))); have n2_ := Aside0.mk (blk_below (g := gb120) (o := .cells #[.slice Ao26 x121000_1.length co26, .int .i64 x121001_1, .int .i64 x121002_1] 24 (0, 0)) (by (with_reducible repeat (first | refine blk_drewN ?_ _ | refine blk_drew ?_ | refine blk_alloc ?_ _)); exact BK120.out) hb); have n3_ := Aside0.mk (blk_below (g := gb121) (o := .cells #[.slice none 0 0, .int .i64 0, .int .i64 0] 24 (0, 0)) (by (with_reducible repeat (first | refine blk_drewN ?_ _ | refine blk_drew ?_ | refine blk_alloc ?_ _)); exact BK121.out) hb); have n4_ := Aside0.mk (blk_below (g := gb122) (o := .cells #[.bool false, .int .i64 0, .int .i64 0, .int .i64 0, .int .i64 0, .int .i64 0] 27 (0, 0)) (by (with_reducible repeat (first | refine blk_drewN ?_ _ | refine blk_drew ?_ | refine blk_alloc ?_ _)); exact BK122.out) hb); have n5_ := Aside0.mk (blk_below (g := gb123) (o := .cells #[.bool x124000_1, .int .i64 x124001_1, .int .i64 x124002_1, .int .i64 x124003_1, .int .i64 x124004_1, .int .i64 x124005_1] 27 (0, 0)) (by (with_reducible repeat (first | refine blk_drewN ?_ _ | refine blk_drew ?_ | refine blk_alloc ?_ _)); exact BK123.out) hb); have n6_ := Aside0.mk (below_step (by repeat (first | (with_reducible first | exact HB.out | apply below_alloc | apply pw_below_drewN | apply below_drew1 | refine below_set ?_ GE120.out | refine below_set ?_ GE121.out | refine below_set ?_ GE122.out | refine below_set ?_ GE123.out) | exact HB.out)) hb); clear HO_121000; clear BK120; clear BK121; clear BK122; clear BK123; clear HB; have HO_121000 := n0_; have HO127 := n1_; have BK120 := n2_; have BK121 := n3_; have BK122 := n4_; have BK123 := n5_; have HB := n6_; clear n0_ n1_ n2_ n3_ n4_ n5_ n6_; (try clear hb); (try clear hb2); (try clear hk); (try clear hi); (try clear ho0); obtain ⟨Ao28, co28, eo28⟩ := Kd.R_slice HO127.out; subst eo28; have hcz29_0 : w27.cell? ⟨gb120, 0, none⟩ = some (.slice Ao26 x121000_1.length co26) := (blk_cell BK120.out 0).trans rfl; have hcz29_1 : w27.cell? ⟨gb120, 1, none⟩ = some (.int .i64 x121001_1) := (blk_cell BK120.out 1).trans rfl; have hcz29_2 : w27.cell? ⟨gb120, 2, none⟩ = some (.int .i64 x121002_1) := (blk_cell BK120.out 2).trans rfl; have hfz29_0 := blk_frozen BK120.out 0; have hfz29_1 := blk_frozen BK120.out 1; have hfz29_2 := blk_frozen BK120.out 2; have hcz30_0 : w27.cell? ⟨gb123, 0, none⟩ = some (.bool x124000_1) := (blk_cell BK123.out 0).trans rfl; have hcz30_1 : w27.cell? ⟨gb123, 1, none⟩ = some (.int .i64 x124001_1) := (blk_cell BK123.out 1).trans rfl; have hcz30_2 : w27.cell? ⟨gb123, 2, none⟩ = some (.int .i64 x124002_1) := (blk_cell BK123.out 2).trans rfl; have hcz30_3 : w27.cell? ⟨gb123, 3, none⟩ = some (.int .i64 x124003_1) := (blk_cell BK123.out 3).trans rfl; have hcz30_4 : w27.cell? ⟨gb123, 4, none⟩ = some (.int .i64 x124004_1) := (blk_cell BK123.out 4).trans rfl; have hcz30_5 : w27.cell? ⟨gb123, 5, none⟩ = some (.int .i64 x124005_1) := (blk_cell BK123.out 5).trans rfl; have hfz30_0 := blk_frozen BK123.out 0; have hfz30_1 := blk_frozen BK123.out 1; have hfz30_2 := blk_frozen BK123.out 2; have hfz30_3 := blk_frozen BK123.out 3; have hfz30_4 := blk_frozen BK123.out 4; have hfz30_5 := blk_frozen BK123.out 5))
          go_roundg k1
          case measure => have := HK1.out; omega
          case rel => exact ⟨(t136), (t125), (t128), (t129), (t130), (t131), (t132), (t133), (t134), (t135), (.slice Ao28 t125.length co28), (by first | rfl | (simp; done) | (simp [*]; done)), H', ⟨by have := HK1.out; omega⟩, ⟨Kd.V_mono (Kd.R_V (ok := fun k_ => w.heap.size ≤ k_ ∧ k_ ≠ gb120 ∧ k_ ≠ gb121 ∧ k_ ≠ gb122 ∧ k_ ≠ gb123) (by (with_reducible repeat (first | apply Kd.R_alloc | apply Kd.R_drewN | apply Kd.R_drew)); exact Kd.R_mono (Kd.R_far (p := ⟨gb123, 5, none⟩) (Kd.R_far (p := ⟨gb123, 4, none⟩) (Kd.R_far (p := ⟨gb123, 3, none⟩) (Kd.R_far (p := ⟨gb123, 2, none⟩) (Kd.R_far (p := ⟨gb123, 1, none⟩) (Kd.R_far (p := ⟨gb123, 0, none⟩) (Kd.R_far (p := ⟨gb120, 2, none⟩) (Kd.R_far (p := ⟨gb120, 1, none⟩) (Kd.R_far (p := ⟨gb120, 0, none⟩) (Kd.R_types (Kd.R_types (Kd.R_types (Kd.R_types (Kd.R_types (Kd.R_types HO127.out BK120.out (by decide)) BK121.out (by decide)) BK122.out (by decide)) BK123.out (by decide)) BK120.out (by decide)) BK123.out (by decide)) (fun _ hk => hk.1.2) (.slice Ao28 t125.length co28)) (fun _ hk => hk.1.2) (.int .i64 t128)) (fun _ hk => hk.1.2) (.int .i64 t129)) (fun _ hk => hk.2) (.bool t130)) (fun _ hk => hk.2) (.int .i64 t131)) (fun _ hk => hk.2) (.int .i64 t132)) (fun _ hk => hk.2) (.int .i64 t133)) (fun _ hk => hk.2) (.int .i64 t134)) (fun _ hk => hk.2) (.int .i64 t135)) (fun _ hk => ⟨hk.1.1.1.1.1.1.1, ⟨hk.1.1.1.1.1.2, ⟨hk.1.1.1.1.2, ⟨hk.1.1.1.2, hk.1.1.2⟩⟩⟩⟩))) (fun k_ hk => by first | exact ⟨(.inr (hk.1)), hk.2⟩ | exact (.inr (hk)))⟩, ⟨by (with_reducible repeat (first | refine blk_drewN ?_ _ | refine blk_drew ?_ | refine blk_alloc ?_ _)); refine blk_far ?_ NB120_123.out _; (with_reducible repeat (first | refine blk_drewN ?_ _ | refine blk_drew ?_ | refine blk_alloc ?_ _)); refine blk_far ?_ NB120_123.out _; (with_reducible repeat (first | refine blk_drewN ?_ _ | refine blk_drew ?_ | refine blk_alloc ?_ _)); refine blk_far ?_ NB120_123.out _; (with_reducible repeat (first | refine blk_drewN ?_ _ | refine blk_drew ?_ | refine blk_alloc ?_ _)); refine blk_far ?_ NB120_123.out _; (with_reducible repeat (first | refine blk_drewN ?_ _ | refine blk_drew ?_ | refine blk_alloc ?_ _)); refine blk_far ?_ NB120_123.out _; (with_reducible repeat (first | refine blk_drewN ?_ _ | refine blk_drew ?_ | refine blk_alloc ?_ _)); refine blk_far ?_ NB120_123.out _; (with_reducible repeat (first | refine blk_drewN ?_ _ | refine blk_drew ?_ | refine blk_alloc ?_ _)); refine blk_put (cs := #[.slice Ao28 t125.length co28, .int .i64 t128, .int .i64 x121002_1]) ?_ 2 _ rfl; (with_reducible repeat (first | refine blk_drewN ?_ _ | refine blk_drew ?_ | refine blk_alloc ?_ _)); refine blk_put (cs := #[.slice Ao28 t125.length co28, .int .i64 x121001_1, .int .i64 x121002_1]) ?_ 1 _ rfl; (with_reducible repeat (first | refine blk_drewN ?_ _ | refine blk_drew ?_ | refine blk_alloc ?_ _)); refine blk_put (cs := #[.slice Ao26 x121000_1.length co26, .int .i64 x121001_1, .int .i64 x121002_1]) ?_ 0 _ rfl; (with_reducible repeat (first | refine blk_drewN ?_ _ | refine blk_drew ?_ | refine blk_alloc ?_ _)); exact BK120.out⟩, ⟨by (with_reducible repeat (first | refine blk_drewN ?_ _ | refine blk_drew ?_ | refine blk_alloc ?_ _)); refine blk_far ?_ NB121_123.out _; (with_reducible repeat (first | refine blk_drewN ?_ _ | refine blk_drew ?_ | refine blk_alloc ?_ _)); refine blk_far ?_ NB121_123.out _; (with_reducible repeat (first | refine blk_drewN ?_ _ | refine blk_drew ?_ | refine blk_alloc ?_ _)); refine blk_far ?_ NB121_123.out _; (with_reducible repeat (first | refine blk_drewN ?_ _ | refine blk_drew ?_ | refine blk_alloc ?_ _)); refine blk_far ?_ NB121_123.out _; (with_reducible repeat (first | refine blk_drewN ?_ _ | refine blk_drew ?_ | refine blk_alloc ?_ _)); refine blk_far ?_ NB121_123.out _; (with_reducible repeat (first | refine blk_drewN ?_ _ | refine blk_drew ?_ | refine blk_alloc ?_ _)); refine blk_far ?_ NB121_123.out _; (with_reducible repeat (first | refine blk_drewN ?_ _ | refine blk_drew ?_ | refine blk_alloc ?_ _)); refine blk_far ?_ NB121_120.out _; (with_reducible repeat (first | refine blk_drewN ?_ _ | refine blk_drew ?_ | refine blk_alloc ?_ _)); refine blk_far ?_ NB121_120.out _; (with_reducible repeat (first | refine blk_drewN ?_ _ | refine blk_drew ?_ | refine blk_alloc ?_ _)); refine blk_far ?_ NB121_120.out _; (with_reducible repeat (first | refine blk_drewN ?_ _ | refine blk_drew ?_ | refine blk_alloc ?_ _)); exact BK121.out⟩, ⟨by (with_reducible repeat (first | refine blk_drewN ?_ _ | refine blk_drew ?_ | refine blk_alloc ?_ _)); refine blk_far ?_ NB122_123.out _; (with_reducible repeat (first | refine blk_drewN ?_ _ | refine blk_drew ?_ | refine blk_alloc ?_ _)); refine blk_far ?_ NB122_123.out _; (with_reducible repeat (first | refine blk_drewN ?_ _ | refine blk_drew ?_ | refine blk_alloc ?_ _)); refine blk_far ?_ NB122_123.out _; (with_reducible repeat (first | refine blk_drewN ?_ _ | refine blk_drew ?_ | refine blk_alloc ?_ _)); refine blk_far ?_ NB122_123.out _; (with_reducible repeat (first | refine blk_drewN ?_ _ | refine blk_drew ?_ | refine blk_alloc ?_ _)); refine blk_far ?_ NB122_123.out _; (with_reducible repeat (first | refine blk_drewN ?_ _ | refine blk_drew ?_ | refine blk_alloc ?_ _)); refine blk_far ?_ NB122_123.out _; (with_reducible repeat (first | refine blk_drewN ?_ _ | refine blk_drew ?_ | refine blk_alloc ?_ _)); refine blk_far ?_ NB122_120.out _; (with_reducible repeat (first | refine blk_drewN ?_ _ | refine blk_drew ?_ | refine blk_alloc ?_ _)); refine blk_far ?_ NB122_120.out _; (with_reducible repeat (first | refine blk_drewN ?_ _ | refine blk_drew ?_ | refine blk_alloc ?_ _)); refine blk_far ?_ NB122_120.out _; (with_reducible repeat (first | refine blk_drewN ?_ _ | refine blk_drew ?_ | refine blk_alloc ?_ _)); exact BK122.out⟩, ⟨by (with_reducible repeat (first | refine blk_drewN ?_ _ | refine blk_drew ?_ | refine blk_alloc ?_ _)); refine blk_put (cs := #[.bool t130, .int .i64 t131, .int .i64 t132, .int .i64 t133, .int .i64 t134, .int .i64 x124005_1]) ?_ 5 _ rfl; (with_reducible repeat (first | refine blk_drewN ?_ _ | refine blk_drew ?_ | refine blk_alloc ?_ _)); refine blk_put (cs := #[.bool t130, .int .i64 t131, .int .i64 t132, .int .i64 t133, .int .i64 x124004_1, .int .i64 x124005_1]) ?_ 4 _ rfl; (with_reducible repeat (first | refine blk_drewN ?_ _ | refine blk_drew ?_ | refine blk_alloc ?_ _)); refine blk_put (cs := #[.bool t130, .int .i64 t131, .int .i64 t132, .int .i64 x124003_1, .int .i64 x124004_1, .int .i64 x124005_1]) ?_ 3 _ rfl; (with_reducible repeat (first | refine blk_drewN ?_ _ | refine blk_drew ?_ | refine blk_alloc ?_ _)); refine blk_put (cs := #[.bool t130, .int .i64 t131, .int .i64 x124002_1, .int .i64 x124003_1, .int .i64 x124004_1, .int .i64 x124005_1]) ?_ 2 _ rfl; (with_reducible repeat (first | refine blk_drewN ?_ _ | refine blk_drew ?_ | refine blk_alloc ?_ _)); refine blk_put (cs := #[.bool t130, .int .i64 x124001_1, .int .i64 x124002_1, .int .i64 x124003_1, .int .i64 x124004_1, .int .i64 x124005_1]) ?_ 1 _ rfl; (with_reducible repeat (first | refine blk_drewN ?_ _ | refine blk_drew ?_ | refine blk_alloc ?_ _)); refine blk_put (cs := #[.bool x124000_1, .int .i64 x124001_1, .int .i64 x124002_1, .int .i64 x124003_1, .int .i64 x124004_1, .int .i64 x124005_1]) ?_ 0 _ rfl; (with_reducible repeat (first | refine blk_drewN ?_ _ | refine blk_drew ?_ | refine blk_alloc ?_ _)); refine blk_far ?_ NB123_120.out _; (with_reducible repeat (first | refine blk_drewN ?_ _ | refine blk_drew ?_ | refine blk_alloc ?_ _)); refine blk_far ?_ NB123_120.out _; (with_reducible repeat (first | refine blk_drewN ?_ _ | refine blk_drew ?_ | refine blk_alloc ?_ _)); refine blk_far ?_ NB123_120.out _; (with_reducible repeat (first | refine blk_drewN ?_ _ | refine blk_drew ?_ | refine blk_alloc ?_ _)); exact BK123.out⟩, ⟨by repeat (first | (with_reducible first | exact HB.out | apply below_alloc | apply pw_below_drewN | apply below_drew1 | refine below_set ?_ GE120.out | refine below_set ?_ GE121.out | refine below_set ?_ GE122.out | refine below_set ?_ GE123.out) | exact HB.out)⟩⟩
        · rw [if_neg c17] at H
          have c17b0 : (x124005_1 == 0) = false := beq_eq_false_iff_ne.mpr c17
          have c17b1 : (x124005_1 != 0) = true := bne_iff_ne.mpr c17
          simp only [Option.some.injEq, Prod.mk.injEq] at H
          obtain ⟨rfl, rfl, rfl, rfl, rfl, rfl, rfl, rfl, rfl, rfl⟩ := H
          have hnb31 := NB123_120.out
          have hnc31 := NB120_123.out
          have hnb32 := NB123_121.out
          have hnc32 := NB121_123.out
          have hnb33 := NB123_122.out
          have hnc33 := NB122_123.out
          have hcz34_0 : wr.cell? ⟨gb123, 0, none⟩ = some (.bool x124000_1) := (blk_cell BK123.out 0).trans rfl
          have hcz34_1 : wr.cell? ⟨gb123, 1, none⟩ = some (.int .i64 x124001_1) := (blk_cell BK123.out 1).trans rfl
          have hcz34_2 : wr.cell? ⟨gb123, 2, none⟩ = some (.int .i64 x124002_1) := (blk_cell BK123.out 2).trans rfl
          have hcz34_3 : wr.cell? ⟨gb123, 3, none⟩ = some (.int .i64 x124003_1) := (blk_cell BK123.out 3).trans rfl
          have hcz34_4 : wr.cell? ⟨gb123, 4, none⟩ = some (.int .i64 x124004_1) := (blk_cell BK123.out 4).trans rfl
          have hcz34_5 : wr.cell? ⟨gb123, 5, none⟩ = some (.int .i64 x124005_1) := (blk_cell BK123.out 5).trans rfl
          have hfz34_0 := blk_frozen BK123.out 0
          have hfz34_1 := blk_frozen BK123.out 1
          have hfz34_2 := blk_frozen BK123.out 2
          have hfz34_3 := blk_frozen BK123.out 3
          have hfz34_4 := blk_frozen BK123.out 4
          have hfz34_5 := blk_frozen BK123.out 5
          try go_wp2
          have n0_ := Aside0.mk (Kd.V_drew HO_121000.out)
          have n1_ := Aside0.mk (blk_drew BK120.out)
          have n2_ := Aside0.mk (blk_drew BK121.out)
          have n3_ := Aside0.mk (blk_drew BK122.out)
          have n4_ := Aside0.mk (blk_drew BK123.out)
          have n5_ := Aside0.mk (below_drew1 HB.out)
          clear HO_121000
          clear BK120
          clear BK121
          clear BK122
          clear BK123
          clear HB
          have HO_121000 := n0_
          have BK120 := n1_
          have BK121 := n2_
          have BK122 := n3_
          have BK123 := n4_
          have HB := n5_
          clear n0_ n1_ n2_ n3_ n4_ n5_
          obtain ⟨Ao36, co36, eo36⟩ := Kd.V_slice HO_121000.out
          (first | subst eo36 | (injection eo36 with f1_ f2_ f3_; have f4_ := f1_.symm; have f5_ := f3_.symm; clear f1_ f2_ f3_; subst f4_; subst f5_))
          refine start_ (n := 5) (S := fun w' => w'.cell? ⟨gb120, 0, none⟩ = some (.slice Ao36 x121000_1.length co36) ∧ w'.cell? ⟨gb120, 1, none⟩ = some (.int .i64 x121001_1) ∧ w'.cell? ⟨gb120, 2, none⟩ = some (.int .i64 x121002_1) ∧ w'.cell? ⟨gb123, 0, none⟩ = some (.bool x124000_1) ∧ w'.cell? ⟨gb123, 1, none⟩ = some (.int .i64 x124001_1) ∧ w'.cell? ⟨gb123, 2, none⟩ = some (.int .i64 x124002_1) ∧ w'.cell? ⟨gb123, 3, none⟩ = some (.int .i64 x124003_1) ∧ w'.cell? ⟨gb123, 4, none⟩ = some (.int .i64 x124004_1) ∧ w'.cell? ⟨gb123, 5, none⟩ = some (.int .i64 x124005_1)) (ds := []) #[false, false, false, false, false] (by kernel_rfl) rfl rfl ⟨(blk_cell BK120.out 0).trans rfl, (blk_cell BK120.out 1).trans rfl, (blk_cell BK120.out 2).trans rfl, (blk_cell BK123.out 0).trans rfl, (blk_cell BK123.out 1).trans rfl, (blk_cell BK123.out 2).trans rfl, (blk_cell BK123.out 3).trans rfl, (blk_cell BK123.out 4).trans rfl, (blk_cell BK123.out 5).trans rfl⟩ (fun hHeld => ?_)
          generalize wr.drew = w35 at HO_121000 BK120 BK121 BK122 BK123 HB hHeld ⊢
          refine take_ (i := 0) (N := some 32) (v := ?_) (a' := ?_) #[true, false, false, false, false] rfl rfl (by kernel_rfl) (fun _ _ _ h => h) (Or.inl ⟨by rfl, ?_⟩) hHeld ?_ ?_
          rotate_left
          · rintro w' ⟨s0, s1, s2, s3, s4, s5, s6, s7, s8⟩
            go_simp
            with_reducible rfl
          rotate_left
          · simp only [Act.put, List.setIfInBounds_toArray, List.set_cons_zero, List.set_cons_succ, i64_w, i32_w]
            rfl
          refine take_ (i := 1) (N := some 33) (v := ?_) (a' := ?_) #[true, true, false, false, false] rfl rfl (by kernel_rfl) (fun _ _ _ h => h) (Or.inl ⟨by rfl, ?_⟩) hHeld ?_ ?_
          rotate_left
          · rintro w' ⟨s0, s1, s2, s3, s4, s5, s6, s7, s8⟩
            go_simp
            with_reducible rfl
          rotate_left
          · simp only [Act.put, List.setIfInBounds_toArray, List.set_cons_zero, List.set_cons_succ, i64_w, i32_w]
            rfl
          refine one_ (i := 2) (N := none) #[true, true, true, false, false] rfl rfl (by kernel_rfl) (by decide) (fun K hK => ?_)
          have hs37 : w35.cell? ⟨gb121, 0, none⟩ = some (.slice none 0 0) := (blk_cell BK121.out 0).trans rfl
          have hfs37 := blk_frozen BK121.out 0
          have hns37_0 := NB120_121.out
          have hns37_2 := NB122_121.out
          have hns37_3 := NB123_121.out
          have hms37_0 := NB121_120.out
          have hms37_2 := NB121_122.out
          have hms37_3 := NB121_123.out
          have hs38 : w35.cell? ⟨gb121, 1, none⟩ = some (.int .i64 0) := (blk_cell BK121.out 1).trans rfl
          have hfs38 := blk_frozen BK121.out 1
          have hns38_0 := NB120_121.out
          have hns38_2 := NB122_121.out
          have hns38_3 := NB123_121.out
          have hms38_0 := NB121_120.out
          have hms38_2 := NB121_122.out
          have hms38_3 := NB121_123.out
          have hs39 : w35.cell? ⟨gb121, 2, none⟩ = some (.int .i64 0) := (blk_cell BK121.out 2).trans rfl
          have hfs39 := blk_frozen BK121.out 2
          have hns39_0 := NB120_121.out
          have hns39_2 := NB122_121.out
          have hns39_3 := NB123_121.out
          have hms39_0 := NB121_120.out
          have hms39_2 := NB121_122.out
          have hms39_3 := NB121_123.out
          refine skip_ (w1 := ?_) (by rfl) rfl ?_ ?_
          rotate_left
          · go_simp
            rfl
          refine hK.out _ _ ⟨((cell_far (p := ⟨gb121, _, none⟩) NB120_121.out _).trans (((cell_far (p := ⟨gb121, _, none⟩) NB120_121.out _).trans (((cell_far (p := ⟨gb121, _, none⟩) NB120_121.out _).trans (hHeld.1)))))), ((cell_far (p := ⟨gb121, _, none⟩) NB120_121.out _).trans (((cell_far (p := ⟨gb121, _, none⟩) NB120_121.out _).trans (((cell_far (p := ⟨gb121, _, none⟩) NB120_121.out _).trans (hHeld.2.1)))))), ((cell_far (p := ⟨gb121, _, none⟩) NB120_121.out _).trans (((cell_far (p := ⟨gb121, _, none⟩) NB120_121.out _).trans (((cell_far (p := ⟨gb121, _, none⟩) NB120_121.out _).trans (hHeld.2.2.1)))))), ((cell_far (p := ⟨gb121, _, none⟩) NB123_121.out _).trans (((cell_far (p := ⟨gb121, _, none⟩) NB123_121.out _).trans (((cell_far (p := ⟨gb121, _, none⟩) NB123_121.out _).trans (hHeld.2.2.2.1)))))), ((cell_far (p := ⟨gb121, _, none⟩) NB123_121.out _).trans (((cell_far (p := ⟨gb121, _, none⟩) NB123_121.out _).trans (((cell_far (p := ⟨gb121, _, none⟩) NB123_121.out _).trans (hHeld.2.2.2.2.1)))))), ((cell_far (p := ⟨gb121, _, none⟩) NB123_121.out _).trans (((cell_far (p := ⟨gb121, _, none⟩) NB123_121.out _).trans (((cell_far (p := ⟨gb121, _, none⟩) NB123_121.out _).trans (hHeld.2.2.2.2.2.1)))))), ((cell_far (p := ⟨gb121, _, none⟩) NB123_121.out _).trans (((cell_far (p := ⟨gb121, _, none⟩) NB123_121.out _).trans (((cell_far (p := ⟨gb121, _, none⟩) NB123_121.out _).trans (hHeld.2.2.2.2.2.2.1)))))), ((cell_far (p := ⟨gb121, _, none⟩) NB123_121.out _).trans (((cell_far (p := ⟨gb121, _, none⟩) NB123_121.out _).trans (((cell_far (p := ⟨gb121, _, none⟩) NB123_121.out _).trans (hHeld.2.2.2.2.2.2.2.1)))))), ((cell_far (p := ⟨gb121, _, none⟩) NB123_121.out _).trans (((cell_far (p := ⟨gb121, _, none⟩) NB123_121.out _).trans (((cell_far (p := ⟨gb121, _, none⟩) NB123_121.out _).trans (hHeld.2.2.2.2.2.2.2.2))))))⟩ (fun hHeld => ?_)
          clear hK K
          refine one_ (i := 3) (N := none) #[true, true, true, true, false] rfl rfl (by kernel_rfl) (by decide) (fun K hK => ?_)
          have hs40 : w35.cell? ⟨gb122, 0, none⟩ = some (.bool false) := (blk_cell BK122.out 0).trans rfl
          have hfs40 := blk_frozen BK122.out 0
          have hns40_0 := NB120_122.out
          have hns40_1 := NB121_122.out
          have hns40_3 := NB123_122.out
          have hms40_0 := NB122_120.out
          have hms40_1 := NB122_121.out
          have hms40_3 := NB122_123.out
          have hs41 : w35.cell? ⟨gb122, 1, none⟩ = some (.int .i64 0) := (blk_cell BK122.out 1).trans rfl
          have hfs41 := blk_frozen BK122.out 1
          have hns41_0 := NB120_122.out
          have hns41_1 := NB121_122.out
          have hns41_3 := NB123_122.out
          have hms41_0 := NB122_120.out
          have hms41_1 := NB122_121.out
          have hms41_3 := NB122_123.out
          have hs42 : w35.cell? ⟨gb122, 2, none⟩ = some (.int .i64 0) := (blk_cell BK122.out 2).trans rfl
          have hfs42 := blk_frozen BK122.out 2
          have hns42_0 := NB120_122.out
          have hns42_1 := NB121_122.out
          have hns42_3 := NB123_122.out
          have hms42_0 := NB122_120.out
          have hms42_1 := NB122_121.out
          have hms42_3 := NB122_123.out
          have hs43 : w35.cell? ⟨gb122, 3, none⟩ = some (.int .i64 0) := (blk_cell BK122.out 3).trans rfl
          have hfs43 := blk_frozen BK122.out 3
          have hns43_0 := NB120_122.out
          have hns43_1 := NB121_122.out
          have hns43_3 := NB123_122.out
          have hms43_0 := NB122_120.out
          have hms43_1 := NB122_121.out
          have hms43_3 := NB122_123.out
          have hs44 : w35.cell? ⟨gb122, 4, none⟩ = some (.int .i64 0) := (blk_cell BK122.out 4).trans rfl
          have hfs44 := blk_frozen BK122.out 4
          have hns44_0 := NB120_122.out
          have hns44_1 := NB121_122.out
          have hns44_3 := NB123_122.out
          have hms44_0 := NB122_120.out
          have hms44_1 := NB122_121.out
          have hms44_3 := NB122_123.out
          have hs45 : w35.cell? ⟨gb122, 5, none⟩ = some (.int .i64 0) := (blk_cell BK122.out 5).trans rfl
          have hfs45 := blk_frozen BK122.out 5
          have hns45_0 := NB120_122.out
          have hns45_1 := NB121_122.out
          have hns45_3 := NB123_122.out
          have hms45_0 := NB122_120.out
          have hms45_1 := NB122_121.out
          have hms45_3 := NB122_123.out
          refine skip_ (w1 := ?_) (by rfl) rfl ?_ ?_
          rotate_left
          · go_simp
            rfl
          refine hK.out _ _ ⟨((cell_far (p := ⟨gb122, _, none⟩) NB120_122.out _).trans (((cell_far (p := ⟨gb122, _, none⟩) NB120_122.out _).trans (((cell_far (p := ⟨gb122, _, none⟩) NB120_122.out _).trans (((cell_far (p := ⟨gb122, _, none⟩) NB120_122.out _).trans (((cell_far (p := ⟨gb122, _, none⟩) NB120_122.out _).trans (((cell_far (p := ⟨gb122, _, none⟩) NB120_122.out _).trans (hHeld.1)))))))))))), ((cell_far (p := ⟨gb122, _, none⟩) NB120_122.out _).trans (((cell_far (p := ⟨gb122, _, none⟩) NB120_122.out _).trans (((cell_far (p := ⟨gb122, _, none⟩) NB120_122.out _).trans (((cell_far (p := ⟨gb122, _, none⟩) NB120_122.out _).trans (((cell_far (p := ⟨gb122, _, none⟩) NB120_122.out _).trans (((cell_far (p := ⟨gb122, _, none⟩) NB120_122.out _).trans (hHeld.2.1)))))))))))), ((cell_far (p := ⟨gb122, _, none⟩) NB120_122.out _).trans (((cell_far (p := ⟨gb122, _, none⟩) NB120_122.out _).trans (((cell_far (p := ⟨gb122, _, none⟩) NB120_122.out _).trans (((cell_far (p := ⟨gb122, _, none⟩) NB120_122.out _).trans (((cell_far (p := ⟨gb122, _, none⟩) NB120_122.out _).trans (((cell_far (p := ⟨gb122, _, none⟩) NB120_122.out _).trans (hHeld.2.2.1)))))))))))), ((cell_far (p := ⟨gb122, _, none⟩) NB123_122.out _).trans (((cell_far (p := ⟨gb122, _, none⟩) NB123_122.out _).trans (((cell_far (p := ⟨gb122, _, none⟩) NB123_122.out _).trans (((cell_far (p := ⟨gb122, _, none⟩) NB123_122.out _).trans (((cell_far (p := ⟨gb122, _, none⟩) NB123_122.out _).trans (((cell_far (p := ⟨gb122, _, none⟩) NB123_122.out _).trans (hHeld.2.2.2.1)))))))))))), ((cell_far (p := ⟨gb122, _, none⟩) NB123_122.out _).trans (((cell_far (p := ⟨gb122, _, none⟩) NB123_122.out _).trans (((cell_far (p := ⟨gb122, _, none⟩) NB123_122.out _).trans (((cell_far (p := ⟨gb122, _, none⟩) NB123_122.out _).trans (((cell_far (p := ⟨gb122, _, none⟩) NB123_122.out _).trans (((cell_far (p := ⟨gb122, _, none⟩) NB123_122.out _).trans (hHeld.2.2.2.2.1)))))))))))), ((cell_far (p := ⟨gb122, _, none⟩) NB123_122.out _).trans (((cell_far (p := ⟨gb122, _, none⟩) NB123_122.out _).trans (((cell_far (p := ⟨gb122, _, none⟩) NB123_122.out _).trans (((cell_far (p := ⟨gb122, _, none⟩) NB123_122.out _).trans (((cell_far (p := ⟨gb122, _, none⟩) NB123_122.out _).trans (((cell_far (p := ⟨gb122, _, none⟩) NB123_122.out _).trans (hHeld.2.2.2.2.2.1)))))))))))), ((cell_far (p := ⟨gb122, _, none⟩) NB123_122.out _).trans (((cell_far (p := ⟨gb122, _, none⟩) NB123_122.out _).trans (((cell_far (p := ⟨gb122, _, none⟩) NB123_122.out _).trans (((cell_far (p := ⟨gb122, _, none⟩) NB123_122.out _).trans (((cell_far (p := ⟨gb122, _, none⟩) NB123_122.out _).trans (((cell_far (p := ⟨gb122, _, none⟩) NB123_122.out _).trans (hHeld.2.2.2.2.2.2.1)))))))))))), ((cell_far (p := ⟨gb122, _, none⟩) NB123_122.out _).trans (((cell_far (p := ⟨gb122, _, none⟩) NB123_122.out _).trans (((cell_far (p := ⟨gb122, _, none⟩) NB123_122.out _).trans (((cell_far (p := ⟨gb122, _, none⟩) NB123_122.out _).trans (((cell_far (p := ⟨gb122, _, none⟩) NB123_122.out _).trans (((cell_far (p := ⟨gb122, _, none⟩) NB123_122.out _).trans (hHeld.2.2.2.2.2.2.2.1)))))))))))), ((cell_far (p := ⟨gb122, _, none⟩) NB123_122.out _).trans (((cell_far (p := ⟨gb122, _, none⟩) NB123_122.out _).trans (((cell_far (p := ⟨gb122, _, none⟩) NB123_122.out _).trans (((cell_far (p := ⟨gb122, _, none⟩) NB123_122.out _).trans (((cell_far (p := ⟨gb122, _, none⟩) NB123_122.out _).trans (((cell_far (p := ⟨gb122, _, none⟩) NB123_122.out _).trans (hHeld.2.2.2.2.2.2.2.2))))))))))))⟩ (fun hHeld => ?_)
          clear hK K
          refine pure_ (i := 4) (N := some 6) (v := ?_) (a' := ?_) #[true, true, true, true, true] rfl rfl (by kernel_rfl) (fun _ _ _ h => h) (Or.inl ⟨by rfl, ?_⟩) ?_ ?_
          rotate_left
          · intro w'
            go_simp
            with_reducible rfl
          rotate_left
          · simp only [Act.put, List.setIfInBounds_toArray, List.set_cons_zero, List.set_cons_succ, i64_w, i32_w]
            rfl
          refine done_ (by kernel_rfl) ?_
          try go_wp2
          refine bodyPost_ret (results_list (rs := [.cell 4 24, .cell 5 27, .tmp 6]) rfl (by simp) (.cell gb121 24 #[.slice Ao36 x121000_1.length co36, .int .i64 x121001_1, .int .i64 x121002_1] (0, 0) _ rfl (by (with_reducible repeat (first | refine blk_drewN ?_ _ | refine blk_drew ?_ | refine blk_alloc ?_ _)); refine blk_far ?_ NB121_122.out _; (with_reducible repeat (first | refine blk_drewN ?_ _ | refine blk_drew ?_ | refine blk_alloc ?_ _)); refine blk_far ?_ NB121_122.out _; (with_reducible repeat (first | refine blk_drewN ?_ _ | refine blk_drew ?_ | refine blk_alloc ?_ _)); refine blk_far ?_ NB121_122.out _; (with_reducible repeat (first | refine blk_drewN ?_ _ | refine blk_drew ?_ | refine blk_alloc ?_ _)); refine blk_far ?_ NB121_122.out _; (with_reducible repeat (first | refine blk_drewN ?_ _ | refine blk_drew ?_ | refine blk_alloc ?_ _)); refine blk_far ?_ NB121_122.out _; (with_reducible repeat (first | refine blk_drewN ?_ _ | refine blk_drew ?_ | refine blk_alloc ?_ _)); refine blk_far ?_ NB121_122.out _; (with_reducible repeat (first | refine blk_drewN ?_ _ | refine blk_drew ?_ | refine blk_alloc ?_ _)); refine blk_put (cs := #[.slice Ao36 x121000_1.length co36, .int .i64 x121001_1, .int .i64 0]) ?_ 2 _ rfl; (with_reducible repeat (first | refine blk_drewN ?_ _ | refine blk_drew ?_ | refine blk_alloc ?_ _)); refine blk_put (cs := #[.slice Ao36 x121000_1.length co36, .int .i64 0, .int .i64 0]) ?_ 1 _ rfl; (with_reducible repeat (first | refine blk_drewN ?_ _ | refine blk_drew ?_ | refine blk_alloc ?_ _)); refine blk_put (cs := #[.slice none 0 0, .int .i64 0, .int .i64 0]) ?_ 0 _ rfl; (with_reducible repeat (first | refine blk_drewN ?_ _ | refine blk_drew ?_ | refine blk_alloc ?_ _)); exact BK121.out) Tryd.underlying24 rfl (by kernel_rfl) (.cell gb122 27 #[.bool x124000_1, .int .i64 x124001_1, .int .i64 x124002_1, .int .i64 x124003_1, .int .i64 x124004_1, .int .i64 x124005_1] (0, 0) _ rfl (by (with_reducible repeat (first | refine blk_drewN ?_ _ | refine blk_drew ?_ | refine blk_alloc ?_ _)); refine blk_put (cs := #[.bool x124000_1, .int .i64 x124001_1, .int .i64 x124002_1, .int .i64 x124003_1, .int .i64 x124004_1, .int .i64 0]) ?_ 5 _ rfl; (with_reducible repeat (first | refine blk_drewN ?_ _ | refine blk_drew ?_ | refine blk_alloc ?_ _)); refine blk_put (cs := #[.bool x124000_1, .int .i64 x124001_1, .int .i64 x124002_1, .int .i64 x124003_1, .int .i64 0, .int .i64 0]) ?_ 4 _ rfl; (with_reducible repeat (first | refine blk_drewN ?_ _ | refine blk_drew ?_ | refine blk_alloc ?_ _)); refine blk_put (cs := #[.bool x124000_1, .int .i64 x124001_1, .int .i64 x124002_1, .int .i64 0, .int .i64 0, .int .i64 0]) ?_ 3 _ rfl; (with_reducible repeat (first | refine blk_drewN ?_ _ | refine blk_drew ?_ | refine blk_alloc ?_ _)); refine blk_put (cs := #[.bool x124000_1, .int .i64 x124001_1, .int .i64 0, .int .i64 0, .int .i64 0, .int .i64 0]) ?_ 2 _ rfl; (with_reducible repeat (first | refine blk_drewN ?_ _ | refine blk_drew ?_ | refine blk_alloc ?_ _)); refine blk_put (cs := #[.bool x124000_1, .int .i64 0, .int .i64 0, .int .i64 0, .int .i64 0, .int .i64 0]) ?_ 1 _ rfl; (with_reducible repeat (first | refine blk_drewN ?_ _ | refine blk_drew ?_ | refine blk_alloc ?_ _)); refine blk_put (cs := #[.bool false, .int .i64 0, .int .i64 0, .int .i64 0, .int .i64 0, .int .i64 0]) ?_ 0 _ rfl; (with_reducible repeat (first | refine blk_drewN ?_ _ | refine blk_drew ?_ | refine blk_alloc ?_ _)); refine blk_far ?_ NB122_121.out _; (with_reducible repeat (first | refine blk_drewN ?_ _ | refine blk_drew ?_ | refine blk_alloc ?_ _)); refine blk_far ?_ NB122_121.out _; (with_reducible repeat (first | refine blk_drewN ?_ _ | refine blk_drew ?_ | refine blk_alloc ?_ _)); refine blk_far ?_ NB122_121.out _; (with_reducible repeat (first | refine blk_drewN ?_ _ | refine blk_drew ?_ | refine blk_alloc ?_ _)); exact BK122.out) Tryd.underlying27 rfl (by kernel_rfl) (.tmp .nil)))) rfl ?_
          exact ⟨_, by first | rfl | (simp [errW_none, errW_some] <;> rfl) | (simp [*, errW_none, errW_some] <;> rfl), by (with_reducible repeat (first | apply Kd.V_alloc | apply Kd.V_drewN | apply Kd.V_drew)); exact Kd.V_mono (Kd.V_far (p := ⟨gb122, 5, none⟩) (Kd.V_far (p := ⟨gb122, 4, none⟩) (Kd.V_far (p := ⟨gb122, 3, none⟩) (Kd.V_far (p := ⟨gb122, 2, none⟩) (Kd.V_far (p := ⟨gb122, 1, none⟩) (Kd.V_far (p := ⟨gb122, 0, none⟩) (Kd.V_far (p := ⟨gb121, 2, none⟩) (Kd.V_far (p := ⟨gb121, 1, none⟩) (Kd.V_far (p := ⟨gb121, 0, none⟩) (Kd.V_mono (Kd.V_mono HO_121000.out (fun k_ hk => (⟨hk, hk.2.2.1⟩ : _ ∧ k_ ≠ gb121))) (fun k_ hk => (⟨hk, hk.1.2.2.2.1⟩ : _ ∧ k_ ≠ gb122))) (fun _ hk => hk.1.2) (.slice Ao36 x121000_1.length co36)) (fun _ hk => hk.1.2) (.int .i64 x121001_1)) (fun _ hk => hk.1.2) (.int .i64 x121002_1)) (fun _ hk => hk.2) (.bool x124000_1)) (fun _ hk => hk.2) (.int .i64 x124001_1)) (fun _ hk => hk.2) (.int .i64 x124002_1)) (fun _ hk => hk.2) (.int .i64 x124003_1)) (fun _ hk => hk.2) (.int .i64 x124004_1)) (fun _ hk => hk.2) (.int .i64 x124005_1)) (fun _ hk => hk.1.1.1), by repeat (first | (with_reducible first | exact HB.out | apply below_alloc | apply pw_below_drewN | apply below_drew1 | refine below_set ?_ GE120.out | refine below_set ?_ GE121.out | refine below_set ?_ GE122.out | refine below_set ?_ GE123.out) | exact HB.out)⟩
      · rw [if_neg c16] at H
        have c16b0 : (x8_1 == 0) = false := beq_eq_false_iff_ne.mpr c16
        have c16b1 : (x8_1 != 0) = true := bne_iff_ne.mpr c16
        simp only [Option.some.injEq, Prod.mk.injEq] at H
        obtain ⟨rfl, rfl, rfl, rfl, rfl, rfl, rfl, rfl, rfl, rfl⟩ := H
        have hnb46 := NB121_120.out
        have hnc46 := NB120_121.out
        have hnb47 := NB121_122.out
        have hnc47 := NB122_121.out
        have hnb48 := NB121_123.out
        have hnc48 := NB123_121.out
        have hcz49_0 : wr.cell? ⟨gb121, 0, none⟩ = some (.slice none 0 0) := (blk_cell BK121.out 0).trans rfl
        have hcz49_1 : wr.cell? ⟨gb121, 1, none⟩ = some (.int .i64 0) := (blk_cell BK121.out 1).trans rfl
        have hcz49_2 : wr.cell? ⟨gb121, 2, none⟩ = some (.int .i64 0) := (blk_cell BK121.out 2).trans rfl
        have hfz49_0 := blk_frozen BK121.out 0
        have hfz49_1 := blk_frozen BK121.out 1
        have hfz49_2 := blk_frozen BK121.out 2
        have hnb50 := NB122_120.out
        have hnc50 := NB120_122.out
        have hnb51 := NB122_123.out
        have hnc51 := NB123_122.out
        have hcz52_0 : wr.cell? ⟨gb122, 0, none⟩ = some (.bool false) := (blk_cell BK122.out 0).trans rfl
        have hcz52_1 : wr.cell? ⟨gb122, 1, none⟩ = some (.int .i64 0) := (blk_cell BK122.out 1).trans rfl
        have hcz52_2 : wr.cell? ⟨gb122, 2, none⟩ = some (.int .i64 0) := (blk_cell BK122.out 2).trans rfl
        have hcz52_3 : wr.cell? ⟨gb122, 3, none⟩ = some (.int .i64 0) := (blk_cell BK122.out 3).trans rfl
        have hcz52_4 : wr.cell? ⟨gb122, 4, none⟩ = some (.int .i64 0) := (blk_cell BK122.out 4).trans rfl
        have hcz52_5 : wr.cell? ⟨gb122, 5, none⟩ = some (.int .i64 0) := (blk_cell BK122.out 5).trans rfl
        have hfz52_0 := blk_frozen BK122.out 0
        have hfz52_1 := blk_frozen BK122.out 1
        have hfz52_2 := blk_frozen BK122.out 2
        have hfz52_3 := blk_frozen BK122.out 3
        have hfz52_4 := blk_frozen BK122.out 4
        have hfz52_5 := blk_frozen BK122.out 5
        go_wp2
        refine bodyPost_ret (results_list (rs := [.cell 4 24, .cell 5 27, .tmp 6]) rfl (by simp) (.cell gb121 24 #[.slice none 0 0, .int .i64 0, .int .i64 0] (0, 0) _ rfl (by (with_reducible repeat (first | refine blk_drewN ?_ _ | refine blk_drew ?_ | refine blk_alloc ?_ _)); refine blk_far ?_ NB121_122.out _; (with_reducible repeat (first | refine blk_drewN ?_ _ | refine blk_drew ?_ | refine blk_alloc ?_ _)); refine blk_far ?_ NB121_122.out _; (with_reducible repeat (first | refine blk_drewN ?_ _ | refine blk_drew ?_ | refine blk_alloc ?_ _)); refine blk_far ?_ NB121_122.out _; (with_reducible repeat (first | refine blk_drewN ?_ _ | refine blk_drew ?_ | refine blk_alloc ?_ _)); refine blk_far ?_ NB121_122.out _; (with_reducible repeat (first | refine blk_drewN ?_ _ | refine blk_drew ?_ | refine blk_alloc ?_ _)); refine blk_far ?_ NB121_122.out _; (with_reducible repeat (first | refine blk_drewN ?_ _ | refine blk_drew ?_ | refine blk_alloc ?_ _)); refine blk_far ?_ NB121_122.out _; (with_reducible repeat (first | refine blk_drewN ?_ _ | refine blk_drew ?_ | refine blk_alloc ?_ _)); refine blk_put (cs := #[.slice none 0 0, .int .i64 0, .int .i64 0]) ?_ 2 _ rfl; (with_reducible repeat (first | refine blk_drewN ?_ _ | refine blk_drew ?_ | refine blk_alloc ?_ _)); refine blk_put (cs := #[.slice none 0 0, .int .i64 0, .int .i64 0]) ?_ 1 _ rfl; (with_reducible repeat (first | refine blk_drewN ?_ _ | refine blk_drew ?_ | refine blk_alloc ?_ _)); refine blk_put (cs := #[.slice none 0 0, .int .i64 0, .int .i64 0]) ?_ 0 _ rfl; (with_reducible repeat (first | refine blk_drewN ?_ _ | refine blk_drew ?_ | refine blk_alloc ?_ _)); exact BK121.out) Tryd.underlying24 rfl (by kernel_rfl) (.cell gb122 27 #[.bool false, .int .i64 0, .int .i64 0, .int .i64 0, .int .i64 0, .int .i64 0] (0, 0) _ rfl (by (with_reducible repeat (first | refine blk_drewN ?_ _ | refine blk_drew ?_ | refine blk_alloc ?_ _)); refine blk_put (cs := #[.bool false, .int .i64 0, .int .i64 0, .int .i64 0, .int .i64 0, .int .i64 0]) ?_ 5 _ rfl; (with_reducible repeat (first | refine blk_drewN ?_ _ | refine blk_drew ?_ | refine blk_alloc ?_ _)); refine blk_put (cs := #[.bool false, .int .i64 0, .int .i64 0, .int .i64 0, .int .i64 0, .int .i64 0]) ?_ 4 _ rfl; (with_reducible repeat (first | refine blk_drewN ?_ _ | refine blk_drew ?_ | refine blk_alloc ?_ _)); refine blk_put (cs := #[.bool false, .int .i64 0, .int .i64 0, .int .i64 0, .int .i64 0, .int .i64 0]) ?_ 3 _ rfl; (with_reducible repeat (first | refine blk_drewN ?_ _ | refine blk_drew ?_ | refine blk_alloc ?_ _)); refine blk_put (cs := #[.bool false, .int .i64 0, .int .i64 0, .int .i64 0, .int .i64 0, .int .i64 0]) ?_ 2 _ rfl; (with_reducible repeat (first | refine blk_drewN ?_ _ | refine blk_drew ?_ | refine blk_alloc ?_ _)); refine blk_put (cs := #[.bool false, .int .i64 0, .int .i64 0, .int .i64 0, .int .i64 0, .int .i64 0]) ?_ 1 _ rfl; (with_reducible repeat (first | refine blk_drewN ?_ _ | refine blk_drew ?_ | refine blk_alloc ?_ _)); refine blk_put (cs := #[.bool false, .int .i64 0, .int .i64 0, .int .i64 0, .int .i64 0, .int .i64 0]) ?_ 0 _ rfl; (with_reducible repeat (first | refine blk_drewN ?_ _ | refine blk_drew ?_ | refine blk_alloc ?_ _)); refine blk_far ?_ NB122_121.out _; (with_reducible repeat (first | refine blk_drewN ?_ _ | refine blk_drew ?_ | refine blk_alloc ?_ _)); refine blk_far ?_ NB122_121.out _; (with_reducible repeat (first | refine blk_drewN ?_ _ | refine blk_drew ?_ | refine blk_alloc ?_ _)); refine blk_far ?_ NB122_121.out _; (with_reducible repeat (first | refine blk_drewN ?_ _ | refine blk_drew ?_ | refine blk_alloc ?_ _)); exact BK122.out) Tryd.underlying27 rfl (by kernel_rfl) (.tmp .nil)))) rfl ?_
        exact ⟨_, by first | rfl | (simp [errW_none, errW_some] <;> rfl) | (simp [*, errW_none, errW_some] <;> rfl), Kd.V_nil _ _ _ _ _, by repeat (first | (with_reducible first | exact HB.out | apply below_alloc | apply pw_below_drewN | apply below_drew1 | refine below_set ?_ GE120.out | refine below_set ?_ GE121.out | refine below_set ?_ GE122.out | refine below_set ?_ GE123.out) | exact HB.out)⟩

end Go.Proofs.YtdmgigicbppjkaaDoor.Q
