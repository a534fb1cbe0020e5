-- PRINTED by print.py (a twelfth state) out of the translation. Not trusted: Lean checks it.
import Derived.Test.YtdmgigicbppjkaaDoorQx0
import Derived.Test.YtdmgigicbppjkaaDoorQx2
namespace Go.Proofs.YtdmgigicbppjkaaDoor.Q
open Go.RowKit Go.Proofs.YtdmgigicbppjkaaDoorW.PrintWords Go.Proofs.YtdmgigicbppjkaaDoorW.PrintLast Go.Proofs.YtdmgigicbppjkaaDoorW.PrintMore
attribute [local go_sem] max2_int min2_int max_two min_two max_three min_three max_four min_four   -- for this text's walks alone
set_option linter.unusedVariables false
set_option linter.unusedSimpArgs false

-- BREAK
/-- All but two blocks stay. -/
structure Two (g h : Nat) (w w' : World) : Prop where mk ::
  (os : w'.os = w.os) (tape : w'.tape = w.tape) (output : w'.output = w.output) (size : w.heap.size ≤ w'.heap.size)
  (block : ∀ k, k < w.heap.size → k ≠ g → k ≠ h → w'.heap[k]? = w.heap[k]?)
theorem Two.refl (g h : Nat) (w : World) : Two g h w w := ⟨rfl, rfl, rfl, Nat.le_refl _, fun _ _ _ _ => rfl⟩
theorem Two.trans {g h : Nat} {a b c : World} (x : Two g h a b) (y : Two g h b c) : Two g h a c :=
  ⟨y.os.trans x.os, y.tape.trans x.tape, y.output.trans x.output, Nat.le_trans x.size y.size, fun k hk h1 h2 => (y.block k (Nat.lt_of_lt_of_le hk x.size) h1 h2).trans (x.block k hk h1 h2)⟩
theorem Two.below {g h B : Nat} {a b c : World} (x : Below B a b) (y : Two g h b c) (hB : B ≤ b.heap.size) (hg : B ≤ g) (hh : B ≤ h) : Below B a c :=
  ⟨y.os.trans x.os, y.tape.trans x.tape, y.output.trans x.output, Nat.le_trans x.size y.size, fun k hk => (y.block k (by omega) (by omega) (by omega)).trans (x.block k hk)⟩
theorem Two.of_below {g h : Nat} {a b : World} (x : Below a.heap.size a b) : Two g h a b := ⟨x.os, x.tape, x.output, x.size, fun k hk _ _ => x.block k hk⟩
theorem Two.drewN {g h : Nat} {a b : World} (x : Two g h a b) (n : Nat) : Two g h a (b.drewN n) := ⟨x.os, x.tape, x.output, x.size, x.block⟩
theorem Two.drew {g h : Nat} {a b : World} (x : Two g h a b) : Two g h a b.drew := ⟨x.os, x.tape, x.output, x.size, x.block⟩
theorem Two.set {g h : Nat} {a b : World} (x : Two g h a b) (p : Addr) (u : Value) (hp : p.block = g ∨ p.block = h) : Two g h a (b.setCell p u) := by
  have hb : Below 0 b (b.setCell p u) := (Below.refl 0 b).setCell (Nat.zero_le _) u
  refine x.trans ⟨hb.os, hb.tape, hb.output, hb.size, fun k hk h1 h2 => Below.heap_setCell b p u k (by rcases hp with e | e <;> rw [e] <;> assumption)⟩
theorem blk_to {w : World} {g : Nat} {cs cs' : Array Value} {ty : TypeId} (h : w.heap[g]? = some (.cells cs ty (0, 0))) (e : cs = cs') : w.heap[g]? = some (.cells cs' ty (0, 0)) := e ▸ h
abbrev qCells (S : Value) (tp bt : Int) : Array Value := #[S, .int .i64 tp, .int .i64 bt]
abbrev tCells (s : Bool) (k t b n e : Int) : Array Value := #[.bool s, .int .i64 k, .int .i64 t, .int .i64 b, .int .i64 n, .int .i64 e]
theorem ret_bool2 {a b : Bool} (h : a = b) : Ending.returned (.bool a) = .returned (.bool b) := by rw [h]
theorem wp_scope_once {P : Program} {a : Act} {w : World} {Q : Exit → Act → World → Prop} {c rest : Code} (l : Nat) (J : Act → World → Prop) (hf : findLabel c l = some rest)
    (first : c.wp P (Exit.jump l J Q) a w) (pass : ∀ a w, J a w → rest.wp P (Exit.noGoto Q) a w) : (Code.scope c).wp P Q a w :=
  wp_scope_jumps l J (fun _ _ => 0) hf first (fun a w hJ => wp_mono (pass a w hJ) (fun e a' w' h => by cases e <;> first | exact h | exact h.elim))
theorem wp_gen {P : Program} {c : Code} {Q : Exit → Act → World → Prop} {a : Act} {w : World} (I : World → Prop) (hw : I w) (h : ∀ w', I w' → c.wp P Q a w') : c.wp P Q a w := h w hw
theorem wp_scope_at {P : Program} {a : Act} {w : World} {Q : Exit → Act → World → Prop} {c rest : Code} {A : Act} {W : World} (l : Nat) (hf : findLabel c l = some rest)
    (first : c.wp P (Exit.jump l (fun a' w' => a' = A ∧ w' = W) Q) a w) (pass : rest.wp P (Exit.noGoto Q) A W) : (Code.scope c).wp P Q a w :=
  wp_scope_once l (fun a' w' => a' = A ∧ w' = W) hf first (fun a' w' h => by obtain ⟨rfl, rfl⟩ := h; exact pass)
theorem blk_farL {w : World} {g h i : Nat} {ty : TypeId} {cs : Array Value} {u : Value} (hne : g ≠ h) (hw : w.heap[g]? = some (.cells cs ty (0, 0))) : (w.setCell ⟨h, i, none⟩ u).heap[g]? = some (.cells cs ty (0, 0)) := blk_far hw hne u

set_option maxHeartbeats 4000000 in
theorem swap_yes (g h : Nat) (S : Value) (tp bt : Int) (s : Bool) (k : Int) (t b n e : Int) (c : tp = t) (w : World) (hg : w.heap[g]? = some (.cells (qCells S tp bt) 24 (0, 0))) (hh : w.heap[h]? = some (.cells (tCells s k t b n e) 27 (0, 0))) :
    Calls Tryd.prog 41 #[.pointer (some ⟨g, 0, none⟩), .pointer (some ⟨h, 0, none⟩)] w fun en w' => en = .returned (.bool true) ∧ Two g h w w' ∧ w'.heap[g]? = some (.cells (qCells S (wrap64 (tp + 1)) (bt)) 24 (0, 0)) ∧ w'.heap[h]? = some (.cells (tCells s (k) (t) (b) (n) (e)) 27 (0, 0)) := by
  have hne := blk_ne hg hh (by decide)
  have cb : (tp != t) = false := by simp [c]
  clear c
  have g0 : w.cell? ⟨g, 0, none⟩ = some (S) := (blk_cell hg 0).trans rfl
  have g0f := blk_frozen hg 0
  have g1 : w.cell? ⟨g, 1, none⟩ = some (.int .i64 tp) := (blk_cell hg 1).trans rfl
  have g1f := blk_frozen hg 1
  have g2 : w.cell? ⟨g, 2, none⟩ = some (.int .i64 bt) := (blk_cell hg 2).trans rfl
  have g2f := blk_frozen hg 2
  have h0 : w.cell? ⟨h, 0, none⟩ = some (.bool s) := (blk_cell hh 0).trans rfl
  have h0f := blk_frozen hh 0
  have h1 : w.cell? ⟨h, 1, none⟩ = some (.int .i64 (k)) := (blk_cell hh 1).trans rfl
  have h1f := blk_frozen hh 1
  have h2 : w.cell? ⟨h, 2, none⟩ = some (.int .i64 t) := (blk_cell hh 2).trans rfl
  have h2f := blk_frozen hh 2
  have h3 : w.cell? ⟨h, 3, none⟩ = some (.int .i64 b) := (blk_cell hh 3).trans rfl
  have h3f := blk_frozen hh 3
  have h4 : w.cell? ⟨h, 4, none⟩ = some (.int .i64 n) := (blk_cell hh 4).trans rfl
  have h4f := blk_frozen hh 4
  have h5 : w.cell? ⟨h, 5, none⟩ = some (.int .i64 e) := (blk_cell hh 5).trans rfl
  have h5f := blk_frozen hh 5
  have HG := Lib.hid hg
  have HH := Lib.hid hh
  clear hg hh
  go_enter Tryd.func41, Tryd.ntmps41
  go_wp2
  go_region
  go_wp2
  go_ret
  exact ⟨rfl, (by with_reducible repeat (first | exact Two.refl _ _ _ | exact HT.out | refine Two.drew ?_ | refine Two.drewN ?_ _ | refine Two.set ?_ _ _ (.inl rfl) | refine Two.set ?_ _ _ (.inr rfl))), (by apply blk_to; (repeat (first | (with_reducible exact HG.out) | (with_reducible apply blk_drew) | (with_reducible apply blk_drewN) | apply blk_set | apply blk_farL hne | apply blk_farL hne.symm)); rfl), (by apply blk_to; (repeat (first | (with_reducible exact HH.out) | (with_reducible apply blk_drew) | (with_reducible apply blk_drewN) | apply blk_set | apply blk_farL hne | apply blk_farL hne.symm)); rfl)⟩

set_option maxHeartbeats 4000000 in
theorem swap_no (g h : Nat) (S : Value) (tp bt : Int) (s : Bool) (k : Int) (t b n e : Int) (c : ¬ tp = t) (w : World) (hg : w.heap[g]? = some (.cells (qCells S tp bt) 24 (0, 0))) (hh : w.heap[h]? = some (.cells (tCells s k t b n e) 27 (0, 0))) :
    Calls Tryd.prog 41 #[.pointer (some ⟨g, 0, none⟩), .pointer (some ⟨h, 0, none⟩)] w fun en w' => en = .returned (.bool false) ∧ Two g h w w' ∧ w'.heap[g]? = some (.cells (qCells S (tp) (bt)) 24 (0, 0)) ∧ w'.heap[h]? = some (.cells (tCells s (k) (t) (b) (n) (e)) 27 (0, 0)) := by
  have hne := blk_ne hg hh (by decide)
  have cb : (tp != t) = true := by simp [c]
  clear c
  have g0 : w.cell? ⟨g, 0, none⟩ = some (S) := (blk_cell hg 0).trans rfl
  have g0f := blk_frozen hg 0
  have g1 : w.cell? ⟨g, 1, none⟩ = some (.int .i64 tp) := (blk_cell hg 1).trans rfl
  have g1f := blk_frozen hg 1
  have g2 : w.cell? ⟨g, 2, none⟩ = some (.int .i64 bt) := (blk_cell hg 2).trans rfl
  have g2f := blk_frozen hg 2
  have h0 : w.cell? ⟨h, 0, none⟩ = some (.bool s) := (blk_cell hh 0).trans rfl
  have h0f := blk_frozen hh 0
  have h1 : w.cell? ⟨h, 1, none⟩ = some (.int .i64 (k)) := (blk_cell hh 1).trans rfl
  have h1f := blk_frozen hh 1
  have h2 : w.cell? ⟨h, 2, none⟩ = some (.int .i64 t) := (blk_cell hh 2).trans rfl
  have h2f := blk_frozen hh 2
  have h3 : w.cell? ⟨h, 3, none⟩ = some (.int .i64 b) := (blk_cell hh 3).trans rfl
  have h3f := blk_frozen hh 3
  have h4 : w.cell? ⟨h, 4, none⟩ = some (.int .i64 n) := (blk_cell hh 4).trans rfl
  have h4f := blk_frozen hh 4
  have h5 : w.cell? ⟨h, 5, none⟩ = some (.int .i64 e) := (blk_cell hh 5).trans rfl
  have h5f := blk_frozen hh 5
  have HG := Lib.hid hg
  have HH := Lib.hid hh
  clear hg hh
  go_enter Tryd.func41, Tryd.ntmps41
  go_wp2
  go_region
  go_wp2
  go_ret
  exact ⟨rfl, (by with_reducible repeat (first | exact Two.refl _ _ _ | exact HT.out | refine Two.drew ?_ | refine Two.drewN ?_ _ | refine Two.set ?_ _ _ (.inl rfl) | refine Two.set ?_ _ _ (.inr rfl))), (by apply blk_to; (repeat (first | (with_reducible exact HG.out) | (with_reducible apply blk_drew) | (with_reducible apply blk_drewN) | apply blk_set | apply blk_farL hne | apply blk_farL hne.symm)); rfl), (by apply blk_to; (repeat (first | (with_reducible exact HH.out) | (with_reducible apply blk_drew) | (with_reducible apply blk_drewN) | apply blk_set | apply blk_farL hne | apply blk_farL hne.symm)); rfl)⟩

set_option maxHeartbeats 4000000 in
theorem steal_0 (g h : Nat) (S : Value) (tp bt : Int) (s : Bool) (t b n e : Int) (w : World) (hg : w.heap[g]? = some (.cells (qCells S tp bt) 24 (0, 0))) (hh : w.heap[h]? = some (.cells (tCells s 0 t b n e) 27 (0, 0))) :
    Calls Tryd.prog 29 #[.pointer (some ⟨g, 0, none⟩), .pointer (some ⟨h, 0, none⟩)] w fun en w' => en = .returned (.tuple #[]) ∧ Two g h w w' ∧ w'.heap[g]? = some (.cells (qCells S (tp) (bt)) 24 (0, 0)) ∧ w'.heap[h]? = some (.cells (tCells s (1) (tp) (b) (n) (e)) 27 (0, 0)) := by
  have hne := blk_ne hg hh (by decide)
  have g1 : w.cell? ⟨g, 1, none⟩ = some (.int .i64 tp) := (blk_cell hg 1).trans rfl
  have h1 : w.cell? ⟨h, 1, none⟩ = some (.int .i64 (0)) := (blk_cell hh 1).trans rfl
  have h1f := blk_frozen hh 1
  have h2 : w.cell? ⟨h, 2, none⟩ = some (.int .i64 t) := (blk_cell hh 2).trans rfl
  have h2f := blk_frozen hh 2
  have HG := Lib.hid hg
  have HH := Lib.hid hh
  clear hg hh
  go_enter Tryd.func29, Tryd.ntmps29
  go_wp2
  apply wp_scope_at 0 (by rfl)
  · go_wp2
    go_step3
    exact ⟨rfl, rfl, rfl⟩
  · skip
    go_wp2
    rw [Exit.noGoto_ret]
    refine bodyPost_ret (results_none rfl _ _ _) rfl ?_
    exact ⟨rfl, (by with_reducible repeat (first | exact Two.refl _ _ _ | exact HT.out | refine Two.drew ?_ | refine Two.drewN ?_ _ | refine Two.set ?_ _ _ (.inl rfl) | refine Two.set ?_ _ _ (.inr rfl))), (by apply blk_to; (repeat (first | (with_reducible exact HG.out) | (with_reducible apply blk_drew) | (with_reducible apply blk_drewN) | apply blk_set | apply blk_farL hne | apply blk_farL hne.symm)); rfl), (by apply blk_to; (repeat (first | (with_reducible exact HH.out) | (with_reducible apply blk_drew) | (with_reducible apply blk_drewN) | apply blk_set | apply blk_farL hne | apply blk_farL hne.symm)); rfl)⟩

set_option maxHeartbeats 4000000 in
theorem steal_1e (g h : Nat) (S : Value) (tp bt : Int) (s : Bool) (t b n e : Int) (c : t ≥ bt) (w : World) (hg : w.heap[g]? = some (.cells (qCells S tp bt) 24 (0, 0))) (hh : w.heap[h]? = some (.cells (tCells s 1 t b n e) 27 (0, 0))) :
    Calls Tryd.prog 29 #[.pointer (some ⟨g, 0, none⟩), .pointer (some ⟨h, 0, none⟩)] w fun en w' => en = .returned (.tuple #[]) ∧ Two g h w w' ∧ w'.heap[g]? = some (.cells (qCells S (tp) (bt)) 24 (0, 0)) ∧ w'.heap[h]? = some (.cells (tCells s (1) (t) (bt) (n) (2)) 27 (0, 0)) := by
  have hne := blk_ne hg hh (by decide)
  have cb : decide (t ≥ bt) = true := decide_eq_true c
  clear c
  have g2 : w.cell? ⟨g, 2, none⟩ = some (.int .i64 bt) := (blk_cell hg 2).trans rfl
  have h1 : w.cell? ⟨h, 1, none⟩ = some (.int .i64 (1)) := (blk_cell hh 1).trans rfl
  have h1f := blk_frozen hh 1
  have h3 : w.cell? ⟨h, 3, none⟩ = some (.int .i64 b) := (blk_cell hh 3).trans rfl
  have h3f := blk_frozen hh 3
  have HG := Lib.hid hg
  have HH := Lib.hid hh
  clear hg hh
  go_enter Tryd.func29, Tryd.ntmps29
  go_wp2
  apply wp_scope_at 1 (by rfl)
  · go_wp2
    go_step3
    exact ⟨rfl, rfl, rfl⟩
  · skip
    go_wp2
    refine wp_gen (fun w' => Two g h w w' ∧ w'.heap[g]? = some (.cells (qCells S (tp) (bt)) 24 (0, 0)) ∧ w'.heap[h]? = some (.cells (tCells s (2) (t) (bt) (n) (e)) 27 (0, 0))) ⟨(by with_reducible repeat (first | exact Two.refl _ _ _ | exact HT.out | refine Two.drew ?_ | refine Two.drewN ?_ _ | refine Two.set ?_ _ _ (.inl rfl) | refine Two.set ?_ _ _ (.inr rfl))), (by apply blk_to; (repeat (first | (with_reducible exact HG.out) | (with_reducible apply blk_drew) | (with_reducible apply blk_drewN) | apply blk_set | apply blk_farL hne | apply blk_farL hne.symm)); rfl), (by apply blk_to; (repeat (first | (with_reducible exact HH.out) | (with_reducible apply blk_drew) | (with_reducible apply blk_drewN) | apply blk_set | apply blk_farL hne | apply blk_farL hne.symm)); rfl)⟩ ?_
    clear g2 h1 h3 h1f h3f
    rintro w1 ⟨ht1, hg1, hh1⟩
    have h1 : w1.cell? ⟨h, 1, none⟩ = some (.int .i64 2) := (blk_cell hh1 1).trans rfl
    have h1f := blk_frozen hh1 1
    have h2 : w1.cell? ⟨h, 2, none⟩ = some (.int .i64 t) := (blk_cell hh1 2).trans rfl
    have h2f := blk_frozen hh1 2
    have h3 : w1.cell? ⟨h, 3, none⟩ = some (.int .i64 bt) := (blk_cell hh1 3).trans rfl
    have h3f := blk_frozen hh1 3
    have h5 : w1.cell? ⟨h, 5, none⟩ = some (.int .i64 e) := (blk_cell hh1 5).trans rfl
    have h5f := blk_frozen hh1 5
    have HT := Lib.hid ht1
    clear HG HH
    have HG := Lib.hid hg1
    have HH := Lib.hid hh1
    clear ht1 hg1 hh1
    go_region
    go_wp2
    rw [Exit.noGoto_ret]
    refine bodyPost_ret (results_none rfl _ _ _) rfl ?_
    exact ⟨rfl, (by with_reducible repeat (first | exact Two.refl _ _ _ | exact HT.out | refine Two.drew ?_ | refine Two.drewN ?_ _ | refine Two.set ?_ _ _ (.inl rfl) | refine Two.set ?_ _ _ (.inr rfl))), (by apply blk_to; (repeat (first | (with_reducible exact HG.out) | (with_reducible apply blk_drew) | (with_reducible apply blk_drewN) | apply blk_set | apply blk_farL hne | apply blk_farL hne.symm)); rfl), (by apply blk_to; (repeat (first | (with_reducible exact HH.out) | (with_reducible apply blk_drew) | (with_reducible apply blk_drewN) | apply blk_set | apply blk_farL hne | apply blk_farL hne.symm)); rfl)⟩

set_option maxHeartbeats 4000000 in
theorem steal_1o (g h : Nat) (S : Value) (tp bt : Int) (s : Bool) (t b n e : Int) (c : ¬ t ≥ bt) (w : World) (hg : w.heap[g]? = some (.cells (qCells S tp bt) 24 (0, 0))) (hh : w.heap[h]? = some (.cells (tCells s 1 t b n e) 27 (0, 0))) :
    Calls Tryd.prog 29 #[.pointer (some ⟨g, 0, none⟩), .pointer (some ⟨h, 0, none⟩)] w fun en w' => en = .returned (.tuple #[]) ∧ Two g h w w' ∧ w'.heap[g]? = some (.cells (qCells S (tp) (bt)) 24 (0, 0)) ∧ w'.heap[h]? = some (.cells (tCells s (2) (t) (bt) (n) (e)) 27 (0, 0)) := by
  have hne := blk_ne hg hh (by decide)
  have cb : decide (t ≥ bt) = false := decide_eq_false c
  clear c
  have g2 : w.cell? ⟨g, 2, none⟩ = some (.int .i64 bt) := (blk_cell hg 2).trans rfl
  have h1 : w.cell? ⟨h, 1, none⟩ = some (.int .i64 (1)) := (blk_cell hh 1).trans rfl
  have h1f := blk_frozen hh 1
  have h3 : w.cell? ⟨h, 3, none⟩ = some (.int .i64 b) := (blk_cell hh 3).trans rfl
  have h3f := blk_frozen hh 3
  have HG := Lib.hid hg
  have HH := Lib.hid hh
  clear hg hh
  go_enter Tryd.func29, Tryd.ntmps29
  go_wp2
  apply wp_scope_at 1 (by rfl)
  · go_wp2
    go_step3
    exact ⟨rfl, rfl, rfl⟩
  · skip
    go_wp2
    refine wp_gen (fun w' => Two g h w w' ∧ w'.heap[g]? = some (.cells (qCells S (tp) (bt)) 24 (0, 0)) ∧ w'.heap[h]? = some (.cells (tCells s (2) (t) (bt) (n) (e)) 27 (0, 0))) ⟨(by with_reducible repeat (first | exact Two.refl _ _ _ | exact HT.out | refine Two.drew ?_ | refine Two.drewN ?_ _ | refine Two.set ?_ _ _ (.inl rfl) | refine Two.set ?_ _ _ (.inr rfl))), (by apply blk_to; (repeat (first | (with_reducible exact HG.out) | (with_reducible apply blk_drew) | (with_reducible apply blk_drewN) | apply blk_set | apply blk_farL hne | apply blk_farL hne.symm)); rfl), (by apply blk_to; (repeat (first | (with_reducible exact HH.out) | (with_reducible apply blk_drew) | (with_reducible apply blk_drewN) | apply blk_set | apply blk_farL hne | apply blk_farL hne.symm)); rfl)⟩ ?_
    clear g2 h1 h3 h1f h3f
    rintro w1 ⟨ht1, hg1, hh1⟩
    have h1 : w1.cell? ⟨h, 1, none⟩ = some (.int .i64 2) := (blk_cell hh1 1).trans rfl
    have h1f := blk_frozen hh1 1
    have h2 : w1.cell? ⟨h, 2, none⟩ = some (.int .i64 t) := (blk_cell hh1 2).trans rfl
    have h2f := blk_frozen hh1 2
    have h3 : w1.cell? ⟨h, 3, none⟩ = some (.int .i64 bt) := (blk_cell hh1 3).trans rfl
    have h3f := blk_frozen hh1 3
    have h5 : w1.cell? ⟨h, 5, none⟩ = some (.int .i64 e) := (blk_cell hh1 5).trans rfl
    have h5f := blk_frozen hh1 5
    have HT := Lib.hid ht1
    clear HG HH
    have HG := Lib.hid hg1
    have HH := Lib.hid hh1
    clear ht1 hg1 hh1
    go_region
    go_wp2
    rw [Exit.noGoto_ret]
    refine bodyPost_ret (results_none rfl _ _ _) rfl ?_
    exact ⟨rfl, (by with_reducible repeat (first | exact Two.refl _ _ _ | exact HT.out | refine Two.drew ?_ | refine Two.drewN ?_ _ | refine Two.set ?_ _ _ (.inl rfl) | refine Two.set ?_ _ _ (.inr rfl))), (by apply blk_to; (repeat (first | (with_reducible exact HG.out) | (with_reducible apply blk_drew) | (with_reducible apply blk_drewN) | apply blk_set | apply blk_farL hne | apply blk_farL hne.symm)); rfl), (by apply blk_to; (repeat (first | (with_reducible exact HH.out) | (with_reducible apply blk_drew) | (with_reducible apply blk_drewN) | apply blk_set | apply blk_farL hne | apply blk_farL hne.symm)); rfl)⟩

set_option maxHeartbeats 4000000 in
theorem pop_0 (g h : Nat) (S : Value) (tp bt : Int) (s : Bool) (t b n e : Int) (w : World) (hg : w.heap[g]? = some (.cells (qCells S tp bt) 24 (0, 0))) (hh : w.heap[h]? = some (.cells (tCells s 0 t b n e) 27 (0, 0))) :
    Calls Tryd.prog 30 #[.pointer (some ⟨g, 0, none⟩), .pointer (some ⟨h, 0, none⟩)] w fun en w' => en = .returned (.tuple #[]) ∧ Two g h w w' ∧ w'.heap[g]? = some (.cells (qCells S (tp) (wrap64 (bt - 1))) 24 (0, 0)) ∧ w'.heap[h]? = some (.cells (tCells s (1) (t) (wrap64 (bt - 1)) (n) (e)) 27 (0, 0)) := by
  have hne := blk_ne hg hh (by decide)
  have g2 : w.cell? ⟨g, 2, none⟩ = some (.int .i64 bt) := (blk_cell hg 2).trans rfl
  have g2f := blk_frozen hg 2
  have h1 : w.cell? ⟨h, 1, none⟩ = some (.int .i64 (0)) := (blk_cell hh 1).trans rfl
  have h1f := blk_frozen hh 1
  have h3 : w.cell? ⟨h, 3, none⟩ = some (.int .i64 b) := (blk_cell hh 3).trans rfl
  have h3f := blk_frozen hh 3
  have HG := Lib.hid hg
  have HH := Lib.hid hh
  clear hg hh
  go_enter Tryd.func30, Tryd.ntmps30
  go_wp2
  apply wp_scope_at 0 (by rfl)
  · go_wp2
    go_step3
    exact ⟨rfl, rfl, rfl⟩
  · skip
    go_wp2
    rw [Exit.noGoto_ret]
    refine bodyPost_ret (results_none rfl _ _ _) rfl ?_
    exact ⟨rfl, (by with_reducible repeat (first | exact Two.refl _ _ _ | exact HT.out | refine Two.drew ?_ | refine Two.drewN ?_ _ | refine Two.set ?_ _ _ (.inl rfl) | refine Two.set ?_ _ _ (.inr rfl))), (by apply blk_to; (repeat (first | (with_reducible exact HG.out) | (with_reducible apply blk_drew) | (with_reducible apply blk_drewN) | apply blk_set | apply blk_farL hne | apply blk_farL hne.symm)); rfl), (by apply blk_to; (repeat (first | (with_reducible exact HH.out) | (with_reducible apply blk_drew) | (with_reducible apply blk_drewN) | apply blk_set | apply blk_farL hne | apply blk_farL hne.symm)); rfl)⟩

set_option maxHeartbeats 4000000 in
theorem pop_1e (g h : Nat) (S : Value) (tp bt : Int) (s : Bool) (t b n e : Int) (c : ¬ tp < b) (c2 : tp = b) (w : World) (hg : w.heap[g]? = some (.cells (qCells S tp bt) 24 (0, 0))) (hh : w.heap[h]? = some (.cells (tCells s 1 t b n e) 27 (0, 0))) :
    Calls Tryd.prog 30 #[.pointer (some ⟨g, 0, none⟩), .pointer (some ⟨h, 0, none⟩)] w fun en w' => en = .returned (.tuple #[]) ∧ Two g h w w' ∧ w'.heap[g]? = some (.cells (qCells S (tp) (bt)) 24 (0, 0)) ∧ w'.heap[h]? = some (.cells (tCells s (2) (tp) (b) (n) (e)) 27 (0, 0)) := by
  have hne := blk_ne hg hh (by decide)
  have cb : decide (tp < b) = false := decide_eq_false c
  have cb2 : (tp == b) = true := by simp [c2]
  clear c c2
  have g1 : w.cell? ⟨g, 1, none⟩ = some (.int .i64 tp) := (blk_cell hg 1).trans rfl
  have h1 : w.cell? ⟨h, 1, none⟩ = some (.int .i64 (1)) := (blk_cell hh 1).trans rfl
  have h2 : w.cell? ⟨h, 2, none⟩ = some (.int .i64 t) := (blk_cell hh 2).trans rfl
  have h2f := blk_frozen hh 2
  have HG := Lib.hid hg
  have HH := Lib.hid hh
  clear hg hh
  go_enter Tryd.func30, Tryd.ntmps30
  go_wp2
  apply wp_scope_at 1 (by rfl)
  · go_wp2
    go_step3
    exact ⟨rfl, rfl, rfl⟩
  · skip
    go_wp2
    refine wp_gen (fun w' => Two g h w w' ∧ w'.heap[g]? = some (.cells (qCells S (tp) (bt)) 24 (0, 0)) ∧ w'.heap[h]? = some (.cells (tCells s (1) (tp) (b) (n) (e)) 27 (0, 0))) ⟨(by with_reducible repeat (first | exact Two.refl _ _ _ | exact HT.out | refine Two.drew ?_ | refine Two.drewN ?_ _ | refine Two.set ?_ _ _ (.inl rfl) | refine Two.set ?_ _ _ (.inr rfl))), (by apply blk_to; (repeat (first | (with_reducible exact HG.out) | (with_reducible apply blk_drew) | (with_reducible apply blk_drewN) | apply blk_set | apply blk_farL hne | apply blk_farL hne.symm)); rfl), (by apply blk_to; (repeat (first | (with_reducible exact HH.out) | (with_reducible apply blk_drew) | (with_reducible apply blk_drewN) | apply blk_set | apply blk_farL hne | apply blk_farL hne.symm)); rfl)⟩ ?_
    clear g1 h1 h2 h2f
    rintro w1 ⟨ht1, hg1, hh1⟩
    have h1 : w1.cell? ⟨h, 1, none⟩ = some (.int .i64 1) := (blk_cell hh1 1).trans rfl
    have h1f := blk_frozen hh1 1
    have h2 : w1.cell? ⟨h, 2, none⟩ = some (.int .i64 tp) := (blk_cell hh1 2).trans rfl
    have h2f := blk_frozen hh1 2
    have h3 : w1.cell? ⟨h, 3, none⟩ = some (.int .i64 b) := (blk_cell hh1 3).trans rfl
    have h3f := blk_frozen hh1 3
    have HT := Lib.hid ht1
    clear HG HH
    have HG := Lib.hid hg1
    have HH := Lib.hid hh1
    clear ht1 hg1 hh1
    go_region
    go_wp2
    go_region
    go_wp2
    rw [Exit.noGoto_ret]
    refine bodyPost_ret (results_none rfl _ _ _) rfl ?_
    exact ⟨rfl, (by with_reducible repeat (first | exact Two.refl _ _ _ | exact HT.out | refine Two.drew ?_ | refine Two.drewN ?_ _ | refine Two.set ?_ _ _ (.inl rfl) | refine Two.set ?_ _ _ (.inr rfl))), (by apply blk_to; (repeat (first | (with_reducible exact HG.out) | (with_reducible apply blk_drew) | (with_reducible apply blk_drewN) | apply blk_set | apply blk_farL hne | apply blk_farL hne.symm)); rfl), (by apply blk_to; (repeat (first | (with_reducible exact HH.out) | (with_reducible apply blk_drew) | (with_reducible apply blk_drewN) | apply blk_set | apply blk_farL hne | apply blk_farL hne.symm)); rfl)⟩

set_option maxHeartbeats 4000000 in
theorem pop_1g (g h : Nat) (S : Value) (tp bt : Int) (s : Bool) (t b n e : Int) (c : ¬ tp < b) (c2 : ¬ tp = b) (w : World) (hg : w.heap[g]? = some (.cells (qCells S tp bt) 24 (0, 0))) (hh : w.heap[h]? = some (.cells (tCells s 1 t b n e) 27 (0, 0))) :
    Calls Tryd.prog 30 #[.pointer (some ⟨g, 0, none⟩), .pointer (some ⟨h, 0, none⟩)] w fun en w' => en = .returned (.tuple #[]) ∧ Two g h w w' ∧ w'.heap[g]? = some (.cells (qCells S (tp) (bt)) 24 (0, 0)) ∧ w'.heap[h]? = some (.cells (tCells s (3) (tp) (b) (n) (e)) 27 (0, 0)) := by
  have hne := blk_ne hg hh (by decide)
  have cb : decide (tp < b) = false := decide_eq_false c
  have cb2 : (tp == b) = false := by simp [c2]
  clear c c2
  have g1 : w.cell? ⟨g, 1, none⟩ = some (.int .i64 tp) := (blk_cell hg 1).trans rfl
  have h1 : w.cell? ⟨h, 1, none⟩ = some (.int .i64 (1)) := (blk_cell hh 1).trans rfl
  have h2 : w.cell? ⟨h, 2, none⟩ = some (.int .i64 t) := (blk_cell hh 2).trans rfl
  have h2f := blk_frozen hh 2
  have HG := Lib.hid hg
  have HH := Lib.hid hh
  clear hg hh
  go_enter Tryd.func30, Tryd.ntmps30
  go_wp2
  apply wp_scope_at 1 (by rfl)
  · go_wp2
    go_step3
    exact ⟨rfl, rfl, rfl⟩
  · skip
    go_wp2
    refine wp_gen (fun w' => Two g h w w' ∧ w'.heap[g]? = some (.cells (qCells S (tp) (bt)) 24 (0, 0)) ∧ w'.heap[h]? = some (.cells (tCells s (1) (tp) (b) (n) (e)) 27 (0, 0))) ⟨(by with_reducible repeat (first | exact Two.refl _ _ _ | exact HT.out | refine Two.drew ?_ | refine Two.drewN ?_ _ | refine Two.set ?_ _ _ (.inl rfl) | refine Two.set ?_ _ _ (.inr rfl))), (by apply blk_to; (repeat (first | (with_reducible exact HG.out) | (with_reducible apply blk_drew) | (with_reducible apply blk_drewN) | apply blk_set | apply blk_farL hne | apply blk_farL hne.symm)); rfl), (by apply blk_to; (repeat (first | (with_reducible exact HH.out) | (with_reducible apply blk_drew) | (with_reducible apply blk_drewN) | apply blk_set | apply blk_farL hne | apply blk_farL hne.symm)); rfl)⟩ ?_
    clear g1 h1 h2 h2f
    rintro w1 ⟨ht1, hg1, hh1⟩
    have h1 : w1.cell? ⟨h, 1, none⟩ = some (.int .i64 1) := (blk_cell hh1 1).trans rfl
    have h1f := blk_frozen hh1 1
    have h2 : w1.cell? ⟨h, 2, none⟩ = some (.int .i64 tp) := (blk_cell hh1 2).trans rfl
    have h2f := blk_frozen hh1 2
    have h3 : w1.cell? ⟨h, 3, none⟩ = some (.int .i64 b) := (blk_cell hh1 3).trans rfl
    have h3f := blk_frozen hh1 3
    have HT := Lib.hid ht1
    clear HG HH
    have HG := Lib.hid hg1
    have HH := Lib.hid hh1
    clear ht1 hg1 hh1
    go_region
    go_wp2
    go_region
    go_wp2
    rw [Exit.noGoto_ret]
    refine bodyPost_ret (results_none rfl _ _ _) rfl ?_
    exact ⟨rfl, (by with_reducible repeat (first | exact Two.refl _ _ _ | exact HT.out | refine Two.drew ?_ | refine Two.drewN ?_ _ | refine Two.set ?_ _ _ (.inl rfl) | refine Two.set ?_ _ _ (.inr rfl))), (by apply blk_to; (repeat (first | (with_reducible exact HG.out) | (with_reducible apply blk_drew) | (with_reducible apply blk_drewN) | apply blk_set | apply blk_farL hne | apply blk_farL hne.symm)); rfl), (by apply blk_to; (repeat (first | (with_reducible exact HH.out) | (with_reducible apply blk_drew) | (with_reducible apply blk_drewN) | apply blk_set | apply blk_farL hne | apply blk_farL hne.symm)); rfl)⟩

set_option maxHeartbeats 4000000 in
theorem steal_oy (g h : Nat) (S : Value) (tp bt : Int) (s : Bool) (k : Int) (t b n e : Int) (c0 : ¬ k = 0) (c1 : ¬ k = 1) (c2 : ¬ k = 2) (c : tp = t) (w : World) (hg : w.heap[g]? = some (.cells (qCells S tp bt) 24 (0, 0))) (hh : w.heap[h]? = some (.cells (tCells s k t b n e) 27 (0, 0))) :
    Calls Tryd.prog 29 #[.pointer (some ⟨g, 0, none⟩), .pointer (some ⟨h, 0, none⟩)] w fun en w' => en = .returned (.tuple #[]) ∧ Two g h w w' ∧ w'.heap[g]? = some (.cells (qCells S (wrap64 (tp + 1)) (bt)) 24 (0, 0)) ∧ w'.heap[h]? = some (.cells (tCells s (k) (t) (b) (n) (1)) 27 (0, 0)) := by
  have hne := blk_ne hg hh (by decide)
  have k0 : (k == 0) = false := by simpa using c0
  have k1 : (k == 1) = false := by simpa using c1
  have k2 : (k == 2) = false := by simpa using c2
  have HC := Lib.hid c
  clear c c0 c1 c2
  have h1 : w.cell? ⟨h, 1, none⟩ = some (.int .i64 (k)) := (blk_cell hh 1).trans rfl
  have h5 : w.cell? ⟨h, 5, none⟩ = some (.int .i64 e) := (blk_cell hh 5).trans rfl
  have h5f := blk_frozen hh 5
  have HG := Lib.hid hg
  have HH := Lib.hid hh
  clear hg hh
  go_enter Tryd.func29, Tryd.ntmps29
  go_wp2
  go_step3
  go_wp2_with (first | (go_at_call 41; refine Calls.mono (swap_yes g h S tp bt s k t b n 3 HC.out _ ?hA1 ?hB1) ?hC1; (case hA1 => exact (by apply blk_to; (repeat (first | (with_reducible exact HG.out) | (with_reducible apply blk_drew) | (with_reducible apply blk_drewN) | apply blk_set | apply blk_farL hne | apply blk_farL hne.symm)); rfl)); (case hB1 => exact (by apply blk_to; (repeat (first | (with_reducible exact HH.out) | (with_reducible apply blk_drew) | (with_reducible apply blk_drewN) | apply blk_set | apply blk_farL hne | apply blk_farL hne.symm)); rfl)); rintro e1 w1 ⟨rfl, ht1, hg1, hh1⟩; have HT := Lib.hid (show Two g h w w1 from Two.trans (by with_reducible repeat (first | exact Two.refl _ _ _ | exact HT.out | refine Two.drew ?_ | refine Two.drewN ?_ _ | refine Two.set ?_ _ _ (.inl rfl) | refine Two.set ?_ _ _ (.inr rfl))) ht1); clear HG HH h1 h5 h5f ht1; have h4 : w1.cell? ⟨h, 4, none⟩ = some (.int .i64 n) := (blk_cell hh1 4).trans rfl; have h5 : w1.cell? ⟨h, 5, none⟩ = some (.int .i64 3) := (blk_cell hh1 5).trans rfl; have h4f := blk_frozen hh1 4; have h5f := blk_frozen hh1 5; have HG := Lib.hid hg1; have HH := Lib.hid hh1; clear hg1 hh1))
  rw [Exit.noGoto_ret]
  refine bodyPost_ret (results_none rfl _ _ _) rfl ?_
  exact ⟨rfl, (by with_reducible repeat (first | exact Two.refl _ _ _ | exact HT.out | refine Two.drew ?_ | refine Two.drewN ?_ _ | refine Two.set ?_ _ _ (.inl rfl) | refine Two.set ?_ _ _ (.inr rfl))), (by apply blk_to; (repeat (first | (with_reducible exact HG.out) | (with_reducible apply blk_drew) | (with_reducible apply blk_drewN) | apply blk_set | apply blk_farL hne | apply blk_farL hne.symm)); rfl), (by apply blk_to; (repeat (first | (with_reducible exact HH.out) | (with_reducible apply blk_drew) | (with_reducible apply blk_drewN) | apply blk_set | apply blk_farL hne | apply blk_farL hne.symm)); rfl)⟩

set_option maxHeartbeats 4000000 in
theorem steal_on (g h : Nat) (S : Value) (tp bt : Int) (s : Bool) (k : Int) (t b n e : Int) (c0 : ¬ k = 0) (c1 : ¬ k = 1) (c2 : ¬ k = 2) (c : ¬ tp = t) (w : World) (hg : w.heap[g]? = some (.cells (qCells S tp bt) 24 (0, 0))) (hh : w.heap[h]? = some (.cells (tCells s k t b n e) 27 (0, 0))) :
    Calls Tryd.prog 29 #[.pointer (some ⟨g, 0, none⟩), .pointer (some ⟨h, 0, none⟩)] w fun en w' => en = .returned (.tuple #[]) ∧ Two g h w w' ∧ w'.heap[g]? = some (.cells (qCells S (tp) (bt)) 24 (0, 0)) ∧ w'.heap[h]? = some (.cells (tCells s (k) (t) (b) (0) (3)) 27 (0, 0)) := by
  have hne := blk_ne hg hh (by decide)
  have k0 : (k == 0) = false := by simpa using c0
  have k1 : (k == 1) = false := by simpa using c1
  have k2 : (k == 2) = false := by simpa using c2
  have HC := Lib.hid c
  clear c c0 c1 c2
  have h1 : w.cell? ⟨h, 1, none⟩ = some (.int .i64 (k)) := (blk_cell hh 1).trans rfl
  have h5 : w.cell? ⟨h, 5, none⟩ = some (.int .i64 e) := (blk_cell hh 5).trans rfl
  have h5f := blk_frozen hh 5
  have HG := Lib.hid hg
  have HH := Lib.hid hh
  clear hg hh
  go_enter Tryd.func29, Tryd.ntmps29
  go_wp2
  go_step3
  go_wp2_with (first | (go_at_call 41; refine Calls.mono (swap_no g h S tp bt s k t b n 3 HC.out _ ?hA1 ?hB1) ?hC1; (case hA1 => exact (by apply blk_to; (repeat (first | (with_reducible exact HG.out) | (with_reducible apply blk_drew) | (with_reducible apply blk_drewN) | apply blk_set | apply blk_farL hne | apply blk_farL hne.symm)); rfl)); (case hB1 => exact (by apply blk_to; (repeat (first | (with_reducible exact HH.out) | (with_reducible apply blk_drew) | (with_reducible apply blk_drewN) | apply blk_set | apply blk_farL hne | apply blk_farL hne.symm)); rfl)); rintro e1 w1 ⟨rfl, ht1, hg1, hh1⟩; have HT := Lib.hid (show Two g h w w1 from Two.trans (by with_reducible repeat (first | exact Two.refl _ _ _ | exact HT.out | refine Two.drew ?_ | refine Two.drewN ?_ _ | refine Two.set ?_ _ _ (.inl rfl) | refine Two.set ?_ _ _ (.inr rfl))) ht1); clear HG HH h1 h5 h5f ht1; have h4 : w1.cell? ⟨h, 4, none⟩ = some (.int .i64 n) := (blk_cell hh1 4).trans rfl; have h5 : w1.cell? ⟨h, 5, none⟩ = some (.int .i64 3) := (blk_cell hh1 5).trans rfl; have h4f := blk_frozen hh1 4; have h5f := blk_frozen hh1 5; have HG := Lib.hid hg1; have HH := Lib.hid hh1; clear hg1 hh1))
  rw [Exit.noGoto_ret]
  refine bodyPost_ret (results_none rfl _ _ _) rfl ?_
  exact ⟨rfl, (by with_reducible repeat (first | exact Two.refl _ _ _ | exact HT.out | refine Two.drew ?_ | refine Two.drewN ?_ _ | refine Two.set ?_ _ _ (.inl rfl) | refine Two.set ?_ _ _ (.inr rfl))), (by apply blk_to; (repeat (first | (with_reducible exact HG.out) | (with_reducible apply blk_drew) | (with_reducible apply blk_drewN) | apply blk_set | apply blk_farL hne | apply blk_farL hne.symm)); rfl), (by apply blk_to; (repeat (first | (with_reducible exact HH.out) | (with_reducible apply blk_drew) | (with_reducible apply blk_drewN) | apply blk_set | apply blk_farL hne | apply blk_farL hne.symm)); rfl)⟩

set_option maxHeartbeats 4000000 in
theorem pop_o4 (g h : Nat) (S : Value) (tp bt : Int) (s : Bool) (k : Int) (t b n e : Int) (c0 : ¬ k = 0) (c1 : ¬ k = 1) (c2 : ¬ k = 2) (c : k = 4) (w : World) (hg : w.heap[g]? = some (.cells (qCells S tp bt) 24 (0, 0))) (hh : w.heap[h]? = some (.cells (tCells s k t b n e) 27 (0, 0))) :
    Calls Tryd.prog 30 #[.pointer (some ⟨g, 0, none⟩), .pointer (some ⟨h, 0, none⟩)] w fun en w' => en = .returned (.tuple #[]) ∧ Two g h w w' ∧ w'.heap[g]? = some (.cells (qCells S (tp) (wrap64 (b + 1))) 24 (0, 0)) ∧ w'.heap[h]? = some (.cells (tCells s (k) (t) (b) (n) (1)) 27 (0, 0)) := by
  have hne := blk_ne hg hh (by decide)
  have k0 : (k == 0) = false := by simpa using c0
  have k1 : (k == 1) = false := by simpa using c1
  have k2 : (k == 2) = false := by simpa using c2
  have k4 : (k == 4) = true := by simp [c]
  clear c c0 c1 c2
  have g2 : w.cell? ⟨g, 2, none⟩ = some (.int .i64 bt) := (blk_cell hg 2).trans rfl
  have g2f := blk_frozen hg 2
  have h1 : w.cell? ⟨h, 1, none⟩ = some (.int .i64 (k)) := (blk_cell hh 1).trans rfl
  have h3 : w.cell? ⟨h, 3, none⟩ = some (.int .i64 b) := (blk_cell hh 3).trans rfl
  have h5 : w.cell? ⟨h, 5, none⟩ = some (.int .i64 e) := (blk_cell hh 5).trans rfl
  have h5f := blk_frozen hh 5
  have HG := Lib.hid hg
  have HH := Lib.hid hh
  clear hg hh
  go_enter Tryd.func30, Tryd.ntmps30
  go_wp2
  go_step3
  go_wp2
  rw [Exit.noGoto_ret]
  refine bodyPost_ret (results_none rfl _ _ _) rfl ?_
  exact ⟨rfl, (by with_reducible repeat (first | exact Two.refl _ _ _ | exact HT.out | refine Two.drew ?_ | refine Two.drewN ?_ _ | refine Two.set ?_ _ _ (.inl rfl) | refine Two.set ?_ _ _ (.inr rfl))), (by apply blk_to; (repeat (first | (with_reducible exact HG.out) | (with_reducible apply blk_drew) | (with_reducible apply blk_drewN) | apply blk_set | apply blk_farL hne | apply blk_farL hne.symm)); rfl), (by apply blk_to; (repeat (first | (with_reducible exact HH.out) | (with_reducible apply blk_drew) | (with_reducible apply blk_drewN) | apply blk_set | apply blk_farL hne | apply blk_farL hne.symm)); rfl)⟩

set_option maxHeartbeats 4000000 in
theorem pop_oo (g h : Nat) (S : Value) (tp bt : Int) (s : Bool) (k : Int) (t b n e : Int) (c0 : ¬ k = 0) (c1 : ¬ k = 1) (c2 : ¬ k = 2) (c : ¬ k = 4) (w : World) (hg : w.heap[g]? = some (.cells (qCells S tp bt) 24 (0, 0))) (hh : w.heap[h]? = some (.cells (tCells s k t b n e) 27 (0, 0))) :
    Calls Tryd.prog 30 #[.pointer (some ⟨g, 0, none⟩), .pointer (some ⟨h, 0, none⟩)] w fun en w' => en = .returned (.tuple #[]) ∧ Two g h w w' ∧ w'.heap[g]? = some (.cells (qCells S (tp) (wrap64 (b + 1))) 24 (0, 0)) ∧ w'.heap[h]? = some (.cells (tCells s (k) (t) (b) (n) (2)) 27 (0, 0)) := by
  have hne := blk_ne hg hh (by decide)
  have k0 : (k == 0) = false := by simpa using c0
  have k1 : (k == 1) = false := by simpa using c1
  have k2 : (k == 2) = false := by simpa using c2
  have k4 : (k == 4) = false := by simp [c]
  clear c c0 c1 c2
  have g2 : w.cell? ⟨g, 2, none⟩ = some (.int .i64 bt) := (blk_cell hg 2).trans rfl
  have g2f := blk_frozen hg 2
  have h1 : w.cell? ⟨h, 1, none⟩ = some (.int .i64 (k)) := (blk_cell hh 1).trans rfl
  have h3 : w.cell? ⟨h, 3, none⟩ = some (.int .i64 b) := (blk_cell hh 3).trans rfl
  have h5 : w.cell? ⟨h, 5, none⟩ = some (.int .i64 e) := (blk_cell hh 5).trans rfl
  have h5f := blk_frozen hh 5
  have HG := Lib.hid hg
  have HH := Lib.hid hh
  clear hg hh
  go_enter Tryd.func30, Tryd.ntmps30
  go_wp2
  go_step3
  go_wp2
  rw [Exit.noGoto_ret]
  refine bodyPost_ret (results_none rfl _ _ _) rfl ?_
  exact ⟨rfl, (by with_reducible repeat (first | exact Two.refl _ _ _ | exact HT.out | refine Two.drew ?_ | refine Two.drewN ?_ _ | refine Two.set ?_ _ _ (.inl rfl) | refine Two.set ?_ _ _ (.inr rfl))), (by apply blk_to; (repeat (first | (with_reducible exact HG.out) | (with_reducible apply blk_drew) | (with_reducible apply blk_drewN) | apply blk_set | apply blk_farL hne | apply blk_farL hne.symm)); rfl), (by apply blk_to; (repeat (first | (with_reducible exact HH.out) | (with_reducible apply blk_drew) | (with_reducible apply blk_drewN) | apply blk_set | apply blk_farL hne | apply blk_farL hne.symm)); rfl)⟩

theorem R_two {g h : Nat} {w w' : World} {cg ch : Array Value} {base : Nat} {ok : Nat → Prop} {v : Value} {xs : List Int} (x : Two g h w w') (hg : w.heap[g]? = some (.cells cg 24 (0, 0))) (hh : w.heap[h]? = some (.cells ch 27 (0, 0)))
    (r : Kd.R (Kd.int .i64) 3 w base ok v xs) : Kd.R (Kd.int .i64) 3 w' base ok v xs :=
  Kd.R_mono (Kd.R_step (Kd.R_types (Kd.R_types r hg (by decide)) hh (by decide)) (fun k hk hlt => x.block k hlt hk.1.2 hk.2)) (fun _ hk => hk.1.1)

-- BREAK
set_option maxHeartbeats 8000000 in
theorem steal_2 (g h : Nat) (base : Nat) (ok : Nat → Prop) (A : Option Addr) (cp : Nat) (l : List Int) (p : Int) (tp bt : Int) (s : Bool) (t b n e : Int) (hp : deque_place.f l tp bt t = some p) (hp0 : 0 ≤ p) (hp1 : p < l.length) (w : World) (hg : w.heap[g]? = some (.cells (qCells (.slice A l.length cp) tp bt) 24 (0, 0))) (hh : w.heap[h]? = some (.cells (tCells s 2 t b n e) 27 (0, 0))) (hR : Kd.R (Kd.int .i64) 3 w base ok (.slice A l.length cp) l) :
    Calls Tryd.prog 29 #[.pointer (some ⟨g, 0, none⟩), .pointer (some ⟨h, 0, none⟩)] w fun en w' => en = .returned (.tuple #[]) ∧ Two g h w w' ∧ w'.heap[g]? = some (.cells (qCells (.slice A l.length cp) (tp) (bt)) 24 (0, 0)) ∧ w'.heap[h]? = some (.cells (tCells s (3) (t) (b) (rd l p) (e)) 27 (0, 0)) := by
  have hne := blk_ne hg hh (by decide)
  have i1 : decide (0 ≤ p) = true := decide_eq_true hp0
  have i2 : decide (p < (l.length : Int)) = true := decide_eq_true hp1
  have i3 := Lib.hid hp0
  have i4 := Lib.hid hp1
  have HP := Lib.hid hp
  have HR := Lib.hid hR
  have HG := Lib.hid hg
  have HH := Lib.hid hh
  clear hp hR
  have HT := Lib.hid (Two.refl g h w)
  have h1 : w.cell? ⟨h, 1, none⟩ = some (.int .i64 2) := (blk_cell hh 1).trans rfl
  clear hg hh
  go_enter Tryd.func29, Tryd.ntmps29
  go_wp2
  apply wp_scope_at 2 (by rfl)
  · go_wp2
    go_step3
    exact ⟨rfl, rfl, rfl⟩
  · skip
    try go_wp2
    clear h1
    obtain ⟨-, hc, hC⟩ := Kd.R_reads' HR.out
    obtain ⟨ad, rfl, hx⟩ := Kd.at_int hC p i3.out i4.out
    have HC := Lib.hid hC
    have Hc := Lib.hid hc
    have HX := Lib.hid hx
    clear hC hc
    have g0 : w.cell? ⟨g, 0, none⟩ = some (.slice (some ad) l.length cp) := (blk_cell HG.out 0).trans rfl
    have g1 : w.cell? ⟨g, 1, none⟩ = some (.int .i64 (tp)) := (blk_cell HG.out 1).trans rfl
    have g2 : w.cell? ⟨g, 2, none⟩ = some (.int .i64 bt) := (blk_cell HG.out 2).trans rfl
    have h2 : w.cell? ⟨h, 2, none⟩ = some (.int .i64 (t)) := (blk_cell HH.out 2).trans rfl
    go_region_with (go_at_call 33; refine Calls.mono (deque_place.calls (some ad) cp l tp bt t p _ ?_ ?_ HP.out) ?_; (repeat (first | exact HC.out | refine Kd.C_drew ?_ | refine Kd.C_drewN ?_ _)); exact Hc.out; rintro e1 w9 ⟨rfl, hb⟩; have H1 := Lib.hid (show Below w.heap.size w w9 from below_step (by repeat (first | exact Below.refl _ _ | apply below_drew1 | apply pw_below_drewN)) hb); clear hb; have HT9 := Lib.hid (Two.trans HT.out (Two.of_below H1.out)); have HG9 := Lib.hid (blk_below HG.out H1.out); have HH9 := Lib.hid (blk_below HH.out H1.out); have g0' : w9.cell? ⟨g, 0, none⟩ = some (.slice (some ad) l.length cp) := (blk_cell HG9.out 0).trans rfl; have hx' : w9.cell? (ad.add p.toNat) = some (.int .i64 (rd l p)) := (H1.out.cell (World.block_lt_of_cell? w _ HX.out)).trans HX.out; have h1' : w9.cell? ⟨h, 1, none⟩ = some (.int .i64 (2)) := (blk_cell HH9.out 1).trans rfl; have h1f' := blk_frozen HH9.out 1; have h4' : w9.cell? ⟨h, 4, none⟩ = some (.int .i64 (n)) := (blk_cell HH9.out 4).trans rfl; have h4f' := blk_frozen HH9.out 4)
    all_goals (rw [Exit.noGoto_normal]; refine bodyPost_end (results_none rfl _ _ _) rfl ?_; exact ⟨rfl, (by with_reducible repeat (first | exact Two.refl _ _ _ | exact HT9.out | refine Two.drew ?_ | refine Two.drewN ?_ _ | refine Two.set ?_ _ _ (.inl rfl) | refine Two.set ?_ _ _ (.inr rfl))), (by apply blk_to; (repeat (first | (with_reducible exact HG9.out) | (with_reducible apply blk_drew) | (with_reducible apply blk_drewN) | apply blk_set | apply blk_farL hne | apply blk_farL hne.symm)); rfl), (by apply blk_to; (repeat (first | (with_reducible exact HH9.out) | (with_reducible apply blk_drew) | (with_reducible apply blk_drewN) | apply blk_set | apply blk_farL hne | apply blk_farL hne.symm)); rfl)⟩)

-- BREAK
set_option maxHeartbeats 8000000 in
theorem pop_1l (g h : Nat) (base : Nat) (ok : Nat → Prop) (A : Option Addr) (cp : Nat) (l : List Int) (p : Int) (tp bt : Int) (s : Bool) (t b n e : Int) (c : tp < b) (hp : deque_place.f l tp bt b = some p) (hp0 : 0 ≤ p) (hp1 : p < l.length) (w : World) (hg : w.heap[g]? = some (.cells (qCells (.slice A l.length cp) tp bt) 24 (0, 0))) (hh : w.heap[h]? = some (.cells (tCells s 1 t b n e) 27 (0, 0))) (hR : Kd.R (Kd.int .i64) 3 w base ok (.slice A l.length cp) l) :
    Calls Tryd.prog 30 #[.pointer (some ⟨g, 0, none⟩), .pointer (some ⟨h, 0, none⟩)] w fun en w' => en = .returned (.tuple #[]) ∧ Two g h w w' ∧ w'.heap[g]? = some (.cells (qCells (.slice A l.length cp) (tp) (bt)) 24 (0, 0)) ∧ w'.heap[h]? = some (.cells (tCells s (1) (tp) (b) (rd l p) (1)) 27 (0, 0)) := by
  have hne := blk_ne hg hh (by decide)
  have i1 : decide (0 ≤ p) = true := decide_eq_true hp0
  have i2 : decide (p < (l.length : Int)) = true := decide_eq_true hp1
  have i3 := Lib.hid hp0
  have i4 := Lib.hid hp1
  have HP := Lib.hid hp
  have HR := Lib.hid hR
  have HG := Lib.hid hg
  have HH := Lib.hid hh
  clear hp hR
  have HT := Lib.hid (Two.refl g h w)
  have cb : decide (tp < b) = true := decide_eq_true c
  clear c
  have h1 : w.cell? ⟨h, 1, none⟩ = some (.int .i64 1) := (blk_cell hh 1).trans rfl
  have g1 : w.cell? ⟨g, 1, none⟩ = some (.int .i64 tp) := (blk_cell hg 1).trans rfl
  have h2 : w.cell? ⟨h, 2, none⟩ = some (.int .i64 t) := (blk_cell hh 2).trans rfl
  have h2f := blk_frozen hh 2
  clear hg hh
  go_enter Tryd.func30, Tryd.ntmps30
  go_wp2
  apply wp_scope_at 1 (by rfl)
  · go_wp2
    go_step3
    exact ⟨rfl, rfl, rfl⟩
  · skip
    go_wp2
    refine wp_gen (fun w' => Two g h w w' ∧ w'.heap[g]? = some (.cells (qCells (.slice A l.length cp) (tp) (bt)) 24 (0, 0)) ∧ w'.heap[h]? = some (.cells (tCells s (1) (tp) (b) (n) (e)) 27 (0, 0))) ⟨(by with_reducible repeat (first | exact Two.refl _ _ _ | exact HT.out | refine Two.drew ?_ | refine Two.drewN ?_ _ | refine Two.set ?_ _ _ (.inl rfl) | refine Two.set ?_ _ _ (.inr rfl))), (by apply blk_to; (repeat (first | (with_reducible exact HG.out) | (with_reducible apply blk_drew) | (with_reducible apply blk_drewN) | apply blk_set | apply blk_farL hne | apply blk_farL hne.symm)); rfl), (by apply blk_to; (repeat (first | (with_reducible exact HH.out) | (with_reducible apply blk_drew) | (with_reducible apply blk_drewN) | apply blk_set | apply blk_farL hne | apply blk_farL hne.symm)); rfl)⟩ ?_
    clear g1 h1 h2 h2f
    rintro w1 ⟨ht1, hg1, hh1⟩
    have HR1 := Lib.hid (R_two ht1 HG.out HH.out HR.out)
    clear HT HG HH HR
    have HT := Lib.hid ht1
    have HG := Lib.hid hg1
    have HH := Lib.hid hh1
    have HR := Lib.hid HR1.out
    clear ht1 hg1 hh1 HR1
    have h2 : w1.cell? ⟨h, 2, none⟩ = some (.int .i64 tp) := (blk_cell HH.out 2).trans rfl
    have h3 : w1.cell? ⟨h, 3, none⟩ = some (.int .i64 b) := (blk_cell HH.out 3).trans rfl
    go_region
    go_wp2
    clear h2 h3
    obtain ⟨-, hc, hC⟩ := Kd.R_reads' HR.out
    obtain ⟨ad, rfl, hx⟩ := Kd.at_int hC p i3.out i4.out
    have HC := Lib.hid hC
    have Hc := Lib.hid hc
    have HX := Lib.hid hx
    clear hC hc
    have g0 : w1.cell? ⟨g, 0, none⟩ = some (.slice (some ad) l.length cp) := (blk_cell HG.out 0).trans rfl
    have g1 : w1.cell? ⟨g, 1, none⟩ = some (.int .i64 (tp)) := (blk_cell HG.out 1).trans rfl
    have g2 : w1.cell? ⟨g, 2, none⟩ = some (.int .i64 bt) := (blk_cell HG.out 2).trans rfl
    have h3 : w1.cell? ⟨h, 3, none⟩ = some (.int .i64 (b)) := (blk_cell HH.out 3).trans rfl
    go_region_with (go_at_call 33; refine Calls.mono (deque_place.calls (some ad) cp l tp bt b p _ ?_ ?_ HP.out) ?_; (repeat (first | exact HC.out | refine Kd.C_drew ?_ | refine Kd.C_drewN ?_ _)); exact Hc.out; rintro e1 w9 ⟨rfl, hb⟩; have H1 := Lib.hid (show Below w1.heap.size w1 w9 from below_step (by repeat (first | exact Below.refl _ _ | apply below_drew1 | apply pw_below_drewN)) hb); clear hb; have HT9 := Lib.hid (Two.trans HT.out (Two.of_below H1.out)); have HG9 := Lib.hid (blk_below HG.out H1.out); have HH9 := Lib.hid (blk_below HH.out H1.out); have g0' : w9.cell? ⟨g, 0, none⟩ = some (.slice (some ad) l.length cp) := (blk_cell HG9.out 0).trans rfl; have hx' : w9.cell? (ad.add p.toNat) = some (.int .i64 (rd l p)) := (H1.out.cell (World.block_lt_of_cell? w1 _ HX.out)).trans HX.out; have h4' : w9.cell? ⟨h, 4, none⟩ = some (.int .i64 (n)) := (blk_cell HH9.out 4).trans rfl; have h4f' := blk_frozen HH9.out 4; have h5' : w9.cell? ⟨h, 5, none⟩ = some (.int .i64 (e)) := (blk_cell HH9.out 5).trans rfl; have h5f' := blk_frozen HH9.out 5)
    all_goals go_wp2
    all_goals (rw [Exit.noGoto_ret]; refine bodyPost_ret (results_none rfl _ _ _) rfl ?_; exact ⟨rfl, (by with_reducible repeat (first | exact Two.refl _ _ _ | exact HT9.out | refine Two.drew ?_ | refine Two.drewN ?_ _ | refine Two.set ?_ _ _ (.inl rfl) | refine Two.set ?_ _ _ (.inr rfl))), (by apply blk_to; (repeat (first | (with_reducible exact HG9.out) | (with_reducible apply blk_drew) | (with_reducible apply blk_drewN) | apply blk_set | apply blk_farL hne | apply blk_farL hne.symm)); rfl), (by apply blk_to; (repeat (first | (with_reducible exact HH9.out) | (with_reducible apply blk_drew) | (with_reducible apply blk_drewN) | apply blk_set | apply blk_farL hne | apply blk_farL hne.symm)); rfl)⟩)

-- BREAK
set_option maxHeartbeats 8000000 in
theorem pop_2y (g h : Nat) (base : Nat) (ok : Nat → Prop) (A : Option Addr) (cp : Nat) (l : List Int) (p : Int) (tp bt : Int) (s : Bool) (t b n e : Int) (c : tp = t) (tp2 : Int) (e2 : wrap64 (tp + 1) = tp2) (hp : deque_place.f l tp2 bt b = some p) (hp0 : 0 ≤ p) (hp1 : p < l.length) (w : World) (hg : w.heap[g]? = some (.cells (qCells (.slice A l.length cp) tp bt) 24 (0, 0))) (hh : w.heap[h]? = some (.cells (tCells s 2 t b n e) 27 (0, 0))) (hR : Kd.R (Kd.int .i64) 3 w base ok (.slice A l.length cp) l) :
    Calls Tryd.prog 30 #[.pointer (some ⟨g, 0, none⟩), .pointer (some ⟨h, 0, none⟩)] w fun en w' => en = .returned (.tuple #[]) ∧ Two g h w w' ∧ w'.heap[g]? = some (.cells (qCells (.slice A l.length cp) (tp2) (bt)) 24 (0, 0)) ∧ w'.heap[h]? = some (.cells (tCells s (4) (t) (b) (rd l p) (e)) 27 (0, 0)) := by
  have hne := blk_ne hg hh (by decide)
  have i1 : decide (0 ≤ p) = true := decide_eq_true hp0
  have i2 : decide (p < (l.length : Int)) = true := decide_eq_true hp1
  have i3 := Lib.hid hp0
  have i4 := Lib.hid hp1
  have HP := Lib.hid hp
  have HR := Lib.hid hR
  have HG := Lib.hid hg
  have HH := Lib.hid hh
  clear hp hR
  have HT := Lib.hid (Two.refl g h w)
  have HE := Lib.hid e2
  clear e2
  have HCC := Lib.hid c
  clear c
  have h1 : w.cell? ⟨h, 1, none⟩ = some (.int .i64 2) := (blk_cell hh 1).trans rfl
  have h1f := blk_frozen hh 1
  clear hg hh
  go_enter Tryd.func30, Tryd.ntmps30
  go_wp2
  apply wp_scope_at 2 (by rfl)
  · go_wp2
    go_step3
    exact ⟨rfl, rfl, rfl⟩
  · skip
    go_wp2_with (first | (go_at_call 41; refine Calls.mono (swap_yes g h (.slice A l.length cp) tp bt s 3 t b n e HCC.out _ ?_ ?_) ?_; exact (by apply blk_to; (repeat (first | (with_reducible exact HG.out) | (with_reducible apply blk_drew) | (with_reducible apply blk_drewN) | apply blk_set | apply blk_farL hne | apply blk_farL hne.symm)); rfl); exact (by apply blk_to; (repeat (first | (with_reducible exact HH.out) | (with_reducible apply blk_drew) | (with_reducible apply blk_drewN) | apply blk_set | apply blk_farL hne | apply blk_farL hne.symm)); rfl); rintro e1 w1 ⟨rfl, ht1, hg1, hh1⟩; rw [HE.out] at hg1; have HT1 := Lib.hid (show Two g h w w1 from Two.trans (by with_reducible repeat (first | exact Two.refl _ _ _ | exact HT.out | refine Two.drew ?_ | refine Two.drewN ?_ _ | refine Two.set ?_ _ _ (.inl rfl) | refine Two.set ?_ _ _ (.inr rfl))) ht1); have HR1 := Lib.hid (R_two HT1.out HG.out HH.out HR.out); clear HG HH HT HR h1 h1f ht1; have HT := Lib.hid HT1.out; have HR := Lib.hid HR1.out; have HG := Lib.hid hg1; have HH := Lib.hid hh1; clear hg1 hh1 HT1 HR1))
    obtain ⟨-, hc, hC⟩ := Kd.R_reads' HR.out
    obtain ⟨ad, rfl, hx⟩ := Kd.at_int hC p i3.out i4.out
    have HC := Lib.hid hC
    have Hc := Lib.hid hc
    have HX := Lib.hid hx
    clear hC hc
    have g0 : w1.cell? ⟨g, 0, none⟩ = some (.slice (some ad) l.length cp) := (blk_cell HG.out 0).trans rfl
    have g1 : w1.cell? ⟨g, 1, none⟩ = some (.int .i64 (tp2)) := (blk_cell HG.out 1).trans rfl
    have g2 : w1.cell? ⟨g, 2, none⟩ = some (.int .i64 bt) := (blk_cell HG.out 2).trans rfl
    have h3 : w1.cell? ⟨h, 3, none⟩ = some (.int .i64 (b)) := (blk_cell HH.out 3).trans rfl
    go_region_with (go_at_call 33; refine Calls.mono (deque_place.calls (some ad) cp l tp2 bt b p _ ?_ ?_ HP.out) ?_; (repeat (first | exact HC.out | refine Kd.C_drew ?_ | refine Kd.C_drewN ?_ _)); exact Hc.out; rintro e1 w9 ⟨rfl, hb⟩; have H1 := Lib.hid (show Below w1.heap.size w1 w9 from below_step (by repeat (first | exact Below.refl _ _ | apply below_drew1 | apply pw_below_drewN)) hb); clear hb; have HT9 := Lib.hid (Two.trans HT.out (Two.of_below H1.out)); have HG9 := Lib.hid (blk_below HG.out H1.out); have HH9 := Lib.hid (blk_below HH.out H1.out); have g0' : w9.cell? ⟨g, 0, none⟩ = some (.slice (some ad) l.length cp) := (blk_cell HG9.out 0).trans rfl; have hx' : w9.cell? (ad.add p.toNat) = some (.int .i64 (rd l p)) := (H1.out.cell (World.block_lt_of_cell? w1 _ HX.out)).trans HX.out; have h1' : w9.cell? ⟨h, 1, none⟩ = some (.int .i64 (3)) := (blk_cell HH9.out 1).trans rfl; have h1f' := blk_frozen HH9.out 1; have h4' : w9.cell? ⟨h, 4, none⟩ = some (.int .i64 (n)) := (blk_cell HH9.out 4).trans rfl; have h4f' := blk_frozen HH9.out 4)
    all_goals (rw [Exit.noGoto_normal]; refine bodyPost_end (results_none rfl _ _ _) rfl ?_; exact ⟨rfl, (by with_reducible repeat (first | exact Two.refl _ _ _ | exact HT9.out | refine Two.drew ?_ | refine Two.drewN ?_ _ | refine Two.set ?_ _ _ (.inl rfl) | refine Two.set ?_ _ _ (.inr rfl))), (by apply blk_to; (repeat (first | (with_reducible exact HG9.out) | (with_reducible apply blk_drew) | (with_reducible apply blk_drewN) | apply blk_set | apply blk_farL hne | apply blk_farL hne.symm)); rfl), (by apply blk_to; (repeat (first | (with_reducible exact HH9.out) | (with_reducible apply blk_drew) | (with_reducible apply blk_drewN) | apply blk_set | apply blk_farL hne | apply blk_farL hne.symm)); rfl)⟩)

-- BREAK
set_option maxHeartbeats 4000000 in
theorem pop_2n (g h : Nat) (S : Value) (tp bt : Int) (s : Bool) (t b n e : Int) (c : ¬ tp = t) (w : World) (hg : w.heap[g]? = some (.cells (qCells S tp bt) 24 (0, 0))) (hh : w.heap[h]? = some (.cells (tCells s 2 t b n e) 27 (0, 0))) :
    Calls Tryd.prog 30 #[.pointer (some ⟨g, 0, none⟩), .pointer (some ⟨h, 0, none⟩)] w fun en w' => en = .returned (.tuple #[]) ∧ Two g h w w' ∧ w'.heap[g]? = some (.cells (qCells S (tp) (bt)) 24 (0, 0)) ∧ w'.heap[h]? = some (.cells (tCells s (3) (t) (b) (n) (e)) 27 (0, 0)) := by
  have hne := blk_ne hg hh (by decide)
  have HT := Lib.hid (Two.refl g h w)
  have HG := Lib.hid hg
  have HH := Lib.hid hh
  have HCC := Lib.hid c
  clear c
  have h1 : w.cell? ⟨h, 1, none⟩ = some (.int .i64 2) := (blk_cell hh 1).trans rfl
  have h1f := blk_frozen hh 1
  clear hg hh
  go_enter Tryd.func30, Tryd.ntmps30
  go_wp2
  apply wp_scope_at 2 (by rfl)
  · go_wp2
    go_step3
    exact ⟨rfl, rfl, rfl⟩
  · skip
    go_wp2_with (first | (go_at_call 41; refine Calls.mono (swap_no g h S tp bt s 3 t b n e HCC.out _ ?_ ?_) ?_; exact (by apply blk_to; (repeat (first | (with_reducible exact HG.out) | (with_reducible apply blk_drew) | (with_reducible apply blk_drewN) | apply blk_set | apply blk_farL hne | apply blk_farL hne.symm)); rfl); exact (by apply blk_to; (repeat (first | (with_reducible exact HH.out) | (with_reducible apply blk_drew) | (with_reducible apply blk_drewN) | apply blk_set | apply blk_farL hne | apply blk_farL hne.symm)); rfl); rintro e1 w1 ⟨rfl, ht1, hg1, hh1⟩; have HT1 := Lib.hid (show Two g h w w1 from Two.trans (by with_reducible repeat (first | exact Two.refl _ _ _ | exact HT.out | refine Two.drew ?_ | refine Two.drewN ?_ _ | refine Two.set ?_ _ _ (.inl rfl) | refine Two.set ?_ _ _ (.inr rfl))) ht1); clear HG HH HT h1 h1f ht1; have HT := Lib.hid HT1.out; have HG := Lib.hid hg1; have HH := Lib.hid hh1; clear hg1 hh1 HT1))
    rw [Exit.noGoto_normal]
    refine bodyPost_end (results_none rfl _ _ _) rfl ?_
    exact ⟨rfl, (by with_reducible repeat (first | exact Two.refl _ _ _ | exact HT.out | refine Two.drew ?_ | refine Two.drewN ?_ _ | refine Two.set ?_ _ _ (.inl rfl) | refine Two.set ?_ _ _ (.inr rfl))), (by apply blk_to; (repeat (first | (with_reducible exact HG.out) | (with_reducible apply blk_drew) | (with_reducible apply blk_drewN) | apply blk_set | apply blk_farL hne | apply blk_farL hne.symm)); rfl), (by apply blk_to; (repeat (first | (with_reducible exact HH.out) | (with_reducible apply blk_drew) | (with_reducible apply blk_drewN) | apply blk_set | apply blk_farL hne | apply blk_farL hne.symm)); rfl)⟩

end Go.Proofs.YtdmgigicbppjkaaDoor.Q
