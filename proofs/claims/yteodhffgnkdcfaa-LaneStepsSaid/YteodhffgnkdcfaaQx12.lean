import Derived.Test.YteodhffgnkdcfaaQx0
import Derived.Test.YteodhffgnkdcfaaQx9
namespace Go.Proofs.Yteodhffgnkdcfaa.Q
open Go.RowKit Go.Proofs.YteodhffgnkdcfaaW.PrintWords Go.Proofs.YteodhffgnkdcfaaW.PrintLast Go.Proofs.YteodhffgnkdcfaaW.PrintMore
attribute [local go_sem] max2_int min2_int max_two min_two max_three min_three max_four min_four
set_option linter.unusedVariables false
set_option linter.unusedSimpArgs false
theorem Kd.step_append_run_ {P : Program} {ops : Array Oper} {o : Oper} {a : Act} {w : World} {K : Act → World → Prop} {Q : Exit → Act → World → Prop} {E : Prop}
    (hg : o.guard = none) (d x : Operand) (dT sT : TypeId) (hop : o.op = Op.call { callee := Callee.builtin Builtin.append, args := #[d, x], argTypes := #[dT, sT] })
    (v u : Value) (hd : a.eval d = v) (hx : a.eval x = u) {v' : Value} {w' : World} (hr : (Builtin.append_ #[dT, sT] o.type #[v, u]).run P w = .ok v' w') (hK : K (a.put o.dst v') w') :
    if Region.wanted o (yielded ops a.tmps) = true then Oper.wp P o a w K Q else E := by
  have hw : Region.wanted o (yielded ops a.tmps) = true := by simp [Region.wanted, hg]
  rw [if_pos hw]
  unfold Oper.wp
  simp [execOp, hop, resolve, invoke, builtin, hd, hx, hr, Result.andThen]
  exact hK
theorem wpList_clear_run {P : Program} (w : World) {ops : Array Oper} {rest : List Oper} {o : Oper} {a : Act} {Q : Exit → Act → World → Prop} (hgd : o.guard = none) (d : Operand) (t : TypeId)
    (ho : o.op = .call { callee := .builtin .clear, args := #[d], argTypes := #[t] }) (v : Value) (hd : a.eval d = v) {v' : Value} {w' : World}
    (hr : (Builtin.clear_ #[t] o.type #[v]).run P w = .ok v' w') (h : wpList P ops Q rest (a.put o.dst v') w') : wpList P ops Q (o :: rest) a w :=
  wpList_plain hgd fun K hK => by
    unfold Oper.wp execOp
    simp only [ho, resolve, invoke, builtin, Sem.run_bind, Sem.run_pure, Result.andThen_ok, List.map_toArray, List.map_cons, List.map_nil, hd, hr]
    exact hK _ _ h
theorem run_clear_one {P : Program} (w : World) (t e ty : TypeId) (g o c : Nat) (cur : Array Value) (te : TypeId) (z : Value) (ht : P.underlying t = some (.slice e)) (hv : ∀ w, (zeroValue e).run P w = .ok z w) (hz : z.cells.size = 3) (h1 : ∀ u ∈ (Builtin.zeroCells z.cells 1).toList, u.oneCell' = true)
    (hg : w.heap[g]? = some (.cells cur te (0, 0))) (hfit : o + 3 ≤ cur.size) :
    (Builtin.clear_ #[t] ty #[.slice (some ⟨g, o, none⟩) 1 c]).run P w = .ok (.tuple #[]) (w.setRow g (cur.toList.take o ++ (Builtin.zeroCells z.cells 1).toList ++ cur.toList.drop (o + 3)).toArray) := by
  have hl : (Builtin.zeroCells z.cells 1).toList.length = 3 := by rw [Array.length_toList, size_zeroCells, hz]
  have hst := run_storeCells_at P g o te (Builtin.zeroCells z.cells 1).toList 0 cur w hg (by rw [hl]; simpa using hfit) h1
  rw [hl] at hst
  simp only [Nat.add_zero] at hst
  simp [Builtin.clear_, run_underlying ht, hv, hst]
theorem zero3_cells : (Builtin.zeroCells (Value.agg #[.int .i64 0, .int .i64 0, .slice none 0 0]).cells 1).toList = [.int .i64 0, .int .i64 0, .slice none 0 0] := by
  simp [Builtin.zeroCells, Value.cells, List.range_succ]
set_option maxHeartbeats 8000000 in
set_option maxRecDepth 100000 in
theorem delJob_calls (g cap n at_ base : Nat) (w0 w : World) (rows : List (List Value)) (hR : (Kd.raw 3).R 27 w base (fun _ => True) (.slice (some ⟨g, 0, none⟩) n cap) rows) (hB : Below base w0 w) (hbase : base ≤ w.heap.size) (hat : at_ < n) :
    Calls Try.prog 45 #[.slice (some ⟨g, 0, none⟩) n cap, .int .i64 at_, .int .i64 ((at_ : Int) + 1)] w fun e w' => e = .returned (.slice (some ⟨g, 0, none⟩) (n - 1) cap) ∧ (Kd.raw 3).R 27 w' base (fun _ => True) (.slice (some ⟨g, 0, none⟩) (n - 1) cap) (rows.eraseIdx at_) ∧ Below base w0 w' ∧ w.grownBy w' (some g) := by
  have hn := (Kd.R_reads' hR).1
  have hcap := (Kd.R_reads' hR).2.1
  obtain ⟨-, rest, h3⟩ := row3_of_R hR
  have hmx : cap ≤ 9223372036854775807 := by have := h3.max; unfold maxLen at this; exact this
  obtain ⟨i0, hi0, hzz⟩ := Option.map_eq_some_iff.1 info27
  simp only [Prod.mk.injEq] at hzz
  obtain ⟨hz0, hzs, hzb⟩ := hzz
  have hdrew : (Kd.raw 3).R 27 w.drew base (fun _ => True) (.slice (some ⟨g, 0, none⟩) n cap) rows := Kd.R_drew hR
  obtain ⟨w1, hr1, hR1, hg1⟩ := Kd.R_delete_run (P := Try.prog) (Kd.raw 3) base 22 22 27 i0 Try.underlying22 hi0 hzs hdrew hat rfl (cap - (at_ + 1))
  have hB1 : Below base w0 w1 := (below_drew hB).grown hg1 hbase (fun k hk => by injection hk with hk; have := h3.lo; omega)
  obtain ⟨hn1, rest1, h31⟩ := row3_of_R hR1
  have hlo := h3.lo
  have hel : (rows.eraseIdx at_).length = n - 1 := by rw [List.length_eraseIdx_of_lt (by omega)]; omega
  have hfl := flat_len h31.ok
  have hll := h31.len
  have hr1l : rest1.length = cap * 3 - (n - 1) * 3 := by rw [List.length_append, hfl, hel] at hll; omega
  have hclr : ∀ ty c, (Builtin.clear_ #[22] ty #[.slice (some ⟨g, (n - 1) * 3, none⟩) 1 c]).run Try.prog w1 = .ok (.tuple #[]) (w1.setRow g (((rows.eraseIdx at_).flatten ++ rest1).take ((n - 1) * 3) ++ (Builtin.zeroCells (Value.agg #[.int .i64 0, .int .i64 0, .slice none 0 0]).cells 1).toList ++ ((rows.eraseIdx at_).flatten ++ rest1).drop ((n - 1) * 3 + 3)).toArray) := fun ty c => by
    have := run_clear_one (P := Try.prog) w1 22 27 ty g ((n - 1) * 3) c _ _ (.agg #[.int .i64 0, .int .i64 0, .slice none 0 0]) Try.underlying22 (fun w => by simp [zeroValue, typeInfo, hi0, hz0]) rfl (by rw [zero3_cells]; simp [Value.oneCell']) h31.blk (by rw [List.size_toArray, hll]; omega)
    rw [List.toList_toArray] at this
    exact this
  obtain ⟨W2, hW2⟩ : ∃ W2, W2 = w1.setRow g (((rows.eraseIdx at_).flatten ++ rest1).take ((n - 1) * 3) ++ (Builtin.zeroCells (Value.agg #[.int .i64 0, .int .i64 0, .slice none 0 0]).cells 1).toList ++ ((rows.eraseIdx at_).flatten ++ rest1).drop ((n - 1) * 3 + 3)).toArray := ⟨_, rfl⟩
  rw [← hW2] at hclr
  have hend : (Kd.raw 3).R 27 W2 base (fun _ => True) (.slice (some ⟨g, 0, none⟩) (n - 1) cap) (rows.eraseIdx at_) ∧ Below base w0 W2 ∧ w.grownBy W2 (some g) := by
    subst hW2
    have ht : ((rows.eraseIdx at_).flatten ++ rest1).take ((n - 1) * 3) = (rows.eraseIdx at_).flatten := by
      rw [List.take_append_of_le_length (by rw [hfl, hel]; exact Nat.le_refl _), List.take_of_length_le (by rw [hfl, hel]; exact Nat.le_refl _)]
    have hz : (Builtin.zeroCells (Value.agg #[.int .i64 0, .int .i64 0, .slice none 0 0]).cells 1).toList.length = 3 := by rw [Array.length_toList, size_zeroCells]; rfl
    rw [ht]
    refine ⟨?_, setRow_below hB1 hlo _, ⟨hg1.os, hg1.tape, hg1.output, ?_, fun k hk hne => (setRow_other w1 g k _ (fun e => hne (by rw [e]))).trans (hg1.block k hk hne)⟩⟩
    · have h4 : Row3 (w1.setRow g ((rows.eraseIdx at_).flatten ++ (Builtin.zeroCells (Value.agg #[.int .i64 0, .int .i64 0, .slice none 0 0]).cells 1).toList ++ ((rows.eraseIdx at_).flatten ++ rest1).drop ((n - 1) * 3 + 3)).toArray) base g cap (rows.eraseIdx at_) ((Builtin.zeroCells (Value.agg #[.int .i64 0, .int .i64 0, .slice none 0 0]).cells 1).toList ++ ((rows.eraseIdx at_).flatten ++ rest1).drop ((n - 1) * 3 + 3)) := by
        refine ⟨hlo, ?_, h31.le, h31.max, ?_, h31.ok⟩
        · rw [← List.append_assoc]; exact setRow_heap w1 g _ _ _ _ h31.blk
        · rw [List.length_append, List.length_append, hz, List.length_drop, hll, hfl, hel]; omega
      have := R_of_row3 h4
      rw [hel] at this
      exact this
    · have := hg1.size
      simpa [World.setRow] using this
  have HE := Lib.hid hend
  have mixed : Try.prog.follows .mixedOrders = true := by kernel_rfl
  have hr1' : (Builtin.append_ #[22, 22] 22 #[.slice (some ⟨g, 0, none⟩) at_ cap, .slice (if cap = at_ + 1 then some ⟨g, 0, none⟩ else some ⟨g, (at_ + 1) * 3, none⟩) (n - (at_ + 1)) (cap - (at_ + 1))]).run Try.prog w.drew = .ok (.slice (some ⟨g, 0, none⟩) (n - 1) cap) w1 := by
    have e : (if cap = at_ + 1 then (some ⟨g, 0, none⟩ : Option Addr) else some ⟨g, (at_ + 1) * 3, none⟩) = if cap = at_ + 1 then some ⟨g, 0, none⟩ else (some (⟨g, 0, none⟩ : Addr)).map (·.add ((at_ + 1) * (Kd.raw 3).sz)) := by
      split
      · rfl
      · show _ = some ((⟨g, 0, none⟩ : Addr).add ((at_ + 1) * 3))
        rw [Addr.add_mid, Nat.zero_add]
    rw [e]
    exact hr1
  clear hr1 hR1 hg1 hn1 h31 h3 hend hW2 hi0 hz0 hzs hzb hdrew hR hB hB1 hfl hll hr1l hel hlo hn hbase
  have hz2 : ¬ ((at_ : Int) = (at_ : Int) + 1) := by omega
  have hz2b : ((at_ : Int) == (at_ : Int) + 1) = false := by simp; omega
  have hw1 : IntKind.i64.wrap ((at_ : Int) + 1) = (at_ : Int) + 1 := by rw [IntKind.wrap_i64]; omega
  have hb1 : (0 : Int) ≤ (at_ : Int) + 1 := by omega
  have hb2 : (at_ : Int) ≤ (at_ : Int) + 1 := by omega
  have hb3 : (at_ : Int) + 1 ≤ (n : Int) := by omega
  have hb3b : (at_ : Int) ≤ (n : Int) := by omega
  have hb4 : (n : Int) ≤ (cap : Int) := by omega
  have hb5 : (at_ : Int) ≤ (cap : Int) := by omega
  have htn : ((at_ : Int) + 1).toNat = at_ + 1 := by omega
  have hs1 : n - 1 ≤ n := by omega
  have hs2 : ((n - 1 : Nat) : Int) ≤ (n : Int) := by omega
  have hs3 : ¬ (cap = n - 1) := by omega
  have hs4 : n - (n - 1) = 1 := by omega
  have hat1 : at_ ≤ n := by omega
  have hat2 : at_ + 1 ≤ n := by omega
  have hat3 : at_ ≤ cap := by omega
  by_cases hc : cap = at_ + 1
  · subst hc
    rw [if_pos rfl, Nat.sub_self] at hr1'
    go_enter Try.func45, Try.ntmps45
    go_wp2
    go_region_law_o (refine Kd.step_append_run_ rfl _ _ 22 22 rfl (.slice (some ⟨g, 0, none⟩) at_ (at_ + 1)) (.slice (some ⟨g, 0, none⟩) (n - (at_ + 1)) 0) (by simp [Act.eval, Act.put]) (by simp [Act.eval, Act.put] <;> omega) hr1' ?_)
    go_wp2_with (refine wpList_clear_run _ rfl _ 22 rfl _ rfl (hclr _ _) ?_)
    go_ret
    exact ⟨rfl, HE.out⟩
  · rw [if_neg hc] at hr1'
    go_enter Try.func45, Try.ntmps45
    go_wp2
    go_region_law_o (refine Kd.step_append_run_ rfl _ _ 22 22 rfl (.slice (some ⟨g, 0, none⟩) at_ cap) (.slice (some ⟨g, (at_ + 1) * 3, none⟩) (n - (at_ + 1)) (cap - (at_ + 1))) (by simp [Act.eval, Act.put]) (by simp [Act.eval, Act.put]) hr1' ?_)
    go_wp2_with (refine wpList_clear_run _ rfl _ 22 rfl _ rfl (hclr _ _) ?_)
    go_ret
    exact ⟨rfl, HE.out⟩
end Go.Proofs.Yteodhffgnkdcfaa.Q
