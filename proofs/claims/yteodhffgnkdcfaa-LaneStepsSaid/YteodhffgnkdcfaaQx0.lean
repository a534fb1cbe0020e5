import Derived.Test.YteodhffgnkdcfaaProg
import Derived.Below
import Derived.Deep.Draws
import Derived.Deep.AppendLies
import Derived.Maps.AppendAt
import Derived.OwnWalk
import Derived.Laws.BytesArg
import Derived.Laws.MakeOwn
import Derived.Laws.OwnMore
import Derived.Deep.OwnRows
import Derived.Tactics
import Derived.Lib.ConvBytes
import Derived.Laws.Slices
import Derived.WalkKit
import Derived.KernelRfl
import Derived.RowKit3
import Derived.Deep.LoopGhost
import Derived.Deep.QuietTactic
import Derived.BigQuiet
import Derived.WideLaws
import Derived.Deep.DeepCutAuto
import Derived.Deep.CutBlock
import Derived.Deep.RegionHeld3
import Derived.Laws.Rows
import Derived.Lib.AppendStr
import Derived.ArgAppend
import Derived.Laws.IdiomCopy
import Derived.OrdersHeld
import Derived.Laws.BitsLemmas
import Derived.RowKit
import Derived.Lib.Hide
import Derived.WalkMore
import Derived.Shelf.RegionOpenPlain
import Derived.Lib.AppendZeros
import Derived.Lib.AppendZerosOnto
import Derived.Lib.Overlaps
import Derived.Laws.Externs
import Derived.Deep.MidRow
import Derived.Shelf.Spec.SlicesInsert
import Derived.Test.YteodhffgnkdcfaaWWords
import Derived.Test.YteodhffgnkdcfaaWLast
import Derived.Test.YteodhffgnkdcfaaWTab
import Derived.Test.YteodhffgnkdcfaaWFour
import Derived.Test.YteodhffgnkdcfaaWQPut
import Derived.Test.YteodhffgnkdcfaaWApart
import Derived.Test.YteodhffgnkdcfaaWArr
import Derived.Test.YteodhffgnkdcfaaWZeros
import Derived.Test.YteodhffgnkdcfaaWFoot
import Derived.Test.YteodhffgnkdcfaaWKept
import Derived.Test.YteodhffgnkdcfaaWShare
import Derived.Test.YteodhffgnkdcfaaWN
import Derived.Test.YteodhffgnkdcfaaWFootNe
import Derived.Test.YteodhffgnkdcfaaWAt
import Derived.Test.YteodhffgnkdcfaaWEqStruct
import Derived.Test.YteodhffgnkdcfaaWRepsOne
import Derived.Test.YteodhffgnkdcfaaWInv
import Derived.Test.YteodhffgnkdcfaaWInvWords
import Derived.Test.YteodhffgnkdcfaaWGuard
import Derived.Test.YteodhffgnkdcfaaWNEv
import Derived.Test.YteodhffgnkdcfaaWMore
namespace Go.Proofs.Yteodhffgnkdcfaa.Q
open Go.RowKit Go.Proofs.YteodhffgnkdcfaaW.PrintWords Go.Proofs.YteodhffgnkdcfaaW.PrintLast Go.Proofs.YteodhffgnkdcfaaW.PrintMore
attribute [local go_sem] max2_int min2_int max_two min_two max_three min_three max_four min_four
set_option linter.unusedVariables false
set_option linter.unusedSimpArgs false
def errW : Option Int → Value
  | none => .nilIface
  | some c => .iface 0 (.int .i64 c)
theorem errW_none : errW none = .nilIface := rfl
theorem errW_some (c : Int) : errW (some c) = .iface 0 (.int .i64 c) := rfl
theorem info3 : (Try.prog.info? 3).map (fun i => (i.zero, i.size, i.bytes)) = some (some (.int .i64 0), 1, 8) := by kernel_rfl
theorem info27 : (Try.prog.info? 27).map (fun i => (i.zero, i.size, i.bytes)) = some (some (.agg #[(.int .i64 0), (.int .i64 0), (.slice none 0 0)]), 3, 40) := by kernel_rfl
structure S27 where
  f0 : Int
  f1 : Int
  f2 : (List Int)
def z27 : S27 := ⟨(0 : Int), (0 : Int), ([] : List Int)⟩
def k27 : Kd S27 := Kd.iso (Kd.pair (Kd.int .i64) (Kd.pair (Kd.int .i64) (Kd.slice 3 (Kd.int .i64)))) (fun x : S27 => (x.f0, x.f1, x.f2))
theorem k27_heap : Kd.Heap k27 := Kd.heap_iso _ (Kd.heap_pair (Kd.heap_int .i64) (Kd.heap_pair (Kd.heap_int .i64) (Kd.heap_slice 3 (Kd.heap_int .i64))))
theorem k27_open {w : World} {x : S27} {cs : List Value} (h : k27.K w x cs) : ∃ A2 c2, cs = [.int .i64 x.f0, .int .i64 x.f1, .slice A2 x.f2.length c2] ∧ x.f2.length ≤ c2 ∧ (Kd.int .i64).C w A2 x.f2.length x.f2 := by
  obtain ⟨_, _, rfl, rfl, ⟨_, _, rfl, rfl, ⟨A2, c2, rfl, l2, g2⟩⟩⟩ := h
  exact ⟨A2, c2, rfl, l2, g2⟩
theorem k27_openM {w : World} {base : Nat} {ok : Nat → Prop} {x : S27} {cs : List Value} (h : k27.M w base ok x cs) : ∃ v2, cs = [.int .i64 x.f0, .int .i64 x.f1, v2] ∧ (Kd.int .i64).R 3 w base ok v2 x.f2 := by
  obtain ⟨_, _, rfl, rfl, ⟨_, _, rfl, rfl, ⟨v2, rfl, g2⟩⟩⟩ := h
  exact ⟨v2, rfl, g2⟩
theorem k27_mk (w : World) (x : S27) {A2 : Option Addr} {c2 : Nat} (l2 : x.f2.length ≤ c2) (g2 : (Kd.int .i64).C w A2 x.f2.length x.f2) : k27.K w x [.int .i64 x.f0, .int .i64 x.f1, .slice A2 x.f2.length c2] := ⟨[.int .i64 x.f0], [.int .i64 x.f1, .slice A2 x.f2.length c2], rfl, rfl, ⟨[.int .i64 x.f1], [.slice A2 x.f2.length c2], rfl, rfl, ⟨A2, c2, rfl, l2, g2⟩⟩⟩
theorem k27_mkM (w : World) (base : Nat) (ok : Nat → Prop) (x : S27) {v2 : Value} (g2 : (Kd.int .i64).R 3 w base ok v2 x.f2) : k27.M w base ok x [.int .i64 x.f0, .int .i64 x.f1, v2] := ⟨[.int .i64 x.f0], [.int .i64 x.f1, v2], rfl, rfl, ⟨[.int .i64 x.f1], [v2], rfl, rfl, ⟨v2, rfl, g2⟩⟩⟩
theorem k27_openF {W : World} {ok : Nat → Prop} {x : S27} {cs : List Value} (h : Kd.FK k27 W ok x cs) : ∃ A2 c2, cs = [.int .i64 x.f0, .int .i64 x.f1, .slice A2 x.f2.length c2] ∧ x.f2.length ≤ c2 ∧ Kd.F (Kd.int .i64) W ok A2 x.f2.length x.f2 := by
  obtain ⟨A2, c2, rfl, l2, _⟩ := k27_open (Kd.FK_now h)
  exact ⟨A2, c2, rfl, l2, (fun W' hW => by obtain ⟨A2_, c2_, he, l2_, g2_⟩ := k27_open (h W' hW); injection (Option.some.inj (show some (Value.slice A2 x.f2.length c2) = some (Value.slice A2_ x.f2.length c2_) from congrArg (fun l => l[2]?) he)) with ha_ _ _; rw [ha_]; exact g2_)⟩
theorem k27_mkF (W : World) (ok : Nat → Prop) (x : S27) {A2 : Option Addr} {c2 : Nat} (l2 : x.f2.length ≤ c2) (g2 : Kd.F (Kd.int .i64) W ok A2 x.f2.length x.f2) : Kd.FK k27 W ok x [.int .i64 x.f0, .int .i64 x.f1, .slice A2 x.f2.length c2] := fun W2 hW => k27_mk W2 x l2 (g2 W2 hW)
def rd_T27 (xs : List S27) (i : Int) : S27 := xs.getD i.toNat z27
theorem at_T27 {w : World} {A : Option Addr} {n : Nat} {xs : List S27} (h : Kd.C k27 w A n xs) (i : Int) (h0 : 0 ≤ i) (h1 : i < n) : ∃ ad A2 c2, A = some ad ∧ w.cell? (ad.add (i.toNat * 3)) = some (.int .i64 (rd_T27 xs i).f0) ∧ w.cell? ⟨(ad.add (i.toNat * 3)).block, (ad.add (i.toNat * 3)).off + 1, none⟩ = some (.int .i64 (rd_T27 xs i).f1) ∧ w.cell? ⟨(ad.add (i.toNat * 3)).block, (ad.add (i.toNat * 3)).off + 2, none⟩ = some (.slice A2 (rd_T27 xs i).f2.length c2) ∧ (rd_T27 xs i).f2.length ≤ c2 ∧ (Kd.int .i64).C w A2 (rd_T27 xs i).f2.length (rd_T27 xs i).f2 := by
  obtain ⟨ad, c, e, _, hK, hc0⟩ := Kd.C_get h z27 i h0 h1
  have hc : ∀ j u, c[j]? = some u → w.cell? (ad.add (i.toNat * 3 + j)) = some u := hc0
  obtain ⟨A2, c2, rfl, l2, g2⟩ := k27_open hK
  exact ⟨ad, A2, c2, e, hc 0 _ rfl, by rw [← add_field _ _ 1 (by omega)]; exact hc 1 _ rfl, by rw [← add_field _ _ 2 (by omega)]; exact hc 2 _ rfl, l2, g2⟩
structure S24 where
  f0 : (List S27)
  f1 : Int
structure S36 where
  f0 : Int
  f1 : Bool
  f2 : Bool
section
variable {P : Program} {ops : Array Oper} {o : Oper} {rest : List Oper} {a : Act} {Q : Exit → Act → World → Prop} {W : World}
end
theorem setRow_below {B g : Nat} {w0 w : World} (hb : Below B w0 w) (hBg : B ≤ g) (cs : Array Value) : Below B w0 (w.setRow g cs) :=
  hb.trans ⟨rfl, rfl, rfl, by simp [World.setRow], fun k hk => setRow_other w g k cs (by omega)⟩
def NB (L : List (Nat × Array Value × Nat)) (k : Nat) : Prop := ∀ (i : Nat) (x : Nat × Array Value × Nat), L[i]? = some x → k ≠ x.1
structure Sx (w : World) (L : List (Nat × Array Value × Nat)) (Fs : List (World → Prop)) (W : World) : Prop where mk ::
  (B : Below w.heap.size w W)
  (bx : ∀ (i : Nat) (x : Nat × Array Value × Nat), L[i]? = some x → W.heap[x.1]? = some (.cells x.2.1 x.2.2 (0, 0)) ∧ w.heap.size ≤ x.1)
  (nd : ∀ (i j : Nat) (x y : Nat × Array Value × Nat), L[i]? = some x → L[j]? = some y → x.1 = y.1 → i = j)
  (fs : ∀ (i : Nat) (P : World → Prop), Fs[i]? = some P → Foot P W (NB L))
section
variable {w W W' : World} {L : List (Nat × Array Value × Nat)} {Fs : List (World → Prop)} {P : World → Prop}
theorem Sx.start (w : World) : Sx w [] [] w := ⟨Below.refl _ _, fun i x h => by simp at h, fun i j x y h => by simp at h, fun i P h => by simp at h⟩
theorem Sx.lt (s : Sx w L Fs W) {i : Nat} {x : Nat × Array Value × Nat} (h : L[i]? = some x) : x.1 < W.heap.size := blk_lt (s.bx i x h).1
theorem Sx.below (s : Sx w L Fs W) (b : Below W.heap.size W W') : Sx w L Fs W' :=
  ⟨below_step s.B b, fun i x h => ⟨blk_below (s.bx i x h).1 b, (s.bx i x h).2⟩, s.nd, fun i P h => (s.fs i P h).step (fun k _ hlt => b.block k hlt)⟩
theorem Sx.box (s : Sx w L Fs W) {g : Nat} {cs : Array Value} {t : Nat} (eg : g = W.heap.size) (bg : W'.heap[g]? = some (.cells cs t (0, 0))) (b : Below W.heap.size W W') : Sx w ((g, cs, t) :: L) Fs W' := by
  have s' := s.below b
  refine ⟨s'.B, fun i x h => ?_, fun i j x y h1 h2 e => ?_, fun i P hP => ?_⟩
  · cases i with
    | zero => obtain rfl := Option.some.inj h; exact ⟨bg, by rw [eg]; exact s.B.size⟩
    | succ i => exact s'.bx i x h
  · cases i with
    | zero =>
      cases j with
      | zero => rfl
      | succ j => obtain rfl := Option.some.inj h1; have := s.lt (i := j) h2; simp at e; omega
    | succ i =>
      cases j with
      | zero => obtain rfl := Option.some.inj h2; have := s.lt (i := i) h1; simp at e; omega
      | succ j => rw [s.nd i j x y h1 h2 e]
  · refine Foot.mono (Foot.step (s.fs i P hP).bound (fun k _ hlt => b.block k hlt)) (fun k hk i x h => ?_)
    cases i with
    | zero => obtain rfl := Option.some.inj h; have := hk.2; show k ≠ g; omega
    | succ i => exact hk.1 i x h
theorem Sx.row (s : Sx w L Fs W) (i : Nat) {g : Nat} {cur : Array Value} {t : Nat} (h : L[i]? = some (g, cur, t)) (cs : Array Value) : Sx w (L.set i (g, cs, t)) Fs (W.setRow g cs) := by
  have hlt : i < L.length := (List.getElem?_eq_some_iff.1 h).1
  have key : ∀ (j : Nat) (x : Nat × Array Value × Nat), (L.set i (g, cs, t))[j]? = some x → ∃ y, L[j]? = some y ∧ x.1 = y.1 ∧ (j ≠ i → x = y) ∧ (j = i → x = (g, cs, t)) := fun j x hx => by
    rw [List.getElem?_set] at hx
    by_cases c : i = j
    · rw [if_pos c, if_pos hlt] at hx
      obtain rfl := Option.some.inj hx
      subst c
      exact ⟨_, h, rfl, fun e => absurd rfl e, fun _ => rfl⟩
    · rw [if_neg c] at hx
      exact ⟨x, hx, rfl, fun _ => rfl, fun e => absurd e.symm c⟩
  refine ⟨setRow_below s.B (s.bx i _ h).2 cs, fun j x hx => ?_, fun j k x y h1 h2 e => ?_, fun q P hP => ?_⟩
  · obtain ⟨y, hy, e1, e2, e3⟩ := key j x hx
    by_cases c : j = i
    · obtain rfl := e3 c
      exact ⟨setRow_heap W g cur cs _ _ (s.bx i _ h).1, (s.bx i _ h).2⟩
    · obtain rfl := e2 c
      have hb := s.bx j x hy
      exact ⟨(setRow_other W g x.1 cs (fun e => c (s.nd j i x _ hy h e))).trans hb.1, hb.2⟩
  · obtain ⟨x', hx', e1, _⟩ := key j x h1
    obtain ⟨y', hy', e2, _⟩ := key k y h2
    exact s.nd j k x' y' hx' hy' (by rw [← e1, ← e2]; exact e)
  · refine Foot.mono ((s.fs q P hP).step (fun k hk _ => setRow_other W g k cs (hk i _ h))) (fun k hk j x hx => ?_)
    obtain ⟨y, hy, e1, _⟩ := key j x hx
    rw [e1]
    exact hk j y hy
theorem Sx.drop {x : Nat × Array Value × Nat} (s : Sx w (x :: L) Fs W) : Sx w L Fs W :=
  ⟨s.B, fun i y h => s.bx (i + 1) y h, fun i j y z h1 h2 e => by have := s.nd (i + 1) (j + 1) y z h1 h2 e; omega, fun i P h => (s.fs i P h).mono (fun k hk i y h => hk (i + 1) y h)⟩
theorem Sx.get (s : Sx w L Fs W) (i : Nat) {g : Nat} {cs : Array Value} {t : Nat} (h : L[i]? = some (g, cs, t)) : W.heap[g]? = some (.cells cs t (0, 0)) := (s.bx i _ h).1
theorem Sx.now (s : Sx w L Fs W) (i : Nat) (h : Fs[i]? = some P) : P W := (s.fs i P h).now
theorem Sx.foot (s : Sx w L Fs W) (b : Below W.heap.size W W') (hF : Foot P W' (fun k => NB L k ∨ W.heap.size ≤ k)) : Sx w L (P :: Fs) W' := by
  have s' := s.below b
  refine ⟨s'.B, s'.bx, s'.nd, fun i Q h => ?_⟩
  cases i with
  | zero =>
    obtain rfl := Option.some.inj h
    refine hF.mono (fun k hk i x h => ?_)
    rcases hk with hk | hk
    · exact hk i x h
    · have := s.lt h; omega
  | succ i => exact s'.fs i Q h
theorem Sx.fresh (s : Sx w L Fs W) (b : Below W.heap.size W W') (hF : Foot P W' (fun k => W.heap.size ≤ k)) : Sx w L (P :: Fs) W' := s.foot b (hF.mono (fun _ h => .inr h))
theorem Sx.old (s : Sx w L Fs W) (hF : Foot P w (fun k => k < w.heap.size)) : Sx w L (P :: Fs) W := by
  refine ⟨s.B, s.bx, s.nd, fun i Q h => ?_⟩
  cases i with
  | zero =>
    obtain rfl := Option.some.inj h
    refine Foot.mono (Foot.step hF (fun k hk hlt => s.B.block k hlt)) (fun k hk i x h => ?_)
    have := (s.bx i x h).2
    omega
  | succ i => exact s.fs i Q h
theorem Sx.lose (s : Sx w L (P :: Fs) W) : Sx w L Fs W := ⟨s.B, s.bx, s.nd, fun i Q h => s.fs (i + 1) Q h⟩
end
section
variable {P : Program} {o : Oper} {a : Act} {w : World} {ops : Array Oper} {rest : List Oper} {Q : Exit → Act → World → Prop}
theorem run_storeVar_row (w : World) (g : Nat) (t ty : TypeId) (cur cs : Array Value) (v : Value) (hg : w.heap[g]? = some (.cells cur t (0, 0))) (hv : v.cells = cs) (hi : (P.info? ty).map (·.size) = some cs.size) (hsz : cs.size = cur.size) (h1 : ∀ v ∈ cs.toList, v.oneCell' = true) :
    (storeVar ty ⟨g, 0, none⟩ v).run P w = .ok () (w.setRow g cs) := by
  cases hq : P.info? ty with
  | none => simp [hq] at hi
  | some i =>
    have hs : i.size = cs.size := by simpa [hq] using hi
    have h := run_storeCells_at (P := P) g 0 t cs.toList 0 cur w hg (by simp [hsz]) h1
    have he : (cur.toList.take (0 + 0) ++ cs.toList ++ cur.toList.drop (0 + 0 + cs.toList.length)).toArray = cs := by
      rw [List.drop_eq_nil_of_le (by simp [hsz])]
      simp
    rw [he] at h
    simp [storeVar, Sem.run_bind, sizeOf, typeInfo, hq, hs, hv, h]
theorem run_store_row_ {ty : TypeId} {p x : Operand} (ho : o.op = .store ty p x) (g : Nat) (hp : a.eval p = .pointer (some ⟨g, 0, none⟩)) (cs cur : Array Value) (t : TypeId) (hg : w.heap[g]? = some (.cells cur t (0, 0)))
    (hv : (a.eval x).cells = cs) (hi : (P.info? ty).map (·.size) = some cs.size) (hsz : cs.size = cur.size) (h1 : cs.toList.all (·.oneCell') = true) : (execOp a.eval o).run P w = .ok .skip (w.setRow g cs) := by
  have hr := run_storeVar_row (P := P) w g t ty cur cs (a.eval x) hg hv hi hsz (fun v hv => List.all_eq_true.mp h1 v hv)
  unfold execOp
  simp only [ho, hp, Instr.storeAt, Instr.sureAddr, Sem.run_bind, Sem.run_pure, Result.andThen_ok, hr]
theorem wpList_store_row (hgd : o.guard = none) (hN : o.dst = none) (ty : TypeId) (p : Tmp) (x : Operand) (ho : o.op = .store ty (.tmp p) x) (g : Nat) (hp : a.eval (.tmp p) = .pointer (some ⟨g, 0, none⟩)) (cs cur : Array Value) (t : TypeId) (hg : w.heap[g]? = some (.cells cur t (0, 0)))
    (hv : (a.eval x).cells = cs) (hi : (P.info? ty).map (·.size) = some cs.size) (hsz : cs.size = cur.size) (h1 : cs.toList.all (·.oneCell') = true) (I : World → Prop) (hI : I (w.setRow g cs)) (h : ∀ w', I w' → wpList P ops Q rest a w') : wpList P ops Q (o :: rest) a w :=
  store_event hgd ho hN (w1 := w.setRow g cs) (run_store_row_ ho g hp cs cur t hg hv hi hsz h1) (fun w' e => h w' (e.symm ▸ hI))
theorem run_load_row_ {ty : TypeId} {x : Operand} (ho : o.op = .load ty x) (g : Nat) (hx : a.eval x = .pointer (some ⟨g, 0, none⟩)) (t : TypeId) (cs : Array Value) (d : TypeDesc) (hg : w.heap[g]? = some (.cells cs t (0, 0)))
    (hu : P.underlying ty = some d) (hd : (match d with | .struct _ | .array _ _ => true | _ => false) = true) (hi : (P.info? ty).map (·.size) = some cs.size) : (execOp a.eval o).run P w = .ok (.value (.agg cs)) w := by
  unfold execOp
  simp only [ho, hx, Instr.loadAt, Instr.sureAddr, Sem.run_bind, Sem.run_pure, Result.andThen_ok, run_loadVar_row w g t ty cs (0, 0) d hg hu hd hi]
theorem at_args_ {f : FuncId} {args : Array Value} {Q : Ending → World → Prop} (bs : Array Value) (h : args = bs) (k : Calls P f args w Q) : Calls P f args w Q := k
theorem boxed_step_ {Q : Exit → Act → World → Prop} {oi : Oper} {N : Option Tmp} {a : Act} {W : World} {K : Act → World → Prop} {cs : Array Value} {t : TypeId} (hw : Region.wanted oi (yielded ops a.tmps) = true) (hN : oi.dst = N)
    (hrun : (execOp a.eval oi).run P W = .ok (.value (.pointer (some ⟨W.heap.size, 0, none⟩))) (W.alloc (.cells cs t (0, 0))))
    (h : ∀ g, g = W.heap.size → ∀ w1, w1.heap[g]? = some (.cells cs t (0, 0)) → Below W.heap.size W w1 → K (a.put N (.pointer (some ⟨g, 0, none⟩))) w1) : if Region.wanted oi (yielded ops a.tmps) = true then Oper.wp P oi a W K Q else K (a.put N undef) W :=
  value_ hw hN hrun (h _ rfl _ (blk_new W _) (below_alloc (Below.refl _ _) _))
end
theorem kd_len {α : Type} {d : Kd α} {w : World} {A : Option Addr} {n : Nat} {l : List α} (h : Kd.C d w A n l) : n ≤ 9223372036854775807 := h.2.1
section
variable {P : Program} {o : Oper} {a : Act} {w : World} {ops : Array Oper} {rest : List Oper} {Q : Exit → Act → World → Prop}
theorem run_store_at_ {ty : TypeId} {p x : Operand} (ho : o.op = .store ty p x) (g f : Nat) (hp : a.eval p = .pointer (some ⟨g, f, none⟩)) (t : TypeId) (cur new : Array Value) (seg : List Value) (hg : w.heap[g]? = some (.cells cur t (0, 0)))
    (hv : (a.eval x).cells = seg.toArray) (hi : (P.info? ty).map (·.size) = some seg.length) (hsz : f + 0 + seg.length ≤ cur.size) (h1 : seg.all (·.oneCell') = true) (he : (cur.toList.take (f + 0) ++ seg ++ cur.toList.drop (f + 0 + seg.length)).toArray = new) :
    (execOp a.eval o).run P w = .ok .skip (w.setRow g new) := by
  subst he
  have hr : (storeVar ty ⟨g, f, none⟩ (a.eval x)).run P w = .ok () (w.setRow g (cur.toList.take (f + 0) ++ seg ++ cur.toList.drop (f + 0 + seg.length)).toArray) := by
    cases hq : P.info? ty with
    | none => simp [hq] at hi
    | some i =>
      have hs : i.size = seg.length := by simpa [hq] using hi
      have h := run_storeCells_at (P := P) g f t seg 0 cur w hg hsz (fun v hv => List.all_eq_true.mp h1 v hv)
      simp [storeVar, Sem.run_bind, sizeOf, typeInfo, hq, hs, hv, h]
  unfold execOp
  simp only [ho, hp, Instr.storeAt, Instr.sureAddr, Sem.run_bind, Sem.run_pure, Result.andThen_ok, hr]
theorem wpList_store_at (hgd : o.guard = none) (hN : o.dst = none) (ty : TypeId) (p : Tmp) (x : Operand) (ho : o.op = .store ty (.tmp p) x) (g f : Nat) (hp : a.eval (.tmp p) = .pointer (some ⟨g, f, none⟩)) (t : TypeId) (cur new : Array Value) (seg : List Value) (hg : w.heap[g]? = some (.cells cur t (0, 0)))
    (hv : (a.eval x).cells = seg.toArray) (hi : (P.info? ty).map (·.size) = some seg.length) (hsz : f + 0 + seg.length ≤ cur.size) (h1 : seg.all (·.oneCell') = true) (he : (cur.toList.take (f + 0) ++ seg ++ cur.toList.drop (f + 0 + seg.length)).toArray = new)
    (I : World → Prop) (hI : I (w.setRow g new)) (h : ∀ w', I w' → wpList P ops Q rest a w') : wpList P ops Q (o :: rest) a w :=
  store_event hgd ho hN (w1 := w.setRow g new) (run_store_at_ ho g f hp t cur new seg hg hv hi hsz h1 he) (fun w' e => h w' (e.symm ▸ hI))
end
theorem mem_getD {α : Type} {l : List α} {z : α} {k : Nat} (h : k < l.length) : l.getD k z ∈ l := by
  rw [List.getD_eq_getElem?_getD, List.getElem?_eq_getElem h, Option.getD_some]; exact List.getElem_mem h
theorem at_job {W : World} {A : Option Addr} {l : List S27} (h : Kd.C k27 W A l.length l) {k : Nat} (hk : k < l.length) : ∃ ad A2 c2, A = some ad ∧ W.cell? (ad.add (k * 3)) = some (.int .i64 (l.getD k z27).f0) ∧ W.cell? ⟨(ad.add (k * 3)).block, (ad.add (k * 3)).off + 1, none⟩ = some (.int .i64 (l.getD k z27).f1) ∧ W.cell? ⟨(ad.add (k * 3)).block, (ad.add (k * 3)).off + 2, none⟩ = some (.slice A2 (l.getD k z27).f2.length c2) ∧ (l.getD k z27).f2.length ≤ c2 ∧ Kd.C (Kd.int .i64) W A2 (l.getD k z27).f2.length (l.getD k z27).f2 := by
  obtain ⟨ad, A2, c2, e, h0, h1, h2, h3, h4⟩ := at_T27 h (k : Int) (by omega) (by omega)
  have hx : rd_T27 l (k : Int) = l.getD k z27 := by unfold rd_T27; rw [Int.toNat_natCast]
  rw [hx] at h0 h1 h2 h3 h4
  rw [Int.toNat_natCast] at h0 h1 h2
  exact ⟨ad, A2, c2, e, h0, h1, h2, h3, h4⟩
end Go.Proofs.Yteodhffgnkdcfaa.Q
