/-
  One operation of a region: what it owes, kind by kind. Plain: no program is named here.
-/
import Derived.Test.YtnefipinicfegaaPut
namespace Go.Proofs.Ytnefipinicfegaa
open Go.RowKit
set_option linter.unusedVariables false
set_option linter.unusedSimpArgs false

section
variable {P : Program} {o : Oper} {a : Act} {f : Nat → Value} {w : World} {post : Value → World → Prop}
/-- A call by its contract. -/
theorem og_call {fn : Func} (F : FuncId) (xs : Array Operand) (ts : Array TypeId) (args : Array Value) (hf : P.funcs[F]? = some fn) (hn : (fn.name == "runtime.NumGoroutine") = false) (hb : fn.body.isNone = false) (hgd : o.guard = none) (ho : o.op = .call { callee := .value (.func F), args := xs, argTypes := ts })
    (ha : xs.map a.eval = args) (hc : Calls P F args w fun e w' => ∃ v, e = .returned v ∧ Ext w w' ∧ post v w') : OpGoal P o a f w Ext post := by
  unfold OpGoal
  rw [hgd]
  unfold Oper.wp
  have hrun : (execOp a.eval o).run P w = .ok (.enter F args) w := by
    subst ha
    have h1 : fn.name ≠ "runtime.NumGoroutine" := by simpa using hn
    have h2 : ¬ fn.body = none := by intro h; simp [h] at hb
    simp [execOp, ho, resolve, Deferred.ofValue, Act.eval, invoke, callFunc, hf, h1, h2]
  rw [hrun, Oper.upon_enter]
  refine hc.mono ?_
  rintro e w' ⟨v, rfl, h1, h2⟩
  exact ⟨v, rfl, h1, h2⟩
/-- A call by its contract, in short. -/
theorem oC {fn : Func} {F : FuncId} {xs : Array Operand} {ts : Array TypeId} (args : Array Value) (hf : P.funcs[F]? = some fn) (hgd : o.guard = none) (ho : o.op = .call { callee := .value (.func F), args := xs, argTypes := ts })
    (hc : Calls P F args w fun e w' => ∃ v, e = .returned v ∧ Ext w w' ∧ post v w') (hn : (fn.name == "runtime.NumGoroutine") = false := by kernel_rfl) (hb : fn.body.isNone = false := by kernel_rfl) (ha : xs.map a.eval = args := by kernel_rfl) : OpGoal P o a f w Ext post :=
  og_call F xs ts args hf hn hb hgd ho ha hc
/-- A struct read. -/
theorem og_load (ty : TypeId) (x : Operand) (g : Nat) (t : TypeId) (cs : Array Value) (d : TypeDesc) (hgd : o.guard = none) (ho : o.op = .load ty x) (hx : a.eval x = .pointer (some ⟨g, 0, none⟩)) (hg : Bx t w g cs)
    (hu : P.underlying ty = some d) (hd : (match d with | .struct _ | .array _ _ => true | _ => false) = true) (hi : (P.info? ty).map (·.size) = some cs.size) (hp : post (.agg cs) w) : OpGoal P o a f w Ext post := by
  unfold OpGoal
  rw [hgd]
  exact wp_load_row ty x ho g hx t cs _ d hg hu hd hi ⟨_, rfl, Ext.refl w, hp⟩
/-- A struct stored. -/
theorem og_store (ty : TypeId) (x y : Operand) (g : Nat) (t : TypeId) (old cells : Array Value) (F : Value → World → Prop) (hgd : o.guard = none) (ho : o.op = .store ty x y) (hx : a.eval x = .pointer (some ⟨g, 0, none⟩)) (hy : a.eval y = .agg cells)
    (hg : Bx t w g old) (hi : (P.info? ty).map (·.size) = some cells.size) (hold : old.size = cells.size) (h1 : cells.all (·.oneCell') = true) (hF : ∀ w', Chg g w w' → F (.agg cells) w') :
    OpGoal P o a f w (Chg g) (fun _ w2 => ∃ cs, Bx t w2 g cs ∧ F (.agg cs) w2) := by
  unfold OpGoal
  rw [hgd]
  exact wp_store_row ty x y ho g cells hx hy t old hg hi hold h1 ⟨_, rfl, Chg.setRow w g cells, cells, hg.setRow cells, hF _ (Chg.setRow w g cells)⟩
end
section
variable {P : Program} {fn : Func} {R : Ending → World → Prop} {a : Act} {w : World}
/-- A struct handed back. -/
theorem ret_box (p : Tmp) (ty : TypeId) (g : Nat) (t : TypeId) (cs : Array Value) (d : TypeDesc) (h : fn.results = #[.cell p ty]) (hp : a.tmps.getD p undef = .pointer (some ⟨g, 0, none⟩)) (hg : Bx t w g cs)
    (hu : P.underlying ty = some d) (hd : (match d with | .struct _ | .array _ _ => true | _ => false) = true) (hi : (P.info? ty).map (·.size) = some cs.size) (hdf : a.defers = []) (hR : R (.returned (.agg cs)) w) : bodyPost P fn R .ret a w :=
  bodyPost_ret (results_cell_row h a.tmps w g t cs _ d hp hg hu hd hi) hdf hR
/-- A struct and a number handed back. -/
theorem ret_box2 (p u : Tmp) (ty : TypeId) (g : Nat) (t : TypeId) (cs : Array Value) (d : TypeDesc) (v : Value) (h : fn.results = #[.cell p ty, .tmp u]) (hp : a.tmps.getD p undef = .pointer (some ⟨g, 0, none⟩)) (hv : a.tmps.getD u undef = v) (hg : Bx t w g cs)
    (hu : P.underlying ty = some d) (hd : (match d with | .struct _ | .array _ _ => true | _ => false) = true) (hi : (P.info? ty).map (·.size) = some cs.size) (hdf : a.defers = []) (hR : R (.returned (.tuple #[.agg cs, v])) w) : bodyPost P fn R .ret a w := by
  subst hv
  refine bodyPost_ret (v := .tuple #[.agg cs, a.tmps.getD u undef]) ?_ hdf hR
  have hp' : a.tmps[p]?.getD undef = .pointer (some ⟨g, 0, none⟩) := by simpa using hp
  simp [results, h, hp', asAddr, run_loadVar_row w g t ty cs _ d hg hu hd hi]
/-- A number whose cell is not in the way. -/
theorem ret_box3 (p q u : Tmp) (ty ty2 : TypeId) (g g2 : Nat) (t t2 : TypeId) (cs cs2 : Array Value) (d d2 : TypeDesc) (v : Value) (h : fn.results = #[.cell p ty, .cell q ty2, .tmp u]) (hp : a.tmps.getD p undef = .pointer (some ⟨g, 0, none⟩)) (hq : a.tmps.getD q undef = .pointer (some ⟨g2, 0, none⟩)) (hv : a.tmps.getD u undef = v) (hg : Bx t w g cs) (hg2 : Bx t2 w g2 cs2)
    (hu : P.underlying ty = some d) (hd : (match d with | .struct _ | .array _ _ => true | _ => false) = true) (hi : (P.info? ty).map (·.size) = some cs.size)
    (hu2 : P.underlying ty2 = some d2) (hd2 : (match d2 with | .struct _ | .array _ _ => true | _ => false) = true) (hi2 : (P.info? ty2).map (·.size) = some cs2.size) (hdf : a.defers = []) (hR : R (.returned (.tuple #[.agg cs, .agg cs2, v])) w) : bodyPost P fn R .ret a w := by
  subst hv
  refine bodyPost_ret (v := .tuple #[.agg cs, .agg cs2, a.tmps.getD u undef]) ?_ hdf hR
  have hp' : a.tmps[p]?.getD undef = .pointer (some ⟨g, 0, none⟩) := by simpa using hp
  have hq' : a.tmps[q]?.getD undef = .pointer (some ⟨g2, 0, none⟩) := by simpa using hq
  simp [results, h, hp', hq', asAddr, run_loadVar_row w g t ty cs _ d hg hu hd hi, run_loadVar_row w g2 t2 ty2 cs2 _ d2 hg2 hu2 hd2 hi2]
end
theorem all2 {a b : Value} (ha : a.oneCell' = true) (hb : b.oneCell' = true) : (#[a, b].all (·.oneCell')) = true := by simp [ha, hb]
theorem all3 {a b c : Value} (ha : a.oneCell' = true) (hb : b.oneCell' = true) (hc : c.oneCell' = true) : (#[a, b, c].all (·.oneCell')) = true := by simp [ha, hb, hc]
theorem alloc_size (w : World) (o : Obj) : (w.alloc o).heap.size = w.heap.size + 1 := by show (w.heap.push o).size = _; simp
/-- One, two, three, four new things. -/
theorem alloc1 (w : World) (A : Array Value) (ta : TypeId) : ∃ w1, w1 = w.alloc (.cells A ta) ∧ Ext w w1 ∧ Bx ta w1 w.heap.size A ∧ w1.heap.size = w.heap.size + 1 :=
  ⟨_, rfl, (Ext.refl w).alloc _, Bx.new w ta A, alloc_size w _⟩
theorem alloc2 (w : World) (A B : Array Value) (ta tb : TypeId) : ∃ w1, w1 = (w.alloc (.cells A ta)).alloc (.cells B tb) ∧ Ext w w1 ∧ Bx ta w1 w.heap.size A ∧ Bx tb w1 (w.heap.size + 1) B ∧ w1.heap.size = w.heap.size + 2 := by
  obtain ⟨w1, h1, e1, b1, s1⟩ := alloc1 w A ta
  rw [← h1]
  obtain ⟨w2, h2, e2, b2, s2⟩ := alloc1 w1 B tb
  rw [s1] at b2 s2
  exact ⟨w2, h2, e1.trans e2, b1.ext e2, b2, s2⟩
theorem alloc3 (w : World) (A B C : Array Value) (ta tb tc : TypeId) : ∃ w1, w1 = ((w.alloc (.cells A ta)).alloc (.cells B tb)).alloc (.cells C tc) ∧ Ext w w1 ∧ Bx ta w1 w.heap.size A ∧ Bx tb w1 (w.heap.size + 1) B ∧ Bx tc w1 (w.heap.size + 2) C ∧ w1.heap.size = w.heap.size + 3 := by
  obtain ⟨w1, h1, e1, b1, b2, s1⟩ := alloc2 w A B ta tb
  rw [← h1]
  obtain ⟨w2, h2, e2, b3, s2⟩ := alloc1 w1 C tc
  rw [s1] at b3 s2
  exact ⟨w2, h2, e1.trans e2, b1.ext e2, b2.ext e2, b3, s2⟩
theorem alloc4 (w : World) (A B C D : Array Value) (ta tb tc td : TypeId) : ∃ w1, w1 = (((w.alloc (.cells A ta)).alloc (.cells B tb)).alloc (.cells C tc)).alloc (.cells D td) ∧ Ext w w1 ∧ Bx ta w1 w.heap.size A ∧ Bx tb w1 (w.heap.size + 1) B ∧ Bx tc w1 (w.heap.size + 2) C ∧ Bx td w1 (w.heap.size + 3) D ∧ w1.heap.size = w.heap.size + 4 := by
  obtain ⟨w1, h1, e1, b1, b2, b3, s1⟩ := alloc3 w A B C ta tb tc
  rw [← h1]
  obtain ⟨w2, h2, e2, b4, s2⟩ := alloc1 w1 D td
  rw [s1] at b4 s2
  exact ⟨w2, h2, e1.trans e2, b1.ext e2, b2.ext e2, b3.ext e2, b4, s2⟩
end Go.Proofs.Ytnefipinicfegaa
