/-
  Laws over any program: a struct read or stored as a part of a block that is known whole; 'of the old blocks only one has turned'.
-/
import Derived.Test.YtehhldpmhlocdaaDoorBase
import Derived.Test.YtehhldpmhlocdaaDoorFlat
import Derived.Test.YtehhldpmhlocdaaDoorTail
import Derived.OwnWalk
import Derived.Laws.CopyOwn
namespace Go.Proofs.YtehhldpmhlocdaaDoor
open Go.RowKit Go.WideShapes Go.ChangeShapes
set_option linter.unusedVariables false

/-! ### A struct read out of a block that is known whole -/
theorem run_loadVar_part {P : Program} (w : World) (g off : Nat) (t ty : TypeId) (cs vs : Array Value) (fr : Nat × Nat) (d : TypeDesc) (hg : w.heap[g]? = some (.cells cs t fr))
    (hu : P.underlying ty = some d) (hd : (match d with | .struct _ | .array _ _ => true | _ => false) = true) (hi : (P.info? ty).map (·.size) = some vs.size) (hvs : (cs.toList.drop off).take vs.size = vs.toList) :
    (loadVar ty ⟨g, off, none⟩).run P w = .ok (.agg vs) w := by
  have hl : (loadCells ⟨g, off, none⟩ vs.toList.length).run P w = .ok vs.toList.toArray w :=
    run_loadCells_list (P := P) w ⟨g, off, none⟩ vs.toList (fun j v hv => by
      have hadd : (⟨g, off, none⟩ : Addr).add j = ⟨g, off + j, none⟩ := by unfold Addr.add; split <;> simp_all
      rw [hadd, cell_of_row w g (off + j) cs t fr hg]
      rw [← hvs, List.getElem?_take] at hv
      split at hv
      · simpa using hv
      · cases hv)
  cases hq : P.info? ty with
  | none => simp [hq] at hi
  | some i =>
    have hs : i.size = vs.size := by simpa [hq] using hi
    have hagg : (isAgg ty).run P w = .ok true w := by
      unfold isAgg
      rw [Sem.run_bind, run_underlying hu w]
      cases d <;> simp_all
    simp only [Array.length_toList, Array.toArray_toList] at hl
    simp [loadVar, Sem.run_bind, hagg, sizeOf, typeInfo, hq, hs, hl]

theorem run_load_part {P : Program} {o : Oper} {a : Act} {w : World} (ty : TypeId) (x : Operand) (ho : o.op = .load ty x)
    (g off : Nat) (hx : a.eval x = .pointer (some ⟨g, off, none⟩)) (t : TypeId) (cs vs : Array Value) (fr : Nat × Nat) (d : TypeDesc) (hg : w.heap[g]? = some (.cells cs t fr))
    (hu : P.underlying ty = some d) (hd : (match d with | .struct _ | .array _ _ => true | _ => false) = true) (hi : (P.info? ty).map (·.size) = some vs.size) (hvs : (cs.toList.drop off).take vs.size = vs.toList) :
    (execOp a.eval o).run P w = .ok (.value (.agg vs)) w := by
  unfold execOp
  simp only [ho, hx, Instr.loadAt, Instr.sureAddr, Sem.run_bind, Sem.run_pure, Result.andThen_ok, run_loadVar_part w g off t ty cs vs fr d hg hu hd hi hvs]

theorem wpList_load_part {P : Program} {ops : Array Oper} {rest : List Oper} {o : Oper} {a : Act} {w : World} {Q : Exit → Act → World → Prop} (hgd : o.guard = none) (ty : TypeId) (x : Operand) (ho : o.op = .load ty x)
    (g off : Nat) (hx : a.eval x = .pointer (some ⟨g, off, none⟩)) (t : TypeId) (cs vs : Array Value) (fr : Nat × Nat) (d : TypeDesc) (hg : w.heap[g]? = some (.cells cs t fr))
    (hu : P.underlying ty = some d) (hd : (match d with | .struct _ | .array _ _ => true | _ => false) = true) (hi : (P.info? ty).map (·.size) = some vs.size) (hvs : (cs.toList.drop off).take vs.size = vs.toList)
    (h : wpList P ops Q rest (a.put o.dst (.agg vs)) w) : wpList P ops Q (o :: rest) a w :=
  wpList_plain hgd fun _ hK => by
    unfold Oper.wp
    simp only [run_load_part ty x ho g off hx t cs vs fr d hg hu hd hi hvs]
    exact hK _ _ h

theorem quiet_load_part {P : Program} {o : Oper} {a : Act} {C : World → Prop} {K : Act → Prop} (ty : TypeId) (x : Operand) (ho : o.op = .load ty x)
    (g off : Nat) (hx : a.eval x = .pointer (some ⟨g, off, none⟩)) (t : TypeId) (cs vs : Array Value) (fr : Nat × Nat) (d : TypeDesc) (hg : ∀ w, C w → w.heap[g]? = some (.cells cs t fr))
    (hu : P.underlying ty = some d) (hd : (match d with | .struct _ | .array _ _ => true | _ => false) = true) (hi : (P.info? ty).map (·.size) = some vs.size) (hvs : (cs.toList.drop off).take vs.size = vs.toList)
    (h : K (a.put o.dst (.agg vs))) : o.quiet P a C K :=
  ⟨_, fun w hw => by
    unfold Oper.quietAt
    rw [run_load_part ty x ho g off hx t cs vs fr d (hg w hw) hu hd hi hvs]
    exact ⟨rfl, rfl⟩, h⟩

/-- Of the old blocks only g has turned. -/
def Frm (w w' : World) (g : Nat) : Prop := w.grownBy w' (some g)
theorem Frm.refl (w : World) (g : Nat) : Frm w w g := World.grownBy.refl _ _
theorem Frm.trans {w w1 w2 : World} {g g1 : Nat} (h1 : Frm w w1 g) (h2 : Frm w1 w2 g1) (hg : g1 = g ∨ w.heap.size ≤ g1) : Frm w w2 g :=
  ⟨h2.os.trans h1.os, h2.tape.trans h1.tape, h2.output.trans h1.output, Nat.le_trans h1.size h2.size, fun k hk hne => (h2.block k (Nat.lt_of_lt_of_le hk h1.size) (by
    intro e
    injection e with e
    rcases hg with rfl | hg
    · exact hne (by rw [e])
    · omega)).trans (h1.block k hk hne)⟩
theorem Frm.alloc {w w1 : World} {g : Nat} (h : Frm w w1 g) (o : Obj) : Frm w (w1.alloc o) g :=
  ⟨h.os, h.tape, h.output, by have := h.size; simp; omega, fun k hk hne => (Below.heap_alloc w1 o k (Nat.lt_of_lt_of_le hk h.size)).trans (h.block k hk hne)⟩
theorem Frm.drew {w w1 : World} {g : Nat} (h : Frm w w1 g) : Frm w w1.drew g := ⟨h.os, h.tape, h.output, h.size, h.block⟩
theorem Frm.below {w w1 : World} {g base : Nat} (h : Frm w w1 g) (hg : base ≤ g) (hb : base ≤ w.heap.size) : Below base w w1 :=
  ⟨h.os, h.tape, h.output, h.size, fun k hk => h.block k (by omega) (by intro e; injection e with e; omega)⟩
theorem Frm.of_below {w w1 : World} (g : Nat) (h : Below w.heap.size w w1) : Frm w w1 g := ⟨h.os, h.tape, h.output, h.size, fun k hk _ => h.block k hk⟩
theorem Frm.keep {w w1 : World} {g b : Nat} {x : Obj} (h : Frm w w1 g) (hb : w.heap[b]? = some x) (hne : b ≠ g) : w1.heap[b]? = some x :=
  (h.block b (Array.getElem?_eq_some_iff.1 hb).1 (by intro e; injection e with e; exact hne e)).trans hb
theorem Frm.cell {w w1 : World} {g b o : Nat} {v : Value} (h : Frm w w1 g) (hc : w.cell? ⟨b, o, none⟩ = some v) (hne : b ≠ g) : w1.cell? ⟨b, o, none⟩ = some v :=
  (World.cell?_of_block (a := ⟨b, o, none⟩) (h.block b (cell_lt hc) (by intro e; injection e with e; exact hne e))).trans hc
/-- An operation whose run is known. -/
theorem quiet_run {P : Program} {o : Oper} {a : Act} {C : World → Prop} {K : Act → Prop} (v : Value) (h : ∀ w, (execOp a.eval o).run P w = .ok (.value v) w) (hk : K (a.put o.dst v)) : o.quiet P a C K :=
  ⟨v, fun w _ => by unfold Oper.quietAt; rw [h w]; exact ⟨rfl, rfl⟩, hk⟩
theorem wpList_run {P : Program} {ops : Array Oper} {rest : List Oper} {o : Oper} {a : Act} {w : World} {Q : Exit → Act → World → Prop} (hgd : Region.wanted o (yielded ops a.tmps) = true) (v : Value) (h : (execOp a.eval o).run P w = .ok (.value v) w)
    (hk : wpList P ops Q rest (a.put o.dst v) w) : wpList P ops Q (o :: rest) a w := by
  unfold wpList
  rw [if_pos hgd]
  exact Or.inl (by unfold Oper.wp; rw [h]; exact hk)
/-- A struct stored into a block that is known whole. -/
theorem wpList_store_at {P : Program} {ops : Array Oper} {rest : List Oper} {o : Oper} {a : Act} {w : World} {Q : Exit → Act → World → Prop} {ty : TypeId} {x y : Operand} (ho : o.op = .store ty x y) (hgd : o.guard = none)
    (g off : Nat) (vs : Array Value) (hx : a.eval x = .pointer (some ⟨g, off, none⟩)) (hy : a.eval y = .agg vs) (t : TypeId) {old : Array Value} (hg : w.heap[g]? = some (.cells old t (0, 0))) (hi : (P.info? ty).map (·.size) = some vs.size)
    (hfit : off + vs.size ≤ old.size) (h1 : ∀ v ∈ vs.toList, v.oneCell' = true) (new : Array Value) (hnew : old.toList.take off ++ vs.toList ++ old.toList.drop (off + vs.size) = new.toList)
    (h : ∀ w', Frm w w' g → w'.heap[g]? = some (.cells new t (0, 0)) → wpList P ops Q rest (a.put o.dst undef) w') : wpList P ops Q (o :: rest) a w := by
  have hst := run_storeCells_at P g off t vs.toList 0 old w hg (by simpa using hfit) (fun v hv => h1 v hv)
  simp only [Nat.add_zero, Array.length_toList] at hst
  rw [hnew] at hst
  have hrun : (storeVar ty ⟨g, off, none⟩ (.agg vs)).run P w = .ok () (w.setRow g new.toList.toArray) := by
    cases hq : P.info? ty with
    | none => simp [hq] at hi
    | some i =>
      have hs : vs.size = i.size := by simp [hq] at hi; omega
      simp [storeVar, sizeOf, typeInfo, hq, Value.cells, hs, hst]
  rw [Array.toArray_toList] at hrun
  refine wpList_plain hgd fun _ hK => ?_
  unfold Oper.wp execOp
  simp only [ho, hx, hy, Instr.storeAt, Instr.sureAddr, Sem.run_bind, Sem.run_pure, Result.andThen_ok, hrun]
  exact hK _ _ (h _ ⟨rfl, rfl, rfl, by simp, fun k _ hk => setRow_other w g k _ (fun e => hk (by rw [e]))⟩ (setRow_heap w g old _ t _ hg))

/-- Six bytes copied into an info's address. -/
theorem step_copy6 {P : Program} {ops : Array Oper} {o : Oper} {a : Act} {w : World} {K : Act → World → Prop} {Q : Exit → Act → World → Prop} {E : Prop} (hgd : o.guard = none) (d s : Operand) (dT sT : TypeId)
    (ho : o.op = .call { callee := .builtin .copy, args := #[d, s], argTypes := #[dT, sT] }) (elem : TypeId) (hu : P.underlying dT = some (.slice elem)) (hsz : (P.info? elem).map (·.size) = some 1)
    (g off dLen dCap : Nat) (ad : Addr) (sLen sCap : Nat) (hd : a.eval d = .slice (some ⟨g, off, none⟩) dLen dCap) (hs : a.eval s = .slice (some ad) sLen sCap) (cur : Array Value) (t : TypeId)
    (hg : w.heap[g]? = some (.cells cur t (0, 0))) (cs : List Value) (hn : cs.length = Nat.min sLen dLen) (hsrc : ∀ j v, cs[j]? = some v → w.cell? (ad.add j) = some v) (hfit : off + cs.length ≤ cur.size) (h1 : ∀ v ∈ cs, v.oneCell' = true)
    (new : Array Value) (hnew : (cur.toList.take off ++ cs ++ cur.toList.drop (off + cs.length)).toArray = new)
    (h : ∀ w', Frm w w' g → w'.heap[g]? = some (.cells new t (0, 0)) → K (a.put o.dst (goInt cs.length)) w') :
    if Region.wanted o (yielded ops a.tmps) = true then Oper.wp P o a w K Q else E := by
  have hw : Region.wanted o (yielded ops a.tmps) = true := by simp [Region.wanted, hgd]
  rw [if_pos hw]
  have hrun := run_copy_row (P := P) w dT sT o.type elem g off dLen dCap ad sLen sCap cur t cs hu hsz hg hn hsrc hfit h1
  unfold Oper.wp
  simp [execOp, ho, resolve, invoke, builtin, hd, hs, hrun, Result.andThen]
  rw [← hnew] at h
  refine h _ ⟨rfl, rfl, rfl, by simp [World.setRow], fun k _ hk => setRow_other w g k _ (fun e => hk (by rw [e]))⟩ ?_
  simpa using setRow_heap w g _ _ t _ hg

theorem Frm.setCell {w w1 : World} {g : Nat} (h : Frm w w1 g) (i : Nat) (v : Value) : Frm w (w1.setCell ⟨g, i, none⟩ v) g := by
  refine ⟨h.os, h.tape, h.output, ?_, fun k hk hne => ?_⟩
  · have := h.size
    show _ ≤ (w1.heap.modify _ _).size
    rw [Array.size_modify]
    exact this
  · rw [Below.heap_setCell _ _ _ _ (fun e => hne (by have e' : k = g := e; rw [e']))]
    exact h.block k hk hne
theorem wpList_load_wt {P : Program} {ops : Array Oper} {rest : List Oper} {o : Oper} {a : Act} {w : World} {Q : Exit → Act → World → Prop} {ty : TypeId} {x : Operand} (ho : o.op = .load ty x) (hgd : Region.wanted o (yielded ops a.tmps) = true)
    (g off : Nat) (hx : a.eval x = .pointer (some ⟨g, off, none⟩)) (t : TypeId) {cs : Array Value} (vs : Array Value) (fr : Nat × Nat) (d : TypeDesc) (hg : w.heap[g]? = some (.cells cs t fr))
    (hu : P.underlying ty = some d) (hd : (match d with | .struct _ | .array _ _ => true | _ => false) = true) (hi : (P.info? ty).map (·.size) = some vs.size) (hvs : (cs.toList.drop off).take vs.size = vs.toList)
    (h : wpList P ops Q rest (a.put o.dst (.agg vs)) w) : wpList P ops Q (o :: rest) a w :=
  wpList_run hgd (.agg vs) (run_load_part ty x ho g off hx t cs vs fr d hg hu hd hi hvs) h

theorem Frm.put {w w1 : World} {g : Nat} (h : Frm w w1 g) (i : Nat) (v : Value) : Frm w (w1.setCell ⟨g, i, none⟩ v) g := h.setCell i v
end Go.Proofs.YtehhldpmhlocdaaDoor
