/-
  The reader: what its walks lean on: a struct stored, a copy, what bytes tell.
-/
import Derived.Test.YtooieocfgifpgaaLpN
import Derived.Laws.CopyOwn
namespace Go.Proofs.Ytooieocfgifpgaa
open Go.RowKit Go.WideShapes Go.ChangeShapes
set_option linter.unusedVariables false

/-- A struct stored into a block that is known whole. -/
theorem wpList_store_at {P : Program} {ops : Array Oper} {rest : List Oper} {o : Oper} {a : Act} {w : World} {Q : Exit → Act → World → Prop} {ty : TypeId} {x y : Operand} (ho : o.op = .store ty x y) (hgd : o.guard = none)
    (g off : Nat) (vs : Array Value) (hx : a.eval x = .pointer (some ⟨g, off, none⟩)) (hy : a.eval y = .agg vs) (t : TypeId) {old : Array Value} (hg : w.heap[g]? = some (.cells old t (0, 0))) (hi : (P.info? ty).map (·.size) = some vs.size)
    (hfit : off + vs.size ≤ old.size) (h1 : ∀ v ∈ vs.toList, v.oneCell' = true) (new : Array Value) (hnew : old.toList.take off ++ vs.toList ++ old.toList.drop (off + vs.size) = new.toList)
    (h : ∀ w', Frm w w' g → w'.heap[g]? = some (.cells new t (0, 0)) → wpList P ops Q rest (a.put o.dst undef) w') : wpList P ops Q (o :: rest) a w := by
  have hst := run_storeCells_at P g off t vs.toList 0 old w hg (by simpa using hfit) (fun v hv => h1 v hv)
  simp only [Nat.add_zero, Array.length_toList] at hst
  rw [hnew] at hst
  have hrun : (storeVar ty ⟨g, off, none⟩ (.agg vs)).run P w = .ok () (w.setRow g new.toList.toArray) := by
    cases hq : P.info? ty with
    | none => simp [hq] at hi
    | some i =>
      have hs : vs.size = i.size := by simp [hq] at hi; omega
      simp [storeVar, sizeOf, typeInfo, hq, Value.cells, hs, hst]
  rw [Array.toArray_toList] at hrun
  refine wpList_plain hgd fun _ hK => ?_
  unfold Oper.wp execOp
  simp only [ho, hx, hy, Instr.storeAt, Instr.sureAddr, Sem.run_bind, Sem.run_pure, Result.andThen_ok, hrun]
  exact hK _ _ (h _ ⟨rfl, rfl, rfl, by simp, fun k _ hk => setRow_other w g k _ (fun e => hk (by rw [e]))⟩ (setRow_heap w g old _ t _ hg))

theorem inf_ones (x : Inf) : ∀ v ∈ (#[.int .i64 x.sp, .int .u8 x.m0, .int .u8 x.m1, .int .u8 x.m2, .int .u8 x.m3, .int .u8 x.m4, .int .u8 x.m5, .int .i64 x.key, .int .i64 x.pp, .int .i64 x.port, .int .i64 x.st] : Array Value).toList, v.oneCell' = true := by simp [Value.oneCell']

theorem res_inf {fn : Func} {p : Tmp} (h : fn.results = #[.cell p 25]) (tmps : Array Value) (w : World) (g : Nat) (x : Inf) (hp : tmps.getD p undef = .pointer (some ⟨g, 0, none⟩)) (hg : w.heap[g]? = some (.cells #[.int .i64 x.sp, .int .u8 x.m0, .int .u8 x.m1, .int .u8 x.m2, .int .u8 x.m3, .int .u8 x.m4, .int .u8 x.m5, .int .i64 x.key, .int .i64 x.pp, .int .i64 x.port, .int .i64 x.st] 25 (0, 0))) : (results fn tmps).run Try.prog w = .ok (.agg #[.int .i64 x.sp, .int .u8 x.m0, .int .u8 x.m1, .int .u8 x.m2, .int .u8 x.m3, .int .u8 x.m4, .int .u8 x.m5, .int .i64 x.key, .int .i64 x.pp, .int .i64 x.port, .int .i64 x.st]) w :=
  results_cell_row h tmps w g 25 _ (0, 0) _ hp hg Try.underlying25 rfl (by kernel_rfl)


/-- Six bytes copied into an info's address. -/
theorem step_copy6 {P : Program} {ops : Array Oper} {o : Oper} {a : Act} {w : World} {K : Act → World → Prop} {Q : Exit → Act → World → Prop} {E : Prop} (hgd : o.guard = none) (d s : Operand) (dT sT : TypeId)
    (ho : o.op = .call { callee := .builtin .copy, args := #[d, s], argTypes := #[dT, sT] }) (elem : TypeId) (hu : P.underlying dT = some (.slice elem)) (hsz : (P.info? elem).map (·.size) = some 1)
    (g off dLen dCap : Nat) (ad : Addr) (sLen sCap : Nat) (hd : a.eval d = .slice (some ⟨g, off, none⟩) dLen dCap) (hs : a.eval s = .slice (some ad) sLen sCap) (cur : Array Value) (t : TypeId)
    (hg : w.heap[g]? = some (.cells cur t (0, 0))) (cs : List Value) (hn : cs.length = Nat.min sLen dLen) (hsrc : ∀ j v, cs[j]? = some v → w.cell? (ad.add j) = some v) (hfit : off + cs.length ≤ cur.size) (h1 : ∀ v ∈ cs, v.oneCell' = true)
    (new : Array Value) (hnew : (cur.toList.take off ++ cs ++ cur.toList.drop (off + cs.length)).toArray = new)
    (h : ∀ w', Frm w w' g → w'.heap[g]? = some (.cells new t (0, 0)) → K (a.put o.dst (goInt cs.length)) w') :
    if Region.wanted o (yielded ops a.tmps) = true then Oper.wp P o a w K Q else E := by
  have hw : Region.wanted o (yielded ops a.tmps) = true := by simp [Region.wanted, hgd]
  rw [if_pos hw]
  have hrun := run_copy_row (P := P) w dT sT o.type elem g off dLen dCap ad sLen sCap cur t cs hu hsz hg hn hsrc hfit h1
  unfold Oper.wp
  simp [execOp, ho, resolve, invoke, builtin, hd, hs, hrun, Result.andThen]
  rw [← hnew] at h
  refine h _ ⟨rfl, rfl, rfl, by simp [World.setRow], fun k _ hk => setRow_other w g k _ (fun e => hk (by rw [e]))⟩ ?_
  simpa using setRow_heap w g _ _ t _ hg

theorem byteOf_nat (x : UInt8) : byteOf (x.toNat : Int) = x := by
  apply UInt8.toNat_inj.1
  have := byteOf_toNat (x.toNat : Int)
  have := x.toNat_lt
  omega
theorem two_num2 (x y : UInt8) : two (num2 x y) = [x, y] := by
  have := x.toNat_lt; have := y.toNat_lt
  have e1 : byteOf (num2 x y / 256) = x := by
    have : num2 x y / 256 = (x.toNat : Int) := by unfold num2; omega
    rw [this, byteOf_nat]
  have e2 : byteOf (num2 x y) = y := by
    apply UInt8.toNat_inj.1
    have := byteOf_toNat (num2 x y)
    unfold num2 at *
    omega
  unfold two
  rw [e1, e2]

def NumPost2 (rb B : Nat) (ys : List UInt8) (w : World) (e : Ending) (w' : World) : Prop :=
  (∃ n zs, (0 ≤ n ∧ n ≤ 65535) ∧ ys = two n ++ zs ∧ e = .returned (.int .i64 n) ∧ RdAt w' rb B zs ∧ Frm w w' rb) ∨
  (ys.length < 2 ∧ e = .panicked [{ v := .iface 91 (.agg #[]), recovered := false }] ∧ Frm w w' rb)
theorem number2_any (rb B : Nat) (ys : List UInt8) (w : World) (hr : RdAt w rb B ys) : Calls Try.prog 52 #[.pointer (some ⟨rb, 0, none⟩)] w (NumPost2 rb B ys w) := by
  refine (number_any rb B ys w hr).mono fun e w' h => ?_
  rcases h with ⟨x, y, zs, h1, h2, h3, h4⟩ | h
  · exact .inl ⟨num2 x y, zs, num2_range x y, by rw [two_num2, h1]; rfl, h2, h3, h4⟩
  · exact .inr h

/-- What an info's bytes may be. -/
def InfAt (kd : UInt8) (ys : List UInt8) : Prop := ∃ (x : Inf) (zs : List UInt8), x.wf ∧ x.fine ∧ ys = [kd, 20] ++ x.bytes ++ zs
theorem inf_short {kd : UInt8} {ys : List UInt8} (h : ys.length < 20) : ¬ InfAt kd ys := by
  rintro ⟨x, zs, -, -, rfl⟩
  rw [List.length_append, List.length_append, bytes_length] at h
  simp at h
  omega
end Go.Proofs.Ytooieocfgifpgaa
