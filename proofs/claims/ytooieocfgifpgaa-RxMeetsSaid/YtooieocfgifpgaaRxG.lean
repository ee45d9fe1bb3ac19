/-
  One end of a link: the statements' own first step; an end that did any steps; how a slice of steps opens.
-/
import Derived.Test.YtooieocfgifpgaaRxF
namespace Go.Proofs.Ytooieocfgifpgaa
open Go.RowKit Go.WideShapes Go.ChangeShapes
set_option linter.unusedVariables false

instance : Inhabited SV := ⟨⟨0, 0, 0, false, Inf.zero, Inf.zero, 0⟩⟩
theorem field_port (x0 x1 x2 x3 x4 x5 x6 x7 x8 x9 x10 : Int) (w : World) : (Instr.field 25 (.agg #[.int .i64 x0, .int .u8 x1, .int .u8 x2, .int .u8 x3, .int .u8 x4, .int .u8 x5, .int .u8 x6, .int .i64 x7, .int .i64 x8, .int .i64 x9, .int .i64 x10]) 4).run Try.prog w = .ok (.int .i64 x9) w := by kernel_rfl
theorem field_st (x0 x1 x2 x3 x4 x5 x6 x7 x8 x9 x10 : Int) (w : World) : (Instr.field 25 (.agg #[.int .i64 x0, .int .u8 x1, .int .u8 x2, .int .u8 x3, .int .u8 x4, .int .u8 x5, .int .u8 x6, .int .i64 x7, .int .i64 x8, .int .i64 x9, .int .i64 x10]) 5).run Try.prog w = .ok (.int .i64 x10) w := by kernel_rfl
def A0 : Inf := ⟨1, 2, 0, 0, 0, 0, 0, 5, 0, 7, 7⟩
theorem A0_wf : A0.wf := ⟨by decide, by decide, by decide, by decide, by decide, by decide, by decide, by decide, by decide, by decide, by decide⟩
def stepCells (s : SV) : Array Value := #[.int .i64 s.op, .int .i64 s.now, .int .i64 s.n, .bool s.is, .int .i64 s.la.sp, .int .u8 s.la.m0, .int .u8 s.la.m1, .int .u8 s.la.m2, .int .u8 s.la.m3, .int .u8 s.la.m4, .int .u8 s.la.m5, .int .i64 s.la.key, .int .i64 s.la.pp, .int .i64 s.la.port, .int .i64 s.la.st, .int .i64 s.lp.sp, .int .u8 s.lp.m0, .int .u8 s.lp.m1, .int .u8 s.lp.m2, .int .u8 s.lp.m3, .int .u8 s.lp.m4, .int .u8 s.lp.m5, .int .i64 s.lp.key, .int .i64 s.lp.pp, .int .i64 s.lp.port, .int .i64 s.lp.st, .int .i64 s.d]
/-- A struct read out of cells. -/
theorem wpList_load_cells {P : Program} {ops : Array Oper} {rest : List Oper} {o : Oper} {a : Act} {w : World} {Q : Exit → Act → World → Prop} {ty : TypeId} {x : Operand} (ho : o.op = .load ty x) (hgd : Region.wanted o (yielded ops a.tmps) = true)
    (b off : Nat) (hx : a.eval x = .pointer (some ⟨b, off, none⟩)) (vs : Array Value) (d : TypeDesc) (hc : ∀ j v, vs.toList[j]? = some v → w.cell? ⟨b, off + j, none⟩ = some v)
    (hu : P.underlying ty = some d) (hd : (match d with | .struct _ | .array _ _ => true | _ => false) = true) (hi : (P.info? ty).map (·.size) = some vs.size)
    (h : wpList P ops Q rest (a.put o.dst (.agg vs)) w) : wpList P ops Q (o :: rest) a w := by
  have hl : (loadCells ⟨b, off, none⟩ vs.toList.length).run P w = .ok vs.toList.toArray w :=
    run_loadCells_list (P := P) w ⟨b, off, none⟩ vs.toList (fun j v hv => by
      have hadd : (⟨b, off, none⟩ : Addr).add j = ⟨b, off + j, none⟩ := by unfold Addr.add; split <;> simp_all
      rw [hadd]
      exact hc j v hv)
  have hrun : (loadVar ty ⟨b, off, none⟩).run P w = .ok (.agg vs) w := by
    cases hq : P.info? ty with
    | none => simp [hq] at hi
    | some i =>
      have hs : i.size = vs.size := by simpa [hq] using hi
      have hagg : (isAgg ty).run P w = .ok true w := by
        unfold isAgg
        rw [Sem.run_bind, run_underlying hu w]
        cases d <;> simp_all
      simp only [Array.length_toList, Array.toArray_toList] at hl
      simp [loadVar, Sem.run_bind, hagg, sizeOf, typeInfo, hq, hs, hl]
  refine wpList_run hgd (.agg vs) ?_ h
  unfold execOp
  simp only [ho, hx, Instr.loadAt, Instr.sureAddr, Sem.run_bind, Sem.run_pure, Result.andThen_ok, hrun]
theorem wpList_eq25g {ops : Array Oper} {rest : List Oper} {o : Oper} {a : Act} {w : World} {Q : Exit → Act → World → Prop} {s t : Operand} (ho : o.op = .binOp .eql 25 s t 25) (hgd : Region.wanted o (yielded ops a.tmps) = true) (x y : Inf) (hx : a.eval s = .agg #[.int .i64 x.sp, .int .u8 x.m0, .int .u8 x.m1, .int .u8 x.m2, .int .u8 x.m3, .int .u8 x.m4, .int .u8 x.m5, .int .i64 x.key, .int .i64 x.pp, .int .i64 x.port, .int .i64 x.st]) (hy : a.eval t = .agg #[.int .i64 y.sp, .int .u8 y.m0, .int .u8 y.m1, .int .u8 y.m2, .int .u8 y.m3, .int .u8 y.m4, .int .u8 y.m5, .int .i64 y.key, .int .i64 y.pp, .int .i64 y.port, .int .i64 y.st]) {E : Bool} (hE : eqI x y = E)
    (hk : wpList Try.prog ops Q rest (a.put o.dst (.bool E)) w) : wpList Try.prog ops Q (o :: rest) a w :=
  wpList_run hgd (.bool E) (by subst hE; exact run_eq_op ho hx hy guard25 (run_eqI w 9997 x y)) hk

def Steps (w : World) (B : Nat) (A : Option Addr) (n : Nat) (L : Nat → SV) : Prop :=
  n ≤ 9223372036854775807 ∧ (n = 0 ∨ ∃ b o, A = some ⟨b, o, none⟩ ∧ b < B ∧ ∀ i, i < n → ∀ j v, (stepCells (L i)).toList[j]? = some v → w.cell? ⟨b, o + i * 27 + j, none⟩ = some v)
theorem Steps.below {w w' : World} {B : Nat} {A : Option Addr} {n : Nat} {L : Nat → SV} (h : Steps w B A n L) (hb : Below B w w') : Steps w' B A n L := by
  refine ⟨h.1, ?_⟩
  rcases h.2 with h0 | ⟨b, o, hA, hlt, hc⟩
  · exact .inl h0
  · exact .inr ⟨b, o, hA, hlt, fun i hi j v hv => (hb.cell (by exact hlt)).trans (hc i hi j v hv)⟩

theorem cells50 : Try.prog.cellsOf 50 = 27 := by kernel_rfl
theorem kinds50 : (List.range 27).map (fun j => cellKind Try.prog 6 50 j) = [some (.int .i64), some (.int .i64), some (.int .i64), some .bool, some (.int .i64), some (.int .u8), some (.int .u8), some (.int .u8), some (.int .u8), some (.int .u8), some (.int .u8), some (.int .i64), some (.int .i64), some (.int .i64), some (.int .i64), some (.int .i64), some (.int .u8), some (.int .u8), some (.int .u8), some (.int .u8), some (.int .u8), some (.int .u8), some (.int .i64), some (.int .i64), some (.int .i64), some (.int .i64), some (.int .i64)] := by kernel_rfl
theorem kind50 {j : Nat} {k : CK} (hj : j < 27) (h : [some (CK.int .i64), some (.int .i64), some (.int .i64), some .bool, some (.int .i64), some (.int .u8), some (.int .u8), some (.int .u8), some (.int .u8), some (.int .u8), some (.int .u8), some (.int .i64), some (.int .i64), some (.int .i64), some (.int .i64), some (.int .i64), some (.int .u8), some (.int .u8), some (.int .u8), some (.int .u8), some (.int .u8), some (.int .u8), some (.int .i64), some (.int .i64), some (.int .i64), some (.int .i64), some (.int .i64)][j]? = some (some k)) : cellKind Try.prog 6 50 j = some k := by
  rw [← kinds50, List.getElem?_map, List.getElem?_range hj] at h
  simpa using h

theorem open_rsteps {H : Type} {enc : TypeId × Value → H} {w : World} {r : Reach} {base : Nat} {v : Value} {d : DataW H} {ps : List MemPlace} (hv : Value.okWide Try.prog w r base 41 v)
    (hT : DataW.Trod enc Try.prog w 0 (fun _ => true) true 41 v d ps) : ∃ A n cap L, v = .slice A n cap ∧ Steps w w.heap.size A n L := by
  obtain ⟨A, n, cap, rfl, hn, hc⟩ := open_flats Try.underlying41 hv hT
  rcases hc with rfl | ⟨b, o, rfl, hc⟩
  · exact ⟨A, 0, cap, fun _ => ⟨0, 0, 0, false, Inf.zero, Inf.zero, 0⟩, rfl, by omega, .inl rfl⟩
  rw [cells50] at hc
  have one : ∀ i, i < n → ∃ s : SV, ∀ j v, (stepCells s).toList[j]? = some v → w.cell? ⟨b, o + i * 27 + j, none⟩ = some v := by
    intro i hi
    obtain ⟨u0, c0, v0, rfl, -⟩ := hc i hi 6 0 _ (by decide) (kind50 (by decide) rfl)
    obtain ⟨u1, c1, v1, rfl, -⟩ := hc i hi 6 1 _ (by decide) (kind50 (by decide) rfl)
    obtain ⟨u2, c2, v2, rfl, -⟩ := hc i hi 6 2 _ (by decide) (kind50 (by decide) rfl)
    obtain ⟨u3, c3, v3, rfl⟩ := hc i hi 6 3 _ (by decide) (kind50 (by decide) rfl)
    obtain ⟨u4, c4, v4, rfl, -⟩ := hc i hi 6 4 _ (by decide) (kind50 (by decide) rfl)
    obtain ⟨u5, c5, v5, rfl, -⟩ := hc i hi 6 5 _ (by decide) (kind50 (by decide) rfl)
    obtain ⟨u6, c6, v6, rfl, -⟩ := hc i hi 6 6 _ (by decide) (kind50 (by decide) rfl)
    obtain ⟨u7, c7, v7, rfl, -⟩ := hc i hi 6 7 _ (by decide) (kind50 (by decide) rfl)
    obtain ⟨u8, c8, v8, rfl, -⟩ := hc i hi 6 8 _ (by decide) (kind50 (by decide) rfl)
    obtain ⟨u9, c9, v9, rfl, -⟩ := hc i hi 6 9 _ (by decide) (kind50 (by decide) rfl)
    obtain ⟨u10, c10, v10, rfl, -⟩ := hc i hi 6 10 _ (by decide) (kind50 (by decide) rfl)
    obtain ⟨u11, c11, v11, rfl, -⟩ := hc i hi 6 11 _ (by decide) (kind50 (by decide) rfl)
    obtain ⟨u12, c12, v12, rfl, -⟩ := hc i hi 6 12 _ (by decide) (kind50 (by decide) rfl)
    obtain ⟨u13, c13, v13, rfl, -⟩ := hc i hi 6 13 _ (by decide) (kind50 (by decide) rfl)
    obtain ⟨u14, c14, v14, rfl, -⟩ := hc i hi 6 14 _ (by decide) (kind50 (by decide) rfl)
    obtain ⟨u15, c15, v15, rfl, -⟩ := hc i hi 6 15 _ (by decide) (kind50 (by decide) rfl)
    obtain ⟨u16, c16, v16, rfl, -⟩ := hc i hi 6 16 _ (by decide) (kind50 (by decide) rfl)
    obtain ⟨u17, c17, v17, rfl, -⟩ := hc i hi 6 17 _ (by decide) (kind50 (by decide) rfl)
    obtain ⟨u18, c18, v18, rfl, -⟩ := hc i hi 6 18 _ (by decide) (kind50 (by decide) rfl)
    obtain ⟨u19, c19, v19, rfl, -⟩ := hc i hi 6 19 _ (by decide) (kind50 (by decide) rfl)
    obtain ⟨u20, c20, v20, rfl, -⟩ := hc i hi 6 20 _ (by decide) (kind50 (by decide) rfl)
    obtain ⟨u21, c21, v21, rfl, -⟩ := hc i hi 6 21 _ (by decide) (kind50 (by decide) rfl)
    obtain ⟨u22, c22, v22, rfl, -⟩ := hc i hi 6 22 _ (by decide) (kind50 (by decide) rfl)
    obtain ⟨u23, c23, v23, rfl, -⟩ := hc i hi 6 23 _ (by decide) (kind50 (by decide) rfl)
    obtain ⟨u24, c24, v24, rfl, -⟩ := hc i hi 6 24 _ (by decide) (kind50 (by decide) rfl)
    obtain ⟨u25, c25, v25, rfl, -⟩ := hc i hi 6 25 _ (by decide) (kind50 (by decide) rfl)
    obtain ⟨u26, c26, v26, rfl, -⟩ := hc i hi 6 26 _ (by decide) (kind50 (by decide) rfl)
    refine ⟨⟨v0, v1, v2, v3, ⟨v4, v5, v6, v7, v8, v9, v10, v11, v12, v13, v14⟩, ⟨v15, v16, v17, v18, v19, v20, v21, v22, v23, v24, v25⟩, v26⟩, fun j v hv => ?_⟩
    match j, hv with
    | 0, hv => rw [show v = _ from (Option.some.inj hv).symm]; exact c0
    | 1, hv => rw [show v = _ from (Option.some.inj hv).symm]; exact c1
    | 2, hv => rw [show v = _ from (Option.some.inj hv).symm]; exact c2
    | 3, hv => rw [show v = _ from (Option.some.inj hv).symm]; exact c3
    | 4, hv => rw [show v = _ from (Option.some.inj hv).symm]; exact c4
    | 5, hv => rw [show v = _ from (Option.some.inj hv).symm]; exact c5
    | 6, hv => rw [show v = _ from (Option.some.inj hv).symm]; exact c6
    | 7, hv => rw [show v = _ from (Option.some.inj hv).symm]; exact c7
    | 8, hv => rw [show v = _ from (Option.some.inj hv).symm]; exact c8
    | 9, hv => rw [show v = _ from (Option.some.inj hv).symm]; exact c9
    | 10, hv => rw [show v = _ from (Option.some.inj hv).symm]; exact c10
    | 11, hv => rw [show v = _ from (Option.some.inj hv).symm]; exact c11
    | 12, hv => rw [show v = _ from (Option.some.inj hv).symm]; exact c12
    | 13, hv => rw [show v = _ from (Option.some.inj hv).symm]; exact c13
    | 14, hv => rw [show v = _ from (Option.some.inj hv).symm]; exact c14
    | 15, hv => rw [show v = _ from (Option.some.inj hv).symm]; exact c15
    | 16, hv => rw [show v = _ from (Option.some.inj hv).symm]; exact c16
    | 17, hv => rw [show v = _ from (Option.some.inj hv).symm]; exact c17
    | 18, hv => rw [show v = _ from (Option.some.inj hv).symm]; exact c18
    | 19, hv => rw [show v = _ from (Option.some.inj hv).symm]; exact c19
    | 20, hv => rw [show v = _ from (Option.some.inj hv).symm]; exact c20
    | 21, hv => rw [show v = _ from (Option.some.inj hv).symm]; exact c21
    | 22, hv => rw [show v = _ from (Option.some.inj hv).symm]; exact c22
    | 23, hv => rw [show v = _ from (Option.some.inj hv).symm]; exact c23
    | 24, hv => rw [show v = _ from (Option.some.inj hv).symm]; exact c24
    | 25, hv => rw [show v = _ from (Option.some.inj hv).symm]; exact c25
    | 26, hv => rw [show v = _ from (Option.some.inj hv).symm]; exact c26
  obtain ⟨L, hL⟩ := Go.Deep.choose_lt (α := SV) (n := n) (p := fun i s => ∀ j v, (stepCells s).toList[j]? = some v → w.cell? ⟨b, o + i * 27 + j, none⟩ = some v) (fun i hi => one i hi)
  refine ⟨_, n, cap, L, rfl, hn, ?_⟩
  by_cases h0 : n = 0
  · exact .inl h0
  · exact .inr ⟨b, o, rfl, cell_lt (hL 0 (by omega) 0 _ rfl), fun i hi => hL i hi⟩

theorem step_a (x : ES) (s : SV) : (x.step s).a = x.a := by
  unfold ES.step
  split
  · unfold ES.take; split <;> rfl
  split
  · unfold ES.tick; repeat' split
    all_goals rfl
  split
  · unfold ES.enable; repeat' split
    all_goals rfl
  · unfold ES.mux; split <;> rfl

def MadePost (w : World) (e : Ending) (w' : World) : Prop := ∃ g h x, e = .returned (.tuple #[.pointer (some ⟨g, 0, none⟩), .pointer (some ⟨h, 0, none⟩), .bool true]) ∧ w.heap.size ≤ g ∧ w.heap.size ≤ h ∧ g ≠ h ∧ EndAt w' g 81 x ∧ EndAt w' h 53 x ∧ x.fine ∧ x.a = A0 ∧ Below w.heap.size w w'
set_option maxRecDepth 100000 in
set_option maxHeartbeats 8000000 in
theorem made_any (A : Option Addr) (n cap : Nat) (L : Nat → SV) (w : World) (B : Nat) (hB : B ≤ w.heap.size) (hl : Steps w B A n L) : Calls Try.prog 33 #[.slice A n cap] w (MadePost w) := by
  have hn := hl.1
  have HL := hide hl
  clear hl
  go_enter Try.func33, Try.ntmps33
  go_wp2_with fail
  refine (actor0_any w).mono ?_
  rintro e w1 ⟨rfl, hb1⟩
  have HB1 := hide hb1; have hs1 := hb1.size
  clear hb1
  go_wp2_with fail
  refine (new_any A0 w1).mono ?_
  rintro e w2 (⟨-, g, rfl, hg, hg2, hb2⟩ | ⟨hno, -, -⟩)
  rotate_left
  · exact absurd hno (by decide +kernel)
  have HG2 := hide hg2; have HB2 := hide (HB1.out.trans (hb2.mono hs1)); have hs2 := hb2.size
  have hgl := hg2.lt
  clear hb2 hg2
  go_wp2_with fail
  refine (actor0_any w2).mono ?_
  rintro e w3 ⟨rfl, hb3⟩
  have HG3 := hide (HG2.out.below hb3); have HB3 := hide (HB2.out.trans (hb3.mono HB2.out.size)); have hs3 := hb3.size
  clear hb3 HG2
  go_wp2_with fail
  refine (refNew_any A0 w3).mono ?_
  rintro e w4 (⟨-, h, rfl, hh, hh4, hb4⟩ | ⟨hno, -, -⟩)
  rotate_left
  · exact absurd hno (by decide +kernel)
  have HG4 := hide (HG3.out.below hb4); have HH4 := hide hh4; have HB4 := hide (HB3.out.trans (hb4.mono HB3.out.size))
  have hne : g ≠ h := by omega
  have hwg : w.heap.size ≤ g := by omega
  have hwh : w.heap.size ≤ h := by omega
  clear hb4 hh4 HG3
  go_wp2_with fail
  go_loopw [9] (fun i wr => ∃ (k : Nat) (x : ES), k ≤ n ∧ k ≤ 100 ∧ i = .int .i64 k ∧ EndAt wr g 81 x ∧ EndAt wr h 53 x ∧ x.fine ∧ Hid (x.a = A0) ∧ Below w.heap.size w wr)
    (fun i _ => 100 - (intOf i).toNat)
  case atStart => exact ⟨0, ES.new A0, by omega, by omega, rfl, HG4.out, HH4.out, fine_new A0, hide rfl, HB4.out⟩
  case round =>
    obtain ⟨k, x, hk, hk1, rfl, hg5, hh5, hf5, ha5, hb5⟩ := hrel
    have HG5 := hide hg5; have HH5 := hide hh5; have HF5 := hide hf5; have HB5 := hide hb5
    clear hg5 hh5 hf5 hb5
    by_cases hlt : k < n
    · by_cases hlt1 : k < 100
      · obtain ⟨b, oo, hA, hbB, hcs⟩ : ∃ b o, A = some ⟨b, o, none⟩ ∧ b < B ∧ ∀ j v, (stepCells (L k)).toList[j]? = some v → wr.cell? ⟨b, o + k * 27 + j, none⟩ = some v := by
          rcases (HL.out.below (HB5.out.mono hB)).2 with h0 | ⟨b, o, hA, hbB, hc⟩
          · omega
          · exact ⟨b, o, hA, hbB, hc k hlt⟩
        subst hA
        have HC := hide hcs
        have hk0 : (0 : Int) ≤ (k : Int) := by omega
        have hk2 : (k : Int) < (n : Int) := by omega
        have hk3 : (k : Int) < 100 := by omega
        clear hcs
        go_wp2_with (refine wpList_load_cells (ty := 50) (x := .tmp 44) rfl rfl b (oo + k * 27) rfl (stepCells (L k)) _ HC.out Try.underlying50 rfl (by kernel_rfl) ?_)
        refine (step_any g h x (L k) wr HF5.out hne HG5.out HH5.out).mono ?_
        rintro e w6 ⟨rfl, hg6, hh6, ht6⟩
        have HG6 := hide hg6; have HH6 := hide hh6
        have HB6 := hide (HB5.out.trans (ht6.toBelow hwg hwh HB5.out.size))
        have HA6 := hide ((step_a x (L k)).trans ha5.out)
        clear hg6 hh6 ht6
        go_wp2_with fail
        go_roundw
        case rel => exact ⟨k + 1, x.step (L k), by omega, by omega, by go_num, HG6.out, HH6.out, fine_step HF5.out _, HA6, HB6.out⟩
        case measure => simp [intOf]; omega
      · have hk3 : decide ((k : Int) < 100) = false := by simp; omega
        go_wp2_with fail
        refine bodyPost_ret (v := .tuple #[.pointer (some ⟨g, 0, none⟩), .pointer (some ⟨h, 0, none⟩), .bool true]) (by simp [results, Try.results33, go_sem]) rfl ?_
        exact ⟨g, h, x, rfl, hwg, hwh, hne, HG5.out, HH5.out, HF5.out, ha5.out, HB5.out⟩
    · have hk2 : decide ((k : Int) < (n : Int)) = false := by simp; omega
      go_wp2_with fail
      refine bodyPost_ret (v := .tuple #[.pointer (some ⟨g, 0, none⟩), .pointer (some ⟨h, 0, none⟩), .bool true]) (by simp [results, Try.results33, go_sem]) rfl ?_
      exact ⟨g, h, x, rfl, hwg, hwh, hne, HG5.out, HH5.out, HF5.out, ha5.out, HB5.out⟩

def L1 : Inf := ⟨0, 4, 0, 0, 0, 0, 0, 0, 0, 1, 5⟩
def x1 : ES := (ES.new A0).enable true 0
def x2 : ES := x1.take L1 Inf.zero 0 1
def x3 : ES := x2.tick 4
def x4 : ES := x3.tick 7
theorem fine1 : x1.fine := ⟨by decide +kernel, by decide +kernel⟩
theorem fine2 : x2.fine := ⟨by decide +kernel, by decide +kernel⟩
theorem fine3 : x3.fine := ⟨by decide +kernel, by decide +kernel⟩
theorem t1 : x1.takeE L1 Inf.zero 0 1 = 0 := by decide +kernel
theorem s2 : x2.s = 3 := by decide +kernel
theorem p2 : x2.p.port = 1 := by decide +kernel
theorem s3 : x3.s = 1 := by decide +kernel
theorem s4 : x4.s = 2 := by decide +kernel
theorem p4 : eqI x4.p Inf.zero = true := by decide +kernel
set_option maxRecDepth 100000 in
set_option maxHeartbeats 8000000 in
theorem rxAwake_any (w : World) : Calls Try.prog 25 #[] w fun e w' => e = .returned (.bool true) ∧ Below w.heap.size w w' := by
  have fd := field_port
  have HT1 := hide t1; have HS2 := hide s2; have HP2 := hide p2; have HS3 := hide s3; have HS4 := hide s4
  go_enter Try.func25, Try.ntmps25
  go_wp2_with fail
  refine (actor0_any w).mono ?_
  rintro e wa ⟨rfl, hb1⟩
  have HBa := hide hb1; have hsa := hb1.size
  clear hb1
  go_wp2_with fail
  refine (new_any A0 wa).mono ?_
  rintro e wb (⟨-, g, rfl, hg, hg2, hb2⟩ | ⟨hno, -, -⟩)
  rotate_left
  · exact absurd hno (by decide +kernel)
  have HGb := hide hg2; have HBb := hide (HBa.out.trans (hb2.mono hsa))
  have hwg : w.heap.size ≤ g := by omega
  clear hb2 hg2
  go_wp2_with fail
  refine (enable_any g (ES.new A0) true 0 wb HGb.out).mono ?_
  rintro e wc ⟨rfl, hg3, hf3⟩
  have HGc := hide (show EndAt wc g 81 x1 from hg3); have HBc := hide (HBb.out.trans (hf3.below hwg HBb.out.size))
  clear hg3 hf3
  go_wp2_with fail
  refine (take_any g x1 L1 Inf.zero 0 1 wc HGc.out).mono ?_
  rintro e wd ⟨rfl, hg4, hf4⟩
  rw [HT1.out]
  have HGd := hide (show EndAt wd g 81 x2 from hg4); have HBd := hide (HBc.out.trans (hf4.below hwg HBc.out.size))
  clear hg4 hf4
  go_wp2_with fail
  refine (state_any g 81 x2 wd HGd.out).mono ?_
  rintro e wd' ⟨rfl, rfl⟩
  rw [HS2.out]
  go_wp2_with fail
  refine (partner_any g x2 wd HGd.out).mono ?_
  rintro e we ⟨rfl, hb5⟩
  rw [HP2.out]
  have HGe := hide (HGd.out.below hb5); have HBe := hide (HBd.out.trans (hb5.mono HBd.out.size))
  clear hb5
  go_wp2_with fail
  refine (tick_any g x2 4 we fine2 HGe.out).mono ?_
  rintro e wf ⟨rfl, hg6, hf6⟩
  have HGf := hide (show EndAt wf g 81 x3 from hg6); have HBf := hide (HBe.out.trans (hf6.below hwg HBe.out.size))
  clear hg6 hf6
  go_wp2_with fail
  refine (state_any g 81 x3 wf HGf.out).mono ?_
  rintro e wf' ⟨rfl, rfl⟩
  rw [HS3.out]
  go_wp2_with fail
  refine (tick_any g x3 7 wf fine3 HGf.out).mono ?_
  rintro e wg ⟨rfl, hg7, hf7⟩
  have HGg := hide (show EndAt wg g 81 x4 from hg7); have HBg := hide (HBf.out.trans (hf7.below hwg HBf.out.size))
  clear hg7 hf7
  go_wp2_with fail
  refine (state_any g 81 x4 wg HGg.out).mono ?_
  rintro e wg' ⟨rfl, rfl⟩
  rw [HS4.out]
  go_wp2_with fail
  refine (partner_any g x4 wg HGg.out).mono ?_
  rintro e wh ⟨rfl, hb8⟩
  have HBh := hide (HBg.out.trans (hb8.mono HBg.out.size))
  clear hb8
  go_wp2_with (refine wpList_eq25g rfl rfl x4.p Inf.zero rfl rfl p4 ?_)
  go_ret
  exact ⟨rfl, HBh.out⟩
end Go.Proofs.Ytooieocfgifpgaa
