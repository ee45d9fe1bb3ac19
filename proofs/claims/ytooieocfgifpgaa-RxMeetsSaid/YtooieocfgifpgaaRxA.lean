/-
  One end of a link, the program's and the reference's: how it lies in memory; moment, wait, expire, Enable, Mux, Tick, State.
-/
import Derived.Test.YtooieocfgifpgaaLpL
import Derived.Deep.QuietTactic
import Derived.BigQuiet
namespace Go.Proofs.Ytooieocfgifpgaa
open Go.RowKit Go.WideShapes Go.ChangeShapes
set_option linter.unusedVariables false

def Inf.zero : Inf := ⟨0, 0, 0, 0, 0, 0, 0, 0, 0, 0, 0⟩
/-- What an end is, whoever keeps it. -/
structure ES where
  a : Inf
  p : Inf
  s : Int
  m : Int
  f : Int
def Mx : Int := 1099511627776
structure ES.fine (x : ES) : Prop where
  s : 0 ≤ x.s ∧ x.s ≤ 3
  f : 0 ≤ x.f ∧ x.f ≤ 1099511627776
def ES.expire (x : ES) (now : Int) : ES := { x with s := 1, f := now, p := { x.p with st := bits .or .i64 (bits .andNot .i64 x.p.st 8) 2 } }
def ES.down (x : ES) : ES := { x with s := 0, p := { x.p with st := bits .andNot .i64 x.p.st 8 } }
def momE (now : Int) : Int := if inW 1099511627776 now then 0 else 1
def ES.enable (x : ES) (is : Bool) (now : Int) : ES := if inW 1099511627776 now then (if is then (if (x.s == 0) then x.expire now else x) else x.down) else x
def okMux (n : Int) : Bool := !decide (n < 0) && (bits .andNot .i64 n 56 == 0)
def muxE (n : Int) : Int := if okMux n then 0 else 1
def ES.mux (x : ES) (n : Int) : ES := if okMux n then { x with m := n } else x
def ES.wait (x : ES) : Int := if (x.s == 1) || hb x.a.st 1 then 3 else 90
def ES.tick (x : ES) (now : Int) : ES :=
  if inW 1099511627776 now then (if now - x.f < x.wait then x else if (x.s == 3) then x.expire now else if (x.s == 1) then { x with s := 2, p := Inf.zero } else x) else x

def endCells (x : ES) : Array Value := #[.int .i64 x.a.sp, .int .u8 x.a.m0, .int .u8 x.a.m1, .int .u8 x.a.m2, .int .u8 x.a.m3, .int .u8 x.a.m4, .int .u8 x.a.m5, .int .i64 x.a.key, .int .i64 x.a.pp, .int .i64 x.a.port, .int .i64 x.a.st, .int .i64 x.p.sp, .int .u8 x.p.m0, .int .u8 x.p.m1, .int .u8 x.p.m2, .int .u8 x.p.m3, .int .u8 x.p.m4, .int .u8 x.p.m5, .int .i64 x.p.key, .int .i64 x.p.pp, .int .i64 x.p.port, .int .i64 x.p.st, .int .i64 x.s, .int .i64 x.m, .int .i64 x.f]
def EndAt (w : World) (g t : Nat) (x : ES) : Prop := w.heap[g]? = some (.cells (endCells x) t (0, 0))
theorem EndAt.lt {w : World} {g t : Nat} {x : ES} (h : EndAt w g t x) : g < w.heap.size := (Array.getElem?_eq_some_iff.1 h).1
theorem EndAt.set {w : World} {g t : Nat} {x : ES} (h : EndAt w g t x) (i : Nat) (v : Value) (x' : ES) (hc : (endCells x).setIfInBounds i v = endCells x') : EndAt (w.setCell ⟨g, i, none⟩ v) g t x' := by
  unfold EndAt
  rw [← hc]
  exact heap_setCell_same w g i _ t v h
theorem EndAt.frm {w w' : World} {g g' t : Nat} {x : ES} (h : EndAt w g t x) (hf : Frm w w' g') (hne : g ≠ g') : EndAt w' g t x := hf.keep h hne
theorem EndAt.below {w w' : World} {g t : Nat} {x : ES} (h : EndAt w g t x) (hb : Below w.heap.size w w') : EndAt w' g t x := (hb.block g h.lt).trans h
theorem EndAt.dn {w : World} {g t : Nat} {x : ES} (h : EndAt w g t x) (n : Nat) : EndAt (w.drewN n) g t x := h
structure EndFacts (w : World) (g : Nat) (x : ES) : Prop where
  c10 : w.cell? ⟨g, 10, none⟩ = some (.int .i64 x.a.st)
  c21 : w.cell? ⟨g, 21, none⟩ = some (.int .i64 x.p.st)
  c22 : w.cell? ⟨g, 22, none⟩ = some (.int .i64 x.s)
  c23 : w.cell? ⟨g, 23, none⟩ = some (.int .i64 x.m)
  c24 : w.cell? ⟨g, 24, none⟩ = some (.int .i64 x.f)
  z : ∀ i, w.frozen? ⟨g, i, none⟩ = false
theorem EndAt.facts {w : World} {g t : Nat} {x : ES} (h : EndAt w g t x) : EndFacts w g x :=
  ⟨cell_of_row w g 10 _ t (0, 0) h, cell_of_row w g 21 _ t (0, 0) h, cell_of_row w g 22 _ t (0, 0) h, cell_of_row w g 23 _ t (0, 0) h, cell_of_row w g 24 _ t (0, 0) h, fun i => frozen_of_row w g i _ t h⟩
theorem Frm.setCell {w w1 : World} {g : Nat} (h : Frm w w1 g) (i : Nat) (v : Value) : Frm w (w1.setCell ⟨g, i, none⟩ v) g := by
  refine ⟨h.os, h.tape, h.output, ?_, fun k hk hne => ?_⟩
  · have := h.size
    show _ ≤ (w1.heap.modify _ _).size
    rw [Array.size_modify]
    exact this
  · rw [Below.heap_setCell _ _ _ _ (fun e => hne (by have e' : k = g := e; rw [e']))]
    exact h.block k hk hne
theorem Frm.dn {w w1 : World} {g : Nat} (h : Frm w w1 g) (n : Nat) : Frm w (w1.drewN n) g := ⟨h.os, h.tape, h.output, h.size, h.block⟩

/-- A struct stored into a block that is known whole. -/
theorem wpList_store_part {P : Program} {ops : Array Oper} {rest : List Oper} {o : Oper} {a : Act} {w : World} {Q : Exit → Act → World → Prop} {ty : TypeId} {x y : Operand} (ho : o.op = .store ty x y) (hgd : o.guard = none)
    (g off : Nat) (vs : Array Value) (hx : a.eval x = .pointer (some ⟨g, off, none⟩)) (hy : a.eval y = .agg vs) (t : TypeId) {old : Array Value} (hg : w.heap[g]? = some (.cells old t (0, 0))) (hi : (P.info? ty).map (·.size) = some vs.size)
    (hfit : off + vs.size ≤ old.size) (h1 : ∀ v ∈ vs.toList, v.oneCell' = true) (new : Array Value) (hnew : old.toList.take off ++ vs.toList ++ old.toList.drop (off + vs.size) = new.toList)
    (h : ∀ w', Frm w w' g → w'.heap[g]? = some (.cells new t (0, 0)) → wpList P ops Q rest (a.put o.dst undef) w') : wpList P ops Q (o :: rest) a w := by
  have hst := run_storeCells_at P g off t vs.toList 0 old w hg (by simpa using hfit) (fun v hv => h1 v hv)
  simp only [Nat.add_zero, Array.length_toList] at hst
  rw [hnew] at hst
  have hrun : (storeVar ty ⟨g, off, none⟩ (.agg vs)).run P w = .ok () (w.setRow g new.toList.toArray) := by
    cases hq : P.info? ty with
    | none => simp [hq] at hi
    | some i =>
      have hs : vs.size = i.size := by simp [hq] at hi; omega
      simp [storeVar, sizeOf, typeInfo, hq, Value.cells, hs, hst]
  rw [Array.toArray_toList] at hrun
  refine wpList_plain hgd fun _ hK => ?_
  unfold Oper.wp execOp
  simp only [ho, hx, hy, Instr.storeAt, Instr.sureAddr, Sem.run_bind, Sem.run_pure, Result.andThen_ok, hrun]
  exact hK _ _ (h _ ⟨rfl, rfl, rfl, by simp, fun k _ hk => setRow_other w g k _ (fun e => hk (by rw [e]))⟩ (setRow_heap w g old _ t _ hg))

theorem inf_one (x : Inf) : ∀ v ∈ (#[.int .i64 x.sp, .int .u8 x.m0, .int .u8 x.m1, .int .u8 x.m2, .int .u8 x.m3, .int .u8 x.m4, .int .u8 x.m5, .int .i64 x.key, .int .i64 x.pp, .int .i64 x.port, .int .i64 x.st] : Array Value).toList, v.oneCell' = true := by simp [Value.oneCell']

theorem moment_any (n : Int) (w : World) : Calls Try.prog 60 #[.int .i64 n] w fun e w' => e = .returned (.bool (inW 1099511627776 n)) ∧ w = w' := by
  rcases (show n < 0 ∨ (0 ≤ n ∧ 1099511627776 < n) ∨ (0 ≤ n ∧ n ≤ 1099511627776) by omega) with h | ⟨h, h'⟩ | ⟨h, h'⟩
  · have HF := hide (show inW 1099511627776 n = false by simp [inW]; omega)
    go_enter Try.func60, Try.ntmps60
    go_wp2
    go_ret
    exact ⟨by rw [HF.out]; rfl, rfl⟩
  · have HF := hide (show inW 1099511627776 n = false by simp [inW]; omega)
    have hd : decide (n ≤ 1099511627776) = false := by simp; omega
    go_enter Try.func60, Try.ntmps60
    go_wp2
    go_ret
    exact ⟨by rw [HF.out]; rfl, rfl⟩
  · have HF := hide (show inW 1099511627776 n = true by simp [inW]; omega)
    go_enter Try.func60, Try.ntmps60
    go_wp2
    go_ret
    exact ⟨by rw [HF.out]; rfl, rfl⟩

theorem refMoment_any (n : Int) (w : World) : Calls Try.prog 68 #[.int .i64 n] w fun e w' => e = .returned (.bool (inW 1099511627776 n)) ∧ w = w' := by
  rcases (show n < 0 ∨ (0 ≤ n ∧ 1099511627776 < n) ∨ (0 ≤ n ∧ n ≤ 1099511627776) by omega) with h | ⟨h, h'⟩ | ⟨h, h'⟩
  · have HF := hide (show inW 1099511627776 n = false by simp [inW]; omega)
    go_enter Try.func68, Try.ntmps68
    go_wp2
    go_ret
    exact ⟨by rw [HF.out]; rfl, rfl⟩
  · have HF := hide (show inW 1099511627776 n = false by simp [inW]; omega)
    have hd : decide (n ≤ 1099511627776) = false := by simp; omega
    go_enter Try.func68, Try.ntmps68
    go_wp2
    go_ret
    exact ⟨by rw [HF.out]; rfl, rfl⟩
  · have HF := hide (show inW 1099511627776 n = true by simp [inW]; omega)
    go_enter Try.func68, Try.ntmps68
    go_wp2
    go_ret
    exact ⟨by rw [HF.out]; rfl, rfl⟩

theorem state_any (g t : Nat) (x : ES) (w : World) (h : EndAt w g t x) : Calls Try.prog 29 #[.pointer (some ⟨g, 0, none⟩)] w fun e w' => e = .returned (.int .i64 x.s) ∧ w = w' := by
  obtain ⟨-, -, c22, -, -, -⟩ := h.facts
  clear h
  go_enter Try.func29, Try.ntmps29
  go_wp2
  go_ret
  exact ⟨rfl, rfl⟩
theorem and2 (p : Int) : bits .and .i64 p 2 = if hb p 1 then 2 else 0 := and_bit bit2 (by decide) (by decide) p
theorem wait_any (g : Nat) (x : ES) (w : World) (h : EndAt w g 81 x) : Calls Try.prog 61 #[.pointer (some ⟨g, 0, none⟩)] w fun e w' => e = .returned (.int .i64 x.wait) ∧ w = w' := by
  obtain ⟨c10, -, c22, -, -, -⟩ := h.facts
  have hw : x.wait = if (x.s == 1) || hb x.a.st 1 then 3 else 90 := rfl
  have h2 : (bits .and .i64 x.a.st 2 != 0) = hb x.a.st 1 := by rw [and2]; cases hb x.a.st 1 <;> decide
  generalize hb x.a.st 1 = B at hw h2
  generalize h1 : (x.s == 1) = A at hw
  have HW := hide hw
  clear h hw
  cases A
  · cases B
    all_goals
      go_enter Try.func61, Try.ntmps61
      go_wp2
      go_ret
      exact ⟨by rw [HW.out]; rfl, rfl⟩
  · go_enter Try.func61, Try.ntmps61
    go_wp2
    go_ret
    exact ⟨by rw [HW.out]; rfl, rfl⟩

theorem expire_any (g : Nat) (x : ES) (now : Int) (w : World) (h : EndAt w g 81 x) : Calls Try.prog 62 #[.pointer (some ⟨g, 0, none⟩), .int .i64 now] w fun e w' => e = .returned (.tuple #[]) ∧ EndAt w' g 81 (x.expire now) ∧ Frm w w' g := by
  obtain ⟨-, c21, c22, -, c24, z⟩ := h.facts
  have z21 := z 21; have z22 := z 22; have z24 := z 24
  have H := hide h
  clear h z
  go_enter Try.func62, Try.ntmps62
  go_wp2
  go_end0
  exact ⟨rfl, ((H.out.set 22 _ { x with s := 1 } rfl).set 24 _ { x with s := 1, f := now } rfl).set 21 _ (x.expire now) rfl, (((Frm.refl w g).setCell 22 _).setCell 24 _).setCell 21 _⟩

theorem mux_any (g : Nat) (x : ES) (n : Int) (w : World) (h : EndAt w g 81 x) : Calls Try.prog 37 #[.pointer (some ⟨g, 0, none⟩), .int .i64 n] w fun e w' => e = .returned (.int .i64 (muxE n)) ∧ EndAt w' g 81 (x.mux n) ∧ Frm w w' g := by
  obtain ⟨-, -, -, c23, -, z⟩ := h.facts
  have z23 := z 23
  have H := hide h
  clear h z
  have hk : okMux n = (!decide (n < 0) && (bits .andNot .i64 n 56 == 0)) := rfl
  have hm : x.mux n = if okMux n then { x with m := n } else x := rfl
  have hx : muxE n = if okMux n then 0 else 1 := rfl
  obtain ⟨B, h2⟩ : ∃ B, (bits .andNot .i64 n 56 == 0) = B := ⟨_, rfl⟩
  rw [h2] at hk
  have e2 := ne_of h2
  by_cases hn : n < 0
  · have HK := hide (show okMux n = false by rw [hk]; simp [hn])
    rw [HK.out] at hm hx
    have HM := hide hm; have HX := hide hx
    clear hk hm hx h2 e2
    go_enter Try.func37, Try.ntmps37
    go_wp2
    go_ret
    exact ⟨by rw [HX.out]; rfl, by rw [HM.out]; exact H.out, Frm.refl _ _⟩
  · have HK := hide (show okMux n = B by rw [hk]; simp [hn])
    rw [HK.out] at hm hx
    have HM := hide hm; have HX := hide hx
    clear hk hm hx
    cases B
    · clear h2
      go_enter Try.func37, Try.ntmps37
      go_wp2
      go_ret
      exact ⟨by rw [HX.out]; rfl, by rw [HM.out]; exact H.out, Frm.refl _ _⟩
    · clear h2
      go_enter Try.func37, Try.ntmps37
      go_wp2
      go_ret
      exact ⟨by rw [HX.out]; rfl, by rw [HM.out]; exact H.out.set 23 _ { x with m := n } rfl, (Frm.refl w g).setCell 23 _⟩

theorem enable_any (g : Nat) (x : ES) (is : Bool) (now : Int) (w : World) (h : EndAt w g 81 x) : Calls Try.prog 36 #[.pointer (some ⟨g, 0, none⟩), .bool is, .int .i64 now] w fun e w' => e = .returned (.int .i64 (momE now)) ∧ EndAt w' g 81 (x.enable is now) ∧ Frm w w' g := by
  obtain ⟨-, c21, c22, -, -, z⟩ := h.facts
  have z21 := z 21; have z22 := z 22
  have H := hide h
  have hm : momE now = if inW 1099511627776 now then 0 else 1 := rfl
  have he : x.enable is now = if inW 1099511627776 now then (if is then (if (x.s == 0) then x.expire now else x) else x.down) else x := rfl
  have HMo := hide (fun u => moment_any now u)
  generalize inW 1099511627776 now = M at hm he HMo
  have HM := hide hm; have HE := hide he
  clear h z hm he
  cases M
  · go_enter Try.func36, Try.ntmps36
    go_wp2_with (go_at_call 60; refine (HMo.out _).mono ?_; rintro e w' ⟨rfl, rfl⟩)
    go_ret
    exact ⟨by rw [HM.out]; rfl, by rw [HE.out]; exact H.out, Frm.refl _ _⟩
  · cases is
    · go_enter Try.func36, Try.ntmps36
      go_wp2_with (go_at_call 60; refine (HMo.out _).mono ?_; rintro e w' ⟨rfl, rfl⟩)
      go_ret
      exact ⟨by rw [HM.out]; rfl, by rw [HE.out]; exact (H.out.set 22 _ { x with s := 0 } rfl).set 21 _ x.down rfl, ((Frm.refl w g).setCell 22 _).setCell 21 _⟩
    · obtain ⟨B, h0⟩ : ∃ B, (x.s == 0) = B := ⟨_, rfl⟩
      have HE' := HE.out
      rw [h0] at HE'
      have HE2 := hide HE'
      clear HE HE'
      cases B
      · go_enter Try.func36, Try.ntmps36
        go_wp2_with (go_at_call 60; refine (HMo.out _).mono ?_; rintro e w' ⟨rfl, rfl⟩)
        go_ret
        exact ⟨by rw [HM.out]; rfl, by rw [HE2.out]; exact H.out, Frm.refl _ _⟩
      · go_enter Try.func36, Try.ntmps36
        go_wp2_with (go_at_call 60; refine (HMo.out _).mono ?_; rintro e w' ⟨rfl, rfl⟩)
        refine (expire_any g x now w H.out).mono ?_
        rintro e w1 ⟨rfl, h1, hf1⟩
        have H1 := hide h1; have HF1 := hide hf1
        clear h1 hf1
        go_wp2_with fail
        go_ret
        exact ⟨by rw [HM.out]; rfl, by rw [HE2.out]; exact H1.out, HF1.out⟩

theorem refExpire_any (g : Nat) (x : ES) (now : Int) (w : World) (h : EndAt w g 53 x) : Calls Try.prog 69 #[.pointer (some ⟨g, 0, none⟩), .int .i64 now] w fun e w' => e = .returned (.tuple #[]) ∧ EndAt w' g 53 (x.expire now) ∧ Frm w w' g := by
  obtain ⟨-, c21, c22, -, c24, z⟩ := h.facts
  have z21 := z 21; have z22 := z 22; have z24 := z 24
  have H := hide h
  clear h z
  go_enter Try.func69, Try.ntmps69
  go_wp2
  go_end0
  exact ⟨rfl, ((H.out.set 22 _ { x with s := 1 } rfl).set 24 _ { x with s := 1, f := now } rfl).set 21 _ (x.expire now) rfl, (((Frm.refl w g).setCell 22 _).setCell 24 _).setCell 21 _⟩

theorem refMux_any (g : Nat) (x : ES) (n : Int) (w : World) (h : EndAt w g 53 x) : Calls Try.prog 59 #[.pointer (some ⟨g, 0, none⟩), .int .i64 n] w fun e w' => e = .returned (.int .i64 (muxE n)) ∧ EndAt w' g 53 (x.mux n) ∧ Frm w w' g := by
  obtain ⟨-, -, -, c23, -, z⟩ := h.facts
  have z23 := z 23
  have H := hide h
  clear h z
  have hk : okMux n = (!decide (n < 0) && (bits .andNot .i64 n 56 == 0)) := rfl
  have hm : x.mux n = if okMux n then { x with m := n } else x := rfl
  have hx : muxE n = if okMux n then 0 else 1 := rfl
  obtain ⟨B, h2⟩ : ∃ B, (bits .andNot .i64 n 56 == 0) = B := ⟨_, rfl⟩
  rw [h2] at hk
  have e2 := ne_of h2
  by_cases hn : n < 0
  · have HK := hide (show okMux n = false by rw [hk]; simp [hn])
    rw [HK.out] at hm hx
    have HM := hide hm; have HX := hide hx
    clear hk hm hx h2 e2
    go_enter Try.func59, Try.ntmps59
    go_wp2
    go_ret
    exact ⟨by rw [HX.out]; rfl, by rw [HM.out]; exact H.out, Frm.refl _ _⟩
  · have HK := hide (show okMux n = B by rw [hk]; simp [hn])
    rw [HK.out] at hm hx
    have HM := hide hm; have HX := hide hx
    clear hk hm hx
    cases B
    · clear h2
      go_enter Try.func59, Try.ntmps59
      go_wp2
      go_ret
      exact ⟨by rw [HX.out]; rfl, by rw [HM.out]; exact H.out, Frm.refl _ _⟩
    · clear h2
      go_enter Try.func59, Try.ntmps59
      go_wp2
      go_ret
      exact ⟨by rw [HX.out]; rfl, by rw [HM.out]; exact H.out.set 23 _ { x with m := n } rfl, (Frm.refl w g).setCell 23 _⟩

theorem refEnable_any (g : Nat) (x : ES) (is : Bool) (now : Int) (w : World) (h : EndAt w g 53 x) : Calls Try.prog 58 #[.pointer (some ⟨g, 0, none⟩), .bool is, .int .i64 now] w fun e w' => e = .returned (.int .i64 (momE now)) ∧ EndAt w' g 53 (x.enable is now) ∧ Frm w w' g := by
  obtain ⟨-, c21, c22, -, -, z⟩ := h.facts
  have z21 := z 21; have z22 := z 22
  have H := hide h
  have hm : momE now = if inW 1099511627776 now then 0 else 1 := rfl
  have he : x.enable is now = if inW 1099511627776 now then (if is then (if (x.s == 0) then x.expire now else x) else x.down) else x := rfl
  have HMo := hide (fun u => refMoment_any now u)
  generalize inW 1099511627776 now = M at hm he HMo
  have HM := hide hm; have HE := hide he
  clear h z hm he
  cases M
  · go_enter Try.func58, Try.ntmps58
    go_wp2_with (go_at_call 68; refine (HMo.out _).mono ?_; rintro e w' ⟨rfl, rfl⟩)
    go_ret
    exact ⟨by rw [HM.out]; rfl, by rw [HE.out]; exact H.out, Frm.refl _ _⟩
  · cases is
    · go_enter Try.func58, Try.ntmps58
      go_wp2_with (go_at_call 68; refine (HMo.out _).mono ?_; rintro e w' ⟨rfl, rfl⟩)
      go_ret
      exact ⟨by rw [HM.out]; rfl, by rw [HE.out]; exact (H.out.set 22 _ { x with s := 0 } rfl).set 21 _ x.down rfl, ((Frm.refl w g).setCell 22 _).setCell 21 _⟩
    · obtain ⟨B, h0⟩ : ∃ B, (x.s == 0) = B := ⟨_, rfl⟩
      have HE' := HE.out
      rw [h0] at HE'
      have HE2 := hide HE'
      clear HE HE'
      cases B
      · go_enter Try.func58, Try.ntmps58
        go_wp2_with (go_at_call 68; refine (HMo.out _).mono ?_; rintro e w' ⟨rfl, rfl⟩)
        go_ret
        exact ⟨by rw [HM.out]; rfl, by rw [HE2.out]; exact H.out, Frm.refl _ _⟩
      · go_enter Try.func58, Try.ntmps58
        go_wp2_with (go_at_call 68; refine (HMo.out _).mono ?_; rintro e w' ⟨rfl, rfl⟩)
        refine (refExpire_any g x now w H.out).mono ?_
        rintro e w1 ⟨rfl, h1, hf1⟩
        have H1 := hide h1; have HF1 := hide hf1
        clear h1 hf1
        go_wp2_with fail
        go_ret
        exact ⟨by rw [HM.out]; rfl, by rw [HE2.out]; exact H1.out, HF1.out⟩
end Go.Proofs.Ytooieocfgifpgaa
