/-
  The program's bytes of one: put, putInfo.
-/
import Derived.Test.YtooieocfgifpgaaLpC
namespace Go.Proofs.Ytooieocfgifpgaa
open Go.RowKit Go.WideShapes Go.ChangeShapes
set_option linter.unusedVariables false

theorem info5 : (Try.prog.info? 5).map (fun i => (i.zero, i.size, i.bytes)) = some (some (.int .u8 0), 1, 1) := by kernel_rfl

/-- A row of bytes, from a block's head on, that the call itself has made. -/
def OwnB (w : World) (base g k c : Nat) (ys : List UInt8) : Prop := w.ownsRow base 5 1 (.slice (some ⟨g, 0, none⟩) k c) k (bcells ys)
theorem OwnB.len {w : World} {base g k c : Nat} {ys : List UInt8} (h : OwnB w base g k c ys) : ys.length = k := by
  have := h.1
  rw [bcells_length] at this
  omega
theorem OwnB.lt {w : World} {base g k c : Nat} {ys : List UInt8} (h : OwnB w base g k c ys) : base ≤ g ∧ g < w.heap.size := World.ownsRow.lt h g rfl
theorem OwnB.cell {w : World} {base g k c : Nat} {ys : List UInt8} (h : OwnB w base g k c ys) (i : Nat) (hi : i < ys.length) : w.cell? ⟨g, i, none⟩ = some (.int .u8 (ys[i].toNat : Int)) := by
  have := World.ownsRow.cells h (g := g) rfl i _ (bcells_get ys i hi)
  simpa [Addr.add_lit] using this
/-- Of the old blocks only g has turned. -/
def Frm (w w' : World) (g : Nat) : Prop := w.grownBy w' (some g)
theorem Frm.refl (w : World) (g : Nat) : Frm w w g := World.grownBy.refl _ _
theorem Frm.trans {w w1 w2 : World} {g g1 : Nat} (h1 : Frm w w1 g) (h2 : Frm w1 w2 g1) (hg : g1 = g ∨ w.heap.size ≤ g1) : Frm w w2 g :=
  ⟨h2.os.trans h1.os, h2.tape.trans h1.tape, h2.output.trans h1.output, Nat.le_trans h1.size h2.size, fun k hk hne => (h2.block k (Nat.lt_of_lt_of_le hk h1.size) (by
    intro e
    injection e with e
    rcases hg with rfl | hg
    · exact hne (by rw [e])
    · omega)).trans (h1.block k hk hne)⟩
theorem Frm.alloc {w w1 : World} {g : Nat} (h : Frm w w1 g) (o : Obj) : Frm w (w1.alloc o) g :=
  ⟨h.os, h.tape, h.output, by have := h.size; simp; omega, fun k hk hne => (Below.heap_alloc w1 o k (Nat.lt_of_lt_of_le hk h.size)).trans (h.block k hk hne)⟩
theorem Frm.drew {w w1 : World} {g : Nat} (h : Frm w w1 g) : Frm w w1.drew g := ⟨h.os, h.tape, h.output, h.size, h.block⟩
theorem Frm.below {w w1 : World} {g base : Nat} (h : Frm w w1 g) (hg : base ≤ g) (hb : base ≤ w.heap.size) : Below base w w1 :=
  ⟨h.os, h.tape, h.output, h.size, fun k hk => h.block k (by omega) (by intro e; injection e with e; omega)⟩
theorem Frm.of_below {w w1 : World} (g : Nat) (h : Below w.heap.size w w1) : Frm w w1 g := ⟨h.os, h.tape, h.output, h.size, fun k hk _ => h.block k hk⟩
theorem Frm.keep {w w1 : World} {g b : Nat} {x : Obj} (h : Frm w w1 g) (hb : w.heap[b]? = some x) (hne : b ≠ g) : w1.heap[b]? = some x :=
  (h.block b (Array.getElem?_eq_some_iff.1 hb).1 (by intro e; injection e with e; exact hne e)).trans hb
theorem Frm.cell {w w1 : World} {g b o : Nat} {v : Value} (h : Frm w w1 g) (hc : w.cell? ⟨b, o, none⟩ = some v) (hne : b ≠ g) : w1.cell? ⟨b, o, none⟩ = some v :=
  (World.cell?_of_block (a := ⟨b, o, none⟩) (h.block b (cell_lt hc) (by intro e; injection e with e; exact hne e))).trans hc
theorem OwnB.frm {w w1 : World} {base g g' k c : Nat} {ys : List UInt8} (h : OwnB w base g k c ys) (hf : Frm w w1 g') (hne : g ≠ g') : OwnB w1 base g k c ys :=
  World.ownsRow.kept h hf (.inr (by intro e; injection e with e; exact hne e))
theorem OwnB.alloc {w : World} {base g k c : Nat} {ys : List UInt8} (h : OwnB w base g k c ys) (o : Obj) : OwnB (w.alloc o) base g k c ys := World.ownsRow.alloc h o
theorem OwnB.drew {w : World} {base g k c : Nat} {ys : List UInt8} (h : OwnB w base g k c ys) : OwnB w.drew base g k c ys := World.ownsRow.drew h

theorem wpList_app {w : World} {ops : Array Oper} {rest : List Oper} {o : Oper} {a : Act} {Q : Exit → Act → World → Prop} (hgd : o.guard = none) (s x : Operand)
    (ho : o.op = .call { callee := .builtin .append, args := #[s, x], argTypes := #[29, 29] })
    (base g k c : Nat) (ys news : List UInt8) (hs : a.eval s = .slice (some ⟨g, 0, none⟩) k c) (hown : OwnB w base g k c ys) (ad : Addr) (m cm : Nat) (hx : a.eval x = .slice (some ad) m cm) (hl : news.length = m)
    (hnews : ∀ j u, (bcells news)[j]? = some u → w.cell? (ad.add j) = some u) (hm : 0 < m) (hk : k + m ≤ 100000) (hbase : base ≤ w.heap.size) (K : Nat) (hK : k + m = K) (H : Nat) (hH : w.heap.size = H)
    (h : ∀ g' c' w', OwnB w' base g' K c' (ys ++ news) → Frm w w' g → (g' = g ∨ g' = H) → g' < w'.heap.size → wpList Try.prog ops Q rest (a.put o.dst (.slice (some ⟨g', 0, none⟩) K c')) w') : wpList Try.prog ops Q (o :: rest) a w := by
  subst hK
  obtain ⟨i5, hi5, hy0, hy1, hy2⟩ := info_parts info5
  refine wpList_append_lies _ hgd s x 29 ho base 5 i5 (.int .u8 0) 1 1 Try.underlying29 hi5 hy0 hy1 hy2 rfl (by decide) _ k (bcells ys) hs hown ad m cm (bcells news) hx (by rw [bcells_length]; omega) hnews (bcells_one _) hm (by unfold maxLen; omega) (by omega) hbase H hH ?_
  intro g' c' w' h1 h2 h3 h4
  rw [← bcells_append] at h1
  exact h g' c' w' h1 h2 (by rcases h3 with h3 | h3; exact .inl (by injection h3 with h3; exact h3.symm); exact .inr h3) h4
theorem step_app {w : World} {ops : Array Oper} {o : Oper} {a : Act} {K0 : Act → World → Prop} {Q : Exit → Act → World → Prop} {E : Prop} (hgd : o.guard = none) (s x : Operand)
    (ho : o.op = .call { callee := .builtin .append, args := #[s, x], argTypes := #[29, 29] })
    (base g k c : Nat) (ys news : List UInt8) (hs : a.eval s = .slice (some ⟨g, 0, none⟩) k c) (hown : OwnB w base g k c ys) (ad : Addr) (m cm : Nat) (hx : a.eval x = .slice (some ad) m cm) (hl : news.length = m)
    (hnews : ∀ j u, (bcells news)[j]? = some u → w.cell? (ad.add j) = some u) (hm : 0 < m) (hk : k + m ≤ 100000) (hbase : base ≤ w.heap.size) (K : Nat) (hK : k + m = K) (H : Nat) (hH : w.heap.size = H)
    (h : ∀ g' c' w', OwnB w' base g' K c' (ys ++ news) → Frm w w' g → (g' = g ∨ g' = H) → g' < w'.heap.size → K0 (a.put o.dst (.slice (some ⟨g', 0, none⟩) K c')) w') :
    if Region.wanted o (yielded ops a.tmps) = true then Oper.wp Try.prog o a w K0 Q else E := by
  subst hK
  obtain ⟨i5, hi5, hy0, hy1, hy2⟩ := info_parts info5
  refine step_append_lies _ hgd s x 29 ho base 5 i5 (.int .u8 0) 1 1 Try.underlying29 hi5 hy0 hy1 hy2 rfl (by decide) _ k (bcells ys) hs hown ad m cm (bcells news) hx (by rw [bcells_length]; omega) hnews (bcells_one _) hm (by unfold maxLen; omega) (by omega) hbase H hH ?_
  intro g' c' w' h1 h2 h3 h4
  rw [← bcells_append] at h1
  exact h g' c' w' h1 h2 (by rcases h3 with h3 | h3; exact .inl (by injection h3 with h3; exact h3.symm); exact .inr h3) h4
theorem wpList_zeros {w : World} {ops : Array Oper} {rest : List Oper} {o : Oper} {a : Act} {Q : Exit → Act → World → Prop} (hgd : o.guard = none) (s x : Operand)
    (ho : o.op = .call { callee := .builtin .append, args := #[s, x], argTypes := #[29, 3] })
    (base g k c : Nat) (ys : List UInt8) (hs : a.eval s = .slice (some ⟨g, 0, none⟩) k c) (hown : OwnB w base g k c ys) (m : Nat) (hx : a.eval x = .int .i64 m) (hm : 0 < m) (h0 : 0 < k) (hk : k + m ≤ 100000) (hbase : base ≤ w.heap.size) (K : Nat) (hK : k + m = K)
    (h : ∀ g' c' w', OwnB w' base g' K c' (ys ++ List.replicate m 0) → Frm w w' g → (g' = g ∨ g' = w.heap.size) → g' < w'.heap.size → wpList Try.prog ops Q rest (a.put o.dst (.slice (some ⟨g', 0, none⟩) K c')) w') : wpList Try.prog ops Q (o :: rest) a w := by
  subst hK
  obtain ⟨i5, hi5, hy0, hy1, hy2⟩ := info_parts info5
  obtain ⟨g', c', w', hr, h1, h2, h3, h4⟩ := run_append_zeros (P := Try.prog) w base 29 3 o.type 5 i5 .i64 .i64 Try.underlying29 Try.underlying3 hi5 hy0 hy1 hy2 g c k m (bcells ys) hown hm hk hbase
  have e : bcells ys ++ List.replicate m (Value.int .u8 0) = bcells (ys ++ List.replicate m 0) := by
    rw [bcells_append]
    simp [bcells]
  rw [e] at h1
  exact wpList_plain hgd fun _ hK => by
    unfold Oper.wp execOp
    simp only [ho, resolve, invoke, builtin, Sem.run_bind, Sem.run_pure, Result.andThen_ok, List.map_toArray, List.map_cons, List.map_nil, hs, hx, hr]
    exact hK _ _ (h g' c' w' h1 h2 h3 h4)

theorem two_cells (n : Int) (hn : 0 ≤ n ∧ n ≤ 65535) : bcells (two n) = [.int .u8 (n / 256), .int .u8 (n % 256)] := by
  have h : n / 256 % 256 = n / 256 := by omega
  simp only [bcells, two, List.map_cons, List.map_nil, byteOf_toNat, h]
/-- Bytes out of a block that was laid for them. -/
theorem news_laid {w : World} {b t : Nat} {fr : Nat × Nat} {cs : Array Value} {news : List UInt8} (hb : w.heap[b]? = some (.cells cs t fr)) (hn : bcells news = cs.toList) : ∀ j u, (bcells news)[j]? = some u → w.cell? ((⟨b, 0, none⟩ : Addr).add j) = some u := by
  intro j u hu
  rw [hn] at hu
  exact World.news_of_block hb j u hu

/-- The call hands back the row with more behind; else only g has turned. -/
def Grew (base g m : Nat) (ys : List UInt8) (w : World) (e : Ending) (w' : World) : Prop :=
  ∃ g' c', e = .returned (.slice (some ⟨g', 0, none⟩) m c') ∧ OwnB w' base g' m c' ys ∧ Frm w w' g ∧ (g' = g ∨ w.heap.size ≤ g') ∧ g' < w'.heap.size

set_option maxRecDepth 100000 in
set_option maxHeartbeats 2000000 in
theorem put_any (base g k c m : Nat) (ys : List UInt8) (n : Int) (w : World) (hn : 0 ≤ n ∧ n ≤ 65535) (hown : OwnB w base g k c ys) (hm : k + 2 = m) (hk : k ≤ 1000) (hb : base ≤ w.heap.size) :
    Calls Try.prog 39 #[.slice (some ⟨g, 0, none⟩) k c, .int .i64 n] w (Grew base g m (ys ++ two n) w) := by
  have HF := hide ((Frm.refl w g).alloc (.cells #[.int .u8 (n / 256), .int .u8 (n % 256)] 5))
  have HO := hide (hown.alloc (.cells #[.int .u8 (n / 256), .int .u8 (n % 256)] 5)); have HM := hide hm; have HT := hide (two_cells n hn)
  have HL := hide hown.lt
  clear hown hm
  go_enter Try.func39, Try.ntmps39
  go_wp2_with (at_builtin; go_loud (refine wpList_app rfl (.tmp 5) (.tmp 11) rfl base g k c ys (two n) rfl HO.out ⟨w.heap.size, 0, none⟩ 2 2 rfl rfl (news_laid (heap_alloc_new w _) HT.out) (by decide) (by omega) (by simp; omega) m HM.out (w.heap.size + 1) (by simp) ?_))
  intro g1 c1 w1 hown1 hf1 hg1 hlt1
  have HO1 := hide hown1; have HF1 := hide (HF.out.trans hf1 (.inl rfl)); have HG1 := hide hg1; have HL1 := hide hlt1
  clear hown1 hf1 hg1 hlt1
  go_wp2_with fail
  go_ret
  exact ⟨g1, c1, rfl, HO1.out, HF1.out, by have := HG1.out; omega, HL1.out⟩
end Go.Proofs.Ytooieocfgifpgaa
