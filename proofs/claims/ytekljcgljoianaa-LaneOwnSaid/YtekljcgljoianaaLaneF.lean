/-
  The reference's lane: Put.
-/
import Derived.Test.YtekljcgljoianaaLaneE
namespace Go.Proofs.Ytekljcgljoianaa
open Go.RowKit Go.WideShapes Go.ChangeShapes
set_option linter.unusedVariables false

/-- 'append(s, x...)' onto a row of the call's own, whatever x: nil, empty or not. -/
theorem wpList_append_src {P : Program} {w : World} {ops : Array Oper} {rest : List Oper} {o : Oper} {a : Act} {Q : Exit → Act → World → Prop} (hgd : o.guard = none) (s x : Operand) (t : TypeId)
    (ho : o.op = .call { callee := .builtin .append, args := #[s, x], argTypes := #[t, t] })
    (base : Nat) (e : TypeId) (i : TypeInfo) (z : Value) (size bytes : Nat) (ht : P.underlying t = some (.slice e)) (hi : P.info? e = some i) (hz : i.zero = some z)
    (hsize : i.size = size) (hby : i.bytes = bytes) (hzs : z.cells.size = size) (hsz : 0 < size)
    (v : Value) (n : Nat) (xs : List Value) (hs : a.eval s = v) (hown : w.ownsRow base e size v n xs)
    (A : Option Addr) (m c : Nat) (news : List Value) (hx : a.eval x = .slice A m c) (hA : A = none → m = 0 ∧ c = 0) (hl : news.length = m * size) (hnews : ∀ ad, A = some ad → ∀ j u, news[j]? = some u → w.cell? (ad.add j) = some u) (h1 : ∀ u ∈ news, u.oneCell' = true)
    (h63 : n + m ≤ maxLen) (hbytes : (n + m) * bytes ≤ 140737488355328) (hbase : base ≤ w.heap.size)
    (h : ∀ v' w', w'.ownsRow base e size v' (n + m) (xs ++ news) → w.grownBy w' v.ownBlock → wpList P ops Q rest (a.put o.dst v') w') : wpList P ops Q (o :: rest) a w := by
  cases A with
  | none =>
    obtain ⟨rfl, rfl⟩ := hA rfl
    have hnil : news = [] := List.eq_nil_of_length_eq_zero (by simpa using hl)
    subst hnil
    refine wpList_append_own_none hgd s x t ho base e i size ht hi v n xs hs hown hx (h v w ?_ (World.grownBy.refl _ _))
    simpa using hown
  | some ad => exact wpList_append_own w hgd s x t ho base e i z size bytes ht hi hz hsize hby hzs hsz v n xs hs hown ad m c news hx hl (hnews ad rfl) h1 h63 hbytes hbase fun v' w' k1 k2 _ => h v' w' k1 k2

theorem own_empty (w : World) (e : TypeId) (size : Nat) : (w.alloc (.cells #[] e)).ownsRow w.heap.size e size (.slice (some ⟨w.heap.size, 0, none⟩) 0 0) 0 [] :=
  ⟨by simp, .inr ⟨w.heap.size, 0, #[], rfl, Nat.le_refl _, heap_alloc_new _ _, Nat.le_refl _, Nat.zero_le _, by simp, by simp⟩⟩

theorem info_parts {P : Program} {e : TypeId} {z : Value} {s b : Nat} (h : (P.info? e).map (fun i => (i.zero, i.size, i.bytes)) = some (some z, s, b)) : ∃ i, P.info? e = some i ∧ i.zero = some z ∧ i.size = s ∧ i.bytes = b := by
  obtain ⟨i, hi, he⟩ := Option.map_eq_some_iff.1 h
  simp only [Prod.mk.injEq] at he
  exact ⟨i, hi, he.1, he.2.1, he.2.2⟩
theorem info29 : (Try.prog.info? 29).map (fun i => (i.zero, i.size, i.bytes)) = some (some (.slice none 0 0), 1, 24) := by kernel_rfl
theorem info5 : (Try.prog.info? 5).map (fun i => (i.zero, i.size, i.bytes)) = some (some (.int .u8 0), 1, 1) := by kernel_rfl
theorem RowsAt.src {w : World} {X : Nat → Prop} {A : Option Addr} {n cap : Nat} {Q : List (List UInt8)} (h : RowsAt w X (.slice A n cap) Q) : n = Q.length ∧ n ≤ cap ∧ cap ≤ 9223372036854775807 ∧ (A = none → n = 0 ∧ cap = 0) ∧
    ∃ Vs : List Value, Vs.length = Q.length ∧ (∀ u ∈ Vs, u.oneCell' = true) ∧ (∀ ad, A = some ad → ∀ j u, Vs[j]? = some u → w.cell? (ad.add j) = some u) ∧ ∀ i, (hi : i < Q.length) → ∃ v, Vs[i]? = some v ∧ RowAt w X v Q[i] := by
  obtain ⟨A', cap', he, hl, hm, hA, h⟩ := h
  injection he with e1 e2 e3
  subst e1 e2 e3
  refine ⟨rfl, hl, hm, fun h0 => ⟨by have := hA h0; omega, hA h0⟩, ?_⟩
  rcases h with rfl | ⟨bb, o, rfl, hX, h⟩
  · exact ⟨[], rfl, by simp, by simp, fun i hi => by simp at hi⟩
  · obtain ⟨V, hV⟩ := Go.Deep.choose_lt (α := Value) (n := Q.length) (p := fun i v => ∃ hi : i < Q.length, w.cell? ⟨bb, o + i, none⟩ = some v ∧ RowAt w X v Q[i]) (fun i hi => let ⟨v, k1, k2⟩ := h i hi; ⟨v, hi, k1, k2⟩)
    refine ⟨(List.range Q.length).map V, by simp, fun u hu => ?_, fun ad had j u hu => ?_, fun i hi => ⟨V i, by simp [hi], (hV i hi).2.2⟩⟩
    · simp at hu
      obtain ⟨i, hi, rfl⟩ := hu
      obtain ⟨_, _, _, _, he, _⟩ := hV i hi
      rw [he]; rfl
    · injection had with had
      subst had
      have hj : j < Q.length := by
        have := (List.getElem?_eq_some_iff.1 hu).1
        simpa using this
      simp [hj] at hu
      subst hu
      have := (hV j hj).2.1
      unfold Addr.add
      by_cases h0 : j = 0
      · subst h0; simpa using this
      · simpa [h0] using this
theorem RowAt.nil {w : World} {X : Nat → Prop} {A : Option Addr} {n cap : Nat} {b : List UInt8} (h : RowAt w X (.slice A n cap) b) : A = none → n = 0 ∧ cap = 0 := by
  obtain ⟨A', cap', he, hl, hA, h⟩ := h
  injection he with e1 e2 e3
  subst e1 e2 e3
  intro h0
  rcases h with rfl | ⟨ad, rfl, _⟩
  · exact ⟨rfl, hA h0⟩
  · cases h0

theorem RowAt.of_own {w : World} {X : Nat → Prop} {base : Nat} {v : Value} {b : List UInt8} (h : w.ownsRow base 5 1 v b.length (bcells b)) (hX : ∀ k, X k → k < base) (hl : b.length ≤ 9223372036854775807) : RowAt w X v b := by
  have h' := h
  rcases h.2 with ⟨rfl, hn⟩ | ⟨g, cap, cur, rfl, hb, _, _⟩
  · obtain rfl : b = [] := List.eq_nil_of_length_eq_zero hn
    exact ⟨none, 0, rfl, by simp, by simp, .inl rfl⟩
  · refine ⟨_, cap, rfl, hl, by simp, .inr ⟨⟨g, 0, none⟩, rfl, fun hx => by have : g < base := hX _ hx; omega, fun i hi => ?_⟩⟩
    rw [add_none, Nat.zero_add, h'.cellAt i (by omega)]
    exact bcells_get b i hi

theorem cell_alloc {w : World} {a : Addr} {v : Value} (o : Obj) (h : w.cell? a = some v) : (w.alloc o).cell? a = some v := by
  have hb : a.block < w.heap.size := by
    unfold World.cell? at h
    by_cases hb : a.block < w.heap.size
    · exact hb
    · simp [show w.heap[a.block]? = none from Array.getElem?_eq_none (by omega)] at h
  rw [World.cell?_of_block (w := w) (w' := w.alloc o) (a := a) (Below.heap_alloc _ _ _ hb)]
  exact h

theorem refPut_cut (X Y : Nat → Prop) [Sub Y X] (g : Nat) (x : LS) (v : Value) (b : List UInt8) (w : World) (hX : Y g) (hf : x.fine) (hK : x.asked < 1000000) (hl : RefAt w X g x) (hc : x.cut = true ∨ x.Q.length = x.room) :
    Calls Try.prog 21 #[.pointer (some ⟨g, 0, none⟩), v] w fun e w' => e = .returned (.int .i64 x.putE) ∧ Chg Y w w' ∧ RefAt w' X g (x.put b) := by
  obtain ⟨A, cap, hrows, m0, m1, m2, m3, m4, m5, z⟩ := hl.cells
  have z3 := z 3; have z5 := z 5
  obtain ⟨⟨r0, r1⟩, f0, f1, f2, f3, f4⟩ := hf
  have b0 : 0 ≤ x.asked := by omega
  have l0 : 0 ≤ x.lost := f3
  have l1 : x.lost ≤ 1000000 := by omega
  have HL := hide hl
  clear hrows z f1 f2 f3 f4 hl
  obtain ⟨room, cut, asked, got, lost, Q⟩ := x
  simp only at r0 r1 f0 b0 l0 l1 m0 m1 m2 m3 m4 m5 hK hc
  cases cut
  · have hfull : Q.length = room := by simpa using hc
    clear hc
    have hfull' : (room : Int) ≤ (Q.length : Int) := by omega
    have hfull2 : ¬ (Q.length : Int) < (room : Int) := by omega
    go_enter Try.func21, Try.ntmps21
    go_wp2_with fail
    go_region
    go_wp2_with fail
    go_ret
    have e1 : LS.put ⟨room, false, asked, got, lost, Q⟩ b = ⟨room, false, asked + 1, got, lost + 1, Q⟩ := by simp [LS.put, hfull]
    have e2 : LS.putE ⟨room, false, asked, got, lost, Q⟩ = 3 := by simp [LS.putE, hfull]
    rw [e1, e2]
    exact ⟨rfl, (((Chg.refl Y w).setCell hX _).drew).setCell hX _, ((HL.out.set (Y := Y) hX 3 (.int .i64 (asked + 1)) ⟨room, false, asked + 1, got, lost, Q⟩ (fun _ => rfl) rfl).chg (Chg.refl Y _).drew rfl).set hX 5 _ _ (fun _ => rfl) rfl⟩
  · go_enter Try.func21, Try.ntmps21
    go_wp2_with fail
    go_ret
    exact ⟨rfl, ((Chg.refl Y w).setCell hX _).setCell hX _, (HL.out.set (Y := Y) hX 3 (.int .i64 (asked + 1)) ⟨room, true, asked + 1, got, lost, Q⟩ (fun _ => rfl) rfl).set hX 5 _ _ (fun _ => rfl) rfl⟩

set_option maxRecDepth 100000 in
set_option maxHeartbeats 2000000 in
theorem refPut_any (X Y : Nat → Prop) [Sub Y X] (g : Nat) (x : LS) (A : Option Addr) (n cap : Nat) (b : List UInt8) (w : World) (hX : Y g) (hXlt : ∀ k, X k → k < w.heap.size) (hf : x.fine) (hK : x.asked < 1000000) (hl : RefAt w X g x)
    (hv : RowAt w X (.slice A n cap) b) (hb : n ≤ 140737488355328) :
    Calls Try.prog 21 #[.pointer (some ⟨g, 0, none⟩), .slice A n cap] w fun e w' => e = .returned (.int .i64 x.putE) ∧ Chg Y w w' ∧ RefAt w' X g (x.put b) := by
  by_cases hc : x.cut = true ∨ x.Q.length = x.room
  · exact refPut_cut X Y g x _ b w hX hf hK hl hc
  obtain ⟨AL, capL, hrows, m0, m1, m2, m3, m4, m5, z⟩ := hl.cells
  have z3 := z 3
  obtain ⟨⟨r0, r1⟩, f0, f1, f2, f3, f4⟩ := hf
  have b0 : 0 ≤ x.asked := by omega
  have HL := hide hl; have HV := hide hv
  have HR := hide hrows
  clear hrows z f1 f2 f3 f4 hl hv
  obtain ⟨room, cut, asked, got, lost, Q⟩ := x
  simp only at r0 r1 f0 b0 m0 m1 m2 m3 m4 m5 hK hc
  obtain rfl : cut = false := by cases cut <;> simp_all
  have hfull : Q.length ≠ room := by simpa using hc
  have hroom : (Q.length : Int) < (room : Int) := by omega
  have hroom2 : ¬ (room : Int) ≤ (Q.length : Int) := by omega
  clear hc
  go_enter Try.func21, Try.ntmps21
  go_wp2_with fail
  refine wp_region_class (by kernel_rfl) (by kernel_rfl) (fun C hC hS hN => ?_)
  have hgl : g < w.heap.size := hXlt g (Sub.sub _ hX)
  have HL1 := hide (HL.out.set (Y := Y) hX 3 (.int .i64 (asked + 1)) ⟨room, false, asked + 1, got, lost, Q⟩ (fun _ => rfl) rfl)
  have hW : (w.setCell ⟨g, 3, none⟩ (.int .i64 (asked + 1))).heap.size = w.heap.size := by simp
  obtain ⟨A1, cap1, hrows1, n0, n1, n2, -⟩ := HL1.out.cells
  have c0 : ∀ (u : Of C), u.w.cell? ⟨g, 0, none⟩ = some (.int .i64 room) := fun u => ((hC _ u.ok).cell (by rw [hW]; exact hgl)).trans n0
  have c2 : ∀ (u : Of C), u.w.cell? ⟨g, 2, none⟩ = some (.slice A1 Q.length cap1) := fun u => ((hC _ u.ok).cell (by rw [hW]; exact hgl)).trans n2
  have HR1 := hide hrows1
  clear hS hrows1
  repeat (go_big_quiet_step (fail))
  refine wpQuiet_nil ?_
  intro u hu
  have hcu : Chg Y w u := ((Chg.refl Y w).setCell hX _).trans (Chg.below (X := Y) hu)
  have HLu := hide (HL1.out.chg (Chg.below (X := Y) hu) (hu.block _ (by rw [hW]; exact hgl)))
  have hsu : w.heap.size ≤ u.heap.size := by have := hu.size; rw [hW] at this; exact this
  have HVu := hide (HV.out.chg hcu)
  have HRu := hide (HR1.out.chg (Chg.below (X := Y) hu))
  have HCU := hide hcu
  have p2 : u.cell? ⟨g, 2, none⟩ = some (.slice A1 Q.length cap1) := (hu.cell (by rw [hW]; exact hgl)).trans n2
  have p3 : u.frozen? ⟨g, 2, none⟩ = false := by
    obtain ⟨L', hh, -⟩ := HLu.out
    exact frozen_of_row u g 2 _ 47 hh
  have hgu : g < u.heap.size := by omega
  have p2' : (u.alloc (.cells #[] 29)).cell? ⟨g, 2, none⟩ = some (.slice A1 Q.length cap1) := by
    rw [← p2]; exact ((Below.refl _ _).alloc (Nat.le_refl _) _).cell hgu
  have HP3 := hide p3; have HP2 := hide p2
  have HU1 := hide (own_empty u 29 1)
  obtain ⟨-, hc1, hc2, hA1, Vs, hV1, hV2, hV3, hV4⟩ := (show RowsAt u X (.slice A1 Q.length cap1) Q from HRu.out).src
  replace hV3 := fun ad had j v hv => cell_alloc (.cells #[] 29) (hV3 ad had j v hv)
  obtain ⟨i29, hi29, hz0, hz1, hz2⟩ : ∃ i, Try.prog.info? 29 = some i ∧ i.zero = some (.slice none 0 0) ∧ i.size = 1 ∧ i.bytes = 24 := info_parts info29
  obtain ⟨i5, hi5, hy0, hy1, hy2⟩ : ∃ i, Try.prog.info? 5 = some i ∧ i.zero = some (.int .u8 0) ∧ i.size = 1 ∧ i.bytes = 1 := info_parts info5
  have HVL := hide (show Vs.length = Q.length * 1 by omega)
  have HA1 := hide hA1; have HV2 := hide hV2; have HV3 := hide hV3; have HV4 := hide hV4
  clear hA1 hV2 hV3 hV4
  clear p2 p3 c0 c2 n0 n1 n2 hC hN hu hcu m0 m1 m2 m3 m4 m5 z3 HL HL1 HR HV HR1
  have hlQ : Q.length ≤ 1000 := by omega
  go_wp2_with (at_builtin; go_loud (refine wpList_append_src rfl (.tmp 41) (.tmp 45) 45 rfl u.heap.size 29 i29 (.slice none 0 0) 1 24 Try.underlying45 hi29 hz0 hz1 hz2 rfl (by decide) _ 0 [] rfl HU1.out A1 Q.length cap1 Vs rfl HA1.out HVL.out HV3.out HV2.out (by unfold maxLen; omega) (by omega) (by simp) ?_))
  intro v1 w1 hown1 hgr1
  have hb1 : Below u.heap.size u w1 := ((Below.refl u.heap.size u).alloc (Nat.le_refl _) _).grown hgr1 (by simp) (fun k hk => by have hk' : some u.heap.size = some k := hk; injection hk' with hk'; omega)
  have hs1 := hgr1.size
  simp at hs1
  have HB1 := hide hb1; have HO1 := hide hown1
  clear hgr1 hb1 hown1
  have hU2 := hide (own_empty w1 5 1)
  have HV1' := hide (HVu.out.chg ((Chg.below (X := Y) HB1.out).alloc (.cells #[] 5)))
  obtain ⟨hn, -, hsrc⟩ := HV1'.out.src
  have hnil := HV1'.out.nil
  have HS2 := hide (show ∀ ad, A = some ad → ∀ j v, (bcells b)[j]? = some v → (w1.alloc (.cells #[] 5)).cell? (ad.add j) = some v from fun ad ha j v hv => by
    have hj := (List.getElem?_eq_some_iff.1 hv).1
    obtain ⟨ad', ha', h⟩ := hsrc (by omega)
    rw [ha] at ha'; injection ha' with ha'
    subst ha'
    exact h j v hv)
  have HN2 := hide hnil
  have HL2 := hide (show (bcells b).length = n * 1 by rw [bcells_length]; omega)
  have hbl : n = b.length := hn
  have HBL := hide hbl
  clear hsrc hnil hn hbl
  go_wp2_with (at_builtin; go_loud (refine wpList_append_src rfl (.tmp 47) (.tmp 48) 29 rfl w1.heap.size 5 i5 (.int .u8 0) 1 1 Try.underlying29 hi5 hy0 hy1 hy2 rfl (by decide) _ 0 [] rfl hU2.out A n cap (bcells b) rfl HN2.out HL2.out HS2.out (bcells_one b) (by unfold maxLen; omega) (by omega) (by simp) ?_))
  intro v2 w2 hown2 hgr2
  have hb2 : Below w1.heap.size w1 w2 := ((Below.refl w1.heap.size w1).alloc (Nat.le_refl _) _).grown hgr2 (by simp) (fun k hk => by have hk' : some w1.heap.size = some k := hk; injection hk' with hk'; omega)
  have hs2 := hgr2.size
  simp at hs2
  have HO1b := hide ((HO1.out.alloc (.cells #[] 5)).kept hgr2 (by
    right
    intro he
    have h2 := (HO1.out.lt _ he).2
    have h3 : some w1.heap.size = (Value.slice (some ⟨w1.heap.size, 0, none⟩) 0 0).ownBlock := rfl
    exact absurd h2 (Nat.lt_irrefl _)))
  have HO2 := hide hown2; have HB2 := hide hb2
  obtain ⟨A2, n2, c2, rfl⟩ : ∃ A2 n2 c2, v2 = .slice A2 n2 c2 := by
    rcases hown2.2 with ⟨rfl, _⟩ | ⟨_, _, _, rfl, _⟩ <;> exact ⟨_, _, _, rfl⟩
  clear hgr2 hb2 hown2
  have HOA := hide (HO1b.out.alloc (.cells #[.slice A2 n2 c2] 29))
  go_wp2_with (at_builtin; go_loud (refine wpList_append_own _ rfl (.tmp 46) (.tmp 50) 45 rfl u.heap.size 29 i29 (.slice none 0 0) 1 24 Try.underlying45 hi29 hz0 hz1 hz2 rfl (by decide) _ _ _ rfl HOA.out ⟨w2.heap.size, 0, none⟩ 1 1 [.slice A2 n2 c2] rfl rfl ?c1 ?c2 ?c3 ?c4 ?c5 ?_))
  case c1 => exact (cell_one_new _ _ _)
  case c2 => intro u hu; simp at hu; subst hu; rfl
  case c3 => unfold maxLen; omega
  case c4 => omega
  case c5 => simp; omega
  intro v3 w3 hown3 hgr3 _
  have hs3 := hgr3.size
  simp at hs3
  have hbu2 : Below u.heap.size u w2 := HB1.out.trans (HB2.out.mono (by omega))
  have hbu3 : Below u.heap.size u w3 := (hbu2.alloc (by omega) _).grown hgr3 (by simp; omega) (fun k hk => (HO1b.out.lt k hk).1)
  have HO2c := hide ((HO2.out.alloc (.cells #[.slice A2 n2 c2] 29)).kept hgr3 (by
    by_cases hb' : (Value.slice A2 n2 c2).ownBlock = none
    · exact .inl hb'
    · right
      intro he
      cases hk : v1.ownBlock with
      | none => exact hb' (he.trans hk)
      | some k =>
        have h1 := (HO1.out.lt k hk).2
        have h2 := (HO2.out.lt k (he.trans hk)).1
        omega))
  obtain ⟨g3, cap3, rfl, hb3, hn3, hc3⟩ : ∃ g3 cap3, v3 = .slice (some ⟨g3, 0, none⟩) (Q.length + 1) cap3 ∧ u.heap.size ≤ g3 ∧ Q.length + 1 ≤ cap3 ∧ cap3 ≤ maxLen := by
    rcases hown3.2 with ⟨_, h0⟩ | ⟨g3, cap3, cur, rfl, hb3, hblk, hn3, hc3, _⟩
    · omega
    · exact ⟨g3, cap3, rfl, hb3, hn3, hc3⟩
  have HO3 := hide hown3
  have HBU3 := hide hbu3
  have p2 : w3.cell? ⟨g, 2, none⟩ = some (.slice A1 Q.length cap1) := by
    rw [hbu3.cell hgu]
    obtain ⟨L', hh, A', cap', hL, -⟩ := HLu.out
    exact (HP2.out)
  have p3 : w3.frozen? ⟨g, 2, none⟩ = false := by
    rw [World.frozen?_of_block (a := ⟨g, 2, none⟩) (hbu3.block g hgu)]
    exact HP3.out
  clear hown3 hgr3 hbu2 hbu3
  go_wp2_with fail
  go_ret
  have e1 : LS.put ⟨room, false, asked, got, lost, Q⟩ b = ⟨room, false, asked + 1, got, lost, Q ++ [b]⟩ := by simp [LS.put, hfull]
  have e2 : LS.putE ⟨room, false, asked, got, lost, Q⟩ = 0 := by simp [LS.putE, hfull]
  rw [e1, e2]
  have hC3 : Chg Y u w3 := Chg.below (X := Y) HBU3.out
  have hX3 : ∀ k, X k → k < u.heap.size := fun k hk => by have := hXlt k hk; omega
  have hCw : Chg Y w3 (w3.setCell ⟨g, 2, none⟩ (.slice (some ⟨g3, 0, none⟩) (Q.length + 1) cap3)) := (Chg.refl Y w3).setCell hX _
  obtain ⟨L', hh, -⟩ := HLu.out
  refine ⟨rfl, (HCU.out.trans hC3).setCell hX _, .slice (some ⟨g3, 0, none⟩) (Q.length + 1) cap3, ?_, RowsAt.chg ?_ hCw⟩
  · exact heap_setCell_same _ g 2 _ 47 _ ((HBU3.out.block g hgu).trans hh)
  · have hlen : (Q ++ [b]).length = Q.length + 1 := by simp
    have hown3 := HO3.out
    · show RowsAt w3 X _ (Q ++ [b])
      refine ⟨some ⟨g3, 0, none⟩, cap3, by rw [hlen], by rw [hlen]; exact hn3, hc3, by simp, .inr ⟨g3, 0, rfl, fun hx => by have := hX3 _ hx; omega, fun i hi => ?_⟩⟩
      have hi' : i < Q.length + 1 := by omega
      rw [Nat.zero_add, hown3.cellAt i (by omega)]
      by_cases hlast : i = Q.length
      · subst hlast
        refine ⟨.slice A2 n2 c2, ?_, ?_⟩
        · rw [List.getElem?_append_right (by omega)]
          simp [hV1]
        · have HOW : w3.ownsRow w1.heap.size 5 1 (.slice A2 n2 c2) b.length (bcells b) := by
            have h := HO2c.out
            rw [HBL.out] at h
            simpa using h
          have := RowAt.of_own (X := X) (v := .slice A2 n2 c2) (b := b) (w := w3) (base := w1.heap.size) HOW (fun k hk => by have := hX3 k hk; omega) (by have := HBL.out; omega)
          simpa using this
      · obtain ⟨v, k1, k2⟩ := HV4.out i (by omega)
        refine ⟨v, ?_, ?_⟩
        · rw [List.getElem?_append_left (by have := HVL.out; omega)]
          exact k1
        · rw [List.getElem_append_left (by omega)]
          exact k2.chg hC3
end Go.Proofs.Ytekljcgljoianaa
