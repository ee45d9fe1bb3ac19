/-
  Proved: MacOnce: any text that is parsed is the address's text, and any number that is one is its number; the law answers true at every text and number.
  No condition.
-/
import Derived.Test.YtgklokpjfnpabaaMacI
namespace Go.Proofs.Ytgklokpjfnpabaa
open Go.RowKit Go.ChangeShapes Go.WideShapes Go.ChangeAt
set_option linter.unusedVariables false

set_option maxHeartbeats 2000000 in
theorem once_walk (s : ByteArray) (n : Int) (x0 x1 x2 x3 x4 x5 ex y0 y1 y2 y3 y4 y5 ey : Int) (w : World)
    (H1 : ∀ u, Calls Try.prog 23 #[.string s] u fun e w' => e = .returned (.tuple #[.agg #[.int .u8 x0, .int .u8 x1, .int .u8 x2, .int .u8 x3, .int .u8 x4, .int .u8 x5], .int .i64 ex]) ∧ Below u.heap.size u w')
    (H2 : ∀ u, Calls Try.prog 20 #[.int .u64 n] u fun e w' => e = .returned (.tuple #[.agg #[.int .u8 y0, .int .u8 y1, .int .u8 y2, .int .u8 y3, .int .u8 y4, .int .u8 y5], .int .i64 ey]) ∧ Below u.heap.size u w')
    (HT : ∀ u, Calls Try.prog 11 #[.agg #[.int .u8 x0, .int .u8 x1, .int .u8 x2, .int .u8 x3, .int .u8 x4, .int .u8 x5]] u fun e w' => (ex = 0 → e = Ending.returned (.string s)) ∧ (ex ≠ 0 → True) ∧ Below u.heap.size u w')
    (HN : ∀ u, Calls Try.prog 13 #[.agg #[.int .u8 y0, .int .u8 y1, .int .u8 y2, .int .u8 y3, .int .u8 y4, .int .u8 y5]] u fun e w' => (ey = 0 → e = Ending.returned (.int .u64 n)) ∧ Below u.heap.size u w')
    (hn : 0 ≤ n) (hway : (ex = 0 ∨ ex = 2) ∧ (ey = 0 ∧ n < 281474976710656 ∨ ey = 1 ∧ 281474976710656 ≤ n)) :
    Calls Try.prog 9 #[.string s, .int .u64 n] w fun e w' => e = .returned (.bool true) ∧ Below w.heap.size w w' := by
  have K1 := hide H1
  have K2 := hide H2
  have K3 : Hid (ex = 0 → ∀ u, Calls Try.prog 11 #[.agg #[.int .u8 x0, .int .u8 x1, .int .u8 x2, .int .u8 x3, .int .u8 x4, .int .u8 x5]] u fun e w' => e = Ending.returned (.string s) ∧ Below u.heap.size u w') := hide (fun h u => (HT u).mono fun e w' ⟨h1, _, h2⟩ => ⟨h1 h, h2⟩)
  have K4 : Hid (ey = 0 → ∀ u, Calls Try.prog 13 #[.agg #[.int .u8 y0, .int .u8 y1, .int .u8 y2, .int .u8 y3, .int .u8 y4, .int .u8 y5]] u fun e w' => e = Ending.returned (.int .u64 n) ∧ Below u.heap.size u w') := hide (fun h u => (HN u).mono fun e w' ⟨h1, h2⟩ => ⟨h1 h, h2⟩)
  clear H1 H2 HT HN
  obtain ⟨rfl | rfl, ⟨rfl, h1⟩ | ⟨rfl, h1⟩⟩ := hway
  all_goals
    go_enter Try.func9, Try.ntmps9
    go_wp2_with fail
    refine (awake_any _).mono ?_
    rintro e w1 ⟨rfl, hb1⟩
    have hs1 := hb1.size
    go_wp2_with fail
    refine (K1.out _).mono ?_
    rintro e w2 ⟨rfl, hb2⟩
    have hs2 := hb2.size
    go_wp2_with fail
    refine (K2.out _).mono ?_
    rintro e w3 ⟨rfl, hb3⟩
    have hs3 : w2.heap.size < w3.heap.size := by have := hb3.size; simp at this; omega
    have c3 : ∀ (o : Nat) (ob : Obj), (w3.alloc ob).cell? ⟨w2.heap.size, o, none⟩ = (w2.alloc (.cells #[.int .u8 x0, .int .u8 x1, .int .u8 x2, .int .u8 x3, .int .u8 x4, .int .u8 x5] 23)).cell? ⟨w2.heap.size, o, none⟩ := fun o ob =>
      (World.cell?_alloc_lt w3 ob ⟨w2.heap.size, o, none⟩ hs3).trans (hb3.cell (by simp))
    have hb : Below w.heap.size w (w3.alloc (.cells #[.int .u8 y0, .int .u8 y1, .int .u8 y2, .int .u8 y3, .int .u8 y4, .int .u8 y5] 23)) := hb1.trans ((hb2.mono hs1).trans ((((Below.refl _ w2).alloc (Nat.le_refl _) _).mono (by omega)).trans ((hb3.mono (by simp; omega)).trans (((Below.refl _ w3).alloc (Nat.le_refl _) _).mono (by omega)))))
  · go_wp2_with fail
    refine (K3.out (by simp) _).mono ?_
    rintro e w4 ⟨rfl, hb4⟩
    have hs4 : w3.heap.size + 1 ≤ w4.heap.size := by have := hb4.size; simpa using this
    have c4 : ∀ (o : Nat), w4.cell? ⟨w3.heap.size, o, none⟩ = (w3.alloc (.cells #[.int .u8 y0, .int .u8 y1, .int .u8 y2, .int .u8 y3, .int .u8 y4, .int .u8 y5] 23)).cell? ⟨w3.heap.size, o, none⟩ := fun o => hb4.cell (by simp)
    clear c3
    go_wp2_with fail
    refine (K4.out (by simp) _).mono ?_
    rintro e w5 ⟨rfl, hb5⟩
    clear c4
    go_wp2_with fail
    go_ret
    exact ⟨rfl, hb.trans ((hb4.mono (by simp; omega)).trans (hb5.mono (by omega)))⟩
  · go_wp2_with fail
    refine (K3.out (by simp) _).mono ?_
    rintro e w4 ⟨rfl, hb4⟩
    clear c3
    go_wp2_with fail
    go_ret
    exact ⟨by simp; omega, hb.trans (hb4.mono (by simp; omega))⟩
  · have d3 : ∀ (o : Nat), (w3.alloc (.cells #[.int .u8 y0, .int .u8 y1, .int .u8 y2, .int .u8 y3, .int .u8 y4, .int .u8 y5] 23)).cell? ⟨w3.heap.size, o, none⟩ = (#[.int .u8 y0, .int .u8 y1, .int .u8 y2, .int .u8 y3, .int .u8 y4, .int .u8 y5] : Array Value)[o]? := fun o => cell_of_row _ _ _ _ 23 (0, 0) (heap_alloc_new _ _)
    go_wp2_with fail
    refine (K4.out (by simp) _).mono ?_
    rintro e w5 ⟨rfl, hb5⟩
    clear c3 d3
    go_wp2_with fail
    go_ret
    exact ⟨rfl, hb.trans (hb5.mono (by simp; omega))⟩
  · clear c3
    go_wp2_with fail
    go_ret
    exact ⟨by simp; omega, hb⟩

theorem mk_toList (s : ByteArray) : (⟨s.data.toList.toArray⟩ : ByteArray) = s := by
  apply ByteArray.ext
  simp

theorem macOnce_any (s : ByteArray) (n : Int) (w : World) (hs : s.size ≤ 9223372036854775807) (hn : 0 ≤ n ∧ n ≤ 18446744073709551615) :
    Calls Try.prog 9 #[.string s, .int .u64 n] w fun e w' => e = .returned (.bool true) ∧ Below w.heap.size w w' := by
  have HT : ∀ u, Calls Try.prog 11 #[.agg #[.int .u8 (pm s 0), .int .u8 (pm s 1), .int .u8 (pm s 2), .int .u8 (pm s 3), .int .u8 (pm s 4), .int .u8 (pm s 5)]] u fun e w' => (pe s = 0 → e = Ending.returned (.string s)) ∧ (pe s ≠ 0 → True) ∧ Below u.heap.size u w' := fun u =>
    (text_any _ _ _ _ _ _ u (pm_bound s 0 (by omega)) (pm_bound s 1 (by omega)) (pm_bound s 2 (by omega)) (pm_bound s 3 (by omega)) (pm_bound s 4 (by omega)) (pm_bound s 5 (by omega))).mono fun e w' ⟨h1, h2⟩ => by
      refine ⟨fun h => ?_, fun _ => trivial, h2⟩
      have hp : parsed s = true := by
        cases hq : parsed s
        · rw [pe_no s hq] at h; omega
        · rfl
      rw [h1, parsed_text s hp, mk_toList]
  have hpe : pe s = 0 ∨ pe s = 2 := by
    cases hq : parsed s
    · exact .inr (pe_no s hq)
    · exact .inl (pe_yes s hq)
  by_cases h : n < 281474976710656
  · refine once_walk s n _ _ _ _ _ _ _ _ _ _ _ _ _ 0 w (fun u => parse_all s u hs) (fun u => of_yes n u hn.1 h) HT (fun u => ?_) hn.1 ⟨hpe, .inl ⟨rfl, h⟩⟩
    refine (numberB _ _ _ _ _ _ u (by omega) (by omega) (by omega) (by omega) (by omega) (by omega)).mono fun e w' ⟨h1, h2⟩ => ⟨fun _ => ?_, h2⟩
    rw [h1]
    congr 2
    unfold num6
    omega
  · refine once_walk s n _ _ _ _ _ _ _ _ _ _ _ _ _ 1 w (fun u => parse_all s u hs) (fun u => of_no n u (by omega) hn.2) HT (fun u => ?_) hn.1 ⟨hpe, .inr ⟨rfl, by omega⟩⟩
    exact (numberB _ _ _ _ _ _ u (by decide) (by decide) (by decide) (by decide) (by decide) (by decide)).mono fun e w' ⟨h1, h2⟩ => ⟨fun h => by omega, h2⟩

set_option maxRecDepth 100000 in
theorem macOnce_lifted (os : Os) (started : os.Started) (H : Type) (enc : TypeId × Value → H) :
    ReturnsInHanded {} Try.checked os 9 .any (Rows.macOnceSpec.pre6 enc Try.prog Try.f9 Rows.macOnceRow.domain false) (Rows.macOnceSpec.post enc Try.prog Try.f9 false true false false) := by
  refine returnsInHanded_of_change (C := Try.checked) own started (by kernel_rfl) Try.func9
    (ChangeSpec.witness6 (enc := enc) (C := Try.checked) false ⟨#[], #[.string ⟨#[]⟩, .int .u64 0], []⟩ 8 (by kernel_rfl) (by kernel_rfl) (by kernel_rfl) (by kernel_rfl)) ?_
  intro W base args ds gs before hval0 hW hcnd _
  have hval : ∀ (j : Nat) t v, Try.f9.params[j]? = some t → args[j]? = some v → Value.okWide Try.prog W .any base t v := hval0
  have hW' : DataW.Whole enc Try.prog Try.f9.params.toList Rows.macOnceSpec.vars false W args.toList ds gs before := hW
  have hlen : args.toList.length = Try.f9.params.toList.length ∧ ds.length = Try.f9.params.toList.length := by
    obtain ⟨p, q, hA, _⟩ := hW'
    exact trodAll_len _ _ _ _ hA
  rw [Try.params9] at hval hlen
  obtain ⟨p0, p1, rfl⟩ := args2 args hlen.1
  obtain ⟨d0, d1, rfl⟩ := list2 ds hlen.2
  obtain rfl : gs = [] := by
    obtain ⟨p, q, _, hV, _⟩ := hW'
    exact (trodVars_none hV).1
  obtain ⟨s, rfl, hs⟩ : ∃ s : ByteArray, p0 = .string s ∧ s.size ≤ 9223372036854775807 := open_str Try.underlying9 (hval 0 9 p0 rfl rfl)
  obtain ⟨n, rfl, wn⟩ : ∃ n, p1 = .int .u64 n ∧ (Lit.int .u64 n).wf = true := cell_int Try.underlying26 (by simpa [Value.okWide, Try.underlying26] using hval 1 26 p1 rfl rfl)
  have hn := wf_u64 wn
  refine (macOnce_any s n W hs hn).mono fun e W' ⟨he, hb⟩ => ?_
  subst he
  have hp : ∀ t ∈ Try.f9.params.toList, Try.prog.readableRec t = true ∧ t < Try.prog.types.size := by
    rw [Try.params9]
    intro t ht
    simp at ht
    rcases ht with rfl | rfl
    all_goals first | exact readable26 | exact readable9
  have hpost := law_post (enc := enc) (P := Try.prog) (f := Try.f9) (s := Rows.macOnceSpec) (tb := 4) (W' := W') laidOut hW' rfl (by kernel_rfl) Try.underlying4 hp ⟨rfl, rfl, rfl⟩ hb
  exact ⟨_, rfl, hpost⟩

theorem macOnce_holds : Rows.MacOnceSaid :=
  OpenClaim.holds_of_wide 9 Try.f9 rfl rfl rfl rfl rfl rfl rfl ⟨rfl, rfl, rfl, rfl, rfl⟩ rfl rfl rfl rfl rfl (by kernel_rfl) Try.func9 (by kernel_rfl)
    (of_decide_eq_true (by kernel_rfl)) (by unfold Func.isWrapper; first | (rw [if_pos (by decide +kernel)]; kernel_rfl) | (rw [if_neg (by decide +kernel)]; exact ⟨rfl, rfl⟩))
    (fun os started H enc _ => macOnce_lifted os started H enc)
#print axioms macOnce_holds
end Go.Proofs.Ytgklokpjfnpabaa
