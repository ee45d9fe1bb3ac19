/-
  Proved: RxScripts: an end of any info does any steps, as the document says: the program's and the reference's answer alike at each; the law answers true.
  No condition.
-/
import Derived.Test.YtooieocfgifpgaaRxG
namespace Go.Proofs.Ytooieocfgifpgaa
open Go.RowKit Go.ChangeShapes Go.WideShapes Go.ChangeAt
set_option linter.unusedVariables false

theorem run_ne_same {o : Oper} {a : Act} {s t : Operand} {x : Inf} (w : World) (ho : o.op = .binOp .neq 25 s t 25) (hx : a.eval s = .agg #[.int .i64 x.sp, .int .u8 x.m0, .int .u8 x.m1, .int .u8 x.m2, .int .u8 x.m3, .int .u8 x.m4, .int .u8 x.m5, .int .i64 x.key, .int .i64 x.pp, .int .i64 x.port, .int .i64 x.st]) (hy : a.eval t = .agg #[.int .i64 x.sp, .int .u8 x.m0, .int .u8 x.m1, .int .u8 x.m2, .int .u8 x.m3, .int .u8 x.m4, .int .u8 x.m5, .int .i64 x.key, .int .i64 x.pp, .int .i64 x.port, .int .i64 x.st]) : (execOp a.eval o).run Try.prog w = .ok (.value (.bool false)) w := by
  have h := run_ne_op (P := Try.prog) (w := w) ho hx hy guard25 (run_eqI w 9997 x x)
  rw [eqI_self] at h
  exact h

set_option maxRecDepth 100000 in
set_option maxHeartbeats 8000000 in
theorem rxScripts_any (a : Inf) (A : Option Addr) (n cap : Nat) (L : Nat → SV) (w : World) (ha : a.wf) (hl : Steps w w.heap.size A n L) :
    Calls Try.prog 9 #[.agg #[.int .i64 a.sp, .int .u8 a.m0, .int .u8 a.m1, .int .u8 a.m2, .int .u8 a.m3, .int .u8 a.m4, .int .u8 a.m5, .int .i64 a.key, .int .i64 a.pp, .int .i64 a.port, .int .i64 a.st], .slice A n cap] w fun e w' => e = .returned (.bool true) ∧ Below w.heap.size w w' := by
  have hn := hl.1
  have HL := hide hl
  have HB0 := hide (heap_alloc_new w (.cells #[.int .i64 a.sp, .int .u8 a.m0, .int .u8 a.m1, .int .u8 a.m2, .int .u8 a.m3, .int .u8 a.m4, .int .u8 a.m5, .int .i64 a.key, .int .i64 a.pp, .int .i64 a.port, .int .i64 a.st] 25))
  clear hl ha
  go_enter Try.func9, Try.ntmps9
  go_wp2_with fail
  refine (rxAwake_any _).mono ?_
  rintro e w1 ⟨rfl, hb1⟩
  have HB1 := hide (((Below.refl w.heap.size w).alloc (Nat.le_refl _) (.cells #[.int .i64 a.sp, .int .u8 a.m0, .int .u8 a.m1, .int .u8 a.m2, .int .u8 a.m3, .int .u8 a.m4, .int .u8 a.m5, .int .i64 a.key, .int .i64 a.pp, .int .i64 a.port, .int .i64 a.st] 25)).trans (hb1.mono (by simp)))
  have HK1 := hide ((hb1.block w.heap.size (by simp)).trans HB0.out)
  have hs1 : w.heap.size < w1.heap.size := by have := hb1.size; simp at this; omega
  clear hb1
  go_wp2_with (refine wpList_load_part rfl 25 (.tmp 2) rfl w.heap.size 0 rfl 25 _ #[.int .i64 a.sp, .int .u8 a.m0, .int .u8 a.m1, .int .u8 a.m2, .int .u8 a.m3, .int .u8 a.m4, .int .u8 a.m5, .int .i64 a.key, .int .i64 a.pp, .int .i64 a.port, .int .i64 a.st] (0, 0) _ HK1.out Try.underlying25 rfl (by kernel_rfl) rfl ?_)
  refine (new_any a w1).mono ?_
  rintro e w2 h2
  have hb2 : Below w1.heap.size w1 w2 := by rcases h2 with ⟨-, _, -, -, -, h⟩ | ⟨-, -, h⟩ <;> exact h
  have HB2 := hide (HB1.out.trans (hb2.mono HB1.out.size))
  have HK2 := hide ((hb2.block w.heap.size hs1).trans HK1.out)
  have hs2 : w.heap.size < w2.heap.size := by have := hb2.size; omega
  have hs12 := hb2.size
  clear hb2
  rcases h2 with ⟨hok, g, rfl, hg, hg2, -⟩ | ⟨hok, rfl, -⟩
  rotate_left
  · have HOK := hide hok
    clear hok
    go_wp2_with (refine wpList_load_part rfl 25 (.tmp 2) rfl w.heap.size 0 rfl 25 _ #[.int .i64 a.sp, .int .u8 a.m0, .int .u8 a.m1, .int .u8 a.m2, .int .u8 a.m3, .int .u8 a.m4, .int .u8 a.m5, .int .i64 a.key, .int .i64 a.pp, .int .i64 a.port, .int .i64 a.st] (0, 0) _ HK2.out Try.underlying25 rfl (by kernel_rfl) rfl ?_)
    refine (refNew_any a w2).mono ?_
    rintro e w3 (⟨hno, _, -, -, -, -⟩ | ⟨-, rfl, hb3⟩)
    · rw [HOK.out] at hno; cases hno
    have HB3 := hide (HB2.out.trans (hb3.mono HB2.out.size))
    clear hb3
    go_wp2_with fail
    refine wp_loop_rounds 1 ?_
    rw [rounds_succ]
    by_cases hn0 : 0 < n
    · go_wp2_with fail
      go_ret
      exact ⟨rfl, HB3.out⟩
    · obtain rfl : n = 0 := by omega
      go_wp2_with fail
      go_ret
      exact ⟨rfl, HB3.out⟩
  have HOK := hide hok; have HG2 := hide hg2
  have hgl := hg2.lt
  clear hok hg2
  go_wp2_with (refine wpList_load_part rfl 25 (.tmp 2) rfl w.heap.size 0 rfl 25 _ #[.int .i64 a.sp, .int .u8 a.m0, .int .u8 a.m1, .int .u8 a.m2, .int .u8 a.m3, .int .u8 a.m4, .int .u8 a.m5, .int .i64 a.key, .int .i64 a.pp, .int .i64 a.port, .int .i64 a.st] (0, 0) _ HK2.out Try.underlying25 rfl (by kernel_rfl) rfl ?_)
  refine (refNew_any a w2).mono ?_
  rintro e w3 (⟨-, h, rfl, hh, hh3, hb3⟩ | ⟨hno, -, -⟩)
  rotate_left
  · rw [HOK.out] at hno; cases hno
  have HB3 := hide (HB2.out.trans (hb3.mono HB2.out.size))
  have HG3 := hide (HG2.out.below hb3); have HH3 := hide hh3
  have hne : g ≠ h := by omega
  have hwg : w.heap.size ≤ g := by omega
  have hwh : w.heap.size ≤ h := by omega
  clear hb3 hh3 HG2
  go_wp2_with fail
  go_loopw [10] (fun i wr => ∃ (k : Nat) (x : ES), k ≤ n ∧ k ≤ 200 ∧ i = .int .i64 k ∧ EndAt wr g 81 x ∧ EndAt wr h 53 x ∧ x.fine ∧ Below w.heap.size w wr)
    (fun i _ => 200 - (intOf i).toNat)
  case atStart => exact ⟨0, ES.new a, by omega, by omega, rfl, HG3.out, HH3.out, fine_new a, HB3.out⟩
  case round =>
    obtain ⟨k, x, hk, hk1, rfl, hg5, hh5, hf5, hb5⟩ := hrel
    have HG5 := hide hg5; have HH5 := hide hh5; have HF5 := hide hf5; have HB5 := hide hb5
    clear hg5 hh5 hf5 hb5
    by_cases hlt : k < n
    · by_cases hlt1 : k < 200
      · obtain ⟨b, oo, hA, hbB, hcs⟩ : ∃ b o, A = some ⟨b, o, none⟩ ∧ b < w.heap.size ∧ ∀ j v, (stepCells (L k)).toList[j]? = some v → wr.cell? ⟨b, o + k * 27 + j, none⟩ = some v := by
          rcases (HL.out.below HB5.out).2 with h0 | ⟨b, o, hA, hbB, hc⟩
          · omega
          · exact ⟨b, o, hA, hbB, hc k hlt⟩
        subst hA
        have HC := hide hcs
        have hk0 : (0 : Int) ≤ (k : Int) := by omega
        have hk2 : (k : Int) < (n : Int) := by omega
        have hk3 : (k : Int) < 200 := by omega
        clear hcs
        go_wp2_with (refine wpList_load_cells (ty := 50) (x := .tmp 55) rfl rfl b (oo + k * 27) rfl (stepCells (L k)) _ HC.out Try.underlying50 rfl (by kernel_rfl) ?_)
        refine (step_any g h x (L k) wr HF5.out hne HG5.out HH5.out).mono ?_
        rintro e w6 ⟨rfl, hg6, hh6, ht6⟩
        obtain ⟨y, hy⟩ : ∃ y, y = x.step (L k) := ⟨_, rfl⟩
        rw [← hy] at hg6 hh6
        have HF6 := hide (show y.fine by rw [hy]; exact fine_step HF5.out _)
        have HG6 := hide hg6; have HH6 := hide hh6
        have HB6 := hide (HB5.out.trans (ht6.toBelow hwg hwh HB5.out.size))
        have hgl6 := hg6.lt; have hhl6 := hh6.lt
        clear hg6 hh6 ht6 hy
        go_wp2_with fail
        refine wp_region_class (by kernel_rfl) (by kernel_rfl) (fun C hC hS hN => ?_)
        have KG := hide (show ∀ u : Of C, EndAt u.w g 81 y from fun u => HG6.out.below (hC _ u.ok))
        have KH := hide (show ∀ u : Of C, EndAt u.w h 53 y from fun u => HH6.out.below (hC _ u.ok))
        have KHb := hide (show ∀ u, (∃ x : Of C, u = x.w) → u.heap[h]? = some (.cells (endCells y) 53 (0, 0)) from fun u ⟨x, hx⟩ => by rw [hx]; exact KH.out x)
        have c22 : ∀ u : Of C, u.w.cell? ⟨h, 22, none⟩ = some (.int .i64 y.s) := fun u => (KH.out u).facts.c22
        have HS := hide hS; clear hS
        repeat (first
          | (go_big_quiet_want; refine quiet_load_part 25 (.tmp 81) rfl h 11 rfl 53 _ #[.int .i64 y.p.sp, .int .u8 y.p.m0, .int .u8 y.p.m1, .int .u8 y.p.m2, .int .u8 y.p.m3, .int .u8 y.p.m4, .int .u8 y.p.m5, .int .i64 y.p.key, .int .i64 y.p.pp, .int .i64 y.p.port, .int .i64 y.p.st] (0, 0) _ KHb.out Try.underlying25 rfl (by kernel_rfl) rfl ?_; go_big_quiet_on; simp only [Act.put, List.setIfInBounds_toArray, List.set_cons_succ, List.set_cons_zero])
          | (go_big_quiet_want; refine quiet_run (.bool false) (fun w => run_ne_same (x := y.actor) w rfl rfl rfl) ?_; go_big_quiet_on; simp only [Act.put, List.setIfInBounds_toArray, List.set_cons_succ, List.set_cons_zero])
          | (go_big_quiet_want; refine quiet_run (.bool false) (fun w => run_ne_same (x := y.p) w rfl rfl rfl) ?_; go_big_quiet_on; simp only [Act.put, List.setIfInBounds_toArray, List.set_cons_succ, List.set_cons_zero])
          | go_big_quiet_step ((first
            | (go_at_call 29; exact Calls.of_class HS.out ((state_any g 81 y _ (KG.out _)).mono fun e w' ⟨a, b⟩ => ⟨a, b ▸ Below.refl _ _⟩))
            | (go_at_call 30; exact Calls.of_class HS.out (actor_any g y _ (KG.out _)))
            | (go_at_call 31; exact Calls.of_class HS.out (refActor_any h y _ (KH.out _)))
            | (go_at_call 32; exact Calls.of_class HS.out (partner_any g y _ (KG.out _))))))
        refine wpQuiet_nil ?_
        intro u hu
        have HU := hide hu
        clear hu c22
        go_wp2_with fail
        go_roundw
        case rel => exact ⟨k + 1, y, by omega, by omega, by go_num, HG6.out.below HU.out, HH6.out.below HU.out, HF6.out, HB6.out.trans (HU.out.mono HB6.out.size)⟩
        case measure => simp [intOf]; omega
      · have hk3 : decide ((k : Int) < 200) = false := by simp; omega
        go_wp2_with fail
        go_ret
        exact ⟨rfl, HB5.out⟩
    · have hk2 : decide ((k : Int) < (n : Int)) = false := by simp; omega
      go_wp2_with fail
      go_ret
      exact ⟨rfl, HB5.out⟩

/-! ### The row -/
set_option maxRecDepth 100000 in
theorem rxScripts_lifted (os : Os) (started : os.Started) (H : Type) (enc : TypeId × Value → H) :
    ReturnsInHanded {} Try.checked os 9 .any (Rows.rxScriptsSpec.pre6 enc Try.prog Try.f9 Rows.rxScriptsRow.domain false) (Rows.rxScriptsSpec.post enc Try.prog Try.f9 false true false false) := by
  refine returnsInHanded_of_change (C := Try.checked) own started (by kernel_rfl) Try.func9
    (ChangeSpec.witness6 (enc := enc) (C := Try.checked) false ⟨#[], #[.agg #[.int .i64 0, .int .u8 0, .int .u8 0, .int .u8 0, .int .u8 0, .int .u8 0, .int .u8 0, .int .i64 0, .int .i64 0, .int .i64 0, .int .i64 0], .slice none 0 0], []⟩ 8 (by kernel_rfl) (by kernel_rfl) (by kernel_rfl) (by kernel_rfl)) ?_
  intro W base args ds gs before hval0 hW hcnd _
  have hval : ∀ (j : Nat) t v, Try.f9.params[j]? = some t → args[j]? = some v → Value.okWide Try.prog W .any base t v := hval0
  have hW' : DataW.Whole enc Try.prog Try.f9.params.toList Rows.rxScriptsSpec.vars false W args.toList ds gs before := hW
  have hlen : args.toList.length = Try.f9.params.toList.length ∧ ds.length = Try.f9.params.toList.length := by
    obtain ⟨p, q, hA, _⟩ := hW'
    exact trodAll_len _ _ _ _ hA
  rw [Try.params9] at hval hlen
  obtain ⟨p0, p1, rfl⟩ := args2 args hlen.1
  obtain ⟨d0, d1, rfl⟩ := list2 ds hlen.2
  obtain rfl : gs = [] := by
    obtain ⟨p, q, _, hV, _⟩ := hW'
    exact (trodVars_none hV).1
  obtain ⟨_, _, hA, _⟩ := id hW'
  rw [Try.params9] at hA
  obtain ⟨_, _, hT0, hA, _⟩ := hA
  obtain ⟨_, _, hT1, hA, _⟩ := hA
  obtain ⟨x, rfl, hx⟩ := open_inf (hval 0 25 p0 rfl rfl)
  obtain ⟨A, n, cap, L, rfl, hl⟩ := open_rsteps (hval 1 41 p1 rfl rfl) hT1
  refine (rxScripts_any x A n cap L W hx hl).mono fun e W' ⟨he, hb⟩ => ?_
  subst he
  have hp : ∀ t ∈ Try.f9.params.toList, Try.prog.readableRec t = true ∧ t < Try.prog.types.size := by
    rw [Try.params9]
    intro t ht
    simp at ht
    rcases ht with rfl | rfl
    all_goals first | exact readable25 | exact readable41
  have hpost := law_post (enc := enc) (P := Try.prog) (f := Try.f9) (s := Rows.rxScriptsSpec) (tb := 4) (W' := W') laidOut hW' rfl (by kernel_rfl) Try.underlying4 hp ⟨rfl, rfl, rfl⟩ hb
  exact ⟨_, rfl, hpost⟩

theorem rxScripts_holds : Rows.RxScriptsSaid :=
  OpenClaim.holds_of_wide 9 Try.f9 rfl rfl rfl rfl rfl rfl rfl ⟨rfl, rfl, rfl, rfl, rfl⟩ rfl rfl rfl rfl rfl (by kernel_rfl) Try.func9 (by kernel_rfl)
    (of_decide_eq_true (by kernel_rfl)) (by unfold Func.isWrapper; first | (rw [if_pos (by decide +kernel)]; kernel_rfl) | (rw [if_neg (by decide +kernel)]; exact ⟨rfl, rfl⟩))
    (fun os started H enc _ => rxScripts_lifted os started H enc)
#print axioms rxScripts_holds
end Go.Proofs.Ytooieocfgifpgaa
