/-
  Proved: MacKept: an address that bridges keep is one of many, and the next one behind the last of them is not kept; the law answers true at every address.
  No condition.
-/
import Derived.Test.YtgklokpjfnpabaaMacD
namespace Go.Proofs.Ytgklokpjfnpabaa
open Go.RowKit Go.ChangeShapes Go.WideShapes Go.ChangeAt
set_option linter.unusedVariables false

theorem kept_num (x0 x1 x2 x3 x4 x5 : Int) (hx0 : 0 ≤ x0 ∧ x0 < 256) (hx1 : 0 ≤ x1 ∧ x1 < 256) (hx2 : 0 ≤ x2 ∧ x2 < 256) (hx3 : 0 ≤ x3 ∧ x3 < 256) (hx4 : 0 ≤ x4 ∧ x4 < 256) (hx5 : 0 ≤ x5 ∧ x5 < 256) (h : kept6 x0 x1 x2 x3 x4 x5 = true) : 1652522221568 ≤ num6 x0 x1 x2 x3 x4 x5 ∧ num6 x0 x1 x2 x3 x4 x5 < 1652522221584 ∧ x0 = 1 := by
  unfold kept6 at h
  rw [beq_iff_eq] at h
  unfold num6 at *
  omega

set_option maxHeartbeats 1000000 in
theorem kept_no (x0 x1 x2 x3 x4 x5 : Int) (w : World) (hx0 : 0 ≤ x0 ∧ x0 < 256) (hx1 : 0 ≤ x1 ∧ x1 < 256) (hx2 : 0 ≤ x2 ∧ x2 < 256) (hx3 : 0 ≤ x3 ∧ x3 < 256) (hx4 : 0 ≤ x4 ∧ x4 < 256) (hx5 : 0 ≤ x5 ∧ x5 < 256) (h : kept6 x0 x1 x2 x3 x4 x5 = false) :
    Calls Try.prog 5 #[.agg #[.int .u8 x0, .int .u8 x1, .int .u8 x2, .int .u8 x3, .int .u8 x4, .int .u8 x5]] w fun e w' => e = .returned (.bool true) ∧ Below w.heap.size w w' := by
  have R := fun u => reserved_any x0 x1 x2 x3 x4 x5 u hx0 hx1 hx2 hx3 hx4 hx5
  rw [h] at R
  have HR := hide R
  clear R h hx0 hx1 hx2 hx3 hx4 hx5
  go_enter Try.func5, Try.ntmps5
  go_wp2_with fail
  refine (awake_any _).mono ?_
  rintro e w1 ⟨rfl, hb1⟩
  have a1 : ∀ o, w1.cell? ⟨w.heap.size, o, none⟩ = (w.alloc (.cells #[.int .u8 x0, .int .u8 x1, .int .u8 x2, .int .u8 x3, .int .u8 x4, .int .u8 x5] 23)).cell? ⟨w.heap.size, o, none⟩ := fun o => hb1.cell (by simp)
  go_wp2_with fail
  refine (HR.out _).mono ?_
  rintro e w2 ⟨rfl, hb2⟩
  clear a1
  go_wp2
  go_ret
  have hs1 := hb1.size
  simp at hs1
  exact ⟨rfl, ((Below.refl w.heap.size w).alloc (Nat.le_refl _) _).trans ((hb1.mono (by simp)).trans (hb2.mono (by omega)))⟩

set_option maxHeartbeats 1000000 in
theorem kept_yes (x0 x1 x2 x3 x4 x5 : Int) (w : World) (hx0 : 0 ≤ x0 ∧ x0 < 256) (hx1 : 0 ≤ x1 ∧ x1 < 256) (hx2 : 0 ≤ x2 ∧ x2 < 256) (hx3 : 0 ≤ x3 ∧ x3 < 256) (hx4 : 0 ≤ x4 ∧ x4 < 256) (hx5 : 0 ≤ x5 ∧ x5 < 256) (h : kept6 x0 x1 x2 x3 x4 x5 = true) :
    Calls Try.prog 5 #[.agg #[.int .u8 x0, .int .u8 x1, .int .u8 x2, .int .u8 x3, .int .u8 x4, .int .u8 x5]] w fun e w' => e = .returned (.bool true) ∧ Below w.heap.size w w' := by
  have hn := kept_num x0 x1 x2 x3 x4 x5 hx0 hx1 hx2 hx3 hx4 hx5 h
  have R := fun u => reserved_any x0 x1 x2 x3 x4 x5 u hx0 hx1 hx2 hx3 hx4 hx5
  rw [h] at R
  have HR := hide R
  have HN := hide (fun u => numberB x0 x1 x2 x3 x4 x5 u hx0 hx1 hx2 hx3 hx4 hx5)
  have G := fun u => groupB x0 x1 x2 x3 x4 x5 u hx0 hx1 hx2 hx3 hx4 hx5
  have hg : (x0 % 2 == 1) = true := by rw [hn.2.2]; rfl
  rw [hg] at G
  have HG := hide G
  generalize hN : num6 x0 x1 x2 x3 x4 x5 = N at *
  obtain ⟨n0, n1, -⟩ := hn
  have HO := hide (fun u => of_yes (N + 16) u (by omega) (by omega))
  have hk : kept6 ((N + 16) / 1099511627776) ((N + 16) / 4294967296 % 256) ((N + 16) / 16777216 % 256) ((N + 16) / 65536 % 256) ((N + 16) / 256 % 256) ((N + 16) % 256) = false := by
    unfold kept6 num6
    rw [beq_eq_false_iff_ne]
    omega
  have R2 := fun u => reserved_any ((N + 16) / 1099511627776) ((N + 16) / 4294967296 % 256) ((N + 16) / 16777216 % 256) ((N + 16) / 65536 % 256) ((N + 16) / 256 % 256) ((N + 16) % 256) u (by omega) (by omega) (by omega) (by omega) (by omega) (by omega)
  rw [hk] at R2
  have HR2 := hide R2
  have hfin : (N / 16 == 103282638848) = true := by rw [beq_iff_eq]; omega
  clear R R2 G hg hk hN h hx0 hx1 hx2 hx3 hx4 hx5
  go_enter Try.func5, Try.ntmps5
  go_wp2_with fail
  refine (awake_any _).mono ?_
  rintro e w1 ⟨rfl, hb1⟩
  have hs1 : w.heap.size < w1.heap.size := by have := hb1.size; simp at this; omega
  have a1 : ∀ o, w1.cell? ⟨w.heap.size, o, none⟩ = (w.alloc (.cells #[.int .u8 x0, .int .u8 x1, .int .u8 x2, .int .u8 x3, .int .u8 x4, .int .u8 x5] 23)).cell? ⟨w.heap.size, o, none⟩ := fun o => hb1.cell (by simp)
  have HA1 := hide a1
  go_wp2_with fail
  refine (HR.out _).mono ?_
  rintro e w2 ⟨rfl, hb2⟩
  clear a1
  have hs2 : w.heap.size < w2.heap.size := by have := hb2.size; omega
  have a2 : ∀ o, w2.cell? ⟨w.heap.size, o, none⟩ = (w.alloc (.cells #[.int .u8 x0, .int .u8 x1, .int .u8 x2, .int .u8 x3, .int .u8 x4, .int .u8 x5] 23)).cell? ⟨w.heap.size, o, none⟩ := fun o => (hb2.cell (by show w.heap.size < _; omega)).trans (HA1.out o)
  have HA2 := hide a2
  go_wp2_with fail
  refine (HN.out _).mono ?_
  rintro e w3 ⟨rfl, hb3⟩
  clear a2
  have hs3 : w.heap.size < w3.heap.size := by have := hb3.size; omega
  have a3 : ∀ o, w3.cell? ⟨w.heap.size, o, none⟩ = (w.alloc (.cells #[.int .u8 x0, .int .u8 x1, .int .u8 x2, .int .u8 x3, .int .u8 x4, .int .u8 x5] 23)).cell? ⟨w.heap.size, o, none⟩ := fun o => (hb3.cell (by show w.heap.size < _; omega)).trans (HA2.out o)
  have HA3 := hide a3
  go_wp2_with fail
  refine (HO.out _).mono ?_
  rintro e w4 ⟨rfl, hb4⟩
  clear a3
  have hs4 : w.heap.size < w4.heap.size := by have := hb4.size; omega
  have a4 : ∀ o, w4.cell? ⟨w.heap.size, o, none⟩ = (w.alloc (.cells #[.int .u8 x0, .int .u8 x1, .int .u8 x2, .int .u8 x3, .int .u8 x4, .int .u8 x5] 23)).cell? ⟨w.heap.size, o, none⟩ := fun o => (hb4.cell (by show w.heap.size < _; omega)).trans (HA3.out o)
  have HA4 := hide a4
  have b4 : ∀ (o : Nat) (ob : Obj), (w4.alloc ob).cell? ⟨w.heap.size, o, none⟩ = (w.alloc (.cells #[.int .u8 x0, .int .u8 x1, .int .u8 x2, .int .u8 x3, .int .u8 x4, .int .u8 x5] 23)).cell? ⟨w.heap.size, o, none⟩ := fun o ob => (World.cell?_alloc_lt w4 ob ⟨w.heap.size, o, none⟩ (by simpa using hs4)).trans (HA4.out o)
  go_wp2_with fail
  refine (HG.out _).mono ?_
  rintro e w5 ⟨rfl, hb5⟩
  have a5 : ∀ o, w5.cell? ⟨w4.heap.size, o, none⟩ = (w4.alloc (.cells #[.int .u8 ((N + 16) / 1099511627776), .int .u8 ((N + 16) / 4294967296 % 256), .int .u8 ((N + 16) / 16777216 % 256), .int .u8 ((N + 16) / 65536 % 256), .int .u8 ((N + 16) / 256 % 256), .int .u8 ((N + 16) % 256)] 23)).cell? ⟨w4.heap.size, o, none⟩ := fun o => hb5.cell (by simp)
  clear b4 a4
  go_wp2_with fail
  refine (HR2.out _).mono ?_
  rintro e w6 ⟨rfl, hb6⟩
  clear a5
  go_wp2
  go_ret
  have hs5 : w4.heap.size + 1 ≤ w5.heap.size := by have := hb5.size; simpa using this
  exact ⟨rfl, ((Below.refl w.heap.size w).alloc (Nat.le_refl _) _).trans ((hb1.mono (by simp)).trans ((hb2.mono (by omega)).trans ((hb3.mono (by omega)).trans ((hb4.mono (by omega)).trans ((((Below.refl _ w4).alloc (Nat.le_refl _) _).mono (by omega)).trans ((hb5.mono (by simp; omega)).trans (hb6.mono (by omega))))))))⟩

theorem macKept_any (x0 x1 x2 x3 x4 x5 : Int) (w : World) (hx0 : 0 ≤ x0 ∧ x0 < 256) (hx1 : 0 ≤ x1 ∧ x1 < 256) (hx2 : 0 ≤ x2 ∧ x2 < 256) (hx3 : 0 ≤ x3 ∧ x3 < 256) (hx4 : 0 ≤ x4 ∧ x4 < 256) (hx5 : 0 ≤ x5 ∧ x5 < 256) : Calls Try.prog 5 #[.agg #[.int .u8 x0, .int .u8 x1, .int .u8 x2, .int .u8 x3, .int .u8 x4, .int .u8 x5]] w fun e w' => e = .returned (.bool true) ∧ Below w.heap.size w w' := by
  cases h : kept6 x0 x1 x2 x3 x4 x5
  · exact kept_no x0 x1 x2 x3 x4 x5 w hx0 hx1 hx2 hx3 hx4 hx5 h
  · exact kept_yes x0 x1 x2 x3 x4 x5 w hx0 hx1 hx2 hx3 hx4 hx5 h

set_option maxRecDepth 100000 in
theorem macKept_lifted (os : Os) (started : os.Started) (H : Type) (enc : TypeId × Value → H) :
    ReturnsInHanded {} Try.checked os 5 .any (Rows.macKeptSpec.pre6 enc Try.prog Try.f5 Rows.macKeptRow.domain false) (Rows.macKeptSpec.post enc Try.prog Try.f5 false true false false) := by
  refine returnsInHanded_of_change (C := Try.checked) own started (by kernel_rfl) Try.func5
    (ChangeSpec.witness6 (enc := enc) (C := Try.checked) false ⟨#[], #[.agg #[.int .u8 0, .int .u8 0, .int .u8 0, .int .u8 0, .int .u8 0, .int .u8 0]], []⟩ 8 (by kernel_rfl) (by kernel_rfl) (by kernel_rfl) (by kernel_rfl)) ?_
  intro W base args ds gs before hval0 hW hcnd _
  have hval : ∀ (j : Nat) t v, Try.f5.params[j]? = some t → args[j]? = some v → Value.okWide Try.prog W .any base t v := hval0
  have hW' : DataW.Whole enc Try.prog Try.f5.params.toList Rows.macKeptSpec.vars false W args.toList ds gs before := hW
  have hlen : args.toList.length = Try.f5.params.toList.length ∧ ds.length = Try.f5.params.toList.length := by
    obtain ⟨p, q, hA, _⟩ := hW'
    exact trodAll_len _ _ _ _ hA
  rw [Try.params5] at hval hlen
  obtain ⟨p0, rfl⟩ := args1 args hlen.1
  obtain ⟨d0, rfl⟩ := list1 ds hlen.2
  obtain rfl : gs = [] := by
    obtain ⟨p, q, _, hV, _⟩ := hW'
    exact (trodVars_none hV).1
  obtain ⟨x0, x1, x2, x3, x4, x5, rfl, hx0, hx1, hx2, hx3, hx4, hx5⟩ := open_mac Try.underlying23 Try.underlying5 cells23 cellTypes23 (hval 0 23 p0 rfl rfl)
  refine (macKept_any x0 x1 x2 x3 x4 x5 W hx0 hx1 hx2 hx3 hx4 hx5).mono fun e W' ⟨he, hb⟩ => ?_
  subst he
  have hp : ∀ t ∈ Try.f5.params.toList, Try.prog.readableRec t = true ∧ t < Try.prog.types.size := by
    rw [Try.params5]
    intro t ht
    simp at ht
    rcases ht with rfl
    all_goals first | exact readable23
  have hpost := law_post (enc := enc) (P := Try.prog) (f := Try.f5) (s := Rows.macKeptSpec) (tb := 4) (W' := W') laidOut hW' rfl (by kernel_rfl) Try.underlying4 hp ⟨rfl, rfl, rfl⟩ hb
  exact ⟨_, rfl, hpost⟩

theorem macKept_holds : Rows.MacKeptSaid :=
  OpenClaim.holds_of_wide 5 Try.f5 rfl rfl rfl rfl rfl rfl rfl ⟨rfl, rfl, rfl, rfl, rfl⟩ rfl rfl rfl rfl rfl (by kernel_rfl) Try.func5 (by kernel_rfl)
    (of_decide_eq_true (by kernel_rfl)) (by unfold Func.isWrapper; first | (rw [if_pos (by decide +kernel)]; kernel_rfl) | (rw [if_neg (by decide +kernel)]; exact ⟨rfl, rfl⟩))
    (fun os started H enc _ => macKept_lifted os started H enc)
#print axioms macKept_holds
end Go.Proofs.Ytgklokpjfnpabaa
