/-
  Proved: MacBack: an address's text and number are parsed as it; the law answers true at every address.
  No condition.
-/
import Derived.Test.YtgklokpjfnpabaaMacI
namespace Go.Proofs.Ytgklokpjfnpabaa
open Go.RowKit Go.ChangeShapes Go.WideShapes Go.ChangeAt
set_option linter.unusedVariables false

theorem num_of (x0 x1 x2 x3 x4 x5 : Int) (hx0 : 0 ≤ x0 ∧ x0 < 256) (hx1 : 0 ≤ x1 ∧ x1 < 256) (hx2 : 0 ≤ x2 ∧ x2 < 256) (hx3 : 0 ≤ x3 ∧ x3 < 256) (hx4 : 0 ≤ x4 ∧ x4 < 256) (hx5 : 0 ≤ x5 ∧ x5 < 256) : 0 ≤ num6 x0 x1 x2 x3 x4 x5 ∧ num6 x0 x1 x2 x3 x4 x5 < 281474976710656 ∧ num6 x0 x1 x2 x3 x4 x5 / 1099511627776 = x0 ∧ num6 x0 x1 x2 x3 x4 x5 / 4294967296 % 256 = x1 ∧ num6 x0 x1 x2 x3 x4 x5 / 16777216 % 256 = x2 ∧
    num6 x0 x1 x2 x3 x4 x5 / 65536 % 256 = x3 ∧ num6 x0 x1 x2 x3 x4 x5 / 256 % 256 = x4 ∧ num6 x0 x1 x2 x3 x4 x5 % 256 = x5 := by
  unfold num6
  omega

set_option maxHeartbeats 1000000 in
theorem macBack_any (x0 x1 x2 x3 x4 x5 : Int) (w : World) (hx0 : 0 ≤ x0 ∧ x0 < 256) (hx1 : 0 ≤ x1 ∧ x1 < 256) (hx2 : 0 ≤ x2 ∧ x2 < 256) (hx3 : 0 ≤ x3 ∧ x3 < 256) (hx4 : 0 ≤ x4 ∧ x4 < 256) (hx5 : 0 ≤ x5 ∧ x5 < 256) :
    Calls Try.prog 8 #[.agg #[.int .u8 x0, .int .u8 x1, .int .u8 x2, .int .u8 x3, .int .u8 x4, .int .u8 x5]] w fun e w' => e = .returned (.bool true) ∧ Below w.heap.size w w' := by
  have hq := eq6_same' x0 x1 x2 x3 x4 x5
  have T := hide (fun u => text_any x0 x1 x2 x3 x4 x5 u hx0 hx1 hx2 hx3 hx4 hx5)
  have N := hide (fun u => numberB x0 x1 x2 x3 x4 x5 u hx0 hx1 hx2 hx3 hx4 hx5)
  obtain ⟨n0, n1, m0, m1, m2, m3, m4, m5⟩ := num_of x0 x1 x2 x3 x4 x5 hx0 hx1 hx2 hx3 hx4 hx5
  have o := fun u => of_yes (num6 x0 x1 x2 x3 x4 x5) u n0 n1
  rw [m0, m1, m2, m3, m4, m5] at o
  have O := hide o
  obtain ⟨p0, q0, q1, q2, q3, q4, q5⟩ := text_parsed x0 x1 x2 x3 x4 x5 hx0 hx1 hx2 hx3 hx4 hx5
  have p := fun u => parse_all ⟨(txt6 x0 x1 x2 x3 x4 x5).toArray⟩ u (by rw [(good_all _ p0).1]; decide)
  rw [pm_yes _ p0, pm_yes _ p0, pm_yes _ p0, pm_yes _ p0, pm_yes _ p0, pm_yes _ p0, pe_yes _ p0, q0, q1, q2, q3, q4, q5] at p
  have P := hide p
  clear o p p0 q0 q1 q2 q3 q4 q5 m0 m1 m2 m3 m4 m5 n0 n1 hx0 hx1 hx2 hx3 hx4 hx5
  generalize txt6 x0 x1 x2 x3 x4 x5 = S at *
  generalize num6 x0 x1 x2 x3 x4 x5 = M at *
  go_enter Try.func8, Try.ntmps8
  go_wp2_with fail
  refine (awake_any _).mono ?_
  rintro e w1 ⟨rfl, hb1⟩
  have hs1 : w.heap.size < w1.heap.size := by have := hb1.size; simp at this; omega
  have a1 : ∀ o, w1.cell? ⟨w.heap.size, o, none⟩ = (w.alloc (.cells #[.int .u8 x0, .int .u8 x1, .int .u8 x2, .int .u8 x3, .int .u8 x4, .int .u8 x5] 23)).cell? ⟨w.heap.size, o, none⟩ := fun o => hb1.cell (by simp)
  have A1 := hide a1
  go_wp2_with fail
  refine (T.out _).mono ?_
  rintro e w2 ⟨rfl, hb2⟩
  clear a1
  have hs2 := hb2.size
  go_wp2_with fail
  refine (P.out _).mono ?_
  rintro e w3 ⟨rfl, hb3⟩
  have hs3 := hb3.size
  have hb13 : Below w1.heap.size w1 w3 := hb2.trans (hb3.mono hs2)
  have a3 : ∀ o, w3.cell? ⟨w.heap.size, o, none⟩ = (w.alloc (.cells #[.int .u8 x0, .int .u8 x1, .int .u8 x2, .int .u8 x3, .int .u8 x4, .int .u8 x5] 23)).cell? ⟨w.heap.size, o, none⟩ := fun o => (hb13.cell (by exact hs1)).trans (A1.out o)
  have b3 : ∀ (o : Nat) (ob : Obj), (w3.alloc ob).cell? ⟨w.heap.size, o, none⟩ = (w.alloc (.cells #[.int .u8 x0, .int .u8 x1, .int .u8 x2, .int .u8 x3, .int .u8 x4, .int .u8 x5] 23)).cell? ⟨w.heap.size, o, none⟩ := fun o ob => (World.cell?_alloc_lt w3 ob ⟨w.heap.size, o, none⟩ (by show w.heap.size < _; omega)).trans (a3 o)
  have A3 := hide a3; have B3 := hide b3
  clear a3
  go_wp2_with fail
  refine (N.out _).mono ?_
  rintro e w4 ⟨rfl, hb4⟩
  clear b3
  have hs4 : w3.heap.size + 1 ≤ w4.heap.size := by have := hb4.size; simpa using this
  go_wp2_with fail
  refine (O.out _).mono ?_
  rintro e w5 ⟨rfl, hb5⟩
  have hs5 := hb5.size
  have hb35 : Below (w3.heap.size + 1) (w3.alloc (.cells #[.int .u8 x0, .int .u8 x1, .int .u8 x2, .int .u8 x3, .int .u8 x4, .int .u8 x5] 23)) w5 := (hb4.mono (by simp)).trans (hb5.mono hs4)
  have c5 : ∀ (o : Nat) (ob : Obj), (w5.alloc ob).cell? ⟨w.heap.size, o, none⟩ = (w.alloc (.cells #[.int .u8 x0, .int .u8 x1, .int .u8 x2, .int .u8 x3, .int .u8 x4, .int .u8 x5] 23)).cell? ⟨w.heap.size, o, none⟩ := fun o ob =>
    (World.cell?_alloc_lt w5 ob ⟨w.heap.size, o, none⟩ (by show w.heap.size < _; omega)).trans ((hb35.cell (by show w.heap.size < _; omega)).trans (B3.out o _))
  have d5 : ∀ (o : Nat) (ob : Obj), (w5.alloc ob).cell? ⟨w3.heap.size, o, none⟩ = (w3.alloc (.cells #[.int .u8 x0, .int .u8 x1, .int .u8 x2, .int .u8 x3, .int .u8 x4, .int .u8 x5] 23)).cell? ⟨w3.heap.size, o, none⟩ := fun o ob =>
    (World.cell?_alloc_lt w5 ob ⟨w3.heap.size, o, none⟩ (by show w3.heap.size < _; omega)).trans (hb35.cell (by simp))
  go_wp2_with fail
  go_ret
  exact ⟨rfl, ((Below.refl w.heap.size w).alloc (Nat.le_refl _) _).trans ((hb1.mono (by simp)).trans ((hb13.mono (by omega)).trans ((((Below.refl _ w3).alloc (Nat.le_refl _) _).mono (by omega)).trans ((hb35.mono (by omega)).trans (((Below.refl _ w5).alloc (Nat.le_refl _) _).mono (by omega))))))⟩

set_option maxRecDepth 100000 in
theorem macBack_lifted (os : Os) (started : os.Started) (H : Type) (enc : TypeId × Value → H) :
    ReturnsInHanded {} Try.checked os 8 .any (Rows.macBackSpec.pre6 enc Try.prog Try.f8 Rows.macBackRow.domain false) (Rows.macBackSpec.post enc Try.prog Try.f8 false true false false) := by
  refine returnsInHanded_of_change (C := Try.checked) own started (by kernel_rfl) Try.func8
    (ChangeSpec.witness6 (enc := enc) (C := Try.checked) false ⟨#[], #[.agg #[.int .u8 0, .int .u8 0, .int .u8 0, .int .u8 0, .int .u8 0, .int .u8 0]], []⟩ 8 (by kernel_rfl) (by kernel_rfl) (by kernel_rfl) (by kernel_rfl)) ?_
  intro W base args ds gs before hval0 hW hcnd _
  have hval : ∀ (j : Nat) t v, Try.f8.params[j]? = some t → args[j]? = some v → Value.okWide Try.prog W .any base t v := hval0
  have hW' : DataW.Whole enc Try.prog Try.f8.params.toList Rows.macBackSpec.vars false W args.toList ds gs before := hW
  have hlen : args.toList.length = Try.f8.params.toList.length ∧ ds.length = Try.f8.params.toList.length := by
    obtain ⟨p, q, hA, _⟩ := hW'
    exact trodAll_len _ _ _ _ hA
  rw [Try.params8] at hval hlen
  obtain ⟨p0, rfl⟩ := args1 args hlen.1
  obtain ⟨d0, rfl⟩ := list1 ds hlen.2
  obtain rfl : gs = [] := by
    obtain ⟨p, q, _, hV, _⟩ := hW'
    exact (trodVars_none hV).1
  obtain ⟨x0, x1, x2, x3, x4, x5, rfl, hx0, hx1, hx2, hx3, hx4, hx5⟩ := open_mac Try.underlying23 Try.underlying5 cells23 cellTypes23 (hval 0 23 p0 rfl rfl)
  refine (macBack_any x0 x1 x2 x3 x4 x5 W hx0 hx1 hx2 hx3 hx4 hx5).mono fun e W' ⟨he, hb⟩ => ?_
  subst he
  have hp : ∀ t ∈ Try.f8.params.toList, Try.prog.readableRec t = true ∧ t < Try.prog.types.size := by
    rw [Try.params8]
    intro t ht
    simp at ht
    rcases ht with rfl
    all_goals first | exact readable23
  have hpost := law_post (enc := enc) (P := Try.prog) (f := Try.f8) (s := Rows.macBackSpec) (tb := 4) (W' := W') laidOut hW' rfl (by kernel_rfl) Try.underlying4 hp ⟨rfl, rfl, rfl⟩ hb
  exact ⟨_, rfl, hpost⟩

theorem macBack_holds : Rows.MacBackSaid :=
  OpenClaim.holds_of_wide 8 Try.f8 rfl rfl rfl rfl rfl rfl rfl ⟨rfl, rfl, rfl, rfl, rfl⟩ rfl rfl rfl rfl rfl (by kernel_rfl) Try.func8 (by kernel_rfl)
    (of_decide_eq_true (by kernel_rfl)) (by unfold Func.isWrapper; first | (rw [if_pos (by decide +kernel)]; kernel_rfl) | (rw [if_neg (by decide +kernel)]; exact ⟨rfl, rfl⟩))
    (fun os started H enc _ => macBack_lifted os started H enc)
#print axioms macBack_holds
end Go.Proofs.Ytgklokpjfnpabaa
