/-
  Proved: MacParses: the program's Parse answers as the reference's at every text; the law answers true.
  No condition.
-/
import Derived.Test.YtgklokpjfnpabaaMacI
namespace Go.Proofs.Ytgklokpjfnpabaa
open Go.RowKit Go.ChangeShapes Go.WideShapes Go.ChangeAt
set_option linter.unusedVariables false

set_option maxHeartbeats 1000000 in
theorem parses_walk (s : ByteArray) (z0 z1 z2 z3 z4 z5 f : Int) (w : World)
    (H1 : ∀ u, Calls Try.prog 23 #[.string s] u fun e w' => e = .returned (.tuple #[.agg #[.int .u8 z0, .int .u8 z1, .int .u8 z2, .int .u8 z3, .int .u8 z4, .int .u8 z5], .int .i64 f]) ∧ Below u.heap.size u w')
    (H2 : ∀ u, Calls Try.prog 24 #[.string s] u fun e w' => e = .returned (.tuple #[.agg #[.int .u8 z0, .int .u8 z1, .int .u8 z2, .int .u8 z3, .int .u8 z4, .int .u8 z5], .int .i64 f]) ∧ Below u.heap.size u w') :
    Calls Try.prog 7 #[.string s] w fun e w' => e = .returned (.bool true) ∧ Below w.heap.size w w' := by
  have hq := eq6_same' z0 z1 z2 z3 z4 z5
  have K1 := hide H1
  have K2 := hide H2
  clear H1 H2
  go_enter Try.func7, Try.ntmps7
  go_wp2_with fail
  refine (awake_any _).mono ?_
  rintro e w1 ⟨rfl, hb1⟩
  go_wp2_with fail
  refine (K1.out _).mono ?_
  rintro e w2 ⟨rfl, hb2⟩
  have hs2 := hb2.size
  go_wp2_with fail
  refine (K2.out _).mono ?_
  rintro e w3 ⟨rfl, hb3⟩
  have hs3 : w2.heap.size < w3.heap.size := by have := hb3.size; simp at this; omega
  have c3 : ∀ (o : Nat) (ob : Obj), (w3.alloc ob).cell? ⟨w2.heap.size, o, none⟩ = (w2.alloc (.cells #[.int .u8 z0, .int .u8 z1, .int .u8 z2, .int .u8 z3, .int .u8 z4, .int .u8 z5] 23)).cell? ⟨w2.heap.size, o, none⟩ := fun o ob =>
    (World.cell?_alloc_lt w3 ob ⟨w2.heap.size, o, none⟩ hs3).trans (hb3.cell (by simp))
  go_wp2_with fail
  go_ret
  have hs1 := hb1.size
  exact ⟨rfl, hb1.trans ((hb2.mono hs1).trans ((((Below.refl _ w2).alloc (Nat.le_refl _) _).mono (by omega)).trans ((hb3.mono (by simp; omega)).trans (((Below.refl _ w3).alloc (Nat.le_refl _) _).mono (by omega)))))⟩

theorem macParses_any (s : ByteArray) (w : World) (h : s.size ≤ 9223372036854775807) :
    Calls Try.prog 7 #[.string s] w fun e w' => e = .returned (.bool true) ∧ Below w.heap.size w w' :=
  parses_walk s _ _ _ _ _ _ _ w (fun u => parse_all s u h) (fun u => refParse_all s u h)

set_option maxRecDepth 100000 in
theorem macParses_lifted (os : Os) (started : os.Started) (H : Type) (enc : TypeId × Value → H) :
    ReturnsInHanded {} Try.checked os 7 .any (Rows.macParsesSpec.pre6 enc Try.prog Try.f7 Rows.macParsesRow.domain false) (Rows.macParsesSpec.post enc Try.prog Try.f7 false true false false) := by
  refine returnsInHanded_of_change (C := Try.checked) own started (by kernel_rfl) Try.func7
    (ChangeSpec.witness6 (enc := enc) (C := Try.checked) false ⟨#[], #[.string ⟨#[]⟩], []⟩ 8 (by kernel_rfl) (by kernel_rfl) (by kernel_rfl) (by kernel_rfl)) ?_
  intro W base args ds gs before hval0 hW hcnd _
  have hval : ∀ (j : Nat) t v, Try.f7.params[j]? = some t → args[j]? = some v → Value.okWide Try.prog W .any base t v := hval0
  have hW' : DataW.Whole enc Try.prog Try.f7.params.toList Rows.macParsesSpec.vars false W args.toList ds gs before := hW
  have hlen : args.toList.length = Try.f7.params.toList.length ∧ ds.length = Try.f7.params.toList.length := by
    obtain ⟨p, q, hA, _⟩ := hW'
    exact trodAll_len _ _ _ _ hA
  rw [Try.params7] at hval hlen
  obtain ⟨p0, rfl⟩ := args1 args hlen.1
  obtain ⟨d0, rfl⟩ := list1 ds hlen.2
  obtain rfl : gs = [] := by
    obtain ⟨p, q, _, hV, _⟩ := hW'
    exact (trodVars_none hV).1
  obtain ⟨s, rfl, hs⟩ : ∃ s : ByteArray, p0 = .string s ∧ s.size ≤ 9223372036854775807 := open_str Try.underlying9 (hval 0 9 p0 rfl rfl)
  refine (macParses_any s W hs).mono fun e W' ⟨he, hb⟩ => ?_
  subst he
  have hp : ∀ t ∈ Try.f7.params.toList, Try.prog.readableRec t = true ∧ t < Try.prog.types.size := by
    rw [Try.params7]
    intro t ht
    simp at ht
    rcases ht with rfl
    all_goals first | exact readable9
  have hpost := law_post (enc := enc) (P := Try.prog) (f := Try.f7) (s := Rows.macParsesSpec) (tb := 4) (W' := W') laidOut hW' rfl (by kernel_rfl) Try.underlying4 hp ⟨rfl, rfl, rfl⟩ hb
  exact ⟨_, rfl, hpost⟩

theorem macParses_holds : Rows.MacParsesSaid :=
  OpenClaim.holds_of_wide 7 Try.f7 rfl rfl rfl rfl rfl rfl rfl ⟨rfl, rfl, rfl, rfl, rfl⟩ rfl rfl rfl rfl rfl (by kernel_rfl) Try.func7 (by kernel_rfl)
    (of_decide_eq_true (by kernel_rfl)) (by unfold Func.isWrapper; first | (rw [if_pos (by decide +kernel)]; kernel_rfl) | (rw [if_neg (by decide +kernel)]; exact ⟨rfl, rfl⟩))
    (fun os started H enc _ => macParses_lifted os started H enc)
#print axioms macParses_holds
end Go.Proofs.Ytgklokpjfnpabaa
