/-
  A link's mux: what its rules come to, where it is selected.
-/
import Derived.Test.YtpkpgefmkamaiaaMuxB
namespace Go.Proofs.Ytpkpgefmkamaiaa
open Go.RowKit
set_option linter.unusedVariables false

set_option maxHeartbeats 4000000 in
theorem rules_t0 (g : Nat) (f p now : Int) (w : World) (hg : g < w.heap.size) (h0 : w.cell? ⟨g, 0, none⟩ = some (.int .i64 0)) (h1 : w.cell? ⟨g, 1, none⟩ = some (.int .i64 f))
    (hf : 0 ≤ f ∧ f ≤ 1099511627776) (hn : 0 ≤ now ∧ now ≤ 1099511627776) :
    Calls Try.prog 17 #[.pointer (some ⟨g, 0, none⟩), .bool true, .int .i64 p, .int .i64 now] w fun e w' => RulesPost true 0 f p now w e w' := by
  go_enter Try.func17, Try.ntmps17
  go_wp2_with fail
  refine wp_region_tail 60 (by kernel_rfl) (by kernel_rfl) (fun u hu => ?_)
  have hbu : Below w.heap.size w u := by rw [hu]; exact ((((Below.refl w.heap.size w).alloc (Nat.le_refl _) _).alloc (by simp) _)).drew
  have c0 : u.cell? ⟨w.heap.size, 0, none⟩ = some (.pointer (some ⟨g, 0, none⟩)) := by rw [hu]; simp
  have c1 : u.cell? ⟨w.heap.size + 1, 0, none⟩ = some (.int .i64 p) := by rw [hu]; simp
  have c2 : u.cell? ⟨g, 0, none⟩ = some (.int .i64 0) := (hbu.cell (p := ⟨g, 0, none⟩) hg).trans h0
  have c3 : u.cell? ⟨g, 1, none⟩ = some (.int .i64 f) := (hbu.cell (p := ⟨g, 1, none⟩) hg).trans h1
  have HBU := hide hbu
  have I0 : Hid (Calls Try.prog 20 #[.int .i64 0, .pointer (some ⟨w.heap.size, 0, none⟩)] u fun e w' => e = .returned (.bool true) ∧ w' = u) := is_any ⟨w.heap.size, 0, none⟩ g 0 0 u c0 c2
  have I1 : Hid (Calls Try.prog 20 #[.int .i64 1, .pointer (some ⟨w.heap.size, 0, none⟩)] u fun e w' => e = .returned (.bool false) ∧ w' = u) := is_any ⟨w.heap.size, 0, none⟩ g 0 1 u c0 c2
  have I2 : Hid (Calls Try.prog 20 #[.int .i64 2, .pointer (some ⟨w.heap.size, 0, none⟩)] u fun e w' => e = .returned (.bool false) ∧ w' = u) := is_any ⟨w.heap.size, 0, none⟩ g 0 2 u c0 c2
  have I3 : Hid (Calls Try.prog 20 #[.int .i64 3, .pointer (some ⟨w.heap.size, 0, none⟩)] u fun e w' => e = .returned (.bool false) ∧ w' = u) := is_any ⟨w.heap.size, 0, none⟩ g 0 3 u c0 c2
  have I4 : Hid (Calls Try.prog 20 #[.int .i64 4, .pointer (some ⟨w.heap.size, 0, none⟩)] u fun e w' => e = .returned (.bool false) ∧ w' = u) := is_any ⟨w.heap.size, 0, none⟩ g 0 4 u c0 c2
  have H8 : Hid (Calls Try.prog 19 #[.int .i64 8, .pointer (some ⟨w.heap.size + 1, 0, none⟩)] u fun e w' => e = .returned (.bool (hasB p 8)) ∧ w' = u) := has_any ⟨w.heap.size + 1, 0, none⟩ p 8 u c1
  have H16 : Hid (Calls Try.prog 19 #[.int .i64 16, .pointer (some ⟨w.heap.size + 1, 0, none⟩)] u fun e w' => e = .returned (.bool (hasB p 16)) ∧ w' = u) := has_any ⟨w.heap.size + 1, 0, none⟩ p 16 u c1
  clear hu hbu h0 h1
  simp only [List.take_succ_cons, List.take_zero, List.drop_succ_cons, List.drop_zero]
  repeat (first | go_big_quiet_skip | (go_big_quiet_want; go_big_quiet_op; (first | go_big_quiet_on | (apply Exists.intro; refine ⟨?_, ?_⟩; (focus (first | (go_at_call 20; first | with_reducible exact I0.out | with_reducible exact I1.out | with_reducible exact I2.out | with_reducible exact I3.out | with_reducible exact I4.out) | (go_at_call 19; first | with_reducible exact H8.out | with_reducible exact H16.out))); go_big_quiet_on))))
  refine wpQuiet_nil ?_
  go_wp2
  go_ret
  exact ⟨u.heap.size, rfl, HBU.out.alloc HBU.out.size _, HBU.out.size, (heap_alloc_new u _).trans (by simp [ruleCells, ruleB])⟩

set_option maxHeartbeats 4000000 in
theorem rules_t1 (g : Nat) (f p now : Int) (w : World) (hg : g < w.heap.size) (h0 : w.cell? ⟨g, 0, none⟩ = some (.int .i64 1)) (h1 : w.cell? ⟨g, 1, none⟩ = some (.int .i64 f))
    (hf : 0 ≤ f ∧ f ≤ 1099511627776) (hn : 0 ≤ now ∧ now ≤ 1099511627776) :
    Calls Try.prog 17 #[.pointer (some ⟨g, 0, none⟩), .bool true, .int .i64 p, .int .i64 now] w fun e w' => RulesPost true 1 f p now w e w' := by
  go_enter Try.func17, Try.ntmps17
  go_wp2_with fail
  refine wp_region_tail 60 (by kernel_rfl) (by kernel_rfl) (fun u hu => ?_)
  have hbu : Below w.heap.size w u := by rw [hu]; exact ((((Below.refl w.heap.size w).alloc (Nat.le_refl _) _).alloc (by simp) _)).drew
  have c0 : u.cell? ⟨w.heap.size, 0, none⟩ = some (.pointer (some ⟨g, 0, none⟩)) := by rw [hu]; simp
  have c1 : u.cell? ⟨w.heap.size + 1, 0, none⟩ = some (.int .i64 p) := by rw [hu]; simp
  have c2 : u.cell? ⟨g, 0, none⟩ = some (.int .i64 1) := (hbu.cell (p := ⟨g, 0, none⟩) hg).trans h0
  have c3 : u.cell? ⟨g, 1, none⟩ = some (.int .i64 f) := (hbu.cell (p := ⟨g, 1, none⟩) hg).trans h1
  have HBU := hide hbu
  have I0 : Hid (Calls Try.prog 20 #[.int .i64 0, .pointer (some ⟨w.heap.size, 0, none⟩)] u fun e w' => e = .returned (.bool false) ∧ w' = u) := is_any ⟨w.heap.size, 0, none⟩ g 1 0 u c0 c2
  have I1 : Hid (Calls Try.prog 20 #[.int .i64 1, .pointer (some ⟨w.heap.size, 0, none⟩)] u fun e w' => e = .returned (.bool true) ∧ w' = u) := is_any ⟨w.heap.size, 0, none⟩ g 1 1 u c0 c2
  have I2 : Hid (Calls Try.prog 20 #[.int .i64 2, .pointer (some ⟨w.heap.size, 0, none⟩)] u fun e w' => e = .returned (.bool false) ∧ w' = u) := is_any ⟨w.heap.size, 0, none⟩ g 1 2 u c0 c2
  have I3 : Hid (Calls Try.prog 20 #[.int .i64 3, .pointer (some ⟨w.heap.size, 0, none⟩)] u fun e w' => e = .returned (.bool false) ∧ w' = u) := is_any ⟨w.heap.size, 0, none⟩ g 1 3 u c0 c2
  have I4 : Hid (Calls Try.prog 20 #[.int .i64 4, .pointer (some ⟨w.heap.size, 0, none⟩)] u fun e w' => e = .returned (.bool false) ∧ w' = u) := is_any ⟨w.heap.size, 0, none⟩ g 1 4 u c0 c2
  have H8 : Hid (Calls Try.prog 19 #[.int .i64 8, .pointer (some ⟨w.heap.size + 1, 0, none⟩)] u fun e w' => e = .returned (.bool (hasB p 8)) ∧ w' = u) := has_any ⟨w.heap.size + 1, 0, none⟩ p 8 u c1
  have H16 : Hid (Calls Try.prog 19 #[.int .i64 16, .pointer (some ⟨w.heap.size + 1, 0, none⟩)] u fun e w' => e = .returned (.bool (hasB p 16)) ∧ w' = u) := has_any ⟨w.heap.size + 1, 0, none⟩ p 16 u c1
  clear hu hbu h0 h1
  simp only [List.take_succ_cons, List.take_zero, List.drop_succ_cons, List.drop_zero]
  repeat (first | go_big_quiet_skip | (go_big_quiet_want; go_big_quiet_op; (first | go_big_quiet_on | (apply Exists.intro; refine ⟨?_, ?_⟩; (focus (first | (go_at_call 20; first | with_reducible exact I0.out | with_reducible exact I1.out | with_reducible exact I2.out | with_reducible exact I3.out | with_reducible exact I4.out) | (go_at_call 19; first | with_reducible exact H8.out | with_reducible exact H16.out))); go_big_quiet_on))))
  refine wpQuiet_nil ?_
  go_wp2
  go_ret
  exact ⟨u.heap.size, rfl, HBU.out.alloc HBU.out.size _, HBU.out.size, (heap_alloc_new u _).trans (by simp [ruleCells, ruleB])⟩

set_option maxHeartbeats 4000000 in
theorem rules_t2 (g : Nat) (f p now : Int) (w : World) (hg : g < w.heap.size) (h0 : w.cell? ⟨g, 0, none⟩ = some (.int .i64 2)) (h1 : w.cell? ⟨g, 1, none⟩ = some (.int .i64 f))
    (hf : 0 ≤ f ∧ f ≤ 1099511627776) (hn : 0 ≤ now ∧ now ≤ 1099511627776) :
    Calls Try.prog 17 #[.pointer (some ⟨g, 0, none⟩), .bool true, .int .i64 p, .int .i64 now] w fun e w' => RulesPost true 2 f p now w e w' := by
  go_enter Try.func17, Try.ntmps17
  go_wp2_with fail
  refine wp_region_tail 60 (by kernel_rfl) (by kernel_rfl) (fun u hu => ?_)
  have hbu : Below w.heap.size w u := by rw [hu]; exact ((((Below.refl w.heap.size w).alloc (Nat.le_refl _) _).alloc (by simp) _)).drew
  have c0 : u.cell? ⟨w.heap.size, 0, none⟩ = some (.pointer (some ⟨g, 0, none⟩)) := by rw [hu]; simp
  have c1 : u.cell? ⟨w.heap.size + 1, 0, none⟩ = some (.int .i64 p) := by rw [hu]; simp
  have c2 : u.cell? ⟨g, 0, none⟩ = some (.int .i64 2) := (hbu.cell (p := ⟨g, 0, none⟩) hg).trans h0
  have c3 : u.cell? ⟨g, 1, none⟩ = some (.int .i64 f) := (hbu.cell (p := ⟨g, 1, none⟩) hg).trans h1
  have HBU := hide hbu
  have I0 : Hid (Calls Try.prog 20 #[.int .i64 0, .pointer (some ⟨w.heap.size, 0, none⟩)] u fun e w' => e = .returned (.bool false) ∧ w' = u) := is_any ⟨w.heap.size, 0, none⟩ g 2 0 u c0 c2
  have I1 : Hid (Calls Try.prog 20 #[.int .i64 1, .pointer (some ⟨w.heap.size, 0, none⟩)] u fun e w' => e = .returned (.bool false) ∧ w' = u) := is_any ⟨w.heap.size, 0, none⟩ g 2 1 u c0 c2
  have I2 : Hid (Calls Try.prog 20 #[.int .i64 2, .pointer (some ⟨w.heap.size, 0, none⟩)] u fun e w' => e = .returned (.bool true) ∧ w' = u) := is_any ⟨w.heap.size, 0, none⟩ g 2 2 u c0 c2
  have I3 : Hid (Calls Try.prog 20 #[.int .i64 3, .pointer (some ⟨w.heap.size, 0, none⟩)] u fun e w' => e = .returned (.bool false) ∧ w' = u) := is_any ⟨w.heap.size, 0, none⟩ g 2 3 u c0 c2
  have I4 : Hid (Calls Try.prog 20 #[.int .i64 4, .pointer (some ⟨w.heap.size, 0, none⟩)] u fun e w' => e = .returned (.bool false) ∧ w' = u) := is_any ⟨w.heap.size, 0, none⟩ g 2 4 u c0 c2
  have H8 : Hid (Calls Try.prog 19 #[.int .i64 8, .pointer (some ⟨w.heap.size + 1, 0, none⟩)] u fun e w' => e = .returned (.bool (hasB p 8)) ∧ w' = u) := has_any ⟨w.heap.size + 1, 0, none⟩ p 8 u c1
  have H16 : Hid (Calls Try.prog 19 #[.int .i64 16, .pointer (some ⟨w.heap.size + 1, 0, none⟩)] u fun e w' => e = .returned (.bool (hasB p 16)) ∧ w' = u) := has_any ⟨w.heap.size + 1, 0, none⟩ p 16 u c1
  clear hu hbu h0 h1
  simp only [List.take_succ_cons, List.take_zero, List.drop_succ_cons, List.drop_zero]
  repeat (first | go_big_quiet_skip | (go_big_quiet_want; go_big_quiet_op; (first | go_big_quiet_on | (apply Exists.intro; refine ⟨?_, ?_⟩; (focus (first | (go_at_call 20; first | with_reducible exact I0.out | with_reducible exact I1.out | with_reducible exact I2.out | with_reducible exact I3.out | with_reducible exact I4.out) | (go_at_call 19; first | with_reducible exact H8.out | with_reducible exact H16.out))); go_big_quiet_on))))
  refine wpQuiet_nil ?_
  go_wp2
  go_ret
  exact ⟨u.heap.size, rfl, HBU.out.alloc HBU.out.size _, HBU.out.size, (heap_alloc_new u _).trans (by simp [ruleCells, ruleB])⟩

set_option maxHeartbeats 4000000 in
theorem rules_t3 (g : Nat) (f p now : Int) (w : World) (hg : g < w.heap.size) (h0 : w.cell? ⟨g, 0, none⟩ = some (.int .i64 3)) (h1 : w.cell? ⟨g, 1, none⟩ = some (.int .i64 f))
    (hf : 0 ≤ f ∧ f ≤ 1099511627776) (hn : 0 ≤ now ∧ now ≤ 1099511627776) :
    Calls Try.prog 17 #[.pointer (some ⟨g, 0, none⟩), .bool true, .int .i64 p, .int .i64 now] w fun e w' => RulesPost true 3 f p now w e w' := by
  go_enter Try.func17, Try.ntmps17
  go_wp2_with fail
  refine wp_region_tail 60 (by kernel_rfl) (by kernel_rfl) (fun u hu => ?_)
  have hbu : Below w.heap.size w u := by rw [hu]; exact ((((Below.refl w.heap.size w).alloc (Nat.le_refl _) _).alloc (by simp) _)).drew
  have c0 : u.cell? ⟨w.heap.size, 0, none⟩ = some (.pointer (some ⟨g, 0, none⟩)) := by rw [hu]; simp
  have c1 : u.cell? ⟨w.heap.size + 1, 0, none⟩ = some (.int .i64 p) := by rw [hu]; simp
  have c2 : u.cell? ⟨g, 0, none⟩ = some (.int .i64 3) := (hbu.cell (p := ⟨g, 0, none⟩) hg).trans h0
  have c3 : u.cell? ⟨g, 1, none⟩ = some (.int .i64 f) := (hbu.cell (p := ⟨g, 1, none⟩) hg).trans h1
  have HBU := hide hbu
  have I0 : Hid (Calls Try.prog 20 #[.int .i64 0, .pointer (some ⟨w.heap.size, 0, none⟩)] u fun e w' => e = .returned (.bool false) ∧ w' = u) := is_any ⟨w.heap.size, 0, none⟩ g 3 0 u c0 c2
  have I1 : Hid (Calls Try.prog 20 #[.int .i64 1, .pointer (some ⟨w.heap.size, 0, none⟩)] u fun e w' => e = .returned (.bool false) ∧ w' = u) := is_any ⟨w.heap.size, 0, none⟩ g 3 1 u c0 c2
  have I2 : Hid (Calls Try.prog 20 #[.int .i64 2, .pointer (some ⟨w.heap.size, 0, none⟩)] u fun e w' => e = .returned (.bool false) ∧ w' = u) := is_any ⟨w.heap.size, 0, none⟩ g 3 2 u c0 c2
  have I3 : Hid (Calls Try.prog 20 #[.int .i64 3, .pointer (some ⟨w.heap.size, 0, none⟩)] u fun e w' => e = .returned (.bool true) ∧ w' = u) := is_any ⟨w.heap.size, 0, none⟩ g 3 3 u c0 c2
  have I4 : Hid (Calls Try.prog 20 #[.int .i64 4, .pointer (some ⟨w.heap.size, 0, none⟩)] u fun e w' => e = .returned (.bool false) ∧ w' = u) := is_any ⟨w.heap.size, 0, none⟩ g 3 4 u c0 c2
  have H8 : Hid (Calls Try.prog 19 #[.int .i64 8, .pointer (some ⟨w.heap.size + 1, 0, none⟩)] u fun e w' => e = .returned (.bool (hasB p 8)) ∧ w' = u) := has_any ⟨w.heap.size + 1, 0, none⟩ p 8 u c1
  have H16 : Hid (Calls Try.prog 19 #[.int .i64 16, .pointer (some ⟨w.heap.size + 1, 0, none⟩)] u fun e w' => e = .returned (.bool (hasB p 16)) ∧ w' = u) := has_any ⟨w.heap.size + 1, 0, none⟩ p 16 u c1
  clear hu hbu h0 h1
  simp only [List.take_succ_cons, List.take_zero, List.drop_succ_cons, List.drop_zero]
  repeat (first | go_big_quiet_skip | (go_big_quiet_want; go_big_quiet_op; (first | go_big_quiet_on | (apply Exists.intro; refine ⟨?_, ?_⟩; (focus (first | (go_at_call 20; first | with_reducible exact I0.out | with_reducible exact I1.out | with_reducible exact I2.out | with_reducible exact I3.out | with_reducible exact I4.out) | (go_at_call 19; first | with_reducible exact H8.out | with_reducible exact H16.out))); go_big_quiet_on))))
  refine wpQuiet_nil ?_
  go_wp2
  go_ret
  exact ⟨u.heap.size, rfl, HBU.out.alloc HBU.out.size _, HBU.out.size, (heap_alloc_new u _).trans (by simp [ruleCells, ruleB])⟩

set_option maxHeartbeats 4000000 in
theorem rules_t4 (g : Nat) (f p now : Int) (w : World) (hg : g < w.heap.size) (h0 : w.cell? ⟨g, 0, none⟩ = some (.int .i64 4)) (h1 : w.cell? ⟨g, 1, none⟩ = some (.int .i64 f))
    (hf : 0 ≤ f ∧ f ≤ 1099511627776) (hn : 0 ≤ now ∧ now ≤ 1099511627776) :
    Calls Try.prog 17 #[.pointer (some ⟨g, 0, none⟩), .bool true, .int .i64 p, .int .i64 now] w fun e w' => RulesPost true 4 f p now w e w' := by
  go_enter Try.func17, Try.ntmps17
  go_wp2_with fail
  refine wp_region_tail 60 (by kernel_rfl) (by kernel_rfl) (fun u hu => ?_)
  have hbu : Below w.heap.size w u := by rw [hu]; exact ((((Below.refl w.heap.size w).alloc (Nat.le_refl _) _).alloc (by simp) _)).drew
  have c0 : u.cell? ⟨w.heap.size, 0, none⟩ = some (.pointer (some ⟨g, 0, none⟩)) := by rw [hu]; simp
  have c1 : u.cell? ⟨w.heap.size + 1, 0, none⟩ = some (.int .i64 p) := by rw [hu]; simp
  have c2 : u.cell? ⟨g, 0, none⟩ = some (.int .i64 4) := (hbu.cell (p := ⟨g, 0, none⟩) hg).trans h0
  have c3 : u.cell? ⟨g, 1, none⟩ = some (.int .i64 f) := (hbu.cell (p := ⟨g, 1, none⟩) hg).trans h1
  have HBU := hide hbu
  have I0 : Hid (Calls Try.prog 20 #[.int .i64 0, .pointer (some ⟨w.heap.size, 0, none⟩)] u fun e w' => e = .returned (.bool false) ∧ w' = u) := is_any ⟨w.heap.size, 0, none⟩ g 4 0 u c0 c2
  have I1 : Hid (Calls Try.prog 20 #[.int .i64 1, .pointer (some ⟨w.heap.size, 0, none⟩)] u fun e w' => e = .returned (.bool false) ∧ w' = u) := is_any ⟨w.heap.size, 0, none⟩ g 4 1 u c0 c2
  have I2 : Hid (Calls Try.prog 20 #[.int .i64 2, .pointer (some ⟨w.heap.size, 0, none⟩)] u fun e w' => e = .returned (.bool false) ∧ w' = u) := is_any ⟨w.heap.size, 0, none⟩ g 4 2 u c0 c2
  have I3 : Hid (Calls Try.prog 20 #[.int .i64 3, .pointer (some ⟨w.heap.size, 0, none⟩)] u fun e w' => e = .returned (.bool false) ∧ w' = u) := is_any ⟨w.heap.size, 0, none⟩ g 4 3 u c0 c2
  have I4 : Hid (Calls Try.prog 20 #[.int .i64 4, .pointer (some ⟨w.heap.size, 0, none⟩)] u fun e w' => e = .returned (.bool true) ∧ w' = u) := is_any ⟨w.heap.size, 0, none⟩ g 4 4 u c0 c2
  have H8 : Hid (Calls Try.prog 19 #[.int .i64 8, .pointer (some ⟨w.heap.size + 1, 0, none⟩)] u fun e w' => e = .returned (.bool (hasB p 8)) ∧ w' = u) := has_any ⟨w.heap.size + 1, 0, none⟩ p 8 u c1
  have H16 : Hid (Calls Try.prog 19 #[.int .i64 16, .pointer (some ⟨w.heap.size + 1, 0, none⟩)] u fun e w' => e = .returned (.bool (hasB p 16)) ∧ w' = u) := has_any ⟨w.heap.size + 1, 0, none⟩ p 16 u c1
  clear hu hbu h0 h1
  simp only [List.take_succ_cons, List.take_zero, List.drop_succ_cons, List.drop_zero]
  repeat (first | go_big_quiet_skip | (go_big_quiet_want; go_big_quiet_op; (first | go_big_quiet_on | (apply Exists.intro; refine ⟨?_, ?_⟩; (focus (first | (go_at_call 20; first | with_reducible exact I0.out | with_reducible exact I1.out | with_reducible exact I2.out | with_reducible exact I3.out | with_reducible exact I4.out) | (go_at_call 19; first | with_reducible exact H8.out | with_reducible exact H16.out))); go_big_quiet_on))))
  refine wpQuiet_nil ?_
  go_wp2
  go_ret
  exact ⟨u.heap.size, rfl, HBU.out.alloc HBU.out.size _, HBU.out.size, (heap_alloc_new u _).trans (by simp [ruleCells, ruleB])⟩
end Go.Proofs.Ytpkpgefmkamaiaa
