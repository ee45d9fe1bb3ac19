/-
  One end of a link: Take: the program's.
-/
import Derived.Test.YtooieocfgifpgaaRxC
import Derived.Deep.DeepCutAuto
namespace Go.Proofs.Ytooieocfgifpgaa
open Go.RowKit Go.WideShapes Go.ChangeShapes
set_option linter.unusedVariables false

def bareI (y : Inf) : Inf := { y with st := bits .and .i64 y.st 15 }
def tellB (lp me : Inf) : Bool := !eqI (bareI lp) (bareI me)
def ES.takeE (x : ES) (la lp : Inf) (d now : Int) : Int :=
  if inW 1099511627776 now then (if (x.s == 0) then 7 else if okL la lp d then (if eqM la x.actor && (la.port == x.actor.port) then 5 else 0) else 2) else 1
def ES.heard (x : ES) (la lp : Inf) (now : Int) : ES :=
  { x with p := (if hb la.st 2 && !knows lp x.actor then { la with st := bits .andNot .i64 la.st 8 } else la), s := 3, f := now }
def ES.take (x : ES) (la lp : Inf) (d now : Int) : ES := if x.takeE la lp d now = 0 then x.heard la lp now else x
def ES.takeT (x : ES) (la lp : Inf) (d now : Int) : Bool := decide (x.takeE la lp d now = 0) && tellB lp x.actor
def TakePost (t g : Nat) (x : ES) (la lp : Inf) (d now : Int) (w : World) (e : Ending) (w' : World) : Prop :=
  e = .returned (.tuple #[.bool (x.takeT la lp d now), .int .i64 (x.takeE la lp d now)]) ∧ EndAt w' g t (x.take la lp d now) ∧ Frm w w' g
theorem take_no {t g : Nat} {x : ES} {la lp : Inf} {d now k : Int} {w w' : World} (hE : x.takeE la lp d now = k) (hk : k ≠ 0) (h : EndAt w' g t x) (hf : Frm w w' g) {e : Ending} (he : e = .returned (.tuple #[.bool false, .int .i64 k])) : TakePost t g x la lp d now w e w' := by
  refine ⟨?_, ?_, hf⟩
  · rw [he]; unfold ES.takeT; rw [hE, decide_eq_false hk]; rfl
  · unfold ES.take; rw [hE, if_neg hk]; exact h
theorem take_yes {t g : Nat} {x : ES} {la lp : Inf} {d now : Int} {w w' : World} (hE : x.takeE la lp d now = 0) (h : EndAt w' g t (x.heard la lp now)) (hf : Frm w w' g) {e : Ending} (he : e = .returned (.tuple #[.bool (tellB lp x.actor), .int .i64 0])) : TakePost t g x la lp d now w e w' := by
  refine ⟨?_, ?_, hf⟩
  · rw [he]; unfold ES.takeT; rw [hE]; simp
  · unfold ES.take; rw [hE, if_pos rfl]; exact h
theorem and4' (p : Int) : (bits .and .i64 p 4 != 0) = hb p 2 := by rw [and4]; cases hb p 2 <;> decide

theorem wpList_load_g {P : Program} {ops : Array Oper} {rest : List Oper} {o : Oper} {a : Act} {w : World} {Q : Exit → Act → World → Prop} {ty : TypeId} {x : Operand} (ho : o.op = .load ty x) (hgd : Region.wanted o (yielded ops a.tmps) = true)
    (g off : Nat) (hx : a.eval x = .pointer (some ⟨g, off, none⟩)) (t : TypeId) {cs : Array Value} (vs : Array Value) (fr : Nat × Nat) (d : TypeDesc) (hg : w.heap[g]? = some (.cells cs t fr))
    (hu : P.underlying ty = some d) (hd : (match d with | .struct _ | .array _ _ => true | _ => false) = true) (hi : (P.info? ty).map (·.size) = some vs.size) (hvs : (cs.toList.drop off).take vs.size = vs.toList)
    (h : wpList P ops Q rest (a.put o.dst (.agg vs)) w) : wpList P ops Q (o :: rest) a w :=
  wpList_run hgd (.agg vs) (run_load_part ty x ho g off hx t cs vs fr d hg hu hd hi hvs) h

set_option maxRecDepth 100000 in
set_option maxHeartbeats 16000000 in
theorem take_any (g : Nat) (x : ES) (la lp : Inf) (d now : Int) (w : World) (h : EndAt w g 81 x) : Calls Try.prog 35 #[.pointer (some ⟨g, 0, none⟩), .agg #[.int .i64 la.sp, .int .u8 la.m0, .int .u8 la.m1, .int .u8 la.m2, .int .u8 la.m3, .int .u8 la.m4, .int .u8 la.m5, .int .i64 la.key, .int .i64 la.pp, .int .i64 la.port, .int .i64 la.st, .int .i64 lp.sp, .int .u8 lp.m0, .int .u8 lp.m1, .int .u8 lp.m2, .int .u8 lp.m3, .int .u8 lp.m4, .int .u8 lp.m5, .int .i64 lp.key, .int .i64 lp.pp, .int .i64 lp.port, .int .i64 lp.st, .int .i64 d], .int .i64 now] w (TakePost 81 g x la lp d now w) := by
  have hE : x.takeE la lp d now = if inW 1099511627776 now then (if (x.s == 0) then 7 else if okL la lp d then (if eqM la x.actor && (la.port == x.actor.port) then 5 else 0) else 2) else 1 := rfl
  have hh : x.heard la lp now = { x with p := (if hb la.st 2 && !knows lp x.actor then { la with st := bits .andNot .i64 la.st 8 } else la), s := 3, f := now } := rfl
  have HNo : ∀ (k : Int) (u u' : World) (e : Ending), x.takeE la lp d now = k → k ≠ 0 → EndAt u' g 81 x → Frm u u' g → e = .returned (.tuple #[.bool false, .int .i64 k]) → TakePost 81 g x la lp d now u e u' := fun k u u' e h1 h2 h3 h4 h5 => take_no h1 h2 h3 h4 h5
  have HYes : ∀ (u u' : World) (e : Ending), x.takeE la lp d now = 0 → EndAt u' g 81 (x.heard la lp now) → Frm u u' g → e = .returned (.tuple #[.bool (tellB lp x.actor), .int .i64 0]) → TakePost 81 g x la lp d now u e u' := fun u u' e h1 h2 h3 h4 => take_yes h1 h2 h3 h4
  have HMo := hide (fun u => moment_any now u)
  have HAc := hide (fun u => actor_any g x u)
  have HRt := hide (fun u => right_any la lp d u)
  generalize x.actor = me at *
  have HKn := hide (fun u => knows_any lp me u)
  have hm := fun u => run_eqM23 u la me
  have h4 := and4' la.st
  have hmE : ∀ m pe, eqM la me = m → (la.port == me.port) = pe → True := fun _ _ _ _ => trivial
  generalize eqM la me = m at hE hm hmE
  generalize hpe : (la.port == me.port) = pe at hE
  generalize okL la lp d = OK at hE HRt
  generalize knows lp me = K at hh HKn
  generalize hb la.st 2 = mb at hh h4
  generalize hs0 : (x.s == 0) = S0 at hE
  generalize inW 1099511627776 now = MM at hE HMo
  clear hmE
  have HNo' := hide HNo; have HYes' := hide HYes; have HH := hide hh
  clear HNo HYes hh
  have hgl := h.lt
  obtain ⟨n, hn⟩ : ∃ n, n = w.heap.size := ⟨_, rfl⟩
  have hgn : g < n := by omega
  have HG0 := hide (show EndAt (w.alloc (.cells #[.int .i64 la.sp, .int .u8 la.m0, .int .u8 la.m1, .int .u8 la.m2, .int .u8 la.m3, .int .u8 la.m4, .int .u8 la.m5, .int .i64 la.key, .int .i64 la.pp, .int .i64 la.port, .int .i64 la.st, .int .i64 lp.sp, .int .u8 lp.m0, .int .u8 lp.m1, .int .u8 lp.m2, .int .u8 lp.m3, .int .u8 lp.m4, .int .u8 lp.m5, .int .i64 lp.key, .int .i64 lp.pp, .int .i64 lp.port, .int .i64 lp.st, .int .i64 d] 27)) g 81 x from (Below.heap_alloc w _ g hgl).trans h)
  have HN0 := hide (show (w.alloc (.cells #[.int .i64 la.sp, .int .u8 la.m0, .int .u8 la.m1, .int .u8 la.m2, .int .u8 la.m3, .int .u8 la.m4, .int .u8 la.m5, .int .i64 la.key, .int .i64 la.pp, .int .i64 la.port, .int .i64 la.st, .int .i64 lp.sp, .int .u8 lp.m0, .int .u8 lp.m1, .int .u8 lp.m2, .int .u8 lp.m3, .int .u8 lp.m4, .int .u8 lp.m5, .int .i64 lp.key, .int .i64 lp.pp, .int .i64 lp.port, .int .i64 lp.st, .int .i64 d] 27)).heap[n]? = some (.cells #[.int .i64 la.sp, .int .u8 la.m0, .int .u8 la.m1, .int .u8 la.m2, .int .u8 la.m3, .int .u8 la.m4, .int .u8 la.m5, .int .i64 la.key, .int .i64 la.pp, .int .i64 la.port, .int .i64 la.st, .int .i64 lp.sp, .int .u8 lp.m0, .int .u8 lp.m1, .int .u8 lp.m2, .int .u8 lp.m3, .int .u8 lp.m4, .int .u8 lp.m5, .int .i64 lp.key, .int .i64 lp.pp, .int .i64 lp.port, .int .i64 lp.st, .int .i64 d] 27 (0, 0)) by rw [hn]; exact heap_alloc_new w _)
  have HF0 := hide ((Frm.refl w g).alloc (.cells #[.int .i64 la.sp, .int .u8 la.m0, .int .u8 la.m1, .int .u8 la.m2, .int .u8 la.m3, .int .u8 la.m4, .int .u8 la.m5, .int .i64 la.key, .int .i64 la.pp, .int .i64 la.port, .int .i64 la.st, .int .i64 lp.sp, .int .u8 lp.m0, .int .u8 lp.m1, .int .u8 lp.m2, .int .u8 lp.m3, .int .u8 lp.m4, .int .u8 lp.m5, .int .i64 lp.key, .int .i64 lp.pp, .int .i64 lp.port, .int .i64 lp.st, .int .i64 d] 27))
  have H := hide h
  clear h
  have HE := hide hE
  clear hE
  go_enter Try.func35, Try.ntmps35
  go_wp2_with fail
  rw [← hn]
  have hn1 : n ≤ w.heap.size := by omega
  have hn2 : w.heap.size ≤ n := by omega
  clear hn
  refine (HAc.out _ HG0.out).mono ?_
  rintro e w1 ⟨rfl, hb1⟩
  have hs1 : n < w1.heap.size := by have := hb1.size; simp at this; omega
  have HG1 := hide (HG0.out.below hb1)
  have HN1 := hide ((hb1.block n (by simp; omega)).trans HN0.out)
  have HF1 := hide (HF0.out.trans (Frm.of_below g hb1) (.inl rfl))
  have HG1' := hide (show EndAt (w1.alloc (.cells #[.int .i64 0, .int .u8 0, .int .u8 0, .int .u8 0, .int .u8 0, .int .u8 0, .int .u8 0, .int .i64 0, .int .i64 0, .int .i64 0, .int .i64 0] 25)) g 81 x from (Below.heap_alloc w1 _ g (by omega)).trans HG1.out)
  have HN1' := hide (show (w1.alloc (.cells #[.int .i64 0, .int .u8 0, .int .u8 0, .int .u8 0, .int .u8 0, .int .u8 0, .int .u8 0, .int .i64 0, .int .i64 0, .int .i64 0, .int .i64 0] 25)).heap[n]? = some (.cells #[.int .i64 la.sp, .int .u8 la.m0, .int .u8 la.m1, .int .u8 la.m2, .int .u8 la.m3, .int .u8 la.m4, .int .u8 la.m5, .int .i64 la.key, .int .i64 la.pp, .int .i64 la.port, .int .i64 la.st, .int .i64 lp.sp, .int .u8 lp.m0, .int .u8 lp.m1, .int .u8 lp.m2, .int .u8 lp.m3, .int .u8 lp.m4, .int .u8 lp.m5, .int .i64 lp.key, .int .i64 lp.pp, .int .i64 lp.port, .int .i64 lp.st, .int .i64 d] 27 (0, 0)) from (Below.heap_alloc w1 _ n hs1).trans HN1.out)
  have HZ1 := hide (heap_alloc_new w1 (.cells #[.int .i64 0, .int .u8 0, .int .u8 0, .int .u8 0, .int .u8 0, .int .u8 0, .int .u8 0, .int .i64 0, .int .i64 0, .int .i64 0, .int .i64 0] 25))
  obtain ⟨b, hb⟩ : ∃ b, b = w1.heap.size := ⟨_, rfl⟩
  clear hb1
  go_wp2_with (refine wpList_store_part rfl rfl w1.heap.size 0 #[.int .i64 me.sp, .int .u8 me.m0, .int .u8 me.m1, .int .u8 me.m2, .int .u8 me.m3, .int .u8 me.m4, .int .u8 me.m5, .int .i64 me.key, .int .i64 me.pp, .int .i64 me.port, .int .i64 me.st] rfl rfl 25 HZ1.out (by kernel_rfl) (by simp) (inf_one me) #[.int .i64 me.sp, .int .u8 me.m0, .int .u8 me.m1, .int .u8 me.m2, .int .u8 me.m3, .int .u8 me.m4, .int .u8 me.m5, .int .i64 me.key, .int .i64 me.pp, .int .i64 me.port, .int .i64 me.st] rfl ?_; intro w2 hf2 hb2; have HM2 := hide hb2; have HF2 := hide hf2; clear hf2 hb2)
  have HG2 := hide (HG1'.out.frm HF2.out (by omega))
  have HN2 := hide (HF2.out.keep HN1'.out (by omega))
  have HFt2 := hide ((HF1.out.alloc (.cells #[.int .i64 0, .int .u8 0, .int .u8 0, .int .u8 0, .int .u8 0, .int .u8 0, .int .u8 0, .int .i64 0, .int .i64 0, .int .i64 0, .int .i64 0] 25)).trans HF2.out (.inr (by have := HF1.out.size; omega)))
  have hs2 : b < w2.heap.size := by have := HF2.out.size; simp at this; omega
  rw [← hb] at HM2 ⊢
  have hbq1 : b ≤ w1.heap.size := by omega
  have hbq2 : w1.heap.size ≤ b := by omega
  clear hb
  have hnb : n < b := by omega
  clear HF2 HG1 HN1 HF1 HG1' HN1' HZ1 HF0 HG0 HN0
  refine (HMo.out _).mono ?_
  rintro e w' ⟨rfl, rfl⟩
  obtain ⟨-, -, c22, -, -, -⟩ := HG2.out.facts
  cases MM
  · go_wp2_with fail
    go_ret2
    exact HNo'.out 1 _ _ _ (by rw [HE.out]; simp) (by decide) HG2.out HFt2.out rfl
  cases S0
  rotate_left
  · go_wp2_with fail
    go_ret2
    exact HNo'.out 7 _ _ _ (by rw [HE.out]; simp) (by decide) HG2.out HFt2.out rfl
  go_wp2_with (refine wpList_load_part rfl 27 (.tmp 4) rfl n 0 rfl 27 _ #[.int .i64 la.sp, .int .u8 la.m0, .int .u8 la.m1, .int .u8 la.m2, .int .u8 la.m3, .int .u8 la.m4, .int .u8 la.m5, .int .i64 la.key, .int .i64 la.pp, .int .i64 la.port, .int .i64 la.st, .int .i64 lp.sp, .int .u8 lp.m0, .int .u8 lp.m1, .int .u8 lp.m2, .int .u8 lp.m3, .int .u8 lp.m4, .int .u8 lp.m5, .int .i64 lp.key, .int .i64 lp.pp, .int .i64 lp.port, .int .i64 lp.st, .int .i64 d] (0, 0) _ HN2.out Try.underlying27 rfl (by kernel_rfl) rfl ?_)
  refine (HRt.out w2).mono ?_
  rintro e w3 ⟨rfl, hb3⟩
  have HG3 := hide (HG2.out.below hb3)
  have HN3 := hide ((hb3.block n (by omega)).trans HN2.out)
  have HM3 := hide ((hb3.block b hs2).trans HM2.out)
  have HFt3 := hide (HFt2.out.trans (Frm.of_below g hb3) (.inl rfl))
  have hs3 : b < w3.heap.size := by have := hb3.size; omega
  clear hb3 HG2 HN2 HM2 HFt2 c22
  cases OK
  · go_wp2_with fail
    go_ret2
    exact HNo'.out 2 _ _ _ (by rw [HE.out]; simp) (by decide) HG3.out HFt3.out rfl
  have q9 : w3.cell? ⟨n, 9, none⟩ = some (.int .i64 la.port) := cell_of_row w3 n 9 _ 27 (0, 0) HN3.out
  have r9 : w3.cell? ⟨b, 9, none⟩ = some (.int .i64 me.port) := cell_of_row w3 b 9 _ 25 (0, 0) HM3.out
  have q0 : w3.cell? ⟨n, 1, none⟩ = some (.int .u8 la.m0) := cell_of_row w3 n 1 _ 27 (0, 0) HN3.out
  have r0 : w3.cell? ⟨b, 1, none⟩ = some (.int .u8 me.m0) := cell_of_row w3 b 1 _ 25 (0, 0) HM3.out
  have q1 : w3.cell? ⟨n, 2, none⟩ = some (.int .u8 la.m1) := cell_of_row w3 n 2 _ 27 (0, 0) HN3.out
  have r1 : w3.cell? ⟨b, 2, none⟩ = some (.int .u8 me.m1) := cell_of_row w3 b 2 _ 25 (0, 0) HM3.out
  have q2 : w3.cell? ⟨n, 3, none⟩ = some (.int .u8 la.m2) := cell_of_row w3 n 3 _ 27 (0, 0) HN3.out
  have r2 : w3.cell? ⟨b, 3, none⟩ = some (.int .u8 me.m2) := cell_of_row w3 b 3 _ 25 (0, 0) HM3.out
  have q3 : w3.cell? ⟨n, 4, none⟩ = some (.int .u8 la.m3) := cell_of_row w3 n 4 _ 27 (0, 0) HN3.out
  have r3 : w3.cell? ⟨b, 4, none⟩ = some (.int .u8 me.m3) := cell_of_row w3 b 4 _ 25 (0, 0) HM3.out
  have q4 : w3.cell? ⟨n, 5, none⟩ = some (.int .u8 la.m4) := cell_of_row w3 n 5 _ 27 (0, 0) HN3.out
  have r4 : w3.cell? ⟨b, 5, none⟩ = some (.int .u8 me.m4) := cell_of_row w3 b 5 _ 25 (0, 0) HM3.out
  have q5 : w3.cell? ⟨n, 6, none⟩ = some (.int .u8 la.m5) := cell_of_row w3 n 6 _ 27 (0, 0) HN3.out
  have r5 : w3.cell? ⟨b, 6, none⟩ = some (.int .u8 me.m5) := cell_of_row w3 b 6 _ 25 (0, 0) HM3.out
  go_upto_region 8 with fail
  go_cut [26] (fun c wx => c = .bool (m && pe) ∧ w3 = wx)
  case first =>
    cases m
    · go_wp2
      go_meet
      exact ⟨rfl, rfl⟩
    · cases pe
      all_goals
        go_wp2
        go_meet
        exact ⟨rfl, rfl⟩
  case rest =>
    obtain ⟨rfl, rfl⟩ := hcut
    clear q0 r0 q1 r1 q2 r2 q3 r3 q4 r4 q5 r5 q9 r9 hm hpe
    have HE2 := HE.out
    obtain ⟨E5, hE5⟩ : ∃ E5, E5 = (m && pe) := ⟨_, rfl⟩
    rw [← hE5] at HE2 ⊢
    have HE3 := hide HE2
    clear hE5 HE HE2
    cases E5
    rotate_left
    · go_wp2_with fail
      go_ret2
      exact HNo'.out 5 _ _ _ (by rw [HE3.out]; simp) (by decide) HG3.out HFt3.out rfl
    have HG3e := hide (show w3.heap[g]? = some (.cells (endCells x) 81 (0, 0)) from HG3.out)
    go_upto_region 12 with (first | (refine wpList_load_part rfl 25 (.tmp 42) rfl n 0 rfl 27 _ #[.int .i64 la.sp, .int .u8 la.m0, .int .u8 la.m1, .int .u8 la.m2, .int .u8 la.m3, .int .u8 la.m4, .int .u8 la.m5, .int .i64 la.key, .int .i64 la.pp, .int .i64 la.port, .int .i64 la.st] (0, 0) _ HN3.out Try.underlying25 rfl (by kernel_rfl) rfl ?_) | (refine wpList_store_part rfl rfl g 11 #[.int .i64 la.sp, .int .u8 la.m0, .int .u8 la.m1, .int .u8 la.m2, .int .u8 la.m3, .int .u8 la.m4, .int .u8 la.m5, .int .i64 la.key, .int .i64 la.pp, .int .i64 la.port, .int .i64 la.st] rfl rfl 81 HG3e.out (by kernel_rfl) (by simp [endCells]) (inf_one la) (endCells { x with p := la }) rfl ?_; intro w5 hf5 hb5; have HG5 := hide hb5; have HF5 := hide hf5; clear hf5 hb5; have u10 := cell_of_row w5 n 10 _ 27 (0, 0) (HF5.out.keep HN3.out (by omega)); simp at u10))
    have HN5 := hide (HF5.out.keep HN3.out (by omega))
    have HM5 := hide (HF5.out.keep HM3.out (by omega))
    have HFt5 := hide (HFt3.out.trans HF5.out (.inl rfl))
    have hs5 : b < w5.heap.size := by have := HF5.out.size; omega
    clear u10 HF5 HG3e HG3 HN3 HM3 HFt3
    go_cut [58] (fun c wx => c = .bool (mb && !K) ∧ Below w5.heap.size w5 wx)
    case first =>
      cases mb
      · go_wp2
        go_meet
        exact ⟨rfl, Below.refl _ _⟩
      · go_wp2_with (first | (refine wpList_load_g (ty := 25) (x := .tmp 53) rfl rfl n 11 rfl 27 #[.int .i64 lp.sp, .int .u8 lp.m0, .int .u8 lp.m1, .int .u8 lp.m2, .int .u8 lp.m3, .int .u8 lp.m4, .int .u8 lp.m5, .int .i64 lp.key, .int .i64 lp.pp, .int .i64 lp.port, .int .i64 lp.st] (0, 0) _ HN5.out Try.underlying25 rfl (by kernel_rfl) rfl ?_) | (refine wpList_load_g (ty := 25) (x := .tmp 8) rfl rfl b 0 rfl 25 #[.int .i64 me.sp, .int .u8 me.m0, .int .u8 me.m1, .int .u8 me.m2, .int .u8 me.m3, .int .u8 me.m4, .int .u8 me.m5, .int .i64 me.key, .int .i64 me.pp, .int .i64 me.port, .int .i64 me.st] (0, 0) _ HM5.out Try.underlying25 rfl (by kernel_rfl) rfl ?_))
        refine (HKn.out w5).mono ?_
        rintro e w6 ⟨rfl, hb6⟩
        have HB6 := hide hb6
        clear hb6
        go_wp2_with fail
        go_meet
        exact ⟨by simp, HB6.out⟩
    case rest =>
      obtain ⟨rfl, hbc⟩ := hcut
      have HGc := hide (show EndAt wc g 81 { x with p := la } from EndAt.below HG5.out hbc)
      have HNc := hide ((hbc.block n (by omega)).trans HN5.out)
      have HMc := hide ((hbc.block b hs5).trans HM5.out)
      have HFtc := hide (HFt5.out.trans (Frm.of_below g hbc) (.inl rfl))
      have hsc : b < wc.heap.size := by have := hbc.size; omega
      clear hbc HG5 HN5 HM5 HFt5 h4
      have HH2 := HH.out
      obtain ⟨NB, hNB⟩ : ∃ NB, NB = (mb && !K) := ⟨_, rfl⟩
      rw [← hNB] at HH2 ⊢
      have HH3 := hide HH2
      clear hNB HH2 HH
      obtain ⟨-, c21, c22, -, c24, z⟩ := HGc.out.facts
      have z21 := z 21; have z22 := z 22; have z24 := z 24
      clear z
      cases NB
      · obtain ⟨w7, hw7⟩ : ∃ w7, w7 = ((wc.setCell ⟨g, 22, none⟩ (.int .i64 3)).setCell ⟨g, 24, none⟩ (.int .i64 now)) := ⟨_, rfl⟩
        have HW7 := hide hw7
        have HG7 := hide (show EndAt w7 g 81 (x.heard la lp now) by rw [HH3.out, hw7]; exact (HGc.out.set 22 _ { x with p := la, s := 3 } rfl).set 24 _ { x with p := la, s := 3, f := now } rfl)
        have HFt7 := hide (show Frm w w7 g by rw [hw7]; exact (HFtc.out.setCell 22 _).setCell 24 _)
        have HF7 := hide (show Frm wc w7 g by rw [hw7]; exact ((Frm.refl wc g).setCell 22 (.int .i64 3)).setCell 24 (.int .i64 now))
        have HN7 := hide (HF7.out.keep HNc.out (by omega))
        have HM7 := hide (HF7.out.keep HMc.out (by omega))
        have hs7 : b < w7.heap.size := by have := HF7.out.size; omega
        clear hw7 HF7
        go_wp2_with fail
        rw [← HW7.out]
        clear c21 c22 c24 z21 z22 z24 HGc HNc HMc HFtc
        refine wp_region_class (by kernel_rfl) (by kernel_rfl) (fun C hC hS hN => ?_)
        have KN := hide (show ∀ u, (∃ x : Of C, u = x.w) → u.heap[n]? = some (.cells #[.int .i64 la.sp, .int .u8 la.m0, .int .u8 la.m1, .int .u8 la.m2, .int .u8 la.m3, .int .u8 la.m4, .int .u8 la.m5, .int .i64 la.key, .int .i64 la.pp, .int .i64 la.port, .int .i64 la.st, .int .i64 lp.sp, .int .u8 lp.m0, .int .u8 lp.m1, .int .u8 lp.m2, .int .u8 lp.m3, .int .u8 lp.m4, .int .u8 lp.m5, .int .i64 lp.key, .int .i64 lp.pp, .int .i64 lp.port, .int .i64 lp.st, .int .i64 d] 27 (0, 0)) from fun u ⟨x, hx⟩ => by rw [hx]; exact ((hC _ x.ok).block n (by omega)).trans HN7.out)
        have KM := hide (show ∀ u, (∃ x : Of C, u = x.w) → u.heap[b]? = some (.cells #[.int .i64 me.sp, .int .u8 me.m0, .int .u8 me.m1, .int .u8 me.m2, .int .u8 me.m3, .int .u8 me.m4, .int .u8 me.m5, .int .i64 me.key, .int .i64 me.pp, .int .i64 me.port, .int .i64 me.st] 25 (0, 0)) from fun u ⟨x, hx⟩ => by rw [hx]; exact ((hC _ x.ok).block b hs7).trans HM7.out)
        have HS := hide hS; clear hS
        repeat (first
          | (go_big_quiet_want; refine quiet_load_part 25 (.tmp 75) rfl n 11 rfl 27 _ #[.int .i64 lp.sp, .int .u8 lp.m0, .int .u8 lp.m1, .int .u8 lp.m2, .int .u8 lp.m3, .int .u8 lp.m4, .int .u8 lp.m5, .int .i64 lp.key, .int .i64 lp.pp, .int .i64 lp.port, .int .i64 lp.st] (0, 0) _ KN.out Try.underlying25 rfl (by kernel_rfl) rfl ?_; go_big_quiet_on; simp only [Act.put, List.setIfInBounds_toArray, List.set_cons_succ, List.set_cons_zero])
          | (go_big_quiet_want; refine quiet_load_part 25 (.tmp 8) rfl b 0 rfl 25 _ #[.int .i64 me.sp, .int .u8 me.m0, .int .u8 me.m1, .int .u8 me.m2, .int .u8 me.m3, .int .u8 me.m4, .int .u8 me.m5, .int .i64 me.key, .int .i64 me.pp, .int .i64 me.port, .int .i64 me.st] (0, 0) _ KM.out Try.underlying25 rfl (by kernel_rfl) rfl ?_; go_big_quiet_on; simp only [Act.put, List.setIfInBounds_toArray, List.set_cons_succ, List.set_cons_zero])
          | (go_big_quiet_want; refine quiet_run (.bool (!eqI (bareI lp) (bareI me))) (fun w => run_ne_op (t := 25) rfl rfl rfl guard25 (run_eqI w 9997 (bareI lp) (bareI me))) ?_; go_big_quiet_on; simp only [Act.put, List.setIfInBounds_toArray, List.set_cons_succ, List.set_cons_zero])
          | go_big_quiet_step ((first
            | (go_at_call 63; exact Calls.of_class HS.out (bare_any lp _))
            | (go_at_call 63; exact Calls.of_class HS.out (bare_any me _)))))
        refine wpQuiet_nil ?_
        intro u hu
        have HU := hide hu
        clear hu
        go_wp2_with fail
        go_ret2
        exact HYes'.out _ _ _ (by rw [HE3.out]; simp) (HG7.out.below HU.out) (HFt7.out.trans (Frm.of_below g HU.out) (.inl rfl)) rfl
      · obtain ⟨w7, hw7⟩ : ∃ w7, w7 = (((wc.setCell ⟨g, 21, none⟩ (.int .i64 (bits .andNot .i64 la.st 8))).setCell ⟨g, 22, none⟩ (.int .i64 3)).setCell ⟨g, 24, none⟩ (.int .i64 now)) := ⟨_, rfl⟩
        have HW7 := hide hw7
        have HG7 := hide (show EndAt w7 g 81 (x.heard la lp now) by rw [HH3.out, hw7]; exact ((HGc.out.set 21 _ { x with p := { la with st := bits .andNot .i64 la.st 8 } } rfl).set 22 _ { x with p := { la with st := bits .andNot .i64 la.st 8 }, s := 3 } rfl).set 24 _ { x with p := { la with st := bits .andNot .i64 la.st 8 }, s := 3, f := now } rfl)
        have HFt7 := hide (show Frm w w7 g by rw [hw7]; exact ((HFtc.out.setCell 21 _).setCell 22 _).setCell 24 _)
        have HF7 := hide (show Frm wc w7 g by rw [hw7]; exact (((Frm.refl wc g).setCell 21 (.int .i64 (bits .andNot .i64 la.st 8))).setCell 22 (.int .i64 3)).setCell 24 (.int .i64 now))
        have HN7 := hide (HF7.out.keep HNc.out (by omega))
        have HM7 := hide (HF7.out.keep HMc.out (by omega))
        have hs7 : b < w7.heap.size := by have := HF7.out.size; omega
        clear hw7 HF7
        go_wp2_with fail
        rw [← HW7.out]
        clear c21 c22 c24 z21 z22 z24 HGc HNc HMc HFtc
        refine wp_region_class (by kernel_rfl) (by kernel_rfl) (fun C hC hS hN => ?_)
        have KN := hide (show ∀ u, (∃ x : Of C, u = x.w) → u.heap[n]? = some (.cells #[.int .i64 la.sp, .int .u8 la.m0, .int .u8 la.m1, .int .u8 la.m2, .int .u8 la.m3, .int .u8 la.m4, .int .u8 la.m5, .int .i64 la.key, .int .i64 la.pp, .int .i64 la.port, .int .i64 la.st, .int .i64 lp.sp, .int .u8 lp.m0, .int .u8 lp.m1, .int .u8 lp.m2, .int .u8 lp.m3, .int .u8 lp.m4, .int .u8 lp.m5, .int .i64 lp.key, .int .i64 lp.pp, .int .i64 lp.port, .int .i64 lp.st, .int .i64 d] 27 (0, 0)) from fun u ⟨x, hx⟩ => by rw [hx]; exact ((hC _ x.ok).block n (by omega)).trans HN7.out)
        have KM := hide (show ∀ u, (∃ x : Of C, u = x.w) → u.heap[b]? = some (.cells #[.int .i64 me.sp, .int .u8 me.m0, .int .u8 me.m1, .int .u8 me.m2, .int .u8 me.m3, .int .u8 me.m4, .int .u8 me.m5, .int .i64 me.key, .int .i64 me.pp, .int .i64 me.port, .int .i64 me.st] 25 (0, 0)) from fun u ⟨x, hx⟩ => by rw [hx]; exact ((hC _ x.ok).block b hs7).trans HM7.out)
        have HS := hide hS; clear hS
        repeat (first
          | (go_big_quiet_want; refine quiet_load_part 25 (.tmp 75) rfl n 11 rfl 27 _ #[.int .i64 lp.sp, .int .u8 lp.m0, .int .u8 lp.m1, .int .u8 lp.m2, .int .u8 lp.m3, .int .u8 lp.m4, .int .u8 lp.m5, .int .i64 lp.key, .int .i64 lp.pp, .int .i64 lp.port, .int .i64 lp.st] (0, 0) _ KN.out Try.underlying25 rfl (by kernel_rfl) rfl ?_; go_big_quiet_on; simp only [Act.put, List.setIfInBounds_toArray, List.set_cons_succ, List.set_cons_zero])
          | (go_big_quiet_want; refine quiet_load_part 25 (.tmp 8) rfl b 0 rfl 25 _ #[.int .i64 me.sp, .int .u8 me.m0, .int .u8 me.m1, .int .u8 me.m2, .int .u8 me.m3, .int .u8 me.m4, .int .u8 me.m5, .int .i64 me.key, .int .i64 me.pp, .int .i64 me.port, .int .i64 me.st] (0, 0) _ KM.out Try.underlying25 rfl (by kernel_rfl) rfl ?_; go_big_quiet_on; simp only [Act.put, List.setIfInBounds_toArray, List.set_cons_succ, List.set_cons_zero])
          | (go_big_quiet_want; refine quiet_run (.bool (!eqI (bareI lp) (bareI me))) (fun w => run_ne_op (t := 25) rfl rfl rfl guard25 (run_eqI w 9997 (bareI lp) (bareI me))) ?_; go_big_quiet_on; simp only [Act.put, List.setIfInBounds_toArray, List.set_cons_succ, List.set_cons_zero])
          | go_big_quiet_step ((first
            | (go_at_call 63; exact Calls.of_class HS.out (bare_any lp _))
            | (go_at_call 63; exact Calls.of_class HS.out (bare_any me _)))))
        refine wpQuiet_nil ?_
        intro u hu
        have HU := hide hu
        clear hu
        go_wp2_with fail
        go_ret2
        exact HYes'.out _ _ _ (by rw [HE3.out]; simp) (HG7.out.below HU.out) (HFt7.out.trans (Frm.of_below g HU.out) (.inl rfl)) rfl
end Go.Proofs.Ytooieocfgifpgaa
