/-
  One end of a link: Tick, Actor, Partner, New.
-/
import Derived.Test.YtooieocfgifpgaaRxA
namespace Go.Proofs.Ytooieocfgifpgaa
open Go.RowKit Go.WideShapes Go.ChangeShapes
set_option linter.unusedVariables false

def ES.late (x : ES) (now : Int) : ES := { x with s := 2, p := Inf.zero }
def ES.actSt (x : ES) : Int := if (x.s == 2) then bits .or .i64 (bits .or .i64 x.a.st x.m) 64 else if (x.s == 1) then bits .or .i64 (bits .or .i64 x.a.st x.m) 128 else bits .or .i64 x.a.st x.m
def ES.actor (x : ES) : Inf := { x.a with st := x.actSt }
def okNew (a : Inf) : Bool := a.ok && (bits .andNot .i64 a.st 7 == 0)
def ES.new (a : Inf) : ES := ⟨a, Inf.zero, 0, 0, 0⟩

set_option maxHeartbeats 4000000 in
theorem tick_any (g : Nat) (x : ES) (now : Int) (w : World) (hf : x.fine) (h : EndAt w g 81 x) : Calls Try.prog 34 #[.pointer (some ⟨g, 0, none⟩), .int .i64 now] w fun e w' => e = .returned (.int .i64 (momE now)) ∧ EndAt w' g 81 (x.tick now) ∧ Frm w w' g := by
  obtain ⟨c10, c21, c22, c23, c24, z⟩ := h.facts
  have z22 := z 22
  have H := hide h
  have hm : momE now = if inW 1099511627776 now then 0 else 1 := rfl
  have ht : x.tick now = if inW 1099511627776 now then (if now - x.f < x.wait then x else if (x.s == 3) then x.expire now else if (x.s == 1) then { x with s := 2, p := Inf.zero } else x) else x := rfl
  have hi := inW_iff 1099511627776 now
  have HMo := hide (fun u => moment_any now u)
  generalize inW 1099511627776 now = M at hm ht HMo hi
  have HM := hide hm
  clear h z hm
  cases M
  · have HT := hide ht
    clear hi ht
    go_enter Try.func34, Try.ntmps34
    go_wp2_with (go_at_call 60; refine (HMo.out _).mono ?_; rintro e w' ⟨rfl, rfl⟩)
    go_ret
    exact ⟨by rw [HM.out]; rfl, by rw [HT.out]; exact H.out, Frm.refl _ _⟩
  have hn := hi.1 rfl
  obtain ⟨hf1, hf2⟩ := hf.f
  have hw : IntKind.i64.wrap (now - x.f) = now - x.f := IntWalk.i64_in _ ⟨by omega, by omega⟩
  obtain ⟨D, hD⟩ : ∃ D, decide (now - x.f < x.wait) = D := ⟨_, rfl⟩
  obtain ⟨S3, h3⟩ : ∃ D, (x.s == 3) = D := ⟨_, rfl⟩
  obtain ⟨S1, h1⟩ : ∃ D, (x.s == 1) = D := ⟨_, rfl⟩
  rw [h3, h1] at ht
  have HT : ∀ X : ES, (x.tick now = X) → Hid (x.tick now = X) := fun X hX => hX
  have hlt : D = true → x.tick now = x := fun hd => by rw [ht]; simp only [if_true]; rw [if_pos (by subst hd; simpa using hD)]
  have hge : D = false → x.tick now = if S3 then x.expire now else if S1 then { x with s := 2, p := Inf.zero } else x := fun hd => by rw [ht]; simp only [if_true]; rw [if_neg (by subst hd; simpa using hD)]
  clear ht hi
  cases D
  rotate_left
  · have HX := hide (hlt rfl)
    clear hlt hge h3 h1
    go_enter Try.func34, Try.ntmps34
    go_wp2_with (go_at_call 60; refine (HMo.out _).mono ?_; rintro e w' ⟨rfl, rfl⟩)
    go_quiet ((go_at_call 61; exact Calls.quiet_of_same ((wait_any g x _ (H.out.dn _)).mono fun e w' ⟨a, b⟩ => ⟨a, b.symm⟩)))
    go_wp2
    go_ret
    exact ⟨by rw [HM.out]; rfl, by rw [HX.out]; exact H.out.dn _, (Frm.refl _ _).dn _⟩
  cases S3
  rotate_left
  · have HX := hide (hge rfl)
    clear hlt hge h1
    go_enter Try.func34, Try.ntmps34
    go_wp2_with (go_at_call 60; refine (HMo.out _).mono ?_; rintro e w' ⟨rfl, rfl⟩)
    go_quiet ((go_at_call 61; exact Calls.quiet_of_same ((wait_any g x _ (H.out.dn _)).mono fun e w' ⟨a, b⟩ => ⟨a, b.symm⟩)))
    go_wp2_with fail
    refine (expire_any g x now _ (H.out.dn _)).mono ?_
    rintro e w1 ⟨rfl, h1, hf1⟩
    have H1 := hide h1; have HF1 := hide hf1
    clear h1 hf1
    go_wp2_with fail
    go_ret
    exact ⟨by rw [HM.out]; rfl, by rw [HX.out]; exact H1.out, ((Frm.refl w g).dn _).trans HF1.out (.inl rfl)⟩
  cases S1
  · have HX := hide (hge rfl)
    clear hlt hge
    go_enter Try.func34, Try.ntmps34
    go_wp2_with (go_at_call 60; refine (HMo.out _).mono ?_; rintro e w' ⟨rfl, rfl⟩)
    go_quiet ((go_at_call 61; exact Calls.quiet_of_same ((wait_any g x _ (H.out.dn _)).mono fun e w' ⟨a, b⟩ => ⟨a, b.symm⟩)))
    go_wp2
    go_ret
    exact ⟨by rw [HM.out]; rfl, by rw [HX.out]; exact H.out.dn _, (Frm.refl _ _).dn _⟩
  · have HX := hide (hge rfl)
    clear hlt hge
    go_enter Try.func34, Try.ntmps34
    go_wp2_with (go_at_call 60; refine (HMo.out _).mono ?_; rintro e w' ⟨rfl, rfl⟩)
    go_quiet ((go_at_call 61; exact Calls.quiet_of_same ((wait_any g x _ (H.out.dn _)).mono fun e w' ⟨a, b⟩ => ⟨a, b.symm⟩)))
    go_wp2_with (refine wpList_store_part rfl rfl g 11 #[.int .i64 0, .int .u8 0, .int .u8 0, .int .u8 0, .int .u8 0, .int .u8 0, .int .u8 0, .int .i64 0, .int .i64 0, .int .i64 0, .int .i64 0] rfl rfl 81 ((H.out.dn _).set 22 (.int .i64 2) { x with s := 2 } rfl) (by kernel_rfl) (by simp [endCells]) (inf_one Inf.zero) (endCells { x with s := 2, p := Inf.zero }) rfl ?_; intro w5 hf5 hb5)
    have H5 := hide hb5; have HF5 := hide hf5
    clear hf5 hb5
    go_wp2_with fail
    go_ret
    exact ⟨by rw [HM.out]; rfl, by rw [HX.out]; exact H5.out, (((Frm.refl w g).dn _).setCell 22 _).trans HF5.out (.inl rfl)⟩

set_option maxHeartbeats 4000000 in
theorem refTick_any (g : Nat) (x : ES) (now : Int) (w : World) (hf : x.fine) (h : EndAt w g 53 x) : Calls Try.prog 57 #[.pointer (some ⟨g, 0, none⟩), .int .i64 now] w fun e w' => e = .returned (.int .i64 (momE now)) ∧ EndAt w' g 53 (x.tick now) ∧ Frm w w' g := by
  obtain ⟨c10, c21, c22, c23, c24, z⟩ := h.facts
  have z22 := z 22
  have H := hide h
  have hm : momE now = if inW 1099511627776 now then 0 else 1 := rfl
  have ht : x.tick now = if inW 1099511627776 now then (if now - x.f < x.wait then x else if (x.s == 3) then x.expire now else if (x.s == 1) then { x with s := 2, p := Inf.zero } else x) else x := rfl
  have hi := inW_iff 1099511627776 now
  have HMo := hide (fun u => refMoment_any now u)
  generalize inW 1099511627776 now = M at hm ht HMo hi
  have HM := hide hm
  clear h z hm
  cases M
  · have HT := hide ht
    clear hi ht
    go_enter Try.func57, Try.ntmps57
    go_wp2_with (go_at_call 68; refine (HMo.out _).mono ?_; rintro e w' ⟨rfl, rfl⟩)
    go_ret
    exact ⟨by rw [HM.out]; rfl, by rw [HT.out]; exact H.out, Frm.refl _ _⟩
  have hn := hi.1 rfl
  obtain ⟨hf1, hf2⟩ := hf.f
  have hw : IntKind.i64.wrap (now - x.f) = now - x.f := IntWalk.i64_in _ ⟨by omega, by omega⟩
  obtain ⟨D, hD⟩ : ∃ D, decide (now - x.f < x.wait) = D := ⟨_, rfl⟩
  obtain ⟨S3, h3⟩ : ∃ D, (x.s == 3) = D := ⟨_, rfl⟩
  obtain ⟨S1, h1⟩ : ∃ D, (x.s == 1) = D := ⟨_, rfl⟩
  rw [h3, h1] at ht
  have hwt : x.wait = if (x.s == 1) || hb x.a.st 1 then 3 else 90 := rfl
  have h2 : (bits .and .i64 x.a.st 2 != 0) = hb x.a.st 1 := by rw [and2]; cases hb x.a.st 1 <;> decide
  generalize hb x.a.st 1 = B at hwt h2
  rw [h1] at hwt
  have hD' := hD
  have HT : ∀ X : ES, (x.tick now = X) → Hid (x.tick now = X) := fun X hX => hX
  have hlt : D = true → x.tick now = x := fun hd => by rw [ht]; simp only [if_true]; rw [if_pos (by subst hd; simpa using hD)]
  have hge : D = false → x.tick now = if S3 then x.expire now else if S1 then { x with s := 2, p := Inf.zero } else x := fun hd => by rw [ht]; simp only [if_true]; rw [if_neg (by subst hd; simpa using hD)]
  clear ht hi
  have hW : (if S1 || B then (3 : Int) else 90) = x.wait := hwt.symm
  clear hwt
  generalize x.wait = W at hD hD' hW hlt hge
  have hcase : (S1 = true ∧ S3 = false ∧ W = 3) ∨ (S1 = false ∧ B = true ∧ W = 3) ∨ (S1 = false ∧ B = false ∧ W = 90) := by
    cases S1 <;> cases B <;> cases S3 <;> simp at hW h1 h3 ⊢ <;> omega
  clear hW
  rcases hcase with ⟨rfl, rfl, rfl⟩ | ⟨rfl, rfl, rfl⟩ | ⟨rfl, rfl, rfl⟩
  · clear hD'
    cases D
    rotate_left
    · have HX := hide (hlt rfl)
      clear hlt hge h3
      go_enter Try.func57, Try.ntmps57
      go_wp2_with (go_at_call 68; refine (HMo.out _).mono ?_; rintro e w' ⟨rfl, rfl⟩)
      go_ret
      exact ⟨by rw [HM.out]; rfl, by rw [HX.out]; exact H.out, Frm.refl _ _⟩
    · have HX := hide (hge rfl)
      clear hlt hge
      go_enter Try.func57, Try.ntmps57
      go_wp2_with (first | (go_at_call 68; refine (HMo.out _).mono ?_; rintro e w' ⟨rfl, rfl⟩) | (refine wpList_store_part rfl rfl g 11 #[.int .i64 0, .int .u8 0, .int .u8 0, .int .u8 0, .int .u8 0, .int .u8 0, .int .u8 0, .int .i64 0, .int .i64 0, .int .i64 0, .int .i64 0] rfl rfl 53 (H.out.set 22 (.int .i64 2) { x with s := 2 } rfl) (by kernel_rfl) (by simp [endCells]) (inf_one Inf.zero) (endCells { x with s := 2, p := Inf.zero }) rfl ?_; intro w5 hf5 hb5; have H5 := hide hb5; have HF5 := hide hf5; clear hf5 hb5))
      go_ret
      exact ⟨by rw [HM.out]; rfl, by rw [HX.out]; exact H5.out, ((Frm.refl w g).setCell 22 _).trans HF5.out (.inl rfl)⟩
  · clear hD'
    cases D
    rotate_left
    · have HX := hide (hlt rfl)
      clear hlt hge h3
      go_enter Try.func57, Try.ntmps57
      go_wp2_with (go_at_call 68; refine (HMo.out _).mono ?_; rintro e w' ⟨rfl, rfl⟩)
      go_ret
      exact ⟨by rw [HM.out]; rfl, by rw [HX.out]; exact H.out, Frm.refl _ _⟩
    cases S3
    · have HX := hide (hge rfl)
      clear hlt hge
      go_enter Try.func57, Try.ntmps57
      go_wp2_with (go_at_call 68; refine (HMo.out _).mono ?_; rintro e w' ⟨rfl, rfl⟩)
      go_ret
      exact ⟨by rw [HM.out]; rfl, by rw [HX.out]; exact H.out, Frm.refl _ _⟩
    · have HX := hide (hge rfl)
      clear hlt hge
      go_enter Try.func57, Try.ntmps57
      go_wp2_with (go_at_call 68; refine (HMo.out _).mono ?_; rintro e w' ⟨rfl, rfl⟩)
      refine (refExpire_any g x now _ H.out).mono ?_
      rintro e w1 ⟨rfl, h1', hf1'⟩
      have H1 := hide h1'; have HF1 := hide hf1'
      clear h1' hf1'
      go_wp2_with fail
      go_ret
      exact ⟨by rw [HM.out]; rfl, by rw [HX.out]; exact H1.out, HF1.out⟩
  · clear hD'
    cases D
    rotate_left
    · have HX := hide (hlt rfl)
      clear hlt hge h3
      go_enter Try.func57, Try.ntmps57
      go_wp2_with (go_at_call 68; refine (HMo.out _).mono ?_; rintro e w' ⟨rfl, rfl⟩)
      go_ret
      exact ⟨by rw [HM.out]; rfl, by rw [HX.out]; exact H.out, Frm.refl _ _⟩
    cases S3
    · have HX := hide (hge rfl)
      clear hlt hge
      go_enter Try.func57, Try.ntmps57
      go_wp2_with (go_at_call 68; refine (HMo.out _).mono ?_; rintro e w' ⟨rfl, rfl⟩)
      go_ret
      exact ⟨by rw [HM.out]; rfl, by rw [HX.out]; exact H.out, Frm.refl _ _⟩
    · have HX := hide (hge rfl)
      clear hlt hge
      go_enter Try.func57, Try.ntmps57
      go_wp2_with (go_at_call 68; refine (HMo.out _).mono ?_; rintro e w' ⟨rfl, rfl⟩)
      refine (refExpire_any g x now _ H.out).mono ?_
      rintro e w1 ⟨rfl, h1', hf1'⟩
      have H1 := hide h1'; have HF1 := hide hf1'
      clear h1' hf1'
      go_wp2_with fail
      go_ret
      exact ⟨by rw [HM.out]; rfl, by rw [HX.out]; exact H1.out, HF1.out⟩
end Go.Proofs.Ytooieocfgifpgaa
