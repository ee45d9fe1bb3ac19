/-
  The reader: must.
-/
import Derived.Test.YtooieocfgifpgaaLpM
namespace Go.Proofs.Ytooieocfgifpgaa
open Go.RowKit Go.WideShapes Go.ChangeShapes
set_option linter.unusedVariables false

def MustPost (rb B : Nat) (ws ys : List UInt8) (w : World) (e : Ending) (w' : World) : Prop :=
  (∃ zs, ys = ws ++ zs ∧ e = .returned (.tuple #[]) ∧ RdAt w' rb B zs ∧ Frm w w' rb) ∨
  ((¬ ∃ zs, ys = ws ++ zs) ∧ e = .panicked [{ v := .iface 91 (.agg #[]), recovered := false }] ∧ Frm w w' rb)

theorem not_pre {ws ys : List UInt8} {k : Nat} (hk : k < ws.length) (h : ys.length ≤ k ∨ ∃ hy : k < ys.length, ys[k] ≠ ws[k]) : ¬ ∃ zs, ys = ws ++ zs := by
  rintro ⟨zs, rfl⟩
  rcases h with h | ⟨hy, h⟩
  · rw [List.length_append] at h; omega
  · exact h (List.getElem_append_left hk)

set_option maxHeartbeats 4000000 in
theorem must_any (rb B pb cap : Nat) (ws ys : List UInt8) (w : World) (hr : RdAt w rb B ys) (hw : ∀ i, (hi : i < ws.length) → w.cell? ⟨pb, i, none⟩ = some (.int .u8 (ws[i].toNat : Int))) (hne : pb ≠ rb) (hn : ws.length ≤ 1000) :
    Calls Try.prog 50 #[.pointer (some ⟨rb, 0, none⟩), .slice (some ⟨pb, 0, none⟩) ws.length cap] w (MustPost rb B ws ys w) := by
  have HR := hide hr; have HW := hide hw
  clear hr hw
  obtain ⟨n, hnn⟩ : ∃ n, n = ws.length := ⟨_, rfl⟩
  rw [← hnn] at hn ⊢
  have HN := hide hnn
  clear hnn
  go_enter Try.func50, Try.ntmps50
  go_wp2_with fail
  go_loopw [8] (fun i wr => ∃ (k : Nat), k ≤ n ∧ i = .int .i64 k ∧ k ≤ ys.length ∧ Hid (ws.take k = ys.take k) ∧ Hid (RdAt wr rb B (ys.drop k)) ∧ Hid (Frm w wr rb)) (fun i _ => n - (intOf i).toNat)
  case atStart => exact ⟨0, by omega, rfl, by omega, hide rfl, hide HR.out, hide (Frm.refl _ _)⟩
  case round =>
    obtain ⟨k, hk, rfl, hky, HT, HD, HF⟩ := hrel
    have hk0 : (0 : Int) ≤ (k : Int) := by omega
    by_cases hlt : k < n
    · have hk1 : (k : Int) < (n : Int) := by omega
      have hkw : k < ws.length := by have := HN.out; omega
      obtain ⟨want, hwant⟩ : ∃ x, x = ws[k] := ⟨_, rfl⟩
      have hc : wr.cell? ⟨pb, k, none⟩ = some (.int .u8 (want.toNat : Int)) := by rw [hwant]; exact HF.out.cell (HW.out k hkw) hne
      have HWt := hide hwant
      clear hwant
      go_wp2_with fail
      refine (taken_any rb B 1 (ys.drop k) wr HD.out (by decide) (by decide)).mono ?_
      rintro e w1 (⟨hl, A, cap', rfl, hs, hr1, hf⟩ | ⟨hl, rfl, hf⟩)
      · have hky1 : k < ys.length := by rw [List.length_drop] at hl; omega
        have hfm := hide (HF.out.trans hf (.inl rfl))
        have e1 : (ys.drop k).take 1 = [ys[k]] := by rw [List.drop_eq_getElem_cons hky1]; rfl
        have e2 : (ys.drop k).drop 1 = ys.drop (k + 1) := by rw [List.drop_drop]
        rw [e1] at hs
        rw [e2] at hr1
        have HR1 := hide hr1
        obtain ⟨x, hx⟩ : ∃ x, x = ys[k] := ⟨_, rfl⟩
        rw [← hx] at hs
        have HX := hide hx
        obtain ⟨s1, s2, s3⟩ := hs
        rcases s3 with s3 | ⟨b, o, rfl, hb, hcc⟩
        · simp at s3
        have c0 : w1.cell? ⟨b, o, none⟩ = some (.int .u8 (x.toNat : Int)) := hcc 0 (by simp)
        clear hcc hx hr1 hf e1 e2 hl
        by_cases hxw : (x.toNat : Int) = (want.toNat : Int)
        · go_wp2_with fail
          go_roundw
          case rel =>
            refine ⟨k + 1, by omega, by go_num, by omega, hide ?_, HR1, hfm⟩
            have e : x = want := UInt8.toNat_inj.1 (by omega)
            rw [HX.out, HWt.out] at e
            rw [List.take_succ_eq_append_getElem hkw, List.take_succ_eq_append_getElem hky1, HT.out, e]
          case measure => simp [intOf]; omega
        · go_wp2_with fail
          refine ⟨rfl, .inr ⟨not_pre hkw (.inr ⟨hky1, fun e => hxw ?_⟩), rfl, hfm.out⟩⟩
          rw [HX.out, HWt.out, e]
      · have hky1 : ys.length ≤ k := by rw [List.length_drop] at hl; omega
        have hfm := hide (HF.out.trans hf (.inl rfl))
        go_wp2_with fail
        exact ⟨rfl, .inr ⟨not_pre hkw (.inl hky1), rfl, hfm.out⟩⟩
    · have hk1 : ¬ (k : Int) < (n : Int) := by omega
      obtain rfl : k = n := by omega
      go_wp2_with fail
      go_end0
      refine .inl ⟨ys.drop k, ?_, rfl, HD.out, HF.out⟩
      have e := HT.out
      rw [List.take_of_length_le (by have := HN.out; omega)] at e
      rw [e, List.take_append_drop]
end Go.Proofs.Ytooieocfgifpgaa
