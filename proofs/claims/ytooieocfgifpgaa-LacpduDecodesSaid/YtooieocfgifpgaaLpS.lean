/-
  Decode itself.
-/
import Derived.Test.YtooieocfgifpgaaLpR
import Derived.Laws.ResultCell
namespace Go.Proofs.Ytooieocfgifpgaa
open Go.RowKit Go.WideShapes Go.ChangeShapes
set_option linter.unusedVariables false

def WholeAt (ys : List UInt8) : Prop := ∃ (a p : Inf) (d : Int), a.wf ∧ a.fine ∧ p.wf ∧ p.fine ∧ (0 ≤ d ∧ d ≤ 65535) ∧ ys = encL a p d
theorem whole_dec {ys : List UInt8} (h : ¬ DecAt ys) : ¬ WholeAt ys := fun ⟨a, p, d, h1, h2, h3, h4, h5, h6⟩ => h ⟨a, p, d, [], h1, h2, h3, h4, h5, by rw [h6, List.append_nil]⟩
theorem whole_more {a p : Inf} {d : Int} {ys zs : List UInt8} (h : ys = encL a p d ++ zs) (hz : zs ≠ []) : ¬ WholeAt ys := fun ⟨b, q, f, _, _, _, _, _, h6⟩ => hz (by
  have := congrArg List.length (h.symm.trans h6)
  rw [List.length_append, encL_length, encL_length] at this
  exact List.eq_nil_of_length_eq_zero (by omega))
theorem res_lacp {fn : Func} {p u : Tmp} (h : fn.results = #[.cell p 27, .tmp u]) (tmps : Array Value) (w : World) (g : Nat) (cs : Array Value) (fr : Nat × Nat) (hp : tmps.getD p undef = .pointer (some ⟨g, 0, none⟩)) (hg : w.heap[g]? = some (.cells cs 27 fr)) (hs : cs.size = 23) :
    (results fn tmps).run Try.prog w = .ok (.tuple #[.agg cs, tmps.getD u undef]) w := by
  have hp' : tmps[p]?.getD undef = .pointer (some ⟨g, 0, none⟩) := by simpa using hp
  have hi : (Try.prog.info? 27).map (·.size) = some cs.size := by rw [hs]; kernel_rfl
  simp [results, h, hp', asAddr, run_loadVar_row w g 27 27 cs fr _ hg Try.underlying27 rfl hi]
theorem lacp_ones (a p : Inf) (d : Int) : ∀ v ∈ (#[.int .i64 a.sp, .int .u8 a.m0, .int .u8 a.m1, .int .u8 a.m2, .int .u8 a.m3, .int .u8 a.m4, .int .u8 a.m5, .int .i64 a.key, .int .i64 a.pp, .int .i64 a.port, .int .i64 a.st, .int .i64 p.sp, .int .u8 p.m0, .int .u8 p.m1, .int .u8 p.m2, .int .u8 p.m3, .int .u8 p.m4, .int .u8 p.m5, .int .i64 p.key, .int .i64 p.pp, .int .i64 p.port, .int .i64 p.st, .int .i64 d] : Array Value).toList, v.oneCell' = true := by simp [Value.oneCell']

def DecPost (ys : List UInt8) (w : World) (e : Ending) (w' : World) : Prop :=
  (∃ (a p : Inf) (d : Int), a.wf ∧ a.fine ∧ p.wf ∧ p.fine ∧ (0 ≤ d ∧ d ≤ 65535) ∧ ys = encL a p d ∧ e = .returned (.tuple #[.agg #[.int .i64 a.sp, .int .u8 a.m0, .int .u8 a.m1, .int .u8 a.m2, .int .u8 a.m3, .int .u8 a.m4, .int .u8 a.m5, .int .i64 a.key, .int .i64 a.pp, .int .i64 a.port, .int .i64 a.st, .int .i64 p.sp, .int .u8 p.m0, .int .u8 p.m1, .int .u8 p.m2, .int .u8 p.m3, .int .u8 p.m4, .int .u8 p.m5, .int .i64 p.key, .int .i64 p.pp, .int .i64 p.port, .int .i64 p.st, .int .i64 d], .int .i64 0]) ∧ Below w.heap.size w w') ∨
  (¬ WholeAt ys ∧ e = .returned (.tuple #[.agg #[.int .i64 0, .int .u8 0, .int .u8 0, .int .u8 0, .int .u8 0, .int .u8 0, .int .u8 0, .int .i64 0, .int .i64 0, .int .i64 0, .int .i64 0, .int .i64 0, .int .u8 0, .int .u8 0, .int .u8 0, .int .u8 0, .int .u8 0, .int .u8 0, .int .i64 0, .int .i64 0, .int .i64 0, .int .i64 0, .int .i64 0], .int .i64 2]) ∧ Below w.heap.size w w')

set_option maxRecDepth 100000 in
set_option maxHeartbeats 4000000 in
theorem decode_any (A : Option Addr) (cap : Nat) (ys : List UInt8) (w : World) (hs : SrcAt w w.heap.size A cap ys) :
    Calls Try.prog 23 #[.slice A ys.length cap] w (DecPost ys w) := by
  have hmf : ∀ (fn : Fn) (first cap : Array Value) (w : World), (Instr.makeFunc fn first cap).run Try.prog w = .ok (.func fn first cap) w := fun _ _ _ _ => rfl
  have hB3 : Below w.heap.size w (((w.alloc (.cells #[.int .i64 0, .int .u8 0, .int .u8 0, .int .u8 0, .int .u8 0, .int .u8 0, .int .u8 0, .int .i64 0, .int .i64 0, .int .i64 0, .int .i64 0, .int .i64 0, .int .u8 0, .int .u8 0, .int .u8 0, .int .u8 0, .int .u8 0, .int .u8 0, .int .i64 0, .int .i64 0, .int .i64 0, .int .i64 0, .int .i64 0] 27)).alloc (.cells #[.int .i64 0, .int .u8 0, .int .u8 0, .int .u8 0, .int .u8 0, .int .u8 0, .int .u8 0, .int .i64 0, .int .i64 0, .int .i64 0, .int .i64 0, .int .i64 0, .int .u8 0, .int .u8 0, .int .u8 0, .int .u8 0, .int .u8 0, .int .u8 0, .int .i64 0, .int .i64 0, .int .i64 0, .int .i64 0, .int .i64 0] 27)).alloc (.cells #[.slice A ys.length cap] 74)) := (((Below.refl w.heap.size w).alloc (Nat.le_refl _) _).alloc (by simp) _).alloc (by simp; omega) _
  have hr3 : (((w.alloc (.cells #[.int .i64 0, .int .u8 0, .int .u8 0, .int .u8 0, .int .u8 0, .int .u8 0, .int .u8 0, .int .i64 0, .int .i64 0, .int .i64 0, .int .i64 0, .int .i64 0, .int .u8 0, .int .u8 0, .int .u8 0, .int .u8 0, .int .u8 0, .int .u8 0, .int .i64 0, .int .i64 0, .int .i64 0, .int .i64 0, .int .i64 0] 27)).alloc (.cells #[.int .i64 0, .int .u8 0, .int .u8 0, .int .u8 0, .int .u8 0, .int .u8 0, .int .u8 0, .int .i64 0, .int .i64 0, .int .i64 0, .int .i64 0, .int .i64 0, .int .u8 0, .int .u8 0, .int .u8 0, .int .u8 0, .int .u8 0, .int .u8 0, .int .i64 0, .int .i64 0, .int .i64 0, .int .i64 0, .int .i64 0] 27)).alloc (.cells #[.slice A ys.length cap] 74)).heap[w.heap.size + 1 + 1]? = some (.cells #[.slice A ys.length cap] 74 (0, 0)) := by simpa using heap_alloc_new ((w.alloc (.cells #[.int .i64 0, .int .u8 0, .int .u8 0, .int .u8 0, .int .u8 0, .int .u8 0, .int .u8 0, .int .i64 0, .int .i64 0, .int .i64 0, .int .i64 0, .int .i64 0, .int .u8 0, .int .u8 0, .int .u8 0, .int .u8 0, .int .u8 0, .int .u8 0, .int .i64 0, .int .i64 0, .int .i64 0, .int .i64 0, .int .i64 0] 27)).alloc (.cells #[.int .i64 0, .int .u8 0, .int .u8 0, .int .u8 0, .int .u8 0, .int .u8 0, .int .u8 0, .int .i64 0, .int .i64 0, .int .i64 0, .int .i64 0, .int .i64 0, .int .u8 0, .int .u8 0, .int .u8 0, .int .u8 0, .int .u8 0, .int .u8 0, .int .i64 0, .int .i64 0, .int .i64 0, .int .i64 0, .int .i64 0] 27)) (.cells #[.slice A ys.length cap] 74)
  have hl3 : (((w.alloc (.cells #[.int .i64 0, .int .u8 0, .int .u8 0, .int .u8 0, .int .u8 0, .int .u8 0, .int .u8 0, .int .i64 0, .int .i64 0, .int .i64 0, .int .i64 0, .int .i64 0, .int .u8 0, .int .u8 0, .int .u8 0, .int .u8 0, .int .u8 0, .int .u8 0, .int .i64 0, .int .i64 0, .int .i64 0, .int .i64 0, .int .i64 0] 27)).alloc (.cells #[.int .i64 0, .int .u8 0, .int .u8 0, .int .u8 0, .int .u8 0, .int .u8 0, .int .u8 0, .int .i64 0, .int .i64 0, .int .i64 0, .int .i64 0, .int .i64 0, .int .u8 0, .int .u8 0, .int .u8 0, .int .u8 0, .int .u8 0, .int .u8 0, .int .i64 0, .int .i64 0, .int .i64 0, .int .i64 0, .int .i64 0] 27)).alloc (.cells #[.slice A ys.length cap] 74)).heap[w.heap.size + 1]? = some (.cells #[.int .i64 0, .int .u8 0, .int .u8 0, .int .u8 0, .int .u8 0, .int .u8 0, .int .u8 0, .int .i64 0, .int .i64 0, .int .i64 0, .int .i64 0, .int .i64 0, .int .u8 0, .int .u8 0, .int .u8 0, .int .u8 0, .int .u8 0, .int .u8 0, .int .i64 0, .int .i64 0, .int .i64 0, .int .i64 0, .int .i64 0] 27 (0, 0)) := (Below.heap_alloc _ _ _ (by simp)).trans (by simpa using heap_alloc_new (w.alloc (.cells #[.int .i64 0, .int .u8 0, .int .u8 0, .int .u8 0, .int .u8 0, .int .u8 0, .int .u8 0, .int .i64 0, .int .i64 0, .int .i64 0, .int .i64 0, .int .i64 0, .int .u8 0, .int .u8 0, .int .u8 0, .int .u8 0, .int .u8 0, .int .u8 0, .int .i64 0, .int .i64 0, .int .i64 0, .int .i64 0, .int .i64 0] 27)) (.cells #[.int .i64 0, .int .u8 0, .int .u8 0, .int .u8 0, .int .u8 0, .int .u8 0, .int .u8 0, .int .i64 0, .int .i64 0, .int .i64 0, .int .i64 0, .int .i64 0, .int .u8 0, .int .u8 0, .int .u8 0, .int .u8 0, .int .u8 0, .int .u8 0, .int .i64 0, .int .i64 0, .int .i64 0, .int .i64 0, .int .i64 0] 27))
  have hR3 : (((w.alloc (.cells #[.int .i64 0, .int .u8 0, .int .u8 0, .int .u8 0, .int .u8 0, .int .u8 0, .int .u8 0, .int .i64 0, .int .i64 0, .int .i64 0, .int .i64 0, .int .i64 0, .int .u8 0, .int .u8 0, .int .u8 0, .int .u8 0, .int .u8 0, .int .u8 0, .int .i64 0, .int .i64 0, .int .i64 0, .int .i64 0, .int .i64 0] 27)).alloc (.cells #[.int .i64 0, .int .u8 0, .int .u8 0, .int .u8 0, .int .u8 0, .int .u8 0, .int .u8 0, .int .i64 0, .int .i64 0, .int .i64 0, .int .i64 0, .int .i64 0, .int .u8 0, .int .u8 0, .int .u8 0, .int .u8 0, .int .u8 0, .int .u8 0, .int .i64 0, .int .i64 0, .int .i64 0, .int .i64 0, .int .i64 0] 27)).alloc (.cells #[.slice A ys.length cap] 74)).heap[w.heap.size]? = some (.cells #[.int .i64 0, .int .u8 0, .int .u8 0, .int .u8 0, .int .u8 0, .int .u8 0, .int .u8 0, .int .i64 0, .int .i64 0, .int .i64 0, .int .i64 0, .int .i64 0, .int .u8 0, .int .u8 0, .int .u8 0, .int .u8 0, .int .u8 0, .int .u8 0, .int .i64 0, .int .i64 0, .int .i64 0, .int .i64 0, .int .i64 0] 27 (0, 0)) := (Below.heap_alloc _ _ _ (by simp; omega)).trans ((Below.heap_alloc _ _ _ (by simp)).trans (heap_alloc_new w _))
  have hs3 := hs.below hB3 (Nat.le_refl _)
  have HD3 := hide (show RdAt (((w.alloc (.cells #[.int .i64 0, .int .u8 0, .int .u8 0, .int .u8 0, .int .u8 0, .int .u8 0, .int .u8 0, .int .i64 0, .int .i64 0, .int .i64 0, .int .i64 0, .int .i64 0, .int .u8 0, .int .u8 0, .int .u8 0, .int .u8 0, .int .u8 0, .int .u8 0, .int .i64 0, .int .i64 0, .int .i64 0, .int .i64 0, .int .i64 0] 27)).alloc (.cells #[.int .i64 0, .int .u8 0, .int .u8 0, .int .u8 0, .int .u8 0, .int .u8 0, .int .u8 0, .int .i64 0, .int .i64 0, .int .i64 0, .int .i64 0, .int .i64 0, .int .u8 0, .int .u8 0, .int .u8 0, .int .u8 0, .int .u8 0, .int .u8 0, .int .i64 0, .int .i64 0, .int .i64 0, .int .i64 0, .int .i64 0] 27)).alloc (.cells #[.slice A ys.length cap] 74)) (w.heap.size + 1 + 1) w.heap.size ys from ⟨by omega, A, cap, hr3, hs3⟩)
  have HL3 := hide hl3; have HR3 := hide hR3; have HB3 := hide hB3
  clear hs hr3 hl3 hR3 hs3 hB3
  go_enter Try.func23, Try.ntmps23
  go_wp2_with fail
  refine (guarded_any (w.heap.size + 1 + 1) (w.heap.size + 1) w.heap.size ys _ HD3.out HL3.out (by omega) (by omega)).mono ?_
  rintro e u (⟨a, p, d, zs, k1, k2, k3, k4, k5, k6, rfl, hd, hl, hb⟩ | ⟨hno, rfl, hb⟩)
  · have HR := hide ((hb.block w.heap.size (by simp; omega) (by omega) (by omega)).trans HR3.out)
    have HB := hide (HB3.out.trans (hb.below (base := w.heap.size) (by omega) (by omega) (by simp; omega)))
    have HK := hide (And.intro k1 (And.intro k2 (And.intro k3 (And.intro k4 k5))))
    have H6 := hide k6
    have HL := hide hl
    have hsu : w.heap.size ≤ u.heap.size := HB.out.size
    obtain ⟨-, A', cap', hc, -⟩ := hd
    have c0 : u.cell? ⟨w.heap.size + 1 + 1, 0, none⟩ = some (.slice A' zs.length cap') := cell_of_row u _ 0 _ 74 (0, 0) hc
    clear hc hl hb k1 k2 k3 k4 k5 k6 HD3 HL3 HR3 HB3
    rcases zs with _ | ⟨z, zs⟩
    · have c1 : u.cell? ⟨w.heap.size + 1 + 1, 0, none⟩ = some (.slice A' 0 cap') := c0
      clear c0
      go_wp2_with (first | (refine wpList_load_part rfl 27 (.tmp 4) rfl (w.heap.size + 1) 0 rfl 27 _ #[.int .i64 a.sp, .int .u8 a.m0, .int .u8 a.m1, .int .u8 a.m2, .int .u8 a.m3, .int .u8 a.m4, .int .u8 a.m5, .int .i64 a.key, .int .i64 a.pp, .int .i64 a.port, .int .i64 a.st, .int .i64 p.sp, .int .u8 p.m0, .int .u8 p.m1, .int .u8 p.m2, .int .u8 p.m3, .int .u8 p.m4, .int .u8 p.m5, .int .i64 p.key, .int .i64 p.pp, .int .i64 p.port, .int .i64 p.st, .int .i64 d] (0, 0) _ HL.out Try.underlying27 rfl (by kernel_rfl) rfl ?_) | (refine wpList_store_at rfl rfl w.heap.size 0 #[.int .i64 a.sp, .int .u8 a.m0, .int .u8 a.m1, .int .u8 a.m2, .int .u8 a.m3, .int .u8 a.m4, .int .u8 a.m5, .int .i64 a.key, .int .i64 a.pp, .int .i64 a.port, .int .i64 a.st, .int .i64 p.sp, .int .u8 p.m0, .int .u8 p.m1, .int .u8 p.m2, .int .u8 p.m3, .int .u8 p.m4, .int .u8 p.m5, .int .i64 p.key, .int .i64 p.pp, .int .i64 p.port, .int .i64 p.st, .int .i64 d] rfl rfl 27 HR.out (by kernel_rfl) (by simp) (lacp_ones a p d) #[.int .i64 a.sp, .int .u8 a.m0, .int .u8 a.m1, .int .u8 a.m2, .int .u8 a.m3, .int .u8 a.m4, .int .u8 a.m5, .int .i64 a.key, .int .i64 a.pp, .int .i64 a.port, .int .i64 a.st, .int .i64 p.sp, .int .u8 p.m0, .int .u8 p.m1, .int .u8 p.m2, .int .u8 p.m3, .int .u8 p.m4, .int .u8 p.m5, .int .i64 p.key, .int .i64 p.pp, .int .i64 p.port, .int .i64 p.st, .int .i64 d] rfl ?_; intro u2 hf2 hb2; have HB2 := hide hb2; have HF2 := hide hf2; clear hf2 hb2))
      (try simp only [Exit.inBlock, Exit.then])
      obtain ⟨k1, k2, k3, k4, k5⟩ := HK.out
      refine bodyPost_ret (res_lacp rfl _ _ w.heap.size _ (0, 0) rfl HB2.out rfl) rfl (.inl ⟨a, p, d, k1, k2, k3, k4, k5, by rw [H6.out, List.append_nil], rfl, HB.out.trans (HF2.out.below (Nat.le_refl _) hsu)⟩)
    · have hz : (0 : Int) < ((z :: zs).length : Int) := by rw [List.length_cons]; omega
      have HN := hide (whole_more H6.out (by simp))
      obtain ⟨n, hn⟩ : ∃ n, n = (z :: zs).length := ⟨_, rfl⟩
      rw [← hn] at c0 hz
      clear hn
      go_wp2_with (refine wpList_store_at rfl rfl w.heap.size 0 #[.int .i64 0, .int .u8 0, .int .u8 0, .int .u8 0, .int .u8 0, .int .u8 0, .int .u8 0, .int .i64 0, .int .i64 0, .int .i64 0, .int .i64 0, .int .i64 0, .int .u8 0, .int .u8 0, .int .u8 0, .int .u8 0, .int .u8 0, .int .u8 0, .int .i64 0, .int .i64 0, .int .i64 0, .int .i64 0, .int .i64 0] rfl rfl 27 HR.out (by kernel_rfl) (by simp) (by simp [Value.oneCell']) #[.int .i64 0, .int .u8 0, .int .u8 0, .int .u8 0, .int .u8 0, .int .u8 0, .int .u8 0, .int .i64 0, .int .i64 0, .int .i64 0, .int .i64 0, .int .i64 0, .int .u8 0, .int .u8 0, .int .u8 0, .int .u8 0, .int .u8 0, .int .u8 0, .int .i64 0, .int .i64 0, .int .i64 0, .int .i64 0, .int .i64 0] rfl ?_; intro u2 hf2 hb2; have HB2 := hide hb2; have HF2 := hide hf2; clear hf2 hb2)
      (try simp only [Exit.inBlock, Exit.then])
      refine bodyPost_ret (res_lacp rfl _ _ w.heap.size _ (0, 0) rfl HB2.out rfl) rfl (.inr ⟨HN.out, rfl, HB.out.trans (HF2.out.below (Nat.le_refl _) hsu)⟩)
  · have HR := hide ((hb.block w.heap.size (by simp; omega) (by omega) (by omega)).trans HR3.out)
    have HB := hide (HB3.out.trans (hb.below (base := w.heap.size) (by omega) (by omega) (by simp; omega)))
    have HN := hide (whole_dec hno)
    have hsu : w.heap.size ≤ u.heap.size := HB.out.size
    clear hb HD3 HL3 HR3 HB3
    go_wp2_with (refine wpList_store_at rfl rfl w.heap.size 0 #[.int .i64 0, .int .u8 0, .int .u8 0, .int .u8 0, .int .u8 0, .int .u8 0, .int .u8 0, .int .i64 0, .int .i64 0, .int .i64 0, .int .i64 0, .int .i64 0, .int .u8 0, .int .u8 0, .int .u8 0, .int .u8 0, .int .u8 0, .int .u8 0, .int .i64 0, .int .i64 0, .int .i64 0, .int .i64 0, .int .i64 0] rfl rfl 27 HR.out (by kernel_rfl) (by simp) (by simp [Value.oneCell']) #[.int .i64 0, .int .u8 0, .int .u8 0, .int .u8 0, .int .u8 0, .int .u8 0, .int .u8 0, .int .i64 0, .int .i64 0, .int .i64 0, .int .i64 0, .int .i64 0, .int .u8 0, .int .u8 0, .int .u8 0, .int .u8 0, .int .u8 0, .int .u8 0, .int .i64 0, .int .i64 0, .int .i64 0, .int .i64 0, .int .i64 0] rfl ?_; intro u2 hf2 hb2; have HB2 := hide hb2; have HF2 := hide hf2; clear hf2 hb2)
    (try simp only [Exit.inBlock, Exit.then])
    refine bodyPost_ret (res_lacp rfl _ _ w.heap.size _ (0, 0) rfl HB2.out rfl) rfl (.inr ⟨HN.out, rfl, HB.out.trans (HF2.out.below (Nat.le_refl _) hsu)⟩)
end Go.Proofs.Ytooieocfgifpgaa
