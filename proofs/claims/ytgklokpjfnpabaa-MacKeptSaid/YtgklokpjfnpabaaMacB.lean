/-
  An address's text: what the program's function and the reference's come to.
-/
import Derived.Test.YtgklokpjfnpabaaMacA
import Derived.Deep.RegionHeld3
import Derived.Deep.AppendLies
namespace Go.Proofs.Ytgklokpjfnpabaa
open Go.RowKit
set_option linter.unusedVariables false

def fig (n : Int) : UInt8 := [48, 49, 50, 51, 52, 53, 54, 55, 56, 57, 97, 98, 99, 100, 101, 102].getD n.toNat 0
/-- The text of the first k bytes. -/
def txt (l : List Int) : Nat → List UInt8
  | 0 => []
  | k + 1 => txt l k ++ (if k = 0 then [] else [58]) ++ [fig (l.getD k 0 / 16), fig (l.getD k 0 % 16)]
theorem txt_len (l : List Int) : ∀ k, (txt l k).length ≤ 3 * k
  | 0 => by simp [txt]
  | k + 1 => by
    have := txt_len l k
    simp only [txt, List.length_append]
    split <;> simp <;> omega
theorem txt_pos (l : List Int) (k : Nat) (h : 0 < k) : 0 < (txt l k).length := by
  cases k with
  | zero => omega
  | succ k => simp [txt]; omega
def txt6 (x0 x1 x2 x3 x4 x5 : Int) : List UInt8 := txt [x0, x1, x2, x3, x4, x5] 6

theorem idx23 (x0 x1 x2 x3 x4 x5 : Int) (k : Nat) (hk : k < 6) (w : World) : (Instr.index 23 (.agg #[.int .u8 x0, .int .u8 x1, .int .u8 x2, .int .u8 x3, .int .u8 x4, .int .u8 x5]) (.int .i64 k)).run Try.prog w = .ok (.int .u8 ([x0, x1, x2, x3, x4, x5].getD k 0)) w := by
  rcases (show k = 0 ∨ k = 1 ∨ k = 2 ∨ k = 3 ∨ k = 4 ∨ k = 5 by omega) with rfl | rfl | rfl | rfl | rfl | rfl <;> kernel_rfl

theorem getD_bound (x0 x1 x2 x3 x4 x5 : Int) (hx0 : 0 ≤ x0 ∧ x0 < 256) (hx1 : 0 ≤ x1 ∧ x1 < 256) (hx2 : 0 ≤ x2 ∧ x2 < 256) (hx3 : 0 ≤ x3 ∧ x3 < 256) (hx4 : 0 ≤ x4 ∧ x4 < 256) (hx5 : 0 ≤ x5 ∧ x5 < 256) (k : Nat) : 0 ≤ [x0, x1, x2, x3, x4, x5].getD k 0 ∧ [x0, x1, x2, x3, x4, x5].getD k 0 < 256 := by
  match k with
  | 0 => exact hx0
  | 1 => exact hx1
  | 2 => exact hx2
  | 3 => exact hx3
  | 4 => exact hx4
  | 5 => exact hx5
  | k + 6 => simp

theorem figs_get (kd : IntKind) (n : Int) (h0 : 0 ≤ n) (h1 : n < 16) (w : World) : (Instr.index 9 (.string ⟨#[48, 49, 50, 51, 52, 53, 54, 55, 56, 57, 97, 98, 99, 100, 101, 102]⟩) (.int kd n)).run Try.prog w = .ok (.int .u8 ((fig n).toNat : Int)) w := by
  obtain ⟨m, rfl⟩ := Int.eq_ofNat_of_zero_le h0
  have hm : m < 16 := by omega
  rw [run_index_string w 9 _ _ _ Try.underlying9, dif_pos ⟨h0, h1⟩]
  congr 3
  unfold fig
  match m, hm with
  | 0, _ | 1, _ | 2, _ | 3, _ | 4, _ | 5, _ | 6, _ | 7, _ | 8, _ | 9, _ | 10, _ | 11, _ | 12, _ | 13, _ | 14, _ | 15, _ => rfl

theorem and15 (y : Int) (h0 : 0 ≤ y) (h1 : y < 256) : bits .and .u8 y 15 = y % 16 := by
  rw [u8_and y 15 h0 h1 (by decide) (by decide), show (15 : Int).toNat = 15 from rfl, nat_mask4]
  omega

/-- What a round of Text does to the row: two figures behind what is there. -/
theorem news2 (w : World) (a b : UInt8) : ∀ j u, (bcells [a, b])[j]? = some u → ((w.alloc (.cells #[.int .u8 (a.toNat : Int), .int .u8 (b.toNat : Int)] 5)).drew).cell? ((⟨w.heap.size, 0, none⟩ : Addr).add j) = some u :=
  World.news_of_block (cs := #[.int .u8 (a.toNat : Int), .int .u8 (b.toNat : Int)]) (t := 5) (fr := (0, 0)) (heap_alloc_new w _)

set_option maxHeartbeats 1000000 in
theorem text_any (x0 x1 x2 x3 x4 x5 : Int) (w : World) (hx0 : 0 ≤ x0 ∧ x0 < 256) (hx1 : 0 ≤ x1 ∧ x1 < 256) (hx2 : 0 ≤ x2 ∧ x2 < 256) (hx3 : 0 ≤ x3 ∧ x3 < 256) (hx4 : 0 ≤ x4 ∧ x4 < 256) (hx5 : 0 ≤ x5 ∧ x5 < 256) :
    Calls Try.prog 11 #[.agg #[.int .u8 x0, .int .u8 x1, .int .u8 x2, .int .u8 x3, .int .u8 x4, .int .u8 x5]] w fun e w' => e = .returned (.string ⟨(txt6 x0 x1 x2 x3 x4 x5).toArray⟩) ∧ Below w.heap.size w w' := by
  obtain ⟨i0, hi, hz0, hz1, hz2⟩ := info_parts info5
  have HB := hide (getD_bound x0 x1 x2 x3 x4 x5 hx0 hx1 hx2 hx3 hx4 hx5)
  have HT := hide (fun (v : Value) (wr : World) (h : wr.ownsRow (w.heap.size + 1) 5 1 v (txt [x0, x1, x2, x3, x4, x5] 6).length (bcells (txt [x0, x1, x2, x3, x4, x5] 6))) => convert_own (P := Try.prog) (src := 39) (dst := 9) Try.underlying39 Try.underlying5 Try.underlying9 h (txt_pos _ 6 (by omega)))
  clear hx0 hx1 hx2 hx3 hx4 hx5
  go_enter Try.func11, Try.ntmps11
  go_wp2
  go_loopw [3, 7] (fun v i wr => ∃ k : Nat, k ≤ 6 ∧ i = .int .i64 k ∧ wr.ownsRow (w.heap.size + 1) 5 1 v (txt [x0, x1, x2, x3, x4, x5] k).length (bcells (txt [x0, x1, x2, x3, x4, x5] k)) ∧ Below w.heap.size w wr ∧ w.heap.size + 1 ≤ wr.heap.size)
    (fun _ i _ => 6 - (intOf i).toNat)
  case atStart => exact ⟨0, by omega, rfl, World.ownsRow_nil _ _ _ _, (Below.refl _ _).alloc (Nat.le_refl _) _, by simp⟩
  case round =>
    obtain ⟨k, hk, rfl, hown, hbel, hsz⟩ := hrel
    by_cases hlt : k < 6
    · obtain ⟨y, hy⟩ : ∃ y, y = [x0, x1, x2, x3, x4, x5].getD k 0 := ⟨_, rfl⟩
      have hy0 : 0 ≤ y := by rw [hy]; exact (HB.out k).1
      have hy1 : y < 256 := by rw [hy]; exact (HB.out k).2
      have hix := fun w => idx23 x0 x1 x2 x3 x4 x5 k hlt w
      rw [← hy] at hix
      have HY := hide hy; clear hy
      have hand := and15 y hy0 hy1
      have hf1 := figs_get .u8 (y / 16) (by omega) (by omega)
      have hf2 := figs_get .u8 (y % 16) (by omega) (by omega)
      have hlen := txt_len [x0, x1, x2, x3, x4, x5] k
      generalize hT : txt [x0, x1, x2, x3, x4, x5] k = T at hown hlen
      have HTk := hide hT; clear hT
      by_cases h0 : 0 < k
      · go_wp2_with (at_builtin; refine wpList_append_own _ rfl (.tmp 13) (.tmp 14) 39 rfl (w.heap.size + 1) 5 i0 (.int .u8 0) 1 1 Try.underlying39 hi hz0 hz1 hz2 rfl (by decide) _ _ _ rfl (hown.alloc _) ⟨wr.heap.size, 0, none⟩ 1 1 [.int .u8 58] rfl rfl ?c1 ?c2 ?c3 ?c4 ?c5 ?_)
        case c1 => exact (cell_one_new _ _ _)
        case c2 => intro u hu; simp at hu; subst hu; rfl
        case c3 => unfold maxLen; omega
        case c4 => omega
        case c5 => simp; omega
        · intro v' w1 hown' hgrow _
          have hsz1 := hgrow.size
          simp at hsz1
          have hbel1 : Below w.heap.size w w1 := (hbel.alloc (by omega) _).grown hgrow (by simp; omega) (fun g hg => by have := (hown.lt g hg).1; omega)
          go_wp2_with fail
          go_region_held3 (fun _ => True) (trivial) ((refine step_append_lies _ (by rfl) (.tmp 16) (.tmp 23) 39 (by rfl) (w.heap.size + 1) 5 i0 (.int .u8 0) 1 1 Try.underlying39 hi hz0 hz1 hz2 rfl (by decide) _ _ _ (by rfl) ((hown'.alloc _).drew) ⟨w1.heap.size, 0, none⟩ 2 2 (bcells [fig (y / 16), fig (y % 16)]) (by rfl) (by rfl) (news2 _ _ _) (bcells_one _) (by decide) (by unfold maxLen; omega) (by omega) (by simp; omega) (w1.heap.size + 1) (by simp) ?_; intro g cap w2 hown2 hgrow2 hat2 hlt2))
          all_goals
            have hbel2 : Below w.heap.size w w2 := ((hbel1.alloc (by omega) _).drew).grown hgrow2 (by simp; omega) (fun g hg => by have := (hown'.lt g hg).1; omega)
            have hsz2 : w.heap.size + 1 ≤ w2.heap.size := by have := hgrow2.size; simp at this; omega
            have hnew : (txt [x0, x1, x2, x3, x4, x5] (k + 1)) = T ++ [58] ++ [fig (y / 16), fig (y % 16)] := by rw [← HTk.out, HY.out, txt, if_neg (by omega)]
            have hl : T.length + 1 + 2 = (txt [x0, x1, x2, x3, x4, x5] (k + 1)).length := by rw [hnew]; simp
            have hc : bcells T ++ [.int .u8 58] ++ bcells [fig (y / 16), fig (y % 16)] = bcells (txt [x0, x1, x2, x3, x4, x5] (k + 1)) := by rw [hnew, bcells_append, bcells_append]; rfl
            rw [hc, hl] at hown2
            have H1 := hide hl; have H2 := hide hown2; have H3 := hide hbel2
            clear hc hl hown2 hbel2 hnew hgrow2 hgrow hown' hown hbel hbel1 hat2 hf1 hf2 hand hix
            go_wp2
            go_roundw
            case rel => exact ⟨k + 1, by omega, by go_num, by rw [H1.out]; exact H2.out, H3.out, hsz2⟩
            case measure => simp [intOf]; omega
      · obtain rfl : k = 0 := by omega
        clear hix hf1 hf2 hand HY hy0 hy1
        have hx0a : 0 ≤ x0 := (HB.out 0).1
        have hx0b : x0 < 256 := (HB.out 0).2
        have hix0 : ∀ w : World, (Instr.index 23 (.agg #[.int .u8 x0, .int .u8 x1, .int .u8 x2, .int .u8 x3, .int .u8 x4, .int .u8 x5]) (.int .i64 0)).run Try.prog w = .ok (.int .u8 x0) w := fun _ => by kernel_rfl
        have hand0 := and15 x0 hx0a hx0b
        have hf3 := figs_get .u8 (x0 / 16) (by omega) (by omega)
        have hf4 := figs_get .u8 (x0 % 16) (by omega) (by omega)
        go_wp2_with fail
        go_region_held3 (fun _ => True) (trivial) ((refine step_append_lies _ (by rfl) (.tmp 16) (.tmp 23) 39 (by rfl) (w.heap.size + 1) 5 i0 (.int .u8 0) 1 1 Try.underlying39 hi hz0 hz1 hz2 rfl (by decide) _ _ _ (by rfl) ((hown.alloc _).drew) ⟨wr.heap.size, 0, none⟩ 2 2 (bcells [fig (x0 / 16), fig (x0 % 16)]) (by rfl) (by rfl) (news2 _ _ _) (bcells_one _) (by decide) (by unfold maxLen; omega) (by omega) (by simp; omega) (wr.heap.size + 1) (by simp) ?_; intro g cap w2 hown2 hgrow2 hat2 hlt2))
        all_goals
          have hbel2 : Below w.heap.size w w2 := ((hbel.alloc (by omega) _).drew).grown hgrow2 (by simp; omega) (fun g hg => by have := (hown.lt g hg).1; omega)
          have hsz2 : w.heap.size + 1 ≤ w2.heap.size := by have := hgrow2.size; simp at this; omega
          have hnew : (txt [x0, x1, x2, x3, x4, x5] 1) = T ++ [fig (x0 / 16), fig (x0 % 16)] := by rw [← HTk.out]; simp [txt]
          have hl : T.length + 2 = (txt [x0, x1, x2, x3, x4, x5] 1).length := by rw [hnew]; simp
          have hc : bcells T ++ bcells [fig (x0 / 16), fig (x0 % 16)] = bcells (txt [x0, x1, x2, x3, x4, x5] 1) := by rw [hnew, bcells_append]
          rw [hc, hl] at hown2
          have H1 := hide hl; have H2 := hide hown2; have H3 := hide hbel2
          clear hc hl hown2 hbel2 hnew hgrow2 hown hbel hat2 hf3 hf4 hand0 hix0
          go_wp2
          go_roundw
          case rel => exact ⟨1, by omega, by go_num, by rw [H1.out]; exact H2.out, H3.out, hsz2⟩
          case measure => simp [intOf]
    · obtain rfl : k = 6 := by omega
      have hcv := HT.out _ _ hown
      clear hown
      go_wp2
      go_ret
      exact ⟨rfl, hbel⟩

theorem figure_any (n : Int) (w : World) (h0 : 0 ≤ n) (h1 : n < 16) :
    Calls Try.prog 25 #[.int .i64 n] w fun e w' => e = .returned (.string ⟨#[fig n]⟩) ∧ w.alloc (.cells #[.int .u8 ((fig n).toNat : Int)] 5) = w' := by
  have hf := figs_get .i64 n h0 h1
  have hcv : (convert 39 9 (.slice (some ⟨w.heap.size, 0, none⟩) 1 1)).run Try.prog (w.alloc (.cells #[.int .u8 ((fig n).toNat : Int)] 5)) = .ok (.string ⟨#[fig n]⟩) (w.alloc (.cells #[.int .u8 ((fig n).toNat : Int)] 5)) :=
    run_convert_bytes_back _ 39 9 5 ⟨w.heap.size, 0, none⟩ 1 [fig n] Try.underlying39 Try.underlying5 Try.underlying9 (fun j hj => by
      simp at hj
      subst hj
      simp [Addr.add])
  go_enter Try.func25, Try.ntmps25
  go_wp2
  go_ret
  exact ⟨rfl, rfl⟩

theorem getD_cells (x0 x1 x2 x3 x4 x5 : Int) (k : Nat) (hk : k < 6) : (#[.int .u8 x0, .int .u8 x1, .int .u8 x2, .int .u8 x3, .int .u8 x4, .int .u8 x5] : Array Value)[k]? = some (.int .u8 ([x0, x1, x2, x3, x4, x5].getD k 0)) := by
  rcases (show k = 0 ∨ k = 1 ∨ k = 2 ∨ k = 3 ∨ k = 4 ∨ k = 5 by omega) with rfl | rfl | rfl | rfl | rfl | rfl <;> rfl

theorem add_str {P : Program} (a b : ByteArray) (h : a.size + b.size ≤ 100) (w : World) : (Op.stringOp .add a b).run P w = .ok (.string (a ++ b)) w := run_string_add_sum w a b (by omega)
theorem size_one (c : UInt8) : (⟨#[c]⟩ : ByteArray).size = 1 := rfl
theorem size_add1 (S : ByteArray) (c : UInt8) : (S ++ ⟨#[c]⟩).size = S.size + 1 := by rw [ByteArray.size_append, size_one]

set_option maxHeartbeats 1000000 in
theorem refText_any (x0 x1 x2 x3 x4 x5 : Int) (w : World) (hx0 : 0 ≤ x0 ∧ x0 < 256) (hx1 : 0 ≤ x1 ∧ x1 < 256) (hx2 : 0 ≤ x2 ∧ x2 < 256) (hx3 : 0 ≤ x3 ∧ x3 < 256) (hx4 : 0 ≤ x4 ∧ x4 < 256) (hx5 : 0 ≤ x5 ∧ x5 < 256) :
    Calls Try.prog 12 #[.agg #[.int .u8 x0, .int .u8 x1, .int .u8 x2, .int .u8 x3, .int .u8 x4, .int .u8 x5]] w fun e w' => e = .returned (.string ⟨(txt6 x0 x1 x2 x3 x4 x5).toArray⟩) ∧ Below w.heap.size w w' := by
  have HB := hide (getD_bound x0 x1 x2 x3 x4 x5 hx0 hx1 hx2 hx3 hx4 hx5)
  clear hx0 hx1 hx2 hx3 hx4 hx5
  go_enter Try.func12, Try.ntmps12
  go_wp2
  go_loopw [3, 4] (fun v i wr => ∃ (k : Nat) (S : ByteArray), k ≤ 6 ∧ i = .int .i64 k ∧ v = .string S ∧ S.data.toList = txt [x0, x1, x2, x3, x4, x5] k ∧ Below w.heap.size w wr ∧ wr.heap[w.heap.size]? = some (.cells #[.int .u8 x0, .int .u8 x1, .int .u8 x2, .int .u8 x3, .int .u8 x4, .int .u8 x5] 23 (0, 0)))
    (fun _ i _ => 6 - (intOf i).toNat)
  case atStart => exact ⟨0, ⟨#[]⟩, by omega, rfl, rfl, rfl, (Below.refl _ _).alloc (Nat.le_refl _) _, heap_alloc_new _ _⟩
  case round =>
    obtain ⟨k, S, hk, rfl, rfl, hS, hbel, hblk⟩ := hrel
    have hSz : S.size ≤ 18 := by
      have h1 : S.size = (txt [x0, x1, x2, x3, x4, x5] k).length := by rw [← hS]; exact Array.length_toList.symm
      have := txt_len [x0, x1, x2, x3, x4, x5] k
      omega
    have HS := hide hS; clear hS
    by_cases hlt : k < 6
    · have hcell : wr.cell? ⟨w.heap.size, k, none⟩ = some (.int .u8 ([x0, x1, x2, x3, x4, x5].getD k 0)) := by rw [cell_of_row wr _ k _ 23 (0, 0) hblk]; exact getD_cells x0 x1 x2 x3 x4 x5 k hlt
      obtain ⟨y, hy⟩ : ∃ y, y = [x0, x1, x2, x3, x4, x5].getD k 0 := ⟨_, rfl⟩
      have hy0 : 0 ≤ y := by rw [hy]; exact (HB.out k).1
      have hy1 : y < 256 := by rw [hy]; exact (HB.out k).2
      rw [← hy] at hcell
      have HY := hide hy; clear hy
      have HBL := hide hblk; clear hblk
      have hlw : w.heap.size < wr.heap.size := World.block_lt_of_cell? wr _ hcell
      have hk0 : (0 : Int) ≤ (k : Int) := by omega
      have hk1 : (k : Int) < 6 := by omega
      have W1 : IntKind.i64.wrap y = y := IntWalk.i64_in _ (by omega)
      have W2 : y.tdiv 16 = y / 16 := Int.tdiv_eq_ediv_of_nonneg hy0
      have W3 : IntKind.i64.wrap (y / 16) = y / 16 := IntWalk.i64_in _ (by omega)
      have W4 : y.tmod 16 = y % 16 := Int.tmod_eq_emod_of_nonneg hy0
      have F1 := hide (fun w => figure_any (y / 16) w (by omega) (by omega))
      have F2 := hide (fun w => figure_any (y % 16) w (by omega) (by omega))
      by_cases h0 : 0 < k
      · have A0 := add_str (P := Try.prog) S ⟨#[58]⟩ (by rw [size_one]; omega)
        have A1 := add_str (P := Try.prog) (S ++ ⟨#[58]⟩) ⟨#[fig (y / 16)]⟩ (by simp only [size_add1, size_one]; omega)
        have A2 := add_str (P := Try.prog) (S ++ ⟨#[58]⟩ ++ ⟨#[fig (y / 16)]⟩) ⟨#[fig (y % 16)]⟩ (by simp only [size_add1, size_one]; omega)
        go_wp2_with fail
        go_region_held3 (fun w' => w'.cell? ⟨w.heap.size, k, none⟩ = some (.int .u8 y)) (go_keep) ((go_at_call 25; (first | ((with_reducible refine (F1.out _).mono ?_); rintro e w' ⟨rfl, rfl⟩) | ((with_reducible refine (F2.out _).mono ?_); rintro e w' ⟨rfl, rfl⟩))))
        clear A1 A2 A0 W1 W2 W3 W4 F1 F2
        go_wp2
        go_roundw
        case rel =>
          refine ⟨k + 1, _, by omega, by go_num, rfl, ?_, (by repeat (first | exact Below.refl _ _ | assumption | refine Below.alloc ?_ (by first | omega | (simp <;> omega)) _ | refine below_dn ?_ _ | refine Below.drew ?_)), ?_⟩
          · have h1 := HS.out
            have h2 := HY.out
            simp only [ByteArray.data_append, Array.toList_append, h1]
            rw [txt, if_neg (by omega), ← h2]
            simp
          · have h1 := HBL.out
            have e1 : ∀ (u : World) (o : Obj), u.heap[w.heap.size]? = some (.cells #[.int .u8 x0, .int .u8 x1, .int .u8 x2, .int .u8 x3, .int .u8 x4, .int .u8 x5] 23 (0, 0)) → w.heap.size < u.heap.size → (u.alloc o).heap[w.heap.size]? = some (.cells #[.int .u8 x0, .int .u8 x1, .int .u8 x2, .int .u8 x3, .int .u8 x4, .int .u8 x5] 23 (0, 0)) := fun u o hu hlt => (Below.heap_alloc u o _ hlt).trans hu
            exact e1 _ _ (e1 _ _ h1 hlw) (by simp; omega)
        case measure => simp [intOf]; omega
      · obtain rfl : k = 0 := by omega
        have A1 := add_str (P := Try.prog) (S) ⟨#[fig (y / 16)]⟩ (by simp only [size_one]; omega)
        have A2 := add_str (P := Try.prog) (S ++ ⟨#[fig (y / 16)]⟩) ⟨#[fig (y % 16)]⟩ (by simp only [size_add1, size_one]; omega)
        go_wp2_with fail
        go_region_held3 (fun w' => w'.cell? ⟨w.heap.size, 0, none⟩ = some (.int .u8 y)) (go_keep) ((go_at_call 25; (first | ((with_reducible refine (F1.out _).mono ?_); rintro e w' ⟨rfl, rfl⟩) | ((with_reducible refine (F2.out _).mono ?_); rintro e w' ⟨rfl, rfl⟩))))
        clear A1 A2 W1 W2 W3 W4 F1 F2
        go_wp2
        go_roundw
        case rel =>
          refine ⟨0 + 1, _, by omega, by go_num, rfl, ?_, (by repeat (first | exact Below.refl _ _ | assumption | refine Below.alloc ?_ (by first | omega | (simp <;> omega)) _ | refine below_dn ?_ _ | refine Below.drew ?_)), ?_⟩
          · have h1 := HS.out
            have h2 := HY.out
            simp only [ByteArray.data_append, Array.toList_append, h1]
            show _ = [] ++ [] ++ [fig ([x0, x1, x2, x3, x4, x5].getD 0 0 / 16), fig ([x0, x1, x2, x3, x4, x5].getD 0 0 % 16)]
            rw [← h2]
            rfl
          · have h1 := HBL.out
            have e1 : ∀ (u : World) (o : Obj), u.heap[w.heap.size]? = some (.cells #[.int .u8 x0, .int .u8 x1, .int .u8 x2, .int .u8 x3, .int .u8 x4, .int .u8 x5] 23 (0, 0)) → w.heap.size < u.heap.size → (u.alloc o).heap[w.heap.size]? = some (.cells #[.int .u8 x0, .int .u8 x1, .int .u8 x2, .int .u8 x3, .int .u8 x4, .int .u8 x5] 23 (0, 0)) := fun u o hu hlt => (Below.heap_alloc u o _ hlt).trans hu
            exact e1 _ _ (e1 _ _ h1 hlw) (by simp; omega)
        case measure => simp [intOf]
    · obtain rfl : k = 6 := by omega
      have e6 : S = ⟨(txt6 x0 x1 x2 x3 x4 x5).toArray⟩ := by
        have h1 := HS.out
        obtain ⟨a⟩ := S
        simp only at h1
        rw [txt6, ← h1]
      have H6 := hide e6; clear e6
      go_wp2
      go_ret
      exact ⟨by rw [← H6.out]; rfl, hbel⟩
end Go.Proofs.Ytgklokpjfnpabaa
