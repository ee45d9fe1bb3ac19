/-
  Lemmas of our own over any program, used by the texts of this seat: bytes in a row as a list of UInt8, '==' on arrays of six bytes, how arguments open by their outer forms, and the last step of a law's row: 'true, each argument as it was'.
-/
import Derived.WalkKit
import Derived.WalkSpells
import Derived.WalkLawsBesides
import Derived.ProofKit
import Derived.SizedLaws
import Derived.ChangeKeysEq
import Derived.Deep.QuietTactic
import Derived.BigQuiet
namespace Go.Proofs.YtehhldpmhlocdaaDoor
open Go.RowKit Go.WideShapes Go.ChangeShapes

theorem hide {p : Prop} (h : p) : Hid p := h

theorem below_dn {B : Nat} {a w : World} (h : Below B a w) (n : Nat) : Below B a (w.drewN n) := ⟨h.os, h.tape, h.output, h.size, h.block⟩

/-! ### A region that draws its order, whose operations read, and whose calls make memory: one walk in the order of the text -/
/-- A world of a class. -/
structure Of (C : World → Prop) where
  w : World
  ok : C w

theorem wp_region_class {P : Program} {id : Nat} {Q : Exit → Act → World → Prop} {a : Act} {w : World} {l : List Oper} (hm : P.follows .mixedOrders = true) (hB : Region.lexB .any l.toArray = true)
    (h : ∀ C : World → Prop, (∀ u, C u → Below w.heap.size w u) → (∀ u u', C u → Below u.heap.size u u' → C u') → Nonempty (Of C) →
      wpQuiet P l.toArray (fun u => ∃ x : Of C, u = x.w) (fun a' => ∀ u, Below w.heap.size w u → Q .normal a' u) l a) : (Code.region id l.toArray true).wp P Q a w := by
  have h1 := h (fun u => Below w.heap.size w u) (fun _ h => h) (fun u u' hu hb => hu.trans (hb.mono hu.size)) ⟨⟨w, Below.refl _ _⟩⟩
  refine wp_region_quiet (C := fun u => ∃ x : Of (fun u => Below w.heap.size w u), u = x.w) hm hB ⟨⟨_, (Below.refl _ _).drew⟩, rfl⟩ ?_
  have key : ∀ (l' : List Oper) (a' : Act), wpQuiet P l.toArray (fun u => ∃ x : Of (fun u => Below w.heap.size w u), u = x.w) (fun a' => ∀ u, Below w.heap.size w u → Q .normal a' u) l' a' →
      wpQuiet P l.toArray (fun u => ∃ x : Of (fun u => Below w.heap.size w u), u = x.w) (fun a' => ∀ u, (∃ x : Of (fun u => Below w.heap.size w u), u = x.w) → Q .normal a' u) l' a' := by
    intro l'
    induction l' with
    | nil => intro a' h2 u hu; obtain ⟨x, rfl⟩ := hu; exact h2 _ x.ok
    | cons o l' ih =>
      intro a' h2
      unfold wpQuiet at h2 ⊢
      split
      · rename_i hw
        rw [if_pos hw] at h2
        exact Oper.quiet_mono (fun a'' h3 => ih a'' h3) h2
      · rename_i hw
        rw [if_neg hw] at h2
        exact ih _ h2
  simpa using key l a h1

/-- A callee's contract, met in a world of the class. -/
theorem Calls.of_class {P : Program} {f : FuncId} {args : Array Value} {C : World → Prop} {x : Of C} {v : Value} (hS : ∀ u u', C u → Below u.heap.size u u' → C u')
    (h : Calls P f args x.w fun e w' => e = .returned v ∧ Below x.w.heap.size x.w w') : Calls P f args x.w fun e w'' => e = .returned v ∧ ∃ y : Of C, w'' = y.w :=
  h.mono fun _ w' ⟨he, hb⟩ => ⟨he, ⟨w', hS _ _ x.ok hb⟩, rfl⟩

/-- A list of bytes as cells. -/
def bcells (l : List UInt8) : List Value := l.map fun b => .int .u8 (b.toNat : Int)
theorem bcells_length (l : List UInt8) : (bcells l).length = l.length := by simp [bcells]
theorem bcells_append (a b : List UInt8) : bcells (a ++ b) = bcells a ++ bcells b := by simp [bcells]
theorem bcells_one (l : List UInt8) : ∀ u ∈ bcells l, u.oneCell' = true := by
  intro u hu
  simp [bcells] at hu
  obtain ⟨b, _, rfl⟩ := hu
  rfl
theorem bcells_get (l : List UInt8) (j : Nat) (hj : j < l.length) : (bcells l)[j]? = some (.int .u8 (l[j].toNat : Int)) := by
  simp [bcells, List.getElem?_eq_getElem hj]

/-- 'string(b)' of an owned row of bytes. -/
theorem convert_own {P : Program} {w : World} {base src dst e : Nat} {v : Value} {l : List UInt8} (hs : P.underlying src = some (.slice e)) (he : P.underlying e = some (.int .u8)) (hd : P.underlying dst = some .string)
    (h : w.ownsRow base e 1 v l.length (bcells l)) (h0 : 0 < l.length) : (convert src dst v).run P w = .ok (.string ⟨l.toArray⟩) w := by
  rcases h.2 with ⟨_, hn⟩ | ⟨g, cap, cur, rfl, _, _, _⟩
  · omega
  · refine run_convert_bytes_back w src dst e ⟨g, 0, none⟩ cap l hs he hd fun j hj => ?_
    exact h.cells (g := g) rfl j _ (bcells_get l j hj)

/-- Reading six or more arguments back: below the heap's old size nothing has turned. -/
theorem Below.trodAll {H : Type} {enc : TypeId × Value → H} {P : Program} (hl : laidOutB P = true) {W W' : World} (hb : Below W.heap.size W W') :
    ∀ (ts : List TypeId) (vs : List Value) (ds : List (DataW H)) (ps : List MemPlace), (∀ t ∈ ts, P.readableRec t = true ∧ t < P.types.size) → (∀ x ∈ ps, x.block < W.heap.size) →
      DataW.TrodAll enc P W 0 (fun _ => true) true ts vs ds ps → DataW.TrodAll enc P W' 0 (fun b => decide (b < W.heap.size)) true ts vs ds ps
  | [], [], [], _, _, _, h => h
  | t :: ts, v :: vs, d :: ds, ps, ht, hlt, h => by
    obtain ⟨p, q, h1, h2, rfl⟩ := h
    exact ⟨p, q, Below.trod hl (ht t (by simp)).1 (ht t (by simp)).2 h1 hb (fun x hx => hlt x (by simp [hx])), Below.trodAll hl hb ts vs ds q (fun u hu => ht u (by simp [hu])) (fun x hx => hlt x (by simp [hx])) h2, rfl⟩
  | [], [], _ :: _, _, _, _, h => by simp [DataW.TrodAll] at h
  | [], _ :: _, [], _, _, _, h => by simp [DataW.TrodAll] at h
  | [], _ :: _, _ :: _, _, _, _, h => by simp [DataW.TrodAll] at h
  | _ :: _, [], [], _, _, _, h => by simp [DataW.TrodAll] at h
  | _ :: _, [], _ :: _, _, _, _, h => by simp [DataW.TrodAll] at h
  | _ :: _, _ :: _, [], _, _, _, h => by simp [DataW.TrodAll] at h

/-- THE ROW's LAST STEP of a law without variables: the call answered true, and below the heap's old size nothing has turned. -/
theorem law_post {H : Type} {enc : TypeId × Value → H} {P : Program} (hl : laidOutB P = true) {f : Func} {s : ChangeSpec} {tb : TypeId} {W W' : World} {args : Array Value} {ds gs : List (DataW H)} {before : List MemPlace}
    (hW : DataW.Whole enc P f.params.toList s.vars false W args.toList ds gs before) (hv : s.vars = []) (hr : f.resultTypes = #[tb]) (htb : P.underlying tb = some .bool)
    (hp : ∀ t ∈ f.params.toList, P.readableRec t = true ∧ t < P.types.size)
    (hfn : (s.fn H (ds ++ gs)).results = [.lit (.bool true)] ∧ (s.fn H (ds ++ gs)).args = ds ∧ (s.fn H (ds ++ gs)).vars = []) (hb : Below W.heap.size W W') :
    s.post enc P f false true false false W args (.bool true) W' := by
  have hW' := hW
  obtain ⟨p, q, hA, hV, hps, _, _⟩ := hW
  have hV0 := hV
  rw [hv] at hV0
  obtain ⟨rfl, rfl⟩ := trodVars_none hV0
  rw [List.append_nil] at hps
  subst hps
  have hlt : ∀ x ∈ before, x.block < W.heap.size := fun x hx => hW'.lt x hx
  refine ⟨ds, [], before, [], before, [], hW', ?_, ?_, ?_, World.keptBut_mono (fun x hx => ⟨hx, .inr (.inl hx)⟩) (hb.frame (· ∈ before)), fun h => by cases h⟩
  · rw [hfn.1, hr]
    exact trodAll_mk1 (shut_bool htb true)
  · rw [hfn.2.1]
    exact Below.trodAll hl hb _ _ _ _ hp hlt hA
  · rw [hfn.2.2, hv]
    rfl

/-- As many values as types. -/
theorem trodAll_len {H : Type} {enc : TypeId × Value → H} {P : Program} {w : World} {base : Nat} {sp : Nat → Bool} {held : Bool} : ∀ (ts : List TypeId) (vs : List Value) (ds : List (DataW H)) (ps : List MemPlace), DataW.TrodAll enc P w base sp held ts vs ds ps → vs.length = ts.length ∧ ds.length = ts.length
  | [], [], [], _, _ => ⟨rfl, rfl⟩
  | _ :: ts, _ :: vs, _ :: ds, _, h => by
    obtain ⟨_, q, _, h2, _⟩ := h
    have := trodAll_len ts vs ds q h2
    simp [this.1, this.2]
  | [], [], _ :: _, _, h => by simp [DataW.TrodAll] at h
  | [], _ :: _, [], _, h => by simp [DataW.TrodAll] at h
  | [], _ :: _, _ :: _, _, h => by simp [DataW.TrodAll] at h
  | _ :: _, [], [], _, h => by simp [DataW.TrodAll] at h
  | _ :: _, [], _ :: _, _, h => by simp [DataW.TrodAll] at h
  | _ :: _, _ :: _, [], _, h => by simp [DataW.TrodAll] at h

/-- A cell of an integer type. -/
theorem cell_int {P : Program} {w : World} {r : Reach} {base : Nat} {t : TypeId} {k : IntKind} {v : Value} (hu : P.underlying t = some (.int k)) (h : Cell.okWide P w r base t v) : ∃ n, v = .int k n ∧ (Lit.int k n).wf = true := by
  cases v <;> simp [Cell.okWide, Cell.ok, hu] at h
  obtain ⟨rfl, h2⟩ := h
  exact ⟨_, rfl, by simpa [Lit.wf, IntKind.has] using h2⟩

/-- A row of known cells' types, all of them integers. -/
theorem row_int {P : Program} {w : World} {r : Reach} {base : Nat} {t : TypeId} {ts : List TypeId} {cs : Array Value} (hts : P.cellTypes P.depth t = some ts) (h : Row.okWide P w r base t cs) {i : Nat} {u : TypeId} {k : IntKind} (hi : ts[i]? = some u) (hu : P.underlying u = some (.int k)) (hcs : i < cs.size) :
    ∃ n, cs[i]? = some (.int k n) ∧ (Lit.int k n).wf = true := by
  obtain ⟨ts', h1, _, h3⟩ := h
  have e : ts' = ts := by rw [hts] at h1; injection h1 with h1; exact h1.symm
  subst e
  obtain ⟨u', hu', hc⟩ := h3 i cs[i] (Array.getElem?_eq_getElem hcs)
  have hlt : i < ts'.length := (List.getElem?_eq_some_iff.1 hi).1
  rw [Nat.mod_eq_of_lt hlt, hi] at hu'
  injection hu' with hu'
  subst hu'
  obtain ⟨n, hn, hw⟩ := cell_int hu hc
  exact ⟨n, by rw [Array.getElem?_eq_getElem hcs, hn], hw⟩

theorem wf_u8 {n : Int} (h : (Lit.int .u8 n).wf = true) : 0 ≤ n ∧ n < 256 := by
  have hmin : IntKind.u8.min = 0 := rfl
  have hmax : IntKind.u8.max = 255 := rfl
  simp only [Lit.wf, Bool.and_eq_true, decide_eq_true_eq] at h
  omega
theorem wf_i64 {n : Int} (h : (Lit.int .i64 n).wf = true) : -9223372036854775808 ≤ n ∧ n ≤ 9223372036854775807 := by
  have hmin : IntKind.i64.min = -9223372036854775808 := rfl
  have hmax : IntKind.i64.max = 9223372036854775807 := rfl
  simp only [Lit.wf, Bool.and_eq_true, decide_eq_true_eq] at h
  omega
theorem wf_u64 {n : Int} (h : (Lit.int .u64 n).wf = true) : 0 ≤ n ∧ n ≤ 18446744073709551615 := by
  have hmin : IntKind.u64.min = 0 := rfl
  have hmax : IntKind.u64.max = 18446744073709551615 := rfl
  simp only [Lit.wf, Bool.and_eq_true, decide_eq_true_eq] at h
  omega

theorem array6 {α : Type} (a : Array α) (h : a.size = 6) : ∃ x0 x1 x2 x3 x4 x5, a = #[x0, x1, x2, x3, x4, x5] := by
  obtain ⟨l⟩ := a
  match l, h with
  | [x0, x1, x2, x3, x4, x5], _ => exact ⟨x0, x1, x2, x3, x4, x5, rfl⟩

/-- An argument that is an array of six bytes. -/
theorem open_mac {P : Program} {w : World} {r : Reach} {base : Nat} {t e : TypeId} {v : Value} (hu : P.underlying t = some (.array 6 e)) (he : P.underlying e = some (.int .u8)) (hC : P.cellsOf t = 6)
    (hts : P.cellTypes P.depth t = some [e, e, e, e, e, e]) (h : Value.okWide P w r base t v) :
    ∃ x0 x1 x2 x3 x4 x5 : Int, v = .agg #[.int .u8 x0, .int .u8 x1, .int .u8 x2, .int .u8 x3, .int .u8 x4, .int .u8 x5] ∧
      (0 ≤ x0 ∧ x0 < 256) ∧ (0 ≤ x1 ∧ x1 < 256) ∧ (0 ≤ x2 ∧ x2 < 256) ∧ (0 ≤ x3 ∧ x3 < 256) ∧ (0 ≤ x4 ∧ x4 < 256) ∧ (0 ≤ x5 ∧ x5 < 256) := by
  simp only [Value.okWide, hu] at h
  obtain ⟨cs, rfl, hsz, hrow⟩ := h
  rw [hC] at hsz
  obtain ⟨n0, e0, b0⟩ := row_int hts hrow (i := 0) rfl he (by omega)
  obtain ⟨n1, e1, b1⟩ := row_int hts hrow (i := 1) rfl he (by omega)
  obtain ⟨n2, e2, b2⟩ := row_int hts hrow (i := 2) rfl he (by omega)
  obtain ⟨n3, e3, b3⟩ := row_int hts hrow (i := 3) rfl he (by omega)
  obtain ⟨n4, e4, b4⟩ := row_int hts hrow (i := 4) rfl he (by omega)
  obtain ⟨n5, e5, b5⟩ := row_int hts hrow (i := 5) rfl he (by omega)
  obtain ⟨c0, c1, c2, c3, c4, c5, rfl⟩ := array6 cs hsz
  simp at e0 e1 e2 e3 e4 e5
  subst e0 e1 e2 e3 e4 e5
  exact ⟨n0, n1, n2, n3, n4, n5, rfl, wf_u8 b0, wf_u8 b1, wf_u8 b2, wf_u8 b3, wf_u8 b4, wf_u8 b5⟩

theorem eqItems_cons {P : Program} {w : World} {d e : Nat} (he : P.underlying e = some (.int .u8)) {xs ys : Array Value} {i : Nat} {is : List Nat} {x y : Int} (hx : xs[i]? = some (.int .u8 x)) (hy : ys[i]? = some (.int .u8 y)) :
    (Op.eqItems (d + 1) e 1 xs ys (i :: is)).run P w = if x = y then (Op.eqItems (d + 1) e 1 xs ys is).run P w else .ok false w := by
  have px : (part e xs (i * 1)).run P w = .ok (.int .u8 x) w := by simp [part, isAgg, run_underlying he, hx]
  have py : (part e ys (i * 1)).run P w = .ok (.int .u8 y) w := by simp [part, isAgg, run_underlying he, hy]
  simp only [Op.eqItems, Sem.run_bind, px, py, Result.andThen_ok, run_equalIn_int w d e .u8 .u8 x y he]
  by_cases h : x = y <;> simp [h]

/-- '==' of two arrays of six bytes. -/
theorem run_eq6 {P : Program} {w : World} {d t e : Nat} {i : TypeInfo} (hu : P.underlying t = some (.array 6 e)) (he : P.underlying e = some (.int .u8)) (hi : P.info? e = some i) (hC : P.cellsOf e = 1) (x0 x1 x2 x3 x4 x5 y0 y1 y2 y3 y4 y5 : Int) :
    (Op.equalIn (d + 2) t (.agg #[.int .u8 x0, .int .u8 x1, .int .u8 x2, .int .u8 x3, .int .u8 x4, .int .u8 x5]) (.agg #[.int .u8 y0, .int .u8 y1, .int .u8 y2, .int .u8 y3, .int .u8 y4, .int .u8 y5])).run P w =
      .ok (decide (x0 = y0 ∧ x1 = y1 ∧ x2 = y2 ∧ x3 = y3 ∧ x4 = y4 ∧ x5 = y5)) w := by
  rw [run_equalIn_array w (d + 1) _ _ hu hi, hC, show List.range 6 = [0, 1, 2, 3, 4, 5] from rfl]
  rw [eqItems_cons he (x := x0) (y := y0) rfl rfl, eqItems_cons he (x := x1) (y := y1) rfl rfl, eqItems_cons he (x := x2) (y := y2) rfl rfl, eqItems_cons he (x := x3) (y := y3) rfl rfl, eqItems_cons he (x := x4) (y := y4) rfl rfl, eqItems_cons he (x := x5) (y := y5) rfl rfl]
  have e0 : (Op.eqItems (d + 1) e 1 #[.int .u8 x0, .int .u8 x1, .int .u8 x2, .int .u8 x3, .int .u8 x4, .int .u8 x5] #[.int .u8 y0, .int .u8 y1, .int .u8 y2, .int .u8 y3, .int .u8 y4, .int .u8 y5] []).run P w = .ok true w := by simp [Op.eqItems]
  rw [e0]
  by_cases h0 : x0 = y0
  · by_cases h1 : x1 = y1
    · by_cases h2 : x2 = y2
      · by_cases h3 : x3 = y3
        · by_cases h4 : x4 = y4
          · by_cases h5 : x5 = y5 <;> simp [h0, h1, h2, h3, h4, h5]
          · simp [h0, h1, h2, h3, h4]
        · simp [h0, h1, h2, h3]
      · simp [h0, h1, h2]
    · simp [h0, h1]
  · simp [h0]

theorem list1 {α : Type} (l : List α) (h : l.length = 1) : ∃ a, l = [a] := by
  match l, h with
  | [a], _ => exact ⟨a, rfl⟩
theorem list2 {α : Type} (l : List α) (h : l.length = 2) : ∃ a b, l = [a, b] := by
  match l, h with
  | [a, b], _ => exact ⟨a, b, rfl⟩
theorem list3 {α : Type} (l : List α) (h : l.length = 3) : ∃ a b c, l = [a, b, c] := by
  match l, h with
  | [a, b, c], _ => exact ⟨a, b, c, rfl⟩
theorem args1 (a : Array Value) (h : a.toList.length = 1) : ∃ v, a = #[v] := by
  obtain ⟨l⟩ := a
  obtain ⟨v, rfl⟩ := list1 l h
  exact ⟨v, rfl⟩
theorem args2 (a : Array Value) (h : a.toList.length = 2) : ∃ v u, a = #[v, u] := by
  obtain ⟨l⟩ := a
  obtain ⟨v, u, rfl⟩ := list2 l h
  exact ⟨v, u, rfl⟩
theorem args3 (a : Array Value) (h : a.toList.length = 3) : ∃ v u s, a = #[v, u, s] := by
  obtain ⟨l⟩ := a
  obtain ⟨v, u, s, rfl⟩ := list3 l h
  exact ⟨v, u, s, rfl⟩

/-- An argument that is a string. -/
theorem open_str {P : Program} {w : World} {r : Reach} {base : Nat} {t : TypeId} {v : Value} (hu : P.underlying t = some .string) (h : Value.okWide P w r base t v) : ∃ s : ByteArray, v = .string s ∧ s.size ≤ 9223372036854775807 := by
  simp only [Value.okWide, hu] at h
  cases v <;> simp [Cell.okWide, Cell.ok, hu] at h
  rename_i s
  have hmax : IntKind.i64.max = 9223372036854775807 := rfl
  exact ⟨s, rfl, by omega⟩
end Go.Proofs.YtehhldpmhlocdaaDoor
