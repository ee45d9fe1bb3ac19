/-
  A region that draws its order, whose operations read, whose calls make memory, and which makes one thing whose address only its last operations use: one walk in the order of the text.
-/
import Derived.Test.YtehhldpmhlocdaaDoorBase
import Derived.StillTailTactics
namespace Go.Proofs.YtehhldpmhlocdaaDoor
open Go.RowKit
set_option linter.unusedVariables false

section
variable {P : Program} {ops : Array Oper} {md : Region.Mode} {w : World}

/-- The worlds that lie above one. -/
abbrev Above (w : World) : Type := Of (fun u => Below w.heap.size w u)
theorem above_some (w : World) : Nonempty (Above w) := ⟨⟨w, Below.refl _ _⟩⟩

/-- One value in every world above; a call leaves a world above the one that it met. -/
def Oper.rise (P : Program) (o : Oper) (a : Act) (w : World) (K : Act → Prop) : Prop :=
  ∃ v, (∀ x : Above w, Oper.quietUpon P (fun u => Below x.w.heap.size x.w u) x.w v ((execOp a.eval o).run P x.w)) ∧ K (a.put o.dst v)

def wpRise (P : Program) (ops : Array Oper) (w : World) (Q : Act → Prop) : List Oper → Act → Prop
  | [], a => Q a
  | o :: rest, a => if Region.wanted o (yielded ops a.tmps) then Oper.rise P o a w (wpRise P ops w Q rest) else wpRise P ops w Q rest (a.put o.dst undef)

theorem wpRise_nil {Q : Act → Prop} {a : Act} (h : Q a) : wpRise P ops w Q [] a := h
theorem wpRise_step {Q : Act → Prop} {a : Act} {o : Oper} {rest : List Oper}
    (h : ∀ K : Act → Prop, (∀ a, wpRise P ops w Q rest a → K a) → if Region.wanted o (yielded ops a.tmps) then Oper.rise P o a w K else K (a.put o.dst undef)) : wpRise P ops w Q (o :: rest) a :=
  h _ (fun _ h => h)

def riseOp (P : Program) (ops : Array Oper) (w : World) (i : Nat) (K : Act → Prop) (a : Act) : Prop :=
  match ops[i]? with
  | none => K a
  | some o => if Region.wanted o (yielded ops a.tmps) then Oper.rise P o a w K else K (a.put o.dst undef)

theorem rise_mono {o : Oper} {a : Act} {K K' : Act → Prop} (h : ∀ a, K a → K' a) (hh : Oper.rise P o a w K) : Oper.rise P o a w K' :=
  let ⟨v, h1, h2⟩ := hh
  ⟨v, h1, h _ h2⟩
theorem riseOp_mono {i : Nat} {a : Act} {K K' : Act → Prop} (h : ∀ a, K a → K' a) (hh : riseOp P ops w i K a) : riseOp P ops w i K' a := by
  unfold riseOp at *
  split
  · exact h _ (by simpa [*] using hh)
  · rename_i o ho
    simp only [ho] at hh
    split
    · rename_i hw; simp only [hw, if_true] at hh; exact rise_mono h hh
    · rename_i hw; simp only [hw] at hh; exact h _ hh

def RiseIn (P : Program) (ops : Array Oper) (w : World) (o : Oper) (v : Value) (a : Act) : Prop :=
  (Region.wanted o (yielded ops a.tmps) = true ∧ ∀ x : Above w, Oper.quietUpon P (fun u => Below x.w.heap.size x.w u) x.w v ((execOp a.eval o).run P x.w)) ∨
  (Region.wanted o (yielded ops a.tmps) = false ∧ v = undef)

theorem RiseIn.op {i : Nat} {o : Oper} {v : Value} {a : Act} (hi : ops[i]? = some o) (hy : RiseIn P ops w o v a) {K : Act → Prop} (h : K (a.put o.dst v)) : riseOp P ops w i K a := by
  unfold riseOp
  simp only [hi]
  rcases hy with ⟨hw, hv⟩ | ⟨hw, rfl⟩
  · simp only [hw, if_true]; exact ⟨v, hv, h⟩
  · simp only [hw, Bool.false_eq_true, if_false]; exact h
theorem RiseIn.of_same {o : Oper} {v : Value} {a a' : Act} (hy : RiseIn P ops w o v a) (he : execOp a'.eval o = execOp a.eval o)
    (hw : Region.wanted o (yielded ops a'.tmps) = Region.wanted o (yielded ops a.tmps)) : RiseIn P ops w o v a' := by
  unfold RiseIn at *
  rw [he, hw]
  exact hy
theorem riseIn_of_op {i : Nat} {o : Oper} {a : Act} {K : Act → Prop} (hi : ops[i]? = some o) (h : riseOp P ops w i K a) : ∃ v, RiseIn P ops w o v a ∧ K (a.put o.dst v) := by
  unfold riseOp at h
  simp only [hi] at h
  by_cases hw : Region.wanted o (yielded ops a.tmps) = true
  · simp only [hw, if_true] at h
    obtain ⟨v, h1, h2⟩ := h
    exact ⟨v, .inl ⟨hw, h1⟩, h2⟩
  · simp only [hw] at h
    exact ⟨undef, .inr ⟨by simpa using hw, rfl⟩, h⟩

theorem riseOp_put {j : Nat} {oi oj : Oper} {v : Value} (hj : ops[j]? = some oj) (hap : oi.apart ops oj = true)
    (hsi : ∀ cs b, oi.op ≠ .select cs b) (hsj : ∀ cs b, oj.op ≠ .select cs b) {K : Act → Prop} {a : Act}
    (hy : RiseIn P ops w oi v a) (h : riseOp P ops w j K (a.put oi.dst v)) :
    riseOp P ops w j (fun a' => RiseIn P ops w oi v a' ∧ K (a'.put oi.dst v)) a := by
  obtain ⟨h1, h2, h3⟩ := Oper.apart_spec hap
  have keep : ∀ (a : Act), RiseIn P ops w oi v a → ∀ u, RiseIn P ops w oi v (a.put oj.dst u) := fun a hy u =>
    hy.of_same (execOp_put oi hsi a oj.dst u h3) (wanted_put oi a oj.dst u h3)
  unfold riseOp at *
  simp only [hj] at *
  rw [wanted_put oj a oi.dst v h1] at h
  split
  · rename_i hw
    simp only [hw, if_true] at h
    obtain ⟨u, hu, hn⟩ := h
    refine ⟨u, fun x => ?_, keep a hy u, by rw [← Act.put_comm a v u h2]; exact hn⟩
    have := hu x
    rwa [execOp_put oj hsj a oi.dst v h1] at this
  · rename_i hw
    simp only [hw] at h
    exact ⟨keep a hy _, by rw [← Act.put_comm a v undef h2]; exact h⟩

/-- Whatever order is picked of the first n; L behind them. -/
def wpAnyR (P : Program) (md : Region.Mode) (ops : Array Oper) (w : World) (n : Nat) (L : Array Bool → Act → Prop) : Nat → Array Bool → Act → Prop
  | 0, listed, a => L listed a
  | f + 1, listed, a =>
    Region.ready md ops listed ≠ [] ∧ ∀ i ∈ Region.ready md ops listed, i < n ∧ riseOp P ops w i (wpAnyR P md ops w n L f (listed.setIfInBounds i true)) a

theorem wpAnyR_first {n i : Nat} {oi : Oper} {v : Value} {L : Array Bool → Act → Prop} (hi : ops[i]? = some oi) (hsel : ∀ (j : Nat) (o : Oper) cs b, ops[j]? = some o → o.op ≠ .select cs b)
    (hs : Region.sinkB md ops n = true) (hc : Region.chainB md ops n = true) (hn : n < ops.size) (hin : i < n)
    (hdone : ∀ listed a, L listed a → ∀ j ∈ Region.ready md ops listed, n ≤ j) :
    ∀ (f : Nat) (listed : Array Bool) (a : Act), HeadInv md ops n listed →
      (∀ j oj, ops[j]? = some oj → j ≠ i → listed.getD j true = false → (∀ e ∈ oj.after, Region.binds md e = true → e.on ≠ i) → oi.apart ops oj = true) →
      i ∈ Region.ready md ops listed → RiseIn P ops w oi v a →
      wpAnyR P md ops w n L f (listed.setIfInBounds i true) (a.put oi.dst v) → wpAnyR P md ops w n L (f + 1) listed a := by
  intro f
  induction f with
  | zero =>
    intro listed a inv _ hr hy H
    have hun := (mem_ready.1 hr).1
    refine ⟨fun h => (by rw [h] at hr; cases hr), fun j hj => ?_⟩
    have hjn : j < n := by
      rcases Nat.lt_or_ge j n with h | h
      · exact h
      · exact absurd hj (tail_waits hs hc hn inv _ i rfl hin hun j h)
    refine ⟨hjn, ?_⟩
    by_cases hji : j = i
    · subst hji; exact hy.op hi H
    · have := hdone _ _ H j (ready_mono hj hji)
      omega
  | succ f ih =>
    intro listed a inv hfree hr hy H
    have hun := (mem_ready.1 hr).1
    refine ⟨fun h => (by rw [h] at hr; cases hr), fun j hj => ?_⟩
    have hjn : j < n := by
      rcases Nat.lt_or_ge j n with h | h
      · exact h
      · exact absurd hj (tail_waits hs hc hn inv _ i rfl hin hun j h)
    refine ⟨hjn, ?_⟩
    by_cases hji : j = i
    · subst hji; exact hy.op hi H
    · have h1 := (H.2 j (ready_mono hj hji)).2
      obtain ⟨hjun, oj, hoj, hall⟩ := mem_ready.1 hj
      have hnot : ∀ e ∈ oj.after, Region.binds md e = true → e.on ≠ i := fun e he hb heq => by
        have h1 := hall e he hb
        rw [heq, getD_both hun] at h1
        cases h1
      have h2 := riseOp_put hoj (hfree j oj hoj hji hjun hnot) (fun cs b => hsel i oi cs b hi) (fun cs b => hsel j oj cs b hoj) hy h1
      have hfree' : ∀ k ok, ops[k]? = some ok → k ≠ i → (listed.setIfInBounds j true).getD k true = false →
          (∀ e ∈ ok.after, Region.binds md e = true → e.on ≠ i) → oi.apart ops ok = true := fun k ok hk hki hun hno => by
        refine hfree k ok hk hki ?_ hno
        by_cases hjk : j = k
        · subst hjk; exact hjun
        · rw [getD_set_ne true hjk] at hun; exact hun
      refine riseOp_mono (fun a' h3 => ih (listed.setIfInBounds j true) a' (inv.set hj hjn) hfree' (ready_mono hr (Ne.symm hji)) h3.1 ?_) h2
      rw [Array.setIfInBounds_comm _ _ hji]
      exact h3.2

/-- The first f in the order of the text, from k on; then the ones behind n, one behind the other. -/
def lexMade (md : Region.Mode) (ops : Array Oper) (n g : Nat) : Nat → Nat → Array Bool → Bool
  | 0, _, listed => Region.seqB md ops g n listed
  | f + 1, k, listed => (Region.ready md ops listed).contains k && Region.free md ops listed k && decide (k < n) && lexMade md ops n g f (k + 1) (listed.setIfInBounds k true)

theorem wpAnyR_lex {n g : Nat} {Lq : Act → Prop} (hsel : Region.noSelect ops = true) (hs : Region.sinkB md ops n = true) (hc : Region.chainB md ops n = true) (hn : n < ops.size) :
    ∀ (l : List Oper) (k : Nat) (listed : Array Bool) (a : Act), (∀ j, j < l.length → l[j]? = ops[k + j]?) → HeadInv md ops n listed →
    lexMade md ops n g l.length k listed = true → wpRise P ops w Lq l a →
    wpAnyR P md ops w n (fun listed' a' => Region.seqB md ops g n listed' = true ∧ Lq a') l.length listed a
  | [], k, listed, a, _, _, hB, h => ⟨by simpa [lexMade] using hB, h⟩
  | o :: l, k, listed, a, hl, inv, hB, h => by
    have h0 : ops[k]? = some o := by simpa using (hl 0 (by simp)).symm
    simp only [List.length_cons, lexMade, Bool.and_eq_true, decide_eq_true_eq] at hB
    obtain ⟨⟨⟨hr, hf⟩, hkn⟩, hB'⟩ := hB
    have hr' : k ∈ Region.ready md ops listed := by simpa using hr
    have hst : riseOp P ops w k (wpRise P ops w Lq l) a := by unfold riseOp; simp only [h0]; exact h
    obtain ⟨v, hy, hK⟩ := riseIn_of_op h0 hst
    exact wpAnyR_first h0 (Region.noSelect_spec hsel) hs hc hn hkn (fun listed' a' hL => seqB_ready hL.1) l.length listed a inv (Region.free_spec h0 hf) hr' hy
      (wpAnyR_lex hsel hs hc hn l (k + 1) _ _ (fun j hj => by have := hl (j + 1) (by simp; omega); simpa [Nat.add_assoc, Nat.add_comm 1 j] using this) (inv.set hr' hkn) hB' hK)

/-- Behind the making: the address lies in its place. -/
theorem made_behind {n s k g : Nat} {os : Oper} {r : Obj} {L : Array Bool → Act → Prop} {Q' : Exit → Act → World → Prop} (hos : ops[s]? = some os)
    (hsel : ∀ (j : Nat) (o : Oper) cs b, ops[j]? = some o → o.op ≠ .select cs b) (hap : ∀ j o, j < n → j ≠ s → ops[j]? = some o → os.apart ops o = true)
    (hL : ∀ listed a u, L listed a → Below w.heap.size w u → u.heap[g]? = some r → wpAny P md ops Q' k listed (a.put os.dst (.pointer (some ⟨g, 0, none⟩))) u) :
    ∀ (f : Nat) (listed : Array Bool) (a : Act) (u : World), listed.getD s false = true → wpAnyR P md ops w n L f listed a → Below w.heap.size w u → u.heap[g]? = some r →
      wpAny P md ops Q' (f + k) listed (a.put os.dst (.pointer (some ⟨g, 0, none⟩))) u
  | 0, listed, a, u, _, h, hu, hg => by rw [Nat.zero_add]; exact hL _ _ _ h hu hg
  | f + 1, listed, a, u, hl, h, hu, hg => by
    rw [show f + 1 + k = (f + k) + 1 by omega]
    refine ⟨fun h0 => absurd h0 h.1, fun i hi => ?_⟩
    obtain ⟨hin, h1⟩ := h.2 i hi
    obtain ⟨hiun, oi, hoi, _⟩ := mem_ready.1 hi
    have his : i ≠ s := fun e => by
      rw [e] at hiun
      rw [getD_both hiun] at hl
      cases hl
    obtain ⟨h2, h3, h4⟩ := Oper.apart_spec (hap i oi hin his hoi)
    have hgl : g < u.heap.size := (Array.getElem?_eq_some_iff.1 hg).1
    unfold riseOp at h1
    unfold wpOp
    simp only [hoi] at h1 ⊢
    rw [wanted_put oi a os.dst _ h2]
    split
    · rename_i hw
      simp only [hw, if_true] at h1
      obtain ⟨v, hv, hK⟩ := h1
      have h5 := hv ⟨u, hu⟩
      refine .inl ?_
      unfold Oper.wp
      rw [execOp_put oi (fun cs b => hsel i oi cs b hoi) a os.dst _ h2]
      generalize (execOp a.eval oi).run P u = q at h5 ⊢
      have hset : (listed.setIfInBounds i true).getD s false = true := getD_set_true hl
      cases q with
      | ok nx w' =>
        cases nx <;> simp only [Oper.quietUpon] at h5 <;> simp only [Oper.upon]
        case value x =>
          obtain ⟨e1, e2⟩ := h5
          rw [e1, e2, Act.put_comm a _ v h3]
          exact made_behind hos hsel hap hL f _ _ _ hset hK hu hg
        case skip =>
          obtain ⟨e1, e2⟩ := h5
          rw [e1, ← e2, Act.put_comm a _ v h3]
          exact made_behind hos hsel hap hL f _ _ _ hset hK hu hg
        case enter fn args =>
          obtain ⟨e1, hc⟩ := h5
          rw [e1]
          refine hc.mono fun e w'' ⟨he, hw''⟩ => ?_
          subst he
          have h6 : wpAny P md ops Q' (f + k) (listed.setIfInBounds i true) ((a.put oi.dst v).put os.dst (.pointer (some ⟨g, 0, none⟩))) w'' :=
            made_behind hos hsel hap hL f _ _ _ hset hK (hu.trans (hw''.mono hu.size)) ((hw''.block g hgl).trans hg)
          rw [← Act.put_comm a _ v h3] at h6
          exact h6
      | halt x w' => simp only [Oper.quietUpon] at h5
    · rename_i hw
      simp only [hw] at h1
      rw [Act.put_comm a _ undef h3]
      exact made_behind hos hsel hap hL f _ _ _ (getD_set_true hl) h1 hu hg

/-- Ahead of the making. -/
theorem made_ahead {n s k : Nat} {os : Oper} {r : Obj} {Lq : Act → Prop} {gq : Nat} {Q' : Exit → Act → World → Prop} (hos : ops[s]? = some os) (hs : Region.sinkB md ops n = true) (hc : Region.chainB md ops n = true) (hn : n < ops.size) (hsn : s < n)
    (hsel : ∀ (j : Nat) (o : Oper) cs b, ops[j]? = some o → o.op ≠ .select cs b) (hap : ∀ j o, j < n → j ≠ s → ops[j]? = some o → os.apart ops o = true)
    (hgd : os.guard = none) (haf : ∀ e ∈ os.after, Region.binds md e = true → False)
    (hrun : ∀ (a : Act) u, Below w.heap.size w u → (execOp a.eval os).run P u = .ok (.value (.pointer (some ⟨u.heap.size, 0, none⟩))) (u.alloc r))
    (hL : ∀ g listed a u, (Region.seqB md ops gq n listed = true ∧ Lq a) → Below w.heap.size w u → w.heap.size ≤ g → u.heap[g]? = some r → wpAny P md ops Q' k listed (a.put os.dst (.pointer (some ⟨g, 0, none⟩))) u) :
    ∀ (f : Nat) (listed : Array Bool) (a : Act) (u : World), HeadInv md ops n listed → listed.getD s true = false → wpAnyR P md ops w n (fun listed' a' => Region.seqB md ops gq n listed' = true ∧ Lq a') f (listed.setIfInBounds s true) a → Below w.heap.size w u →
      wpAny P md ops Q' (f + k + 1) listed a u := by
  intro f
  induction f with
  | zero =>
    intro listed a u inv hun h hu
    have hsr : s ∈ Region.ready md ops listed := mem_ready.2 ⟨hun, os, hos, fun e he hb => (haf e he hb).elim⟩
    refine ⟨fun h0 => (by rw [h0] at hsr; cases hsr), fun i hi => ?_⟩
    by_cases his : i = s
    · subst his
      unfold wpOp
      simp only [hos]
      rw [if_pos (by simp [Region.wanted, hgd])]
      refine .inl ?_
      unfold Oper.wp
      rw [hrun a u hu]
      have hsz : i < listed.size := by rw [inv.size]; omega
      exact made_behind (g := u.heap.size) hos hsel hap (fun listed a v h1 h2 h3 => hL _ _ _ _ h1 h2 hu.size h3) 0 _ _ _ (by simp [hsz]) h (hu.alloc hu.size _) (heap_alloc_new u r)
    · have h1 := seqB_ready h.1 i (ready_mono hi his)
      exact absurd hi (tail_waits hs hc hn inv _ s rfl hsn hun i h1)
  | succ f ih =>
    intro listed a u inv hun h hu
    have hsr : s ∈ Region.ready md ops listed := mem_ready.2 ⟨hun, os, hos, fun e he hb => (haf e he hb).elim⟩
    refine ⟨fun h0 => (by rw [h0] at hsr; cases hsr), fun i hi => ?_⟩
    by_cases his : i = s
    · subst his
      unfold wpOp
      simp only [hos]
      rw [if_pos (by simp [Region.wanted, hgd])]
      refine .inl ?_
      unfold Oper.wp
      rw [hrun a u hu]
      have hsz : i < listed.size := by rw [inv.size]; omega
      have := made_behind (g := u.heap.size) hos hsel hap (fun listed a v h1 h2 h3 => hL _ _ _ _ h1 h2 hu.size h3) (f + 1) _ _ _ (by simp [hsz]) h (hu.alloc hu.size _) (heap_alloc_new u r)
      rw [show f + 1 + k = f + 1 + k by omega]
      exact this
    · obtain ⟨hin, h1⟩ := h.2 i (ready_mono hi his)
      obtain ⟨hiun, oi, hoi, _⟩ := mem_ready.1 hi
      unfold riseOp at h1
      unfold wpOp
      simp only [hoi] at h1 ⊢
      have hset : (listed.setIfInBounds i true).getD s true = false := by rw [getD_set_ne true his]; exact hun
      split
      · rename_i hw
        simp only [hw, if_true] at h1
        obtain ⟨v, hv, hK⟩ := h1
        have h5 := hv ⟨u, hu⟩
        refine .inl ?_
        unfold Oper.wp
        rw [Array.setIfInBounds_comm _ _ (Ne.symm his)] at hK
        generalize (execOp a.eval oi).run P u = q at h5 ⊢
        rw [show f + 1 + k = f + k + 1 by omega]
        cases q with
        | ok nx w' =>
          cases nx <;> simp only [Oper.quietUpon] at h5 <;> simp only [Oper.upon]
          case value x =>
            obtain ⟨e1, e2⟩ := h5
            rw [e1, e2]
            exact ih _ _ _ (inv.set hi hin) hset hK hu
          case skip =>
            obtain ⟨e1, e2⟩ := h5
            rw [e1, ← e2]
            exact ih _ _ _ (inv.set hi hin) hset hK hu
          case enter fn args =>
            obtain ⟨e1, hc'⟩ := h5
            rw [e1]
            refine hc'.mono fun e w'' ⟨he, hw''⟩ => ?_
            subst he
            exact ih _ _ _ (inv.set hi hin) hset hK (hu.trans (hw''.mono hu.size))
        | halt x w' => simp only [Oper.quietUpon] at h5
      · rename_i hw
        simp only [hw] at h1
        rw [Array.setIfInBounds_comm _ _ (Ne.symm his)] at h1
        rw [show f + 1 + k = f + k + 1 by omega]
        exact ih _ _ _ (inv.set hi hin) hset h1 hu

/-- The Bool over a region: operation s makes; those behind n are the tail; the others in the order of the text. s lies right ahead of n. -/
def madeB (md : Region.Mode) (ops : Array Oper) (s : Nat) : Bool :=
  Region.noSelect ops && decide (s + 1 < ops.size) && Region.sinkB md ops (s + 1) && Region.chainB md ops (s + 1) &&
  (match ops[s]? with
   | some os => os.guard.isNone && os.after.all (fun e => !Region.binds md e) && (List.range s).all fun j => match ops[j]? with | some o => os.apart ops o | none => true
   | none => false) &&
  lexMade md ops (s + 1) (ops.size - (s + 1)) s 0 ((Array.replicate ops.size false).setIfInBounds s true)

theorem wp_region_made {id : Nat} {Q : Exit → Act → World → Prop} {a : Act} {w0 : World} {l : List Oper} (s : Nat) (r : Obj) (hm : P.follows .mixedOrders = true) (hB : madeB .any l.toArray s = true) (os : Oper) (hos : l.toArray[s]? = some os)
    (hrun : ∀ (a : Act) u, Below w0.heap.size w0 u → (execOp a.eval os).run P u = .ok (.value (.pointer (some ⟨u.heap.size, 0, none⟩))) (u.alloc r))
    (h : ∀ w, w = w0.drew → wpRise P l.toArray w (fun a' => ∀ g u, Below w0.heap.size w0 u → w0.heap.size ≤ g → u.heap[g]? = some r → wpList P l.toArray Q (l.drop (s + 1)) (a'.put os.dst (.pointer (some ⟨g, 0, none⟩))) u) (l.take s) a) :
    (Code.region id l.toArray true).wp P Q a w0 := by
  simp only [madeB, Bool.and_eq_true, decide_eq_true_eq, hos, Option.isNone_iff_eq_none] at hB
  obtain ⟨⟨⟨⟨⟨hsel, hn⟩, hs⟩, hc⟩, ⟨hgd, haf⟩, hap⟩, hlex⟩ := hB
  have hn' : s + 1 < l.length := by simpa using hn
  have htl : (l.take s).length = s := by simp; omega
  have hdl : (l.drop (s + 1)).length = l.toArray.size - (s + 1) := by simp
  have hgd' : os.guard = none := hgd
  have haf' : ∀ e ∈ os.after, Region.binds .any e = true → False := fun e he hb => by
    have := Array.all_eq_true'.1 haf e he
    simp [hb] at this
  have hap' : ∀ j o, j < s + 1 → j ≠ s → l.toArray[j]? = some o → os.apart l.toArray o = true := fun j o hj hne ho => by
    have := List.all_eq_true.1 hap j (List.mem_range.2 (by omega))
    rw [ho] at this
    exact this
  have inv0 : HeadInv .any l.toArray (s + 1) (Array.replicate l.toArray.size false) :=
    ⟨by simp, fun j oj _ hl => (by rw [getD_replicate_false] at hl; cases hl), fun t _ ht => getD_in (by simpa using ht) (getD_replicate_false _ _)⟩
  have hun : (Array.replicate l.toArray.size false).getD s true = false := getD_in (by simp; omega) (getD_replicate_false _ _)
  have hsr : s ∈ Region.ready .any l.toArray (Array.replicate l.toArray.size false) := mem_ready.2 ⟨hun, os, hos, fun e he hb => (haf' e he hb).elim⟩
  have H := wpAnyR_lex (md := .any) (w := w0.drew) (g := l.toArray.size - (s + 1)) hsel hs hc hn (l.take s) 0 _ a (fun j hj => by
    have hj' : j < s := by rw [htl] at hj; exact hj
    simp [hj']) (inv0.set hsr (by omega)) (by rw [htl]; exact hlex) (h _ rfl)
  rw [htl] at H
  refine wp_region_any hm ?_
  have hdr : ∀ {u : World}, Below w0.drew.heap.size w0.drew u → Below w0.heap.size w0 u := fun hu => ⟨hu.os, hu.tape, hu.output, hu.size, hu.block⟩
  have := made_ahead (w := w0.drew) (md := .any) (Q' := Q) (k := l.toArray.size - (s + 1)) (r := r) hos hs hc hn (by omega) (Region.noSelect_spec hsel) hap' hgd' haf' (fun a u hu => hrun a u (hdr hu))
    (fun g listed a' u hL hu hg hr => by
      have := wpAny_of_seq (md := .any) (Q' := Q) (l.drop (s + 1)) (s + 1) listed (a'.put os.dst (.pointer (some ⟨g, 0, none⟩))) u (fun j => by simp [List.getElem?_drop]) (by rw [hdl]; exact hL.1) (hL.2 g u (hdr hu) hg hr)
      rwa [hdl] at this) s _ a w0.drew inv0 hun H (Below.refl _ _)
  rw [show s + (l.toArray.size - (s + 1)) + 1 = l.toArray.size by simp; omega] at this
  exact this
end
end Go.Proofs.YtehhldpmhlocdaaDoor
