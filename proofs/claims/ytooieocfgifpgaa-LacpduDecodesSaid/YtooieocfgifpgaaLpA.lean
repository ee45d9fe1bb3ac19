/-
  What links' ends tell one another: infos as numbers, their bytes as lists; no memory, no program.
-/
import Derived.Test.YtooieocfgifpgaaBase
namespace Go.Proofs.Ytooieocfgifpgaa
open Go.RowKit
set_option linter.unusedVariables false

/-- An info's numbers. -/
structure Inf where
  sp : Int
  m0 : Int
  m1 : Int
  m2 : Int
  m3 : Int
  m4 : Int
  m5 : Int
  key : Int
  pp : Int
  port : Int
  st : Int
/-- They are numbers of their kinds. -/
structure Inf.wf (x : Inf) : Prop where
  sp : -9223372036854775808 ≤ x.sp ∧ x.sp ≤ 9223372036854775807
  m0 : 0 ≤ x.m0 ∧ x.m0 < 256
  m1 : 0 ≤ x.m1 ∧ x.m1 < 256
  m2 : 0 ≤ x.m2 ∧ x.m2 < 256
  m3 : 0 ≤ x.m3 ∧ x.m3 < 256
  m4 : 0 ≤ x.m4 ∧ x.m4 < 256
  m5 : 0 ≤ x.m5 ∧ x.m5 < 256
  key : -9223372036854775808 ≤ x.key ∧ x.key ≤ 9223372036854775807
  pp : -9223372036854775808 ≤ x.pp ∧ x.pp ≤ 9223372036854775807
  port : -9223372036854775808 ≤ x.port ∧ x.port ≤ 9223372036854775807
  st : -9223372036854775808 ≤ x.st ∧ x.st ≤ 9223372036854775807
def inW (m n : Int) : Bool := decide (0 ≤ n ∧ n ≤ m)
def Inf.ok (x : Inf) : Bool := inW 65535 x.sp && inW 65535 x.key && inW 65535 x.pp && inW 65535 x.port && inW 255 x.st
structure Inf.fine (x : Inf) : Prop where
  sp : 0 ≤ x.sp ∧ x.sp ≤ 65535
  key : 0 ≤ x.key ∧ x.key ≤ 65535
  pp : 0 ≤ x.pp ∧ x.pp ≤ 65535
  port : 0 ≤ x.port ∧ x.port ≤ 65535
  st : 0 ≤ x.st ∧ x.st ≤ 255
theorem inW_iff (m n : Int) : inW m n = true ↔ 0 ≤ n ∧ n ≤ m := by simp [inW]
theorem Inf.ok_iff (x : Inf) : x.ok = true ↔ x.fine := by
  simp only [Inf.ok, Bool.and_eq_true, inW_iff]
  exact ⟨fun ⟨⟨⟨⟨a, b⟩, c⟩, d⟩, e⟩ => ⟨a, b, c, d, e⟩, fun ⟨a, b, c, d, e⟩ => ⟨⟨⟨⟨a, b⟩, c⟩, d⟩, e⟩⟩

/-- A number's last byte. -/
def byteOf (n : Int) : UInt8 := UInt8.ofNat (n % 256).toNat
theorem byteOf_toNat (n : Int) : ((byteOf n).toNat : Int) = n % 256 := by
  unfold byteOf
  rw [UInt8.toNat_ofNat']
  omega
def two (n : Int) : List UInt8 := [byteOf (n / 256), byteOf n]
def Inf.bytes (x : Inf) : List UInt8 := two x.sp ++ [byteOf x.m0, byteOf x.m1, byteOf x.m2, byteOf x.m3, byteOf x.m4, byteOf x.m5] ++ two x.key ++ two x.pp ++ two x.port ++ [byteOf x.st, 0, 0, 0]
def encL (a p : Inf) (d : Int) : List UInt8 := [1, 1, 1, 20] ++ a.bytes ++ [2, 20] ++ p.bytes ++ [3, 16] ++ two d ++ List.replicate 64 0
theorem bytes_length (x : Inf) : x.bytes.length = 18 := rfl
theorem encL_length (a p : Inf) (d : Int) : (encL a p d).length = 110 := rfl

/-- Both ends of it. -/
def okL (a p : Inf) (d : Int) : Bool := a.ok && p.ok && inW 65535 d

theorem byteOf_inj {m n : Int} (hm : 0 ≤ m ∧ m ≤ 255) (hn : 0 ≤ n ∧ n ≤ 255) (h : byteOf m = byteOf n) : m = n := by
  have := congrArg (fun u : UInt8 => (u.toNat : Int)) h
  simp only [byteOf_toNat] at this
  omega
theorem two_inj {m n : Int} (hm : 0 ≤ m ∧ m ≤ 65535) (hn : 0 ≤ n ∧ n ≤ 65535) (h1 : byteOf (m / 256) = byteOf (n / 256)) (h2 : byteOf m = byteOf n) : m = n := by
  have h3 := congrArg (fun u : UInt8 => (u.toNat : Int)) h1
  have h4 := congrArg (fun u : UInt8 => (u.toNat : Int)) h2
  simp only [byteOf_toNat] at h3 h4
  omega
theorem bytes_inj {x y : Inf} (hx : x.wf) (hy : y.wf) (fx : x.fine) (fy : y.fine) (h : x.bytes = y.bytes) : x = y := by
  simp only [Inf.bytes, two, List.cons_append, List.nil_append, List.cons.injEq, and_true] at h
  obtain ⟨a0, a1, c0, c1, c2, c3, c4, c5, k0, k1, p0, p1, q0, q1, s0⟩ := h
  obtain ⟨xs, x0, x1, x2, x3, x4, x5, xk, xp, xq, xt⟩ := x
  obtain ⟨ys, y0, y1, y2, y3, y4, y5, yk, yp, yq, yt⟩ := y
  obtain ⟨-, u0, u1, u2, u3, u4, u5, -, -, -, -⟩ := hx
  obtain ⟨-, v0, v1, v2, v3, v4, v5, -, -, -, -⟩ := hy
  obtain ⟨f1, f2, f3, f4, f5⟩ := fx
  obtain ⟨g1, g2, g3, g4, g5⟩ := fy
  simp only at *
  rw [two_inj f1 g1 a0 a1, two_inj f2 g2 k0 k1, two_inj f3 g3 p0 p1, two_inj f4 g4 q0 q1, byteOf_inj f5 g5 s0,
    byteOf_inj ⟨u0.1, by omega⟩ ⟨v0.1, by omega⟩ c0, byteOf_inj ⟨u1.1, by omega⟩ ⟨v1.1, by omega⟩ c1, byteOf_inj ⟨u2.1, by omega⟩ ⟨v2.1, by omega⟩ c2,
    byteOf_inj ⟨u3.1, by omega⟩ ⟨v3.1, by omega⟩ c3, byteOf_inj ⟨u4.1, by omega⟩ ⟨v4.1, by omega⟩ c4, byteOf_inj ⟨u5.1, by omega⟩ ⟨v5.1, by omega⟩ c5]
theorem encL_inj {a p b q : Inf} {d f : Int} (ha : a.wf) (hp : p.wf) (hb : b.wf) (hq : q.wf) (fa : a.fine) (fp : p.fine) (fb : b.fine) (fq : q.fine) (hd : 0 ≤ d ∧ d ≤ 65535) (hf : 0 ≤ f ∧ f ≤ 65535)
    (h : encL a p d = encL b q f) : a = b ∧ p = q ∧ d = f := by
  unfold encL at h
  have l1 := bytes_length a; have l2 := bytes_length b; have l3 := bytes_length p; have l4 := bytes_length q
  have h1 := List.append_cancel_right h
  have h2 := List.append_inj h1 (by simp [l1, l2, l3, l4])
  have h3 := List.append_inj h2.1 (by simp [l1, l2, l3, l4])
  have h4 := List.append_inj h3.1 (by simp [l1, l2])
  have h5 := List.append_inj h4.1 (by simp [l1, l2])
  have h6 := List.append_inj h5.1 (by simp)
  have h7 := h2.2
  simp only [two, List.cons.injEq, and_true] at h7
  exact ⟨bytes_inj ha hb fa fb h6.2, bytes_inj hp hq fp fq h4.2, two_inj hd hf h7.1 h7.2⟩
end Go.Proofs.Ytooieocfgifpgaa
