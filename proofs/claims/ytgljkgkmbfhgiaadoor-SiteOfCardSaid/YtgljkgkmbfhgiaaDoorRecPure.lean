/- URLs, hosts, and what they are as texts, plain. -/
import Derived.Lib.ItoaMem
import Derived.Test.YtgljkgkmbfhgiaaDoorBase
import Derived.Test.YtgljkgkmbfhgiaaDoorSixBack
import Derived.Test.YtgljkgkmbfhgiaaDoorFourBack
set_option linter.unusedVariables false
set_option linter.unusedSimpArgs false
namespace Go.Proofs.YtgljkgkmbfhgiaaDoor.Rec
open Go.RowKit Go.Proofs.YtgljkgkmbfhgiaaDoor.Four Go.Proofs.YtgljkgkmbfhgiaaDoor.Six

structure HostV where
  kind : Int
  name : ByteArray
  v4 : Nat
  a0 : Nat
  a1 : Nat
  a2 : Nat
  a3 : Nat
  a4 : Nat
  a5 : Nat
  a6 : Nat
  a7 : Nat
def HostV.v6 (h : HostV) : List Nat := [h.a0, h.a1, h.a2, h.a3, h.a4, h.a5, h.a6, h.a7]
def HostV.cells (h : HostV) : List Value := [.int .i64 h.kind, .string h.name, .int .u32 h.v4, .int .u16 h.a0, .int .u16 h.a1, .int .u16 h.a2, .int .u16 h.a3, .int .u16 h.a4, .int .u16 h.a5, .int .u16 h.a6, .int .u16 h.a7]
structure HostV.ok (h : HostV) : Prop where
  k0 : -9223372036854775808 ≤ h.kind
  k1 : h.kind ≤ 9223372036854775807
  v4 : h.v4 < 4294967296
  v6 : ∀ n ∈ h.v6, n < 65536
def hostT (h : HostV) : List UInt8 := if h.kind = 2 ∨ h.kind = 5 then h.name.data.toList else if h.kind = 3 then textL h.v4 else if h.kind = 4 then 91 :: (text6 h.v6 ++ [93]) else []
/-- A URL; the address and the capacity of its path's row stand apart. -/
structure UrlV where
  scheme : ByteArray
  user : ByteArray
  pass : ByteArray
  h : HostV
  port : Int
  opq : Bool
  path : List ByteArray
  hasq : Bool
  query : ByteArray
  hasf : Bool
  frag : ByteArray
def UrlV.cells (u : UrlV) (A : Option Addr) (c : Nat) : List Value := [.string u.scheme, .string u.user, .string u.pass] ++ u.h.cells ++ [.int .i64 u.port, .bool u.opq, .slice A u.path.length c, .bool u.hasq, .string u.query, .bool u.hasf, .string u.frag]
structure UrlV.ok (u : UrlV) : Prop where
  h : u.h.ok
  p0 : -9223372036854775808 ≤ u.port
  p1 : u.port ≤ 9223372036854775807
def UrlV.few (u : UrlV) : Bool := (u.path.all fun s => decide (s.size ≤ 60)) && decide (u.path.length ≤ 20) && decide (u.scheme.size ≤ 100) && decide (u.user.size ≤ 100) && decide (u.pass.size ≤ 100) && decide (u.h.name.size ≤ 100) && decide (u.query.size ≤ 100) && decide (u.frag.size ≤ 100)
/-- What bounds a URL's texts. -/
structure UrlV.short (u : UrlV) : Prop where
  path : ∀ s ∈ u.path, s.size ≤ 60
  len : u.path.length ≤ 20
  scheme : u.scheme.size ≤ 100
  user : u.user.size ≤ 100
  pass : u.pass.size ≤ 100
  name : u.h.name.size ≤ 100
  query : u.query.size ≤ 100
  frag : u.frag.size ≤ 100
theorem UrlV.few_iff (u : UrlV) : u.few = true ↔ u.short := by
  unfold UrlV.few
  simp only [Bool.and_eq_true, decide_eq_true_eq, List.all_eq_true]
  exact ⟨fun h => ⟨h.1.1.1.1.1.1.1, h.1.1.1.1.1.1.2, h.1.1.1.1.1.2, h.1.1.1.1.2, h.1.1.1.2, h.1.1.2, h.1.2, h.2⟩, fun h => ⟨⟨⟨⟨⟨⟨⟨h.path, h.len⟩, h.scheme⟩, h.user⟩, h.pass⟩, h.name⟩, h.query⟩, h.frag⟩⟩
/-! ### Texts -/
def when (b : Bool) (l : List UInt8) : List UInt8 := if b = true then l else []
def pathT : List ByteArray → List UInt8
  | [] => []
  | s :: l => 47 :: (s.data.toList ++ pathT l)
def pathU (u : UrlV) : List UInt8 := if u.opq = false then pathT u.path else match u.path with
  | [] => []
  | s :: _ => s.data.toList
def numT (n : Int) : List UInt8 := when (decide (0 ≤ n)) (58 :: Lib.itoa n)
def isEmpty (s : ByteArray) : Bool := s.toList.isEmpty
def authT (u : UrlV) : List UInt8 :=
  when (!isEmpty u.user || !isEmpty u.pass) (u.user.data.toList ++ (when (!isEmpty u.pass) (58 :: u.pass.data.toList) ++ [64])) ++ hostT u.h ++ numT u.port
def hosted (u : UrlV) : Bool := decide (u.h.kind ≠ 0)
def dotted (u : UrlV) : Bool := !hosted u && !u.opq && decide (1 < u.path.length) && isEmpty (u.path.headD ByteArray.empty)
def textU (u : UrlV) (bare : Bool) : List UInt8 :=
  u.scheme.data.toList ++ [58] ++ when (hosted u) (47 :: 47 :: authT u) ++ when (dotted u) [47, 46] ++ pathU u ++ when u.hasq (63 :: u.query.data.toList) ++ when (!bare && u.hasf) (35 :: u.frag.data.toList)
theorem hostT_len {h : HostV} (hn : h.name.size ≤ 100) (h8 : ∀ n ∈ h.v6, n < 65536) : (hostT h).length ≤ 100 := by
  unfold hostT
  split
  · simpa using hn
  · split
    · have := (text_len h.v4).2
      omega
    · split
      · have := text6_len h.v6 rfl h8
        simp
        omega
      · simp
theorem pathT_len : ∀ l : List ByteArray, (∀ s ∈ l, s.size ≤ 60) → (pathT l).length ≤ 61 * l.length
  | [], _ => by simp [pathT]
  | s :: l, h => by
    have h1 := h s (List.mem_cons_self ..)
    have h2 := pathT_len l (fun t ht => h t (List.mem_cons_of_mem _ ht))
    have h3 : s.data.toList.length = s.size := by simp
    simp only [pathT, List.length_cons, List.length_append]
    omega
theorem pathU_len {u : UrlV} (h : u.short) : (pathU u).length ≤ 1220 := by
  unfold pathU
  split
  · have := pathT_len u.path h.path
    have := h.len
    omega
  · split
    · simp
    · rename_i s l e
      have := h.path s (by rw [e]; exact List.mem_cons_self ..)
      have h3 : s.data.toList.length = s.size := by simp
      omega
theorem when_len (b : Bool) (l : List UInt8) : (when b l).length ≤ l.length := by
  unfold when
  split <;> simp
theorem itoa_pos {n : Int} (h : 0 ≤ n) : Lib.itoa n = Lib.decDigits n.toNat := by
  obtain ⟨m, rfl⟩ := Int.eq_ofNat_of_zero_le h
  rw [Lib.itoa_nonneg]
  rfl
theorem numT_len {n : Int} (h1 : n ≤ 9223372036854775807) : (numT n).length ≤ 21 := by
  unfold numT when
  split
  · rename_i h
    have h0 : 0 ≤ n := by simpa using h
    rw [itoa_pos h0]
    have := (dec_len2 n.toNat 19 (by omega)).2
    simp
    omega
  · simp
theorem authT_len {u : UrlV} (h : u.short) (ho : u.ok) : (authT u).length ≤ 423 := by
  have h1 := hostT_len h.name ho.h.v6
  have h2 := numT_len ho.p1
  have h3 : u.user.data.toList.length = u.user.size := by simp
  have h4 : u.pass.data.toList.length = u.pass.size := by simp
  have h5 := h.user
  have h6 := h.pass
  have h7 := when_len (!isEmpty u.pass) (58 :: u.pass.data.toList)
  have h8 := when_len (!isEmpty u.user || !isEmpty u.pass) (u.user.data.toList ++ (when (!isEmpty u.pass) (58 :: u.pass.data.toList) ++ [64]))
  simp only [List.length_append, List.length_cons, List.length_nil] at h7 h8
  unfold authT
  simp only [List.length_append]
  omega
/-! ### The same -/
def sameH (a b : HostV) : Bool := a.kind == b.kind && a.name == b.name && a.v4 == b.v4 && a.v6 == b.v6
def sameU (a b : UrlV) : Bool := a.scheme == b.scheme && a.user == b.user && a.pass == b.pass && sameH a.h b.h && a.port == b.port && a.opq == b.opq && a.path == b.path && a.hasq == b.hasq && a.query == b.query && a.hasf == b.hasf && a.frag == b.frag
end Go.Proofs.YtgljkgkmbfhgiaaDoor.Rec
