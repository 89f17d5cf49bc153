/- errors: fail.Wrap makes a Fail in a new block; errors.Is along any chain of Fails that ends in a number: whether that is the number asked for. -/
import Derived.Test.YtcclghpoodbdcaaGreatDoorProg
import Derived.WalkKit
import Derived.KernelRfl
import Derived.LaidEql
import Derived.Stop.Asserts
import Derived.Stop.IfaceNil
import Derived.Lib.IfaceEq
import Derived.Deep.LoopGhost
import Derived.RowKitTokens
import Derived.Lib.Hide
namespace Go.Proofs.YtcclghpoodbdcaaGreatDoor
open Go.RowKit Go.Extern.Stop Go.Stop Go.Extern

/-- v is an error in world w: a number c, wrapped by so many Fails, by these calls (the outermost first). -/
inductive Chain (w : World) : List ByteArray → Value → Int → Prop
  | num (c : Int) : Chain w [] (.iface 30 (.int .i64 c)) c
  | fail (g : Nat) (s : ByteArray) (l : List ByteArray) (v : Value) (c : Int) (h : w.heap[g]? = some (.cells #[.string s, v] 58 (0, 0))) (hv : Chain w l v c) : Chain w (s :: l) (.iface 56 (.pointer (some ⟨g, 0, none⟩))) c

theorem Chain.mono {w w' : World} (hk : ∀ (g : Nat) (s : ByteArray) (v : Value), w.heap[g]? = some (.cells #[.string s, v] 58 (0, 0)) → w'.heap[g]? = some (.cells #[.string s, v] 58 (0, 0))) {l : List ByteArray} {v : Value} {c : Int} (h : Chain w l v c) : Chain w' l v c := by
  induction h with
  | num c => exact .num c
  | fail g s l v c h _ ih => exact .fail g s l v c (hk _ _ _ h) ih

theorem Chain.keep {w w' : World} (hb : Below w.heap.size w w') {l : List ByteArray} {v : Value} {c : Int} (h : Chain w l v c) : Chain w' l v c :=
  h.mono fun g _ _ hg => (hb.block g (Array.getElem?_eq_some_iff.1 hg).1).trans hg

theorem Chain.iface {w : World} {l : List ByteArray} {v : Value} {c : Int} (h : Chain w l v c) : ∃ t x, v = .iface t x := by
  cases h <;> exact ⟨_, _, rfl⟩

/-- fail.Wrap of what is an error. -/
theorem wrap_some (s : ByteArray) (t : TypeId) (x : Value) (w : World) :
    Calls Tryz.prog 14 #[.string s, .iface t x] w fun e w' => e = .returned (.iface 56 (.pointer (some ⟨w.heap.size, 0, none⟩))) ∧ w.alloc (.cells #[.string s, .iface t x] 58) = w' := by
  go_enter Tryz.func14, Tryz.ntmps14
  go_wp2
  go_ret
  exact ⟨rfl, rfl⟩

theorem wrap_nil (s : ByteArray) (w : World) :
    Calls Tryz.prog 14 #[.string s, .nilIface] w fun e w' => e = .returned .nilIface ∧ w = w' := by
  go_enter Tryz.func14, Tryz.ntmps14
  go_wp2
  go_ret
  exact ⟨rfl, rfl⟩

/-! ### errors.Is -/
theorem isTypeOf (v : Value) (w : World) : (callFunc 21 #[.iface 30 v]).run Tryz.prog w = .ok (.value (.iface 84 (.agg #[.pointer (some ⟨7, 30, none⟩)]))) w := by
  have hT := @run_callFunc_extern Tryz.prog 21 _ Extern.ReflectliteType.typeOf Tryz.func21 (by kernel_rfl) (by kernel_rfl) (by kernel_rfl) (by kernel_rfl)
  have h : (Extern.ReflectliteType.typeOf #[.iface 30 v]).run Tryz.prog w = .ok (.iface 84 (.agg #[.pointer (some ⟨7, 30, none⟩)])) w := by kernel_rfl
  rw [hT, h]
  rfl
theorem isComparable (w : World) : (callFunc 111 #[.agg #[.pointer (some ⟨7, 30, none⟩)]]).run Tryz.prog w = .ok (.value (.bool true)) w := by
  have hT := @run_callFunc_extern Tryz.prog 111 _ (Extern.ReflectliteType.method fun t => do Extern.Rtype.noPackHeld "Comparable" t; pure (.bool (← typeInfo t).comparable)) Tryz.func111 (by kernel_rfl) (by kernel_rfl) (by kernel_rfl) (by kernel_rfl)
  have h : ((Extern.ReflectliteType.method fun t => do Extern.Rtype.noPackHeld "Comparable" t; pure (.bool (← typeInfo t).comparable)) #[.agg #[.pointer (some ⟨7, 30, none⟩)]]).run Tryz.prog w = .ok (.bool true) w := by kernel_rfl
  rw [hT, h]
  rfl
theorem methodComparable (n : Nat) (v : Value) (w : World) : (Go.method (n + 1) 84 v "Comparable").run Tryz.prog w = .ok (111, v) w := by kernel_rfl
theorem methodUnwrap (n : Nat) (v : Value) (w : World) : (Go.method (n + 1) 56 v "Unwrap").run Tryz.prog w = .ok (104, v) w := by kernel_rfl
theorem noIsE (v : Value) (xT : TypeId) (w : World) : (Instr.typeAssert (.iface 30 v) xT 86 true).run Tryz.prog w = .ok (.tuple #[.nilIface, .bool false]) w := run_typeAssert_lacksB Tryz.underlying86 (by kernel_rfl) (by kernel_rfl) v xT w
theorem noUnwrapE (v : Value) (xT : TypeId) (w : World) : (Instr.typeAssert (.iface 30 v) xT 89 true).run Tryz.prog w = .ok (.tuple #[.nilIface, .bool false]) w := run_typeAssert_lacksB Tryz.underlying89 (by kernel_rfl) (by kernel_rfl) v xT w
theorem noUnwrapsE (v : Value) (xT : TypeId) (w : World) : (Instr.typeAssert (.iface 30 v) xT 91 true).run Tryz.prog w = .ok (.tuple #[.nilIface, .bool false]) w := run_typeAssert_lacksB Tryz.underlying91 (by kernel_rfl) (by kernel_rfl) v xT w
theorem noIsF (v : Value) (xT : TypeId) (w : World) : (Instr.typeAssert (.iface 56 v) xT 86 true).run Tryz.prog w = .ok (.tuple #[.nilIface, .bool false]) w := run_typeAssert_lacksB Tryz.underlying86 (by kernel_rfl) (by kernel_rfl) v xT w
theorem hasUnwrapF (v : Value) (xT : TypeId) (w : World) : (Instr.typeAssert (.iface 56 v) xT 89 true).run Tryz.prog w = .ok (.tuple #[.iface 56 v, .bool true]) w := run_typeAssert_hasB Tryz.underlying89 (by kernel_rfl) v xT w

theorem unwrap_calls (g : Nat) (s : ByteArray) (v : Value) (w : World) (h : w.heap[g]? = some (.cells #[.string s, v] 58 (0, 0))) :
    Calls Tryz.prog 104 #[.pointer (some ⟨g, 0, none⟩)] w fun e w' => e = .returned v ∧ w = w' := by
  have c1 : w.cell? ⟨g, 1, none⟩ = some v := by simp [World.cell?, h]
  clear h
  go_enter Tryz.func104, Tryz.ntmps104
  go_wp2
  go_ret
  exact ⟨rfl, rfl⟩

/-- Whether the number in an error is the one asked for. -/
theorem is2_chain (l : List ByteArray) (v : Value) (c d : Int) (w : World) (h : Chain w l v c) :
    Calls Tryz.prog 22 #[v, .iface 30 (.int .i64 d), .bool true] w fun e w' => e = .returned (.bool (c == d)) ∧ w = w' := by
  have hmU := fun v w => methodUnwrap (262 - 1) v w
  simp only [Nat.reduceSub, Nat.reduceAdd] at hmU
  have nE := noIsE
  have uE := noUnwrapE
  have vE := noUnwrapsE
  have nF := noIsF
  have uF := hasUnwrapF
  have H := Lib.hid h
  clear h
  go_enter Tryz.func22, Tryz.ntmps22
  go_wp2
  go_loopg [0] l.length (fun n v0 w' => w = w' ∧ Hid (∃ l, l.length = n ∧ Chain w l v0 c))
  case atStart => exact ⟨rfl, ⟨l, rfl, H.out⟩⟩
  case round =>
    obtain ⟨rfl, hh⟩ := hrel
    obtain ⟨l1, hl1, h1⟩ := hh.out
    clear hh H
    cases h1 with
    | num =>
      have heq := Lib.run_eql_iface_int (P := Tryz.prog) w (k := .i64) c d Tryz.underlying25 (by kernel_rfl) Tryz.underlying30
      clear hl1
      by_cases hcd : (c == d) = true
      · rw [hcd] at heq
        have HC := Lib.hid hcd
        clear hcd
        go_wp2
        go_ret
        exact ⟨by rw [HC.out]; rfl, rfl⟩
      · have hcd' : (c == d) = false := by simpa using hcd
        rw [hcd'] at heq
        have HC := Lib.hid hcd'
        clear hcd hcd'
        go_wp2
        go_ret
        exact ⟨by rw [HC.out]; rfl, rfl⟩
    | fail g s l2 v2 _ hg hv2 =>
      have hty := run_eql_iface_types (P := Tryz.prog) 56 30 (.pointer (some ⟨g, 0, none⟩)) (.int .i64 d) Tryz.underlying25 (by decide) w
      have HV := Lib.hid hv2
      have HL := Lib.hid hl1
      obtain ⟨t2, x2, hx2⟩ := hv2.iface
      clear hv2 hl1
      subst hx2
      have hun := unwrap_calls g s _ w hg
      clear hg
      have HU := Lib.hid hun
      clear hun
      go_wp2_with (go_at_call 104; refine HU.out.mono ?_; rintro e w' ⟨rfl, rfl⟩)
      go_roundg l2.length
      case rel => exact ⟨rfl, ⟨l2, rfl, HV.out⟩⟩
      case measure => have := HL.out; simp at this; omega

theorem is_chain (l : List ByteArray) (v : Value) (c d : Int) (w : World) (h : Chain w l v c) :
    Calls Tryz.prog 11 #[v, .iface 30 (.int .i64 d)] w fun e w' => e = .returned (.bool (c == d)) ∧ w = w' := by
  obtain ⟨t0, x0, hx0⟩ := h.iface
  have hmC := fun v w => methodComparable (262 - 1) v w
  simp only [Nat.reduceSub, Nat.reduceAdd] at hmC
  have tT := isTypeOf
  have cT := isComparable
  have H := Lib.hid h
  clear h
  subst hx0
  go_enter Tryz.func11, Tryz.ntmps11
  go_wp2_with (go_at_call 22; refine (is2_chain l _ c d w H.out).mono ?_; rintro e w' ⟨rfl, rfl⟩)
  go_ret
  exact ⟨rfl, rfl⟩

theorem is_nil (d : Int) (w : World) :
    Calls Tryz.prog 11 #[.nilIface, .iface 30 (.int .i64 d)] w fun e w' => e = .returned (.bool false) ∧ w = w' := by
  have hn := run_eql_iface_nil_left (P := Tryz.prog) w 30 (.int .i64 d) Tryz.underlying25
  go_enter Tryz.func11, Tryz.ntmps11
  go_wp2
  go_ret
  exact ⟨rfl, rfl⟩

end Go.Proofs.YtcclghpoodbdcaaGreatDoor
