/- errors: fail.Wrap makes a Fail in a new block; errors.Is along any chain of Fails that ends in a number: whether that is the number asked for. -/
import Derived.Test.YtbeibfhnbnmocaaDoorProg
import Derived.WalkKit
import Derived.KernelRfl
import Derived.LaidEql
import Derived.Stop.Asserts
import Derived.Stop.IfaceNil
import Derived.Lib.IfaceEq
import Derived.Deep.LoopGhost
import Derived.RowKitTokens
import Derived.Lib.Hide
namespace Go.Proofs.YtbeibfhnbnmocaaDoor
open Go.RowKit Go.Extern.Stop Go.Stop Go.Extern

/-- v is an error in world w: a number c, wrapped by so many Fails, by these calls (the outermost first). -/
inductive Chain (w : World) : List ByteArray → Value → Int → Prop
  | num (c : Int) : Chain w [] (.iface 30 (.int .i64 c)) c
  | fail (g : Nat) (s : ByteArray) (l : List ByteArray) (v : Value) (c : Int) (h : w.heap[g]? = some (.cells #[.string s, v] 101 (0, 0))) (hv : Chain w l v c) : Chain w (s :: l) (.iface 99 (.pointer (some ⟨g, 0, none⟩))) c

theorem Chain.mono {w w' : World} (hk : ∀ (g : Nat) (s : ByteArray) (v : Value), w.heap[g]? = some (.cells #[.string s, v] 101 (0, 0)) → w'.heap[g]? = some (.cells #[.string s, v] 101 (0, 0))) {l : List ByteArray} {v : Value} {c : Int} (h : Chain w l v c) : Chain w' l v c := by
  induction h with
  | num c => exact .num c
  | fail g s l v c h _ ih => exact .fail g s l v c (hk _ _ _ h) ih

theorem Chain.keep {w w' : World} (hb : Below w.heap.size w w') {l : List ByteArray} {v : Value} {c : Int} (h : Chain w l v c) : Chain w' l v c :=
  h.mono fun g _ _ hg => (hb.block g (Array.getElem?_eq_some_iff.1 hg).1).trans hg

theorem Chain.iface {w : World} {l : List ByteArray} {v : Value} {c : Int} (h : Chain w l v c) : ∃ t x, v = .iface t x := by
  cases h <;> exact ⟨_, _, rfl⟩

/-- fail.Wrap of what is an error. -/
theorem wrap_some (s : ByteArray) (t : TypeId) (x : Value) (w : World) :
    Calls Tryd.prog 39 #[.string s, .iface t x] w fun e w' => e = .returned (.iface 99 (.pointer (some ⟨w.heap.size, 0, none⟩))) ∧ w.alloc (.cells #[.string s, .iface t x] 101) = w' := by
  go_enter Tryd.func39, Tryd.ntmps39
  go_wp2
  go_ret
  exact ⟨rfl, rfl⟩

theorem wrap_nil (s : ByteArray) (w : World) :
    Calls Tryd.prog 39 #[.string s, .nilIface] w fun e w' => e = .returned .nilIface ∧ w = w' := by
  go_enter Tryd.func39, Tryd.ntmps39
  go_wp2
  go_ret
  exact ⟨rfl, rfl⟩

/-! ### errors.Is -/
theorem isTypeOf (v : Value) (w : World) : (callFunc 36 #[.iface 30 v]).run Tryd.prog w = .ok (.value (.iface 90 (.agg #[.pointer (some ⟨2, 30, none⟩)]))) w := by
  have hT := @run_callFunc_extern Tryd.prog 36 _ Extern.ReflectliteType.typeOf Tryd.func36 (by kernel_rfl) (by kernel_rfl) (by kernel_rfl) (by kernel_rfl)
  have h : (Extern.ReflectliteType.typeOf #[.iface 30 v]).run Tryd.prog w = .ok (.iface 90 (.agg #[.pointer (some ⟨2, 30, none⟩)])) w := by kernel_rfl
  rw [hT, h]
  rfl
theorem isComparable (w : World) : (callFunc 86 #[.agg #[.pointer (some ⟨2, 30, none⟩)]]).run Tryd.prog w = .ok (.value (.bool true)) w := by
  have hT := @run_callFunc_extern Tryd.prog 86 _ (Extern.ReflectliteType.method fun t => do Extern.Rtype.noPackHeld "Comparable" t; pure (.bool (← typeInfo t).comparable)) Tryd.func86 (by kernel_rfl) (by kernel_rfl) (by kernel_rfl) (by kernel_rfl)
  have h : ((Extern.ReflectliteType.method fun t => do Extern.Rtype.noPackHeld "Comparable" t; pure (.bool (← typeInfo t).comparable)) #[.agg #[.pointer (some ⟨2, 30, none⟩)]]).run Tryd.prog w = .ok (.bool true) w := by kernel_rfl
  rw [hT, h]
  rfl
theorem methodComparable (n : Nat) (v : Value) (w : World) : (Go.method (n + 1) 90 v "Comparable").run Tryd.prog w = .ok (86, v) w := by kernel_rfl
theorem methodUnwrap (n : Nat) (v : Value) (w : World) : (Go.method (n + 1) 99 v "Unwrap").run Tryd.prog w = .ok (96, v) w := by kernel_rfl
theorem noIsE (v : Value) (xT : TypeId) (w : World) : (Instr.typeAssert (.iface 30 v) xT 92 true).run Tryd.prog w = .ok (.tuple #[.nilIface, .bool false]) w := run_typeAssert_lacksB Tryd.underlying92 (by kernel_rfl) (by kernel_rfl) v xT w
theorem noUnwrapE (v : Value) (xT : TypeId) (w : World) : (Instr.typeAssert (.iface 30 v) xT 95 true).run Tryd.prog w = .ok (.tuple #[.nilIface, .bool false]) w := run_typeAssert_lacksB Tryd.underlying95 (by kernel_rfl) (by kernel_rfl) v xT w
theorem noUnwrapsE (v : Value) (xT : TypeId) (w : World) : (Instr.typeAssert (.iface 30 v) xT 96 true).run Tryd.prog w = .ok (.tuple #[.nilIface, .bool false]) w := run_typeAssert_lacksB Tryd.underlying96 (by kernel_rfl) (by kernel_rfl) v xT w
theorem noIsF (v : Value) (xT : TypeId) (w : World) : (Instr.typeAssert (.iface 99 v) xT 92 true).run Tryd.prog w = .ok (.tuple #[.nilIface, .bool false]) w := run_typeAssert_lacksB Tryd.underlying92 (by kernel_rfl) (by kernel_rfl) v xT w
theorem hasUnwrapF (v : Value) (xT : TypeId) (w : World) : (Instr.typeAssert (.iface 99 v) xT 95 true).run Tryd.prog w = .ok (.tuple #[.iface 99 v, .bool true]) w := run_typeAssert_hasB Tryd.underlying95 (by kernel_rfl) v xT w

theorem unwrap_calls (g : Nat) (s : ByteArray) (v : Value) (w : World) (h : w.heap[g]? = some (.cells #[.string s, v] 101 (0, 0))) :
    Calls Tryd.prog 96 #[.pointer (some ⟨g, 0, none⟩)] w fun e w' => e = .returned v ∧ w = w' := by
  have c1 : w.cell? ⟨g, 1, none⟩ = some v := by simp [World.cell?, h]
  clear h
  go_enter Tryd.func96, Tryd.ntmps96
  go_wp2
  go_ret
  exact ⟨rfl, rfl⟩

/-- Whether the number in an error is the one asked for. -/
theorem is2_chain (l : List ByteArray) (v : Value) (c d : Int) (w : World) (h : Chain w l v c) :
    Calls Tryd.prog 37 #[v, .iface 30 (.int .i64 d), .bool true] w fun e w' => e = .returned (.bool (c == d)) ∧ w = w' := by
  have hmU := fun v w => methodUnwrap (237 - 1) v w
  simp only [Nat.reduceSub, Nat.reduceAdd] at hmU
  have nE := noIsE
  have uE := noUnwrapE
  have vE := noUnwrapsE
  have nF := noIsF
  have uF := hasUnwrapF
  have H := Lib.hid h
  clear h
  go_enter Tryd.func37, Tryd.ntmps37
  go_wp2
  go_loopg [0] l.length (fun n v0 w' => w = w' ∧ Hid (∃ l, l.length = n ∧ Chain w l v0 c))
  case atStart => exact ⟨rfl, ⟨l, rfl, H.out⟩⟩
  case round =>
    obtain ⟨rfl, hh⟩ := hrel
    obtain ⟨l1, hl1, h1⟩ := hh.out
    clear hh H
    cases h1 with
    | num =>
      have heq := Lib.run_eql_iface_int (P := Tryd.prog) w (k := .i64) c d Tryd.underlying25 (by kernel_rfl) Tryd.underlying30
      clear hl1
      by_cases hcd : (c == d) = true
      · rw [hcd] at heq
        have HC := Lib.hid hcd
        clear hcd
        go_wp2
        go_ret
        exact ⟨by rw [HC.out]; rfl, rfl⟩
      · have hcd' : (c == d) = false := by simpa using hcd
        rw [hcd'] at heq
        have HC := Lib.hid hcd'
        clear hcd hcd'
        go_wp2
        go_ret
        exact ⟨by rw [HC.out]; rfl, rfl⟩
    | fail g s l2 v2 _ hg hv2 =>
      have hty := run_eql_iface_types (P := Tryd.prog) 99 30 (.pointer (some ⟨g, 0, none⟩)) (.int .i64 d) Tryd.underlying25 (by decide) w
      have HV := Lib.hid hv2
      have HL := Lib.hid hl1
      obtain ⟨t2, x2, hx2⟩ := hv2.iface
      clear hv2 hl1
      subst hx2
      have hun := unwrap_calls g s _ w hg
      clear hg
      have HU := Lib.hid hun
      clear hun
      go_wp2_with (go_at_call 96; refine HU.out.mono ?_; rintro e w' ⟨rfl, rfl⟩)
      go_roundg l2.length
      case rel => exact ⟨rfl, ⟨l2, rfl, HV.out⟩⟩
      case measure => have := HL.out; simp at this; omega

theorem is_chain (l : List ByteArray) (v : Value) (c d : Int) (w : World) (h : Chain w l v c) :
    Calls Tryd.prog 12 #[v, .iface 30 (.int .i64 d)] w fun e w' => e = .returned (.bool (c == d)) ∧ w = w' := by
  obtain ⟨t0, x0, hx0⟩ := h.iface
  have hmC := fun v w => methodComparable (237 - 1) v w
  simp only [Nat.reduceSub, Nat.reduceAdd] at hmC
  have tT := isTypeOf
  have cT := isComparable
  have H := Lib.hid h
  clear h
  subst hx0
  go_enter Tryd.func12, Tryd.ntmps12
  go_wp2_with (go_at_call 37; refine (is2_chain l _ c d w H.out).mono ?_; rintro e w' ⟨rfl, rfl⟩)
  go_ret
  exact ⟨rfl, rfl⟩

theorem is_nil (d : Int) (w : World) :
    Calls Tryd.prog 12 #[.nilIface, .iface 30 (.int .i64 d)] w fun e w' => e = .returned (.bool false) ∧ w = w' := by
  have hn := run_eql_iface_nil_left (P := Tryd.prog) w 30 (.int .i64 d) Tryd.underlying25
  go_enter Tryd.func12, Tryd.ntmps12
  go_wp2
  go_ret
  exact ⟨rfl, rfl⟩

end Go.Proofs.YtbeibfhnbnmocaaDoor
