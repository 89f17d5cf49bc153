/- errors: fail.Wrap makes a Fail in a new block; errors.Is along any chain of Fails that ends in a number: whether that is the number asked for. -/
import Derived.Test.YtbeibfhnbnmocaaProg
import Derived.WalkKit
import Derived.KernelRfl
import Derived.LaidEql
import Derived.Stop.Asserts
import Derived.Stop.IfaceNil
import Derived.Lib.IfaceEq
import Derived.Deep.LoopGhost
import Derived.RowKitTokens
import Derived.Lib.Hide
namespace Go.Proofs.Ytbeibfhnbnmocaa
open Go.RowKit Go.Extern.Stop Go.Stop Go.Extern

/-- v is an error in world w: a number c, wrapped by so many Fails, by these calls (the outermost first). -/
inductive Chain (w : World) : List ByteArray → Value → Int → Prop
  | num (c : Int) : Chain w [] (.iface 34 (.int .i64 c)) c
  | fail (g : Nat) (s : ByteArray) (l : List ByteArray) (v : Value) (c : Int) (h : w.heap[g]? = some (.cells #[.string s, v] 79 (0, 0))) (hv : Chain w l v c) : Chain w (s :: l) (.iface 77 (.pointer (some ⟨g, 0, none⟩))) c

theorem Chain.mono {w w' : World} (hk : ∀ (g : Nat) (s : ByteArray) (v : Value), w.heap[g]? = some (.cells #[.string s, v] 79 (0, 0)) → w'.heap[g]? = some (.cells #[.string s, v] 79 (0, 0))) {l : List ByteArray} {v : Value} {c : Int} (h : Chain w l v c) : Chain w' l v c := by
  induction h with
  | num c => exact .num c
  | fail g s l v c h _ ih => exact .fail g s l v c (hk _ _ _ h) ih

theorem Chain.keep {w w' : World} (hb : Below w.heap.size w w') {l : List ByteArray} {v : Value} {c : Int} (h : Chain w l v c) : Chain w' l v c :=
  h.mono fun g _ _ hg => (hb.block g (Array.getElem?_eq_some_iff.1 hg).1).trans hg

theorem Chain.iface {w : World} {l : List ByteArray} {v : Value} {c : Int} (h : Chain w l v c) : ∃ t x, v = .iface t x := by
  cases h <;> exact ⟨_, _, rfl⟩

/-- fail.Wrap of what is an error. -/
theorem wrap_some (s : ByteArray) (t : TypeId) (x : Value) (w : World) :
    Calls Try.prog 32 #[.string s, .iface t x] w fun e w' => e = .returned (.iface 77 (.pointer (some ⟨w.heap.size, 0, none⟩))) ∧ w.alloc (.cells #[.string s, .iface t x] 79) = w' := by
  go_enter Try.func32, Try.ntmps32
  go_wp2
  go_ret
  exact ⟨rfl, rfl⟩

theorem wrap_nil (s : ByteArray) (w : World) :
    Calls Try.prog 32 #[.string s, .nilIface] w fun e w' => e = .returned .nilIface ∧ w = w' := by
  go_enter Try.func32, Try.ntmps32
  go_wp2
  go_ret
  exact ⟨rfl, rfl⟩

/-! ### errors.Is -/
theorem isTypeOf (v : Value) (w : World) : (callFunc 28 #[.iface 34 v]).run Try.prog w = .ok (.value (.iface 68 (.agg #[.pointer (some ⟨1, 34, none⟩)]))) w := by
  have hT := @run_callFunc_extern Try.prog 28 _ Extern.ReflectliteType.typeOf Try.func28 (by kernel_rfl) (by kernel_rfl) (by kernel_rfl) (by kernel_rfl)
  have h : (Extern.ReflectliteType.typeOf #[.iface 34 v]).run Try.prog w = .ok (.iface 68 (.agg #[.pointer (some ⟨1, 34, none⟩)])) w := by kernel_rfl
  rw [hT, h]
  rfl
theorem isComparable (w : World) : (callFunc 66 #[.agg #[.pointer (some ⟨1, 34, none⟩)]]).run Try.prog w = .ok (.value (.bool true)) w := by
  have hT := @run_callFunc_extern Try.prog 66 _ (Extern.ReflectliteType.method fun t => do Extern.Rtype.noPackHeld "Comparable" t; pure (.bool (← typeInfo t).comparable)) Try.func66 (by kernel_rfl) (by kernel_rfl) (by kernel_rfl) (by kernel_rfl)
  have h : ((Extern.ReflectliteType.method fun t => do Extern.Rtype.noPackHeld "Comparable" t; pure (.bool (← typeInfo t).comparable)) #[.agg #[.pointer (some ⟨1, 34, none⟩)]]).run Try.prog w = .ok (.bool true) w := by kernel_rfl
  rw [hT, h]
  rfl
theorem methodComparable (n : Nat) (v : Value) (w : World) : (Go.method (n + 1) 68 v "Comparable").run Try.prog w = .ok (66, v) w := by kernel_rfl
theorem methodUnwrap (n : Nat) (v : Value) (w : World) : (Go.method (n + 1) 77 v "Unwrap").run Try.prog w = .ok (76, v) w := by kernel_rfl
theorem noIsE (v : Value) (xT : TypeId) (w : World) : (Instr.typeAssert (.iface 34 v) xT 70 true).run Try.prog w = .ok (.tuple #[.nilIface, .bool false]) w := run_typeAssert_lacksB Try.underlying70 (by kernel_rfl) (by kernel_rfl) v xT w
theorem noUnwrapE (v : Value) (xT : TypeId) (w : World) : (Instr.typeAssert (.iface 34 v) xT 73 true).run Try.prog w = .ok (.tuple #[.nilIface, .bool false]) w := run_typeAssert_lacksB Try.underlying73 (by kernel_rfl) (by kernel_rfl) v xT w
theorem noUnwrapsE (v : Value) (xT : TypeId) (w : World) : (Instr.typeAssert (.iface 34 v) xT 74 true).run Try.prog w = .ok (.tuple #[.nilIface, .bool false]) w := run_typeAssert_lacksB Try.underlying74 (by kernel_rfl) (by kernel_rfl) v xT w
theorem noIsF (v : Value) (xT : TypeId) (w : World) : (Instr.typeAssert (.iface 77 v) xT 70 true).run Try.prog w = .ok (.tuple #[.nilIface, .bool false]) w := run_typeAssert_lacksB Try.underlying70 (by kernel_rfl) (by kernel_rfl) v xT w
theorem hasUnwrapF (v : Value) (xT : TypeId) (w : World) : (Instr.typeAssert (.iface 77 v) xT 73 true).run Try.prog w = .ok (.tuple #[.iface 77 v, .bool true]) w := run_typeAssert_hasB Try.underlying73 (by kernel_rfl) v xT w

theorem unwrap_calls (g : Nat) (s : ByteArray) (v : Value) (w : World) (h : w.heap[g]? = some (.cells #[.string s, v] 79 (0, 0))) :
    Calls Try.prog 76 #[.pointer (some ⟨g, 0, none⟩)] w fun e w' => e = .returned v ∧ w = w' := by
  have c1 : w.cell? ⟨g, 1, none⟩ = some v := by simp [World.cell?, h]
  clear h
  go_enter Try.func76, Try.ntmps76
  go_wp2
  go_ret
  exact ⟨rfl, rfl⟩

/-- Whether the number in an error is the one asked for. -/
theorem is2_chain (l : List ByteArray) (v : Value) (c d : Int) (w : World) (h : Chain w l v c) :
    Calls Try.prog 29 #[v, .iface 34 (.int .i64 d), .bool true] w fun e w' => e = .returned (.bool (c == d)) ∧ w = w' := by
  have hmU := fun v w => methodUnwrap (214 - 1) v w
  simp only [Nat.reduceSub, Nat.reduceAdd] at hmU
  have nE := noIsE
  have uE := noUnwrapE
  have vE := noUnwrapsE
  have nF := noIsF
  have uF := hasUnwrapF
  have H := Lib.hid h
  clear h
  go_enter Try.func29, Try.ntmps29
  go_wp2
  go_loopg [0] l.length (fun n v0 w' => w = w' ∧ Hid (∃ l, l.length = n ∧ Chain w l v0 c))
  case atStart => exact ⟨rfl, ⟨l, rfl, H.out⟩⟩
  case round =>
    obtain ⟨rfl, hh⟩ := hrel
    obtain ⟨l1, hl1, h1⟩ := hh.out
    clear hh H
    cases h1 with
    | num =>
      have heq := Lib.run_eql_iface_int (P := Try.prog) w (k := .i64) c d Try.underlying25 (by kernel_rfl) Try.underlying34
      clear hl1
      by_cases hcd : (c == d) = true
      · rw [hcd] at heq
        have HC := Lib.hid hcd
        clear hcd
        go_wp2
        go_ret
        exact ⟨by rw [HC.out]; rfl, rfl⟩
      · have hcd' : (c == d) = false := by simpa using hcd
        rw [hcd'] at heq
        have HC := Lib.hid hcd'
        clear hcd hcd'
        go_wp2
        go_ret
        exact ⟨by rw [HC.out]; rfl, rfl⟩
    | fail g s l2 v2 _ hg hv2 =>
      have hty := run_eql_iface_types (P := Try.prog) 77 34 (.pointer (some ⟨g, 0, none⟩)) (.int .i64 d) Try.underlying25 (by decide) w
      have HV := Lib.hid hv2
      have HL := Lib.hid hl1
      obtain ⟨t2, x2, hx2⟩ := hv2.iface
      clear hv2 hl1
      subst hx2
      have hun := unwrap_calls g s _ w hg
      clear hg
      have HU := Lib.hid hun
      clear hun
      go_wp2_with (go_at_call 76; refine HU.out.mono ?_; rintro e w' ⟨rfl, rfl⟩)
      go_roundg l2.length
      case rel => exact ⟨rfl, ⟨l2, rfl, HV.out⟩⟩
      case measure => have := HL.out; simp at this; omega

theorem is_chain (l : List ByteArray) (v : Value) (c d : Int) (w : World) (h : Chain w l v c) :
    Calls Try.prog 11 #[v, .iface 34 (.int .i64 d)] w fun e w' => e = .returned (.bool (c == d)) ∧ w = w' := by
  obtain ⟨t0, x0, hx0⟩ := h.iface
  have hmC := fun v w => methodComparable (214 - 1) v w
  simp only [Nat.reduceSub, Nat.reduceAdd] at hmC
  have tT := isTypeOf
  have cT := isComparable
  have H := Lib.hid h
  clear h
  subst hx0
  go_enter Try.func11, Try.ntmps11
  go_wp2_with (go_at_call 29; refine (is2_chain l _ c d w H.out).mono ?_; rintro e w' ⟨rfl, rfl⟩)
  go_ret
  exact ⟨rfl, rfl⟩

theorem is_nil (d : Int) (w : World) :
    Calls Try.prog 11 #[.nilIface, .iface 34 (.int .i64 d)] w fun e w' => e = .returned (.bool false) ∧ w = w' := by
  have hn := run_eql_iface_nil_left (P := Try.prog) w 34 (.int .i64 d) Try.underlying25
  go_enter Try.func11, Try.ntmps11
  go_wp2
  go_ret
  exact ⟨rfl, rfl⟩

end Go.Proofs.Ytbeibfhnbnmocaa
