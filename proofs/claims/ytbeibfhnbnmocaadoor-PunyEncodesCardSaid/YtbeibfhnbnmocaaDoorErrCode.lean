/- errors.As at a number along a chain, and fail.Code. -/
import Derived.Test.YtbeibfhnbnmocaaDoorErrAs
set_option linter.unusedVariables false
set_option linter.unusedSimpArgs false
namespace Go.Proofs.YtbeibfhnbnmocaaDoor
open Go.RowKit Go.Extern.Stop Go.Stop Go.Extern

theorem Chain.setCell {w : World} {l : List ByteArray} {v : Value} {c : Int} (h : Chain w l v c) {p : Addr} (hp : ∀ (g : Nat) (s : ByteArray) (v : Value), w.heap[g]? = some (.cells #[.string s, v] 101 (0, 0)) → g ≠ p.block) (u : Value) : Chain (w.setCell p u) l v c :=
  h.mono fun g s v hg => (Below.heap_setCell w p u g (hp g s v hg)).trans hg

set_option maxHeartbeats 4000000 in
theorem as2_chain (l : List ByteArray) (v : Value) (c : Int) (t a : Addr) (old : Value) (w : World) (h : Chain w l v c) (ht : w.cell? t = some old) (hf : w.frozen? t = false) (ha : w.cell? a = some (.pointer (some t))) :
    Calls Tryd.prog 48 #[v, .iface 58 (.pointer (some t)), .agg #[.pointer (some ⟨2, 58, none⟩), .pointer (some a), .int .u64 150], .iface 90 (.agg #[.pointer (some ⟨2, 30, none⟩)])] w fun e w' =>
      e = .returned (.bool true) ∧ w'.cell? t = some (.int .i64 c) ∧ Fr w w' (· = t.block) := by
  have h18 := @run_callFunc_extern Tryd.prog 36 _ ReflectliteType.typeOf Tryd.func36 (by kernel_rfl) (by kernel_rfl) (by kernel_rfl) (by kernel_rfl)
  have h35 := @run_callFunc_extern Tryd.prog 85 _ (ReflectliteType.relation "AssignableTo" ReflectliteType.assignableTo) Tryd.func85 (by kernel_rfl) (by kernel_rfl) (by kernel_rfl) (by kernel_rfl)
  have hEl := @run_callFunc_extern Tryd.prog 56 _ (ReflectliteValue.method (ReflectliteValue.valueError "reflectlite.Value.Elem" 0) ReflectliteValue.elem) Tryd.func56 (by kernel_rfl) (by kernel_rfl) (by kernel_rfl) (by kernel_rfl)
  have hVo := @run_callFunc_extern Tryd.prog 45 _ (fun args => ReflectliteValue.unpack (args.getD 0 (.tuple #[]))) Tryd.func45 (by kernel_rfl) (by kernel_rfl) (by kernel_rfl) (by kernel_rfl)
  have hSe := @run_callFunc_extern Tryd.prog 57 _ ReflectliteValue.set Tryd.func57 (by kernel_rfl) (by kernel_rfl) (by kernel_rfl) (by kernel_rfl)
  have tE := ra_typeOfE
  have tF := ra_typeOfF
  have mA := ra_methodAssignableTo
  have aE := ra_assignableE
  have aF := ra_assignableF
  have hmU := fun v w => methodUnwrap (237 - 1) v w
  simp only [Nat.reduceSub, Nat.reduceAdd] at hmU
  have uF := hasUnwrapF
  have nE := noAsE
  have nF := noAsF
  have htl := World.block_lt_of_cell? w _ ht
  have hal := World.block_lt_of_cell? w _ ha
  have H := Lib.hid h
  have HT := Lib.hid ht
  have HF := Lib.hid hf
  have HA := Lib.hid ha
  clear h ht hf ha
  go_enter Tryd.func48, Tryd.ntmps48
  go_wp2
  have hb0 : Blk (w.alloc (.cells #[.pointer (some ⟨2, 58, none⟩), .pointer (some a), .int .u64 150] 80)) w.heap.size 80 #[.pointer (some ⟨2, 58, none⟩), .pointer (some a), .int .u64 150] := Blk.new w _ _
  have hfr : Fr w (w.alloc (.cells #[.pointer (some ⟨2, 58, none⟩), .pointer (some a), .int .u64 150] 80)) (· = t.block) := (Fr.refl w _).alloc _
  have hct := World.cell?_alloc_lt w (.cells #[.pointer (some ⟨2, 58, none⟩), .pointer (some a), .int .u64 150] 80) t htl
  have hca := World.cell?_alloc_lt w (.cells #[.pointer (some ⟨2, 58, none⟩), .pointer (some a), .int .u64 150] 80) a hal
  have hft := World.frozen?_alloc_old w (.cells #[.pointer (some ⟨2, 58, none⟩), .pointer (some a), .int .u64 150] 80) t (Nat.ne_of_lt htl)
  have hch := H.out.keep ((Below.refl w.heap.size w).alloc (Nat.le_refl _) (.cells #[.pointer (some ⟨2, 58, none⟩), .pointer (some a), .int .u64 150] 80))
  have hsz : w.heap.size < (w.alloc (.cells #[.pointer (some ⟨2, 58, none⟩), .pointer (some a), .int .u64 150] 80)).heap.size := by simp
  rw [HT.out] at hct
  rw [HA.out] at hca
  rw [HF.out] at hft
  generalize w.alloc (.cells #[.pointer (some ⟨2, 58, none⟩), .pointer (some a), .int .u64 150] 80) = W at *
  have HCH := Lib.hid hch
  have HFR := Lib.hid hfr
  have y0 := hb0.cell 0
  have y1 := hb0.cell 1
  have y2 := hb0.cell 2
  simp only [List.getElem?_toArray, List.getElem?_cons_zero, List.getElem?_cons_succ] at y0 y1 y2
  have elv := ra_elemVT a t W hca
  have HCT := Lib.hid hct
  have HFT := Lib.hid hft
  clear hch hfr hb0 H HT HF HA hct hft hca
  go_loopg [0] l.length (fun n v0 w' => W = w' ∧ Hid (∃ l', l'.length = n ∧ Chain W l' v0 c))
  case atStart => exact ⟨rfl, ⟨l, rfl, HCH.out⟩⟩
  case round =>
    obtain ⟨rfl, hh⟩ := hrel
    obtain ⟨l1, hl1, h1⟩ := hh.out
    clear hh HCH
    cases h1 with
    | num =>
      clear hl1
      have htW : t.block < W.heap.size := World.block_lt_of_cell? W _ HCT.out
      have vE := ra_valueOfE c W
      have st := ra_setE t ⟨W.heap.size, 0, none⟩ c old (W.alloc (.cells #[.int .i64 c] 30)) (by simp) (by rw [World.cell?_alloc_lt _ _ t htW]; exact HCT.out) (by rw [World.frozen?_alloc_old _ _ t (Nat.ne_of_lt htW)]; exact HFT.out)
      go_wp2
      go_ret
      refine ⟨rfl, ?_, (HFR.out.alloc _).setCell (.inl rfl) _⟩
      exact World.cell?_setCell_same' (W.alloc (.cells #[.int .i64 c] 30)) t (.int .i64 c) (by rw [World.cell?_alloc_lt W _ t htW, HCT.out]; rfl)
    | fail g s l2 v2 _ hg hv2 =>
      have HV := Lib.hid hv2
      have HL := Lib.hid hl1
      obtain ⟨t2, x2, hx2⟩ := hv2.iface
      clear hv2 hl1
      subst hx2
      have hun := unwrap_calls g s _ W hg
      clear hg
      have HU := Lib.hid hun
      clear hun
      go_wp2_with (go_at_call 96; refine HU.out.mono ?_; rintro e w' ⟨rfl, rfl⟩)
      go_roundg l2.length
      case rel => exact ⟨rfl, ⟨l2, rfl, HV.out⟩⟩
      case measure => have := HL.out; simp at this; omega

/-- What the package variable holds that errors.As asks: the type error's handle. -/
def ErrType (w : World) : Prop := w.cell? ⟨0, 0, none⟩ = some (.iface 90 (.agg #[.pointer (some ⟨2, 25, none⟩)]))
theorem ErrType.lt {w : World} (h : ErrType w) : 0 < w.heap.size := World.block_lt_of_cell? w _ h
theorem ErrType.keep {w w' : World} (h : ErrType w) (hb : Below w.heap.size w w') : ErrType w' := (hb.cell (p := ⟨0, 0, none⟩) h.lt).trans h

set_option maxHeartbeats 4000000 in
theorem as_chain (l : List ByteArray) (v : Value) (c : Int) (t : Addr) (old : Value) (w : World) (h : Chain w l v c) (hg : ErrType w) (ht : w.cell? t = some old) (hf : w.frozen? t = false) :
    Calls Tryd.prog 28 #[v, .iface 58 (.pointer (some t))] w fun e w' =>
      e = .returned (.bool true) ∧ w'.cell? t = some (.int .i64 c) ∧ Fr w w' (· = t.block) := by
  have h6 := @run_callFunc_extern Tryd.prog 45 _ (fun args => ReflectliteValue.unpack (args.getD 0 (.tuple #[]))) Tryd.func45 (by kernel_rfl) (by kernel_rfl) (by kernel_rfl) (by kernel_rfl)
  have h7 := @run_callFunc_extern Tryd.prog 46 _ (ReflectliteValue.methodAny (ReflectliteValue.valueError "reflectlite.Value.Type" 0) (fun t _ _ _ => ReflectliteType.toType t)) Tryd.func46 (by kernel_rfl) (by kernel_rfl) (by kernel_rfl) (by kernel_rfl)
  have h8 := @run_callFunc_extern Tryd.prog 47 _ (ReflectliteValue.method (ReflectliteValue.valueError "reflectlite.Value.IsNil" 0) ReflectliteValue.isNil) Tryd.func47 (by kernel_rfl) (by kernel_rfl) (by kernel_rfl) (by kernel_rfl)
  have h27 := @run_callFunc_extern Tryd.prog 76 _ (ReflectliteType.abiMethod fun t => do pure (.int .u8 (← Rtype.kind t))) Tryd.func76 (by kernel_rfl) (by kernel_rfl) (by kernel_rfl) (by kernel_rfl)
  have h37 := @run_callFunc_extern Tryd.prog 87 _ (ReflectliteType.method ReflectliteType.elem) Tryd.func87 (by kernel_rfl) (by kernel_rfl) (by kernel_rfl) (by kernel_rfl)
  have h38 := @run_callFunc_extern Tryd.prog 88 _ (ReflectliteType.relation "Implements" ReflectliteType.implements_) Tryd.func88 (by kernel_rfl) (by kernel_rfl) (by kernel_rfl) (by kernel_rfl)
  have f6 := ra_valueOfT
  have f7 := ra_typeT
  have mK := ra_methodKind
  have mE := ra_methodElem
  have mI := ra_methodImplements
  have kT := ra_kindT
  have kE := ra_kindE
  have eT := ra_elemT
  have iE := ra_implementsE
  have htl := World.block_lt_of_cell? w _ ht
  have hgl := hg.lt
  obtain ⟨t0, x0, hx0⟩ := h.iface
  have H := Lib.hid h
  have HT := Lib.hid ht
  have HF := Lib.hid hf
  have HG := Lib.hid hg
  have n8 := ra_isNilT ⟨w.heap.size, 0, none⟩ t ((w.alloc (.cells #[.pointer (some t)] 58)).alloc (.cells #[.pointer (some ⟨2, 58, none⟩), .pointer (some ⟨w.heap.size, 0, none⟩), .int .u64 150] 80)) (by simp)
  have hg2 : ((w.alloc (.cells #[.pointer (some t)] 58)).alloc (.cells #[.pointer (some ⟨2, 58, none⟩), .pointer (some ⟨w.heap.size, 0, none⟩), .int .u64 150] 80)).cell? ⟨0, 0, none⟩ = some (.iface 90 (.agg #[.pointer (some ⟨2, 25, none⟩)])) :=
    ((hg.keep ((Below.refl _ _).alloc (Nat.le_refl _) _)).keep ((Below.refl _ _).alloc (Nat.le_refl _) _))
  subst hx0
  clear h ht hf hg
  go_enter Tryd.func28, Tryd.ntmps28
  go_wp2_with fail
  have hct := (World.cell?_alloc_lt (w.alloc (.cells #[.pointer (some t)] 58)) (.cells #[.pointer (some ⟨2, 58, none⟩), .pointer (some ⟨w.heap.size, 0, none⟩), .int .u64 150] 80) t (by simp; omega)).trans ((World.cell?_alloc_lt w (.cells #[.pointer (some t)] 58) t htl).trans HT.out)
  have hft := (World.frozen?_alloc_old (w.alloc (.cells #[.pointer (some t)] 58)) (.cells #[.pointer (some ⟨2, 58, none⟩), .pointer (some ⟨w.heap.size, 0, none⟩), .int .u64 150] 80) t (by simp; omega)).trans ((World.frozen?_alloc_old w (.cells #[.pointer (some t)] 58) t (Nat.ne_of_lt htl)).trans HF.out)
  have hch := (H.out.keep ((Below.refl w.heap.size w).alloc (Nat.le_refl _) (.cells #[.pointer (some t)] 58))).keep ((Below.refl _ _).alloc (Nat.le_refl _) (.cells #[.pointer (some ⟨2, 58, none⟩), .pointer (some ⟨w.heap.size, 0, none⟩), .int .u64 150] 80))
  refine (as2_chain l _ c t ⟨w.heap.size, 0, none⟩ old _ hch hct hft (by simp)).mono ?_
  rintro e w2 ⟨rfl, hc2, hfr2⟩
  have HC2 := Lib.hid hc2
  have HFR2 := Lib.hid hfr2
  clear hct hft hch hc2 hfr2
  go_wp2
  go_ret
  exact ⟨rfl, HC2.out, (((Fr.refl w _).alloc _).alloc _).trans HFR2.out (fun i hi => .inl hi)⟩

set_option maxHeartbeats 4000000 in
theorem code_chain (l : List ByteArray) (v : Value) (c : Int) (w : World) (h : Chain w l v c) (hg : ErrType w) :
    Calls Tryd.prog 8 #[v] w fun e w' => e = .returned (.int .i64 c) ∧ Below w.heap.size w w' := by
  obtain ⟨t0, x0, hx0⟩ := h.iface
  have hb := (Below.refl w.heap.size w).alloc (Nat.le_refl _) (.cells #[.int .i64 0] 30)
  have HA := Lib.hid (as_chain l v c ⟨w.heap.size, 0, none⟩ (.int .i64 0) _ (h.keep hb) (hg.keep hb) (by simp) (by simp))
  clear h hg hb
  subst hx0
  go_enter Tryd.func8, Tryd.ntmps8
  go_wp2_with fail
  refine HA.out.mono ?_
  rintro e w2 ⟨rfl, hc2, hfr2⟩
  have HFR := Lib.hid hfr2
  clear hfr2
  go_wp2
  go_ret
  exact ⟨rfl, (((Fr.refl w (fun i => i = w.heap.size)).alloc _).trans HFR.out (fun i hi => .inl hi)).below (Nat.le_refl _) (fun i hi => by omega)⟩
theorem code_nil (w : World) :
    Calls Tryd.prog 8 #[.nilIface] w fun e w' => e = .returned (.int .i64 0) ∧ Below w.heap.size w w' := by
  go_enter Tryd.func8, Tryd.ntmps8
  go_wp2
  go_ret
  exact ⟨rfl, (Below.refl _ _).alloc (Nat.le_refl _) _⟩
end Go.Proofs.YtbeibfhnbnmocaaDoor
