/- errors.As at a *Fail: the outermost Fail is found; of a number there is none. -/
import Derived.Test.YtnipglclecafiaaDoorErrCode
set_option linter.unusedVariables false
set_option linter.unusedSimpArgs false
namespace Go.Proofs.YtnipglclecafiaaDoor
open Go.RowKit Go.Extern.Stop Go.Stop Go.Extern

theorem rf_valueOfT (t : Addr) (w : World) : (ReflectliteValue.unpack (.iface 42 (.pointer (some t)))).run Tryd.prog w
    = .ok (.agg #[.pointer (some ⟨1, 42, none⟩), .pointer (some ⟨w.heap.size, 0, none⟩), .int .u64 150]) (w.alloc (.cells #[.pointer (some t)] 42)) := by kernel_rfl

theorem rf_typeT (a : Addr) (w : World) : (ReflectliteValue.methodAny (ReflectliteValue.valueError "reflectlite.Value.Type" 0) (fun t _ _ _ => ReflectliteType.toType t) #[.agg #[.pointer (some ⟨1, 42, none⟩), .pointer (some a), .int .u64 150]]).run Tryd.prog w
    = .ok (.iface 70 (.agg #[.pointer (some ⟨1, 42, none⟩)])) w := by kernel_rfl

theorem rf_kindT (w : World) : ((ReflectliteType.abiMethod fun t => (fun a : Nat => Value.int IntKind.u8 (a : Int)) <$> Rtype.kind t) #[.pointer (some ⟨1, 42, none⟩)]).run Tryd.prog w = .ok (.int .u8 22) w := by kernel_rfl

theorem rf_partsT (a : Addr) (w : World) : (ReflectliteValue.parts (.agg #[.pointer (some ⟨1, 42, none⟩), .pointer (some a), .int .u64 150])).run Tryd.prog w = .ok (some (42, a, 150)) w := by kernel_rfl

theorem rf_isNilT (a p : Addr) (W : World) (ha : W.cell? a = some (.pointer (some p))) :
    (ReflectliteValue.method (ReflectliteValue.valueError "reflectlite.Value.IsNil" 0) ReflectliteValue.isNil #[.agg #[.pointer (some ⟨1, 42, none⟩), .pointer (some a), .int .u64 150]]).run Tryd.prog W = .ok (.bool false) W := by
  rw [rlm]
  simp only [Sem.run_bind, rf_partsT, Result.andThen]
  simp [ReflectliteValue.isNil, loadVar, isAgg, underlying, Tryd.underlying42, ha, Result.andThen]

theorem rf_elemT (w : World) : (ReflectliteType.method ReflectliteType.elem #[.agg #[.pointer (some ⟨1, 42, none⟩)]]).run Tryd.prog w = .ok (.iface 70 (.agg #[.pointer (some ⟨1, 40, none⟩)])) w := by kernel_rfl

theorem rf_mkE (p : Addr) (w : World) : (ReflectliteValue.mk 40 p ReflectliteValue.flagAddr).run Tryd.prog w = .ok (.agg #[.pointer (some ⟨1, 40, none⟩), .pointer (some p), .int .u64 406]) w := by kernel_rfl

theorem rf_elemOfT (w : World) : (Rtype.elem? 42).run Tryd.prog w = .ok (some 40) w := by kernel_rfl

theorem rf_elemVT (a p : Addr) (W : World) (ha : W.cell? a = some (.pointer (some p))) :
    (ReflectliteValue.method (ReflectliteValue.valueError "reflectlite.Value.Elem" 0) ReflectliteValue.elem #[.agg #[.pointer (some ⟨1, 42, none⟩), .pointer (some a), .int .u64 150]]).run Tryd.prog W
      = .ok (.agg #[.pointer (some ⟨1, 40, none⟩), .pointer (some p), .int .u64 406]) W := by
  rw [rlm]
  simp only [Sem.run_bind, rf_partsT, Result.andThen]
  simp [ReflectliteValue.elem, loadVar, isAgg, underlying, Tryd.underlying42, ha, Result.andThen, rf_elemOfT, rf_mkE]

theorem rf_partsEa (a : Addr) (w : World) : (ReflectliteValue.parts (.agg #[.pointer (some ⟨1, 40, none⟩), .pointer (some a), .int .u64 406])).run Tryd.prog w = .ok (some (40, a, 406)) w := by kernel_rfl

theorem rf_partsE (a : Addr) (w : World) : (ReflectliteValue.parts (.agg #[.pointer (some ⟨1, 40, none⟩), .pointer (some a), .int .u64 150])).run Tryd.prog w = .ok (some (40, a, 150)) w := by kernel_rfl

theorem rf_directE (w : World) : (Rtype.directlyAssignable 40 40).run Tryd.prog w = .ok true w := by kernel_rfl

theorem rf_setE (ta b : Addr) (q : Option Addr) (old : Value) (W : World) (hb : W.cell? b = some (.pointer q)) (ht : W.cell? ta = some old) (hf : W.frozen? ta = false) :
    (ReflectliteValue.set #[.agg #[.pointer (some ⟨1, 40, none⟩), .pointer (some ta), .int .u64 406], .agg #[.pointer (some ⟨1, 40, none⟩), .pointer (some b), .int .u64 150]]).run Tryd.prog W
      = .ok (.tuple #[]) (W.setCell ta (.pointer q)) := by
  rw [rls]
  simp only [Sem.run_bind, rf_partsEa, rf_partsE, Result.andThen]
  simp [ReflectliteValue.flagAddr, loadVar, isAgg, underlying, Tryd.underlying40, hb, Result.andThen, rf_directE, storeVar, Value.cells, storeCells, Addr.add]
  rw [run_store Tryd.prog W ta _ _ (by rfl)]
  simp [ht, hf]

theorem rf_implementsE (w : World) : (ReflectliteType.relation "Implements" ReflectliteType.implements_ #[.agg #[.pointer (some ⟨1, 40, none⟩)], .iface 70 (.agg #[.pointer (some ⟨1, 28, none⟩)])]).run Tryd.prog w = .ok (.bool true) w := by kernel_rfl

theorem rf_kindE (w : World) : ((ReflectliteType.abiMethod fun t => (fun a : Nat => Value.int IntKind.u8 (a : Int)) <$> Rtype.kind t) #[.pointer (some ⟨1, 40, none⟩)]).run Tryd.prog w = .ok (.int .u8 22) w := by kernel_rfl

theorem rf_valueOfE (q : Addr) (w : World) : (ReflectliteValue.unpack (.iface 40 (.pointer (some q)))).run Tryd.prog w
    = .ok (.agg #[.pointer (some ⟨1, 40, none⟩), .pointer (some ⟨w.heap.size, 0, none⟩), .int .u64 150]) (w.alloc (.cells #[.pointer (some q)] 40)) := by kernel_rfl
theorem rf_assignableF (w : World) : (ReflectliteType.relation "AssignableTo" ReflectliteType.assignableTo #[.agg #[.pointer (some ⟨1, 40, none⟩)], .iface 70 (.agg #[.pointer (some ⟨1, 40, none⟩)])]).run Tryd.prog w = .ok (.bool true) w := by kernel_rfl
theorem rf_assignableN (w : World) : (ReflectliteType.relation "AssignableTo" ReflectliteType.assignableTo #[.agg #[.pointer (some ⟨1, 25, none⟩)], .iface 70 (.agg #[.pointer (some ⟨1, 40, none⟩)])]).run Tryd.prog w = .ok (.bool false) w := by kernel_rfl
set_option maxHeartbeats 4000000 in
theorem as2_F (q : Addr) (t a : Addr) (old : Value) (w : World) (ht : w.cell? t = some old) (hf : w.frozen? t = false) (ha : w.cell? a = some (.pointer (some t))) :
    Calls Tryd.prog 29 #[.iface 40 (.pointer (some q)), .iface 42 (.pointer (some t)), .agg #[.pointer (some ⟨1, 42, none⟩), .pointer (some a), .int .u64 150], .iface 70 (.agg #[.pointer (some ⟨1, 40, none⟩)])] w fun e w' =>
      e = .returned (.bool true) ∧ ∃ wm, Below w.heap.size w wm ∧ w' = wm.setCell t (.pointer (some q)) := by
  have h18 := @run_callFunc_extern Tryd.prog 24 _ ReflectliteType.typeOf Tryd.func24 (by kernel_rfl) (by kernel_rfl) (by kernel_rfl) (by kernel_rfl)
  have h35 := @run_callFunc_extern Tryd.prog 54 _ (ReflectliteType.relation "AssignableTo" ReflectliteType.assignableTo) Tryd.func54 (by kernel_rfl) (by kernel_rfl) (by kernel_rfl) (by kernel_rfl)
  have hEl := @run_callFunc_extern Tryd.prog 31 _ (ReflectliteValue.method (ReflectliteValue.valueError "reflectlite.Value.Elem" 0) ReflectliteValue.elem) Tryd.func31 (by kernel_rfl) (by kernel_rfl) (by kernel_rfl) (by kernel_rfl)
  have hVo := @run_callFunc_extern Tryd.prog 26 _ (fun args => ReflectliteValue.unpack (args.getD 0 (.tuple #[]))) Tryd.func26 (by kernel_rfl) (by kernel_rfl) (by kernel_rfl) (by kernel_rfl)
  have hSe := @run_callFunc_extern Tryd.prog 32 _ ReflectliteValue.set Tryd.func32 (by kernel_rfl) (by kernel_rfl) (by kernel_rfl) (by kernel_rfl)
  have tF := ra_typeOfF
  have mA := ra_methodAssignableTo
  have aF := rf_assignableF
  have hmU := fun v w => methodUnwrap (213 - 1) v w
  simp only [Nat.reduceSub, Nat.reduceAdd] at hmU
  have uF := hasUnwrapF
  have nF := noAsF
  have htl := World.block_lt_of_cell? w _ ht
  have hal := World.block_lt_of_cell? w _ ha
  have HT := Lib.hid ht
  have HF := Lib.hid hf
  have HA := Lib.hid ha
  clear ht hf ha
  go_enter Tryd.func29, Tryd.ntmps29
  go_wp2
  have hb0 : Blk (w.alloc (.cells #[.pointer (some ⟨1, 42, none⟩), .pointer (some a), .int .u64 150] 61)) w.heap.size 61 #[.pointer (some ⟨1, 42, none⟩), .pointer (some a), .int .u64 150] := Blk.new w _ _
  have hbe := (Below.refl w.heap.size w).alloc (Nat.le_refl _) (.cells #[.pointer (some ⟨1, 42, none⟩), .pointer (some a), .int .u64 150] 61)
  have hfr : Fr w (w.alloc (.cells #[.pointer (some ⟨1, 42, none⟩), .pointer (some a), .int .u64 150] 61)) (· = t.block) := (Fr.refl w _).alloc _
  have hct := World.cell?_alloc_lt w (.cells #[.pointer (some ⟨1, 42, none⟩), .pointer (some a), .int .u64 150] 61) t htl
  have hca := World.cell?_alloc_lt w (.cells #[.pointer (some ⟨1, 42, none⟩), .pointer (some a), .int .u64 150] 61) a hal
  have hft := World.frozen?_alloc_old w (.cells #[.pointer (some ⟨1, 42, none⟩), .pointer (some a), .int .u64 150] 61) t (Nat.ne_of_lt htl)
  have hsz : w.heap.size < (w.alloc (.cells #[.pointer (some ⟨1, 42, none⟩), .pointer (some a), .int .u64 150] 61)).heap.size := by simp
  rw [HT.out] at hct
  rw [HA.out] at hca
  rw [HF.out] at hft
  generalize w.alloc (.cells #[.pointer (some ⟨1, 42, none⟩), .pointer (some a), .int .u64 150] 61) = W at *
  have HFR := Lib.hid hfr
  have HBE := Lib.hid hbe
  have y0 := hb0.cell 0
  have y1 := hb0.cell 1
  have y2 := hb0.cell 2
  simp only [List.getElem?_toArray, List.getElem?_cons_zero, List.getElem?_cons_succ] at y0 y1 y2
  have elv := rf_elemVT a t W hca
  have HCT := Lib.hid hct
  have HFT := Lib.hid hft
  clear hfr hbe hb0 HT HF HA hct hft hca
  go_loopg [0] 0 (fun n v0 w' => W = w' ∧ v0 = .iface 40 (.pointer (some q)))
  case atStart => exact ⟨rfl, rfl⟩
  case round =>
    obtain ⟨rfl, rfl⟩ := hrel
    have htW : t.block < W.heap.size := World.block_lt_of_cell? W _ HCT.out
    have vE := rf_valueOfE q W
    have st := rf_setE t ⟨W.heap.size, 0, none⟩ (some q) old (W.alloc (.cells #[.pointer (some q)] 40)) (by simp) (by rw [World.cell?_alloc_lt _ _ t htW]; exact HCT.out) (by rw [World.frozen?_alloc_old _ _ t (Nat.ne_of_lt htW)]; exact HFT.out)
    go_wp2
    go_ret
    exact ⟨rfl, _, HBE.out.alloc HBE.out.size _, rfl⟩

set_option maxHeartbeats 4000000 in
theorem as2_N (c : Int) (t a : Addr) (old : Value) (w : World) (ht : w.cell? t = some old) (hf : w.frozen? t = false) (ha : w.cell? a = some (.pointer (some t))) :
    Calls Tryd.prog 29 #[.iface 25 (.int .i64 c), .iface 42 (.pointer (some t)), .agg #[.pointer (some ⟨1, 42, none⟩), .pointer (some a), .int .u64 150], .iface 70 (.agg #[.pointer (some ⟨1, 40, none⟩)])] w fun e w' =>
      e = .returned (.bool false) ∧ Below w.heap.size w w' := by
  have h18 := @run_callFunc_extern Tryd.prog 24 _ ReflectliteType.typeOf Tryd.func24 (by kernel_rfl) (by kernel_rfl) (by kernel_rfl) (by kernel_rfl)
  have h35 := @run_callFunc_extern Tryd.prog 54 _ (ReflectliteType.relation "AssignableTo" ReflectliteType.assignableTo) Tryd.func54 (by kernel_rfl) (by kernel_rfl) (by kernel_rfl) (by kernel_rfl)
  have hEl := @run_callFunc_extern Tryd.prog 31 _ (ReflectliteValue.method (ReflectliteValue.valueError "reflectlite.Value.Elem" 0) ReflectliteValue.elem) Tryd.func31 (by kernel_rfl) (by kernel_rfl) (by kernel_rfl) (by kernel_rfl)
  have hVo := @run_callFunc_extern Tryd.prog 26 _ (fun args => ReflectliteValue.unpack (args.getD 0 (.tuple #[]))) Tryd.func26 (by kernel_rfl) (by kernel_rfl) (by kernel_rfl) (by kernel_rfl)
  have hSe := @run_callFunc_extern Tryd.prog 32 _ ReflectliteValue.set Tryd.func32 (by kernel_rfl) (by kernel_rfl) (by kernel_rfl) (by kernel_rfl)
  have tF := ra_typeOfF
  have mA := ra_methodAssignableTo
  have aN := rf_assignableN
  have tE := ra_typeOfE
  have nE := noAsE
  have uE := noUnwrapE
  have uEs := noUnwrapsE
  have hmU := fun v w => methodUnwrap (213 - 1) v w
  simp only [Nat.reduceSub, Nat.reduceAdd] at hmU
  have uF := hasUnwrapF
  have nF := noAsF
  have htl := World.block_lt_of_cell? w _ ht
  have hal := World.block_lt_of_cell? w _ ha
  have HT := Lib.hid ht
  have HF := Lib.hid hf
  have HA := Lib.hid ha
  clear ht hf ha
  go_enter Tryd.func29, Tryd.ntmps29
  go_wp2
  have hb0 : Blk (w.alloc (.cells #[.pointer (some ⟨1, 42, none⟩), .pointer (some a), .int .u64 150] 61)) w.heap.size 61 #[.pointer (some ⟨1, 42, none⟩), .pointer (some a), .int .u64 150] := Blk.new w _ _
  have hbe := (Below.refl w.heap.size w).alloc (Nat.le_refl _) (.cells #[.pointer (some ⟨1, 42, none⟩), .pointer (some a), .int .u64 150] 61)
  have hfr : Fr w (w.alloc (.cells #[.pointer (some ⟨1, 42, none⟩), .pointer (some a), .int .u64 150] 61)) (· = t.block) := (Fr.refl w _).alloc _
  have hct := World.cell?_alloc_lt w (.cells #[.pointer (some ⟨1, 42, none⟩), .pointer (some a), .int .u64 150] 61) t htl
  have hca := World.cell?_alloc_lt w (.cells #[.pointer (some ⟨1, 42, none⟩), .pointer (some a), .int .u64 150] 61) a hal
  have hft := World.frozen?_alloc_old w (.cells #[.pointer (some ⟨1, 42, none⟩), .pointer (some a), .int .u64 150] 61) t (Nat.ne_of_lt htl)
  have hsz : w.heap.size < (w.alloc (.cells #[.pointer (some ⟨1, 42, none⟩), .pointer (some a), .int .u64 150] 61)).heap.size := by simp
  rw [HT.out] at hct
  rw [HA.out] at hca
  rw [HF.out] at hft
  generalize w.alloc (.cells #[.pointer (some ⟨1, 42, none⟩), .pointer (some a), .int .u64 150] 61) = W at *
  have HFR := Lib.hid hfr
  have HBE := Lib.hid hbe
  have y0 := hb0.cell 0
  have y1 := hb0.cell 1
  have y2 := hb0.cell 2
  simp only [List.getElem?_toArray, List.getElem?_cons_zero, List.getElem?_cons_succ] at y0 y1 y2
  have elv := rf_elemVT a t W hca
  have HCT := Lib.hid hct
  have HFT := Lib.hid hft
  clear hfr hbe hb0 HT HF HA hct hft hca
  go_loopg [0] 0 (fun n v0 w' => W = w' ∧ v0 = .iface 25 (.int .i64 c))
  case atStart => exact ⟨rfl, rfl⟩
  case round =>
    obtain ⟨rfl, rfl⟩ := hrel
    go_wp2
    go_ret
    exact ⟨rfl, HBE.out⟩

set_option maxHeartbeats 4000000 in
theorem as_F (q : Addr) (t : Addr) (old : Value) (w : World) (hg : ErrType w) (ht : w.cell? t = some old) (hf : w.frozen? t = false) :
    Calls Tryd.prog 20 #[.iface 40 (.pointer (some q)), .iface 42 (.pointer (some t))] w fun e w' =>
      e = .returned (.bool true) ∧ ∃ wm, Below w.heap.size w wm ∧ w' = wm.setCell t (.pointer (some q)) := by
  have h6 := @run_callFunc_extern Tryd.prog 26 _ (fun args => ReflectliteValue.unpack (args.getD 0 (.tuple #[]))) Tryd.func26 (by kernel_rfl) (by kernel_rfl) (by kernel_rfl) (by kernel_rfl)
  have h7 := @run_callFunc_extern Tryd.prog 27 _ (ReflectliteValue.methodAny (ReflectliteValue.valueError "reflectlite.Value.Type" 0) (fun t _ _ _ => ReflectliteType.toType t)) Tryd.func27 (by kernel_rfl) (by kernel_rfl) (by kernel_rfl) (by kernel_rfl)
  have h8 := @run_callFunc_extern Tryd.prog 28 _ (ReflectliteValue.method (ReflectliteValue.valueError "reflectlite.Value.IsNil" 0) ReflectliteValue.isNil) Tryd.func28 (by kernel_rfl) (by kernel_rfl) (by kernel_rfl) (by kernel_rfl)
  have h27 := @run_callFunc_extern Tryd.prog 47 _ (ReflectliteType.abiMethod fun t => do pure (.int .u8 (← Rtype.kind t))) Tryd.func47 (by kernel_rfl) (by kernel_rfl) (by kernel_rfl) (by kernel_rfl)
  have h37 := @run_callFunc_extern Tryd.prog 56 _ (ReflectliteType.method ReflectliteType.elem) Tryd.func56 (by kernel_rfl) (by kernel_rfl) (by kernel_rfl) (by kernel_rfl)
  have h38 := @run_callFunc_extern Tryd.prog 57 _ (ReflectliteType.relation "Implements" ReflectliteType.implements_) Tryd.func57 (by kernel_rfl) (by kernel_rfl) (by kernel_rfl) (by kernel_rfl)
  have f6 := rf_valueOfT
  have f7 := rf_typeT
  have mK := ra_methodKind
  have mE := ra_methodElem
  have mI := ra_methodImplements
  have kT := rf_kindT
  have kE := rf_kindE
  have eT := rf_elemT
  have iE := rf_implementsE
  have htl := World.block_lt_of_cell? w _ ht
  have hgl := hg.lt
  have HT := Lib.hid ht
  have HF := Lib.hid hf
  have HG := Lib.hid hg
  have n8 := rf_isNilT ⟨w.heap.size, 0, none⟩ t ((w.alloc (.cells #[.pointer (some t)] 42)).alloc (.cells #[.pointer (some ⟨1, 42, none⟩), .pointer (some ⟨w.heap.size, 0, none⟩), .int .u64 150] 61)) (by simp)
  have hg2 : ((w.alloc (.cells #[.pointer (some t)] 42)).alloc (.cells #[.pointer (some ⟨1, 42, none⟩), .pointer (some ⟨w.heap.size, 0, none⟩), .int .u64 150] 61)).cell? ⟨0, 0, none⟩ = some (.iface 70 (.agg #[.pointer (some ⟨1, 28, none⟩)])) :=
    ((hg.keep ((Below.refl _ _).alloc (Nat.le_refl _) _)).keep ((Below.refl _ _).alloc (Nat.le_refl _) _))
  clear ht hf hg
  go_enter Tryd.func20, Tryd.ntmps20
  go_wp2_with fail
  have hct := (World.cell?_alloc_lt (w.alloc (.cells #[.pointer (some t)] 42)) (.cells #[.pointer (some ⟨1, 42, none⟩), .pointer (some ⟨w.heap.size, 0, none⟩), .int .u64 150] 61) t (by simp; omega)).trans ((World.cell?_alloc_lt w (.cells #[.pointer (some t)] 42) t htl).trans HT.out)
  have hft := (World.frozen?_alloc_old (w.alloc (.cells #[.pointer (some t)] 42)) (.cells #[.pointer (some ⟨1, 42, none⟩), .pointer (some ⟨w.heap.size, 0, none⟩), .int .u64 150] 61) t (by simp; omega)).trans ((World.frozen?_alloc_old w (.cells #[.pointer (some t)] 42) t (Nat.ne_of_lt htl)).trans HF.out)
  refine (as2_F q t ⟨w.heap.size, 0, none⟩ old _ hct hft (by simp)).mono ?_
  rintro e w2 ⟨rfl, wm, hbm, rfl⟩
  have HBM := Lib.hid hbm
  clear hct hft hbm
  go_wp2
  go_ret
  exact ⟨rfl, wm, belowOn (((Below.refl w.heap.size w).alloc (Nat.le_refl _) _).alloc (by simp) _) (by simp; omega) HBM.out, rfl⟩

set_option maxHeartbeats 4000000 in
theorem as_N (c : Int) (t : Addr) (old : Value) (w : World) (hg : ErrType w) (ht : w.cell? t = some old) (hf : w.frozen? t = false) :
    Calls Tryd.prog 20 #[.iface 25 (.int .i64 c), .iface 42 (.pointer (some t))] w fun e w' =>
      e = .returned (.bool false) ∧ Below w.heap.size w w' := by
  have h6 := @run_callFunc_extern Tryd.prog 26 _ (fun args => ReflectliteValue.unpack (args.getD 0 (.tuple #[]))) Tryd.func26 (by kernel_rfl) (by kernel_rfl) (by kernel_rfl) (by kernel_rfl)
  have h7 := @run_callFunc_extern Tryd.prog 27 _ (ReflectliteValue.methodAny (ReflectliteValue.valueError "reflectlite.Value.Type" 0) (fun t _ _ _ => ReflectliteType.toType t)) Tryd.func27 (by kernel_rfl) (by kernel_rfl) (by kernel_rfl) (by kernel_rfl)
  have h8 := @run_callFunc_extern Tryd.prog 28 _ (ReflectliteValue.method (ReflectliteValue.valueError "reflectlite.Value.IsNil" 0) ReflectliteValue.isNil) Tryd.func28 (by kernel_rfl) (by kernel_rfl) (by kernel_rfl) (by kernel_rfl)
  have h27 := @run_callFunc_extern Tryd.prog 47 _ (ReflectliteType.abiMethod fun t => do pure (.int .u8 (← Rtype.kind t))) Tryd.func47 (by kernel_rfl) (by kernel_rfl) (by kernel_rfl) (by kernel_rfl)
  have h37 := @run_callFunc_extern Tryd.prog 56 _ (ReflectliteType.method ReflectliteType.elem) Tryd.func56 (by kernel_rfl) (by kernel_rfl) (by kernel_rfl) (by kernel_rfl)
  have h38 := @run_callFunc_extern Tryd.prog 57 _ (ReflectliteType.relation "Implements" ReflectliteType.implements_) Tryd.func57 (by kernel_rfl) (by kernel_rfl) (by kernel_rfl) (by kernel_rfl)
  have f6 := rf_valueOfT
  have f7 := rf_typeT
  have mK := ra_methodKind
  have mE := ra_methodElem
  have mI := ra_methodImplements
  have kT := rf_kindT
  have kE := rf_kindE
  have eT := rf_elemT
  have iE := rf_implementsE
  have htl := World.block_lt_of_cell? w _ ht
  have hgl := hg.lt
  have HT := Lib.hid ht
  have HF := Lib.hid hf
  have HG := Lib.hid hg
  have n8 := rf_isNilT ⟨w.heap.size, 0, none⟩ t ((w.alloc (.cells #[.pointer (some t)] 42)).alloc (.cells #[.pointer (some ⟨1, 42, none⟩), .pointer (some ⟨w.heap.size, 0, none⟩), .int .u64 150] 61)) (by simp)
  have hg2 : ((w.alloc (.cells #[.pointer (some t)] 42)).alloc (.cells #[.pointer (some ⟨1, 42, none⟩), .pointer (some ⟨w.heap.size, 0, none⟩), .int .u64 150] 61)).cell? ⟨0, 0, none⟩ = some (.iface 70 (.agg #[.pointer (some ⟨1, 28, none⟩)])) :=
    ((hg.keep ((Below.refl _ _).alloc (Nat.le_refl _) _)).keep ((Below.refl _ _).alloc (Nat.le_refl _) _))
  clear ht hf hg
  go_enter Tryd.func20, Tryd.ntmps20
  go_wp2_with fail
  have hct := (World.cell?_alloc_lt (w.alloc (.cells #[.pointer (some t)] 42)) (.cells #[.pointer (some ⟨1, 42, none⟩), .pointer (some ⟨w.heap.size, 0, none⟩), .int .u64 150] 61) t (by simp; omega)).trans ((World.cell?_alloc_lt w (.cells #[.pointer (some t)] 42) t htl).trans HT.out)
  have hft := (World.frozen?_alloc_old (w.alloc (.cells #[.pointer (some t)] 42)) (.cells #[.pointer (some ⟨1, 42, none⟩), .pointer (some ⟨w.heap.size, 0, none⟩), .int .u64 150] 61) t (by simp; omega)).trans ((World.frozen?_alloc_old w (.cells #[.pointer (some t)] 42) t (Nat.ne_of_lt htl)).trans HF.out)
  refine (as2_N c t ⟨w.heap.size, 0, none⟩ old _ hct hft (by simp)).mono ?_
  rintro e w2 ⟨rfl, hfr2⟩
  have HFR2 := Lib.hid hfr2
  clear hct hft hfr2
  go_wp2
  go_ret
  exact ⟨rfl, belowOn (((Below.refl w.heap.size w).alloc (Nat.le_refl _) _).alloc (by simp) _) (by simp; omega) HFR2.out⟩

end Go.Proofs.YtnipglclecafiaaDoor
