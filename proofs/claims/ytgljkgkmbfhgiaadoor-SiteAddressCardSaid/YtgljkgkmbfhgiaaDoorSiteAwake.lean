/- A name: what each law of sites begins with. What the laws of sites begin with. -/
import Derived.Test.YtgljkgkmbfhgiaaDoorSiteSame
import Derived.Test.YtgljkgkmbfhgiaaDoorPSitex2
set_option linter.unusedVariables false
set_option linter.unusedSimpArgs false
set_option maxRecDepth 100000
namespace Go.Proofs.YtgljkgkmbfhgiaaDoor
open Go.RowKit Four Six Rec

theorem rowAt_blkS {α : Type} {f : α → List Value} {sz : Nat} (hf : ∀ x, (f x).length = sz) {w : World} {g : Nat} {t : TypeId} {cs : Array Value} {l : List α} (h : Blk w g t cs) (hc : cs.toList = l.flatMap f) : RowAt f sz w (some ⟨g, 0, none⟩) l := by
  intro i x hx
  refine ⟨g, 0, rfl, fun j u hu => ?_⟩
  have hj : j < sz := by rw [← hf x]; exact (List.getElem?_eq_some_iff.1 hu).1
  rw [h.cell, Nat.zero_add, ← Array.getElem?_toList, hc, flat_get hf l i j x hx hj]
  exact hu
theorem results_cell_rowS {P : Program} {fn : Func} {p : Tmp} {ty : TypeId} (h : fn.results = #[.cell p ty]) (tmps : Array Value) (w : World) (g : Nat) (t : TypeId) (cs : Array Value) (fr : Nat × Nat) (d : TypeDesc)
    (hp : tmps.getD p undef = .pointer (some ⟨g, 0, none⟩)) (hg : w.heap[g]? = some (.cells cs t fr))
    (hu : P.underlying ty = some d) (hd : (match d with | .struct _ | .array _ _ => true | _ => false) = true) (hi : (P.info? ty).map (·.size) = some cs.size) :
    (results fn tmps).run P w = .ok (.agg cs) w := by
  have hp' : tmps[p]?.getD undef = .pointer (some ⟨g, 0, none⟩) := by simpa using hp
  simp [results, h, hp', asAddr, run_loadVar_row w g t ty cs fr d hg hu hd hi]
/-- A walk halted at the load of an origin. -/
theorem stopG {P : Program} {ops : Array Oper} {rest : List Oper} {a : Act} {w : World} {Q : Exit → Act → World → Prop} {x : Operand} {a0 : Option Nat} {a2 : TypeId} {a3 : String} {a4 : Array Edge} {a5 : Option (Nat × Bool)} (h : StopS (wpList P ops Q (⟨a0, .load 49 x, a2, a3, a4, a5⟩ :: rest) a w)) : wpList P ops Q (⟨a0, .load 49 x, a2, a3, a4, a5⟩ :: rest) a w := h
theorem load_org {ops : Array Oper} {rest : List Oper} {op : Oper} {a : Act} {w : World} {Q : Exit → Act → World → Prop} {b : Nat} {cs : Array Value} (h : Blk w b 49 cs) (hc : cs.size = 14) (x : Operand) (ho : op.op = .load 49 x) (hx : a.eval x = .pointer (some ⟨b, 0, none⟩))
    (hw : Region.wanted op (yielded ops a.tmps) = true) (hK : wpList Tryd.prog ops Q rest (a.put op.dst (.agg cs)) w) : wpList Tryd.prog ops Q (op :: rest) a w :=
  wpList_step fun K hK' => by
    rw [if_pos hw]
    exact wp_load_mid 49 x ho b 0 hx cs.toList _ (fun j v hv => by rw [Nat.zero_add, h.cell]; simpa using hv) Tryd.underlying49 rfl (by rw [info_org]; simp [hc]) (hK' _ _ (by simpa using hK))
/-- A host of a name. -/
def nm (s : ByteArray) : HostV := ⟨2, s, 0, 0, 0, 0, 0, 0, 0, 0, 0⟩
theorem nm_ok (s : ByteArray) : (nm s).ok := ⟨show (-9223372036854775808 : Int) ≤ 2 by decide, show (2 : Int) ≤ 9223372036854775807 by decide, show 0 < 4294967296 by decide, by intro n hn; simp [HostV.v6, nm] at hn; omega⟩
theorem nmc (s : ByteArray) : (nm s).cells.toArray = #[.int .i64 2, .string s, .int .u32 0, .int .u16 0, .int .u16 0, .int .u16 0, .int .u16 0, .int .u16 0, .int .u16 0, .int .u16 0, .int .u16 0] := rfl
set_option maxHeartbeats 1000000 in
theorem named_calls (s : ByteArray) (w : World) : Calls Tryd.prog 33 #[.string s] w fun e w' => e = .returned (.agg #[.int .i64 2, .string s, .int .u32 0, .int .u16 0, .int .u16 0, .int .u16 0, .int .u16 0, .int .u16 0, .int .u16 0, .int .u16 0, .int .u16 0]) ∧ Below w.heap.size w w' := by
  go_enter Tryd.func33, Tryd.ntmps33
  go_wp2_with fail
  refine bodyPost_ret (results_cell_rowS (p := 2) (ty := 26) rfl _ _ w.heap.size 26 _ (0, 0) _ rfl (heap_alloc_new w _) Tryd.underlying26 rfl (by kernel_rfl)) rfl ?_
  exact ⟨rfl, (Below.refl _ _).alloc (Nat.le_refl _) _⟩
def com : ByteArray := ⟨#[99, 111, 109]⟩
def comR : List Rule := [⟨[com], false⟩]
def xorg : OrgV := ⟨false, ⟨#[120]⟩, nm ⟨#[97, 46, 98, 46, 99, 111, 109]⟩, 5⟩
def norg : OrgV := ⟨true, ⟨#[]⟩, ⟨0, ⟨#[]⟩, 0, 0, 0, 0, 0, 0, 0, 0, 0⟩, 0⟩
theorem aw_suf : endsP comR (nm ⟨#[97, 46, 98, 46, 99, 111, 109, 46]⟩) 0 = some [99, 111, 109, 46] := by decide +kernel
theorem aw_reg : endsP comR (nm ⟨#[97, 46, 98, 46, 99, 111, 109]⟩) 1 = some [98, 46, 99, 111, 109] := by decide +kernel
theorem aw_no : endsP comR (nm com) 1 = none := by decide +kernel
theorem aw_of : siteT comR xorg = [120, 58, 47, 47, 98, 46, 99, 111, 109] := by decide +kernel
theorem aw_null : siteT comR norg = [110, 117, 108, 108] := by decide +kernel
theorem aw_same : sameT comR xorg xorg = true := by decide +kernel
theorem xorgc : xorg.cells.toArray = #[.bool false, .string ⟨#[120]⟩, .int .i64 2, .string ⟨#[97, 46, 98, 46, 99, 111, 109]⟩, .int .u32 0, .int .u16 0, .int .u16 0, .int .u16 0, .int .u16 0, .int .u16 0, .int .u16 0, .int .u16 0, .int .u16 0, .int .i64 5] := rfl
theorem norgc : norg.cells.toArray = #[.bool true, .string ⟨#[]⟩, .int .i64 0, .string ⟨#[]⟩, .int .u32 0, .int .u16 0, .int .u16 0, .int .u16 0, .int .u16 0, .int .u16 0, .int .u16 0, .int .u16 0, .int .u16 0, .int .i64 0] := rfl
theorem norg_ok : norg.h.ok := ⟨show (-9223372036854775808 : Int) ≤ 0 by decide, show (0 : Int) ≤ 9223372036854775807 by decide, show 0 < 4294967296 by decide, by intro n hn; simp [HostV.v6, norg] at hn; omega⟩
set_option maxHeartbeats 4000000 in
theorem awake_calls {w : World} (hF : FW w) : Calls Tryd.prog 22 #[] w fun e w' => e = .returned (.bool true) ∧ Below w.heap.size w w' := by
  have HF := Lib.hid (fun (W : World) (hb : Below w.heap.size w W) => hF.keep hb)
  clear hF
  have b0 := (Blk.new w 9 #[.string com]).alloc (.cells #[.slice (some ⟨w.heap.size, 0, none⟩) 1 1, .bool false] 67)
  have b1 := Blk.new (w.alloc (.cells #[.string com] 9)) 67 #[.slice (some ⟨w.heap.size, 0, none⟩) 1 1, .bool false]
  rw [show (w.alloc (.cells #[.string com] 9)).heap.size = w.heap.size + 1 by simp] at b1
  have HB := Lib.hid (((Below.refl w.heap.size w).alloc (Nat.le_refl _) (.cells #[.string com] 9)).alloc (by simp) (.cells #[.slice (some ⟨w.heap.size, 0, none⟩) 1 1, .bool false] 67))
  have HN := Lib.hid (new_calls (some ⟨w.heap.size + 1, 0, none⟩) 1 [⟨some ⟨w.heap.size, 0, none⟩, 1, ⟨[com], false⟩⟩] _ 1 (rowAt_blkS (f := RulV.cells) (fun _ => rfl) b1 rfl) (by
    intro x hx
    simp only [List.mem_singleton] at hx
    subst hx
    exact ⟨Nat.le_refl _, by simp [maxLen], rowAt_blkS (f := strC) (fun _ => rfl) b0 rfl⟩) (Nat.le_refl _) (by simp [maxLen]))
  clear b0 b1
  rw [show com = ⟨#[99, 111, 109]⟩ from rfl] at HB HN
  go_enter Tryd.func22, Tryd.ntmps22
  go_wp2_with fail
  refine HN.out.mono ?_
  rintro e w1 ⟨⟨t, a, rfl, ht⟩, hb⟩
  have HT1 := Lib.hid (show TrieOk w1 t a comR 1 from ht)
  have HB1 := Lib.hid (belowOn HB.out HB.out.size hb)
  clear HN HB ht hb
  go_wp2_with fail
  refine (named_calls _ w1).mono ?_
  rintro e w2 ⟨rfl, hb⟩
  have HT2 := Lib.hid (HT1.out.keep hb)
  have HB2 := Lib.hid (belowOn HB1.out HB1.out.size hb)
  clear HT1 HB1 hb
  have h3 := suffix17_calls HT2.out (HF.out _ HB2.out) (nm ⟨#[97, 46, 98, 46, 99, 111, 109, 46]⟩) (by decide)
  rw [aw_suf, nmc] at h3
  have H3 := Lib.hid h3
  clear h3
  go_wp2_with fail
  refine H3.out.mono ?_
  rintro e w3 ⟨rfl, hb⟩
  have HT3 := Lib.hid (HT2.out.keep hb)
  have HB3 := Lib.hid (belowOn HB2.out HB2.out.size hb)
  clear HT2 HB2 hb H3
  unfold endsV
  go_wp2_with fail
  refine (named_calls _ w3).mono ?_
  rintro e w4 ⟨rfl, hb⟩
  have HT4 := Lib.hid (HT3.out.keep hb)
  have HB4 := Lib.hid (belowOn HB3.out HB3.out.size hb)
  clear HT3 HB3 hb
  have h5 := reg17_calls HT4.out (HF.out _ HB4.out) (nm ⟨#[97, 46, 98, 46, 99, 111, 109]⟩) (by decide)
  rw [aw_reg, nmc] at h5
  have H5 := Lib.hid h5
  clear h5
  go_wp2_with fail
  refine H5.out.mono ?_
  rintro e w5 ⟨rfl, hb⟩
  have HT5 := Lib.hid (HT4.out.keep hb)
  have HB5 := Lib.hid (belowOn HB4.out HB4.out.size hb)
  clear HT4 HB4 hb H5
  unfold endsV
  go_wp2_with fail
  refine (named_calls _ w5).mono ?_
  rintro e w6 ⟨rfl, hb⟩
  have HT6 := Lib.hid (HT5.out.keep hb)
  have HB6 := Lib.hid (belowOn HB5.out HB5.out.size hb)
  clear HT5 HB5 hb
  have h7 := reg17_calls HT6.out (HF.out _ HB6.out) (nm com) (by decide)
  rw [aw_no, nmc] at h7
  have H7 := Lib.hid h7
  clear h7
  go_wp2_with fail
  refine H7.out.mono ?_
  rintro e w7 ⟨rfl, hb⟩
  have HT7 := Lib.hid (HT6.out.keep hb)
  have HB7 := Lib.hid (belowOn HB6.out HB6.out.size hb)
  clear HT6 HB6 hb H7
  unfold endsV
  go_wp2_with fail
  refine (named_calls _ w7).mono ?_
  rintro e w8 ⟨rfl, hb⟩
  have HT8 := Lib.hid (HT7.out.keep hb)
  have HB8 := Lib.hid (belowOn HB7.out HB7.out.size hb)
  clear HT7 HB7 hb
  have HB9 := Lib.hid (HB8.out.alloc HB8.out.size (.cells #[.bool false, .string ⟨#[120]⟩, .int .i64 2, .string ⟨#[97, 46, 98, 46, 99, 111, 109]⟩, .int .u32 0, .int .u16 0, .int .u16 0, .int .u16 0, .int .u16 0, .int .u16 0, .int .u16 0, .int .u16 0, .int .u16 0, .int .i64 5] 49))
  have hbx := (Below.refl w8.heap.size w8).alloc (Nat.le_refl _) (.cells #[.bool false, .string ⟨#[120]⟩, .int .i64 2, .string ⟨#[97, 46, 98, 46, 99, 111, 109]⟩, .int .u32 0, .int .u16 0, .int .u16 0, .int .u16 0, .int .u16 0, .int .u16 0, .int .u16 0, .int .u16 0, .int .u16 0, .int .i64 5] 49)
  have hk := Blk.new w8 49 #[.bool false, .string ⟨#[120]⟩, .int .i64 2, .string ⟨#[97, 46, 98, 46, 99, 111, 109]⟩, .int .u32 0, .int .u16 0, .int .u16 0, .int .u16 0, .int .u16 0, .int .u16 0, .int .u16 0, .int .u16 0, .int .u16 0, .int .i64 5]
  have h9 := of17_calls (HT8.out.keep hbx) (HF.out _ HB9.out) xorg (nm_ok _) (by decide) (by decide)
  rw [aw_of, xorgc] at h9
  have H9 := Lib.hid h9
  have HK := Lib.hid hk
  have HT9 := Lib.hid (HT8.out.keep hbx)
  have mb := mkB_toList
  clear h9 hk hbx HT8
  go_wp2_with fail
  refine H9.out.mono ?_
  rintro e w9 ⟨rfl, hb⟩
  have HT10 := Lib.hid (HT9.out.keep hb)
  have HB10 := Lib.hid (belowOn HB9.out HB9.out.size hb)
  have HK10 := Lib.hid (HK.out.keep hb)
  clear HT9 HB9 hb H9 HK
  have h10 := of17_calls HT10.out (HF.out _ HB10.out) norg norg_ok (by decide) (by decide)
  rw [aw_null, norgc] at h10
  have H10 := Lib.hid h10
  clear h10
  go_wp2_with fail
  refine H10.out.mono ?_
  rintro e w10 ⟨rfl, hb⟩
  have HT11 := Lib.hid (HT10.out.keep hb)
  have HB11 := Lib.hid (belowOn HB10.out HB10.out.size hb)
  have HK11 := Lib.hid (HK10.out.keep hb)
  clear HT10 HB10 hb H10 HK10
  have h11 := same17_calls HT11.out (HF.out _ HB11.out) xorg xorg (nm_ok _) (nm_ok _) (by decide) (by decide) (by decide) (by decide)
  rw [aw_same, xorgc] at h11
  have H11 := Lib.hid h11
  clear h11
  go_wp2_with (with_reducible refine stopG ?_)
  refine stopS_go ?_
  refine load_org HK11.out rfl (.tmp 8) rfl rfl rfl ?_
  go_wp2_with (with_reducible refine stopG ?_)
  refine stopS_go ?_
  refine load_org HK11.out rfl (.tmp 8) rfl rfl rfl ?_
  go_wp2_with fail
  refine H11.out.mono ?_
  rintro e w11 ⟨rfl, hb⟩
  have HB12 := Lib.hid (belowOn HB11.out HB11.out.size hb)
  clear HB11 hb H11
  go_wp2_with fail
  go_ret
  exact ⟨rfl, HB12.out⟩
end Go.Proofs.YtgljkgkmbfhgiaaDoor

set_option maxRecDepth 100000
namespace Go.Proofs.YtgljkgkmbfhgiaaDoor
open Go.RowKit Four Six Rec

theorem few17_calls (s : ByteArray) (w : World) : Calls Tryd.prog 24 #[.string s] w fun e w' => e = .returned (.bool (decide (s.size ≤ 100))) ∧ Below w.heap.size w w' := by
  refine (PSite.gatepostlaw17_few.calls s (decide (s.size ≤ 100)) w ?_).mono ?_
  · unfold PSite.gatepostlaw17_few.f
    congr 1
    rw [Bool.eq_iff_iff]
    simp
    omega
  · rintro e w' ⟨rfl, hd⟩
    exact ⟨rfl, hd.below⟩
theorem load_hostB {ops : Array Oper} {rest : List Oper} {op : Oper} {a : Act} {w : World} {Q : Exit → Act → World → Prop} {b : Nat} {cs : Array Value} (h : Blk w b 26 cs) (hc : cs.size = 11) (x : Operand) (ho : op.op = .load 26 x) (hx : a.eval x = .pointer (some ⟨b, 0, none⟩))
    (hw : Region.wanted op (yielded ops a.tmps) = true) (hK : wpList Tryd.prog ops Q rest (a.put op.dst (.agg cs)) w) : wpList Tryd.prog ops Q (op :: rest) a w :=
  wpList_step fun K hK' => by
    rw [if_pos hw]
    exact wp_load_mid 26 x ho b 0 hx cs.toList _ (fun j v hv => by rw [Nat.zero_add, h.cell]; simpa using hv) Tryd.underlying26 rfl (by rw [info_host]; simp [hc]) (hK' _ _ (by simpa using hK))
theorem host_size (h : HostV) : h.cells.toArray.size = 11 := rfl
end Go.Proofs.YtgljkgkmbfhgiaaDoor
