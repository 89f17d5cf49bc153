/- site.Of and site.Same; the reference's Of. -/
import Derived.Test.YtgljkgkmbfhgiaaDoorSiteReg
import Derived.Test.YtgljkgkmbfhgiaaDoorRecHost
import Derived.Deep.MidRow
set_option linter.unusedVariables false
set_option linter.unusedSimpArgs false
set_option maxRecDepth 100000
namespace Go.Proofs.YtgljkgkmbfhgiaaDoor
open Go.RowKit Four Six Rec

structure OrgV where
  opq : Bool
  scheme : ByteArray
  h : HostV
  port : Int
def OrgV.cells (o : OrgV) : List Value := [.bool o.opq, .string o.scheme] ++ o.h.cells ++ [.int .i64 o.port]
theorem orgc (o : OrgV) : o.cells.toArray = #[.bool o.opq, .string o.scheme, .int .i64 o.h.kind, .string o.h.name, .int .u32 o.h.v4, .int .u16 o.h.a0, .int .u16 o.h.a1, .int .u16 o.h.a2, .int .u16 o.h.a3, .int .u16 o.h.a4, .int .u16 o.h.a5, .int .u16 o.h.a6, .int .u16 o.h.a7, .int .i64 o.port] := rfl
/-- A site. -/
def siteH (rules : List Rule) (h : HostV) : List UInt8 := match endsP rules h 1 with
  | some t => t
  | none => hostT h
def siteT (rules : List Rule) (o : OrgV) : List UInt8 := if o.opq = true then [110, 117, 108, 108] else o.scheme.data.toList ++ [58, 47, 47] ++ siteH rules o.h
/-- A walk halted at a load. -/
def StopS (p : Prop) : Prop := p
theorem stopS {P : Program} {ops : Array Oper} {rest : List Oper} {a : Act} {w : World} {Q : Exit → Act → World → Prop} {x : Operand} {a0 : Option Nat} {a2 : TypeId} {a3 : String} {a4 : Array Edge} {a5 : Option (Nat × Bool)} (h : StopS (wpList P ops Q (⟨a0, .load 26 x, a2, a3, a4, a5⟩ :: rest) a w)) : wpList P ops Q (⟨a0, .load 26 x, a2, a3, a4, a5⟩ :: rest) a w := h
theorem stopS_go {p : Prop} (h : p) : StopS p := h
theorem info_host : (Tryd.prog.info? 26).map (·.size) = some 11 := by kernel_rfl
theorem host_range {w : World} {g : Nat} (o : OrgV) (h : Blk w g 49 o.cells.toArray) : w.rangeAt g 2 o.h.cells := fun j v hv => by
  have hj : j < 11 := (List.getElem?_eq_some_iff.1 hv).1
  rw [h.cell]
  have e : o.cells.toArray[2 + j]? = o.h.cells[j]? := by
    rw [List.getElem?_toArray]
    unfold OrgV.cells
    rw [List.getElem?_append_left (by simp [HostV.cells]; omega), List.getElem?_append_right (by simp)]
    congr 1
    simp
  rw [e]
  exact hv
theorem load_host {ops : Array Oper} {rest : List Oper} {op : Oper} {a : Act} {w : World} {Q : Exit → Act → World → Prop} {b : Nat} {o : OrgV} (h : Blk w b 49 o.cells.toArray) (hgd : op.guard = none) (x : Operand) (ho : op.op = .load 26 x) (hx : a.eval x = .pointer (some ⟨b, 2, none⟩))
    (hK : wpList Tryd.prog ops Q rest (a.put op.dst (.agg o.h.cells.toArray)) w) : wpList Tryd.prog ops Q (op :: rest) a w :=
  wpList_load_mid hgd 26 x ho b 2 hx o.h.cells _ (host_range o h) Tryd.underlying26 rfl (by rw [info_host]; rfl) hK
theorem site_add (s t : ByteArray) (h1 : s.size ≤ 1000) (h2 : t.size ≤ 2000000) : (∀ w, (Op.stringOp .add s ⟨#[58, 47, 47]⟩).run Tryd.prog w = .ok (.string (s ++ (⟨#[58, 47, 47]⟩ : ByteArray))) w) ∧ (∀ w, (Op.stringOp .add (s ++ (⟨#[58, 47, 47]⟩ : ByteArray)) t).run Tryd.prog w = .ok (.string (s ++ (⟨#[58, 47, 47]⟩ : ByteArray) ++ t)) w) :=
  ⟨fun w => run_string_add_sum w _ _ (by rw [show (⟨#[58, 47, 47]⟩ : ByteArray).size = 3 from rfl]; omega), fun w => run_string_add_sum w _ _ (by rw [ByteArray.size_append, show (⟨#[58, 47, 47]⟩ : ByteArray).size = 3 from rfl]; omega)⟩
theorem lastT_len {s : ByteArray} {L : List ByteArray} (hs : ∀ x ∈ L, x.size ≤ 900) (hl : L.length ≤ 901) (k : Nat) : (lastT s L k).length ≤ 1000000 := by
  have h := joinT_len (L.take k) 900 (fun x hx => hs x (List.mem_of_mem_take hx))
  have h2 : (L.take k).length * (900 + 1) ≤ 901 * 901 := Nat.mul_le_mul_right 901 (by rw [List.length_take]; omega)
  unfold lastT
  rw [List.length_append]
  split
  · simp; omega
  · simp; omega
theorem endsP_len {l : List Rule} {h : HostV} {m : Nat} {t : List UInt8} (e : endsP l h m = some t) (hs : h.name.size ≤ 900) : t.length ≤ 1000000 := by
  unfold endsP at e
  split at e
  · split at e
    · cases e
    · rename_i L hL
      split at e
      · cases e
      · simp only [Option.some.injEq] at e
        rw [← e]
        obtain ⟨f1, f2, -⟩ := labelsL_facts hL hs
        exact lastT_len f2 (by omega) _
  · cases e
theorem hostT_len (h : HostV) (ho : h.ok) (hs : h.name.size ≤ 900) : (hostT h).length ≤ 1000 := by
  unfold hostT
  split
  · have : h.name.data.toList.length = h.name.size := by simp
    omega
  · split
    · have := text_len h.v4
      omega
    · split
      · have := text6_len h.v6 rfl ho.v6
        simp
        omega
      · simp
set_option maxHeartbeats 4000000 in
theorem of17_calls {w : World} {t : Nat} {a : Addrs} {l : List Rule} {v : Int} (hT : TrieOk w t a l v) (hF : FW w) (o : OrgV) (ho : o.h.ok) (hs : o.h.name.size ≤ 200) (hs2 : o.scheme.size ≤ 200) :
    Calls Tryd.prog 31 #[.pointer (some ⟨t, 0, none⟩), .agg o.cells.toArray] w fun e w' => e = .returned (.string (mkB (siteT l o))) ∧ Below w.heap.size w w' := by
  obtain ⟨W, hW⟩ : ∃ W, W = w.alloc (.cells o.cells.toArray 49) := ⟨_, rfl⟩
  have HK := Lib.hid (show Blk W w.heap.size 49 o.cells.toArray by rw [hW]; exact Blk.new w _ _)
  have HBE := Lib.hid (show Below w.heap.size w W by rw [hW]; exact (Below.refl _ _).alloc (Nat.le_refl _) _)
  have hlt : w.heap.size < W.heap.size := HK.out.lt
  have x0 := HK.out.cell 0
  have x1 := HK.out.cell 1
  rw [orgc] at x0 x1
  simp only [List.getElem?_toArray, List.getElem?_cons_zero, List.getElem?_cons_succ] at x0 x1
  have HREG := Lib.hid (fun (V : World) (hb : Below w.heap.size w V) => reg17_calls (hT.keep hb) (hF.keep hb) o.h hs)
  have HHT := Lib.hid (fun (V : World) (hb : Below w.heap.size w V) => host_text o.h ho V (hF.keep hb))
  clear hT hF
  obtain ⟨C, hC⟩ : ∃ C, C = o.cells.toArray := ⟨_, rfl⟩
  cases hop : o.opq
  · rw [hop] at x0
    have hres : mkB (siteT l o) = o.scheme ++ (⟨#[58, 47, 47]⟩ : ByteArray) ++ mkB (siteH l o.h) := by
      unfold siteT
      rw [if_neg (by rw [hop]; decide), ← mkB_append, ← mkB_append, mkB_of]
      rfl
    rw [hres]
    clear hres
    cases hreg : endsP l o.h 1 with
    | some T =>
      have hsh : siteH l o.h = T := by unfold siteH; rw [hreg]
      rw [hsh]
      obtain ⟨ha1, ha2⟩ := site_add o.scheme (mkB T) (by omega) (by rw [mkB_size]; have := endsP_len hreg (by omega); omega)
      rw [hreg] at HREG
      have hC0 : C[0]? = some (.bool false) := by rw [hC, orgc, hop]; rfl
      rw [← hC] at hW ⊢
      have HCC := Lib.hid hC
      have HWW := Lib.hid hW
      clear hop hC hW hsh hreg
      go_enter Tryd.func31, Tryd.ntmps31
      go_wp2_with (with_reducible refine stopS ?_)
      rw [← HWW.out]
      refine stopS_go ?_
      refine load_host HK.out rfl (.tmp 11) rfl rfl ?_
      clear hC0
      go_wp2_with fail
      refine (HREG.out W HBE.out).mono ?_
      rintro e w1 ⟨rfl, hb⟩
      have HB1 := Lib.hid (belowOn HBE.out HBE.out.size hb)
      have HK1 := Lib.hid (HK.out.keep hb)
      have hlt1 : w.heap.size < w1.heap.size := HK1.out.lt
      have y1 := (hb.cell (p := ⟨w.heap.size, 1, none⟩) hlt).trans x1
      clear hb HREG HBE HK x0 x1 hlt
      unfold endsV
      go_wp2_with fail
      go_ret
      exact ⟨rfl, HB1.out⟩
    | none =>
      have hsh : siteH l o.h = (hostT o.h) := by unfold siteH; rw [hreg]
      rw [hsh]
      obtain ⟨ha1, ha2⟩ := site_add o.scheme (mkB (hostT o.h)) (by omega) (by rw [mkB_size]; have := hostT_len o.h ho (by omega); omega)
      rw [hreg] at HREG
      have hC0 : C[0]? = some (.bool false) := by rw [hC, orgc, hop]; rfl
      rw [← hC] at hW ⊢
      have HCC := Lib.hid hC
      have HWW := Lib.hid hW
      clear hop hC hW hsh hreg
      go_enter Tryd.func31, Tryd.ntmps31
      go_wp2_with (with_reducible refine stopS ?_)
      rw [← HWW.out]
      refine stopS_go ?_
      refine load_host HK.out rfl (.tmp 11) rfl rfl ?_
      clear hC0
      go_wp2_with fail
      refine (HREG.out W HBE.out).mono ?_
      rintro e w1 ⟨rfl, hb⟩
      have HB1 := Lib.hid (belowOn HBE.out HBE.out.size hb)
      have HK1 := Lib.hid (HK.out.keep hb)
      have hlt1 : w.heap.size < w1.heap.size := HK1.out.lt
      have y1 := (hb.cell (p := ⟨w.heap.size, 1, none⟩) hlt).trans x1
      clear hb HREG HBE HK x0 x1 hlt
      unfold endsV
      go_wp2_with (with_reducible refine stopS ?_)
      refine stopS_go ?_
      refine load_host HK1.out rfl (.tmp 18) rfl rfl ?_
      go_wp2_with fail
      refine (HHT.out w1 HB1.out).mono ?_
      rintro e w2 ⟨rfl, hb⟩
      have HB2 := Lib.hid (belowOn HB1.out HB1.out.size hb)
      have y2 := (hb.cell (p := ⟨w.heap.size, 1, none⟩) hlt1).trans y1
      have hlt2 : w.heap.size < w2.heap.size := (HK1.out.keep hb).lt
      clear hb HHT HB1 HK1 y1
      go_wp2_with fail
      go_ret
      exact ⟨rfl, HB2.out⟩
  · have hres : mkB (siteT l o) = ⟨#[110, 117, 108, 108]⟩ := by
      unfold siteT
      rw [if_pos hop]
      rfl
    rw [hres]
    have hC0 : C[0]? = some (.bool true) := by rw [hC, orgc, hop]; rfl
    rw [← hC]
    clear hres hC hop hW x0 x1 hlt HK HBE HREG HHT
    go_enter Tryd.func31, Tryd.ntmps31
    go_wp2_with fail
    go_ret
    exact ⟨rfl, (Below.refl _ _).alloc (Nat.le_refl _) _⟩
set_option maxHeartbeats 4000000 in
theorem refof17_calls (A : Option Addr) (c : Nat) (l : List RulV) (w : World) (hr : RowAt RulV.cells 2 w A l) (hok : ∀ x ∈ l, x.ok w) (hlc : l.length ≤ c) (hcm : c ≤ maxLen) (o : OrgV) (ho : o.h.ok) (hs : o.h.name.size ≤ 200) (hs2 : o.scheme.size ≤ 200) :
    Calls Tryd.prog 30 #[.slice A l.length c, .agg o.cells.toArray] w fun e w' => e = .returned (.string (mkB (siteT (l.map (·.r)) o))) ∧ Below w.heap.size w w' := by
  obtain ⟨W, hW⟩ : ∃ W, W = w.alloc (.cells o.cells.toArray 49) := ⟨_, rfl⟩
  have HK := Lib.hid (show Blk W w.heap.size 49 o.cells.toArray by rw [hW]; exact Blk.new w _ _)
  have HBE := Lib.hid (show Below w.heap.size w W by rw [hW]; exact (Below.refl _ _).alloc (Nat.le_refl _) _)
  have hlt : w.heap.size < W.heap.size := HK.out.lt
  have x0 := HK.out.cell 0
  have x1 := HK.out.cell 1
  rw [orgc] at x0 x1
  simp only [List.getElem?_toArray, List.getElem?_cons_zero, List.getElem?_cons_succ] at x0 x1
  have HREG := Lib.hid (fun (V : World) (hb : Below w.heap.size w V) => refreg17_calls A c l V (hr.keep hb) (fun x hx => (hok x hx).keep hb) hlc hcm o.h hs)
  have HHT := Lib.hid (fun (V : World) (hb : Below w.heap.size w V) => refhost_text o.h ho V)
  clear hr hok
  obtain ⟨C, hC⟩ : ∃ C, C = o.cells.toArray := ⟨_, rfl⟩
  cases hop : o.opq
  · rw [hop] at x0
    have hres : mkB (siteT (l.map (·.r)) o) = o.scheme ++ (⟨#[58, 47, 47]⟩ : ByteArray) ++ mkB (siteH (l.map (·.r)) o.h) := by
      unfold siteT
      rw [if_neg (by rw [hop]; decide), ← mkB_append, ← mkB_append, mkB_of]
      rfl
    rw [hres]
    clear hres
    cases hreg : endsP (l.map (·.r)) o.h 1 with
    | some T =>
      have hsh : siteH (l.map (·.r)) o.h = T := by unfold siteH; rw [hreg]
      rw [hsh]
      obtain ⟨ha1, ha2⟩ := site_add o.scheme (mkB T) (by omega) (by rw [mkB_size]; have := endsP_len hreg (by omega); omega)
      rw [hreg] at HREG
      have hC0 : C[0]? = some (.bool false) := by rw [hC, orgc, hop]; rfl
      rw [← hC] at hW ⊢
      have HCC := Lib.hid hC
      have HWW := Lib.hid hW
      clear hop hC hW hsh hreg
      go_enter Tryd.func30, Tryd.ntmps30
      go_wp2_with (with_reducible refine stopS ?_)
      rw [← HWW.out]
      refine stopS_go ?_
      refine load_host HK.out rfl (.tmp 11) rfl rfl ?_
      clear hC0
      go_wp2_with fail
      refine (HREG.out W HBE.out).mono ?_
      rintro e w1 ⟨rfl, hb⟩
      have HB1 := Lib.hid (belowOn HBE.out HBE.out.size hb)
      have HK1 := Lib.hid (HK.out.keep hb)
      have hlt1 : w.heap.size < w1.heap.size := HK1.out.lt
      have y1 := (hb.cell (p := ⟨w.heap.size, 1, none⟩) hlt).trans x1
      clear hb HREG HBE HK x0 x1 hlt
      unfold endsV
      go_wp2_with fail
      go_ret
      exact ⟨rfl, HB1.out⟩
    | none =>
      have hsh : siteH (l.map (·.r)) o.h = (hostT o.h) := by unfold siteH; rw [hreg]
      rw [hsh]
      obtain ⟨ha1, ha2⟩ := site_add o.scheme (mkB (hostT o.h)) (by omega) (by rw [mkB_size]; have := hostT_len o.h ho (by omega); omega)
      rw [hreg] at HREG
      have hC0 : C[0]? = some (.bool false) := by rw [hC, orgc, hop]; rfl
      rw [← hC] at hW ⊢
      have HCC := Lib.hid hC
      have HWW := Lib.hid hW
      clear hop hC hW hsh hreg
      go_enter Tryd.func30, Tryd.ntmps30
      go_wp2_with (with_reducible refine stopS ?_)
      rw [← HWW.out]
      refine stopS_go ?_
      refine load_host HK.out rfl (.tmp 11) rfl rfl ?_
      clear hC0
      go_wp2_with fail
      refine (HREG.out W HBE.out).mono ?_
      rintro e w1 ⟨rfl, hb⟩
      have HB1 := Lib.hid (belowOn HBE.out HBE.out.size hb)
      have HK1 := Lib.hid (HK.out.keep hb)
      have hlt1 : w.heap.size < w1.heap.size := HK1.out.lt
      have y1 := (hb.cell (p := ⟨w.heap.size, 1, none⟩) hlt).trans x1
      clear hb HREG HBE HK x0 x1 hlt
      unfold endsV
      go_wp2_with (with_reducible refine stopS ?_)
      refine stopS_go ?_
      refine load_host HK1.out rfl (.tmp 18) rfl rfl ?_
      go_wp2_with fail
      refine (HHT.out w1 HB1.out).mono ?_
      rintro e w2 ⟨rfl, hb⟩
      have HB2 := Lib.hid (belowOn HB1.out HB1.out.size hb)
      have y2 := (hb.cell (p := ⟨w.heap.size, 1, none⟩) hlt1).trans y1
      have hlt2 : w.heap.size < w2.heap.size := (HK1.out.keep hb).lt
      clear hb HHT HB1 HK1 y1
      go_wp2_with fail
      go_ret
      exact ⟨rfl, HB2.out⟩
  · have hres : mkB (siteT (l.map (·.r)) o) = ⟨#[110, 117, 108, 108]⟩ := by
      unfold siteT
      rw [if_pos hop]
      rfl
    rw [hres]
    have hC0 : C[0]? = some (.bool true) := by rw [hC, orgc, hop]; rfl
    rw [← hC]
    clear hres hC hop hW x0 x1 hlt HK HBE HREG HHT
    go_enter Tryd.func30, Tryd.ntmps30
    go_wp2_with fail
    go_ret
    exact ⟨rfl, (Below.refl _ _).alloc (Nat.le_refl _) _⟩
end Go.Proofs.YtgljkgkmbfhgiaaDoor
