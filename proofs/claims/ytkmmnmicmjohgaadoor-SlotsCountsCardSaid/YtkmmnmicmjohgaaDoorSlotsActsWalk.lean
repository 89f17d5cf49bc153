/- SlotsActs, walked. -/
import Derived.Test.YtkmmnmicmjohgaaDoorSlotsRun
import Derived.Test.YtkmmnmicmjohgaaDoorSlotsAwake
set_option linter.unusedVariables false
set_option linter.unusedSimpArgs false
namespace Go.Proofs.YtkmmnmicmjohgaaDoor
open Go.RowKit Slots

/-- What stands in the last loop: the program's slots, the reference's box. -/
structure EndSt (w0 w : World) (b g gx : Nat) (s : St) (x : Rf) (B0 B1 B2 : Option Addr) (k0 k1 k2 : Nat) : Prop where
  at_ : At w b g s
  box : Blk w gx 30 #[.slice B0 x.gens.length k0, .slice B1 x.counts.length k1, .slice B2 x.free.length k2, .int .u64 x.last]
  rf : RfV w B0 B1 B2 k0 k1 k2 x
  be : Below w0.heap.size w0 w
  hb : w0.heap.size ≤ b
  hg : w0.heap.size ≤ g
section
variable {w0 w w' : World} {b g gx : Nat} {s s' : St} {x : Rf} {B0 B1 B2 : Option Addr} {k0 k1 k2 : Nat}
theorem EndSt.alloc (h : EndSt w0 w b g gx s x B0 B1 B2 k0 k1 k2) (o : Obj) : EndSt w0 (w.alloc o) b g gx s x B0 B1 B2 k0 k1 k2 :=
  ⟨⟨h.at_.ne, h.at_.blk.alloc _, h.at_.row.alloc _⟩, h.box.alloc _, h.rf.keep ((Below.refl _ _).alloc (Nat.le_refl _) _), h.be.alloc h.be.size _, h.hb, h.hg⟩
theorem EndSt.keep (h : EndSt w0 w b g gx s x B0 B1 B2 k0 k1 k2) (hb : Below w.heap.size w w') : EndSt w0 w' b g gx s x B0 B1 B2 k0 k1 k2 :=
  ⟨h.at_.keep hb, h.box.keep hb, h.rf.keep hb, belowOn h.be h.be.size hb, h.hb, h.hg⟩
theorem EndSt.did (h : EndSt w0 w b g gx s x B0 B1 B2 k0 k1 k2) (hA : At w' b g s') (hF : Fr w w' (fun i => i = b ∨ i = g)) : EndSt w0 w' b g gx s' x B0 B1 B2 k0 k1 k2 := by
  have hb := h.hb
  have hg := h.hg
  refine ⟨hA, h.box.fr hF ?_, h.rf.fr h.at_ hF, h.be.trans (hF.below h.be.size (by rintro i (rfl | rfl) <;> omega)), h.hb, h.hg⟩
  rintro (e | e)
  · exact absurd e (h.box.ne_ h.at_.blk (by decide))
  · exact absurd e (h.box.ne_ h.at_.row (by decide))
theorem EndSt.c (h : EndSt w0 w b g gx s x B0 B1 B2 k0 k1 k2) : w.cell? ⟨gx, 0, none⟩ = some (.slice B0 x.gens.length k0) ∧ w.cell? ⟨gx, 1, none⟩ = some (.slice B1 x.counts.length k1) ∧ w.cell? ⟨gx, 2, none⟩ = some (.slice B2 x.free.length k2) ∧ w.cell? ⟨gx, 3, none⟩ = some (.int .u64 x.last) :=
  ⟨(h.box.cell 0).trans rfl, (h.box.cell 1).trans rfl, (h.box.cell 2).trans rfl, (h.box.cell 3).trans rfl⟩
end
/-- Count of a handle: both tell the same. -/
theorem count_same {s : St} {x : Rf} (h : Sim s x) (a : Int × Int) : (s.turn a 0).1 = s ∧ (s.turn a 0).2.getD 0 = (if x.live a then x.count a.1 else 0) ∧ (st s a).getD 0 = (if x.live a then 0 else 7) := by
  refine ⟨by rw [sim_count h a], ?_, st_code h a⟩
  rw [sim_count h a]
  by_cases hv : x.live a
  · rw [if_pos hv, if_pos hv]; rfl
  · rw [if_neg hv, if_neg hv]; rfl

set_option maxRecDepth 100000 in
set_option maxHeartbeats 8000000 in
theorem acts_calls {w : World} {A : Option Addr} {cap : Nat} {l : List ActD} (h : RowAt ActD.cells 3 w A l) (hok : ∀ a ∈ l, a.ok) (hlc : l.length ≤ cap) (n0 n1 : Int) (h0 : 0 ≤ n0 ∧ n0 ≤ 255) (h1 : 0 ≤ n1 ∧ n1 ≤ 255) (hE : ErrType w) :
    Calls Tryd.prog 3 #[.agg #[.int .u8 n0, .int .u8 n1], .slice A l.length cap] w fun e w' => e = .returned (.bool true) ∧ Below w.heap.size w w' := by
  have HE := Lib.hid hE
  have H := Lib.hid h
  have HOK := Lib.hid hok
  clear hE h hok
  by_cases hl : l.length ≤ 40
  · have hlI : decide ((40 : Int) < (l.length : Int)) = false := by simp; omega
    have HL := Lib.hid hl
    clear hl
    go_enter Tryd.func3, Tryd.ntmps3
    go_wp2_with fail
    refine (awake_calls _).mono ?_
    rintro e w1 ⟨rfl, hb1⟩
    have hN1 := (Blk.new w 22 #[.int .u8 n0, .int .u8 n1]).keep hb1
    have HB1 := Lib.hid (belowOn ((Below.refl w.heap.size w).alloc (Nat.le_refl _) (.cells #[.int .u8 n0, .int .u8 n1] 22)) (by simp) hb1)
    have c0 := hN1.cell 0
    have c1 := hN1.cell 1
    simp only [List.getElem?_toArray, List.getElem?_cons_zero, List.getElem?_cons_succ] at c0 c1
    clear hb1 hN1
    go_wp2_with fail
    refine (run_calls (H.out.keep HB1.out) HOK.out HL.out hlc n0 n1 h0 h1 (HE.out.keep HB1.out)).mono ?_
    rintro e w2 ⟨hh, hb2⟩
    obtain ⟨b, g, v, s, x, rfl, hA, ⟨B0, B1, B2, k0, k1, k2, hv, hR⟩, hS, hSm, hle, hla, hbb, hgg⟩ := hh.out
    subst hv
    have hB2 := belowOn HB1.out HB1.out.size hb2
    have hfine : Fine s := hS.fine hSm (by have := HL.out; omega) (by omega) (by omega)
    have HF := Lib.hid hfine
    have HS := Lib.hid hS
    have hst : EndSt w (w2.alloc (.cells #[.slice B0 x.gens.length k0, .slice B1 x.counts.length k1, .slice B2 x.free.length k2, .int .u64 x.last] 30)) b g w2.heap.size s x B0 B1 B2 k0 k1 k2 :=
      ⟨⟨hA.ne, hA.blk.alloc _, hA.row.alloc _⟩, Blk.new _ _ _, hR.keep ((Below.refl _ _).alloc (Nat.le_refl _) _), hB2.alloc hB2.size _, by have := HB1.out.size; omega, by have := HB1.out.size; omega⟩
    have HST := Lib.hid hst
    clear hst hA hR hS hSm hb2 hB2 hfine hh HB1 hle hla hbb hgg c0 c1
    go_wp2_with fail
    generalize w2.alloc (.cells #[.slice B0 x.gens.length k0, .slice B1 x.counts.length k1, .slice B2 x.free.length k2, .int .u64 x.last] 30) = w3 at HST ⊢
    generalize w2.heap.size = gx at HST ⊢
    go_loopw [9] (fun i wr => ∃ k : Nat, i = .int .i64 k ∧ k ≤ 35 ∧ Hid (EndSt w wr b g gx s x B0 B1 B2 k0 k1 k2)) (fun i _ => 35 - (intOf i).toNat)
    case atStart => exact ⟨0, rfl, Nat.zero_le _, HST⟩
    case round =>
      obtain ⟨k, rfl, hk, HH⟩ := hrel
      clear HST
      by_cases hlt : k < 35
      · obtain ⟨a, ha⟩ : ∃ a : Int × Int, a = ((k : Int) % 7 - 1, (k : Int) / 7) := ⟨_, rfl⟩
        obtain ⟨h1', h2', h3'⟩ := count_same HS.out a
        have hcnt := fun (W : World) (hA : At W b g s) => slots_count hA HF.out a
        rw [h1', h2'] at hcnt
        have href := fun (W : World) (v : Value) (hv : RfAt W v x) => ref_count hv (by have := HS.out.lg; have := HS.out.lc; omega) a
        obtain ⟨r0, hr0⟩ : ∃ r : Int, r = (if x.live a then x.count a.1 else 0) := ⟨_, rfl⟩
        obtain ⟨r1, hr1⟩ : ∃ r : Int, r = (if x.live a then 0 else 7) := ⟨_, rfl⟩
        rw [← hr0, ← hr1] at href
        rw [← hr0] at hcnt
        rw [← hr1] at h3'
        have HCN := Lib.hid hcnt
        have HRE := Lib.hid href
        have H3 := Lib.hid h3'
        subst ha
        clear hcnt href h1' h2' h3' hr0 hr1
        have hst2 := HH.out.alloc (.cells #[.int .i64 ((k : Int) % 7 - 1), .int .u64 ((k : Int) / 7)] 34)
        have hX := Blk.new wr 34 #[.int .i64 ((k : Int) % 7 - 1), .int .u64 ((k : Int) / 7)]
        have x0 := hX.cell 0
        have x1 := hX.cell 1
        simp only [List.getElem?_toArray, List.getElem?_cons_zero, List.getElem?_cons_succ] at x0 x1
        have HST2 := Lib.hid hst2
        have HX := Lib.hid hX
        clear hst2 hX HH
        have hkI : decide ((k : Int) < 35) = true := by simp; omega
        go_wp2_with fail
        refine (HCN.out _ HST2.out.at_).mono ?_
        rintro e w4 ⟨⟨v, rfl, hv⟩, hA4, hF4⟩
        have hX4 := HX.out.fr hF4 (by rintro (e | e); exact absurd e (HX.out.ne_ HST2.out.at_.blk (by decide)); exact absurd e (HX.out.ne_ HST2.out.at_.row (by decide)))
        have hst4 := HST2.out.did hA4 hF4
        have y0 := hX4.cell 0
        have y1 := hX4.cell 1
        simp only [List.getElem?_toArray, List.getElem?_cons_zero, List.getElem?_cons_succ] at y0 y1
        obtain ⟨c0, c1, c2, c3⟩ := hst4.c
        have HST4 := Lib.hid hst4
        have HV4 := Lib.hid hv
        clear hX4 hst4 hA4 hF4 HST2 HX x0 x1 hv
        go_wp2_with fail
        refine (HRE.out _ _ ⟨B0, B1, B2, k0, k1, k2, rfl, HST4.out.rf⟩).mono ?_
        rintro e w5 ⟨rfl, hb5⟩
        have HST5 := Lib.hid (HST4.out.keep hb5)
        have HV5 := Lib.hid (errV_keep HV4.out hb5)
        clear hb5 HST4 HV4 y0 y1 c0 c1 c2 c3
        have hco := code_errV HV5.out (HE.out.keep HST5.out.be)
        rw [H3.out] at hco
        have HCO := Lib.hid hco
        clear hco
        go_wp2_with (go_at_call 11; refine HCO.out.mono ?_; rintro e w6 ⟨rfl, hb6⟩; have HST6 := Lib.hid (HST5.out.keep hb6); clear hb6)
        go_roundw
        case rel => exact ⟨k + 1, by go_num, by omega, HST6⟩
        case measure => simp [intOf]; omega
      · obtain rfl : k = 35 := by omega
        go_wp2
        go_ret
        exact ⟨rfl, HH.out.be⟩
  · have hlI : decide ((40 : Int) < (l.length : Int)) = true := by simp; omega
    clear hl
    go_enter Tryd.func3, Tryd.ntmps3
    go_wp2_with fail
    refine (awake_calls _).mono ?_
    rintro e w1 ⟨rfl, hb1⟩
    have HB1 := Lib.hid (belowOn ((Below.refl w.heap.size w).alloc (Nat.le_refl _) (.cells #[.int .u8 n0, .int .u8 n1] 22)) (by simp) hb1)
    clear hb1
    go_wp2
    go_ret
    exact ⟨rfl, HB1.out⟩
end Go.Proofs.YtkmmnmicmjohgaaDoor
