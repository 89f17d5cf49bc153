/- SlotsStale, walked. -/
import Derived.Test.YtkmmnmicmjohgaaDoorSlotsActsWalk
set_option linter.unusedVariables false
set_option linter.unusedSimpArgs false
namespace Go.Proofs.YtkmmnmicmjohgaaDoor
open Go.RowKit Slots

theorem stale_blocks (w : World) (ca cb : Array Value) : Blk ((w.alloc (.cells ca 22)).alloc (.cells cb 34)) w.heap.size 22 ca ∧ Blk ((w.alloc (.cells ca 22)).alloc (.cells cb 34)) (w.heap.size + 1) 34 cb ∧ Below w.heap.size w ((w.alloc (.cells ca 22)).alloc (.cells cb 34)) := by
  refine ⟨(Blk.new w _ _).alloc _, ?_, ((Below.refl _ _).alloc (Nat.le_refl _) _).alloc (by simp) _⟩
  have := Blk.new (w.alloc (.cells ca 22)) 34 cb
  simpa using this
/-- A handle's box, beside the slots: an act leaves it. -/
theorem hbox_fr {w w' : World} {b g gh : Nat} {s : St} {cs : Array Value} (h : Blk w gh 34 cs) (hA : At w b g s) (hF : Fr w w' (fun i => i = b ∨ i = g)) : Blk w' gh 34 cs :=
  h.fr hF (by rintro (e | e); exact absurd e (h.ne_ hA.blk (by decide)); exact absurd e (h.ne_ hA.row (by decide)))
theorem hbox_c {w : World} {gh : Nat} {u v : Value} (h : Blk w gh 34 #[u, v]) : w.cell? ⟨gh, 0, none⟩ = some u ∧ w.cell? ⟨gh, 1, none⟩ = some v := ⟨(h.cell 0).trans rfl, (h.cell 1).trans rfl⟩

set_option maxRecDepth 100000 in
set_option maxHeartbeats 8000000 in
theorem stale_calls {w : World} {A : Option Addr} {cap : Nat} {l : List ActD} (h : RowAt ActD.cells 3 w A l) (hok : ∀ a ∈ l, a.ok) (hlc : l.length ≤ cap) (n0 n1 : Int) (h0 : 0 ≤ n0 ∧ n0 ≤ 255) (h1 : 0 ≤ n1 ∧ n1 ≤ 255) (a : Int × Int) (hE : ErrType w) :
    Calls Tryd.prog 6 #[.agg #[.int .u8 n0, .int .u8 n1], .slice A l.length cap, .agg #[.int .i64 a.1, .int .u64 a.2]] w fun e w' => e = .returned (.bool true) ∧ Below w.heap.size w w' := by
  have HE := Lib.hid hE
  have H := Lib.hid h
  have HOK := Lib.hid hok
  have HBL := Lib.hid (stale_blocks w #[.int .u8 n0, .int .u8 n1] #[.int .i64 a.1, .int .u64 a.2])
  clear hE h hok
  by_cases hl : l.length ≤ 40
  · have hlI : decide ((40 : Int) < (l.length : Int)) = false := by simp; omega
    have HL := Lib.hid hl
    clear hl
    go_enter Tryd.func6, Tryd.ntmps6
    go_wp2_with fail
    refine (awake_calls _).mono ?_
    rintro e w1 ⟨rfl, hb1⟩
    have hN1 := HBL.out.1.keep hb1
    have HX1 := Lib.hid (HBL.out.2.1.keep hb1)
    have HB1 := Lib.hid (belowOn HBL.out.2.2 HBL.out.2.2.size hb1)
    have c0 := hN1.cell 0
    have c1 := hN1.cell 1
    simp only [List.getElem?_toArray, List.getElem?_cons_zero, List.getElem?_cons_succ] at c0 c1
    clear hb1 hN1 HBL
    go_wp2_with fail
    refine (run_calls (H.out.keep HB1.out) HOK.out HL.out hlc n0 n1 h0 h1 (HE.out.keep HB1.out)).mono ?_
    rintro e w2 ⟨hh, hb2⟩
    obtain ⟨b, g, v, s, x, rfl, hA, ⟨B0, B1, B2, k0, k1, k2, hv, hR⟩, hS, hSm, hle, hla, hbb, hgg⟩ := hh.out
    subst hv
    have hB2 := belowOn HB1.out HB1.out.size hb2
    have hfine : Fine s := hS.fine hSm (by have := HL.out; omega) (by omega) (by omega)
    have HF := Lib.hid hfine
    have HS := Lib.hid hS
    have hst : EndSt w (w2.alloc (.cells #[.slice B0 x.gens.length k0, .slice B1 x.counts.length k1, .slice B2 x.free.length k2, .int .u64 x.last] 30)) b g w2.heap.size s x B0 B1 B2 k0 k1 k2 :=
      ⟨⟨hA.ne, hA.blk.alloc _, hA.row.alloc _⟩, Blk.new _ _ _, hR.keep ((Below.refl _ _).alloc (Nat.le_refl _) _), hB2.alloc hB2.size _, by have := HB1.out.size; omega, by have := HB1.out.size; omega⟩
    have HST := Lib.hid hst
    have HX2 := Lib.hid ((HX1.out.keep hb2).alloc (.cells #[.slice B0 x.gens.length k0, .slice B1 x.counts.length k1, .slice B2 x.free.length k2, .int .u64 x.last] 30))
    clear hst hA hR hS hSm hb2 hB2 hfine hh HB1 hle hla hbb hgg c0 c1 HX1
    obtain ⟨d0, d1, d2, d3⟩ := HST.out.c
    obtain ⟨y0, y1⟩ := hbox_c HX2.out
    go_wp2_with fail
    generalize w2.alloc (.cells #[.slice B0 x.gens.length k0, .slice B1 x.counts.length k1, .slice B2 x.free.length k2, .int .u64 x.last] 30) = w3 at HST HX2 d0 d1 d2 d3 y0 y1 ⊢
    generalize w2.heap.size = gx at HST d0 d1 d2 d3 ⊢
    have hrl := ref_live (w := w3) (x := x) ⟨B0, B1, B2, k0, k1, k2, rfl, HST.out.rf⟩ (by have := HS.out.lg; have := HS.out.lc; omega) a
    by_cases hlive : x.live a
    · rw [show decide (x.live a) = true by simpa using hlive] at hrl
      refine hrl.mono ?_
      clear hrl hlive
      rintro e w4 ⟨rfl, hb4⟩
      have HST4 := Lib.hid (HST.out.keep hb4)
      clear hb4 HST HX2 d0 d1 d2 d3 y0 y1
      go_wp2
      go_ret
      exact ⟨rfl, HST4.out.be⟩
    · rw [show decide (x.live a) = false by simpa using hlive] at hrl
      refine hrl.mono ?_
      clear hrl
      rintro e w4 ⟨rfl, hb4⟩
      have HST4 := Lib.hid (HST.out.keep hb4)
      have HX4 := Lib.hid (HX2.out.keep hb4)
      have hnok : ¬ s.ok a := fun e => hlive ((HS.out.ok_iff a).1 e)
      have hst7 : st s a = some 7 := by unfold st; rw [if_neg hnok]
      have hT := fun d => turn_bad hnok d
      clear hb4 HST HX2 d0 d1 d2 d3 y0 y1 hlive
      have hadd := fun (W : World) (hA : At W b g s) => slots_add hA HF.out a
      have hdrop := fun (W : World) (hA : At W b g s) => slots_drop hA HF.out a
      have hcount := fun (W : World) (hA : At W b g s) => slots_count hA HF.out a
      rw [hT 1, hst7] at hadd
      rw [hT (-1), hst7] at hdrop
      rw [hT 0, hst7] at hcount
      have HAD := Lib.hid hadd
      have HDR := Lib.hid hdrop
      have HCO := Lib.hid hcount
      have HLI := Lib.hid (fun (W : World) (hA : At W b g s) => slots_live hA)
      have HLE := Lib.hid (fun (W : World) (hA : At W b g s) => slots_left hA)
      clear hadd hdrop hcount hnok hst7 hT
      obtain ⟨y0, y1⟩ := hbox_c HX4.out
      go_wp2_with (first
        | (go_at_call 14; refine (HLI.out _ HST4.out.at_).mono ?_; rintro e w' ⟨rfl, rfl⟩)
        | (go_at_call 15; refine (HLE.out _ HST4.out.at_).mono ?_; rintro e w' ⟨rfl, rfl⟩)
        | (go_at_call 21; refine stop_here ?_))
      refine stop_go ?_
      refine (HAD.out _ HST4.out.at_).mono ?_
      rintro e w5 ⟨⟨v5, rfl, hv5⟩, hA5, hF5⟩
      have HST5 := Lib.hid (HST4.out.did hA5 hF5)
      have HX5 := Lib.hid (hbox_fr HX4.out HST4.out.at_ hF5)
      have HV5 := Lib.hid (show Chain w5 [slotsB] v5 7 from hv5)
      clear hv5 hA5 hF5 HST4 HX4 y0 y1
      obtain ⟨y0, y1⟩ := hbox_c HX5.out
      go_wp2_with fail
      refine (HDR.out _ HST5.out.at_).mono ?_
      rintro e w6 ⟨⟨v6, rfl, hv6⟩, hA6, hF6⟩
      have HST6 := Lib.hid (HST5.out.did hA6 hF6)
      have HX6 := Lib.hid (hbox_fr HX5.out HST5.out.at_ hF6)
      have HV56 := Lib.hid (chain_fr HV5.out HST5.out.at_ hF6)
      have HV6 := Lib.hid (show Chain w6 [slotsB] v6 7 from hv6)
      clear hv6 hA6 hF6 HST5 HX5 y0 y1 HV5
      obtain ⟨y0, y1⟩ := hbox_c HX6.out
      go_wp2_with fail
      refine (HCO.out _ HST6.out.at_).mono ?_
      rintro e w7 ⟨⟨v7, rfl, hv7⟩, hA7, hF7⟩
      have HST7 := Lib.hid (HST6.out.did hA7 hF7)
      have HV57 := Lib.hid (chain_fr HV56.out HST6.out.at_ hF7)
      have HV67 := Lib.hid (chain_fr HV6.out HST6.out.at_ hF7)
      have HV7 := Lib.hid (show Chain w7 [slotsB] v7 7 from hv7)
      clear hv7 hA7 hF7 HST6 HX6 y0 y1 HV56 HV6
      go_wp2_with (first
        | (go_at_call 17; (with_reducible refine (is_chain _ v5 _ 7 _ HV57.out).mono ?_); rintro e w' ⟨rfl, rfl⟩)
        | (go_at_call 17; (with_reducible refine (is_chain _ v6 _ 7 _ HV67.out).mono ?_); rintro e w' ⟨rfl, rfl⟩)
        | (go_at_call 17; (with_reducible refine (is_chain _ v7 _ 7 _ HV7.out).mono ?_); rintro e w' ⟨rfl, rfl⟩)
        | (go_at_call 14; refine (HLI.out _ HST7.out.at_).mono ?_; rintro e w' ⟨rfl, rfl⟩)
        | (go_at_call 15; refine (HLE.out _ HST7.out.at_).mono ?_; rintro e w' ⟨rfl, rfl⟩))
      go_ret
      exact ⟨rfl, HST7.out.be⟩
  · have hlI : decide ((40 : Int) < (l.length : Int)) = true := by simp; omega
    clear hl
    go_enter Tryd.func6, Tryd.ntmps6
    go_wp2_with fail
    refine (awake_calls _).mono ?_
    rintro e w1 ⟨rfl, hb1⟩
    have HB1 := Lib.hid (belowOn HBL.out.2.2 HBL.out.2.2.size hb1)
    clear hb1
    go_wp2
    go_ret
    exact ⟨rfl, HB1.out⟩
end Go.Proofs.YtkmmnmicmjohgaaDoor
