/- SlotsCounts, walked. -/
import Derived.Test.YtkmmnmicmjohgaaDoorSlotsStaleWalk
import Derived.Test.YtkmmnmicmjohgaaDoorSlotsCountsPure
import Derived.Deep.RegionHeld3
set_option linter.unusedVariables false
set_option linter.unusedSimpArgs false
namespace Go.Proofs.YtkmmnmicmjohgaaDoor
open Go.RowKit Slots

/-- What stands in the loop: the slots; the handle's box. -/
structure HSt (w0 w : World) (b g gh : Nat) (n gen : Int) (s : St) : Prop where
  at_ : At w b g s
  box : Blk w gh 34 #[.int .i64 n, .int .u64 gen]
  be : Below w0.heap.size w0 w
  hb : w0.heap.size ≤ b
  hg : w0.heap.size ≤ g
section
variable {w0 w w' : World} {b g gh : Nat} {n gen : Int} {s s' : St}
theorem HSt.did (h : HSt w0 w b g gh n gen s) (hA : At w' b g s') (hF : Fr w w' (fun i => i = b ∨ i = g)) : HSt w0 w' b g gh n gen s' := by
  have hb := h.hb
  have hg := h.hg
  exact ⟨hA, hbox_fr h.box h.at_ hF, h.be.trans (hF.below h.be.size (by rintro i (rfl | rfl) <;> omega)), h.hb, h.hg⟩
theorem HSt.keep (h : HSt w0 w b g gh n gen s) (hb : Below w.heap.size w w') : HSt w0 w' b g gh n gen s := ⟨h.at_.keep hb, h.box.keep hb, belowOn h.be h.be.size hb, h.hb, h.hg⟩
theorem HSt.alloc (h : HSt w0 w b g gh n gen s) (o : Obj) : HSt w0 (w.alloc o) b g gh n gen s := h.keep ((Below.refl _ _).alloc (Nat.le_refl _) _)
end
/-- What holds at a round's head. -/
structure HOk (K : Int) (s : St) (n : Nat) (gen k : Int) (j : Nat) : Prop where
  sim : ∃ x, Sim s x
  small : Small K s
  len : s.sl.length ≤ 5
  last : s.last ≤ 3
  held : Held s n gen k
  lo : 0 ≤ k
  hi : k ≤ j + 1

set_option maxRecDepth 100000 in
set_option maxHeartbeats 80000000 in
theorem counts_calls {w : World} {A A2 : Option Addr} {cap cap2 : Nat} {l l2 : List ActD} (h : RowAt ActD.cells 3 w A l) (hok : ∀ a ∈ l, a.ok) (hlc : l.length ≤ cap) (h2 : RowAt ActD.cells 3 w A2 l2) (hok2 : ∀ a ∈ l2, a.ok) (hlc2 : l2.length ≤ cap2) (n0 n1 : Int) (h0 : 0 ≤ n0 ∧ n0 ≤ 255) (h1 : 0 ≤ n1 ∧ n1 ≤ 255) (hE : ErrType w) :
    Calls Tryd.prog 5 #[.agg #[.int .u8 n0, .int .u8 n1], .slice A l.length cap, .slice A2 l2.length cap2] w fun e w' => e = .returned (.bool true) ∧ Below w.heap.size w w' := by
  have HE := Lib.hid hE
  have H := Lib.hid h
  have HOK := Lib.hid hok
  have H2 := Lib.hid h2
  have HOK2 := Lib.hid hok2
  clear hE h hok h2 hok2
  by_cases hl : l.length ≤ 40
  · by_cases hl2 : l2.length ≤ 40
    · have hlI : decide ((40 : Int) < (l.length : Int)) = false := by simp; omega
      have hlI2 : decide ((40 : Int) < (l2.length : Int)) = false := by simp; omega
      have HL := Lib.hid hl
      have HL2 := Lib.hid hl2
      clear hl hl2
      go_enter Tryd.func5, Tryd.ntmps5
      go_wp2_with fail
      refine (awake_calls _).mono ?_
      rintro e w1 ⟨rfl, hb1⟩
      have hN1 := (Blk.new w 22 #[.int .u8 n0, .int .u8 n1]).keep hb1
      have HB1 := Lib.hid (belowOn ((Below.refl w.heap.size w).alloc (Nat.le_refl _) (.cells #[.int .u8 n0, .int .u8 n1] 22)) (by simp) hb1)
      have c0 := hN1.cell 0
      have c1 := hN1.cell 1
      simp only [List.getElem?_toArray, List.getElem?_cons_zero, List.getElem?_cons_succ] at c0 c1
      clear hb1 hN1
      go_wp2_with fail
      refine (run_calls (H.out.keep HB1.out) HOK.out HL.out hlc n0 n1 h0 h1 (HE.out.keep HB1.out)).mono ?_
      rintro e w2 ⟨hh, hb2⟩
      obtain ⟨b, g, v, s, x, rfl, hA, ⟨B0, B1, B2, k0, k1, k2, hv, hR⟩, hS, hSm, hle, hla, hbb, hgg⟩ := hh.out
      subst hv
      have hB2 := (belowOn HB1.out HB1.out.size hb2).alloc (belowOn HB1.out HB1.out.size hb2).size (.cells #[.slice B0 x.gens.length k0, .slice B1 x.counts.length k1, .slice B2 x.free.length k2, .int .u64 x.last] 30)
      have hfine : Fine s := hS.fine hSm (by have := HL.out; omega) (by omega) (by omega)
      have hA2 : At (w2.alloc (.cells #[.slice B0 x.gens.length k0, .slice B1 x.counts.length k1, .slice B2 x.free.length k2, .int .u64 x.last] 30)) b g s := ⟨hA.ne, hA.blk.alloc _, hA.row.alloc _⟩
      have HF := Lib.hid hfine
      have HS := Lib.hid hS
      have HSM := Lib.hid hSm
      have HLE := Lib.hid hle
      have HLA := Lib.hid hla
      have HA2 := Lib.hid hA2
      have HB2 := Lib.hid hB2
      have hbz : w.heap.size ≤ b := by have := HB1.out.size; omega
      have hgz : w.heap.size ≤ g := by have := HB1.out.size; omega
      clear hA2 hB2 hA hR hS hSm hb2 hfine hh HB1 hle hla hbb hgg c0 c1
      go_wp2_with fail
      generalize w2.alloc (.cells #[.slice B0 x.gens.length k0, .slice B1 x.counts.length k1, .slice B2 x.free.length k2, .int .u64 x.last] 30) = w3 at HA2 HB2 ⊢
      generalize w2.heap.size = gx
      by_cases hleft : s.left = 0
      · have hcc := slots_take HA2.out HF.out
        have ht : s.take = (s, none) := by unfold St.take; rw [if_pos hleft]
        rw [ht, if_pos hleft] at hcc
        refine hcc.mono ?_
        clear hcc ht
        rintro e w4 ⟨⟨v, rfl, hv⟩, hA4, hF4⟩
        have hB4 := (HB2.out.trans (hF4.below HB2.out.size (by rintro i (rfl | rfl) <;> omega)))
        have HV := Lib.hid (Chain.keep ((Below.refl _ _).alloc (Nat.le_refl _) (.cells #[.int .i64 0, .int .u64 0] 34)) (show Chain w4 [slotsB] v 8 from hv))
        have HA4 := Lib.hid (show At (w4.alloc (.cells #[.int .i64 0, .int .u64 0] 34)) b g s from ⟨hA4.ne, hA4.blk.alloc _, hA4.row.alloc _⟩)
        have HB4 := Lib.hid (hB4.alloc hB4.size (.cells #[.int .i64 0, .int .u64 0] 34))
        obtain ⟨tv, xv, hvv⟩ := (show Chain w4 [slotsB] v 8 from hv).iface
        have hlf : ∀ W, At W b g s → Calls Tryd.prog 15 #[.pointer (some ⟨b, 0, none⟩)] W fun e w' => e = .returned (.int .i64 0) ∧ W = w' := fun W hA => by
          have := slots_left hA
          rw [hleft] at this
          exact this
        have HLF := Lib.hid hlf
        subst hvv
        clear hv hA4 hF4 hB4 hlf hleft
        go_wp2_with (first
          | (go_at_call 17; (with_reducible refine (is_chain _ _ _ 8 _ HV.out).mono ?_); rintro e w' ⟨rfl, rfl⟩)
          | (go_at_call 15; refine (HLF.out _ HA4.out).mono ?_; rintro e w' ⟨rfl, rfl⟩))
        go_ret
        exact ⟨rfl, HB4.out⟩
      · obtain ⟨n, gen, ht, hheld⟩ := held_take HS.out hleft
        have hcc := slots_take HA2.out HF.out
        have hsim := sim_take HS.out
        have hsm : Small (l.length + 1) s.take.1 := by have := act_small HSM.out (by omega) 0 (0, 0); unfold St.act at this; rw [if_pos rfl] at this; exact this
        have hln := act_len s 0 (0, 0)
        unfold St.act at hln
        rw [if_pos rfl] at hln
        rw [ht, if_neg hleft] at hcc
        have hho : HOk (l.length + 1 + (0 : Nat)) s.take.1 n gen 1 0 := ⟨⟨_, hsim.2⟩, by simpa using hsm, by rw [hln.1]; exact HLE.out, by rw [hln.2]; exact HLA.out, hheld, by omega, by omega⟩
        have HHO := Lib.hid hho
        refine hcc.mono ?_
        clear hcc hsim hsm hln hho hheld ht hleft
        generalize s.take.1 = s1 at HHO ⊢
        rintro e w4 ⟨⟨v, rfl, rfl⟩, hA4, hF4⟩
        have hB4 := (HB2.out.trans (hF4.below HB2.out.size (by rintro i (rfl | rfl) <;> omega)))
        have hst : HSt w (w4.alloc (.cells #[.int .i64 n, .int .u64 gen] 34)) b g w4.heap.size n gen s1 := ⟨⟨hA4.ne, hA4.blk.alloc _, hA4.row.alloc _⟩, Blk.new _ _ _, hB4.alloc hB4.size _, hbz, hgz⟩
        have HST := Lib.hid hst
        clear hst hA4 hF4 hB4 HA2 HB2 HF HS HSM HLE HLA
        go_wp2_with fail
        generalize w4.alloc (.cells #[.int .i64 n, .int .u64 gen] 34) = w5 at HST ⊢
        generalize w4.heap.size = gh at HST ⊢
        go_loopw [13, 14] (fun c i wr => ∃ j : Nat, ∃ k : Int, i = .int .i64 j ∧ c = .int .i64 k ∧ j ≤ l2.length ∧ Hid (∃ s, HSt w wr b g gh n gen s ∧ HOk (l.length + 1 + j) s n gen k j)) (fun _ i _ => l2.length - (intOf i).toNat)
        case atStart => exact ⟨0, 1, rfl, rfl, Nat.zero_le _, Lib.hid ⟨_, HST.out, HHO.out⟩⟩
        case round =>
          obtain ⟨j, k, rfl, rfl, hj, HH⟩ := hrel
          obtain ⟨s, hst, hho⟩ := HH.out
          clear HH HST HHO
          by_cases hlt : j < l2.length
          · obtain ⟨a, ha⟩ : ∃ a, l2[j]? = some a := ⟨l2[j]'hlt, List.getElem?_eq_getElem hlt⟩
            have hao := HOK2.out a (List.mem_of_getElem? ha)
            obtain ⟨ba, oa, rfl, hca⟩ := H2.out j a ha
            have a0 := hca 0 _ rfl
            have a1 := hca 1 _ rfl
            have a2 := hca 2 _ rfl
            have hba : ba < w.heap.size := World.block_lt_of_cell? w _ a0
            simp only [Nat.add_zero] at a0
            have HCA := Lib.hid (And.intro a0 (And.intro a1 a2))
            obtain ⟨x, hsim⟩ := hho.sim
            obtain ⟨hh1, hh2⟩ := hho.held.act hsim (a.k % 4) (handleOf a.c a.d)
            have hsm := act_small hho.small (by omega) (a.k % 4) (handleOf a.c a.d)
            have hln := act_len s (a.k % 4) (handleOf a.c a.d)
            obtain ⟨s', x', p, m, o, hs', hx', hsim'⟩ := both_act hsim (a.k % 4) (handleOf a.c a.d)
            have hfine : Fine s := hsim.fine hho.small (by have := HL.out; have := HL2.out; omega) (by have := hho.len; omega) (by have := hho.last; omega)
            have hdo := do_calls hst.at_ hfine a.k a.c a.d hao.1 hao.2.1 hao.2.2
            rw [hs'] at hh1 hh2 hsm hln hdo
            simp only at hh1 hh2 hsm hln
            have hcase : (∃ e : Int, o = some e) ∨ (o = none ∧ a.k % 4 = 0) ∨ (o = none ∧ a.k % 4 = 1) ∨ (o = none ∧ a.k % 4 = 2) ∨ (o = none ∧ a.k % 4 = 3) := by
              cases o with
              | some e => exact .inl ⟨e, rfl⟩
              | none =>
                have := hao.1
                have h4 : a.k % 4 = 0 ∨ a.k % 4 = 1 ∨ a.k % 4 = 2 ∨ a.k % 4 = 3 := by omega
                rcases h4 with h4 | h4 | h4 | h4 <;> simp [h4]
            have hkb := And.intro hho.lo hho.hi
            have b0 := (hst.be.cell (p := ⟨ba, oa + j * 3, none⟩) hba).trans a0
            have b1 := (hst.be.cell (p := ⟨ba, oa + j * 3 + 1, none⟩) hba).trans a1
            have b2 := (hst.be.cell (p := ⟨ba, oa + j * 3 + 2, none⟩) hba).trans a2
            have hjI : (j : Int) < (l2.length : Int) := by omega
            have hj40 : l2.length ≤ 40 := HL2.out
            obtain ⟨ho, hho2⟩ : ∃ ho, ho = handleOf a.c a.d := ⟨_, rfl⟩
            rw [← hho2] at hh1
            obtain ⟨k', hk'⟩ : ∃ k', k' = k + (if o = none ∧ ho = ((n : Int), gen) then (if a.k % 4 = 1 then 1 else if a.k % 4 = 2 then -1 else 0) else 0) := ⟨_, rfl⟩
            rw [← hk'] at hh1
            have hk'lo : 0 ≤ k' := by
              obtain ⟨c, _, hc⟩ := hh1.is_
              rcases hc with ⟨_, _, h3⟩ | ⟨h3, _⟩ <;> omega
            have hk'hi : k' ≤ (j + 1 : Nat) + 1 := by
              rw [hk']
              have := hkb.2
              split
              · split
                · omega
                · split <;> omega
              · omega
            have hho' : HOk (l.length + 1 + (j + 1 : Nat)) s' n gen k' (j + 1) := ⟨⟨x', hsim'⟩, hsm.mono (by omega), by rw [hln.1]; exact hho.len, by rw [hln.2]; exact hho.last, hh1, hk'lo, hk'hi⟩
            have hfine' : Fine s' := hsim'.fine hho'.small (by have := HL.out; omega) (by have := hho'.len; omega) (by have := hho'.last; omega)
            have hcnt := fun (W : World) (hA : At W b g s') => slots_count hA hfine' ((n : Int), gen)
            rw [(count_same hsim' ((n : Int), gen)).1, hh1.count.1, hh1.count.2] at hcnt
            have hcp : 0 < k' → ∀ (W : World), At W b g s' → Calls Tryd.prog 9 #[.pointer (some ⟨b, 0, none⟩), .agg #[.int .i64 n, .int .u64 gen]] W fun e w' => e = .returned (.tuple #[.int .i64 k', .nilIface]) ∧ At w' b g s' ∧ Fr W w' (fun i => i = b ∨ i = g) := fun hpos W hA => (hcnt W hA).mono fun e w' hh => by
              obtain ⟨⟨v, he, hv⟩, h2, h3⟩ := hh
              rw [if_pos hpos] at hv
              obtain rfl : v = .nilIface := hv
              exact ⟨he, h2, h3⟩
            have hcn : k' ≤ 0 → ∀ (W : World), At W b g s' → Calls Tryd.prog 9 #[.pointer (some ⟨b, 0, none⟩), .agg #[.int .i64 n, .int .u64 gen]] W fun e w' => (∃ v, e = .returned (.tuple #[.int .i64 k', v]) ∧ Chain w' [slotsB] v 7) ∧ At w' b g s' ∧ Fr W w' (fun i => i = b ∨ i = g) := fun hpos W hA => (hcnt W hA).mono fun e w' hh => by
              obtain ⟨⟨v, he, hv⟩, h2, h3⟩ := hh
              rw [if_neg (by omega)] at hv
              exact ⟨⟨v, he, hv⟩, h2, h3⟩
            have HCP := Lib.hid hcp
            have HCN := Lib.hid hcn
            have HDO := Lib.hid hdo
            have HNEW := Lib.hid hho'
            have HST := Lib.hid hst
            have HHO2 := Lib.hid hho2
            have HK' := Lib.hid hk'
            have HP := Lib.hid hh2
            have HAO := Lib.hid hao
            clear hcp hcn hcnt hdo hho' hst hho2 hk' hh1 hh2 hao hfine' hsim' hx' hs' hsim hsm hln hfine hho ha hca a0 a1 a2
            rcases hcase with ⟨e0, rfl⟩ | ⟨rfl, h4⟩ | ⟨rfl, h4⟩ | ⟨rfl, h4⟩ | ⟨rfl, h4⟩
            · as_aux_lemma =>
                obtain rfl : k' = k := by rw [HK'.out]; simp
                go_wp2_with fail
                refine HDO.out.mono ?_
                rintro e w6 ⟨⟨v6, rfl, hv6⟩, hA6, hF6⟩
                obtain ⟨tv, xv, hvv⟩ := (show Chain w6 [slotsB] v6 e0 from hv6).iface
                have HST6 := Lib.hid ((HST.out.did hA6 hF6).alloc (.cells #[.int .i64 p.1, .int .u64 p.2] 34))
                subst hvv
                clear hv6 hA6 hF6 HST b0 b1 b2
                go_wp2_with fail
                go_quiet (fail)
                obtain ⟨y0, y1⟩ := hbox_c HST6.out.box
                go_wp2_with fail
                by_cases hpos : 0 < k'
                · refine (HCP.out hpos _ (HST6.out.keep (below_drewN _ _)).at_).mono ?_
                  rintro e w8 ⟨rfl, hA8, hF8⟩
                  have HST8 := Lib.hid ((HST6.out.keep (below_drewN _ _)).did hA8 hF8)
                  have hposB : decide (0 < k') = true := by simpa using hpos
                  clear hA8 hF8 hpos y0 y1
                  go_wp2
                  go_roundw
                  case rel => exact ⟨j + 1, k', by go_num, rfl, by omega, Lib.hid ⟨_, HST8.out, HNEW.out⟩⟩
                  case measure => simp [intOf]; omega
                · refine (HCN.out (by omega) _ (HST6.out.keep (below_drewN _ _)).at_).mono ?_
                  rintro e w8 ⟨⟨v8, rfl, hv8⟩, hA8, hF8⟩
                  have HST8 := Lib.hid ((HST6.out.keep (below_drewN _ _)).did hA8 hF8)
                  obtain ⟨t8, x8, hvv8⟩ := hv8.iface
                  have HV8 := Lib.hid hv8
                  subst hvv8
                  have hposB : decide (0 < k') = false := by simpa using hpos
                  clear hA8 hF8 hpos hv8 y0 y1
                  go_wp2_with (go_at_call 17; refine (is_chain _ _ _ 7 _ HV8.out).mono ?_; rintro e w' ⟨rfl, rfl⟩)
                  go_roundw
                  case rel => exact ⟨j + 1, k', by go_num, rfl, by omega, Lib.hid ⟨_, HST8.out, HNEW.out⟩⟩
                  case measure => simp [intOf]; omega
            · have hk0 : 0 ≤ a.k := HAO.out.1.1
              have hk1 : 0 ≤ k := hkb.1
              have hk2 : k ≤ 100 := by have := hkb.2; omega
              clear hkb hk'lo hk'hi
              have hpne : p.1 ≠ (n : Int) ∨ (p.1 = (n : Int) ∧ p.2 ≠ gen) := by
                have hp := HP.out h4 rfl
                by_cases h1 : p.1 = (n : Int)
                · exact .inr ⟨h1, fun h2 => hp (by rw [← h1, ← h2])⟩
                · exact .inl h1
              rcases hpne with hp1 | ⟨hp1, hp2⟩
              · by_cases heq : ho = ((n : Int), gen)
                · as_aux_lemma =>
                    obtain rfl : k' = k := by rw [HK'.out]; simp [h4]
                    subst heq
                    go_wp2_with fail
                    refine HDO.out.mono ?_
                    rintro e w6 ⟨⟨v6, rfl, rfl⟩, hA6, hF6⟩
                    have HST6 := Lib.hid ((HST.out.did hA6 hF6).alloc (.cells #[.int .i64 p.1, .int .u64 p.2] 34))
                    have HX6 := Lib.hid (Blk.new w6 34 #[.int .i64 p.1, .int .u64 p.2])
                    obtain ⟨x0, x1⟩ := hbox_c HX6.out
                    obtain ⟨y0, y1⟩ := hbox_c HST6.out.box
                    clear hA6 hF6 HST b0 b1 b2
                    have b0 := (HST6.out.be.cell (p := ⟨ba, oa + j * 3, none⟩) hba).trans HCA.out.1
                    have b1 := (HST6.out.be.cell (p := ⟨ba, oa + j * 3 + 1, none⟩) hba).trans HCA.out.2.1
                    have b2 := (HST6.out.be.cell (p := ⟨ba, oa + j * 3 + 2, none⟩) hba).trans HCA.out.2.2
                    go_wp2_with fail
                    go_region_held3 (fun w' => w'.cell? ⟨ba, oa + j * 3, none⟩ = some (.int .u8 a.k) ∧ w'.cell? ⟨ba, oa + j * 3 + 1, none⟩ = some (.int .u8 a.c) ∧ w'.cell? ⟨ba, oa + j * 3 + 2, none⟩ = some (.int .u8 a.d) ∧ w'.cell? ⟨gh, 0, none⟩ = some (.int .i64 n) ∧ w'.cell? ⟨gh, 1, none⟩ = some (.int .u64 gen))
                      (first | (with_reducible exact ⟨b0, b1, b2, y0, y1⟩) | (with_reducible exact ⟨b07, b17, b27, y07, y17⟩) | go_keep)
                      (first | (go_at_call 19; refine (ref_handle a.k a.c a.d HAO.out.2.1 HAO.out.2.2 _).mono ?_; rintro e w7 ⟨rfl, hb7⟩; rw [← HHO2.out]; have HST7 := Lib.hid ((HST6.out.keep (Below.refl _ _).drew).keep hb7); have b07 := (HST7.out.be.cell (p := ⟨ba, oa + j * 3, none⟩) hba).trans HCA.out.1; have b17 := (HST7.out.be.cell (p := ⟨ba, oa + j * 3 + 1, none⟩) hba).trans HCA.out.2.1; have b27 := (HST7.out.be.cell (p := ⟨ba, oa + j * 3 + 2, none⟩) hba).trans HCA.out.2.2; obtain ⟨y07, y17⟩ := hbox_c HST7.out.box; clear hb7))
                    clear x0 x1 y0 y1 b0 b1 b2 HST6 HX6
                    go_wp2_with fail
                    by_cases hpos : 0 < k'
                    · refine (HCP.out hpos _ (HST7.out).at_).mono ?_
                      rintro e w8 ⟨rfl, hA8, hF8⟩
                      have HST8 := Lib.hid ((HST7.out).did hA8 hF8)
                      have hposB : decide (0 < k') = true := by simpa using hpos
                      clear hA8 hF8 hpos y07 y17 b07 b17 b27
                      go_wp2
                      go_roundw
                      case rel => exact ⟨j + 1, k', by go_num, rfl, by omega, Lib.hid ⟨_, HST8.out, HNEW.out⟩⟩
                      case measure => simp [intOf]; omega
                    · refine (HCN.out (by omega) _ (HST7.out).at_).mono ?_
                      rintro e w8 ⟨⟨v8, rfl, hv8⟩, hA8, hF8⟩
                      have HST8 := Lib.hid ((HST7.out).did hA8 hF8)
                      obtain ⟨t8, x8, hvv8⟩ := hv8.iface
                      have HV8 := Lib.hid hv8
                      subst hvv8
                      have hposB : decide (0 < k') = false := by simpa using hpos
                      clear hA8 hF8 hpos hv8 y07 y17 b07 b17 b27
                      go_wp2_with (go_at_call 17; refine (is_chain _ _ _ 7 _ HV8.out).mono ?_; rintro e w' ⟨rfl, rfl⟩)
                      go_roundw
                      case rel => exact ⟨j + 1, k', by go_num, rfl, by omega, Lib.hid ⟨_, HST8.out, HNEW.out⟩⟩
                      case measure => simp [intOf]; omega
                · have hne : ho.1 ≠ (n : Int) ∨ (ho.1 = (n : Int) ∧ ho.2 ≠ gen) := by
                    by_cases h1 : ho.1 = (n : Int)
                    · exact .inr ⟨h1, fun h2 => heq (by rw [← h1, ← h2])⟩
                    · exact .inl h1
                  rcases hne with hne | ⟨hne, hne2⟩
                  · as_aux_lemma =>
                      obtain rfl : k' = k := by rw [HK'.out]; simp [h4, heq]
                      clear heq
                      go_wp2_with fail
                      refine HDO.out.mono ?_
                      rintro e w6 ⟨⟨v6, rfl, rfl⟩, hA6, hF6⟩
                      have HST6 := Lib.hid ((HST.out.did hA6 hF6).alloc (.cells #[.int .i64 p.1, .int .u64 p.2] 34))
                      have HX6 := Lib.hid (Blk.new w6 34 #[.int .i64 p.1, .int .u64 p.2])
                      obtain ⟨x0, x1⟩ := hbox_c HX6.out
                      obtain ⟨y0, y1⟩ := hbox_c HST6.out.box
                      clear hA6 hF6 HST b0 b1 b2
                      have b0 := (HST6.out.be.cell (p := ⟨ba, oa + j * 3, none⟩) hba).trans HCA.out.1
                      have b1 := (HST6.out.be.cell (p := ⟨ba, oa + j * 3 + 1, none⟩) hba).trans HCA.out.2.1
                      have b2 := (HST6.out.be.cell (p := ⟨ba, oa + j * 3 + 2, none⟩) hba).trans HCA.out.2.2
                      go_wp2_with fail
                      go_region_held3 (fun w' => w'.cell? ⟨ba, oa + j * 3, none⟩ = some (.int .u8 a.k) ∧ w'.cell? ⟨ba, oa + j * 3 + 1, none⟩ = some (.int .u8 a.c) ∧ w'.cell? ⟨ba, oa + j * 3 + 2, none⟩ = some (.int .u8 a.d) ∧ w'.cell? ⟨gh, 0, none⟩ = some (.int .i64 n) ∧ w'.cell? ⟨gh, 1, none⟩ = some (.int .u64 gen))
                        (first | (with_reducible exact ⟨b0, b1, b2, y0, y1⟩) | (with_reducible exact ⟨b07, b17, b27, y07, y17⟩) | go_keep)
                        (first | (go_at_call 19; refine (ref_handle a.k a.c a.d HAO.out.2.1 HAO.out.2.2 _).mono ?_; rintro e w7 ⟨rfl, hb7⟩; rw [← HHO2.out]; have HST7 := Lib.hid ((HST6.out.keep (Below.refl _ _).drew).keep hb7); have b07 := (HST7.out.be.cell (p := ⟨ba, oa + j * 3, none⟩) hba).trans HCA.out.1; have b17 := (HST7.out.be.cell (p := ⟨ba, oa + j * 3 + 1, none⟩) hba).trans HCA.out.2.1; have b27 := (HST7.out.be.cell (p := ⟨ba, oa + j * 3 + 2, none⟩) hba).trans HCA.out.2.2; obtain ⟨y07, y17⟩ := hbox_c HST7.out.box; clear hb7))
                      clear x0 x1 y0 y1 b0 b1 b2 HST6 HX6
                      go_wp2_with fail
                      by_cases hpos : 0 < k'
                      · refine (HCP.out hpos _ (HST7.out).at_).mono ?_
                        rintro e w8 ⟨rfl, hA8, hF8⟩
                        have HST8 := Lib.hid ((HST7.out).did hA8 hF8)
                        have hposB : decide (0 < k') = true := by simpa using hpos
                        clear hA8 hF8 hpos y07 y17 b07 b17 b27
                        go_wp2
                        go_roundw
                        case rel => exact ⟨j + 1, k', by go_num, rfl, by omega, Lib.hid ⟨_, HST8.out, HNEW.out⟩⟩
                        case measure => simp [intOf]; omega
                      · refine (HCN.out (by omega) _ (HST7.out).at_).mono ?_
                        rintro e w8 ⟨⟨v8, rfl, hv8⟩, hA8, hF8⟩
                        have HST8 := Lib.hid ((HST7.out).did hA8 hF8)
                        obtain ⟨t8, x8, hvv8⟩ := hv8.iface
                        have HV8 := Lib.hid hv8
                        subst hvv8
                        have hposB : decide (0 < k') = false := by simpa using hpos
                        clear hA8 hF8 hpos hv8 y07 y17 b07 b17 b27
                        go_wp2_with (go_at_call 17; refine (is_chain _ _ _ 7 _ HV8.out).mono ?_; rintro e w' ⟨rfl, rfl⟩)
                        go_roundw
                        case rel => exact ⟨j + 1, k', by go_num, rfl, by omega, Lib.hid ⟨_, HST8.out, HNEW.out⟩⟩
                        case measure => simp [intOf]; omega
                  · as_aux_lemma =>
                      obtain rfl : k' = k := by rw [HK'.out]; simp [h4, heq]
                      clear heq
                      go_wp2_with fail
                      refine HDO.out.mono ?_
                      rintro e w6 ⟨⟨v6, rfl, rfl⟩, hA6, hF6⟩
                      have HST6 := Lib.hid ((HST.out.did hA6 hF6).alloc (.cells #[.int .i64 p.1, .int .u64 p.2] 34))
                      have HX6 := Lib.hid (Blk.new w6 34 #[.int .i64 p.1, .int .u64 p.2])
                      obtain ⟨x0, x1⟩ := hbox_c HX6.out
                      obtain ⟨y0, y1⟩ := hbox_c HST6.out.box
                      clear hA6 hF6 HST b0 b1 b2
                      have b0 := (HST6.out.be.cell (p := ⟨ba, oa + j * 3, none⟩) hba).trans HCA.out.1
                      have b1 := (HST6.out.be.cell (p := ⟨ba, oa + j * 3 + 1, none⟩) hba).trans HCA.out.2.1
                      have b2 := (HST6.out.be.cell (p := ⟨ba, oa + j * 3 + 2, none⟩) hba).trans HCA.out.2.2
                      go_wp2_with fail
                      go_region_held3 (fun w' => w'.cell? ⟨ba, oa + j * 3, none⟩ = some (.int .u8 a.k) ∧ w'.cell? ⟨ba, oa + j * 3 + 1, none⟩ = some (.int .u8 a.c) ∧ w'.cell? ⟨ba, oa + j * 3 + 2, none⟩ = some (.int .u8 a.d) ∧ w'.cell? ⟨gh, 0, none⟩ = some (.int .i64 n) ∧ w'.cell? ⟨gh, 1, none⟩ = some (.int .u64 gen))
                        (first | (with_reducible exact ⟨b0, b1, b2, y0, y1⟩) | (with_reducible exact ⟨b07, b17, b27, y07, y17⟩) | go_keep)
                        (first | (go_at_call 19; refine (ref_handle a.k a.c a.d HAO.out.2.1 HAO.out.2.2 _).mono ?_; rintro e w7 ⟨rfl, hb7⟩; rw [← HHO2.out]; have HST7 := Lib.hid ((HST6.out.keep (Below.refl _ _).drew).keep hb7); have b07 := (HST7.out.be.cell (p := ⟨ba, oa + j * 3, none⟩) hba).trans HCA.out.1; have b17 := (HST7.out.be.cell (p := ⟨ba, oa + j * 3 + 1, none⟩) hba).trans HCA.out.2.1; have b27 := (HST7.out.be.cell (p := ⟨ba, oa + j * 3 + 2, none⟩) hba).trans HCA.out.2.2; obtain ⟨y07, y17⟩ := hbox_c HST7.out.box; clear hb7))
                      clear x0 x1 y0 y1 b0 b1 b2 HST6 HX6
                      go_wp2_with fail
                      by_cases hpos : 0 < k'
                      · refine (HCP.out hpos _ (HST7.out).at_).mono ?_
                        rintro e w8 ⟨rfl, hA8, hF8⟩
                        have HST8 := Lib.hid ((HST7.out).did hA8 hF8)
                        have hposB : decide (0 < k') = true := by simpa using hpos
                        clear hA8 hF8 hpos y07 y17 b07 b17 b27
                        go_wp2
                        go_roundw
                        case rel => exact ⟨j + 1, k', by go_num, rfl, by omega, Lib.hid ⟨_, HST8.out, HNEW.out⟩⟩
                        case measure => simp [intOf]; omega
                      · refine (HCN.out (by omega) _ (HST7.out).at_).mono ?_
                        rintro e w8 ⟨⟨v8, rfl, hv8⟩, hA8, hF8⟩
                        have HST8 := Lib.hid ((HST7.out).did hA8 hF8)
                        obtain ⟨t8, x8, hvv8⟩ := hv8.iface
                        have HV8 := Lib.hid hv8
                        subst hvv8
                        have hposB : decide (0 < k') = false := by simpa using hpos
                        clear hA8 hF8 hpos hv8 y07 y17 b07 b17 b27
                        go_wp2_with (go_at_call 17; refine (is_chain _ _ _ 7 _ HV8.out).mono ?_; rintro e w' ⟨rfl, rfl⟩)
                        go_roundw
                        case rel => exact ⟨j + 1, k', by go_num, rfl, by omega, Lib.hid ⟨_, HST8.out, HNEW.out⟩⟩
                        case measure => simp [intOf]; omega
              · obtain ⟨p1, p2⟩ := p
                simp only at hp1 hp2
                subst hp1
                by_cases heq : ho = ((n : Int), gen)
                · as_aux_lemma =>
                    obtain rfl : k' = k := by rw [HK'.out]; simp [h4]
                    subst heq
                    go_wp2_with fail
                    refine HDO.out.mono ?_
                    rintro e w6 ⟨⟨v6, rfl, rfl⟩, hA6, hF6⟩
                    have HST6 := Lib.hid ((HST.out.did hA6 hF6).alloc (.cells #[.int .i64 n, .int .u64 p2] 34))
                    have HX6 := Lib.hid (Blk.new w6 34 #[.int .i64 n, .int .u64 p2])
                    obtain ⟨x0, x1⟩ := hbox_c HX6.out
                    obtain ⟨y0, y1⟩ := hbox_c HST6.out.box
                    clear hA6 hF6 HST b0 b1 b2
                    have b0 := (HST6.out.be.cell (p := ⟨ba, oa + j * 3, none⟩) hba).trans HCA.out.1
                    have b1 := (HST6.out.be.cell (p := ⟨ba, oa + j * 3 + 1, none⟩) hba).trans HCA.out.2.1
                    have b2 := (HST6.out.be.cell (p := ⟨ba, oa + j * 3 + 2, none⟩) hba).trans HCA.out.2.2
                    go_wp2_with fail
                    go_region_held3 (fun w' => w'.cell? ⟨ba, oa + j * 3, none⟩ = some (.int .u8 a.k) ∧ w'.cell? ⟨ba, oa + j * 3 + 1, none⟩ = some (.int .u8 a.c) ∧ w'.cell? ⟨ba, oa + j * 3 + 2, none⟩ = some (.int .u8 a.d) ∧ w'.cell? ⟨gh, 0, none⟩ = some (.int .i64 n) ∧ w'.cell? ⟨gh, 1, none⟩ = some (.int .u64 gen))
                      (first | (with_reducible exact ⟨b0, b1, b2, y0, y1⟩) | (with_reducible exact ⟨b07, b17, b27, y07, y17⟩) | go_keep)
                      (first | (go_at_call 19; refine (ref_handle a.k a.c a.d HAO.out.2.1 HAO.out.2.2 _).mono ?_; rintro e w7 ⟨rfl, hb7⟩; rw [← HHO2.out]; have HST7 := Lib.hid ((HST6.out.keep (Below.refl _ _).drew).keep hb7); have b07 := (HST7.out.be.cell (p := ⟨ba, oa + j * 3, none⟩) hba).trans HCA.out.1; have b17 := (HST7.out.be.cell (p := ⟨ba, oa + j * 3 + 1, none⟩) hba).trans HCA.out.2.1; have b27 := (HST7.out.be.cell (p := ⟨ba, oa + j * 3 + 2, none⟩) hba).trans HCA.out.2.2; obtain ⟨y07, y17⟩ := hbox_c HST7.out.box; clear hb7))
                    clear x0 x1 y0 y1 b0 b1 b2 HST6 HX6
                    go_wp2_with fail
                    by_cases hpos : 0 < k'
                    · refine (HCP.out hpos _ (HST7.out).at_).mono ?_
                      rintro e w8 ⟨rfl, hA8, hF8⟩
                      have HST8 := Lib.hid ((HST7.out).did hA8 hF8)
                      have hposB : decide (0 < k') = true := by simpa using hpos
                      clear hA8 hF8 hpos y07 y17 b07 b17 b27
                      go_wp2
                      go_roundw
                      case rel => exact ⟨j + 1, k', by go_num, rfl, by omega, Lib.hid ⟨_, HST8.out, HNEW.out⟩⟩
                      case measure => simp [intOf]; omega
                    · refine (HCN.out (by omega) _ (HST7.out).at_).mono ?_
                      rintro e w8 ⟨⟨v8, rfl, hv8⟩, hA8, hF8⟩
                      have HST8 := Lib.hid ((HST7.out).did hA8 hF8)
                      obtain ⟨t8, x8, hvv8⟩ := hv8.iface
                      have HV8 := Lib.hid hv8
                      subst hvv8
                      have hposB : decide (0 < k') = false := by simpa using hpos
                      clear hA8 hF8 hpos hv8 y07 y17 b07 b17 b27
                      go_wp2_with (go_at_call 17; refine (is_chain _ _ _ 7 _ HV8.out).mono ?_; rintro e w' ⟨rfl, rfl⟩)
                      go_roundw
                      case rel => exact ⟨j + 1, k', by go_num, rfl, by omega, Lib.hid ⟨_, HST8.out, HNEW.out⟩⟩
                      case measure => simp [intOf]; omega
                · have hne : ho.1 ≠ (n : Int) ∨ (ho.1 = (n : Int) ∧ ho.2 ≠ gen) := by
                    by_cases h1 : ho.1 = (n : Int)
                    · exact .inr ⟨h1, fun h2 => heq (by rw [← h1, ← h2])⟩
                    · exact .inl h1
                  rcases hne with hne | ⟨hne, hne2⟩
                  · as_aux_lemma =>
                      obtain rfl : k' = k := by rw [HK'.out]; simp [h4, heq]
                      clear heq
                      go_wp2_with fail
                      refine HDO.out.mono ?_
                      rintro e w6 ⟨⟨v6, rfl, rfl⟩, hA6, hF6⟩
                      have HST6 := Lib.hid ((HST.out.did hA6 hF6).alloc (.cells #[.int .i64 n, .int .u64 p2] 34))
                      have HX6 := Lib.hid (Blk.new w6 34 #[.int .i64 n, .int .u64 p2])
                      obtain ⟨x0, x1⟩ := hbox_c HX6.out
                      obtain ⟨y0, y1⟩ := hbox_c HST6.out.box
                      clear hA6 hF6 HST b0 b1 b2
                      have b0 := (HST6.out.be.cell (p := ⟨ba, oa + j * 3, none⟩) hba).trans HCA.out.1
                      have b1 := (HST6.out.be.cell (p := ⟨ba, oa + j * 3 + 1, none⟩) hba).trans HCA.out.2.1
                      have b2 := (HST6.out.be.cell (p := ⟨ba, oa + j * 3 + 2, none⟩) hba).trans HCA.out.2.2
                      go_wp2_with fail
                      go_region_held3 (fun w' => w'.cell? ⟨ba, oa + j * 3, none⟩ = some (.int .u8 a.k) ∧ w'.cell? ⟨ba, oa + j * 3 + 1, none⟩ = some (.int .u8 a.c) ∧ w'.cell? ⟨ba, oa + j * 3 + 2, none⟩ = some (.int .u8 a.d) ∧ w'.cell? ⟨gh, 0, none⟩ = some (.int .i64 n) ∧ w'.cell? ⟨gh, 1, none⟩ = some (.int .u64 gen))
                        (first | (with_reducible exact ⟨b0, b1, b2, y0, y1⟩) | (with_reducible exact ⟨b07, b17, b27, y07, y17⟩) | go_keep)
                        (first | (go_at_call 19; refine (ref_handle a.k a.c a.d HAO.out.2.1 HAO.out.2.2 _).mono ?_; rintro e w7 ⟨rfl, hb7⟩; rw [← HHO2.out]; have HST7 := Lib.hid ((HST6.out.keep (Below.refl _ _).drew).keep hb7); have b07 := (HST7.out.be.cell (p := ⟨ba, oa + j * 3, none⟩) hba).trans HCA.out.1; have b17 := (HST7.out.be.cell (p := ⟨ba, oa + j * 3 + 1, none⟩) hba).trans HCA.out.2.1; have b27 := (HST7.out.be.cell (p := ⟨ba, oa + j * 3 + 2, none⟩) hba).trans HCA.out.2.2; obtain ⟨y07, y17⟩ := hbox_c HST7.out.box; clear hb7))
                      clear x0 x1 y0 y1 b0 b1 b2 HST6 HX6
                      go_wp2_with fail
                      by_cases hpos : 0 < k'
                      · refine (HCP.out hpos _ (HST7.out).at_).mono ?_
                        rintro e w8 ⟨rfl, hA8, hF8⟩
                        have HST8 := Lib.hid ((HST7.out).did hA8 hF8)
                        have hposB : decide (0 < k') = true := by simpa using hpos
                        clear hA8 hF8 hpos y07 y17 b07 b17 b27
                        go_wp2
                        go_roundw
                        case rel => exact ⟨j + 1, k', by go_num, rfl, by omega, Lib.hid ⟨_, HST8.out, HNEW.out⟩⟩
                        case measure => simp [intOf]; omega
                      · refine (HCN.out (by omega) _ (HST7.out).at_).mono ?_
                        rintro e w8 ⟨⟨v8, rfl, hv8⟩, hA8, hF8⟩
                        have HST8 := Lib.hid ((HST7.out).did hA8 hF8)
                        obtain ⟨t8, x8, hvv8⟩ := hv8.iface
                        have HV8 := Lib.hid hv8
                        subst hvv8
                        have hposB : decide (0 < k') = false := by simpa using hpos
                        clear hA8 hF8 hpos hv8 y07 y17 b07 b17 b27
                        go_wp2_with (go_at_call 17; refine (is_chain _ _ _ 7 _ HV8.out).mono ?_; rintro e w' ⟨rfl, rfl⟩)
                        go_roundw
                        case rel => exact ⟨j + 1, k', by go_num, rfl, by omega, Lib.hid ⟨_, HST8.out, HNEW.out⟩⟩
                        case measure => simp [intOf]; omega
                  · as_aux_lemma =>
                      obtain rfl : k' = k := by rw [HK'.out]; simp [h4, heq]
                      clear heq
                      go_wp2_with fail
                      refine HDO.out.mono ?_
                      rintro e w6 ⟨⟨v6, rfl, rfl⟩, hA6, hF6⟩
                      have HST6 := Lib.hid ((HST.out.did hA6 hF6).alloc (.cells #[.int .i64 n, .int .u64 p2] 34))
                      have HX6 := Lib.hid (Blk.new w6 34 #[.int .i64 n, .int .u64 p2])
                      obtain ⟨x0, x1⟩ := hbox_c HX6.out
                      obtain ⟨y0, y1⟩ := hbox_c HST6.out.box
                      clear hA6 hF6 HST b0 b1 b2
                      have b0 := (HST6.out.be.cell (p := ⟨ba, oa + j * 3, none⟩) hba).trans HCA.out.1
                      have b1 := (HST6.out.be.cell (p := ⟨ba, oa + j * 3 + 1, none⟩) hba).trans HCA.out.2.1
                      have b2 := (HST6.out.be.cell (p := ⟨ba, oa + j * 3 + 2, none⟩) hba).trans HCA.out.2.2
                      go_wp2_with fail
                      go_region_held3 (fun w' => w'.cell? ⟨ba, oa + j * 3, none⟩ = some (.int .u8 a.k) ∧ w'.cell? ⟨ba, oa + j * 3 + 1, none⟩ = some (.int .u8 a.c) ∧ w'.cell? ⟨ba, oa + j * 3 + 2, none⟩ = some (.int .u8 a.d) ∧ w'.cell? ⟨gh, 0, none⟩ = some (.int .i64 n) ∧ w'.cell? ⟨gh, 1, none⟩ = some (.int .u64 gen))
                        (first | (with_reducible exact ⟨b0, b1, b2, y0, y1⟩) | (with_reducible exact ⟨b07, b17, b27, y07, y17⟩) | go_keep)
                        (first | (go_at_call 19; refine (ref_handle a.k a.c a.d HAO.out.2.1 HAO.out.2.2 _).mono ?_; rintro e w7 ⟨rfl, hb7⟩; rw [← HHO2.out]; have HST7 := Lib.hid ((HST6.out.keep (Below.refl _ _).drew).keep hb7); have b07 := (HST7.out.be.cell (p := ⟨ba, oa + j * 3, none⟩) hba).trans HCA.out.1; have b17 := (HST7.out.be.cell (p := ⟨ba, oa + j * 3 + 1, none⟩) hba).trans HCA.out.2.1; have b27 := (HST7.out.be.cell (p := ⟨ba, oa + j * 3 + 2, none⟩) hba).trans HCA.out.2.2; obtain ⟨y07, y17⟩ := hbox_c HST7.out.box; clear hb7))
                      clear x0 x1 y0 y1 b0 b1 b2 HST6 HX6
                      go_wp2_with fail
                      by_cases hpos : 0 < k'
                      · refine (HCP.out hpos _ (HST7.out).at_).mono ?_
                        rintro e w8 ⟨rfl, hA8, hF8⟩
                        have HST8 := Lib.hid ((HST7.out).did hA8 hF8)
                        have hposB : decide (0 < k') = true := by simpa using hpos
                        clear hA8 hF8 hpos y07 y17 b07 b17 b27
                        go_wp2
                        go_roundw
                        case rel => exact ⟨j + 1, k', by go_num, rfl, by omega, Lib.hid ⟨_, HST8.out, HNEW.out⟩⟩
                        case measure => simp [intOf]; omega
                      · refine (HCN.out (by omega) _ (HST7.out).at_).mono ?_
                        rintro e w8 ⟨⟨v8, rfl, hv8⟩, hA8, hF8⟩
                        have HST8 := Lib.hid ((HST7.out).did hA8 hF8)
                        obtain ⟨t8, x8, hvv8⟩ := hv8.iface
                        have HV8 := Lib.hid hv8
                        subst hvv8
                        have hposB : decide (0 < k') = false := by simpa using hpos
                        clear hA8 hF8 hpos hv8 y07 y17 b07 b17 b27
                        go_wp2_with (go_at_call 17; refine (is_chain _ _ _ 7 _ HV8.out).mono ?_; rintro e w' ⟨rfl, rfl⟩)
                        go_roundw
                        case rel => exact ⟨j + 1, k', by go_num, rfl, by omega, Lib.hid ⟨_, HST8.out, HNEW.out⟩⟩
                        case measure => simp [intOf]; omega
            · have hk0 : 0 ≤ a.k := HAO.out.1.1
              have hk1 : 0 ≤ k := hkb.1
              have hk2 : k ≤ 100 := by have := hkb.2; omega
              clear hkb hk'lo hk'hi
              by_cases heq : ho = ((n : Int), gen)
              · as_aux_lemma =>
                  obtain rfl : k' = k + 1 := by rw [HK'.out]; simp [h4, heq]
                  subst heq
                  go_wp2_with fail
                  refine HDO.out.mono ?_
                  rintro e w6 ⟨⟨v6, rfl, rfl⟩, hA6, hF6⟩
                  have HST6 := Lib.hid ((HST.out.did hA6 hF6).alloc (.cells #[.int .i64 p.1, .int .u64 p.2] 34))
                  have HX6 := Lib.hid (Blk.new w6 34 #[.int .i64 p.1, .int .u64 p.2])
                  obtain ⟨x0, x1⟩ := hbox_c HX6.out
                  obtain ⟨y0, y1⟩ := hbox_c HST6.out.box
                  clear hA6 hF6 HST b0 b1 b2
                  have b0 := (HST6.out.be.cell (p := ⟨ba, oa + j * 3, none⟩) hba).trans HCA.out.1
                  have b1 := (HST6.out.be.cell (p := ⟨ba, oa + j * 3 + 1, none⟩) hba).trans HCA.out.2.1
                  have b2 := (HST6.out.be.cell (p := ⟨ba, oa + j * 3 + 2, none⟩) hba).trans HCA.out.2.2
                  go_wp2_with fail
                  go_region_held3 (fun w' => w'.cell? ⟨ba, oa + j * 3, none⟩ = some (.int .u8 a.k) ∧ w'.cell? ⟨ba, oa + j * 3 + 1, none⟩ = some (.int .u8 a.c) ∧ w'.cell? ⟨ba, oa + j * 3 + 2, none⟩ = some (.int .u8 a.d) ∧ w'.cell? ⟨gh, 0, none⟩ = some (.int .i64 n) ∧ w'.cell? ⟨gh, 1, none⟩ = some (.int .u64 gen))
                    (first | (with_reducible exact ⟨b0, b1, b2, y0, y1⟩) | (with_reducible exact ⟨b07, b17, b27, y07, y17⟩) | go_keep)
                    (first | (go_at_call 19; refine (ref_handle a.k a.c a.d HAO.out.2.1 HAO.out.2.2 _).mono ?_; rintro e w7 ⟨rfl, hb7⟩; rw [← HHO2.out]; have HST7 := Lib.hid ((HST6.out.keep (Below.refl _ _).drew).keep hb7); have b07 := (HST7.out.be.cell (p := ⟨ba, oa + j * 3, none⟩) hba).trans HCA.out.1; have b17 := (HST7.out.be.cell (p := ⟨ba, oa + j * 3 + 1, none⟩) hba).trans HCA.out.2.1; have b27 := (HST7.out.be.cell (p := ⟨ba, oa + j * 3 + 2, none⟩) hba).trans HCA.out.2.2; obtain ⟨y07, y17⟩ := hbox_c HST7.out.box; clear hb7))
                  clear x0 x1 y0 y1 b0 b1 b2 HST6 HX6
                  go_wp2_with fail
                  by_cases hpos : 0 < (k + 1)
                  · refine (HCP.out hpos _ (HST7.out).at_).mono ?_
                    rintro e w8 ⟨rfl, hA8, hF8⟩
                    have HST8 := Lib.hid ((HST7.out).did hA8 hF8)
                    have hposB : decide (0 < (k + 1)) = true := by simpa using hpos
                    clear hA8 hF8 hpos y07 y17 b07 b17 b27
                    go_wp2
                    go_roundw
                    case rel => exact ⟨j + 1, (k + 1), by go_num, by go_num, by omega, Lib.hid ⟨_, HST8.out, HNEW.out⟩⟩
                    case measure => simp [intOf]; omega
                  · refine (HCN.out (by omega) _ (HST7.out).at_).mono ?_
                    rintro e w8 ⟨⟨v8, rfl, hv8⟩, hA8, hF8⟩
                    have HST8 := Lib.hid ((HST7.out).did hA8 hF8)
                    obtain ⟨t8, x8, hvv8⟩ := hv8.iface
                    have HV8 := Lib.hid hv8
                    subst hvv8
                    have hposB : decide (0 < (k + 1)) = false := by simpa using hpos
                    clear hA8 hF8 hpos hv8 y07 y17 b07 b17 b27
                    go_wp2_with (go_at_call 17; refine (is_chain _ _ _ 7 _ HV8.out).mono ?_; rintro e w' ⟨rfl, rfl⟩)
                    go_roundw
                    case rel => exact ⟨j + 1, (k + 1), by go_num, by go_num, by omega, Lib.hid ⟨_, HST8.out, HNEW.out⟩⟩
                    case measure => simp [intOf]; omega
              · have hne : ho.1 ≠ (n : Int) ∨ (ho.1 = (n : Int) ∧ ho.2 ≠ gen) := by
                  by_cases h1 : ho.1 = (n : Int)
                  · exact .inr ⟨h1, fun h2 => heq (by rw [← h1, ← h2])⟩
                  · exact .inl h1
                rcases hne with hne | ⟨hne, hne2⟩
                · as_aux_lemma =>
                    obtain rfl : k' = k := by rw [HK'.out]; simp [h4, heq]
                    clear heq
                    go_wp2_with fail
                    refine HDO.out.mono ?_
                    rintro e w6 ⟨⟨v6, rfl, rfl⟩, hA6, hF6⟩
                    have HST6 := Lib.hid ((HST.out.did hA6 hF6).alloc (.cells #[.int .i64 p.1, .int .u64 p.2] 34))
                    have HX6 := Lib.hid (Blk.new w6 34 #[.int .i64 p.1, .int .u64 p.2])
                    obtain ⟨x0, x1⟩ := hbox_c HX6.out
                    obtain ⟨y0, y1⟩ := hbox_c HST6.out.box
                    clear hA6 hF6 HST b0 b1 b2
                    have b0 := (HST6.out.be.cell (p := ⟨ba, oa + j * 3, none⟩) hba).trans HCA.out.1
                    have b1 := (HST6.out.be.cell (p := ⟨ba, oa + j * 3 + 1, none⟩) hba).trans HCA.out.2.1
                    have b2 := (HST6.out.be.cell (p := ⟨ba, oa + j * 3 + 2, none⟩) hba).trans HCA.out.2.2
                    go_wp2_with fail
                    go_region_held3 (fun w' => w'.cell? ⟨ba, oa + j * 3, none⟩ = some (.int .u8 a.k) ∧ w'.cell? ⟨ba, oa + j * 3 + 1, none⟩ = some (.int .u8 a.c) ∧ w'.cell? ⟨ba, oa + j * 3 + 2, none⟩ = some (.int .u8 a.d) ∧ w'.cell? ⟨gh, 0, none⟩ = some (.int .i64 n) ∧ w'.cell? ⟨gh, 1, none⟩ = some (.int .u64 gen))
                      (first | (with_reducible exact ⟨b0, b1, b2, y0, y1⟩) | (with_reducible exact ⟨b07, b17, b27, y07, y17⟩) | go_keep)
                      (first | (go_at_call 19; refine (ref_handle a.k a.c a.d HAO.out.2.1 HAO.out.2.2 _).mono ?_; rintro e w7 ⟨rfl, hb7⟩; rw [← HHO2.out]; have HST7 := Lib.hid ((HST6.out.keep (Below.refl _ _).drew).keep hb7); have b07 := (HST7.out.be.cell (p := ⟨ba, oa + j * 3, none⟩) hba).trans HCA.out.1; have b17 := (HST7.out.be.cell (p := ⟨ba, oa + j * 3 + 1, none⟩) hba).trans HCA.out.2.1; have b27 := (HST7.out.be.cell (p := ⟨ba, oa + j * 3 + 2, none⟩) hba).trans HCA.out.2.2; obtain ⟨y07, y17⟩ := hbox_c HST7.out.box; clear hb7))
                    clear x0 x1 y0 y1 b0 b1 b2 HST6 HX6
                    go_wp2_with fail
                    by_cases hpos : 0 < k'
                    · refine (HCP.out hpos _ (HST7.out).at_).mono ?_
                      rintro e w8 ⟨rfl, hA8, hF8⟩
                      have HST8 := Lib.hid ((HST7.out).did hA8 hF8)
                      have hposB : decide (0 < k') = true := by simpa using hpos
                      clear hA8 hF8 hpos y07 y17 b07 b17 b27
                      go_wp2
                      go_roundw
                      case rel => exact ⟨j + 1, k', by go_num, rfl, by omega, Lib.hid ⟨_, HST8.out, HNEW.out⟩⟩
                      case measure => simp [intOf]; omega
                    · refine (HCN.out (by omega) _ (HST7.out).at_).mono ?_
                      rintro e w8 ⟨⟨v8, rfl, hv8⟩, hA8, hF8⟩
                      have HST8 := Lib.hid ((HST7.out).did hA8 hF8)
                      obtain ⟨t8, x8, hvv8⟩ := hv8.iface
                      have HV8 := Lib.hid hv8
                      subst hvv8
                      have hposB : decide (0 < k') = false := by simpa using hpos
                      clear hA8 hF8 hpos hv8 y07 y17 b07 b17 b27
                      go_wp2_with (go_at_call 17; refine (is_chain _ _ _ 7 _ HV8.out).mono ?_; rintro e w' ⟨rfl, rfl⟩)
                      go_roundw
                      case rel => exact ⟨j + 1, k', by go_num, rfl, by omega, Lib.hid ⟨_, HST8.out, HNEW.out⟩⟩
                      case measure => simp [intOf]; omega
                · as_aux_lemma =>
                    obtain rfl : k' = k := by rw [HK'.out]; simp [h4, heq]
                    clear heq
                    go_wp2_with fail
                    refine HDO.out.mono ?_
                    rintro e w6 ⟨⟨v6, rfl, rfl⟩, hA6, hF6⟩
                    have HST6 := Lib.hid ((HST.out.did hA6 hF6).alloc (.cells #[.int .i64 p.1, .int .u64 p.2] 34))
                    have HX6 := Lib.hid (Blk.new w6 34 #[.int .i64 p.1, .int .u64 p.2])
                    obtain ⟨x0, x1⟩ := hbox_c HX6.out
                    obtain ⟨y0, y1⟩ := hbox_c HST6.out.box
                    clear hA6 hF6 HST b0 b1 b2
                    have b0 := (HST6.out.be.cell (p := ⟨ba, oa + j * 3, none⟩) hba).trans HCA.out.1
                    have b1 := (HST6.out.be.cell (p := ⟨ba, oa + j * 3 + 1, none⟩) hba).trans HCA.out.2.1
                    have b2 := (HST6.out.be.cell (p := ⟨ba, oa + j * 3 + 2, none⟩) hba).trans HCA.out.2.2
                    go_wp2_with fail
                    go_region_held3 (fun w' => w'.cell? ⟨ba, oa + j * 3, none⟩ = some (.int .u8 a.k) ∧ w'.cell? ⟨ba, oa + j * 3 + 1, none⟩ = some (.int .u8 a.c) ∧ w'.cell? ⟨ba, oa + j * 3 + 2, none⟩ = some (.int .u8 a.d) ∧ w'.cell? ⟨gh, 0, none⟩ = some (.int .i64 n) ∧ w'.cell? ⟨gh, 1, none⟩ = some (.int .u64 gen))
                      (first | (with_reducible exact ⟨b0, b1, b2, y0, y1⟩) | (with_reducible exact ⟨b07, b17, b27, y07, y17⟩) | go_keep)
                      (first | (go_at_call 19; refine (ref_handle a.k a.c a.d HAO.out.2.1 HAO.out.2.2 _).mono ?_; rintro e w7 ⟨rfl, hb7⟩; rw [← HHO2.out]; have HST7 := Lib.hid ((HST6.out.keep (Below.refl _ _).drew).keep hb7); have b07 := (HST7.out.be.cell (p := ⟨ba, oa + j * 3, none⟩) hba).trans HCA.out.1; have b17 := (HST7.out.be.cell (p := ⟨ba, oa + j * 3 + 1, none⟩) hba).trans HCA.out.2.1; have b27 := (HST7.out.be.cell (p := ⟨ba, oa + j * 3 + 2, none⟩) hba).trans HCA.out.2.2; obtain ⟨y07, y17⟩ := hbox_c HST7.out.box; clear hb7))
                    clear x0 x1 y0 y1 b0 b1 b2 HST6 HX6
                    go_wp2_with fail
                    by_cases hpos : 0 < k'
                    · refine (HCP.out hpos _ (HST7.out).at_).mono ?_
                      rintro e w8 ⟨rfl, hA8, hF8⟩
                      have HST8 := Lib.hid ((HST7.out).did hA8 hF8)
                      have hposB : decide (0 < k') = true := by simpa using hpos
                      clear hA8 hF8 hpos y07 y17 b07 b17 b27
                      go_wp2
                      go_roundw
                      case rel => exact ⟨j + 1, k', by go_num, rfl, by omega, Lib.hid ⟨_, HST8.out, HNEW.out⟩⟩
                      case measure => simp [intOf]; omega
                    · refine (HCN.out (by omega) _ (HST7.out).at_).mono ?_
                      rintro e w8 ⟨⟨v8, rfl, hv8⟩, hA8, hF8⟩
                      have HST8 := Lib.hid ((HST7.out).did hA8 hF8)
                      obtain ⟨t8, x8, hvv8⟩ := hv8.iface
                      have HV8 := Lib.hid hv8
                      subst hvv8
                      have hposB : decide (0 < k') = false := by simpa using hpos
                      clear hA8 hF8 hpos hv8 y07 y17 b07 b17 b27
                      go_wp2_with (go_at_call 17; refine (is_chain _ _ _ 7 _ HV8.out).mono ?_; rintro e w' ⟨rfl, rfl⟩)
                      go_roundw
                      case rel => exact ⟨j + 1, k', by go_num, rfl, by omega, Lib.hid ⟨_, HST8.out, HNEW.out⟩⟩
                      case measure => simp [intOf]; omega
            · have hk0 : 0 ≤ a.k := HAO.out.1.1
              have hk1 : 0 ≤ k := hkb.1
              have hk2 : k ≤ 100 := by have := hkb.2; omega
              clear hkb hk'lo hk'hi
              by_cases heq : ho = ((n : Int), gen)
              · as_aux_lemma =>
                  obtain rfl : k' = k - 1 := by rw [HK'.out]; simp [h4, heq]; omega
                  subst heq
                  go_wp2_with fail
                  refine HDO.out.mono ?_
                  rintro e w6 ⟨⟨v6, rfl, rfl⟩, hA6, hF6⟩
                  have HST6 := Lib.hid ((HST.out.did hA6 hF6).alloc (.cells #[.int .i64 p.1, .int .u64 p.2] 34))
                  have HX6 := Lib.hid (Blk.new w6 34 #[.int .i64 p.1, .int .u64 p.2])
                  obtain ⟨x0, x1⟩ := hbox_c HX6.out
                  obtain ⟨y0, y1⟩ := hbox_c HST6.out.box
                  clear hA6 hF6 HST b0 b1 b2
                  have b0 := (HST6.out.be.cell (p := ⟨ba, oa + j * 3, none⟩) hba).trans HCA.out.1
                  have b1 := (HST6.out.be.cell (p := ⟨ba, oa + j * 3 + 1, none⟩) hba).trans HCA.out.2.1
                  have b2 := (HST6.out.be.cell (p := ⟨ba, oa + j * 3 + 2, none⟩) hba).trans HCA.out.2.2
                  go_wp2_with fail
                  go_region_held3 (fun w' => w'.cell? ⟨ba, oa + j * 3, none⟩ = some (.int .u8 a.k) ∧ w'.cell? ⟨ba, oa + j * 3 + 1, none⟩ = some (.int .u8 a.c) ∧ w'.cell? ⟨ba, oa + j * 3 + 2, none⟩ = some (.int .u8 a.d) ∧ w'.cell? ⟨gh, 0, none⟩ = some (.int .i64 n) ∧ w'.cell? ⟨gh, 1, none⟩ = some (.int .u64 gen))
                    (first | (with_reducible exact ⟨b0, b1, b2, y0, y1⟩) | (with_reducible exact ⟨b07, b17, b27, y07, y17⟩) | go_keep)
                    (first | (go_at_call 19; refine (ref_handle a.k a.c a.d HAO.out.2.1 HAO.out.2.2 _).mono ?_; rintro e w7 ⟨rfl, hb7⟩; rw [← HHO2.out]; have HST7 := Lib.hid ((HST6.out.keep (Below.refl _ _).drew).keep hb7); have b07 := (HST7.out.be.cell (p := ⟨ba, oa + j * 3, none⟩) hba).trans HCA.out.1; have b17 := (HST7.out.be.cell (p := ⟨ba, oa + j * 3 + 1, none⟩) hba).trans HCA.out.2.1; have b27 := (HST7.out.be.cell (p := ⟨ba, oa + j * 3 + 2, none⟩) hba).trans HCA.out.2.2; obtain ⟨y07, y17⟩ := hbox_c HST7.out.box; clear hb7))
                  clear x0 x1 y0 y1 b0 b1 b2 HST6 HX6
                  go_wp2_with fail
                  by_cases hpos : 0 < (k - 1)
                  · refine (HCP.out hpos _ (HST7.out).at_).mono ?_
                    rintro e w8 ⟨rfl, hA8, hF8⟩
                    have HST8 := Lib.hid ((HST7.out).did hA8 hF8)
                    have hposB : decide (0 < (k - 1)) = true := by simpa using hpos
                    have hposC : decide (1 < k) = true := by simp; omega
                    clear hA8 hF8 hpos y07 y17 b07 b17 b27
                    go_wp2
                    go_roundw
                    case rel => exact ⟨j + 1, (k - 1), by go_num, by go_num, by omega, Lib.hid ⟨_, HST8.out, HNEW.out⟩⟩
                    case measure => simp [intOf]; omega
                  · refine (HCN.out (by omega) _ (HST7.out).at_).mono ?_
                    rintro e w8 ⟨⟨v8, rfl, hv8⟩, hA8, hF8⟩
                    have HST8 := Lib.hid ((HST7.out).did hA8 hF8)
                    obtain ⟨t8, x8, hvv8⟩ := hv8.iface
                    have HV8 := Lib.hid hv8
                    subst hvv8
                    have hposB : decide (0 < (k - 1)) = false := by simpa using hpos
                    have hposC : decide (1 < k) = false := by simp; omega
                    clear hA8 hF8 hpos hv8 y07 y17 b07 b17 b27
                    go_wp2_with (go_at_call 17; refine (is_chain _ _ _ 7 _ HV8.out).mono ?_; rintro e w' ⟨rfl, rfl⟩)
                    go_roundw
                    case rel => exact ⟨j + 1, (k - 1), by go_num, by go_num, by omega, Lib.hid ⟨_, HST8.out, HNEW.out⟩⟩
                    case measure => simp [intOf]; omega
              · have hne : ho.1 ≠ (n : Int) ∨ (ho.1 = (n : Int) ∧ ho.2 ≠ gen) := by
                  by_cases h1 : ho.1 = (n : Int)
                  · exact .inr ⟨h1, fun h2 => heq (by rw [← h1, ← h2])⟩
                  · exact .inl h1
                rcases hne with hne | ⟨hne, hne2⟩
                · as_aux_lemma =>
                    obtain rfl : k' = k := by rw [HK'.out]; simp [h4, heq]
                    clear heq
                    go_wp2_with fail
                    refine HDO.out.mono ?_
                    rintro e w6 ⟨⟨v6, rfl, rfl⟩, hA6, hF6⟩
                    have HST6 := Lib.hid ((HST.out.did hA6 hF6).alloc (.cells #[.int .i64 p.1, .int .u64 p.2] 34))
                    have HX6 := Lib.hid (Blk.new w6 34 #[.int .i64 p.1, .int .u64 p.2])
                    obtain ⟨x0, x1⟩ := hbox_c HX6.out
                    obtain ⟨y0, y1⟩ := hbox_c HST6.out.box
                    clear hA6 hF6 HST b0 b1 b2
                    have b0 := (HST6.out.be.cell (p := ⟨ba, oa + j * 3, none⟩) hba).trans HCA.out.1
                    have b1 := (HST6.out.be.cell (p := ⟨ba, oa + j * 3 + 1, none⟩) hba).trans HCA.out.2.1
                    have b2 := (HST6.out.be.cell (p := ⟨ba, oa + j * 3 + 2, none⟩) hba).trans HCA.out.2.2
                    go_wp2_with fail
                    go_region_held3 (fun w' => w'.cell? ⟨ba, oa + j * 3, none⟩ = some (.int .u8 a.k) ∧ w'.cell? ⟨ba, oa + j * 3 + 1, none⟩ = some (.int .u8 a.c) ∧ w'.cell? ⟨ba, oa + j * 3 + 2, none⟩ = some (.int .u8 a.d) ∧ w'.cell? ⟨gh, 0, none⟩ = some (.int .i64 n) ∧ w'.cell? ⟨gh, 1, none⟩ = some (.int .u64 gen))
                      (first | (with_reducible exact ⟨b0, b1, b2, y0, y1⟩) | (with_reducible exact ⟨b07, b17, b27, y07, y17⟩) | go_keep)
                      (first | (go_at_call 19; refine (ref_handle a.k a.c a.d HAO.out.2.1 HAO.out.2.2 _).mono ?_; rintro e w7 ⟨rfl, hb7⟩; rw [← HHO2.out]; have HST7 := Lib.hid ((HST6.out.keep (Below.refl _ _).drew).keep hb7); have b07 := (HST7.out.be.cell (p := ⟨ba, oa + j * 3, none⟩) hba).trans HCA.out.1; have b17 := (HST7.out.be.cell (p := ⟨ba, oa + j * 3 + 1, none⟩) hba).trans HCA.out.2.1; have b27 := (HST7.out.be.cell (p := ⟨ba, oa + j * 3 + 2, none⟩) hba).trans HCA.out.2.2; obtain ⟨y07, y17⟩ := hbox_c HST7.out.box; clear hb7))
                    clear x0 x1 y0 y1 b0 b1 b2 HST6 HX6
                    go_wp2_with fail
                    by_cases hpos : 0 < k'
                    · refine (HCP.out hpos _ (HST7.out).at_).mono ?_
                      rintro e w8 ⟨rfl, hA8, hF8⟩
                      have HST8 := Lib.hid ((HST7.out).did hA8 hF8)
                      have hposB : decide (0 < k') = true := by simpa using hpos
                      clear hA8 hF8 hpos y07 y17 b07 b17 b27
                      go_wp2
                      go_roundw
                      case rel => exact ⟨j + 1, k', by go_num, rfl, by omega, Lib.hid ⟨_, HST8.out, HNEW.out⟩⟩
                      case measure => simp [intOf]; omega
                    · refine (HCN.out (by omega) _ (HST7.out).at_).mono ?_
                      rintro e w8 ⟨⟨v8, rfl, hv8⟩, hA8, hF8⟩
                      have HST8 := Lib.hid ((HST7.out).did hA8 hF8)
                      obtain ⟨t8, x8, hvv8⟩ := hv8.iface
                      have HV8 := Lib.hid hv8
                      subst hvv8
                      have hposB : decide (0 < k') = false := by simpa using hpos
                      clear hA8 hF8 hpos hv8 y07 y17 b07 b17 b27
                      go_wp2_with (go_at_call 17; refine (is_chain _ _ _ 7 _ HV8.out).mono ?_; rintro e w' ⟨rfl, rfl⟩)
                      go_roundw
                      case rel => exact ⟨j + 1, k', by go_num, rfl, by omega, Lib.hid ⟨_, HST8.out, HNEW.out⟩⟩
                      case measure => simp [intOf]; omega
                · as_aux_lemma =>
                    obtain rfl : k' = k := by rw [HK'.out]; simp [h4, heq]
                    clear heq
                    go_wp2_with fail
                    refine HDO.out.mono ?_
                    rintro e w6 ⟨⟨v6, rfl, rfl⟩, hA6, hF6⟩
                    have HST6 := Lib.hid ((HST.out.did hA6 hF6).alloc (.cells #[.int .i64 p.1, .int .u64 p.2] 34))
                    have HX6 := Lib.hid (Blk.new w6 34 #[.int .i64 p.1, .int .u64 p.2])
                    obtain ⟨x0, x1⟩ := hbox_c HX6.out
                    obtain ⟨y0, y1⟩ := hbox_c HST6.out.box
                    clear hA6 hF6 HST b0 b1 b2
                    have b0 := (HST6.out.be.cell (p := ⟨ba, oa + j * 3, none⟩) hba).trans HCA.out.1
                    have b1 := (HST6.out.be.cell (p := ⟨ba, oa + j * 3 + 1, none⟩) hba).trans HCA.out.2.1
                    have b2 := (HST6.out.be.cell (p := ⟨ba, oa + j * 3 + 2, none⟩) hba).trans HCA.out.2.2
                    go_wp2_with fail
                    go_region_held3 (fun w' => w'.cell? ⟨ba, oa + j * 3, none⟩ = some (.int .u8 a.k) ∧ w'.cell? ⟨ba, oa + j * 3 + 1, none⟩ = some (.int .u8 a.c) ∧ w'.cell? ⟨ba, oa + j * 3 + 2, none⟩ = some (.int .u8 a.d) ∧ w'.cell? ⟨gh, 0, none⟩ = some (.int .i64 n) ∧ w'.cell? ⟨gh, 1, none⟩ = some (.int .u64 gen))
                      (first | (with_reducible exact ⟨b0, b1, b2, y0, y1⟩) | (with_reducible exact ⟨b07, b17, b27, y07, y17⟩) | go_keep)
                      (first | (go_at_call 19; refine (ref_handle a.k a.c a.d HAO.out.2.1 HAO.out.2.2 _).mono ?_; rintro e w7 ⟨rfl, hb7⟩; rw [← HHO2.out]; have HST7 := Lib.hid ((HST6.out.keep (Below.refl _ _).drew).keep hb7); have b07 := (HST7.out.be.cell (p := ⟨ba, oa + j * 3, none⟩) hba).trans HCA.out.1; have b17 := (HST7.out.be.cell (p := ⟨ba, oa + j * 3 + 1, none⟩) hba).trans HCA.out.2.1; have b27 := (HST7.out.be.cell (p := ⟨ba, oa + j * 3 + 2, none⟩) hba).trans HCA.out.2.2; obtain ⟨y07, y17⟩ := hbox_c HST7.out.box; clear hb7))
                    clear x0 x1 y0 y1 b0 b1 b2 HST6 HX6
                    go_wp2_with fail
                    by_cases hpos : 0 < k'
                    · refine (HCP.out hpos _ (HST7.out).at_).mono ?_
                      rintro e w8 ⟨rfl, hA8, hF8⟩
                      have HST8 := Lib.hid ((HST7.out).did hA8 hF8)
                      have hposB : decide (0 < k') = true := by simpa using hpos
                      clear hA8 hF8 hpos y07 y17 b07 b17 b27
                      go_wp2
                      go_roundw
                      case rel => exact ⟨j + 1, k', by go_num, rfl, by omega, Lib.hid ⟨_, HST8.out, HNEW.out⟩⟩
                      case measure => simp [intOf]; omega
                    · refine (HCN.out (by omega) _ (HST7.out).at_).mono ?_
                      rintro e w8 ⟨⟨v8, rfl, hv8⟩, hA8, hF8⟩
                      have HST8 := Lib.hid ((HST7.out).did hA8 hF8)
                      obtain ⟨t8, x8, hvv8⟩ := hv8.iface
                      have HV8 := Lib.hid hv8
                      subst hvv8
                      have hposB : decide (0 < k') = false := by simpa using hpos
                      clear hA8 hF8 hpos hv8 y07 y17 b07 b17 b27
                      go_wp2_with (go_at_call 17; refine (is_chain _ _ _ 7 _ HV8.out).mono ?_; rintro e w' ⟨rfl, rfl⟩)
                      go_roundw
                      case rel => exact ⟨j + 1, k', by go_num, rfl, by omega, Lib.hid ⟨_, HST8.out, HNEW.out⟩⟩
                      case measure => simp [intOf]; omega
            · have hk0 : 0 ≤ a.k := HAO.out.1.1
              have hk1 : 0 ≤ k := hkb.1
              have hk2 : k ≤ 100 := by have := hkb.2; omega
              clear hkb hk'lo hk'hi
              by_cases heq : ho = ((n : Int), gen)
              · as_aux_lemma =>
                  obtain rfl : k' = k := by rw [HK'.out]; simp [h4]
                  subst heq
                  go_wp2_with fail
                  refine HDO.out.mono ?_
                  rintro e w6 ⟨⟨v6, rfl, rfl⟩, hA6, hF6⟩
                  have HST6 := Lib.hid ((HST.out.did hA6 hF6).alloc (.cells #[.int .i64 p.1, .int .u64 p.2] 34))
                  have HX6 := Lib.hid (Blk.new w6 34 #[.int .i64 p.1, .int .u64 p.2])
                  obtain ⟨x0, x1⟩ := hbox_c HX6.out
                  obtain ⟨y0, y1⟩ := hbox_c HST6.out.box
                  clear hA6 hF6 HST b0 b1 b2
                  have b0 := (HST6.out.be.cell (p := ⟨ba, oa + j * 3, none⟩) hba).trans HCA.out.1
                  have b1 := (HST6.out.be.cell (p := ⟨ba, oa + j * 3 + 1, none⟩) hba).trans HCA.out.2.1
                  have b2 := (HST6.out.be.cell (p := ⟨ba, oa + j * 3 + 2, none⟩) hba).trans HCA.out.2.2
                  go_wp2_with fail
                  go_region_held3 (fun w' => w'.cell? ⟨ba, oa + j * 3, none⟩ = some (.int .u8 a.k) ∧ w'.cell? ⟨ba, oa + j * 3 + 1, none⟩ = some (.int .u8 a.c) ∧ w'.cell? ⟨ba, oa + j * 3 + 2, none⟩ = some (.int .u8 a.d) ∧ w'.cell? ⟨gh, 0, none⟩ = some (.int .i64 n) ∧ w'.cell? ⟨gh, 1, none⟩ = some (.int .u64 gen))
                    (first | (with_reducible exact ⟨b0, b1, b2, y0, y1⟩) | (with_reducible exact ⟨b07, b17, b27, y07, y17⟩) | go_keep)
                    (first | (go_at_call 19; refine (ref_handle a.k a.c a.d HAO.out.2.1 HAO.out.2.2 _).mono ?_; rintro e w7 ⟨rfl, hb7⟩; rw [← HHO2.out]; have HST7 := Lib.hid ((HST6.out.keep (Below.refl _ _).drew).keep hb7); have b07 := (HST7.out.be.cell (p := ⟨ba, oa + j * 3, none⟩) hba).trans HCA.out.1; have b17 := (HST7.out.be.cell (p := ⟨ba, oa + j * 3 + 1, none⟩) hba).trans HCA.out.2.1; have b27 := (HST7.out.be.cell (p := ⟨ba, oa + j * 3 + 2, none⟩) hba).trans HCA.out.2.2; obtain ⟨y07, y17⟩ := hbox_c HST7.out.box; clear hb7))
                  clear x0 x1 y0 y1 b0 b1 b2 HST6 HX6
                  go_wp2_with fail
                  by_cases hpos : 0 < k'
                  · refine (HCP.out hpos _ (HST7.out).at_).mono ?_
                    rintro e w8 ⟨rfl, hA8, hF8⟩
                    have HST8 := Lib.hid ((HST7.out).did hA8 hF8)
                    have hposB : decide (0 < k') = true := by simpa using hpos
                    clear hA8 hF8 hpos y07 y17 b07 b17 b27
                    go_wp2
                    go_roundw
                    case rel => exact ⟨j + 1, k', by go_num, rfl, by omega, Lib.hid ⟨_, HST8.out, HNEW.out⟩⟩
                    case measure => simp [intOf]; omega
                  · refine (HCN.out (by omega) _ (HST7.out).at_).mono ?_
                    rintro e w8 ⟨⟨v8, rfl, hv8⟩, hA8, hF8⟩
                    have HST8 := Lib.hid ((HST7.out).did hA8 hF8)
                    obtain ⟨t8, x8, hvv8⟩ := hv8.iface
                    have HV8 := Lib.hid hv8
                    subst hvv8
                    have hposB : decide (0 < k') = false := by simpa using hpos
                    clear hA8 hF8 hpos hv8 y07 y17 b07 b17 b27
                    go_wp2_with (go_at_call 17; refine (is_chain _ _ _ 7 _ HV8.out).mono ?_; rintro e w' ⟨rfl, rfl⟩)
                    go_roundw
                    case rel => exact ⟨j + 1, k', by go_num, rfl, by omega, Lib.hid ⟨_, HST8.out, HNEW.out⟩⟩
                    case measure => simp [intOf]; omega
              · have hne : ho.1 ≠ (n : Int) ∨ (ho.1 = (n : Int) ∧ ho.2 ≠ gen) := by
                  by_cases h1 : ho.1 = (n : Int)
                  · exact .inr ⟨h1, fun h2 => heq (by rw [← h1, ← h2])⟩
                  · exact .inl h1
                rcases hne with hne | ⟨hne, hne2⟩
                · as_aux_lemma =>
                    obtain rfl : k' = k := by rw [HK'.out]; simp [h4, heq]
                    clear heq
                    go_wp2_with fail
                    refine HDO.out.mono ?_
                    rintro e w6 ⟨⟨v6, rfl, rfl⟩, hA6, hF6⟩
                    have HST6 := Lib.hid ((HST.out.did hA6 hF6).alloc (.cells #[.int .i64 p.1, .int .u64 p.2] 34))
                    have HX6 := Lib.hid (Blk.new w6 34 #[.int .i64 p.1, .int .u64 p.2])
                    obtain ⟨x0, x1⟩ := hbox_c HX6.out
                    obtain ⟨y0, y1⟩ := hbox_c HST6.out.box
                    clear hA6 hF6 HST b0 b1 b2
                    have b0 := (HST6.out.be.cell (p := ⟨ba, oa + j * 3, none⟩) hba).trans HCA.out.1
                    have b1 := (HST6.out.be.cell (p := ⟨ba, oa + j * 3 + 1, none⟩) hba).trans HCA.out.2.1
                    have b2 := (HST6.out.be.cell (p := ⟨ba, oa + j * 3 + 2, none⟩) hba).trans HCA.out.2.2
                    go_wp2_with fail
                    go_region_held3 (fun w' => w'.cell? ⟨ba, oa + j * 3, none⟩ = some (.int .u8 a.k) ∧ w'.cell? ⟨ba, oa + j * 3 + 1, none⟩ = some (.int .u8 a.c) ∧ w'.cell? ⟨ba, oa + j * 3 + 2, none⟩ = some (.int .u8 a.d) ∧ w'.cell? ⟨gh, 0, none⟩ = some (.int .i64 n) ∧ w'.cell? ⟨gh, 1, none⟩ = some (.int .u64 gen))
                      (first | (with_reducible exact ⟨b0, b1, b2, y0, y1⟩) | (with_reducible exact ⟨b07, b17, b27, y07, y17⟩) | go_keep)
                      (first | (go_at_call 19; refine (ref_handle a.k a.c a.d HAO.out.2.1 HAO.out.2.2 _).mono ?_; rintro e w7 ⟨rfl, hb7⟩; rw [← HHO2.out]; have HST7 := Lib.hid ((HST6.out.keep (Below.refl _ _).drew).keep hb7); have b07 := (HST7.out.be.cell (p := ⟨ba, oa + j * 3, none⟩) hba).trans HCA.out.1; have b17 := (HST7.out.be.cell (p := ⟨ba, oa + j * 3 + 1, none⟩) hba).trans HCA.out.2.1; have b27 := (HST7.out.be.cell (p := ⟨ba, oa + j * 3 + 2, none⟩) hba).trans HCA.out.2.2; obtain ⟨y07, y17⟩ := hbox_c HST7.out.box; clear hb7))
                    clear x0 x1 y0 y1 b0 b1 b2 HST6 HX6
                    go_wp2_with fail
                    by_cases hpos : 0 < k'
                    · refine (HCP.out hpos _ (HST7.out).at_).mono ?_
                      rintro e w8 ⟨rfl, hA8, hF8⟩
                      have HST8 := Lib.hid ((HST7.out).did hA8 hF8)
                      have hposB : decide (0 < k') = true := by simpa using hpos
                      clear hA8 hF8 hpos y07 y17 b07 b17 b27
                      go_wp2
                      go_roundw
                      case rel => exact ⟨j + 1, k', by go_num, rfl, by omega, Lib.hid ⟨_, HST8.out, HNEW.out⟩⟩
                      case measure => simp [intOf]; omega
                    · refine (HCN.out (by omega) _ (HST7.out).at_).mono ?_
                      rintro e w8 ⟨⟨v8, rfl, hv8⟩, hA8, hF8⟩
                      have HST8 := Lib.hid ((HST7.out).did hA8 hF8)
                      obtain ⟨t8, x8, hvv8⟩ := hv8.iface
                      have HV8 := Lib.hid hv8
                      subst hvv8
                      have hposB : decide (0 < k') = false := by simpa using hpos
                      clear hA8 hF8 hpos hv8 y07 y17 b07 b17 b27
                      go_wp2_with (go_at_call 17; refine (is_chain _ _ _ 7 _ HV8.out).mono ?_; rintro e w' ⟨rfl, rfl⟩)
                      go_roundw
                      case rel => exact ⟨j + 1, k', by go_num, rfl, by omega, Lib.hid ⟨_, HST8.out, HNEW.out⟩⟩
                      case measure => simp [intOf]; omega
                · as_aux_lemma =>
                    obtain rfl : k' = k := by rw [HK'.out]; simp [h4, heq]
                    clear heq
                    go_wp2_with fail
                    refine HDO.out.mono ?_
                    rintro e w6 ⟨⟨v6, rfl, rfl⟩, hA6, hF6⟩
                    have HST6 := Lib.hid ((HST.out.did hA6 hF6).alloc (.cells #[.int .i64 p.1, .int .u64 p.2] 34))
                    have HX6 := Lib.hid (Blk.new w6 34 #[.int .i64 p.1, .int .u64 p.2])
                    obtain ⟨x0, x1⟩ := hbox_c HX6.out
                    obtain ⟨y0, y1⟩ := hbox_c HST6.out.box
                    clear hA6 hF6 HST b0 b1 b2
                    have b0 := (HST6.out.be.cell (p := ⟨ba, oa + j * 3, none⟩) hba).trans HCA.out.1
                    have b1 := (HST6.out.be.cell (p := ⟨ba, oa + j * 3 + 1, none⟩) hba).trans HCA.out.2.1
                    have b2 := (HST6.out.be.cell (p := ⟨ba, oa + j * 3 + 2, none⟩) hba).trans HCA.out.2.2
                    go_wp2_with fail
                    go_region_held3 (fun w' => w'.cell? ⟨ba, oa + j * 3, none⟩ = some (.int .u8 a.k) ∧ w'.cell? ⟨ba, oa + j * 3 + 1, none⟩ = some (.int .u8 a.c) ∧ w'.cell? ⟨ba, oa + j * 3 + 2, none⟩ = some (.int .u8 a.d) ∧ w'.cell? ⟨gh, 0, none⟩ = some (.int .i64 n) ∧ w'.cell? ⟨gh, 1, none⟩ = some (.int .u64 gen))
                      (first | (with_reducible exact ⟨b0, b1, b2, y0, y1⟩) | (with_reducible exact ⟨b07, b17, b27, y07, y17⟩) | go_keep)
                      (first | (go_at_call 19; refine (ref_handle a.k a.c a.d HAO.out.2.1 HAO.out.2.2 _).mono ?_; rintro e w7 ⟨rfl, hb7⟩; rw [← HHO2.out]; have HST7 := Lib.hid ((HST6.out.keep (Below.refl _ _).drew).keep hb7); have b07 := (HST7.out.be.cell (p := ⟨ba, oa + j * 3, none⟩) hba).trans HCA.out.1; have b17 := (HST7.out.be.cell (p := ⟨ba, oa + j * 3 + 1, none⟩) hba).trans HCA.out.2.1; have b27 := (HST7.out.be.cell (p := ⟨ba, oa + j * 3 + 2, none⟩) hba).trans HCA.out.2.2; obtain ⟨y07, y17⟩ := hbox_c HST7.out.box; clear hb7))
                    clear x0 x1 y0 y1 b0 b1 b2 HST6 HX6
                    go_wp2_with fail
                    by_cases hpos : 0 < k'
                    · refine (HCP.out hpos _ (HST7.out).at_).mono ?_
                      rintro e w8 ⟨rfl, hA8, hF8⟩
                      have HST8 := Lib.hid ((HST7.out).did hA8 hF8)
                      have hposB : decide (0 < k') = true := by simpa using hpos
                      clear hA8 hF8 hpos y07 y17 b07 b17 b27
                      go_wp2
                      go_roundw
                      case rel => exact ⟨j + 1, k', by go_num, rfl, by omega, Lib.hid ⟨_, HST8.out, HNEW.out⟩⟩
                      case measure => simp [intOf]; omega
                    · refine (HCN.out (by omega) _ (HST7.out).at_).mono ?_
                      rintro e w8 ⟨⟨v8, rfl, hv8⟩, hA8, hF8⟩
                      have HST8 := Lib.hid ((HST7.out).did hA8 hF8)
                      obtain ⟨t8, x8, hvv8⟩ := hv8.iface
                      have HV8 := Lib.hid hv8
                      subst hvv8
                      have hposB : decide (0 < k') = false := by simpa using hpos
                      clear hA8 hF8 hpos hv8 y07 y17 b07 b17 b27
                      go_wp2_with (go_at_call 17; refine (is_chain _ _ _ 7 _ HV8.out).mono ?_; rintro e w' ⟨rfl, rfl⟩)
                      go_roundw
                      case rel => exact ⟨j + 1, k', by go_num, rfl, by omega, Lib.hid ⟨_, HST8.out, HNEW.out⟩⟩
                      case measure => simp [intOf]; omega
          · obtain rfl : j = l2.length := by omega
            have HST := Lib.hid hst
            clear hst hho
            go_wp2
            go_ret
            exact ⟨rfl, HST.out.be⟩
    · have hlI : decide ((40 : Int) < (l.length : Int)) = false := by simp; omega
      have hlI2 : decide ((40 : Int) < (l2.length : Int)) = true := by simp; omega
      clear hl hl2
      go_enter Tryd.func5, Tryd.ntmps5
      go_wp2_with fail
      refine (awake_calls _).mono ?_
      rintro e w1 ⟨rfl, hb1⟩
      have HB1 := Lib.hid (belowOn ((Below.refl w.heap.size w).alloc (Nat.le_refl _) (.cells #[.int .u8 n0, .int .u8 n1] 22)) (by simp) hb1)
      clear hb1
      go_wp2
      go_ret
      exact ⟨rfl, HB1.out⟩
  · have hlI : decide ((40 : Int) < (l.length : Int)) = true := by simp; omega
    clear hl
    go_enter Tryd.func5, Tryd.ntmps5
    go_wp2_with fail
    refine (awake_calls _).mono ?_
    rintro e w1 ⟨rfl, hb1⟩
    have HB1 := Lib.hid (belowOn ((Below.refl w.heap.size w).alloc (Nat.le_refl _) (.cells #[.int .u8 n0, .int .u8 n1] 22)) (by simp) hb1)
    clear hb1
    go_wp2
    go_ret
    exact ⟨rfl, HB1.out⟩
end Go.Proofs.YtkmmnmicmjohgaaDoor
