/- The program's read: a number with which a text begins. -/
import Derived.Test.YtbeibfhnbnmocaaDoorPunyNumber
set_option linter.unusedVariables false
set_option linter.unusedSimpArgs false
set_option maxRecDepth 100000
namespace Go.Proofs.YtbeibfhnbnmocaaDoor
open Go.RowKit Go.Proofs.YtbeibfhnbnmocaaDoor.Plain Puny

def digs : ByteArray := ⟨#[97, 98, 99, 100, 101, 102, 103, 104, 105, 106, 107, 108, 109, 110, 111, 112, 113, 114, 115, 116, 117, 118, 119, 120, 121, 122, 48, 49, 50, 51, 52, 53, 54, 55, 56, 57]⟩
def valZ : Option Nat → Int
  | some d => d
  | none => -1
theorem index_digs (c : UInt8) : Lib.indexByte digs.data.toList (small c) = valZ (value c) := by
  have h : ∀ n : Nat, n < 256 → Lib.indexByte digs.data.toList (small (UInt8.ofNat n)) = valZ (value (UInt8.ofNat n)) := by decide +kernel
  have := h c.toNat c.toNat_lt
  rwa [UInt8.ofNat_toNat] at this
theorem small_nat (c : UInt8) : ((small c).toNat : Int) = if 65 ≤ (c.toNat : Int) ∧ (c.toNat : Int) ≤ 90 then (c.toNat : Int) + 32 else c.toNat := by
  have h : ∀ n : Nat, n < 256 → ((small (UInt8.ofNat n)).toNat : Int) = if 65 ≤ ((UInt8.ofNat n).toNat : Int) ∧ ((UInt8.ofNat n).toNat : Int) ≤ 90 then ((UInt8.ofNat n).toNat : Int) + 32 else (UInt8.ofNat n).toNat := by decide +kernel
  have := h c.toNat c.toNat_lt
  rwa [UInt8.ofNat_toNat] at this
/-- What the program's read tells: a number, and how many bytes it has. -/
def readV (s : List UInt8) : Option (Nat × List UInt8) → Value
  | none => .tuple #[.int .i64 0, .int .i64 0]
  | some r => .tuple #[.int .i64 r.1, .int .i64 (s.length - r.2.length : Nat)]
set_option maxHeartbeats 4000000 in
theorem read_calls (s : ByteArray) (b : Nat) (hs : s.size ≤ 100000) (hb : b ≤ 1125899906842624) (w : World) :
    Calls Tryd.prog 31 #[.string s, .int .i64 b] w fun e w' => e = .returned (readV s.data.toList (readW s.data.toList 0 1 36 b)) ∧ Below w.heap.size w w' := by
  have HT := Lib.hid (fun (k : Nat) (hk : k ≤ 1152921504606846976) W => threshold_calls k b hk (by omega) W)
  obtain ⟨R, hR0⟩ : ∃ R, R = readW s.data.toList 0 1 36 b := ⟨_, rfl⟩
  rw [← hR0]
  have HR0 := Lib.hid hR0
  clear hR0
  go_enter Tryd.func31, Tryd.ntmps31
  go_wp2
  go_step3
  go_wp2
  go_step3
  go_wp2
  go_loopg [6, 7, 8] s.size (fun n v6 v7 v8 w' => Hid (∃ (i u p : Nat), v6 = .int .i64 i ∧ v7 = .int .i64 u ∧ v8 = .int .i64 p ∧ n = s.size - p ∧ p ≤ s.size ∧ i ≤ 1099511627776 ∧ u ≤ 1099511627776 ∧ readW (s.data.toList.drop p) i u ((p + 1) * 36) b = R ∧ Below w.heap.size w w'))
  case atStart => exact ⟨0, 1, 0, rfl, rfl, rfl, rfl, Nat.zero_le _, by omega, by omega, by rw [HR0.out]; simp, Below.refl _ _⟩
  case round =>
    obtain ⟨i, u, p, rfl, rfl, rfl, hn, hp, hi, hu, hR, hbe⟩ := hrel.out
    clear hrel
    have HR := Lib.hid hR
    have HBE := Lib.hid hbe
    have HNM := Lib.hid hn
    clear hR hbe hn
    by_cases hlt : p < s.size
    · obtain ⟨c, hc⟩ := byte_some hlt
      have hlt' : (p : Int) < (s.size : Int) := by omega
      have hsc : s[p]'hlt = c := by
        have h2 : s.data[p]? = some c := by simpa using hc
        exact (Array.getElem?_eq_some_iff.1 h2).2
      have hdr : s.data.toList.drop p = c :: s.data.toList.drop (p + 1) := by
        obtain ⟨h1, h2⟩ := List.getElem?_eq_some_iff.1 hc
        rw [List.drop_eq_getElem_cons h1, h2]
      have HR2 := Lib.hid (show readW (c :: s.data.toList.drop (p + 1)) i u ((p + 1) * 36) b = R by rw [← hdr]; exact HR.out)
      have hI := fun (n : Int) (hn : n.toNat.toUInt8 = small c) => Tryd.strings_IndexByte digs n wr
      have HI := Lib.hid (show ∀ n : Int, n.toNat.toUInt8 = small c → Calls Tryd.prog 50 #[.string ⟨#[97, 98, 99, 100, 101, 102, 103, 104, 105, 106, 107, 108, 109, 110, 111, 112, 113, 114, 115, 116, 117, 118, 119, 120, 121, 122, 48, 49, 50, 51, 52, 53, 54, 55, 56, 57]⟩, .int .u8 n] wr fun e w' => e = .returned (.int .i64 (valZ (value c))) ∧ w' = wr from fun n hn => by
        have h := hI n hn
        rw [hn, index_digs] at h
        exact h)
      have hsn := small_nat c
      have hc8 := c.toNat_lt
      clear hI hdr hc HR
      by_cases hup : 65 ≤ (c.toNat : Int) ∧ (c.toNat : Int) ≤ 90
      · obtain ⟨hA, hB⟩ := hup
        have HSN := Lib.hid (show ((c.toNat : Int) + 32).toNat.toUInt8 = small c by
          rw [if_pos ⟨hA, hB⟩] at hsn
          rw [← hsn]
          simp)
        clear hsn
        go_wp2_with fail
        refine (HI.out ((c.toNat : Int) + 32) HSN.out).mono ?_
        rintro e w1 ⟨rfl, rfl⟩
        clear HI
        cases hv : value c with
        | none =>
          have hres : R = none := by rw [← HR2.out, readW, hv]
          subst hres
          simp only [valZ]
          clear hv HR2
          go_wp2_with fail
          rw [Exit.noGoto_ret]
          go_ret2
          exact ⟨rfl, HBE.out⟩
        | some d =>
          have hd := (value_facts c d hv).1
          obtain ⟨v, hv2⟩ : ∃ v, v = d * u := ⟨_, rfl⟩
          have hvle : v ≤ 35 * u := by rw [hv2]; exact Nat.mul_le_mul_right u (by omega)
          have wm : IntKind.i64.wrap ((d : Int) * (u : Int)) = (v : Int) := by
            rw [show (d : Int) * (u : Int) = (v : Int) by rw [hv2]; simp, IntKind.wrap_i64]; omega
          have HV := Lib.hid hv
          have HR3 := Lib.hid (show R = if i + v > 1099511627776 then none else if d < thr ((p + 1) * 36) b then some (i + v, s.data.toList.drop (p + 1)) else if u * (36 - thr ((p + 1) * 36) b) > 1099511627776 then none else readW (s.data.toList.drop (p + 1)) (i + v) (u * (36 - thr ((p + 1) * 36) b)) ((p + 1) * 36 + 36) b by rw [← HR2.out, readW, HV.out, hv2])
          clear hv hv2 HR2
          simp only [valZ]
          by_cases hm : 1099511627776 < i + v
          · have hres : R = none := by rw [HR3.out, if_pos hm]
            subst hres
            have hm' : (1099511627776 : Int) < (i : Int) + (v : Int) := by omega
            go_wp2_with fail
            rw [Exit.noGoto_ret]
            go_ret2
            exact ⟨rfl, HBE.out⟩
          · have hm' : ¬ (1099511627776 : Int) < (i : Int) + (v : Int) := by omega
            have HT1 := Lib.hid (HT.out ((p + 1) * 36) (by omega) w1)
            have ht1 := thr_pos ((p + 1) * 36) b
            have ht2 := thr_le ((p + 1) * 36) b
            generalize thr ((p + 1) * 36) b = t at HT1 HR3 ht1 ht2
            rw [show (((p + 1) * 36 : Nat) : Int) = ((p : Int) + 1) * 36 by omega] at HT1
            go_wp2_with fail
            refine HT1.out.mono ?_
            rintro e w2 ⟨rfl, hb⟩
            have HBE2 := Lib.hid (belowOn HBE.out HBE.out.size hb)
            clear hb HBE HT1
            by_cases hdt : d < t
            · have hres : R = some (i + v, s.data.toList.drop (p + 1)) := by rw [HR3.out, if_neg hm, if_pos hdt]
              subst hres
              have hdt' : (d : Int) < (t : Int) := by omega
              have hfin : readV s.data.toList (some (i + v, s.data.toList.drop (p + 1))) = .tuple #[.int .i64 ((i : Int) + (v : Int)), .int .i64 ((p : Int) + 1)] := by
                have hl := len_data s
                have : s.data.toList.length - (s.data.toList.drop (p + 1)).length = p + 1 := by rw [List.length_drop]; omega
                unfold readV
                dsimp only
                rw [this]
                rfl
              have HFIN := Lib.hid hfin
              clear hfin
              go_wp2_with fail
              rw [Exit.noGoto_ret]
              go_ret2
              exact ⟨by rw [HFIN.out]; rfl, HBE2.out⟩
            · have hdt' : ¬ (d : Int) < (t : Int) := by omega
              obtain ⟨x, hx⟩ : ∃ x, x = u * (36 - t) := ⟨_, rfl⟩
              have hxle : x ≤ 35 * u := by rw [hx, Nat.mul_comm]; exact Nat.mul_le_mul_right u (by omega)
              have w36 : IntKind.i64.wrap (36 - (t : Int)) = 36 - (t : Int) := by rw [IntKind.wrap_i64]; omega
              have wx : IntKind.i64.wrap ((u : Int) * (36 - (t : Int))) = (x : Int) := by
                rw [show (u : Int) * (36 - (t : Int)) = (x : Int) by rw [hx, show 36 - (t : Int) = ((36 - t : Nat) : Int) by omega]; simp, IntKind.wrap_i64]; omega
              have HR4 := Lib.hid (show R = if x > 1099511627776 then none else readW (s.data.toList.drop (p + 1)) (i + v) x ((p + 1) * 36 + 36) b by rw [HR3.out, if_neg hm, if_neg hdt, hx])
              clear hx
              by_cases hxm : 1099511627776 < x
              · have hres : R = none := by rw [HR4.out, if_pos hxm]
                subst hres
                have hxm' : (1099511627776 : Int) < (x : Int) := by omega
                go_wp2_with fail
                rw [Exit.noGoto_ret]
                go_ret2
                exact ⟨rfl, HBE2.out⟩
              · have hxm' : ¬ (1099511627776 : Int) < (x : Int) := by omega
                have HR5 := Lib.hid (show readW (s.data.toList.drop (p + 1)) (i + v) x ((p + 1 + 1) * 36) b = R by rw [HR4.out, if_neg hxm, show (p + 1 + 1) * 36 = (p + 1) * 36 + 36 by omega])
                go_wp2_with fail
                go_roundg (s.size - (p + 1))
                case measure => have := HNM.out; omega
                case rel => exact ⟨i + v, x, p + 1, by first | rfl | simp, rfl, by first | rfl | simp, rfl, by omega, by omega, by omega, HR5.out, HBE2.out⟩
      · have HSN := Lib.hid (show (c.toNat : Int).toNat.toUInt8 = small c by
          rw [if_neg hup] at hsn
          rw [← hsn]
          simp)
        clear hsn
        by_cases h65 : 65 ≤ (c.toNat : Int)
        · have h90 : ¬ (c.toNat : Int) ≤ 90 := fun h => hup ⟨h65, h⟩
          clear hup
          go_wp2_with fail
          refine (HI.out (c.toNat : Int) HSN.out).mono ?_
          rintro e w1 ⟨rfl, rfl⟩
          clear HI
          cases hv : value c with
          | none =>
            have hres : R = none := by rw [← HR2.out, readW, hv]
            subst hres
            simp only [valZ]
            clear hv HR2
            go_wp2_with fail
            rw [Exit.noGoto_ret]
            go_ret2
            exact ⟨rfl, HBE.out⟩
          | some d =>
            have hd := (value_facts c d hv).1
            obtain ⟨v, hv2⟩ : ∃ v, v = d * u := ⟨_, rfl⟩
            have hvle : v ≤ 35 * u := by rw [hv2]; exact Nat.mul_le_mul_right u (by omega)
            have wm : IntKind.i64.wrap ((d : Int) * (u : Int)) = (v : Int) := by
              rw [show (d : Int) * (u : Int) = (v : Int) by rw [hv2]; simp, IntKind.wrap_i64]; omega
            have HV := Lib.hid hv
            have HR3 := Lib.hid (show R = if i + v > 1099511627776 then none else if d < thr ((p + 1) * 36) b then some (i + v, s.data.toList.drop (p + 1)) else if u * (36 - thr ((p + 1) * 36) b) > 1099511627776 then none else readW (s.data.toList.drop (p + 1)) (i + v) (u * (36 - thr ((p + 1) * 36) b)) ((p + 1) * 36 + 36) b by rw [← HR2.out, readW, HV.out, hv2])
            clear hv hv2 HR2
            simp only [valZ]
            by_cases hm : 1099511627776 < i + v
            · have hres : R = none := by rw [HR3.out, if_pos hm]
              subst hres
              have hm' : (1099511627776 : Int) < (i : Int) + (v : Int) := by omega
              go_wp2_with fail
              rw [Exit.noGoto_ret]
              go_ret2
              exact ⟨rfl, HBE.out⟩
            · have hm' : ¬ (1099511627776 : Int) < (i : Int) + (v : Int) := by omega
              have HT1 := Lib.hid (HT.out ((p + 1) * 36) (by omega) w1)
              have ht1 := thr_pos ((p + 1) * 36) b
              have ht2 := thr_le ((p + 1) * 36) b
              generalize thr ((p + 1) * 36) b = t at HT1 HR3 ht1 ht2
              rw [show (((p + 1) * 36 : Nat) : Int) = ((p : Int) + 1) * 36 by omega] at HT1
              go_wp2_with fail
              refine HT1.out.mono ?_
              rintro e w2 ⟨rfl, hb⟩
              have HBE2 := Lib.hid (belowOn HBE.out HBE.out.size hb)
              clear hb HBE HT1
              by_cases hdt : d < t
              · have hres : R = some (i + v, s.data.toList.drop (p + 1)) := by rw [HR3.out, if_neg hm, if_pos hdt]
                subst hres
                have hdt' : (d : Int) < (t : Int) := by omega
                have hfin : readV s.data.toList (some (i + v, s.data.toList.drop (p + 1))) = .tuple #[.int .i64 ((i : Int) + (v : Int)), .int .i64 ((p : Int) + 1)] := by
                  have hl := len_data s
                  have : s.data.toList.length - (s.data.toList.drop (p + 1)).length = p + 1 := by rw [List.length_drop]; omega
                  unfold readV
                  dsimp only
                  rw [this]
                  rfl
                have HFIN := Lib.hid hfin
                clear hfin
                go_wp2_with fail
                rw [Exit.noGoto_ret]
                go_ret2
                exact ⟨by rw [HFIN.out]; rfl, HBE2.out⟩
              · have hdt' : ¬ (d : Int) < (t : Int) := by omega
                obtain ⟨x, hx⟩ : ∃ x, x = u * (36 - t) := ⟨_, rfl⟩
                have hxle : x ≤ 35 * u := by rw [hx, Nat.mul_comm]; exact Nat.mul_le_mul_right u (by omega)
                have w36 : IntKind.i64.wrap (36 - (t : Int)) = 36 - (t : Int) := by rw [IntKind.wrap_i64]; omega
                have wx : IntKind.i64.wrap ((u : Int) * (36 - (t : Int))) = (x : Int) := by
                  rw [show (u : Int) * (36 - (t : Int)) = (x : Int) by rw [hx, show 36 - (t : Int) = ((36 - t : Nat) : Int) by omega]; simp, IntKind.wrap_i64]; omega
                have HR4 := Lib.hid (show R = if x > 1099511627776 then none else readW (s.data.toList.drop (p + 1)) (i + v) x ((p + 1) * 36 + 36) b by rw [HR3.out, if_neg hm, if_neg hdt, hx])
                clear hx
                by_cases hxm : 1099511627776 < x
                · have hres : R = none := by rw [HR4.out, if_pos hxm]
                  subst hres
                  have hxm' : (1099511627776 : Int) < (x : Int) := by omega
                  go_wp2_with fail
                  rw [Exit.noGoto_ret]
                  go_ret2
                  exact ⟨rfl, HBE2.out⟩
                · have hxm' : ¬ (1099511627776 : Int) < (x : Int) := by omega
                  have HR5 := Lib.hid (show readW (s.data.toList.drop (p + 1)) (i + v) x ((p + 1 + 1) * 36) b = R by rw [HR4.out, if_neg hxm, show (p + 1 + 1) * 36 = (p + 1) * 36 + 36 by omega])
                  go_wp2_with fail
                  go_roundg (s.size - (p + 1))
                  case measure => have := HNM.out; omega
                  case rel => exact ⟨i + v, x, p + 1, by first | rfl | simp, rfl, by first | rfl | simp, rfl, by omega, by omega, by omega, HR5.out, HBE2.out⟩
        · clear hup
          go_wp2_with fail
          refine (HI.out (c.toNat : Int) HSN.out).mono ?_
          rintro e w1 ⟨rfl, rfl⟩
          clear HI
          cases hv : value c with
          | none =>
            have hres : R = none := by rw [← HR2.out, readW, hv]
            subst hres
            simp only [valZ]
            clear hv HR2
            go_wp2_with fail
            rw [Exit.noGoto_ret]
            go_ret2
            exact ⟨rfl, HBE.out⟩
          | some d =>
            have hd := (value_facts c d hv).1
            obtain ⟨v, hv2⟩ : ∃ v, v = d * u := ⟨_, rfl⟩
            have hvle : v ≤ 35 * u := by rw [hv2]; exact Nat.mul_le_mul_right u (by omega)
            have wm : IntKind.i64.wrap ((d : Int) * (u : Int)) = (v : Int) := by
              rw [show (d : Int) * (u : Int) = (v : Int) by rw [hv2]; simp, IntKind.wrap_i64]; omega
            have HV := Lib.hid hv
            have HR3 := Lib.hid (show R = if i + v > 1099511627776 then none else if d < thr ((p + 1) * 36) b then some (i + v, s.data.toList.drop (p + 1)) else if u * (36 - thr ((p + 1) * 36) b) > 1099511627776 then none else readW (s.data.toList.drop (p + 1)) (i + v) (u * (36 - thr ((p + 1) * 36) b)) ((p + 1) * 36 + 36) b by rw [← HR2.out, readW, HV.out, hv2])
            clear hv hv2 HR2
            simp only [valZ]
            by_cases hm : 1099511627776 < i + v
            · have hres : R = none := by rw [HR3.out, if_pos hm]
              subst hres
              have hm' : (1099511627776 : Int) < (i : Int) + (v : Int) := by omega
              go_wp2_with fail
              rw [Exit.noGoto_ret]
              go_ret2
              exact ⟨rfl, HBE.out⟩
            · have hm' : ¬ (1099511627776 : Int) < (i : Int) + (v : Int) := by omega
              have HT1 := Lib.hid (HT.out ((p + 1) * 36) (by omega) w1)
              have ht1 := thr_pos ((p + 1) * 36) b
              have ht2 := thr_le ((p + 1) * 36) b
              generalize thr ((p + 1) * 36) b = t at HT1 HR3 ht1 ht2
              rw [show (((p + 1) * 36 : Nat) : Int) = ((p : Int) + 1) * 36 by omega] at HT1
              go_wp2_with fail
              refine HT1.out.mono ?_
              rintro e w2 ⟨rfl, hb⟩
              have HBE2 := Lib.hid (belowOn HBE.out HBE.out.size hb)
              clear hb HBE HT1
              by_cases hdt : d < t
              · have hres : R = some (i + v, s.data.toList.drop (p + 1)) := by rw [HR3.out, if_neg hm, if_pos hdt]
                subst hres
                have hdt' : (d : Int) < (t : Int) := by omega
                have hfin : readV s.data.toList (some (i + v, s.data.toList.drop (p + 1))) = .tuple #[.int .i64 ((i : Int) + (v : Int)), .int .i64 ((p : Int) + 1)] := by
                  have hl := len_data s
                  have : s.data.toList.length - (s.data.toList.drop (p + 1)).length = p + 1 := by rw [List.length_drop]; omega
                  unfold readV
                  dsimp only
                  rw [this]
                  rfl
                have HFIN := Lib.hid hfin
                clear hfin
                go_wp2_with fail
                rw [Exit.noGoto_ret]
                go_ret2
                exact ⟨by rw [HFIN.out]; rfl, HBE2.out⟩
              · have hdt' : ¬ (d : Int) < (t : Int) := by omega
                obtain ⟨x, hx⟩ : ∃ x, x = u * (36 - t) := ⟨_, rfl⟩
                have hxle : x ≤ 35 * u := by rw [hx, Nat.mul_comm]; exact Nat.mul_le_mul_right u (by omega)
                have w36 : IntKind.i64.wrap (36 - (t : Int)) = 36 - (t : Int) := by rw [IntKind.wrap_i64]; omega
                have wx : IntKind.i64.wrap ((u : Int) * (36 - (t : Int))) = (x : Int) := by
                  rw [show (u : Int) * (36 - (t : Int)) = (x : Int) by rw [hx, show 36 - (t : Int) = ((36 - t : Nat) : Int) by omega]; simp, IntKind.wrap_i64]; omega
                have HR4 := Lib.hid (show R = if x > 1099511627776 then none else readW (s.data.toList.drop (p + 1)) (i + v) x ((p + 1) * 36 + 36) b by rw [HR3.out, if_neg hm, if_neg hdt, hx])
                clear hx
                by_cases hxm : 1099511627776 < x
                · have hres : R = none := by rw [HR4.out, if_pos hxm]
                  subst hres
                  have hxm' : (1099511627776 : Int) < (x : Int) := by omega
                  go_wp2_with fail
                  rw [Exit.noGoto_ret]
                  go_ret2
                  exact ⟨rfl, HBE2.out⟩
                · have hxm' : ¬ (1099511627776 : Int) < (x : Int) := by omega
                  have HR5 := Lib.hid (show readW (s.data.toList.drop (p + 1)) (i + v) x ((p + 1 + 1) * 36) b = R by rw [HR4.out, if_neg hxm, show (p + 1 + 1) * 36 = (p + 1) * 36 + 36 by omega])
                  go_wp2_with fail
                  go_roundg (s.size - (p + 1))
                  case measure => have := HNM.out; omega
                  case rel => exact ⟨i + v, x, p + 1, by first | rfl | simp, rfl, by first | rfl | simp, rfl, by omega, by omega, by omega, HR5.out, HBE2.out⟩
    · have hlt' : ¬ (p : Int) < (s.size : Int) := by omega
      have hnone : R = none := by
        rw [← HR.out, List.drop_of_length_le (by rw [len_data]; omega)]
        rfl
      subst hnone
      go_wp2_with fail
      go_ret2
      exact ⟨rfl, HBE.out⟩
end Go.Proofs.YtbeibfhnbnmocaaDoor
