/- RecordOne, walked. -/
import Derived.Test.YtgljkgkmbfhgiaaDoorRecAwake
import Derived.Test.YtgljkgkmbfhgiaaDoorRegK
set_option linter.unusedVariables false
set_option linter.unusedSimpArgs false
set_option maxRecDepth 100000
namespace Go.Proofs.YtgljkgkmbfhgiaaDoor
open Go.RowKit Four Six Rec

theorem textC_len (x : ByteArray) : (textC x).length = 1 := rfl
theorem textC_one (x : ByteArray) : ∀ u ∈ textC x, u.oneCell' = true := fun u hu => by simp [textC] at hu; subst hu; rfl
theorem info_strR : (Tryd.prog.info? 9).map (fun i => (i.zero, i.size, i.bytes)) = some (some (.string ⟨#[]⟩), 1, 16) := by kernel_rfl
theorem xor1_eq (x : Int) : bits .xor .i64 x 1 = IntKind.i64.wrap ((BitVec.ofInt 64 x ^^^ 1#64).toNat : Int) := rfl
theorem wrap_i64_mod (n : Int) : IntKind.i64.wrap n % 18446744073709551616 = n % 18446744073709551616 := by rw [IntKind.wrap_i64]; omega
theorem xor1_ne (x : Int) : bits .xor .i64 x 1 ≠ x := by
  intro h
  rw [xor1_eq] at h
  have h1 : BitVec.ofInt 64 x = BitVec.ofInt 64 x ^^^ 1#64 := by
    apply BitVec.eq_of_toNat_eq
    have h2 := wrap_i64_mod ((BitVec.ofInt 64 x ^^^ 1#64).toNat : Int)
    rw [h] at h2
    have h3 := (BitVec.ofInt 64 x ^^^ 1#64).isLt
    rw [BitVec.toNat_ofInt]
    omega
  have h4 : BitVec.ofInt 64 x ^^^ BitVec.ofInt 64 x = BitVec.ofInt 64 x ^^^ (BitVec.ofInt 64 x ^^^ 1#64) := congrArg (fun y => BitVec.ofInt 64 x ^^^ y) h1
  rw [← BitVec.xor_assoc, BitVec.xor_self, BitVec.zero_xor] at h4
  exact absurd h4 (by decide)
theorem wrap_range (n : Int) : -9223372036854775808 ≤ IntKind.i64.wrap n ∧ IntKind.i64.wrap n ≤ 9223372036854775807 := by rw [IntKind.wrap_i64]; omega
theorem add1_ne (x : Int) : wrap64 (x + 1) ≠ x := by unfold wrap64; omega
theorem wrap64_range (n : Int) : -9223372036854775808 ≤ wrap64 n ∧ wrap64 n ≤ 9223372036854775807 := by unfold wrap64; omega
theorem addx_ne (s : ByteArray) : s ++ (⟨#[120]⟩ : ByteArray) ≠ s := by
  intro h
  have := congrArg ByteArray.size h
  rw [ByteArray.size_append, show (⟨#[120]⟩ : ByteArray).size = 1 from rfl] at this
  omega
/-- The URL with one thing otherwise. -/
def otherV (u : UrlV) : Nat → UrlV
  | 0 => { u with scheme := u.scheme ++ ⟨#[120]⟩ }
  | 1 => { u with user := u.user ++ ⟨#[120]⟩ }
  | 2 => { u with pass := u.pass ++ ⟨#[120]⟩ }
  | 3 => { u with h := { u.h with kind := wrap64 (u.h.kind + 1) } }
  | 4 => { u with port := bits .xor .i64 u.port 1 }
  | 5 => { u with path := u.path ++ [⟨#[]⟩] }
  | 6 => { u with hasq := !u.hasq }
  | _ => { u with opq := !u.opq }
theorem otherV_ne (u : UrlV) (r : Nat) : sameV u (otherV u r) = false := by
  rw [Bool.eq_false_iff]
  intro h
  rw [sameV_iff] at h
  unfold otherV at h
  split at h
  · exact addx_ne _ (congrArg UrlV.scheme h).symm
  · exact addx_ne _ (congrArg UrlV.user h).symm
  · exact addx_ne _ (congrArg UrlV.pass h).symm
  · exact add1_ne _ (congrArg (fun v : UrlV => v.h.kind) h).symm
  · exact xor1_ne _ (congrArg UrlV.port h).symm
  · have := congrArg (fun v : UrlV => v.path.length) h
    simp at this
  · have := congrArg UrlV.hasq h
    simp at this
  · have := congrArg UrlV.opq h
    simp at this
theorem otherV_ok {u : UrlV} (h : u.ok) (r : Nat) : (otherV u r).ok := by
  unfold otherV
  split
  · exact ⟨h.1, h.2, h.3⟩
  · exact ⟨h.1, h.2, h.3⟩
  · exact ⟨h.1, h.2, h.3⟩
  · exact ⟨⟨(wrap64_range _).1, (wrap64_range _).2, h.1.3, h.1.4⟩, h.2, h.3⟩
  · exact ⟨h.1, (wrap_range _).1, (wrap_range _).2⟩
  · exact ⟨h.1, h.2, h.3⟩
  · exact ⟨h.1, h.2, h.3⟩
  · exact ⟨h.1, h.2, h.3⟩
theorem otherV_name (u : UrlV) (r : Nat) : (otherV u r).h.name = u.h.name := by
  unfold otherV
  split <;> rfl
set_option maxHeartbeats 8000000 in
theorem one_calls (u : UrlV) (A : Option Addr) (c : Nat) (n : Int) (hn0 : 0 ≤ n) (hn1 : n ≤ 255) (ho : u.ok) (w : World) (hF : FW w) (hr : RowAt textC 1 w A u.path) (hc : u.path.length ≤ c) (hm : c ≤ maxLen) :
    Calls Tryd.prog 5 #[.agg (u.cells A c).toArray, .int .u8 n] w fun e w' => e = .returned (.bool true) ∧ Below w.heap.size w w' := by
  have HF := Lib.hid hF
  have HFU := Lib.hid (fun (W : World) (hb : Below w.heap.size w W) => few_calls u A c W (hr.keep hb) hc hm)
  have HOK := Lib.hid ho
  have HROW := Lib.hid hr
  have HC := Lib.hid hc
  obtain ⟨CU, hCU⟩ : ∃ CU, CU = (u.cells A c).toArray := ⟨_, rfl⟩
  have HUO := Lib.hid (show UrlOk CU by rw [hCU]; exact urlok u A c)
  have HSZ := Lib.hid HUO.out.1
  have HCU := Lib.hid hCU
  rw [← hCU] at HFU ⊢
  have HN := Lib.hid (And.intro hn0 hn1)
  clear hCU hr hc hm ho hF hn0 hn1
  obtain ⟨F, hFF⟩ : ∃ F, F = u.few := ⟨_, rfl⟩
  rw [← hFF] at HFU
  have HFF := Lib.hid hFF
  clear hFF
  go_enter Tryd.func5, Tryd.ntmps5
  go_upto_region 1 with fail
  have K0 := Lib.hid (Blk.new w 29 CU)
  have B0 := Lib.hid ((Below.refl w.heap.size w).alloc (Nat.le_refl _) (.cells CU 29))
  go_wp2_with fail
  refine (awake_calls (HF.out.keep B0.out)).mono ?_
  rintro e w1 ⟨rfl, hb⟩
  have K1 := Lib.hid (K0.out.keep hb)
  have B1 := Lib.hid (belowOn B0.out B0.out.size hb)
  clear hb K0 B0
  go_wp2_with (with_reducible refine stopLoad ?_)
  refine stopN_go ?_
  refine wpList_load_url (Blk.range K1.out) HSZ.out rfl _ rfl rfl ?_
  cases F
  · go_wp2_with fail
    refine (HFU.out _ B1.out).mono ?_
    rintro e w2 ⟨rfl, hb⟩
    have B2 := Lib.hid (belowOn B1.out B1.out.size hb)
    clear hb
    go_wp2_with fail
    go_ret
    exact ⟨rfl, B2.out⟩
  · have HS := Lib.hid ((UrlV.few_iff u).1 HFF.out.symm)
    go_wp2_with fail
    refine (HFU.out _ B1.out).mono ?_
    rintro e w2 ⟨rfl, hb⟩
    have K2 := Lib.hid (K1.out.keep hb)
    have B2 := Lib.hid (belowOn B1.out B1.out.size hb)
    clear hb K1 B1 HFU HFF
    go_wp2_with (with_reducible refine stopLoad ?_)
    refine stopN_go ?_
    refine wpList_load_url (Blk.range K2.out) HSZ.out rfl _ rfl rfl ?_
    obtain ⟨B, hB⟩ : ∃ B, B = w.heap.size := ⟨_, rfl⟩
    have HBB := Lib.hid (show B < w2.heap.size by have := K2.out.lt; omega)
    rw [← hB] at K2 ⊢
    obtain ⟨g, hg⟩ : ∃ g, g = w2.heap.size := ⟨_, rfl⟩
    have HG := Lib.hid (show w.heap.size ≤ g by rw [hg]; exact B2.out.size)
    have HBG := Lib.hid (show B < g by have := HBB.out; omega)
    have KZ := Lib.hid (show Blk (w2.alloc (.cells #[.string ⟨#[]⟩, .string ⟨#[]⟩, .string ⟨#[]⟩, .int .i64 0, .string ⟨#[]⟩, .int .u32 0, .int .u16 0, .int .u16 0, .int .u16 0, .int .u16 0, .int .u16 0, .int .u16 0, .int .u16 0, .int .u16 0, .int .i64 0, .bool false, .slice none 0 0, .bool false, .string ⟨#[]⟩, .bool false, .string ⟨#[]⟩] 29)) g 29 #[.string ⟨#[]⟩, .string ⟨#[]⟩, .string ⟨#[]⟩, .int .i64 0, .string ⟨#[]⟩, .int .u32 0, .int .u16 0, .int .u16 0, .int .u16 0, .int .u16 0, .int .u16 0, .int .u16 0, .int .u16 0, .int .u16 0, .int .i64 0, .bool false, .slice none 0 0, .bool false, .string ⟨#[]⟩, .bool false, .string ⟨#[]⟩] by rw [hg]; exact Blk.new w2 _ _)
    have B3 := Lib.hid (B2.out.alloc B2.out.size (.cells #[.string ⟨#[]⟩, .string ⟨#[]⟩, .string ⟨#[]⟩, .int .i64 0, .string ⟨#[]⟩, .int .u32 0, .int .u16 0, .int .u16 0, .int .u16 0, .int .u16 0, .int .u16 0, .int .u16 0, .int .u16 0, .int .u16 0, .int .i64 0, .bool false, .slice none 0 0, .bool false, .string ⟨#[]⟩, .bool false, .string ⟨#[]⟩] 29))
    have K3 := Lib.hid (K2.out.alloc (.cells #[.string ⟨#[]⟩, .string ⟨#[]⟩, .string ⟨#[]⟩, .int .i64 0, .string ⟨#[]⟩, .int .u32 0, .int .u16 0, .int .u16 0, .int .u16 0, .int .u16 0, .int .u16 0, .int .u16 0, .int .u16 0, .int .u16 0, .int .i64 0, .bool false, .slice none 0 0, .bool false, .string ⟨#[]⟩, .bool false, .string ⟨#[]⟩] 29))
    have Z3 := Lib.hid (show (w2.alloc (.cells #[.string ⟨#[]⟩, .string ⟨#[]⟩, .string ⟨#[]⟩, .int .i64 0, .string ⟨#[]⟩, .int .u32 0, .int .u16 0, .int .u16 0, .int .u16 0, .int .u16 0, .int .u16 0, .int .u16 0, .int .u16 0, .int .u16 0, .int .i64 0, .bool false, .slice none 0 0, .bool false, .string ⟨#[]⟩, .bool false, .string ⟨#[]⟩] 29)).heap.size = g + 1 by rw [hg]; simp)
    have HGE := Lib.hid hg
    have HBE := Lib.hid hB
    clear hg HBB hB
    go_wp2_with (with_reducible refine stopN ?_)
    refine stopN_go ?_
    rw [← HGE.out]
    with_reducible (refine wpList_store_urlO KZ.out rfl HUO.out rfl _ _ rfl rfl rfl ?_)
    intro w3 k1 o1 z1 b1
    have V4 := Lib.hid k1
    have K4 := Lib.hid (show Blk w3 B 29 CU from (o1 B (by have := HBG.out; omega)).trans K3.out)
    have B4 := Lib.hid (b1 _ _ HG.out B3.out)
    have Z4 := Lib.hid (show w3.heap.size = g + 1 from z1.trans Z3.out)
    clear k1 o1 z1 b1 KZ B3 K3 Z3 HGE K2 B2
    go_upto_region 5 with fail
    have c16 : ∀ o, (w3.alloc o).cell? ⟨B, 16, none⟩ = some (.slice A u.path.length c) := fun o => ((K4.out.alloc o).cell 16).trans (by rw [HCU.out]; rfl)
    go_wp2_with (at_builtin; refine stop_here ?_)
    refine stop_go ?_
    have hw0 : ∀ W : World, Below w.heap.size w W → RowAt textC 1 W A u.path := fun W hb => HROW.out.keep hb
    refine wpList_appendR textC 1 textC_len (by omega) textC_one rfl (.tmp 14) (.tmp 16) _ 9 _ 16 rfl Tryd.underlying27 info_strR rfl (by omega) (g + 1) _ [] A c u.path rfl rfl (by rw [← Z4.out]; exact OwnR.fresh w3 w3.heap.size _ 1 textC (Nat.le_refl _)) (hw0 _ (B4.out.alloc B4.out.size _)) (by have := HS.out.len; simp; omega) (by have := Z4.out; simp; omega) ?_
    intro v' w4 hown hgr hob
    rw [List.nil_append] at hown
    have hg2 : (w3.alloc (.cells #[] 9)).grownBy w4 (some w3.heap.size) := hgr
    clear hgr hob c16 hw0
    have HO4 := Lib.hid hown
    obtain ⟨A2, c2, rfl, -, hc2, hm2, hA2⟩ := hown.row textC_len
    clear hown
    have K5 := Lib.hid (show Blk w4 B 29 CU from (K4.out.alloc _).grown hg2 (by have := HBG.out; have := Z4.out; simp only [ne_eq, Option.some.injEq]; omega))
    have V5 := Lib.hid (show Blk w4 g 29 CU from (V4.out.alloc _).grown hg2 (by have := Z4.out; simp only [ne_eq, Option.some.injEq]; omega))
    have B5 := Lib.hid (show Below w.heap.size w w4 from (B4.out.alloc B4.out.size _).grown hg2 (by have := B4.out.size; simp; omega) (fun k e => by have := B4.out.size; have := Option.some.inj e; omega))
    clear hg2 V4 K4 B4 Z4
    have c16 : w4.cell? ⟨g, 16, none⟩ = some (.slice A u.path.length c) := (V5.out.cell 16).trans (by rw [HCU.out]; rfl)
    have f16 : w4.frozen? ⟨g, 16, none⟩ = false := V5.out.frozen _
    have HC2 := Lib.hid hc2
    have HA2 := Lib.hid hA2
    clear hc2 hA2 hm2
    go_upto_region 6 with fail
    have V6 := Lib.hid (V5.out.set_ 16 (.slice A2 u.path.length c2))
    have K6 := Lib.hid (show Blk (w4.setCell ⟨g, 16, none⟩ (.slice A2 u.path.length c2)) B 29 CU from K5.out.far (p := ⟨g, 16, none⟩) (by have := HBG.out; show B ≠ g; omega) _)
    have B6 := Lib.hid (B5.out.setCell (p := ⟨g, 16, none⟩) HG.out (.slice A2 u.path.length c2))
    have HO6 := Lib.hid (show OwnR (w4.setCell ⟨g, 16, none⟩ (.slice A2 u.path.length c2)) (g + 1) 9 1 textC (.slice A2 u.path.length c2) u.path from row_keep HO4.out (fun k e => Below.heap_setCell _ _ _ _ (by have := (row_blk HO4.out e).1; show k ≠ g; omega)))
    obtain ⟨W, hW⟩ : ∃ W, W = w4.setCell ⟨g, 16, none⟩ (.slice A2 u.path.length c2) := ⟨_, rfl⟩
    rw [← hW] at V6 K6 B6 HO6 ⊢
    clear hW V5 K5 B5 HO4 c16 f16
    obtain ⟨CV, hCV⟩ : ∃ C, C = CU.setIfInBounds 16 (.slice A2 u.path.length c2) := ⟨_, rfl⟩
    have HCV := Lib.hid (show CV = (u.cells A2 c2).toArray by rw [hCV, HCU.out]; rfl)
    have HSV := Lib.hid (show CV.size = 21 by rw [HCV.out]; rfl)
    rw [← hCV] at V6
    clear hCV
    have HR2 := Lib.hid (show RowAt textC 1 W A2 u.path from by
      obtain ⟨A3, c3, e, h, -⟩ := HO6.out.row textC_len
      cases e
      exact h)
    have hr1 : ∀ W', Below w.heap.size w W' → RowAt textC 1 W' A u.path := fun W' hb => HROW.out.keep hb
    obtain ⟨T, hT⟩ : ∃ T, T = mkB (textU u false) := ⟨_, rfl⟩
    have hsm := fun (W' : World) (hb : Below w.heap.size w W') (hb' : Below W.heap.size W W') => same_calls u u A c A2 c2 HOK.out HOK.out HS.out HS.out W' (HROW.out.keep hb) (HR2.out.keep hb') HC.out HC2.out
    have ht1 := fun (W' : World) (hb : Below w.heap.size w W') => urltext_calls u A c false HOK.out HS.out W' (HF.out.keep hb) (HROW.out.keep hb) HC.out
    have ht2 := fun (W' : World) (hb : Below w.heap.size w W') (hb' : Below W.heap.size W W') => urltext_calls u A2 c2 false HOK.out HS.out W' (HF.out.keep hb) (HR2.out.keep hb') HC2.out
    simp only [show sameV u u = true from sameV_iff.2 rfl, ← HCU.out, ← HCV.out, ← hT] at hsm ht1 ht2
    have HSM := Lib.hid hsm
    have HT1 := Lib.hid ht1
    have HT2 := Lib.hid ht2
    clear hsm ht1 ht2 hr1 hT
    have HCU2 := Lib.hid HCU.out
    clear HCU
    go_wp2_with fail
    refine wp_region_RIK [.is (.agg CU), .is (.agg CV), .is (.bool true), .is (.bool true), .is (.agg CU), .is (.string T), .is (.agg CV), .is (.string T), .is (.bool true), .is (.bool true), .is (.bool true)] (by kernel_rfl) (by kernel_rfl) (by kernel_rfl) ?_ ?_
    · intro i o sp ho hs a w2 hbe htz hkept hdep
      have hi : i < 11 := (Array.getElem?_eq_some_iff.1 ho).1
      have hsz : a.tmps.size = 90 := htz
      have KW := K6.out.keep hbe
      have VW := V6.out.keep hbe
      have hb2 : a.tmps.getD 2 undef = .pointer (some ⟨B, 0, none⟩) := hkept 2 (noDst_spec (by kernel_rfl))
      have hb6 : a.tmps.getD 6 undef = .pointer (some ⟨g, 0, none⟩) := hkept 6 (noDst_spec (by kernel_rfl))
      rcases (by omega : i = 0 ∨ i = 1 ∨ i = 2 ∨ i = 3 ∨ i = 4 ∨ i = 5 ∨ i = 6 ∨ i = 7 ∨ i = 8 ∨ i = 9 ∨ i = 10) with rfl | rfl | rfl | rfl | rfl | rfl | rfl | rfl | rfl | rfl | rfl
      · as_aux_lemma =>
        obtain rfl := Option.some.inj ho
        obtain rfl := Option.some.inj hs
        have e2 : a.tmps.getD 2 undef = .pointer (some ⟨B, 0, none⟩) := hb2
        exact wpOp_plain rfl rfl (u := .agg CU) (fun ρ hc hf ht => load_row _ rfl ((ht 2).trans e2) KW Tryd.underlying29 (by rw [HSZ.out]; exact info_url)) ⟨_, rfl, rfl, Below.refl _ _⟩
      · as_aux_lemma =>
        obtain rfl := Option.some.inj ho
        obtain rfl := Option.some.inj hs
        have e6 : a.tmps.getD 6 undef = .pointer (some ⟨g, 0, none⟩) := hb6
        exact wpOp_plain rfl rfl (u := .agg CV) (fun ρ hc hf ht => load_row _ rfl ((ht 6).trans e6) VW Tryd.underlying29 (by rw [HSV.out]; exact info_url)) ⟨_, rfl, rfl, Below.refl _ _⟩
      · as_aux_lemma =>
        obtain rfl := Option.some.inj ho
        obtain rfl := Option.some.inj hs
        have e19 : a.tmps.getD 19 undef = .agg CU := hdep 0 _ _ _ rfl rfl rfl (by kernel_rfl)
        have e20 : a.tmps.getD 20 undef = .agg CV := hdep 1 _ _ _ rfl rfl rfl (by kernel_rfl)
        refine wpOp_calls (f := 19) (args := #[.agg CU, .agg CV]) rfl rfl (fun ρ hc hf ht => by have f19 := (ht 19).trans e19; have f20 := (ht 20).trans e20; clear ht; simp [go_sem, *]) ?_
        exact (HSM.out w2 (belowOn B6.out B6.out.size hbe) hbe).mono fun e w' h => ⟨_, h.1, _, rfl, rfl, h.2⟩
      · as_aux_lemma =>
        obtain rfl := Option.some.inj ho
        obtain rfl := Option.some.inj hs
        have e21 : a.tmps.getD 21 undef = .bool true := hdep 2 _ _ _ rfl rfl rfl (by kernel_rfl)
        exact wpOp_plain rfl rfl (u := .bool true) (fun ρ hc hf ht => by have f21 := (ht 21).trans e21; clear ht; simp [go_sem, *]) ⟨_, rfl, rfl, Below.refl _ _⟩
      · as_aux_lemma =>
        obtain rfl := Option.some.inj ho
        obtain rfl := Option.some.inj hs
        have e2 : a.tmps.getD 2 undef = .pointer (some ⟨B, 0, none⟩) := hb2
        have e22 : a.tmps.getD 22 undef = .bool true := hdep 3 _ _ _ rfl rfl rfl (by kernel_rfl)
        exact wpOp_plain rfl (by simp [Region.wanted, yielded, got_some e22 (by omega)]) (u := .agg CU) (fun ρ hc hf ht => load_row _ rfl ((ht 2).trans e2) KW Tryd.underlying29 (by rw [HSZ.out]; exact info_url)) ⟨_, rfl, rfl, Below.refl _ _⟩
      · as_aux_lemma =>
        obtain rfl := Option.some.inj ho
        obtain rfl := Option.some.inj hs
        have e23 : a.tmps.getD 23 undef = .agg CU := hdep 4 _ _ _ rfl rfl rfl (by kernel_rfl)
        have e22 : a.tmps.getD 22 undef = .bool true := hdep 3 _ _ _ rfl rfl rfl (by kernel_rfl)
        refine wpOp_calls (f := 15) (args := #[.agg CU, .bool false]) rfl (by simp [Region.wanted, yielded, got_some e22 (by omega)]) (fun ρ hc hf ht => by have f23 := (ht 23).trans e23; clear ht; simp [go_sem, *]) ?_
        exact (HT1.out w2 (belowOn B6.out B6.out.size hbe)).mono fun e w' h => ⟨_, h.1, _, rfl, rfl, h.2⟩
      · as_aux_lemma =>
        obtain rfl := Option.some.inj ho
        obtain rfl := Option.some.inj hs
        have e6 : a.tmps.getD 6 undef = .pointer (some ⟨g, 0, none⟩) := hb6
        have e22 : a.tmps.getD 22 undef = .bool true := hdep 3 _ _ _ rfl rfl rfl (by kernel_rfl)
        exact wpOp_plain rfl (by simp [Region.wanted, yielded, got_some e22 (by omega)]) (u := .agg CV) (fun ρ hc hf ht => load_row _ rfl ((ht 6).trans e6) VW Tryd.underlying29 (by rw [HSV.out]; exact info_url)) ⟨_, rfl, rfl, Below.refl _ _⟩
      · as_aux_lemma =>
        obtain rfl := Option.some.inj ho
        obtain rfl := Option.some.inj hs
        have e25 : a.tmps.getD 25 undef = .agg CV := hdep 6 _ _ _ rfl rfl rfl (by kernel_rfl)
        have e22 : a.tmps.getD 22 undef = .bool true := hdep 3 _ _ _ rfl rfl rfl (by kernel_rfl)
        refine wpOp_calls (f := 15) (args := #[.agg CV, .bool false]) rfl (by simp [Region.wanted, yielded, got_some e22 (by omega)]) (fun ρ hc hf ht => by have f25 := (ht 25).trans e25; clear ht; simp [go_sem, *]) ?_
        exact (HT2.out w2 (belowOn B6.out B6.out.size hbe) hbe).mono fun e w' h => ⟨_, h.1, _, rfl, rfl, h.2⟩
      · as_aux_lemma =>
        obtain rfl := Option.some.inj ho
        obtain rfl := Option.some.inj hs
        have e24 : a.tmps.getD 24 undef = .string T := hdep 5 _ _ _ rfl rfl rfl (by kernel_rfl)
        have e26 : a.tmps.getD 26 undef = .string T := hdep 7 _ _ _ rfl rfl rfl (by kernel_rfl)
        have e22 : a.tmps.getD 22 undef = .bool true := hdep 3 _ _ _ rfl rfl rfl (by kernel_rfl)
        exact wpOp_plain rfl (by simp [Region.wanted, yielded, got_some e22 (by omega)]) (u := .bool true) (fun ρ hc hf ht => by have f24 := (ht 24).trans e24; have f26 := (ht 26).trans e26; clear ht; simp [go_sem, *]) ⟨_, rfl, rfl, Below.refl _ _⟩
      · as_aux_lemma =>
        obtain rfl := Option.some.inj ho
        obtain rfl := Option.some.inj hs
        have e22 : a.tmps.getD 22 undef = .bool true := hdep 3 _ _ _ rfl rfl rfl (by kernel_rfl)
        have e27 : a.tmps.getD 27 undef = .bool true := hdep 8 _ _ _ rfl rfl rfl (by kernel_rfl)
        exact wpOp_plain rfl rfl (u := .bool true) (fun ρ hc hf ht => by have f22 := (ht 22).trans e22; have f27 := (ht 27).trans e27; clear ht; simp [go_sem, *]) ⟨_, rfl, rfl, Below.refl _ _⟩
      · as_aux_lemma =>
        obtain rfl := Option.some.inj ho
        obtain rfl := Option.some.inj hs
        have e28 : a.tmps.getD 28 undef = .bool true := hdep 9 _ _ _ rfl rfl rfl (by kernel_rfl)
        exact wpOp_plain rfl rfl (u := .bool true) (fun ρ hc hf ht => by have f28 := (ht 28).trans e28; clear ht; simp [go_sem, *]) ⟨_, rfl, rfl, Below.refl _ _⟩
    · intro a w2 hall hdef hbe htz hkept
      have er : a.tmps.getD 7 undef = .bool true := hall 10 _ _ _ rfl rfl rfl
      have ea := act_of [(19, .agg CU), (20, .agg CV), (21, .bool true), (22, .bool true), (23, .agg CU), (24, .string T), (25, .agg CV), (26, .string T), (27, .bool true), (28, .bool true), (7, .bool true)] htz hdef hkept (by kernel_rfl) (by kernel_rfl) (show ([19, 20, 21, 22, 23, 24, 25, 26, 27, 28, 7] : List Nat).Nodup by decide) (by
        intro p hp
        simp only [List.mem_cons, List.not_mem_nil, or_false] at hp
        rcases hp with rfl | rfl | rfl | rfl | rfl | rfl | rfl | rfl | rfl | rfl | rfl
        · exact hall 0 _ _ _ rfl rfl rfl
        · exact hall 1 _ _ _ rfl rfl rfl
        · exact hall 2 _ _ _ rfl rfl rfl
        · exact hall 3 _ _ _ rfl rfl rfl
        · exact hall 4 _ _ _ rfl rfl rfl
        · exact hall 5 _ _ _ rfl rfl rfl
        · exact hall 6 _ _ _ rfl rfl rfl
        · exact hall 7 _ _ _ rfl rfl rfl
        · exact hall 8 _ _ _ rfl rfl rfl
        · exact hall 9 _ _ _ rfl rfl rfl
        · exact hall 10 _ _ _ rfl rfl rfl)
      clear hall hdef htz hkept er
      rename_i Q9 K9 hK9
      refine hK9 _ _ ?_
      rw [ea]
      clear hK9 ea
      have K7 := Lib.hid (K6.out.keep hbe)
      have V7 := Lib.hid (V6.out.keep hbe)
      have B7 := Lib.hid (belowOn B6.out B6.out.size hbe)
      have HO7 := Lib.hid (HO6.out.below hbe)
      clear hbe K6 V6 B6 HO6 HT1 HT2 HSM HR2
      simp only [List.foldl_cons, List.foldl_nil]
      have HMOD := Lib.hid (show n.tmod 8 = 0 ∨ n.tmod 8 = 1 ∨ n.tmod 8 = 2 ∨ n.tmod 8 = 3 ∨ n.tmod 8 = 4 ∨ n.tmod 8 = 5 ∨ n.tmod 8 = 6 ∨ n.tmod 8 = 7 by
        rw [Int.tmod_eq_emod_of_nonneg HN.out.1]
        omega)
      have HSM := Lib.hid (fun (k c' : Nat) (A' : Option Addr) (W' : World) (hb : Below w.heap.size w W') (hr' : RowAt textC 1 W' A' (otherV u k).path) (hc' : (otherV u k).path.length ≤ c') => same_callsW u (otherV u k) A c A' c' HOK.out (otherV_ok HOK.out k) HS.out.len HS.out.name (by rw [otherV_name]; exact HS.out.name) W' (HROW.out.keep hb) hr' HC.out hc')
      have hs1 := HS.out.scheme
      have hs2 := HS.out.user
      have hs3 := HS.out.pass
      have zx : (⟨#[120]⟩ : ByteArray).size = 1 := rfl
      have S1 := Lib.hid (show ∀ w, (Op.stringOp .add u.scheme ⟨#[120]⟩).run Tryd.prog w = .ok (.string (u.scheme ++ (⟨#[120]⟩ : ByteArray))) w from fun w => run_string_add_sum w _ _ (by rw [zx]; omega))
      have S2 := Lib.hid (show ∀ w, (Op.stringOp .add u.user ⟨#[120]⟩).run Tryd.prog w = .ok (.string (u.user ++ (⟨#[120]⟩ : ByteArray))) w from fun w => run_string_add_sum w _ _ (by rw [zx]; omega))
      have S3 := Lib.hid (show ∀ w, (Op.stringOp .add u.pass ⟨#[120]⟩).run Tryd.prog w = .ok (.string (u.pass ++ (⟨#[120]⟩ : ByteArray))) w from fun w => run_string_add_sum w _ _ (by rw [zx]; omega))
      clear hs1 hs2 hs3 zx
      simp only [← HCU2.out, otherV_ne] at HSM
      clear HCU2
      rcases HMOD.out with hr | hr | hr | hr | hr | hr | hr | hr
      · clear HMOD
        have hcl0 : w2.cell? ⟨g, 0, none⟩ = some (.string u.scheme) := (V7.out.cell 0).trans (by rw [HCV.out]; rfl)
        have f0 : w2.frozen? ⟨g, 0, none⟩ = false := V7.out.frozen _
        have s1 := S1.out
        go_upto_region 23 with fail
        have V9 := Lib.hid (V7.out.set_ 0 (.string (u.scheme ++ (⟨#[120]⟩ : ByteArray))))
        have K9 := Lib.hid (show Blk (w2.setCell ⟨g, 0, none⟩ (.string (u.scheme ++ (⟨#[120]⟩ : ByteArray)))) B 29 CU from K7.out.far (p := ⟨g, 0, none⟩) (by have := HBG.out; show B ≠ g; omega) _)
        have B9 := Lib.hid (B7.out.setCell (p := ⟨g, 0, none⟩) HG.out (.string (u.scheme ++ (⟨#[120]⟩ : ByteArray))))
        have R9 := Lib.hid (show RowAt textC 1 (w2.setCell ⟨g, 0, none⟩ (.string (u.scheme ++ (⟨#[120]⟩ : ByteArray)))) A2 u.path from by
          have h := row_keep (w' := (w2.setCell ⟨g, 0, none⟩ (.string (u.scheme ++ (⟨#[120]⟩ : ByteArray))))) HO7.out (fun k e => Below.heap_setCell _ _ _ _ (by have := (row_blk HO7.out e).1; show k ≠ g; omega))
          obtain ⟨A3, c3, e, h, -⟩ := OwnR.row (f := textC) h textC_len
          cases e
          exact h)
        obtain ⟨W9, hW⟩ : ∃ W, W = (w2.setCell ⟨g, 0, none⟩ (.string (u.scheme ++ (⟨#[120]⟩ : ByteArray)))) := ⟨_, rfl⟩
        rw [← hW] at V9 K9 B9 R9 ⊢
        obtain ⟨CX, hCX⟩ : ∃ C, C = CV.setIfInBounds 0 (.string (u.scheme ++ (⟨#[120]⟩ : ByteArray))) := ⟨_, rfl⟩
        rw [← hCX] at V9
        have HCX := Lib.hid (show CX = ((otherV u 0).cells A2 c2).toArray by rw [hCX, HCV.out]; rfl)
        have HC9 := HC2
        clear hW hCX V7 K7 B7 HO7 HCV hcl0 f0
        go_wp2_with (with_reducible refine stopLoad ?_)
        refine stopN_go ?_
        refine wpList_load_urlG (Blk.range K9.out) HSZ.out _ rfl rfl (by kernel_rfl) ?_
        refine wpList_load_urlG (Blk.range V9.out) (by rw [HCX.out]; rfl) _ rfl rfl (by kernel_rfl) ?_
        go_wp2_with fail
        have hfin := HSM.out 0 c2 A2 W9 B9.out R9.out HC9.out
        rw [← HCX.out] at hfin
        refine hfin.mono ?_
        rintro e w10 ⟨rfl, hb⟩
        have B10 := Lib.hid (belowOn B9.out B9.out.size hb)
        clear hb
        go_wp2_with fail
        go_ret
        exact ⟨rfl, B10.out⟩
      · clear HMOD
        have hcl1 : w2.cell? ⟨g, 1, none⟩ = some (.string u.user) := (V7.out.cell 1).trans (by rw [HCV.out]; rfl)
        have f1 : w2.frozen? ⟨g, 1, none⟩ = false := V7.out.frozen _
        have s1 := S2.out
        go_upto_region 23 with fail
        have V9 := Lib.hid (V7.out.set_ 1 (.string (u.user ++ (⟨#[120]⟩ : ByteArray))))
        have K9 := Lib.hid (show Blk (w2.setCell ⟨g, 1, none⟩ (.string (u.user ++ (⟨#[120]⟩ : ByteArray)))) B 29 CU from K7.out.far (p := ⟨g, 1, none⟩) (by have := HBG.out; show B ≠ g; omega) _)
        have B9 := Lib.hid (B7.out.setCell (p := ⟨g, 1, none⟩) HG.out (.string (u.user ++ (⟨#[120]⟩ : ByteArray))))
        have R9 := Lib.hid (show RowAt textC 1 (w2.setCell ⟨g, 1, none⟩ (.string (u.user ++ (⟨#[120]⟩ : ByteArray)))) A2 u.path from by
          have h := row_keep (w' := (w2.setCell ⟨g, 1, none⟩ (.string (u.user ++ (⟨#[120]⟩ : ByteArray))))) HO7.out (fun k e => Below.heap_setCell _ _ _ _ (by have := (row_blk HO7.out e).1; show k ≠ g; omega))
          obtain ⟨A3, c3, e, h, -⟩ := OwnR.row (f := textC) h textC_len
          cases e
          exact h)
        obtain ⟨W9, hW⟩ : ∃ W, W = (w2.setCell ⟨g, 1, none⟩ (.string (u.user ++ (⟨#[120]⟩ : ByteArray)))) := ⟨_, rfl⟩
        rw [← hW] at V9 K9 B9 R9 ⊢
        obtain ⟨CX, hCX⟩ : ∃ C, C = CV.setIfInBounds 1 (.string (u.user ++ (⟨#[120]⟩ : ByteArray))) := ⟨_, rfl⟩
        rw [← hCX] at V9
        have HCX := Lib.hid (show CX = ((otherV u 1).cells A2 c2).toArray by rw [hCX, HCV.out]; rfl)
        have HC9 := HC2
        clear hW hCX V7 K7 B7 HO7 HCV hcl1 f1
        go_wp2_with (with_reducible refine stopLoad ?_)
        refine stopN_go ?_
        refine wpList_load_urlG (Blk.range K9.out) HSZ.out _ rfl rfl (by kernel_rfl) ?_
        refine wpList_load_urlG (Blk.range V9.out) (by rw [HCX.out]; rfl) _ rfl rfl (by kernel_rfl) ?_
        go_wp2_with fail
        have hfin := HSM.out 1 c2 A2 W9 B9.out R9.out HC9.out
        rw [← HCX.out] at hfin
        refine hfin.mono ?_
        rintro e w10 ⟨rfl, hb⟩
        have B10 := Lib.hid (belowOn B9.out B9.out.size hb)
        clear hb
        go_wp2_with fail
        go_ret
        exact ⟨rfl, B10.out⟩
      · clear HMOD
        have hcl2 : w2.cell? ⟨g, 2, none⟩ = some (.string u.pass) := (V7.out.cell 2).trans (by rw [HCV.out]; rfl)
        have f2 : w2.frozen? ⟨g, 2, none⟩ = false := V7.out.frozen _
        have s1 := S3.out
        go_upto_region 23 with fail
        have V9 := Lib.hid (V7.out.set_ 2 (.string (u.pass ++ (⟨#[120]⟩ : ByteArray))))
        have K9 := Lib.hid (show Blk (w2.setCell ⟨g, 2, none⟩ (.string (u.pass ++ (⟨#[120]⟩ : ByteArray)))) B 29 CU from K7.out.far (p := ⟨g, 2, none⟩) (by have := HBG.out; show B ≠ g; omega) _)
        have B9 := Lib.hid (B7.out.setCell (p := ⟨g, 2, none⟩) HG.out (.string (u.pass ++ (⟨#[120]⟩ : ByteArray))))
        have R9 := Lib.hid (show RowAt textC 1 (w2.setCell ⟨g, 2, none⟩ (.string (u.pass ++ (⟨#[120]⟩ : ByteArray)))) A2 u.path from by
          have h := row_keep (w' := (w2.setCell ⟨g, 2, none⟩ (.string (u.pass ++ (⟨#[120]⟩ : ByteArray))))) HO7.out (fun k e => Below.heap_setCell _ _ _ _ (by have := (row_blk HO7.out e).1; show k ≠ g; omega))
          obtain ⟨A3, c3, e, h, -⟩ := OwnR.row (f := textC) h textC_len
          cases e
          exact h)
        obtain ⟨W9, hW⟩ : ∃ W, W = (w2.setCell ⟨g, 2, none⟩ (.string (u.pass ++ (⟨#[120]⟩ : ByteArray)))) := ⟨_, rfl⟩
        rw [← hW] at V9 K9 B9 R9 ⊢
        obtain ⟨CX, hCX⟩ : ∃ C, C = CV.setIfInBounds 2 (.string (u.pass ++ (⟨#[120]⟩ : ByteArray))) := ⟨_, rfl⟩
        rw [← hCX] at V9
        have HCX := Lib.hid (show CX = ((otherV u 2).cells A2 c2).toArray by rw [hCX, HCV.out]; rfl)
        have HC9 := HC2
        clear hW hCX V7 K7 B7 HO7 HCV hcl2 f2
        go_wp2_with (with_reducible refine stopLoad ?_)
        refine stopN_go ?_
        refine wpList_load_urlG (Blk.range K9.out) HSZ.out _ rfl rfl (by kernel_rfl) ?_
        refine wpList_load_urlG (Blk.range V9.out) (by rw [HCX.out]; rfl) _ rfl rfl (by kernel_rfl) ?_
        go_wp2_with fail
        have hfin := HSM.out 2 c2 A2 W9 B9.out R9.out HC9.out
        rw [← HCX.out] at hfin
        refine hfin.mono ?_
        rintro e w10 ⟨rfl, hb⟩
        have B10 := Lib.hid (belowOn B9.out B9.out.size hb)
        clear hb
        go_wp2_with fail
        go_ret
        exact ⟨rfl, B10.out⟩
      · clear HMOD
        have hcl3 : w2.cell? ⟨g, 3, none⟩ = some (.int .i64 u.h.kind) := (V7.out.cell 3).trans (by rw [HCV.out]; rfl)
        have f3 : w2.frozen? ⟨g, 3, none⟩ = false := V7.out.frozen _
        go_upto_region 23 with fail
        have V9 := Lib.hid (V7.out.set_ 3 (.int .i64 (wrap64 (u.h.kind + 1))))
        have K9 := Lib.hid (show Blk (w2.setCell ⟨g, 3, none⟩ (.int .i64 (wrap64 (u.h.kind + 1)))) B 29 CU from K7.out.far (p := ⟨g, 3, none⟩) (by have := HBG.out; show B ≠ g; omega) _)
        have B9 := Lib.hid (B7.out.setCell (p := ⟨g, 3, none⟩) HG.out (.int .i64 (wrap64 (u.h.kind + 1))))
        have R9 := Lib.hid (show RowAt textC 1 (w2.setCell ⟨g, 3, none⟩ (.int .i64 (wrap64 (u.h.kind + 1)))) A2 u.path from by
          have h := row_keep (w' := (w2.setCell ⟨g, 3, none⟩ (.int .i64 (wrap64 (u.h.kind + 1))))) HO7.out (fun k e => Below.heap_setCell _ _ _ _ (by have := (row_blk HO7.out e).1; show k ≠ g; omega))
          obtain ⟨A3, c3, e, h, -⟩ := OwnR.row (f := textC) h textC_len
          cases e
          exact h)
        obtain ⟨W9, hW⟩ : ∃ W, W = (w2.setCell ⟨g, 3, none⟩ (.int .i64 (wrap64 (u.h.kind + 1)))) := ⟨_, rfl⟩
        rw [← hW] at V9 K9 B9 R9 ⊢
        obtain ⟨CX, hCX⟩ : ∃ C, C = CV.setIfInBounds 3 (.int .i64 (wrap64 (u.h.kind + 1))) := ⟨_, rfl⟩
        rw [← hCX] at V9
        have HCX := Lib.hid (show CX = ((otherV u 3).cells A2 c2).toArray by rw [hCX, HCV.out]; rfl)
        have HC9 := HC2
        clear hW hCX V7 K7 B7 HO7 HCV hcl3 f3
        go_wp2_with (with_reducible refine stopLoad ?_)
        refine stopN_go ?_
        refine wpList_load_urlG (Blk.range K9.out) HSZ.out _ rfl rfl (by kernel_rfl) ?_
        refine wpList_load_urlG (Blk.range V9.out) (by rw [HCX.out]; rfl) _ rfl rfl (by kernel_rfl) ?_
        go_wp2_with fail
        have hfin := HSM.out 3 c2 A2 W9 B9.out R9.out HC9.out
        rw [← HCX.out] at hfin
        refine hfin.mono ?_
        rintro e w10 ⟨rfl, hb⟩
        have B10 := Lib.hid (belowOn B9.out B9.out.size hb)
        clear hb
        go_wp2_with fail
        go_ret
        exact ⟨rfl, B10.out⟩
      · clear HMOD
        have hcl14 : w2.cell? ⟨g, 14, none⟩ = some (.int .i64 u.port) := (V7.out.cell 14).trans (by rw [HCV.out]; rfl)
        have f14 : w2.frozen? ⟨g, 14, none⟩ = false := V7.out.frozen _
        go_upto_region 23 with fail
        have V9 := Lib.hid (V7.out.set_ 14 (.int .i64 (bits .xor .i64 u.port 1)))
        have K9 := Lib.hid (show Blk (w2.setCell ⟨g, 14, none⟩ (.int .i64 (bits .xor .i64 u.port 1))) B 29 CU from K7.out.far (p := ⟨g, 14, none⟩) (by have := HBG.out; show B ≠ g; omega) _)
        have B9 := Lib.hid (B7.out.setCell (p := ⟨g, 14, none⟩) HG.out (.int .i64 (bits .xor .i64 u.port 1)))
        have R9 := Lib.hid (show RowAt textC 1 (w2.setCell ⟨g, 14, none⟩ (.int .i64 (bits .xor .i64 u.port 1))) A2 u.path from by
          have h := row_keep (w' := (w2.setCell ⟨g, 14, none⟩ (.int .i64 (bits .xor .i64 u.port 1)))) HO7.out (fun k e => Below.heap_setCell _ _ _ _ (by have := (row_blk HO7.out e).1; show k ≠ g; omega))
          obtain ⟨A3, c3, e, h, -⟩ := OwnR.row (f := textC) h textC_len
          cases e
          exact h)
        obtain ⟨W9, hW⟩ : ∃ W, W = (w2.setCell ⟨g, 14, none⟩ (.int .i64 (bits .xor .i64 u.port 1))) := ⟨_, rfl⟩
        rw [← hW] at V9 K9 B9 R9 ⊢
        obtain ⟨CX, hCX⟩ : ∃ C, C = CV.setIfInBounds 14 (.int .i64 (bits .xor .i64 u.port 1)) := ⟨_, rfl⟩
        rw [← hCX] at V9
        have HCX := Lib.hid (show CX = ((otherV u 4).cells A2 c2).toArray by rw [hCX, HCV.out]; rfl)
        have HC9 := HC2
        clear hW hCX V7 K7 B7 HO7 HCV hcl14 f14
        go_wp2_with (with_reducible refine stopLoad ?_)
        refine stopN_go ?_
        refine wpList_load_urlG (Blk.range K9.out) HSZ.out _ rfl rfl (by kernel_rfl) ?_
        refine wpList_load_urlG (Blk.range V9.out) (by rw [HCX.out]; rfl) _ rfl rfl (by kernel_rfl) ?_
        go_wp2_with fail
        have hfin := HSM.out 4 c2 A2 W9 B9.out R9.out HC9.out
        rw [← HCX.out] at hfin
        refine hfin.mono ?_
        rintro e w10 ⟨rfl, hb⟩
        have B10 := Lib.hid (belowOn B9.out B9.out.size hb)
        clear hb
        go_wp2_with fail
        go_ret
        exact ⟨rfl, B10.out⟩
      · clear HMOD
        have hcl16 : w2.cell? ⟨g, 16, none⟩ = some (.slice A2 u.path.length c2) := (V7.out.cell 16).trans (by rw [HCV.out]; rfl)
        go_wp2_with (at_builtin; refine stop_here ?_)
        refine stop_go ?_
        refine wpList_appendR textC 1 textC_len (by omega) textC_one rfl (.tmp 70) (.tmp 71) _ 9 _ 16 rfl Tryd.underlying27 info_strR rfl (by omega) (g + 1) (.slice A2 u.path.length c2) u.path (some ⟨w2.heap.size, 0, none⟩) 1 [⟨#[]⟩] rfl rfl (HO7.out.below ((Below.refl _ _).alloc (Nat.le_refl _) _)) (row_new w2 [⟨#[]⟩] 9) (by have := HS.out.len; simp; omega) (by have := V7.out.lt; simp; omega) ?_
        intro v' w5 hown hgr hob
        have HO8 := Lib.hid hown
        obtain ⟨A3, c3, rfl, -, hc3, hm3, hA3⟩ := OwnR.row (f := textC) hown textC_len
        have K8 := Lib.hid (show Blk w5 B 29 CU from (K7.out.alloc _).grown hgr (fun e => by have := (row_blk HO7.out e.symm).1; have := HBG.out; omega))
        have V8 := Lib.hid (show Blk w5 g 29 CV from (V7.out.alloc _).grown hgr (fun e => by have := (row_blk HO7.out e.symm).1; omega))
        have B8 := Lib.hid (show Below w.heap.size w w5 from (B7.out.alloc B7.out.size _).grown hgr (by have := B7.out.size; simp; omega) (fun k e => by have := (row_blk HO7.out e).1; have := HG.out; omega))
        have HC9 := Lib.hid (show (otherV u 5).path.length ≤ c3 from hc3)
        clear hown hgr hob hc3 hm3 hA3 hcl16 K7 V7 B7 HO7
        have hcl16 : w5.cell? ⟨g, 16, none⟩ = some (.slice A2 u.path.length c2) := (V8.out.cell 16).trans (by rw [HCV.out]; rfl)
        have f16 : w5.frozen? ⟨g, 16, none⟩ = false := V8.out.frozen _
        go_upto_region 23 with fail
        have V9 := Lib.hid (V8.out.set_ 16 (.slice A3 (u.path.length + 1) c3))
        have K9 := Lib.hid (show Blk (w5.setCell ⟨g, 16, none⟩ (.slice A3 (u.path.length + 1) c3)) B 29 CU from K8.out.far (p := ⟨g, 16, none⟩) (by have := HBG.out; show B ≠ g; omega) _)
        have B9 := Lib.hid (B8.out.setCell (p := ⟨g, 16, none⟩) HG.out (.slice A3 (u.path.length + 1) c3))
        have R9 := Lib.hid (show RowAt textC 1 (w5.setCell ⟨g, 16, none⟩ (.slice A3 (u.path.length + 1) c3)) A3 (u.path ++ [(⟨#[]⟩ : ByteArray)]) from by
          have h := row_keep (w' := (w5.setCell ⟨g, 16, none⟩ (.slice A3 (u.path.length + 1) c3))) HO8.out (fun k e => Below.heap_setCell _ _ _ _ (by have := (row_blk HO8.out e).1; show k ≠ g; omega))
          obtain ⟨A4, c4, e, h, -⟩ := OwnR.row (f := textC) h textC_len
          cases e
          exact h)
        obtain ⟨CX, hCX⟩ : ∃ C, C = CV.setIfInBounds 16 (.slice A3 (u.path.length + 1) c3) := ⟨_, rfl⟩
        rw [← hCX] at V9
        have HCX := Lib.hid (show CX = ((otherV u 5).cells A3 c3).toArray by
          have hl : (otherV u 5).path.length = u.path.length + 1 := by simp [otherV]
          rw [hCX, HCV.out, cells_u, cells_u, hl]
          rfl)
        obtain ⟨W9, hW⟩ : ∃ W, W = (w5.setCell ⟨g, 16, none⟩ (.slice A3 (u.path.length + 1) c3)) := ⟨_, rfl⟩
        rw [← hW] at V9 K9 B9 R9 ⊢
        clear hW hCX V8 K8 B8 HO8 HCV hcl16 f16
        go_wp2_with (with_reducible refine stopLoad ?_)
        refine stopN_go ?_
        refine wpList_load_urlG (Blk.range K9.out) HSZ.out _ rfl rfl (by kernel_rfl) ?_
        refine wpList_load_urlG (Blk.range V9.out) (by rw [HCX.out]; rfl) _ rfl rfl (by kernel_rfl) ?_
        go_wp2_with fail
        have hfin := HSM.out 5 c3 A3 W9 B9.out R9.out HC9.out
        rw [← HCX.out] at hfin
        refine hfin.mono ?_
        rintro e w10 ⟨rfl, hb⟩
        have B10 := Lib.hid (belowOn B9.out B9.out.size hb)
        clear hb
        go_wp2_with fail
        go_ret
        exact ⟨rfl, B10.out⟩
      · clear HMOD
        have hcl17 : w2.cell? ⟨g, 17, none⟩ = some (.bool u.hasq) := (V7.out.cell 17).trans (by rw [HCV.out]; rfl)
        have f17 : w2.frozen? ⟨g, 17, none⟩ = false := V7.out.frozen _
        go_upto_region 23 with fail
        have V9 := Lib.hid (V7.out.set_ 17 (.bool (!u.hasq)))
        have K9 := Lib.hid (show Blk (w2.setCell ⟨g, 17, none⟩ (.bool (!u.hasq))) B 29 CU from K7.out.far (p := ⟨g, 17, none⟩) (by have := HBG.out; show B ≠ g; omega) _)
        have B9 := Lib.hid (B7.out.setCell (p := ⟨g, 17, none⟩) HG.out (.bool (!u.hasq)))
        have R9 := Lib.hid (show RowAt textC 1 (w2.setCell ⟨g, 17, none⟩ (.bool (!u.hasq))) A2 u.path from by
          have h := row_keep (w' := (w2.setCell ⟨g, 17, none⟩ (.bool (!u.hasq)))) HO7.out (fun k e => Below.heap_setCell _ _ _ _ (by have := (row_blk HO7.out e).1; show k ≠ g; omega))
          obtain ⟨A3, c3, e, h, -⟩ := OwnR.row (f := textC) h textC_len
          cases e
          exact h)
        obtain ⟨W9, hW⟩ : ∃ W, W = (w2.setCell ⟨g, 17, none⟩ (.bool (!u.hasq))) := ⟨_, rfl⟩
        rw [← hW] at V9 K9 B9 R9 ⊢
        obtain ⟨CX, hCX⟩ : ∃ C, C = CV.setIfInBounds 17 (.bool (!u.hasq)) := ⟨_, rfl⟩
        rw [← hCX] at V9
        have HCX := Lib.hid (show CX = ((otherV u 6).cells A2 c2).toArray by rw [hCX, HCV.out]; rfl)
        have HC9 := HC2
        clear hW hCX V7 K7 B7 HO7 HCV hcl17 f17
        go_wp2_with (with_reducible refine stopLoad ?_)
        refine stopN_go ?_
        refine wpList_load_urlG (Blk.range K9.out) HSZ.out _ rfl rfl (by kernel_rfl) ?_
        refine wpList_load_urlG (Blk.range V9.out) (by rw [HCX.out]; rfl) _ rfl rfl (by kernel_rfl) ?_
        go_wp2_with fail
        have hfin := HSM.out 6 c2 A2 W9 B9.out R9.out HC9.out
        rw [← HCX.out] at hfin
        refine hfin.mono ?_
        rintro e w10 ⟨rfl, hb⟩
        have B10 := Lib.hid (belowOn B9.out B9.out.size hb)
        clear hb
        go_wp2_with fail
        go_ret
        exact ⟨rfl, B10.out⟩
      · clear HMOD
        have hcl15 : w2.cell? ⟨g, 15, none⟩ = some (.bool u.opq) := (V7.out.cell 15).trans (by rw [HCV.out]; rfl)
        have f15 : w2.frozen? ⟨g, 15, none⟩ = false := V7.out.frozen _
        go_upto_region 23 with fail
        have V9 := Lib.hid (V7.out.set_ 15 (.bool (!u.opq)))
        have K9 := Lib.hid (show Blk (w2.setCell ⟨g, 15, none⟩ (.bool (!u.opq))) B 29 CU from K7.out.far (p := ⟨g, 15, none⟩) (by have := HBG.out; show B ≠ g; omega) _)
        have B9 := Lib.hid (B7.out.setCell (p := ⟨g, 15, none⟩) HG.out (.bool (!u.opq)))
        have R9 := Lib.hid (show RowAt textC 1 (w2.setCell ⟨g, 15, none⟩ (.bool (!u.opq))) A2 u.path from by
          have h := row_keep (w' := (w2.setCell ⟨g, 15, none⟩ (.bool (!u.opq)))) HO7.out (fun k e => Below.heap_setCell _ _ _ _ (by have := (row_blk HO7.out e).1; show k ≠ g; omega))
          obtain ⟨A3, c3, e, h, -⟩ := OwnR.row (f := textC) h textC_len
          cases e
          exact h)
        obtain ⟨W9, hW⟩ : ∃ W, W = (w2.setCell ⟨g, 15, none⟩ (.bool (!u.opq))) := ⟨_, rfl⟩
        rw [← hW] at V9 K9 B9 R9 ⊢
        obtain ⟨CX, hCX⟩ : ∃ C, C = CV.setIfInBounds 15 (.bool (!u.opq)) := ⟨_, rfl⟩
        rw [← hCX] at V9
        have HCX := Lib.hid (show CX = ((otherV u 7).cells A2 c2).toArray by rw [hCX, HCV.out]; rfl)
        have HC9 := HC2
        clear hW hCX V7 K7 B7 HO7 HCV hcl15 f15
        go_wp2_with (with_reducible refine stopLoad ?_)
        refine stopN_go ?_
        refine wpList_load_urlG (Blk.range K9.out) HSZ.out _ rfl rfl (by kernel_rfl) ?_
        refine wpList_load_urlG (Blk.range V9.out) (by rw [HCX.out]; rfl) _ rfl rfl (by kernel_rfl) ?_
        go_wp2_with fail
        have hfin := HSM.out 7 c2 A2 W9 B9.out R9.out HC9.out
        rw [← HCX.out] at hfin
        refine hfin.mono ?_
        rintro e w10 ⟨rfl, hb⟩
        have B10 := Lib.hid (belowOn B9.out B9.out.size hb)
        clear hb
        go_wp2_with fail
        go_ret
        exact ⟨rfl, B10.out⟩
end Go.Proofs.YtgljkgkmbfhgiaaDoor
