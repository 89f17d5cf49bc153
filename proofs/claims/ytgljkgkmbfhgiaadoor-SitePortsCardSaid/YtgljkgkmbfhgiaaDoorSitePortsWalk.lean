/- SitePorts, walked. -/
import Derived.Test.YtgljkgkmbfhgiaaDoorSiteAwake
set_option linter.unusedVariables false
set_option linter.unusedSimpArgs false
set_option maxRecDepth 100000
namespace Go.Proofs.YtgljkgkmbfhgiaaDoor
open Go.RowKit Four Six Rec

def porg (name : ByteArray) (p : Int) : OrgV := ⟨false, ⟨#[104, 116, 116, 112]⟩, nm name, p⟩
theorem porgc (name : ByteArray) (p : Int) : (porg name p).cells.toArray = #[.bool false, .string ⟨#[104, 116, 116, 112]⟩, .int .i64 2, .string name, .int .u32 0, .int .u16 0, .int .u16 0, .int .u16 0, .int .u16 0, .int .u16 0, .int .u16 0, .int .u16 0, .int .u16 0, .int .i64 p] := rfl
theorem site_port (rules : List Rule) (name : ByteArray) (p q : Int) : sameT rules (porg name p) (porg name q) = true := by
  unfold sameT
  simp only [show ∀ p, (porg name p).opq = false from fun _ => rfl, Bool.not_false, Bool.true_and, decide_eq_true_eq]
  rfl
theorem site_http {rules : List Rule} {name : ByteArray} {r : List UInt8} (h : some r = endsP rules (nm name) 1) (p : Int) : mkB (siteT rules (porg name p)) = (⟨#[104, 116, 116, 112, 58, 47, 47]⟩ : ByteArray) ++ mkB r := by
  have e : siteT rules (porg name p) = [104, 116, 116, 112, 58, 47, 47] ++ r := by
    show [104, 116, 116, 112] ++ [58, 47, 47] ++ siteH rules (nm name) = _
    unfold siteH
    rw [← h]
    rfl
  rw [e, ← mkB_append]
  rfl
set_option maxHeartbeats 4000000 in
theorem ports_law {w : World} (hF : FW w) (A : Option Addr) (c : Nat) (l : List RulV) (hr : RowAt RulV.cells 2 w A l) (hok : ∀ x ∈ l, x.ok w) (hlc : l.length ≤ c) (hcm : c ≤ maxLen) (name : ByteArray) (more : Int) (hm0 : 0 ≤ more) (hm1 : more < 256) :
    Calls Tryd.prog 12 #[.slice A l.length c, .string name, .int .u8 more] w fun e w' => e = .returned (.bool true) ∧ Below w.heap.size w w' := by
  have HAW := Lib.hid (fun (W : World) (hb : Below w.heap.size w W) => awake_calls (hF.keep hb))
  have HF := Lib.hid (fun (W : World) (hb : Below w.heap.size w W) => hF.keep hb)
  have F1 := Lib.hid (fun (W : World) (hb : Below w.heap.size w W) => few_rules A c l W (hr.keep hb) (fun x hx => (hok x hx).keep hb) hlc hcm)
  have HN := Lib.hid (fun (W : World) (hb : Below w.heap.size w W) => new_calls A c l W 1 (hr.keep hb) (fun x hx => (hok x hx).keep hb) hlc hcm)
  have HROW := Lib.hid hr
  have HOK := Lib.hid hok
  clear hF hr hok
  have Bw := Lib.hid (Below.refl w.heap.size w)
  cases hf1 : fewR l
  · go_enter Tryd.func12, Tryd.ntmps12
    go_wp2_with fail
    refine (HAW.out w Bw.out).mono ?_
    rintro e u1 ⟨rfl, hb⟩
    have Bu1 := Lib.hid (belowOn Bw.out Bw.out.size hb)
    clear hb Bw
    go_wp2_with fail
    refine (F1.out u1 Bu1.out).mono ?_
    rw [hf1]
    rintro e w9 ⟨rfl, rfl⟩
    go_wp2_with fail
    go_ret
    exact ⟨rfl, Bu1.out⟩
  · by_cases hn : name.size ≤ 100
    · obtain ⟨E1, hE1⟩ : ∃ E, E = endsP (l.map (·.r)) (nm name) 1 := ⟨_, rfl⟩
      have hw8 : IntKind.i64.wrap more = more := by rw [IntKind.wrap_i64]; omega
      cases E1 with
      | none =>
        go_enter Tryd.func12, Tryd.ntmps12
        go_wp2_with fail
        refine (HAW.out w Bw.out).mono ?_
        rintro e u1 ⟨rfl, hb⟩
        have Bu1 := Lib.hid (belowOn Bw.out Bw.out.size hb)
        clear hb Bw
        go_wp2_with fail
        refine (F1.out u1 Bu1.out).mono ?_
        rw [hf1]
        rintro e w9 ⟨rfl, rfl⟩
        go_wp2_with fail
        refine (few17_calls name u1).mono ?_
        rintro e u2 ⟨rfl, hb⟩
        have Bu2 := Lib.hid (belowOn Bu1.out Bu1.out.size hb)
        clear hb Bu1
        rw [decide_eq_true hn]
        go_wp2_with fail
        refine (HN.out u2 Bu2.out).mono ?_
        rintro e u3 ⟨⟨t, a, rfl, ht⟩, hb⟩
        have Bu3 := Lib.hid (belowOn Bu2.out Bu2.out.size hb)
        have Tu3 := Lib.hid ht
        clear ht
        clear hb Bu2
        go_wp2_with fail
        refine (named_calls name u3).mono ?_
        rintro e u4 ⟨rfl, hb⟩
        have Tu4 := Lib.hid (Tu3.out.keep hb)
        have Bu4 := Lib.hid (belowOn Bu3.out Bu3.out.size hb)
        clear hb Bu3 Tu3
        have q := reg17_calls Tu4.out (HF.out _ Bu4.out) (nm name) (show name.size ≤ 200 by omega)
        rw [← hE1, nmc] at q
        have Q1 := Lib.hid q
        clear q
        go_wp2_with fail
        refine (Q1.out).mono ?_
        rintro e u5 ⟨rfl, hb⟩
        have Tu5 := Lib.hid (Tu4.out.keep hb)
        have Bu5 := Lib.hid (belowOn Bu4.out Bu4.out.size hb)
        clear hb Bu4 Tu4
        unfold endsV
        go_wp2_with fail
        refine (named_calls name u5).mono ?_
        rintro e u6 ⟨rfl, hb⟩
        have Tu6 := Lib.hid (Tu5.out.keep hb)
        have Bu6 := Lib.hid (belowOn Bu5.out Bu5.out.size hb)
        clear hb Bu5 Tu5
        have K8 := Lib.hid (Blk.new u6 49 #[.bool false, .string ⟨#[104, 116, 116, 112]⟩, .int .i64 2, .string name, .int .u32 0, .int .u16 0, .int .u16 0, .int .u16 0, .int .u16 0, .int .u16 0, .int .u16 0, .int .u16 0, .int .u16 0, .int .i64 1])
        have hbx := (Below.refl u6.heap.size u6).alloc (Nat.le_refl _) (.cells #[.bool false, .string ⟨#[104, 116, 116, 112]⟩, .int .i64 2, .string name, .int .u32 0, .int .u16 0, .int .u16 0, .int .u16 0, .int .u16 0, .int .u16 0, .int .u16 0, .int .u16 0, .int .u16 0, .int .i64 1] 49)
        have T8 := Lib.hid (Tu6.out.keep hbx)
        have B8 := Lib.hid (Bu6.out.alloc Bu6.out.size (.cells #[.bool false, .string ⟨#[104, 116, 116, 112]⟩, .int .i64 2, .string name, .int .u32 0, .int .u16 0, .int .u16 0, .int .u16 0, .int .u16 0, .int .u16 0, .int .u16 0, .int .u16 0, .int .u16 0, .int .i64 1] 49))
        go_wp2_with (with_reducible refine stopG ?_)
        generalize u6.alloc (.cells #[.bool false, .string ⟨#[104, 116, 116, 112]⟩, .int .i64 2, .string name, .int .u32 0, .int .u16 0, .int .u16 0, .int .u16 0, .int .u16 0, .int .u16 0, .int .u16 0, .int .u16 0, .int .u16 0, .int .i64 1] 49) = W8 at K8 T8 B8 ⊢
        generalize u6.heap.size = g8 at K8 ⊢
        clear hbx
        have lt8 := K8.out.lt
        refine stopS_go ?_
        refine load_org K8.out rfl (.tmp 11) rfl rfl rfl ?_
        have K9 := Lib.hid (Blk.new W8 49 #[.bool false, .string ⟨#[104, 116, 116, 112]⟩, .int .i64 2, .string name, .int .u32 0, .int .u16 0, .int .u16 0, .int .u16 0, .int .u16 0, .int .u16 0, .int .u16 0, .int .u16 0, .int .u16 0, .int .i64 more])
        have hbx := (Below.refl W8.heap.size W8).alloc (Nat.le_refl _) (.cells #[.bool false, .string ⟨#[104, 116, 116, 112]⟩, .int .i64 2, .string name, .int .u32 0, .int .u16 0, .int .u16 0, .int .u16 0, .int .u16 0, .int .u16 0, .int .u16 0, .int .u16 0, .int .u16 0, .int .i64 more] 49)
        have T9 := Lib.hid (T8.out.keep hbx)
        have J9 := Lib.hid (K8.out.keep hbx)
        have B9 := Lib.hid (B8.out.alloc B8.out.size (.cells #[.bool false, .string ⟨#[104, 116, 116, 112]⟩, .int .i64 2, .string name, .int .u32 0, .int .u16 0, .int .u16 0, .int .u16 0, .int .u16 0, .int .u16 0, .int .u16 0, .int .u16 0, .int .u16 0, .int .i64 more] 49))
        go_wp2_with (with_reducible refine stopG ?_)
        generalize W8.alloc (.cells #[.bool false, .string ⟨#[104, 116, 116, 112]⟩, .int .i64 2, .string name, .int .u32 0, .int .u16 0, .int .u16 0, .int .u16 0, .int .u16 0, .int .u16 0, .int .u16 0, .int .u16 0, .int .u16 0, .int .i64 more] 49) = W9 at K9 T9 J9 B9 ⊢
        generalize W8.heap.size = g9 at K9 ⊢
        clear hbx B8 T8 K8 lt8
        have BW9 := B9
        have TW9 := T9
        have KW9 := K9
        have JW9 := J9
        clear B9 T9 K9 J9
        have q := same17_calls TW9.out (HF.out _ BW9.out) (porg name 1) (porg name more) (nm_ok _) (nm_ok _) (show name.size ≤ 200 by omega) (show (4 : Nat) ≤ 200 by decide) (show name.size ≤ 200 by omega) (show (4 : Nat) ≤ 200 by decide)
        rw [site_port, porgc, porgc] at q
        have Q2 := Lib.hid q
        clear q
        refine stopS_go ?_
        refine load_org JW9.out rfl (.tmp 11) rfl rfl rfl ?_
        go_wp2_with (with_reducible refine stopG ?_)
        refine stopS_go ?_
        refine load_org KW9.out rfl (.tmp 12) rfl rfl rfl ?_
        go_wp2_with fail
        refine (Q2.out).mono ?_
        rintro e u7 ⟨rfl, hb⟩
        have Tu7 := Lib.hid (TW9.out.keep hb)
        have Ku7 := Lib.hid (KW9.out.keep hb)
        have Ju7 := Lib.hid (JW9.out.keep hb)
        have Bu7 := Lib.hid (belowOn BW9.out BW9.out.size hb)
        clear hb BW9 TW9 KW9 JW9
        go_wp2_with fail
        go_ret
        exact ⟨rfl, Bu7.out⟩
      | some r =>
        go_enter Tryd.func12, Tryd.ntmps12
        go_wp2_with fail
        refine (HAW.out w Bw.out).mono ?_
        rintro e u1 ⟨rfl, hb⟩
        have Bu1 := Lib.hid (belowOn Bw.out Bw.out.size hb)
        clear hb Bw
        go_wp2_with fail
        refine (F1.out u1 Bu1.out).mono ?_
        rw [hf1]
        rintro e w9 ⟨rfl, rfl⟩
        go_wp2_with fail
        refine (few17_calls name u1).mono ?_
        rintro e u2 ⟨rfl, hb⟩
        have Bu2 := Lib.hid (belowOn Bu1.out Bu1.out.size hb)
        clear hb Bu1
        rw [decide_eq_true hn]
        go_wp2_with fail
        refine (HN.out u2 Bu2.out).mono ?_
        rintro e u3 ⟨⟨t, a, rfl, ht⟩, hb⟩
        have Bu3 := Lib.hid (belowOn Bu2.out Bu2.out.size hb)
        have Tu3 := Lib.hid ht
        clear ht
        clear hb Bu2
        go_wp2_with fail
        refine (named_calls name u3).mono ?_
        rintro e u4 ⟨rfl, hb⟩
        have Tu4 := Lib.hid (Tu3.out.keep hb)
        have Bu4 := Lib.hid (belowOn Bu3.out Bu3.out.size hb)
        clear hb Bu3 Tu3
        have q := reg17_calls Tu4.out (HF.out _ Bu4.out) (nm name) (show name.size ≤ 200 by omega)
        rw [← hE1, nmc] at q
        have Q1 := Lib.hid q
        clear q
        go_wp2_with fail
        refine (Q1.out).mono ?_
        rintro e u5 ⟨rfl, hb⟩
        have Tu5 := Lib.hid (Tu4.out.keep hb)
        have Bu5 := Lib.hid (belowOn Bu4.out Bu4.out.size hb)
        clear hb Bu4 Tu4
        unfold endsV
        go_wp2_with fail
        refine (named_calls name u5).mono ?_
        rintro e u6 ⟨rfl, hb⟩
        have Tu6 := Lib.hid (Tu5.out.keep hb)
        have Bu6 := Lib.hid (belowOn Bu5.out Bu5.out.size hb)
        clear hb Bu5 Tu5
        have K8 := Lib.hid (Blk.new u6 49 #[.bool false, .string ⟨#[104, 116, 116, 112]⟩, .int .i64 2, .string name, .int .u32 0, .int .u16 0, .int .u16 0, .int .u16 0, .int .u16 0, .int .u16 0, .int .u16 0, .int .u16 0, .int .u16 0, .int .i64 1])
        have hbx := (Below.refl u6.heap.size u6).alloc (Nat.le_refl _) (.cells #[.bool false, .string ⟨#[104, 116, 116, 112]⟩, .int .i64 2, .string name, .int .u32 0, .int .u16 0, .int .u16 0, .int .u16 0, .int .u16 0, .int .u16 0, .int .u16 0, .int .u16 0, .int .u16 0, .int .i64 1] 49)
        have T8 := Lib.hid (Tu6.out.keep hbx)
        have B8 := Lib.hid (Bu6.out.alloc Bu6.out.size (.cells #[.bool false, .string ⟨#[104, 116, 116, 112]⟩, .int .i64 2, .string name, .int .u32 0, .int .u16 0, .int .u16 0, .int .u16 0, .int .u16 0, .int .u16 0, .int .u16 0, .int .u16 0, .int .u16 0, .int .i64 1] 49))
        go_wp2_with (with_reducible refine stopG ?_)
        generalize u6.alloc (.cells #[.bool false, .string ⟨#[104, 116, 116, 112]⟩, .int .i64 2, .string name, .int .u32 0, .int .u16 0, .int .u16 0, .int .u16 0, .int .u16 0, .int .u16 0, .int .u16 0, .int .u16 0, .int .u16 0, .int .i64 1] 49) = W8 at K8 T8 B8 ⊢
        generalize u6.heap.size = g8 at K8 ⊢
        clear hbx
        have lt8 := K8.out.lt
        refine stopS_go ?_
        refine load_org K8.out rfl (.tmp 11) rfl rfl rfl ?_
        have K9 := Lib.hid (Blk.new W8 49 #[.bool false, .string ⟨#[104, 116, 116, 112]⟩, .int .i64 2, .string name, .int .u32 0, .int .u16 0, .int .u16 0, .int .u16 0, .int .u16 0, .int .u16 0, .int .u16 0, .int .u16 0, .int .u16 0, .int .i64 more])
        have hbx := (Below.refl W8.heap.size W8).alloc (Nat.le_refl _) (.cells #[.bool false, .string ⟨#[104, 116, 116, 112]⟩, .int .i64 2, .string name, .int .u32 0, .int .u16 0, .int .u16 0, .int .u16 0, .int .u16 0, .int .u16 0, .int .u16 0, .int .u16 0, .int .u16 0, .int .i64 more] 49)
        have T9 := Lib.hid (T8.out.keep hbx)
        have J9 := Lib.hid (K8.out.keep hbx)
        have B9 := Lib.hid (B8.out.alloc B8.out.size (.cells #[.bool false, .string ⟨#[104, 116, 116, 112]⟩, .int .i64 2, .string name, .int .u32 0, .int .u16 0, .int .u16 0, .int .u16 0, .int .u16 0, .int .u16 0, .int .u16 0, .int .u16 0, .int .u16 0, .int .i64 more] 49))
        go_wp2_with (with_reducible refine stopG ?_)
        generalize W8.alloc (.cells #[.bool false, .string ⟨#[104, 116, 116, 112]⟩, .int .i64 2, .string name, .int .u32 0, .int .u16 0, .int .u16 0, .int .u16 0, .int .u16 0, .int .u16 0, .int .u16 0, .int .u16 0, .int .u16 0, .int .i64 more] 49) = W9 at K9 T9 J9 B9 ⊢
        generalize W8.heap.size = g9 at K9 ⊢
        clear hbx B8 T8 K8 lt8
        have BW9 := B9
        have TW9 := T9
        have KW9 := K9
        have JW9 := J9
        clear B9 T9 K9 J9
        have q := same17_calls TW9.out (HF.out _ BW9.out) (porg name 1) (porg name more) (nm_ok _) (nm_ok _) (show name.size ≤ 200 by omega) (show (4 : Nat) ≤ 200 by decide) (show name.size ≤ 200 by omega) (show (4 : Nat) ≤ 200 by decide)
        rw [site_port, porgc, porgc] at q
        have Q2 := Lib.hid q
        clear q
        refine stopS_go ?_
        refine load_org JW9.out rfl (.tmp 11) rfl rfl rfl ?_
        go_wp2_with (with_reducible refine stopG ?_)
        refine stopS_go ?_
        refine load_org KW9.out rfl (.tmp 12) rfl rfl rfl ?_
        go_wp2_with fail
        refine (Q2.out).mono ?_
        rintro e u7 ⟨rfl, hb⟩
        have Tu7 := Lib.hid (TW9.out.keep hb)
        have Ku7 := Lib.hid (KW9.out.keep hb)
        have Ju7 := Lib.hid (JW9.out.keep hb)
        have Bu7 := Lib.hid (belowOn BW9.out BW9.out.size hb)
        clear hb BW9 TW9 KW9 JW9
        have q := of17_calls Tu7.out (HF.out _ Bu7.out) (porg name 1) (nm_ok _) (show name.size ≤ 200 by omega) (show (4 : Nat) ≤ 200 by decide)
        rw [site_http hE1, porgc] at q
        have Q3 := Lib.hid q
        clear q
        have hrl := endsP_len hE1.symm (show name.size ≤ 900 by omega)
        have hadd := fun V : World => run_string_add_sum (P := Tryd.prog) V ⟨#[104, 116, 116, 112, 58, 47, 47]⟩ (mkB r) (by rw [show (⟨#[104, 116, 116, 112, 58, 47, 47]⟩ : ByteArray).size = 7 from rfl, mkB_size]; omega)
        clear hrl
        go_wp2_with (with_reducible refine stopG ?_)
        refine stopS_go ?_
        refine load_org Ju7.out rfl (.tmp 11) rfl rfl rfl ?_
        go_wp2_with fail
        refine (Q3.out).mono ?_
        rintro e u8 ⟨rfl, hb⟩
        have Tu8 := Lib.hid (Tu7.out.keep hb)
        have Ku8 := Lib.hid (Ku7.out.keep hb)
        have Ju8 := Lib.hid (Ju7.out.keep hb)
        have Bu8 := Lib.hid (belowOn Bu7.out Bu7.out.size hb)
        clear hb Bu7 Tu7 Ku7 Ju7
        go_wp2_with fail
        go_ret
        exact ⟨rfl, Bu8.out⟩
    · go_enter Tryd.func12, Tryd.ntmps12
      go_wp2_with fail
      refine (HAW.out w Bw.out).mono ?_
      rintro e u1 ⟨rfl, hb⟩
      have Bu1 := Lib.hid (belowOn Bw.out Bw.out.size hb)
      clear hb Bw
      go_wp2_with fail
      refine (F1.out u1 Bu1.out).mono ?_
      rw [hf1]
      rintro e w9 ⟨rfl, rfl⟩
      go_wp2_with fail
      refine (few17_calls name u1).mono ?_
      rintro e u2 ⟨rfl, hb⟩
      have Bu2 := Lib.hid (belowOn Bu1.out Bu1.out.size hb)
      clear hb Bu1
      rw [decide_eq_false hn]
      go_wp2_with fail
      go_ret
      exact ⟨rfl, Bu2.out⟩
end Go.Proofs.YtgljkgkmbfhgiaaDoor
