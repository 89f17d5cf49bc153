/- SiteEnds, walked. -/
import Derived.Test.YtgljkgkmbfhgiaaDoorSiteAwake
import Derived.Test.YtgljkgkmbfhgiaaDoorSitePure
import Derived.Test.YtgljkgkmbfhgiaaDoorPSitex2
set_option linter.unusedVariables false
set_option linter.unusedSimpArgs false
set_option maxRecDepth 100000
namespace Go.Proofs.YtgljkgkmbfhgiaaDoor
open Go.RowKit Four Six Rec

theorem ends_pure {rules : List Rule} {name : ByteArray} {r : List UInt8} (h : endsP rules (nm name) 1 = some r) (hs : name.size ≤ 200) :
    ∃ (n : Nat) (s : List UInt8), endsP rules (nm name) 0 = some s ∧ (∃ X, name.data.toList = X ++ r) ∧ (∃ X, r = X ++ s) ∧ (labP (labelsL (mkB s))).1.length = n ∧ (labP (labelsL (mkB r))).1.length = n + 1 ∧ endsP rules (nm (mkB r)) 1 = some r ∧ r.length ≤ name.size ∧ s.length ≤ name.size ∧ n ≤ 300 := by
  unfold endsP at h ⊢
  simp only [show (nm name).kind = 2 from rfl, show (nm name).name = name from rfl, show ∀ s, (nm s).kind = 2 from fun _ => rfl, show ∀ s, (nm s).name = s from fun _ => rfl, if_true] at h ⊢
  cases hL : labelsL name with
  | none => rw [hL] at h; cases h
  | some L =>
    rw [hL] at h
    dsimp only at h ⊢
    obtain ⟨f1, f2, f3⟩ := labelsL_facts hL (by omega)
    have hsle := suffix_le rules L
    obtain ⟨n, hn⟩ : ∃ n : Nat, suffixR rules L = (n : Int) := ⟨(suffixR rules L).toNat, by omega⟩
    rw [hn] at h hsle ⊢
    split at h
    · cases h
    · rename_i hlt
      simp only [Option.some.injEq, Int.toNat_natCast] at h
      subst h
      obtain ⟨hname, hpos⟩ := name_is hL
      obtain ⟨X, hX⟩ := last_split name L (n + 1) L.length (by omega) (Nat.le_refl _)
      obtain ⟨Y, hY⟩ := last_split name L n (n + 1) (by omega) (by omega)
      have hl1 := labels_last hL (n + 1) (by omega)
      have hl0 := labels_last hL n (by omega)
      rw [if_neg (by omega)] at hl1
      have hlen : name.data.toList.length = name.size := by simp
      have hsz1 : (lastT name L (n + 1)).length ≤ name.size := by
        rw [← hlen, ← hname, hX, List.length_append]; omega
      have hsz0 : (lastT name L n).length ≤ name.size := by
        have := congrArg List.length hY
        rw [List.length_append] at this
        omega
      refine ⟨n, lastT name L n, by rw [if_neg (by omega)]; rfl, ⟨X, by rw [← hname, hX]⟩, ⟨Y, hY⟩, ?_, ?_, ?_, hsz1, hsz0, by omega⟩
      · rw [hl0]
        by_cases h0 : n = 0
        · rw [if_pos h0, h0]; rfl
        · rw [if_neg h0]
          show (L.take n).length = n
          rw [List.length_take]; omega
      · rw [hl1]
        show (L.take (n + 1)).length = n + 1
        rw [List.length_take]; omega
      · rw [hl1]
        dsimp only
        have hst := suffix_take rules L n hn (by omega)
        have hll : (L.take (n + 1)).length = n + 1 := by rw [List.length_take]; omega
        rw [hst, if_neg (by rw [hll]; omega), Int.toNat_natCast]
        congr 1
        obtain ⟨h2, -⟩ := name_is hl1
        rw [hll, mkB_data] at h2
        exact h2
theorem ends17_calls (s t : ByteArray) (X : List UInt8) (h : s.data.toList = X ++ t.data.toList) (hs : s.size ≤ 1000) (w : World) : Calls Tryd.prog 35 #[.string s, .string t] w fun e w' => e = .returned (.bool true) ∧ Below w.heap.size w w' := by
  have hl := congrArg List.length h
  have e1 : s.data.toList.length = s.size := by simp
  have e2 : t.data.toList.length = t.size := by simp
  rw [List.length_append, e1, e2] at hl
  refine (PSite.gatepostlaw17_ends.calls s t true w ?_).mono ?_
  · unfold PSite.gatepostlaw17_ends.f
    have hw : Go.RowKit.wrap64 ((s.size : Int) - (t.size : Int)) = ((s.size - t.size : Nat) : Int) := by unfold Go.RowKit.wrap64; omega
    rw [if_pos (by omega), hw, if_pos (by omega), if_pos (by omega), Int.toNat_natCast]
    congr 1
    rw [beq_iff_eq, ByteArray.toList_eq, Plain.drop_data, ByteArray.toList_eq, h]
    have : s.size - t.size = X.length := by omega
    rw [this, List.drop_left]
  · rintro e w' ⟨rfl, hd⟩
    exact ⟨rfl, hd.below⟩
set_option maxHeartbeats 4000000 in
theorem ends_law {w : World} (hF : FW w) (A : Option Addr) (c : Nat) (l : List RulV) (hr : RowAt RulV.cells 2 w A l) (hok : ∀ x ∈ l, x.ok w) (hlc : l.length ≤ c) (hcm : c ≤ maxLen) (name : ByteArray) :
    Calls Tryd.prog 10 #[.slice A l.length c, .string name] w fun e w' => e = .returned (.bool true) ∧ Below w.heap.size w w' := by
  have HAW := Lib.hid (fun (W : World) (hb : Below w.heap.size w W) => awake_calls (hF.keep hb))
  have HF := Lib.hid (fun (W : World) (hb : Below w.heap.size w W) => hF.keep hb)
  have F1 := Lib.hid (fun (W : World) (hb : Below w.heap.size w W) => few_rules A c l W (hr.keep hb) (fun x hx => (hok x hx).keep hb) hlc hcm)
  have HN := Lib.hid (fun (W : World) (hb : Below w.heap.size w W) => new_calls A c l W 1 (hr.keep hb) (fun x hx => (hok x hx).keep hb) hlc hcm)
  have HROW := Lib.hid hr
  have HOK := Lib.hid hok
  clear hF hr hok
  have Bw := Lib.hid (Below.refl w.heap.size w)
  cases hf1 : fewR l
  · go_enter Tryd.func10, Tryd.ntmps10
    go_wp2_with fail
    refine (HAW.out w Bw.out).mono ?_
    rintro e u1 ⟨rfl, hb⟩
    have Bu1 := Lib.hid (belowOn Bw.out Bw.out.size hb)
    clear hb Bw
    go_wp2_with fail
    refine (F1.out u1 Bu1.out).mono ?_
    rw [hf1]
    rintro e w9 ⟨rfl, rfl⟩
    go_wp2_with fail
    go_ret
    exact ⟨rfl, Bu1.out⟩
  · by_cases hn : name.size ≤ 100
    · obtain ⟨E0, hE0⟩ : ∃ E, E = endsP (l.map (·.r)) (nm name) 0 := ⟨_, rfl⟩
      obtain ⟨E1, hE1⟩ : ∃ E, E = endsP (l.map (·.r)) (nm name) 1 := ⟨_, rfl⟩
      cases E1 with
      | none =>
        have mb := mkB_toList
        cases E0 with
        | none =>
          go_enter Tryd.func10, Tryd.ntmps10
          go_wp2_with fail
          refine (HAW.out w Bw.out).mono ?_
          rintro e u1 ⟨rfl, hb⟩
          have Bu1 := Lib.hid (belowOn Bw.out Bw.out.size hb)
          clear hb Bw
          go_wp2_with fail
          refine (F1.out u1 Bu1.out).mono ?_
          rw [hf1]
          rintro e w9 ⟨rfl, rfl⟩
          go_wp2_with fail
          refine (few17_calls name u1).mono ?_
          rintro e u2 ⟨rfl, hb⟩
          have Bu2 := Lib.hid (belowOn Bu1.out Bu1.out.size hb)
          clear hb Bu1
          rw [decide_eq_true hn]
          go_wp2_with fail
          refine (HN.out u2 Bu2.out).mono ?_
          rintro e u3 ⟨⟨t, a, rfl, ht⟩, hb⟩
          have Bu3 := Lib.hid (belowOn Bu2.out Bu2.out.size hb)
          have Tu3 := Lib.hid ht
          clear ht
          clear hb Bu2
          go_wp2_with fail
          refine (named_calls name u3).mono ?_
          rintro e u4 ⟨rfl, hb⟩
          have Tu4 := Lib.hid (Tu3.out.keep hb)
          have Bu4 := Lib.hid (belowOn Bu3.out Bu3.out.size hb)
          clear hb Bu3 Tu3
          have K9 := Lib.hid (Blk.new u4 26 #[.int .i64 2, .string name, .int .u32 0, .int .u16 0, .int .u16 0, .int .u16 0, .int .u16 0, .int .u16 0, .int .u16 0, .int .u16 0, .int .u16 0])
          have hbx := (Below.refl u4.heap.size u4).alloc (Nat.le_refl _) (.cells #[.int .i64 2, .string name, .int .u32 0, .int .u16 0, .int .u16 0, .int .u16 0, .int .u16 0, .int .u16 0, .int .u16 0, .int .u16 0, .int .u16 0] 26)
          have T9 := Lib.hid (Tu4.out.keep hbx)
          have B9 := Lib.hid (Bu4.out.alloc Bu4.out.size (.cells #[.int .i64 2, .string name, .int .u32 0, .int .u16 0, .int .u16 0, .int .u16 0, .int .u16 0, .int .u16 0, .int .u16 0, .int .u16 0, .int .u16 0] 26))
          go_wp2_with (with_reducible refine stopS ?_)
          generalize u4.alloc (.cells #[.int .i64 2, .string name, .int .u32 0, .int .u16 0, .int .u16 0, .int .u16 0, .int .u16 0, .int .u16 0, .int .u16 0, .int .u16 0, .int .u16 0] 26) = W9 at K9 T9 B9 ⊢
          generalize u4.heap.size = g9 at K9 ⊢
          clear hbx
          have BW9 := B9
          have TW9 := T9
          have KW9 := K9
          clear B9 T9 K9
          have q := suffix17_calls TW9.out (HF.out _ BW9.out) (nm name) (show name.size ≤ 200 by omega)
          rw [← hE0, nmc] at q
          have Q0 := Lib.hid q
          clear q
          refine stopS_go ?_
          refine load_hostB KW9.out rfl (.tmp 7) rfl rfl rfl ?_
          go_wp2_with fail
          refine (Q0.out).mono ?_
          rintro e u5 ⟨rfl, hb⟩
          have Tu5 := Lib.hid (TW9.out.keep hb)
          have Ku5 := Lib.hid (KW9.out.keep hb)
          have Bu5 := Lib.hid (belowOn BW9.out BW9.out.size hb)
          clear hb BW9 TW9 KW9
          unfold endsV
          have q := reg17_calls Tu5.out (HF.out _ Bu5.out) (nm name) (show name.size ≤ 200 by omega)
          rw [← hE1, nmc] at q
          have Q1 := Lib.hid q
          clear q
          go_wp2_with (with_reducible refine stopS ?_)
          refine stopS_go ?_
          refine load_hostB Ku5.out rfl (.tmp 7) rfl rfl rfl ?_
          go_wp2_with fail
          refine (Q1.out).mono ?_
          rintro e u6 ⟨rfl, hb⟩
          have Tu6 := Lib.hid (Tu5.out.keep hb)
          have Ku6 := Lib.hid (Ku5.out.keep hb)
          have Bu6 := Lib.hid (belowOn Bu5.out Bu5.out.size hb)
          clear hb Bu5 Tu5 Ku5
          unfold endsV
          go_wp2_with fail
          go_ret
          exact ⟨rfl, Bu6.out⟩
        | some s =>
          go_enter Tryd.func10, Tryd.ntmps10
          go_wp2_with fail
          refine (HAW.out w Bw.out).mono ?_
          rintro e u1 ⟨rfl, hb⟩
          have Bu1 := Lib.hid (belowOn Bw.out Bw.out.size hb)
          clear hb Bw
          go_wp2_with fail
          refine (F1.out u1 Bu1.out).mono ?_
          rw [hf1]
          rintro e w9 ⟨rfl, rfl⟩
          go_wp2_with fail
          refine (few17_calls name u1).mono ?_
          rintro e u2 ⟨rfl, hb⟩
          have Bu2 := Lib.hid (belowOn Bu1.out Bu1.out.size hb)
          clear hb Bu1
          rw [decide_eq_true hn]
          go_wp2_with fail
          refine (HN.out u2 Bu2.out).mono ?_
          rintro e u3 ⟨⟨t, a, rfl, ht⟩, hb⟩
          have Bu3 := Lib.hid (belowOn Bu2.out Bu2.out.size hb)
          have Tu3 := Lib.hid ht
          clear ht
          clear hb Bu2
          go_wp2_with fail
          refine (named_calls name u3).mono ?_
          rintro e u4 ⟨rfl, hb⟩
          have Tu4 := Lib.hid (Tu3.out.keep hb)
          have Bu4 := Lib.hid (belowOn Bu3.out Bu3.out.size hb)
          clear hb Bu3 Tu3
          have K9 := Lib.hid (Blk.new u4 26 #[.int .i64 2, .string name, .int .u32 0, .int .u16 0, .int .u16 0, .int .u16 0, .int .u16 0, .int .u16 0, .int .u16 0, .int .u16 0, .int .u16 0])
          have hbx := (Below.refl u4.heap.size u4).alloc (Nat.le_refl _) (.cells #[.int .i64 2, .string name, .int .u32 0, .int .u16 0, .int .u16 0, .int .u16 0, .int .u16 0, .int .u16 0, .int .u16 0, .int .u16 0, .int .u16 0] 26)
          have T9 := Lib.hid (Tu4.out.keep hbx)
          have B9 := Lib.hid (Bu4.out.alloc Bu4.out.size (.cells #[.int .i64 2, .string name, .int .u32 0, .int .u16 0, .int .u16 0, .int .u16 0, .int .u16 0, .int .u16 0, .int .u16 0, .int .u16 0, .int .u16 0] 26))
          go_wp2_with (with_reducible refine stopS ?_)
          generalize u4.alloc (.cells #[.int .i64 2, .string name, .int .u32 0, .int .u16 0, .int .u16 0, .int .u16 0, .int .u16 0, .int .u16 0, .int .u16 0, .int .u16 0, .int .u16 0] 26) = W9 at K9 T9 B9 ⊢
          generalize u4.heap.size = g9 at K9 ⊢
          clear hbx
          have BW9 := B9
          have TW9 := T9
          have KW9 := K9
          clear B9 T9 K9
          have q := suffix17_calls TW9.out (HF.out _ BW9.out) (nm name) (show name.size ≤ 200 by omega)
          rw [← hE0, nmc] at q
          have Q0 := Lib.hid q
          clear q
          refine stopS_go ?_
          refine load_hostB KW9.out rfl (.tmp 7) rfl rfl rfl ?_
          go_wp2_with fail
          refine (Q0.out).mono ?_
          rintro e u5 ⟨rfl, hb⟩
          have Tu5 := Lib.hid (TW9.out.keep hb)
          have Ku5 := Lib.hid (KW9.out.keep hb)
          have Bu5 := Lib.hid (belowOn BW9.out BW9.out.size hb)
          clear hb BW9 TW9 KW9
          unfold endsV
          have q := reg17_calls Tu5.out (HF.out _ Bu5.out) (nm name) (show name.size ≤ 200 by omega)
          rw [← hE1, nmc] at q
          have Q1 := Lib.hid q
          clear q
          go_wp2_with (with_reducible refine stopS ?_)
          refine stopS_go ?_
          refine load_hostB Ku5.out rfl (.tmp 7) rfl rfl rfl ?_
          go_wp2_with fail
          refine (Q1.out).mono ?_
          rintro e u6 ⟨rfl, hb⟩
          have Tu6 := Lib.hid (Tu5.out.keep hb)
          have Ku6 := Lib.hid (Ku5.out.keep hb)
          have Bu6 := Lib.hid (belowOn Bu5.out Bu5.out.size hb)
          clear hb Bu5 Tu5 Ku5
          unfold endsV
          go_wp2_with fail
          go_ret
          exact ⟨rfl, Bu6.out⟩
      | some r =>
        obtain ⟨n, s, hs0, ⟨X, hX⟩, ⟨Y, hY⟩, hl0, hl1, hown, hz1, hz0, hn3⟩ := ends_pure hE1.symm (by omega)
        rw [hs0] at hE0
        subst hE0
        have hE0 := hs0.symm
        have EN0 := Lib.hid (fun W => ends17_calls name (mkB r) X (by rw [mkB_data]; exact hX) (by omega) W)
        have EN1 := Lib.hid (fun W => ends17_calls (mkB r) (mkB s) Y (by rw [mkB_data, mkB_data]; exact hY) (by rw [mkB_size]; omega) W)
        clear hX hY
        go_enter Tryd.func10, Tryd.ntmps10
        go_wp2_with fail
        refine (HAW.out w Bw.out).mono ?_
        rintro e u1 ⟨rfl, hb⟩
        have Bu1 := Lib.hid (belowOn Bw.out Bw.out.size hb)
        clear hb Bw
        go_wp2_with fail
        refine (F1.out u1 Bu1.out).mono ?_
        rw [hf1]
        rintro e w9 ⟨rfl, rfl⟩
        go_wp2_with fail
        refine (few17_calls name u1).mono ?_
        rintro e u2 ⟨rfl, hb⟩
        have Bu2 := Lib.hid (belowOn Bu1.out Bu1.out.size hb)
        clear hb Bu1
        rw [decide_eq_true hn]
        go_wp2_with fail
        refine (HN.out u2 Bu2.out).mono ?_
        rintro e u3 ⟨⟨t, a, rfl, ht⟩, hb⟩
        have Bu3 := Lib.hid (belowOn Bu2.out Bu2.out.size hb)
        have Tu3 := Lib.hid ht
        clear ht
        clear hb Bu2
        go_wp2_with fail
        refine (named_calls name u3).mono ?_
        rintro e u4 ⟨rfl, hb⟩
        have Tu4 := Lib.hid (Tu3.out.keep hb)
        have Bu4 := Lib.hid (belowOn Bu3.out Bu3.out.size hb)
        clear hb Bu3 Tu3
        have K9 := Lib.hid (Blk.new u4 26 #[.int .i64 2, .string name, .int .u32 0, .int .u16 0, .int .u16 0, .int .u16 0, .int .u16 0, .int .u16 0, .int .u16 0, .int .u16 0, .int .u16 0])
        have hbx := (Below.refl u4.heap.size u4).alloc (Nat.le_refl _) (.cells #[.int .i64 2, .string name, .int .u32 0, .int .u16 0, .int .u16 0, .int .u16 0, .int .u16 0, .int .u16 0, .int .u16 0, .int .u16 0, .int .u16 0] 26)
        have T9 := Lib.hid (Tu4.out.keep hbx)
        have B9 := Lib.hid (Bu4.out.alloc Bu4.out.size (.cells #[.int .i64 2, .string name, .int .u32 0, .int .u16 0, .int .u16 0, .int .u16 0, .int .u16 0, .int .u16 0, .int .u16 0, .int .u16 0, .int .u16 0] 26))
        go_wp2_with (with_reducible refine stopS ?_)
        generalize u4.alloc (.cells #[.int .i64 2, .string name, .int .u32 0, .int .u16 0, .int .u16 0, .int .u16 0, .int .u16 0, .int .u16 0, .int .u16 0, .int .u16 0, .int .u16 0] 26) = W9 at K9 T9 B9 ⊢
        generalize u4.heap.size = g9 at K9 ⊢
        clear hbx
        have BW9 := B9
        have TW9 := T9
        have KW9 := K9
        clear B9 T9 K9
        have q := suffix17_calls TW9.out (HF.out _ BW9.out) (nm name) (show name.size ≤ 200 by omega)
        rw [← hE0, nmc] at q
        have Q0 := Lib.hid q
        clear q
        refine stopS_go ?_
        refine load_hostB KW9.out rfl (.tmp 7) rfl rfl rfl ?_
        go_wp2_with fail
        refine (Q0.out).mono ?_
        rintro e u5 ⟨rfl, hb⟩
        have Tu5 := Lib.hid (TW9.out.keep hb)
        have Ku5 := Lib.hid (KW9.out.keep hb)
        have Bu5 := Lib.hid (belowOn BW9.out BW9.out.size hb)
        clear hb BW9 TW9 KW9
        unfold endsV
        have q := reg17_calls Tu5.out (HF.out _ Bu5.out) (nm name) (show name.size ≤ 200 by omega)
        rw [← hE1, nmc] at q
        have Q1 := Lib.hid q
        clear q
        go_wp2_with (with_reducible refine stopS ?_)
        refine stopS_go ?_
        refine load_hostB Ku5.out rfl (.tmp 7) rfl rfl rfl ?_
        go_wp2_with fail
        refine (Q1.out).mono ?_
        rintro e u6 ⟨rfl, hb⟩
        have Tu6 := Lib.hid (Tu5.out.keep hb)
        have Ku6 := Lib.hid (Ku5.out.keep hb)
        have Bu6 := Lib.hid (belowOn Bu5.out Bu5.out.size hb)
        clear hb Bu5 Tu5 Ku5
        unfold endsV
        go_wp2_with fail
        refine (named_calls (mkB r) u6).mono ?_
        rintro e u7 ⟨rfl, hb⟩
        have Tu7 := Lib.hid (Tu6.out.keep hb)
        have Ku7 := Lib.hid (Ku6.out.keep hb)
        have Bu7 := Lib.hid (belowOn Bu6.out Bu6.out.size hb)
        clear hb Bu6 Tu6 Ku6
        have q := reg17_calls Tu7.out (HF.out _ Bu7.out) (nm (mkB r)) (show (mkB r).size ≤ 200 by rw [mkB_size]; omega)
        rw [hown, nmc] at q
        have Q2 := Lib.hid q
        clear q
        go_wp2_with fail
        refine (Q2.out).mono ?_
        rintro e u8 ⟨rfl, hb⟩
        have Tu8 := Lib.hid (Tu7.out.keep hb)
        have Ku8 := Lib.hid (Ku7.out.keep hb)
        have Bu8 := Lib.hid (belowOn Bu7.out Bu7.out.size hb)
        clear hb Bu7 Tu7 Ku7
        unfold endsV
        have L0 := Lib.hid (reflabels_calls (mkB s) (by rw [mkB_size]; omega) u8)
        rw [hl0] at L0
        go_wp2_with fail
        refine L0.out.mono ?_
        rintro e v1 ⟨A1, c1, rfl, -, -, -, hb⟩
        have Bv1 := Lib.hid (belowOn Bu8.out Bu8.out.size hb)
        clear hb
        have L1 := Lib.hid (reflabels_calls (mkB r) (by rw [mkB_size]; omega) v1)
        rw [hl1] at L1
        go_wp2_with fail
        refine L1.out.mono ?_
        rintro e v2 ⟨A2, c2, rfl, -, -, -, hb⟩
        have Bv2 := Lib.hid (belowOn Bv1.out Bv1.out.size hb)
        clear hb
        have hw1 : IntKind.i64.wrap ((n : Int) + 1) = (n : Int) + 1 := by rw [IntKind.wrap_i64]; omega
        go_wp2_with fail
        refine (EN0.out v2).mono ?_
        rintro e u9 ⟨rfl, hb⟩
        have Bu9 := Lib.hid (belowOn Bv2.out Bv2.out.size hb)
        clear hb Bv2
        go_wp2_with fail
        refine (EN1.out u9).mono ?_
        rintro e u10 ⟨rfl, hb⟩
        have Bu10 := Lib.hid (belowOn Bu9.out Bu9.out.size hb)
        clear hb Bu9
        go_wp2_with fail
        go_ret
        exact ⟨rfl, Bu10.out⟩
    · go_enter Tryd.func10, Tryd.ntmps10
      go_wp2_with fail
      refine (HAW.out w Bw.out).mono ?_
      rintro e u1 ⟨rfl, hb⟩
      have Bu1 := Lib.hid (belowOn Bw.out Bw.out.size hb)
      clear hb Bw
      go_wp2_with fail
      refine (F1.out u1 Bu1.out).mono ?_
      rw [hf1]
      rintro e w9 ⟨rfl, rfl⟩
      go_wp2_with fail
      refine (few17_calls name u1).mono ?_
      rintro e u2 ⟨rfl, hb⟩
      have Bu2 := Lib.hid (belowOn Bu1.out Bu1.out.size hb)
      clear hb Bu1
      rw [decide_eq_false hn]
      go_wp2_with fail
      go_ret
      exact ⟨rfl, Bu2.out⟩
end Go.Proofs.YtgljkgkmbfhgiaaDoor
