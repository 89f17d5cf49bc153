/- RecordNew, walked. -/
import Derived.Test.YtgljkgkmbfhgiaaDoorRecAwake
set_option linter.unusedVariables false
set_option linter.unusedSimpArgs false
set_option maxRecDepth 100000
namespace Go.Proofs.YtgljkgkmbfhgiaaDoor
open Go.RowKit Four Six Rec

theorem newV_ok (s : ByteArray) : (newV s).ok := ⟨⟨by simp [newV], by simp [newV], by simp [newV], by simp [newV, HostV.v6]⟩, by simp [newV], by simp [newV]⟩
theorem newV_short (s : ByteArray) (h : s.size ≤ 100) : (newV s).short := (UrlV.few_iff _).1 (by simp [UrlV.few, newV, h, show (⟨#[]⟩ : ByteArray).size = 0 from rfl])
theorem newV_text (s : ByteArray) : mkB (textU (newV s) false) = s ++ ⟨#[58]⟩ := by
  apply ByteArray.ext
  apply Array.ext'
  simp [textU, newV, hosted, dotted, when, pathU, pathT, isEmpty, emptyB, mkB, ByteArray.data_append]
theorem newV_path (s : ByteArray) : mkB (pathU (newV s)) = ⟨#[]⟩ := by
  simp [newV, pathU, pathT, mkB]
set_option maxHeartbeats 4000000 in
theorem new_calls (s : ByteArray) (w : World) (hF : FW w) : Calls Tryd.prog 7 #[.string s] w fun e w' => e = .returned (.bool true) ∧ Below w.heap.size w w' := by
  have HF := Lib.hid hF
  clear hF
  by_cases hs : s.size ≤ 100
  · have h1 : ¬ (100 : Int) < (s.size : Int) := by omega
    obtain ⟨CS, hCS⟩ : ∃ CS, CS = ((newV s).cells none 0).toArray := ⟨_, rfl⟩
    have HU := Lib.hid (show UrlOk CS by rw [hCS]; exact urlok (newV s) none 0)
    have HEQ := Lib.hid (show CS = #[.string s, .string ⟨#[]⟩, .string ⟨#[]⟩, .int .i64 0, .string ⟨#[]⟩, .int .u32 0, .int .u16 0, .int .u16 0, .int .u16 0, .int .u16 0, .int .u16 0, .int .u16 0, .int .u16 0, .int .u16 0, .int .i64 (-1), .bool false, .slice none 0 0, .bool false, .string ⟨#[]⟩, .bool false, .string ⟨#[]⟩] by rw [hCS]; rfl)
    have HN := Lib.hid (fun W => new_url s W)
    have hr : ∀ W, RowAt textC 1 W none (newV s).path := fun W i x hx => by simp [newV] at hx
    have HT := Lib.hid (fun (W : World) (h : FW W) => urltext_calls (newV s) none 0 false (newV_ok s) (newV_short s hs) W h (hr W) (by simp [newV]))
    have HP := Lib.hid (fun (W : World) => pathU_calls (newV s) none 0 (newV_short s hs) W (hr W) (by simp [newV]))
    have HS := Lib.hid (fun (W : World) => same_calls (newV s) (newV s) none 0 none 0 (newV_ok s) (newV_ok s) (newV_short s hs) (newV_short s hs) W (hr W) (hr W) (by simp [newV]) (by simp [newV]))
    simp only [show sameV (newV s) (newV s) = true from sameV_iff.2 rfl] at HS
    simp only [newV_text, newV_path] at HT HP
    rw [← hCS] at HN HT HP HS
    have hadd : ∀ w, (Op.stringOp .add s ⟨#[58]⟩).run Tryd.prog w = .ok (.string (s ++ (⟨#[58]⟩ : ByteArray))) w := fun w => run_string_add_sum w _ _ (by rw [show (⟨#[58]⟩ : ByteArray).size = 1 from rfl]; omega)
    have HA := Lib.hid hadd
    clear hCS hs hr hadd
    go_enter Tryd.func7, Tryd.ntmps7
    go_wp2_with fail
    refine (awake_calls HF.out).mono ?_
    rintro e w0 ⟨rfl, hb⟩
    have H0 := Lib.hid hb
    clear hb
    go_wp2_with fail
    refine (HN.out _).mono ?_
    rintro e w1 ⟨rfl, hb⟩
    have H1 := Lib.hid (belowOn H0.out H0.out.size hb)
    clear hb HN H0
    go_wp2_with (with_reducible refine stopN ?_)
    refine stopN_go ?_
    have B1 := Lib.hid (H1.out.alloc H1.out.size (.cells #[.string ⟨#[]⟩, .string ⟨#[]⟩, .string ⟨#[]⟩, .int .i64 0, .string ⟨#[]⟩, .int .u32 0, .int .u16 0, .int .u16 0, .int .u16 0, .int .u16 0, .int .u16 0, .int .u16 0, .int .u16 0, .int .u16 0, .int .i64 0, .bool false, .slice none 0 0, .bool false, .string ⟨#[]⟩, .bool false, .string ⟨#[]⟩] 29))
    have KZ := Lib.hid (Blk.new w1 29 #[.string ⟨#[]⟩, .string ⟨#[]⟩, .string ⟨#[]⟩, .int .i64 0, .string ⟨#[]⟩, .int .u32 0, .int .u16 0, .int .u16 0, .int .u16 0, .int .u16 0, .int .u16 0, .int .u16 0, .int .u16 0, .int .u16 0, .int .i64 0, .bool false, .slice none 0 0, .bool false, .string ⟨#[]⟩, .bool false, .string ⟨#[]⟩])
    obtain ⟨g, hg⟩ : ∃ g, g = w1.heap.size := ⟨_, rfl⟩
    have HG := Lib.hid (show w.heap.size ≤ g by rw [hg]; exact H1.out.size)
    rw [← hg] at KZ ⊢
    with_reducible (refine wpList_store_urlO KZ.out rfl HU.out rfl _ _ rfl rfl rfl ?_)
    intro W k1 o1 z1 b1
    have KU := Lib.hid k1
    have HB := Lib.hid (b1 _ _ HG.out B1.out)
    have HFW := Lib.hid (HF.out.keep HB.out)
    have HSZ := Lib.hid HU.out.1
    clear k1 o1 z1 b1 KZ B1 H1 hg HU HF
    have hadd := HA.out
    go_wp2_with (with_reducible refine stopLoad ?_)
    refine stopN_go ?_
    refine wpList_load_urlG (Blk.range KU.out) HSZ.out _ rfl rfl (by kernel_rfl) ?_
    go_wp2_with fail
    rw [← HEQ.out]
    refine (HS.out _).mono ?_
    rintro e w2 ⟨rfl, hb⟩
    have H2 := Lib.hid hb
    have KU2 := Lib.hid (KU.out.keep hb)
    clear hb
    go_wp2_with (with_reducible refine stopLoad ?_)
    refine stopN_go ?_
    refine wpList_load_urlG (Blk.range KU2.out) HSZ.out _ rfl rfl (by kernel_rfl) ?_
    go_wp2_with fail
    refine (HT.out _ (HFW.out.keep H2.out)).mono ?_
    rintro e w3 ⟨rfl, hb⟩
    have H3 := Lib.hid (belowOn H2.out H2.out.size hb)
    have KU3 := Lib.hid (KU.out.keep H3.out)
    clear hb KU2 H2
    go_wp2_with (with_reducible refine stopLoad ?_)
    refine stopN_go ?_
    refine wpList_load_urlG (Blk.range KU3.out) HSZ.out _ rfl rfl (by kernel_rfl) ?_
    go_wp2_with fail
    refine (HP.out _).mono ?_
    rintro e w4 ⟨rfl, hb⟩
    have H4 := Lib.hid (belowOn HB.out HB.out.size (belowOn H3.out H3.out.size hb))
    clear hb
    go_wp2_with fail
    go_ret
    exact ⟨rfl, H4.out⟩
  · have h1 : (100 : Int) < (s.size : Int) := by omega
    clear hs
    go_enter Tryd.func7, Tryd.ntmps7
    go_wp2_with fail
    refine (awake_calls HF.out).mono ?_
    rintro e w0 ⟨rfl, hb⟩
    have H0 := Lib.hid hb
    clear hb
    go_wp2_with fail
    go_ret
    exact ⟨rfl, H0.out⟩
end Go.Proofs.YtgljkgkmbfhgiaaDoor
