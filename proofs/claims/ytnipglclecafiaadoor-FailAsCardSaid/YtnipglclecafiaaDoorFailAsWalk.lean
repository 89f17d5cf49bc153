/- FailAs, FailApart, FailNone, walked. -/
import Derived.Test.YtnipglclecafiaaDoorFailTellsWalk
import Derived.Test.YtnipglclecafiaaDoorFailBare
set_option linter.unusedVariables false
set_option linter.unusedSimpArgs false
namespace Go.Proofs.YtnipglclecafiaaDoor
open Go.RowKit

theorem Chain.set_ {w : World} {l : List ByteArray} {v : Value} {c : Int} (h : Chain w l v c) {g : Nat} {cs : Array Value} (hg : Blk w g 40 cs) (i : Nat) (u : Value) : Chain (w.setCell ⟨g, i, none⟩ u) l v c :=
  h.mono fun k s v hk => (Blk.far (t := 45) hk (Blk.ne_ (t := 45) hk hg (by decide)) u)
theorem fb4 (w : World) (x y : Value) : ((w.alloc (.cells #[x, y] 45)).alloc (.cells #[.pointer none] 40)).cell? ⟨w.heap.size + 1, 0, none⟩ = some (.pointer none) ∧ ((w.alloc (.cells #[x, y] 45)).alloc (.cells #[.pointer none] 40)).frozen? ⟨w.heap.size + 1, 0, none⟩ = false ∧
    Blk ((w.alloc (.cells #[x, y] 45)).alloc (.cells #[.pointer none] 40)) (w.heap.size + 1) 40 #[.pointer none] := by
  have h : Blk ((w.alloc (.cells #[x, y] 45)).alloc (.cells #[.pointer none] 40)) (w.heap.size + 1) 40 #[.pointer none] := by
    have := Blk.new (w.alloc (.cells #[x, y] 45)) 40 #[.pointer none]
    simpa using this
  exact ⟨by rw [h.cell]; rfl, h.frozen 0, h⟩

set_option maxHeartbeats 2000000 in
theorem as_calls (A : Option Addr) (cap : Nat) (calls : List ByteArray) (call : ByteArray) (n : Int) (hn0 : 0 ≤ n) (hn1 : n < 256) (w : World) (hG : ErrType w) (h : RowAt sC 1 w A calls) (hlc : calls.length ≤ cap) (hcm : cap ≤ maxLen) :
    Calls Tryd.prog 5 #[.slice A calls.length cap, .string call, .int .u8 n] w fun e w' => e = .returned (.bool true) ∧ Below w.heap.size w w' := by
  have hmF := fun v w => methodErrF (213 - 1) v w
  have hmE := fun v w => methodErrE (213 - 1) v w
  simp only [Nat.reduceSub, Nat.reduceAdd] at hmF hmE
  have F1 := Lib.hid (fun w' (hb : Below w.heap.size w w') => few_strs A cap calls w' (h.keep hb) hlc hcm)
  have HG := Lib.hid hG
  have H := Lib.hid h
  clear h hG
  obtain ⟨c, hc⟩ : ∃ c, 1 + n % 10 = c := ⟨_, rfl⟩
  have hc1 : 1 ≤ c := by omega
  have hc10 : c ≤ 10 := by omega
  cases hf : fewS calls
  · rw [hf] at F1
    go_enter Tryd.func5, Tryd.ntmps5
    go_wp2_with (first
      | (go_at_call 8; refine (awake_calls _ HG.out).mono ?_; rintro e w1 ⟨rfl, hb⟩; have HB1 := Lib.hid hb; clear hb)
      | (go_at_call 9; refine (F1.out _ HB1.out).mono ?_; rintro e w' ⟨rfl, rfl⟩))
    go_ret
    exact ⟨rfl, HB1.out⟩
  · rw [hf] at F1
    obtain ⟨L, hL⟩ : ∃ L, calls.reverse = L := ⟨_, rfl⟩
    obtain ⟨hsh, hsz⟩ := few_short hf hL
    have hl20 := fewS_len hf
    have hLl : L.length ≤ 1000 := by rw [← hL, List.length_reverse]; omega
    obtain ⟨T, hT⟩ : ∃ T, textOf calls (word c) = T := ⟨_, rfl⟩
    have hT2 : errText L (word c) = T := by rw [← hL, errText_reverse]; exact hT
    have HL := Lib.hid hL
    have HSH := Lib.hid hsh
    have HSZ := Lib.hid hsz
    have HT := Lib.hid hT
    have HT2 := Lib.hid hT2
    have hwz : (word c).size ≤ 100 := by have := word_size c; omega
    clear hf hL hsh hsz hT hT2
    by_cases hne : L = []
    · have HNE := Lib.hid hne
      clear hne
      go_enter Tryd.func5, Tryd.ntmps5
      go_wp2_with (first
        | (go_at_call 8; refine (awake_calls _ HG.out).mono ?_; rintro e w1 ⟨rfl, hb⟩; have HB1 := Lib.hid hb; clear hb)
        | (go_at_call 9; refine (F1.out _ HB1.out).mono ?_; rintro e w' ⟨rfl, rfl⟩)
        | (go_at_call 10; refine (number_c n c _ hn0 hn1 hc).mono ?_; rintro e w' ⟨rfl, rfl⟩)
        | (go_at_call 11; refine (all_calls A cap calls c _ (H.out.keep HB1.out) hlc hcm (by omega) L HL.out).mono ?_; rintro e w2 ⟨⟨v, rfl, hch⟩, hb⟩; obtain rfl := chain_num hch HNE.out; have HB2 := Lib.hid (belowOn HB1.out HB1.out.size hb); have HC2 := Lib.hid hch; clear hb hch)
        | (go_at_call 19; refine (wrap_some _ _ _ _).mono ?_; rintro e w' ⟨rfl, rfl⟩; have hwb := Blk.new w2 45 #[.string call, .iface 25 (.int .i64 c)]; have HWB := Lib.hid hwb; have HB3 := Lib.hid (HB2.out.alloc HB2.out.size (.cells #[.string call, .iface 25 (.int .i64 c)] 45)); have HC3 := Lib.hid (HC2.out.keep ((Below.refl _ w2).alloc (Nat.le_refl _) (.cells #[.string call, .iface 25 (.int .i64 c)] 45))); have HZ3 := Lib.hid (by simp : w2.heap.size < (w2.alloc (.cells #[.string call, .iface 25 (.int .i64 c)] 45)).heap.size); clear hwb)
        | (go_at_call 20; refine (as_F ⟨w2.heap.size, 0, none⟩ ⟨w2.heap.size + 1, 0, none⟩ (.pointer none) ((w2.alloc (.cells #[.string call, .iface 25 (.int .i64 c)] 45)).alloc (.cells #[.pointer none] 40)) ((HG.out.keep HB3.out).keep ((Below.refl _ _).alloc (Nat.le_refl _) _)) (fb4 w2 (.string call) (.iface 25 (.int .i64 c))).1 (fb4 w2 (.string call) (.iface 25 (.int .i64 c))).2.1).mono ?_; rintro e w5 ⟨rfl, wm, hbm, rfl⟩; have hfb := ((fb4 w2 (.string call) (.iface 25 (.int .i64 c))).2.2.keep hbm); have hwb5 := ((HWB.out.alloc (.cells #[.pointer none] 40)).keep hbm).far (p := ⟨w2.heap.size + 1, 0, none⟩) (by simp) (.pointer (some ⟨w2.heap.size, 0, none⟩)); have hc5 := ((HC3.out.keep ((Below.refl _ _).alloc (Nat.le_refl _) (.cells #[.pointer none] 40))).keep hbm).set_ hfb 0 (.pointer (some ⟨w2.heap.size, 0, none⟩)); have hf5 := hfb.set_ 0 (.pointer (some ⟨w2.heap.size, 0, none⟩)); have hb5 := (belowOn (HB3.out.alloc HB3.out.size (.cells #[.pointer none] 40)) (Nat.le_trans HB3.out.size (by simp)) hbm).setCell (p := ⟨w2.heap.size + 1, 0, none⟩) (by have := HB2.out.size; simp; omega) (.pointer (some ⟨w2.heap.size, 0, none⟩)); generalize wm.setCell ⟨w2.heap.size + 1, 0, none⟩ (.pointer (some ⟨w2.heap.size, 0, none⟩)) = W5 at hwb5 hc5 hf5 hb5 ⊢; have x50 := hwb5.cell 0; have f50 := hf5.cell 0; have l50 := hwb5.lt; have l51 := hf5.lt; simp only [List.setIfInBounds_toArray, List.set_cons_zero, List.getElem?_toArray, List.getElem?_cons_zero, List.getElem?_cons_succ] at x50 f50 hf5; have HU5 := Lib.hid (unwrap_calls w2.heap.size call (.iface 25 (.int .i64 c)) W5 hwb5); have HC5 := Lib.hid hc5; have HB5 := Lib.hid hb5; have HF5 := Lib.hid hf5; have HWB5 := Lib.hid hwb5; clear hfb hwb5 hc5 hf5 hb5 hbm)
        | (go_at_call 21; refine HU5.out.mono ?_; rintro e w' ⟨rfl, rfl⟩)
        | (go_at_call 13; have hx := HB6; refine (error_num c _ hc1 hc10).mono ?_; rintro e w7 ⟨rfl, hb⟩; have HB7 := Lib.hid (belowOn HB6.out HB6.out.size hb); have HC7 := Lib.hid (HC6.out.keep hb); clear hb hx)
        | (go_at_call 13; refine (error_num c _ hc1 hc10).mono ?_; rw [show word c = T by rw [← HT2.out, HNE.out]; rfl]; rintro e w6 ⟨rfl, hb⟩; have HB6 := Lib.hid (belowOn HB5.out HB5.out.size hb); have HC6 := Lib.hid (HC5.out.keep hb); clear hb)
        | (go_at_call 12; refine (text_calls A cap calls (word c) _ (H.out.keep HB7.out) hlc hcm HSZ.out (by omega) hwz).mono ?_; rw [HT.out]; rintro e w' ⟨rfl, rfl⟩)
        | (go_at_call 14; refine (code_chain _ _ c _ HC7.out (HG.out.keep HB7.out)).mono ?_; rintro e w8 ⟨rfl, hb⟩; have HB8 := Lib.hid (belowOn HB7.out HB7.out.size hb); clear hb))
      · go_ret
        exact ⟨rfl, HB1.out⟩
      · go_ret
        exact ⟨by simp, HB8.out⟩
    · have HNE := Lib.hid hne
      clear hne
      go_enter Tryd.func5, Tryd.ntmps5
      go_wp2_with (first
        | (go_at_call 8; refine (awake_calls _ HG.out).mono ?_; rintro e w1 ⟨rfl, hb⟩; have HB1 := Lib.hid hb; clear hb)
        | (go_at_call 9; refine (F1.out _ HB1.out).mono ?_; rintro e w' ⟨rfl, rfl⟩)
        | (go_at_call 10; refine (number_c n c _ hn0 hn1 hc).mono ?_; rintro e w' ⟨rfl, rfl⟩)
        | (go_at_call 11; refine (all_calls A cap calls c _ (H.out.keep HB1.out) hlc hcm (by omega) L HL.out).mono ?_; rintro e w2 ⟨⟨v, rfl, hch⟩, hb⟩; obtain ⟨g, rfl⟩ := chain_fail hch HNE.out; have HB2 := Lib.hid (belowOn HB1.out HB1.out.size hb); have HC2 := Lib.hid hch; clear hb hch)
        | (go_at_call 19; refine (wrap_some _ _ _ _).mono ?_; rintro e w' ⟨rfl, rfl⟩; have hwb := Blk.new w2 45 #[.string call, .iface 40 (.pointer (some ⟨g, 0, none⟩))]; have HWB := Lib.hid hwb; have HB3 := Lib.hid (HB2.out.alloc HB2.out.size (.cells #[.string call, .iface 40 (.pointer (some ⟨g, 0, none⟩))] 45)); have HC3 := Lib.hid (HC2.out.keep ((Below.refl _ w2).alloc (Nat.le_refl _) (.cells #[.string call, .iface 40 (.pointer (some ⟨g, 0, none⟩))] 45))); have HZ3 := Lib.hid (by simp : w2.heap.size < (w2.alloc (.cells #[.string call, .iface 40 (.pointer (some ⟨g, 0, none⟩))] 45)).heap.size); clear hwb)
        | (go_at_call 20; refine (as_F ⟨w2.heap.size, 0, none⟩ ⟨w2.heap.size + 1, 0, none⟩ (.pointer none) ((w2.alloc (.cells #[.string call, .iface 40 (.pointer (some ⟨g, 0, none⟩))] 45)).alloc (.cells #[.pointer none] 40)) ((HG.out.keep HB3.out).keep ((Below.refl _ _).alloc (Nat.le_refl _) _)) (fb4 w2 (.string call) (.iface 40 (.pointer (some ⟨g, 0, none⟩)))).1 (fb4 w2 (.string call) (.iface 40 (.pointer (some ⟨g, 0, none⟩)))).2.1).mono ?_; rintro e w5 ⟨rfl, wm, hbm, rfl⟩; have hfb := ((fb4 w2 (.string call) (.iface 40 (.pointer (some ⟨g, 0, none⟩)))).2.2.keep hbm); have hwb5 := ((HWB.out.alloc (.cells #[.pointer none] 40)).keep hbm).far (p := ⟨w2.heap.size + 1, 0, none⟩) (by simp) (.pointer (some ⟨w2.heap.size, 0, none⟩)); have hc5 := ((HC3.out.keep ((Below.refl _ _).alloc (Nat.le_refl _) (.cells #[.pointer none] 40))).keep hbm).set_ hfb 0 (.pointer (some ⟨w2.heap.size, 0, none⟩)); have hf5 := hfb.set_ 0 (.pointer (some ⟨w2.heap.size, 0, none⟩)); have hb5 := (belowOn (HB3.out.alloc HB3.out.size (.cells #[.pointer none] 40)) (Nat.le_trans HB3.out.size (by simp)) hbm).setCell (p := ⟨w2.heap.size + 1, 0, none⟩) (by have := HB2.out.size; simp; omega) (.pointer (some ⟨w2.heap.size, 0, none⟩)); generalize wm.setCell ⟨w2.heap.size + 1, 0, none⟩ (.pointer (some ⟨w2.heap.size, 0, none⟩)) = W5 at hwb5 hc5 hf5 hb5 ⊢; have x50 := hwb5.cell 0; have f50 := hf5.cell 0; have l50 := hwb5.lt; have l51 := hf5.lt; simp only [List.setIfInBounds_toArray, List.set_cons_zero, List.getElem?_toArray, List.getElem?_cons_zero, List.getElem?_cons_succ] at x50 f50 hf5; have HU5 := Lib.hid (unwrap_calls w2.heap.size call (.iface 40 (.pointer (some ⟨g, 0, none⟩))) W5 hwb5); have HC5 := Lib.hid hc5; have HB5 := Lib.hid hb5; have HF5 := Lib.hid hf5; have HWB5 := Lib.hid hwb5; clear hfb hwb5 hc5 hf5 hb5 hbm)
        | (go_at_call 21; refine HU5.out.mono ?_; rintro e w' ⟨rfl, rfl⟩)
        | (go_at_call 22; refine (error_any HC5.out hc1 hc10 HSH.out).mono ?_; rw [HT2.out]; rintro e w6 ⟨rfl, hb⟩; have HB6 := Lib.hid (belowOn HB5.out HB5.out.size hb); have HC6 := Lib.hid (HC5.out.keep hb); clear hb)
        | (go_at_call 13; refine (error_num c _ hc1 hc10).mono ?_; rintro e w7 ⟨rfl, hb⟩; have HB7 := Lib.hid (belowOn HB6.out HB6.out.size hb); have HC7 := Lib.hid (HC6.out.keep hb); clear hb)
        | (go_at_call 12; refine (text_calls A cap calls (word c) _ (H.out.keep HB7.out) hlc hcm HSZ.out (by omega) hwz).mono ?_; rw [HT.out]; rintro e w' ⟨rfl, rfl⟩)
        | (go_at_call 14; refine (code_chain _ _ c _ HC7.out (HG.out.keep HB7.out)).mono ?_; rintro e w8 ⟨rfl, hb⟩; have HB8 := Lib.hid (belowOn HB7.out HB7.out.size hb); clear hb))
      · go_ret
        exact ⟨rfl, HB1.out⟩
      · go_ret
        exact ⟨by simp, HB8.out⟩

set_option maxHeartbeats 2000000 in
theorem apart_calls (A : Option Addr) (cap : Nat) (calls : List ByteArray) (B : Option Addr) (capb : Nat) (b : List ByteArray) (n : Int) (hn0 : 0 ≤ n) (hn1 : n < 256) (w : World) (hG : ErrType w) (h : RowAt sC 1 w A calls) (hb : RowAt sC 1 w B b) (hlc : calls.length ≤ cap) (hcm : cap ≤ maxLen) (hlb : b.length ≤ capb) (hcb : capb ≤ maxLen) :
    Calls Tryd.prog 7 #[.slice A calls.length cap, .slice B b.length capb, .int .u8 n] w fun e w' => e = .returned (.bool true) ∧ Below w.heap.size w w' := by
  have hmF := fun v w => methodErrF (213 - 1) v w
  have hmE := fun v w => methodErrE (213 - 1) v w
  simp only [Nat.reduceSub, Nat.reduceAdd] at hmF hmE
  have F1 := Lib.hid (fun w' (hb : Below w.heap.size w w') => few_strs A cap calls w' (h.keep hb) hlc hcm)
  have F2 := Lib.hid (fun w' (hb' : Below w.heap.size w w') => few_strs B capb b w' (hb.keep hb') hlb hcb)
  have HG := Lib.hid hG
  have H := Lib.hid h
  have HRB := Lib.hid hb
  clear h hG hb
  obtain ⟨c, hc⟩ : ∃ c, 1 + n % 10 = c := ⟨_, rfl⟩
  have hc1 : 1 ≤ c := by omega
  have hc10 : c ≤ 10 := by omega
  cases hf : fewS calls
  · rw [hf] at F1
    go_enter Tryd.func7, Tryd.ntmps7
    go_wp2_with (first
      | (go_at_call 8; refine (awake_calls _ HG.out).mono ?_; rintro e w1 ⟨rfl, hb⟩; have HB1 := Lib.hid hb; clear hb)
      | (go_at_call_of 9 A; refine (F1.out _ HB1.out).mono ?_; rintro e w' ⟨rfl, rfl⟩))
    go_ret
    exact ⟨rfl, HB1.out⟩
  · rw [hf] at F1
    cases hfb : fewS b
    · rw [hfb] at F2
      go_enter Tryd.func7, Tryd.ntmps7
      go_wp2_with (first
        | (go_at_call 8; refine (awake_calls _ HG.out).mono ?_; rintro e w1 ⟨rfl, hb⟩; have HB1 := Lib.hid hb; clear hb)
        | (go_at_call_of 9 A; refine (F1.out _ HB1.out).mono ?_; rintro e w' ⟨rfl, rfl⟩)
        | (go_at_call_of 9 B; refine (F2.out _ HB1.out).mono ?_; rintro e w' ⟨rfl, rfl⟩))
      go_ret
      exact ⟨rfl, HB1.out⟩
    · rw [hfb] at F2
      obtain ⟨L, hL⟩ : ∃ L, calls.reverse = L := ⟨_, rfl⟩
      obtain ⟨M, hM⟩ : ∃ M, b.reverse = M := ⟨_, rfl⟩
      obtain ⟨hsh, hsz⟩ := few_short hf hL
      have hl20 := fewS_len hf
      have hb20 := fewS_len hfb
      have hLl : L.length ≤ 1000 := by rw [← hL, List.length_reverse]; omega
      have hMl : M.length ≤ 1000 := by rw [← hM, List.length_reverse]; omega
      have hLM : decide (L = M) = decide (calls = b) := by rw [← hL, ← hM]; simp
      obtain ⟨T, hT⟩ : ∃ T, errText L (word c) = T := ⟨_, rfl⟩
      have HL := Lib.hid hL
      have HM := Lib.hid hM
      have HLM := Lib.hid hLM
      have HSH := Lib.hid hsh
      have HT := Lib.hid hT
      clear hf hfb hL hM hsh hsz hT hLM
      by_cases hab : calls = b
      · have HAB := Lib.hid hab
        have hLM2 : L = M := by rw [← HL.out, ← HM.out, hab]
        have HLM2 := Lib.hid hLM2
        clear hab hLM2
        by_cases hne : L = []
        · skip
          have HNE := Lib.hid hne
          clear hne
          go_enter Tryd.func7, Tryd.ntmps7
          go_wp2_with (first
            | (go_at_call 8; refine (awake_calls _ HG.out).mono ?_; rintro e w1 ⟨rfl, hb⟩; have HB1 := Lib.hid hb; clear hb)
            | (go_at_call_of 9 A; refine (F1.out _ HB1.out).mono ?_; rintro e w' ⟨rfl, rfl⟩)
            | (go_at_call_of 9 B; refine (F2.out _ HB1.out).mono ?_; rintro e w' ⟨rfl, rfl⟩)
            | (go_at_call 10; refine (number_c n c _ hn0 hn1 hc).mono ?_; rintro e w' ⟨rfl, rfl⟩)
            | (go_at_call_of 11 B; refine (all_calls B capb b c _ (HRB.out.keep HB2.out) hlb hcb (by omega) M HM.out).mono ?_; rintro e w3 ⟨⟨v, rfl, hch⟩, hb⟩; obtain rfl := chain_num hch (HLM2.out ▸ HNE.out); have HB3 := Lib.hid (belowOn HB2.out HB2.out.size hb); have HC3 := Lib.hid (HC2.out.keep hb); have HD3 := Lib.hid hch; clear hb hch)
            | (go_at_call 11; refine (all_calls A cap calls c _ (H.out.keep HB1.out) hlc hcm (by omega) L HL.out).mono ?_; rintro e w2 ⟨⟨v, rfl, hch⟩, hb⟩; obtain rfl := chain_num hch HNE.out; have HB2 := Lib.hid (belowOn HB1.out HB1.out.size hb); have HC2 := Lib.hid hch; clear hb hch)
            | (go_at_call_of 15 B; refine (same_calls A B cap capb calls b _ (H.out.keep HB3.out) (HRB.out.keep HB3.out) hlc hcm hlb hcb).mono ?_; rw [decide_eq_true HAB.out]; rintro e w4 ⟨rfl, hb⟩; have HB4 := Lib.hid (belowOn HB3.out HB3.out.size hb); have HC4 := Lib.hid (HC3.out.keep hb); have HD4 := Lib.hid (HD3.out.keep hb); clear hb)
            | (go_at_call 13; have hx := HB5; refine (error_num c _ hc1 hc10).mono ?_; rintro e w6 ⟨rfl, hb⟩; have HB6 := Lib.hid (belowOn HB5.out HB5.out.size hb); have HC6 := Lib.hid (HC5.out.keep hb); have HD6 := Lib.hid (HD5.out.keep hb); clear hb hx)
            | (go_at_call 13; refine (error_num c _ hc1 hc10).mono ?_; rintro e w5 ⟨rfl, hb⟩; have HB5 := Lib.hid (belowOn HB4.out HB4.out.size hb); have HC5 := Lib.hid (HC4.out.keep hb); have HD5 := Lib.hid (HD4.out.keep hb); clear hb)
            | (go_at_call 16; have hx := HB7; refine (calls_of HD7.out (HG.out.keep HB7.out) hMl).mono ?_; rintro e w8 ⟨⟨A8, cap8, rfl, hr8, hl8, hm8⟩, hb⟩; have HB8 := Lib.hid (belowOn HB7.out HB7.out.size hb); have HR8 := Lib.hid hr8; have HR78 := Lib.hid (HR7.out.keep hb); clear hb hr8 hx)
            | (go_at_call 16; refine (calls_of HC6.out (HG.out.keep HB6.out) hLl).mono ?_; rintro e w7 ⟨⟨A7, cap7, rfl, hr7, hl7, hm7⟩, hb⟩; have HB7 := Lib.hid (belowOn HB6.out HB6.out.size hb); have HR7 := Lib.hid hr7; have HD7 := Lib.hid (HD6.out.keep hb); clear hb hr7)
            | (go_at_call_of 15 A8; refine (same_calls A7 A8 cap7 cap8 L M _ HR78.out HR8.out hl7 hm7 hl8 hm8).mono ?_; rw [HLM.out, decide_eq_true HAB.out]; rintro e w9 ⟨rfl, hb⟩; have HB9 := Lib.hid (belowOn HB8.out HB8.out.size hb); clear hb))
          go_ret
          exact ⟨by simp, HB9.out⟩
        · skip
          have HNE := Lib.hid hne
          clear hne
          go_enter Tryd.func7, Tryd.ntmps7
          go_wp2_with (first
            | (go_at_call 8; refine (awake_calls _ HG.out).mono ?_; rintro e w1 ⟨rfl, hb⟩; have HB1 := Lib.hid hb; clear hb)
            | (go_at_call_of 9 A; refine (F1.out _ HB1.out).mono ?_; rintro e w' ⟨rfl, rfl⟩)
            | (go_at_call_of 9 B; refine (F2.out _ HB1.out).mono ?_; rintro e w' ⟨rfl, rfl⟩)
            | (go_at_call 10; refine (number_c n c _ hn0 hn1 hc).mono ?_; rintro e w' ⟨rfl, rfl⟩)
            | (go_at_call_of 11 B; refine (all_calls B capb b c _ (HRB.out.keep HB2.out) hlb hcb (by omega) M HM.out).mono ?_; rintro e w3 ⟨⟨v, rfl, hch⟩, hb⟩; obtain ⟨g2, rfl⟩ := chain_fail hch (HLM2.out ▸ HNE.out); have HB3 := Lib.hid (belowOn HB2.out HB2.out.size hb); have HC3 := Lib.hid (HC2.out.keep hb); have HD3 := Lib.hid hch; clear hb hch)
            | (go_at_call 11; refine (all_calls A cap calls c _ (H.out.keep HB1.out) hlc hcm (by omega) L HL.out).mono ?_; rintro e w2 ⟨⟨v, rfl, hch⟩, hb⟩; obtain ⟨g, rfl⟩ := chain_fail hch HNE.out; have HB2 := Lib.hid (belowOn HB1.out HB1.out.size hb); have HC2 := Lib.hid hch; clear hb hch)
            | (go_at_call_of 15 B; refine (same_calls A B cap capb calls b _ (H.out.keep HB3.out) (HRB.out.keep HB3.out) hlc hcm hlb hcb).mono ?_; rw [decide_eq_true HAB.out]; rintro e w4 ⟨rfl, hb⟩; have HB4 := Lib.hid (belowOn HB3.out HB3.out.size hb); have HC4 := Lib.hid (HC3.out.keep hb); have HD4 := Lib.hid (HD3.out.keep hb); clear hb)
            | (go_at_call_of 22 g; refine (error_any HC4.out hc1 hc10 HSH.out).mono ?_; rw [HT.out]; rintro e w5 ⟨rfl, hb⟩; have HB5 := Lib.hid (belowOn HB4.out HB4.out.size hb); have HC5 := Lib.hid (HC4.out.keep hb); have HD5 := Lib.hid (HD4.out.keep hb); clear hb)
            | (go_at_call_of 22 g2; refine (error_any HD5.out hc1 hc10 (HLM2.out ▸ HSH.out)).mono ?_; rw [show errText M (word c) = T by rw [← HLM2.out]; exact HT.out]; rintro e w6 ⟨rfl, hb⟩; have HB6 := Lib.hid (belowOn HB5.out HB5.out.size hb); have HC6 := Lib.hid (HC5.out.keep hb); have HD6 := Lib.hid (HD5.out.keep hb); clear hb)
            | (go_at_call 16; have hx := HB7; refine (calls_of HD7.out (HG.out.keep HB7.out) hMl).mono ?_; rintro e w8 ⟨⟨A8, cap8, rfl, hr8, hl8, hm8⟩, hb⟩; have HB8 := Lib.hid (belowOn HB7.out HB7.out.size hb); have HR8 := Lib.hid hr8; have HR78 := Lib.hid (HR7.out.keep hb); clear hb hr8 hx)
            | (go_at_call 16; refine (calls_of HC6.out (HG.out.keep HB6.out) hLl).mono ?_; rintro e w7 ⟨⟨A7, cap7, rfl, hr7, hl7, hm7⟩, hb⟩; have HB7 := Lib.hid (belowOn HB6.out HB6.out.size hb); have HR7 := Lib.hid hr7; have HD7 := Lib.hid (HD6.out.keep hb); clear hb hr7)
            | (go_at_call_of 15 A8; refine (same_calls A7 A8 cap7 cap8 L M _ HR78.out HR8.out hl7 hm7 hl8 hm8).mono ?_; rw [HLM.out, decide_eq_true HAB.out]; rintro e w9 ⟨rfl, hb⟩; have HB9 := Lib.hid (belowOn HB8.out HB8.out.size hb); clear hb))
          go_ret
          exact ⟨by simp, HB9.out⟩
      · have HNAB := Lib.hid hab
        clear hab
        go_enter Tryd.func7, Tryd.ntmps7
        go_wp2_with (first
          | (go_at_call 8; refine (awake_calls _ HG.out).mono ?_; rintro e w1 ⟨rfl, hb⟩; have HB1 := Lib.hid hb; clear hb)
          | (go_at_call_of 9 A; refine (F1.out _ HB1.out).mono ?_; rintro e w' ⟨rfl, rfl⟩)
          | (go_at_call_of 9 B; refine (F2.out _ HB1.out).mono ?_; rintro e w' ⟨rfl, rfl⟩)
          | (go_at_call 10; refine (number_c n c _ hn0 hn1 hc).mono ?_; rintro e w' ⟨rfl, rfl⟩)
          | (go_at_call_of 11 B; refine (all_calls B capb b c _ (HRB.out.keep HB2.out) hlb hcb (by omega) M HM.out).mono ?_; rintro e w3 ⟨⟨v, rfl, hch⟩, hb⟩; obtain ⟨t2, x2, rfl⟩ := hch.iface; have HB3 := Lib.hid (belowOn HB2.out HB2.out.size hb); have HC3 := Lib.hid (HC2.out.keep hb); have HD3 := Lib.hid hch; clear hb hch)
          | (go_at_call 11; refine (all_calls A cap calls c _ (H.out.keep HB1.out) hlc hcm (by omega) L HL.out).mono ?_; rintro e w2 ⟨⟨v, rfl, hch⟩, hb⟩; obtain ⟨t1, x1, rfl⟩ := hch.iface; have HB2 := Lib.hid (belowOn HB1.out HB1.out.size hb); have HC2 := Lib.hid hch; clear hb hch)
          | (go_at_call_of 15 B; refine (same_calls A B cap capb calls b _ (H.out.keep HB3.out) (HRB.out.keep HB3.out) hlc hcm hlb hcb).mono ?_; rw [decide_eq_false HNAB.out]; rintro e w4 ⟨rfl, hb⟩; have HB4 := Lib.hid (belowOn HB3.out HB3.out.size hb); have HC4 := Lib.hid (HC3.out.keep hb); have HD4 := Lib.hid (HD3.out.keep hb); clear hb)
          | (go_at_call 16; have hx := HB7; refine (calls_of HD7.out (HG.out.keep HB7.out) hMl).mono ?_; rintro e w8 ⟨⟨A8, cap8, rfl, hr8, hl8, hm8⟩, hb⟩; have HB8 := Lib.hid (belowOn HB7.out HB7.out.size hb); have HR8 := Lib.hid hr8; have HR78 := Lib.hid (HR7.out.keep hb); clear hb hr8 hx)
          | (go_at_call 16; refine (calls_of HC4.out (HG.out.keep HB4.out) hLl).mono ?_; rintro e w7 ⟨⟨A7, cap7, rfl, hr7, hl7, hm7⟩, hb⟩; have HB7 := Lib.hid (belowOn HB4.out HB4.out.size hb); have HR7 := Lib.hid hr7; have HD7 := Lib.hid (HD4.out.keep hb); clear hb hr7)
          | (go_at_call_of 15 A8; refine (same_calls A7 A8 cap7 cap8 L M _ HR78.out HR8.out hl7 hm7 hl8 hm8).mono ?_; rw [HLM.out, decide_eq_false HNAB.out]; rintro e w9 ⟨rfl, hb⟩; have HB9 := Lib.hid (belowOn HB8.out HB8.out.size hb); clear hb))
        go_ret
        exact ⟨by simp, HB9.out⟩

theorem calls_nil (w : World) (hG : ErrType w) : Calls Tryd.prog 16 #[.nilIface] w fun e w' => (∃ A cap, e = .returned (.slice A 0 cap)) ∧ Below w.heap.size w w' := by
  refine (calls_chain .nilIface [] [] none w .nil hG (by simp)).mono ?_
  rintro e w' ⟨⟨u, rfl, ho⟩, hb⟩
  obtain ⟨A, cap, rfl, _⟩ := ho.row sC_len
  exact ⟨⟨A, cap, rfl⟩, hb⟩
theorem calls_bare (g : Nat) (s : ByteArray) (w : World) (h : Blk w g 45 #[.string s, .nilIface]) (hG : ErrType w) : Calls Tryd.prog 16 #[.iface 40 (.pointer (some ⟨g, 0, none⟩))] w fun e w' => (∃ A cap, e = .returned (.slice A 1 cap) ∧ RowAt sC 1 w' A [s] ∧ 1 ≤ cap ∧ cap ≤ maxLen) ∧ Below w.heap.size w w' := by
  refine (calls_chain _ [g] [s] none w (.fail g s [] [] .nilIface none h .nil) hG (by simp)).mono ?_
  rintro e w' ⟨⟨u, rfl, ho⟩, hb⟩
  obtain ⟨A, cap, rfl, h1, h2, h3, _⟩ := ho.row sC_len
  exact ⟨⟨A, cap, rfl, h1, h2, h3⟩, hb⟩
theorem same_one (A B : Option Addr) (ca cb : Nat) (s : ByteArray) (w : World) (ha : RowAt sC 1 w A [s]) (hb : RowAt sC 1 w B [s]) (hla : 1 ≤ ca) (hca : ca ≤ maxLen) (hlb : 1 ≤ cb) (hcb : cb ≤ maxLen) :
    Calls Tryd.prog 15 #[.slice A 1 ca, .slice B 1 cb] w fun e w' => e = .returned (.bool true) ∧ Below w.heap.size w w' := by
  have := same_calls A B ca cb [s] [s] w ha hb hla hca hlb hcb
  rw [decide_eq_true (rfl : [s] = [s])] at this
  exact this
set_option maxHeartbeats 2000000 in
theorem none_calls (call : ByteArray) (A : Option Addr) (cap : Nat) (calls : List ByteArray) (w : World) (hG : ErrType w) (h : RowAt sC 1 w A calls) (hlc : calls.length ≤ cap) (hcm : cap ≤ maxLen) :
    Calls Tryd.prog 6 #[.string call, .slice A calls.length cap] w fun e w' => e = .returned (.bool true) ∧ Below w.heap.size w w' := by
  have F1 := Lib.hid (fun w' (hb : Below w.heap.size w w') => few_strs A cap calls w' (h.keep hb) hlc hcm)
  have HG := Lib.hid hG
  clear h hG
  by_cases h60 : (call.size : Int) > 60
  · go_enter Tryd.func6, Tryd.ntmps6
    go_wp2_with (first
      | (go_at_call 8; refine (awake_calls _ HG.out).mono ?_; rintro e w1 ⟨rfl, hb⟩; have HB1 := Lib.hid hb; clear hb))
    go_ret
    exact ⟨rfl, HB1.out⟩
  · cases hf : fewS calls
    · rw [hf] at F1
      go_enter Tryd.func6, Tryd.ntmps6
      go_wp2_with (first
        | (go_at_call 8; refine (awake_calls _ HG.out).mono ?_; rintro e w1 ⟨rfl, hb⟩; have HB1 := Lib.hid hb; clear hb)
        | (go_at_call 9; refine (F1.out _ HB1.out).mono ?_; rintro e w' ⟨rfl, rfl⟩))
      go_ret
      exact ⟨rfl, HB1.out⟩
    · rw [hf] at F1
      clear hf
      go_enter Tryd.func6, Tryd.ntmps6
      go_wp2_with (first
        | (go_at_call 8; refine (awake_calls _ HG.out).mono ?_; rintro e w1 ⟨rfl, hb⟩; have HB1 := Lib.hid hb; clear hb)
        | (go_at_call 9; refine (F1.out _ HB1.out).mono ?_; rintro e w' ⟨rfl, rfl⟩)
        | (go_at_call 19; refine (wrap_nil _ _).mono ?_; rintro e w' ⟨rfl, rfl⟩)
        | (go_at_call 11; refine (all_none _ _ _ _).mono ?_; rintro e w' ⟨rfl, rfl⟩)
        | (go_at_call_of 16 Value.nilIface; refine (calls_nil _ (HG.out.keep (HB1.out.alloc HB1.out.size _))).mono ?_; rintro e w2 ⟨⟨A2, cap2, rfl⟩, hb⟩; have hg2 := (Blk.new w1 45 #[.string call, .nilIface]).keep hb; have HB2 := Lib.hid (belowOn (HB1.out.alloc HB1.out.size _) (Nat.le_trans HB1.out.size (by simp)) hb); have HG2 := Lib.hid hg2; have hg2l := hg2.lt; clear hb hg2)
        | (go_at_call_of 22 (Value.pointer none); refine (error_nil _).mono ?_; rintro e w' ⟨rfl, rfl⟩)
        | (go_at_call_of 21 (Value.pointer none); refine (unwrap_nil _).mono ?_; rintro e w' ⟨rfl, rfl⟩)
        | (go_at_call 22; refine (error_bare HG2.out).mono ?_; rintro e w' ⟨rfl, rfl⟩)
        | (go_at_call 21; refine (unwrap_calls _ _ _ _ HG2.out).mono ?_; rintro e w' ⟨rfl, rfl⟩)
        | (go_at_call 14; refine (code_bare _ call _ HG2.out (HG.out.keep HB2.out)).mono ?_; rintro e w3 ⟨rfl, hb⟩; have HB3 := Lib.hid (belowOn HB2.out HB2.out.size hb); have HG3 := Lib.hid (HG2.out.keep hb); clear hb)
        | (go_at_call 16; refine (calls_bare _ call _ HG3.out (HG.out.keep HB3.out)).mono ?_; rintro e w4 ⟨⟨A4, cap4, rfl, hr4, hl4, hm4⟩, hb⟩; have HB4 := Lib.hid (belowOn HB3.out HB3.out.size hb); have HR4 := Lib.hid hr4; clear hb hr4)
        | (go_at_call 15; refine (same_one A4 _ cap4 1 call _ (HR4.out.keep ((Below.refl _ _).alloc (Nat.le_refl _) _)) (RowAt.one w4 call) hl4 hm4 (Nat.le_refl _) (by simp [maxLen])).mono ?_; rintro e w5 ⟨rfl, hb⟩; have HB5 := Lib.hid (belowOn (HB4.out.alloc HB4.out.size _) (Nat.le_trans HB4.out.size (by simp)) hb); clear hb))
      go_ret
      exact ⟨by simp, HB5.out⟩
end Go.Proofs.YtnipglclecafiaaDoor
