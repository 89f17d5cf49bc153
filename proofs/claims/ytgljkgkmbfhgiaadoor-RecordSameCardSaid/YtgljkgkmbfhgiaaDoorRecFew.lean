/- Whether a URL is short; record.New. -/
import Derived.Test.YtgljkgkmbfhgiaaDoorRec21
import Derived.Deep.LoopGhost
set_option linter.unusedVariables false
set_option linter.unusedSimpArgs false
set_option maxRecDepth 100000
namespace Go.Proofs.YtgljkgkmbfhgiaaDoor
open Go.RowKit Four Six Rec

set_option maxHeartbeats 8000000 in
theorem few_calls (u : UrlV) (A : Option Addr) (c : Nat) (w : World) (hr : RowAt textC 1 w A u.path) (hc : u.path.length ≤ c) (hm : c ≤ maxLen) : Calls Tryd.prog 14 #[.agg (u.cells A c).toArray] w fun e w' => e = .returned (.bool u.few) ∧ Below w.heap.size w w' := by
  rw [cells_u]
  have HR := Lib.hid hr
  clear hr
  generalize hF : u.few = F
  unfold UrlV.few at hF
  obtain ⟨scheme, user, pass, ⟨k, nm, v4, a0, a1, a2, a3, a4, a5, a6, a7⟩, port, opq, path, hasq, query, hasf, frag⟩ := u
  simp only at HR hc hF ⊢
  have HF := Lib.hid hF
  clear hF
  go_enter Tryd.func14, Tryd.ntmps14
  go_upto_region 1 with fail
  obtain ⟨W, hW⟩ : ∃ W, W = w.alloc (.cells #[.string scheme, .string user, .string pass, .int .i64 k, .string nm, .int .u32 v4, .int .u16 a0, .int .u16 a1, .int .u16 a2, .int .u16 a3, .int .u16 a4, .int .u16 a5, .int .u16 a6, .int .u16 a7, .int .i64 port, .bool opq, .slice A path.length c, .bool hasq, .string query, .bool hasf, .string frag] 29) := ⟨_, rfl⟩
  have KU := Lib.hid (show Blk W w.heap.size 29 #[.string scheme, .string user, .string pass, .int .i64 k, .string nm, .int .u32 v4, .int .u16 a0, .int .u16 a1, .int .u16 a2, .int .u16 a3, .int .u16 a4, .int .u16 a5, .int .u16 a6, .int .u16 a7, .int .i64 port, .bool opq, .slice A path.length c, .bool hasq, .string query, .bool hasf, .string frag] by rw [hW]; exact Blk.new w _ _)
  have HB := Lib.hid (show Below w.heap.size w W by rw [hW]; exact (Below.refl _ _).alloc (Nat.le_refl _) _)
  rw [← hW]
  clear hW
  have c0 : W.cell? ⟨w.heap.size, 0, none⟩ = some (.string scheme) := KU.out.cell 0
  have c1 : W.cell? ⟨w.heap.size, 1, none⟩ = some (.string user) := KU.out.cell 1
  have c2 : W.cell? ⟨w.heap.size, 2, none⟩ = some (.string pass) := KU.out.cell 2
  have c4 : W.cell? ⟨w.heap.size, 4, none⟩ = some (.string nm) := KU.out.cell 4
  have c16 : W.cell? ⟨w.heap.size, 16, none⟩ = some (.slice A path.length c) := KU.out.cell 16
  have c18 : W.cell? ⟨w.heap.size, 18, none⟩ = some (.string query) := KU.out.cell 18
  have c20 : W.cell? ⟨w.heap.size, 20, none⟩ = some (.string frag) := KU.out.cell 20
  go_wp2_with fail
  go_loopg [3] (path.length) (fun m v w' => W = w' ∧ Hid (∃ i : Nat, i ≤ path.length ∧ i ≤ 21 ∧ m = path.length - i ∧ v = .int .i64 i ∧ ∀ j s, j < i → path[j]? = some s → s.size ≤ 60))
  case atStart => exact ⟨rfl, 0, by omega, by omega, by omega, rfl, fun j s hj => by omega⟩
  case round =>
    obtain ⟨rfl, hrel⟩ := hrel
    obtain ⟨i, hi, hi21, hm, rfl, hs⟩ := hrel.out
    have HM := Lib.hid hm
    have HS := Lib.hid hs
    clear hrel hm hs
    have hw : IntKind.i64.wrap ((i : Int) + 1) = (i : Int) + 1 := by rw [IntKind.wrap_i64]; omega
    by_cases hl : i < path.length
    · have hl1 : (i : Int) < (path.length : Int) := by omega
      by_cases h21 : i < 21
      · have h21' : (i : Int) < 21 := by omega
        obtain ⟨s, hsi⟩ : ∃ s, path[i]? = some s := ⟨path[i], List.getElem?_eq_getElem hl⟩
        obtain ⟨b, off, hAb, hcell⟩ := HR.out i s hsi
        have h0 : w.cell? ⟨b, off + i, none⟩ = some (.string s) := by simpa using hcell 0 (.string s) rfl
        have hc0 : W.cell? ⟨b, off + i, none⟩ = some (.string s) := (HB.out.cell (p := ⟨b, off + i, none⟩) (World.block_lt_of_cell? w _ h0)).trans h0
        by_cases h60 : s.size ≤ 60
        · have h60' : ¬ (60 : Int) < (s.size : Int) := by omega
          have HN := Lib.hid (show ∀ j t, j < i + 1 → path[j]? = some t → t.size ≤ 60 from fun j t hj ht => by
            by_cases e : j = i
            · rw [e, hsi] at ht; obtain rfl := Option.some.inj ht; exact h60
            · exact HS.out j t (by omega) ht)
          have HX := Lib.hid (And.intro hl h21)
          clear hcell hsi h0 h60 hl h21
          subst hAb
          go_wp2_with fail
          go_roundg (path.length - (i + 1))
          case measure => have := HM.out; have := HX.out; omega
          case rel => exact ⟨rfl, i + 1, by have := HX.out; omega, by have := HX.out; omega, rfl, by first | rfl | go_num, HN.out⟩
        · have h60' : (60 : Int) < (s.size : Int) := by omega
          have HN := Lib.hid (show F = false by
            rw [← HF.out]
            have : (path.all fun s => decide (s.size ≤ 60)) = false := by
              rw [List.all_eq_false]
              exact ⟨s, List.mem_of_getElem? hsi, by simpa using h60⟩
            rw [this]
            rfl)
          clear hcell hsi h0 h60 hl h21
          subst hAb
          go_wp2_with fail
          go_ret
          exact ⟨by rw [HN.out]; rfl, HB.out⟩
      · have h21' : ¬ (i : Int) < 21 := by omega
        have hl20 : ¬ (path.length : Int) ≤ 20 := by omega
        have hl2 : ¬ path.length ≤ 20 := by omega
        have HN := Lib.hid (show F = false by rw [← HF.out]; simp [hl2])
        clear hl h21 hl2
        go_wp2_with fail
        go_ret
        exact ⟨by rw [HN.out]; rfl, HB.out⟩
    · have hl1 : ¬ (i : Int) < (path.length : Int) := by omega
      have HALL := Lib.hid (show (path.all fun s => decide (s.size ≤ 60)) = true by
        rw [List.all_eq_true]
        intro s hs
        obtain ⟨j, hj⟩ := List.getElem?_of_mem hs
        have := (List.getElem?_eq_some_iff.1 hj).1
        simpa using HS.out j s (by omega) hj)
      clear hl
      by_cases hl : path.length ≤ 20
      · have gl : (path.length : Int) ≤ 20 := by omega
        by_cases hs : scheme.size ≤ 100
        · have gs : (scheme.size : Int) ≤ 100 := by omega
          by_cases hu : user.size ≤ 100
          · have gu : (user.size : Int) ≤ 100 := by omega
            by_cases hp : pass.size ≤ 100
            · have gp : (pass.size : Int) ≤ 100 := by omega
              by_cases hn : nm.size ≤ 100
              · have gn : (nm.size : Int) ≤ 100 := by omega
                by_cases hq : query.size ≤ 100
                · have gq : (query.size : Int) ≤ 100 := by omega
                  by_cases hf : frag.size ≤ 100
                  · have gf : (frag.size : Int) ≤ 100 := by omega
                    have HN := Lib.hid (show F = true by rw [← HF.out, HALL.out]; simp [hl, hs, hu, hp, hn, hq, hf])
                    clear hl hs hu hp hn hq hf
                    go_wp2_with fail
                    go_ret
                    exact ⟨by rw [HN.out]; rfl, HB.out⟩
                  · have gf : ¬ (frag.size : Int) ≤ 100 := by omega
                    have HN := Lib.hid (show F = false by rw [← HF.out]; simp [hf])
                    clear hl hs hu hp hn hq hf
                    go_wp2_with fail
                    go_ret
                    exact ⟨by rw [HN.out]; rfl, HB.out⟩
                · have gq : ¬ (query.size : Int) ≤ 100 := by omega
                  have HN := Lib.hid (show F = false by rw [← HF.out]; simp [hq])
                  clear hl hs hu hp hn hq
                  go_wp2_with fail
                  go_ret
                  exact ⟨by rw [HN.out]; rfl, HB.out⟩
              · have gn : ¬ (nm.size : Int) ≤ 100 := by omega
                have HN := Lib.hid (show F = false by rw [← HF.out]; simp [hn])
                clear hl hs hu hp hn
                go_wp2_with fail
                go_ret
                exact ⟨by rw [HN.out]; rfl, HB.out⟩
            · have gp : ¬ (pass.size : Int) ≤ 100 := by omega
              have HN := Lib.hid (show F = false by rw [← HF.out]; simp [hp])
              clear hl hs hu hp
              go_wp2_with fail
              go_ret
              exact ⟨by rw [HN.out]; rfl, HB.out⟩
          · have gu : ¬ (user.size : Int) ≤ 100 := by omega
            have HN := Lib.hid (show F = false by rw [← HF.out]; simp [hu])
            clear hl hs hu
            go_wp2_with fail
            go_ret
            exact ⟨by rw [HN.out]; rfl, HB.out⟩
        · have gs : ¬ (scheme.size : Int) ≤ 100 := by omega
          have HN := Lib.hid (show F = false by rw [← HF.out]; simp [hs])
          clear hl hs
          go_wp2_with fail
          go_ret
          exact ⟨by rw [HN.out]; rfl, HB.out⟩
      · have gl : ¬ (path.length : Int) ≤ 20 := by omega
        have HN := Lib.hid (show F = false by rw [← HF.out]; simp [hl])
        clear hl
        go_wp2_with fail
        go_ret
        exact ⟨by rw [HN.out]; rfl, HB.out⟩
def newV (scheme : ByteArray) : UrlV := ⟨scheme, ⟨#[]⟩, ⟨#[]⟩, ⟨0, ⟨#[]⟩, 0, 0, 0, 0, 0, 0, 0, 0, 0⟩, -1, false, [], false, ⟨#[]⟩, false, ⟨#[]⟩⟩
set_option maxHeartbeats 1000000 in
theorem new_url (scheme : ByteArray) (w : World) : Calls Tryd.prog 21 #[.string scheme] w fun e w' => e = .returned (.agg ((newV scheme).cells none 0).toArray) ∧ Below w.heap.size w w' := by
  obtain ⟨CS, hCS⟩ : ∃ CS, CS = ((newV scheme).cells none 0).toArray := ⟨_, rfl⟩
  have HU := Lib.hid (show UrlOk CS by rw [hCS]; exact urlok (newV scheme) none 0)
  have HEQ := Lib.hid (show CS = #[.string scheme, .string ⟨#[]⟩, .string ⟨#[]⟩, .int .i64 0, .string ⟨#[]⟩, .int .u32 0, .int .u16 0, .int .u16 0, .int .u16 0, .int .u16 0, .int .u16 0, .int .u16 0, .int .u16 0, .int .u16 0, .int .i64 (-1), .bool false, .slice none 0 0, .bool false, .string ⟨#[]⟩, .bool false, .string ⟨#[]⟩] by rw [hCS]; rfl)
  have HI := Lib.hid (show (Tryd.prog.info? 29).map (·.size) = some CS.size by rw [HU.out.1]; exact info_url)
  rw [← hCS]
  have HZ := Lib.hid (show Blk (w.alloc (.cells #[.string ⟨#[]⟩, .string ⟨#[]⟩, .string ⟨#[]⟩, .int .i64 0, .string ⟨#[]⟩, .int .u32 0, .int .u16 0, .int .u16 0, .int .u16 0, .int .u16 0, .int .u16 0, .int .u16 0, .int .u16 0, .int .u16 0, .int .i64 0, .bool false, .slice none 0 0, .bool false, .string ⟨#[]⟩, .bool false, .string ⟨#[]⟩] 29)) w.heap.size 29 #[.string ⟨#[]⟩, .string ⟨#[]⟩, .string ⟨#[]⟩, .int .i64 0, .string ⟨#[]⟩, .int .u32 0, .int .u16 0, .int .u16 0, .int .u16 0, .int .u16 0, .int .u16 0, .int .u16 0, .int .u16 0, .int .u16 0, .int .i64 0, .bool false, .slice none 0 0, .bool false, .string ⟨#[]⟩, .bool false, .string ⟨#[]⟩] from Blk.new w _ _)
  have HB := Lib.hid (show Below w.heap.size w (w.alloc (.cells #[.string ⟨#[]⟩, .string ⟨#[]⟩, .string ⟨#[]⟩, .int .i64 0, .string ⟨#[]⟩, .int .u32 0, .int .u16 0, .int .u16 0, .int .u16 0, .int .u16 0, .int .u16 0, .int .u16 0, .int .u16 0, .int .u16 0, .int .i64 0, .bool false, .slice none 0 0, .bool false, .string ⟨#[]⟩, .bool false, .string ⟨#[]⟩] 29)) from (Below.refl _ _).alloc (Nat.le_refl _) _)
  clear hCS
  go_enter Tryd.func21, Tryd.ntmps21
  go_wp2_with (rw [← HEQ.out]; with_reducible (refine wpList_store_url (u := CS) HZ.out rfl HU.out rfl _ _ rfl rfl rfl ?_))
  refine bodyPost_ret (results_cell_row1 rfl _ _ w.heap.size 29 CS (0, 0) _ rfl (Blk.setAll HZ.out (by rw [HU.out.1]; rfl)) Tryd.underlying29 rfl HI.out) rfl ?_
  exact ⟨rfl, below_setCells (Nat.le_refl _) _ 0 _ HB.out⟩
end Go.Proofs.YtgljkgkmbfhgiaaDoor
