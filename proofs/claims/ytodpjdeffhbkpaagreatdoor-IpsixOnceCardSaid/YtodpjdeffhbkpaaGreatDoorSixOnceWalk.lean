/- IpsixOnce, walked. -/
import Derived.Test.YtodpjdeffhbkpaaGreatDoorSixAwake
set_option linter.unusedVariables false
set_option linter.unusedSimpArgs false
set_option maxRecDepth 100000
namespace Go.Proofs.YtodpjdeffhbkpaaGreatDoor
open Go.RowKit Four Six

set_option maxHeartbeats 4000000 in
theorem once_calls (s : ByteArray) (w : World) (hF : FW w) : Calls Tryz.prog 7 #[.string s] w fun e w' => e = .returned (.bool true) ∧ Below w.heap.size w w' := by
  have HF := Lib.hid hF
  clear hF
  by_cases hs : 80 < s.size
  · have hs' : (80 : Int) < (s.size : Int) := by omega
    go_enter Tryz.func7, Tryz.ntmps7
    go_wp2_with fail
    refine (awake_calls HF.out).mono ?_
    rintro e w1 ⟨rfl, hb⟩
    have H1 := Lib.hid hb
    clear hb
    go_wp2_with fail
    go_ret
    exact ⟨rfl, H1.out⟩
  have hs' : ¬ (80 : Int) < (s.size : Int) := by omega
  rcases hp : parse6 s.data.toList with _ | a
  · have HP := Lib.hid (fun (W : World) (h : FW W) => parse_none s hp h (by omega))
    have heq : ∀ w, (Op.equalIn 10000 23 (.agg #[.int .u16 0, .int .u16 0, .int .u16 0, .int .u16 0, .int .u16 0, .int .u16 0, .int .u16 0, .int .u16 0]) (.agg #[.int .u16 0, .int .u16 0, .int .u16 0, .int .u16 0, .int .u16 0, .int .u16 0, .int .u16 0, .int .u16 0])).run Tryz.prog w = .ok true w := fun w => eq16 (a := [0, 0, 0, 0, 0, 0, 0, 0]) (b := [0, 0, 0, 0, 0, 0, 0, 0]) rfl rfl rfl rfl w
    clear hp hs
    go_enter Tryz.func7, Tryz.ntmps7
    go_wp2_with fail
    refine (awake_calls HF.out).mono ?_
    rintro e w1 ⟨rfl, hb⟩
    have H1 := Lib.hid hb
    clear hb
    go_wp2_with fail
    refine (HP.out _ (HF.out.keep H1.out)).mono ?_
    rintro e w2 ⟨⟨t, x, rfl, hch⟩, hb⟩
    have H2 := Lib.hid ((belowOn H1.out H1.out.size hb).alloc (by have := H1.out.size; have := hb.size; omega) (.cells #[.int .u16 0, .int .u16 0, .int .u16 0, .int .u16 0, .int .u16 0, .int .u16 0, .int .u16 0, .int .u16 0] 23))
    have HC := Lib.hid (show ∃ l, Chain (w2.alloc (.cells #[.int .u16 0, .int .u16 0, .int .u16 0, .int .u16 0, .int .u16 0, .int .u16 0, .int .u16 0, .int .u16 0] 23)) l (.iface t x) 2 from hch.imp fun l h => h.keep ((Below.refl _ _).alloc (Nat.le_refl _) _))
    clear hb hch
    go_wp2_with fail
    obtain ⟨l, hl⟩ := HC.out
    refine (is6_calls hl).mono ?_
    rintro e w' ⟨rfl, rfl⟩
    clear hl
    go_wp2_with fail
    go_ret
    exact ⟨rfl, H2.out⟩
  · obtain ⟨h8, ha⟩ := parse6_ok hp
    have HP := Lib.hid (fun (W : World) (h : FW W) => parse_ok s a hp h (by omega))
    have HT := Lib.hid (fun (W : World) (h : FW W) => text_calls a h8 ha h)
    have hlen := (text6_len a h8 ha).2
    have HP2 := Lib.hid (fun (W : World) (h : FW W) => parse_ok (mkB (text6 a)) a (by rw [mkB_data]; exact parse_text6 a h8 ha) h (by rw [mkB_size]; omega))
    obtain ⟨x0, x1, x2, x3, x4, x5, x6, x7, rfl⟩ := eight_of h8
    have heq : ∀ w, (Op.equalIn 10000 23 (.agg #[.int .u16 x0, .int .u16 x1, .int .u16 x2, .int .u16 x3, .int .u16 x4, .int .u16 x5, .int .u16 x6, .int .u16 x7]) (.agg #[.int .u16 x0, .int .u16 x1, .int .u16 x2, .int .u16 x3, .int .u16 x4, .int .u16 x5, .int .u16 x6, .int .u16 x7])).run Tryz.prog w = .ok true w := fun w => by
      have := eq16 (a := [x0, x1, x2, x3, x4, x5, x6, x7]) (b := [x0, x1, x2, x3, x4, x5, x6, x7]) rfl rfl (by rw [cells_eight]) (by rw [cells_eight]) w
      rwa [beq_self_eq_true] at this
    rw [cells_eight] at HP HT HP2
    generalize mkB (text6 [x0, x1, x2, x3, x4, x5, x6, x7]) = T at HT HP2
    clear hp h8 ha hlen hs
    go_enter Tryz.func7, Tryz.ntmps7
    go_wp2_with fail
    refine (awake_calls HF.out).mono ?_
    rintro e w1 ⟨rfl, hb⟩
    have H1 := Lib.hid hb
    clear hb
    go_wp2_with fail
    refine (HP.out _ (HF.out.keep H1.out)).mono ?_
    rintro e w2 ⟨rfl, hb⟩
    have H2 := Lib.hid ((belowOn H1.out H1.out.size hb).alloc (by have := H1.out.size; have := hb.size; omega) (.cells #[.int .u16 x0, .int .u16 x1, .int .u16 x2, .int .u16 x3, .int .u16 x4, .int .u16 x5, .int .u16 x6, .int .u16 x7] 23))
    have K2 := Lib.hid (Blk.new w2 23 #[.int .u16 x0, .int .u16 x1, .int .u16 x2, .int .u16 x3, .int .u16 x4, .int .u16 x5, .int .u16 x6, .int .u16 x7])
    clear hb
    go_wp2_with fail
    refine (HT.out _ (HF.out.keep H2.out)).mono ?_
    rintro e w3 ⟨rfl, hb⟩
    have H3 := Lib.hid (belowOn H2.out H2.out.size hb)
    have K3 := Lib.hid (K2.out.keep hb)
    clear hb K2
    go_wp2_with fail
    refine (HP2.out _ (HF.out.keep H3.out)).mono ?_
    rintro e w4 ⟨rfl, hb⟩
    have H4 := Lib.hid (belowOn H3.out H3.out.size hb)
    have HK := Lib.hid (K3.out.keep hb)
    clear hb K3
    have hc0 : ∀ o, (w4.alloc o).cell? ⟨w2.heap.size, 0, none⟩ = some (.int .u16 x0) := fun o => (HK.out.alloc o).cell 0
    have hc1 : ∀ o, (w4.alloc o).cell? ⟨w2.heap.size, 1, none⟩ = some (.int .u16 x1) := fun o => (HK.out.alloc o).cell 1
    have hc2 : ∀ o, (w4.alloc o).cell? ⟨w2.heap.size, 2, none⟩ = some (.int .u16 x2) := fun o => (HK.out.alloc o).cell 2
    have hc3 : ∀ o, (w4.alloc o).cell? ⟨w2.heap.size, 3, none⟩ = some (.int .u16 x3) := fun o => (HK.out.alloc o).cell 3
    have hc4 : ∀ o, (w4.alloc o).cell? ⟨w2.heap.size, 4, none⟩ = some (.int .u16 x4) := fun o => (HK.out.alloc o).cell 4
    have hc5 : ∀ o, (w4.alloc o).cell? ⟨w2.heap.size, 5, none⟩ = some (.int .u16 x5) := fun o => (HK.out.alloc o).cell 5
    have hc6 : ∀ o, (w4.alloc o).cell? ⟨w2.heap.size, 6, none⟩ = some (.int .u16 x6) := fun o => (HK.out.alloc o).cell 6
    have hc7 : ∀ o, (w4.alloc o).cell? ⟨w2.heap.size, 7, none⟩ = some (.int .u16 x7) := fun o => (HK.out.alloc o).cell 7
    go_wp2_with fail
    go_ret
    exact ⟨rfl, H4.out.alloc H4.out.size _⟩
end Go.Proofs.YtodpjdeffhbkpaaGreatDoor
