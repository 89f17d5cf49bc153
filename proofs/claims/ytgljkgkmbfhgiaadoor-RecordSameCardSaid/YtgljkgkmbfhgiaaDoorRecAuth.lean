/- record.authority. -/
import Derived.Test.YtgljkgkmbfhgiaaDoorRecWhen
import Derived.Test.YtgljkgkmbfhgiaaDoorRecHost
import Derived.Test.YtgljkgkmbfhgiaaDoorRegI
set_option linter.unusedVariables false
set_option linter.unusedSimpArgs false
set_option maxRecDepth 100000
namespace Go.Proofs.YtgljkgkmbfhgiaaDoor
open Go.RowKit Four Six Rec

theorem cells_u (u : UrlV) (A : Option Addr) (c : Nat) : (u.cells A c).toArray = #[.string u.scheme, .string u.user, .string u.pass, .int .i64 u.h.kind, .string u.h.name, .int .u32 u.h.v4, .int .u16 u.h.a0, .int .u16 u.h.a1, .int .u16 u.h.a2, .int .u16 u.h.a3, .int .u16 u.h.a4, .int .u16 u.h.a5, .int .u16 u.h.a6, .int .u16 u.h.a7, .int .i64 u.port, .bool u.opq, .slice A u.path.length c, .bool u.hasq, .string u.query, .bool u.hasf, .string u.frag] := rfl
theorem row_new (w : World) (l : List ByteArray) (t : TypeId) : RowAt textC 1 (w.alloc (.cells (l.map Value.string).toArray t)) (some ⟨w.heap.size, 0, none⟩) l := by
  intro i x hx
  refine ⟨w.heap.size, 0, rfl, fun j u hu => ?_⟩
  have hj : j = 0 := by
    have := (List.getElem?_eq_some_iff.1 hu).1
    simp [textC] at this
    exact this
  subst hj
  rw [(Blk.new w t _).cell]
  simp [textC] at hu
  subst hu
  simp [hx]
theorem itoa_below {w w' : World} (h : ∃ k os, w' = Go.Sort.grow (w.drewN k) os) : Below w.heap.size w w' := by
  obtain ⟨k, os, rfl⟩ := h
  exact below_grow4 w k os
set_option maxHeartbeats 8000000 in
theorem auth_calls (u : UrlV) (A : Option Addr) (c : Nat) (ho : u.ok) (hs : u.short) (w : World) (hF : FW w) : Calls Tryd.prog 37 #[.agg (u.cells A c).toArray] w fun e w' => e = .returned (.string (mkB (authT u))) ∧ Below w.heap.size w w' := by
  have HF := Lib.hid hF
  clear hF
  have HH := Lib.hid (fun (W : World) (hW : FW W) => host_text u.h ho.h W hW)
  have HI := Lib.hid (fun (W : World) (hW : FW W) => Tryd.strconv_Itoa u.port ho.p0 ho.p1 W hW.tab)
  rw [cells_h] at HH
  rw [cells_u]
  obtain ⟨scheme, user, pass, ⟨k, nm, v4, a0, a1, a2, a3, a4, a5, a6, a7⟩, port, opq, path, hasq, query, hasf, frag⟩ := u
  simp only at HH HI ⊢

  have hA := authT_len hs ho
  have z1 : (flat [⟨#[58]⟩, pass]).length ≤ 1000 := by have : pass.size ≤ 100 := hs.pass; simp [flat]; omega
  obtain ⟨T1, hT1⟩ : ∃ T, T = mkB (when (!pass.toList.isEmpty) (flat [⟨#[58]⟩, pass])) := ⟨_, rfl⟩
  have zT1 : T1.size ≤ 1000 := by rw [hT1, mkB_size]; exact Nat.le_trans (when_len _ _) z1
  have z2 : (flat [user, T1, ⟨#[64]⟩]).length ≤ 2000 := by have : user.size ≤ 100 := hs.user; simp [flat]; omega
  have hzp : port ≤ 9223372036854775807 := ho.p1
  have hH1 := hostT_len hs.name ho.h.v6
  obtain ⟨eu, heu⟩ : ∃ eu, eu = user.toList.isEmpty := ⟨_, rfl⟩
  obtain ⟨ep, hep⟩ : ∃ ep, ep = pass.toList.isEmpty := ⟨_, rfl⟩
  obtain ⟨T2, hT2⟩ : ∃ T, T = mkB (when (!eu || !ep) (flat [user, T1, ⟨#[64]⟩])) := ⟨_, rfl⟩
  have zT2 : T2.size ≤ 2000 := by rw [hT2, mkB_size]; exact Nat.le_trans (when_len _ _) z2
  obtain ⟨T3, hT3⟩ : ∃ T, T = mkB (hostT ⟨k, nm, v4, a0, a1, a2, a3, a4, a5, a6, a7⟩) := ⟨_, rfl⟩
  have zT3 : T3.size ≤ 100 := by rw [hT3, mkB_size]; exact hH1
  obtain ⟨T4, hT4⟩ : ∃ T : ByteArray, T = ⟨(Lib.itoa port).toArray⟩ := ⟨_, rfl⟩
  obtain ⟨T5, hT5⟩ : ∃ T, T = mkB (when (decide (0 ≤ port)) (flat [⟨#[58]⟩, T4])) := ⟨_, rfl⟩
  have hT5' : T5 = mkB (numT port) := by rw [hT5, hT4]; simp [flat, numT]
  have zT5 : T5.size ≤ 21 := by rw [hT5', mkB_size]; exact numT_len hzp
  have z5 : decide (0 ≤ port) = true → (flat [⟨#[58]⟩, T4]).length ≤ 1000 := fun h => by
    have := numT_len hzp
    unfold numT when at this
    rw [if_pos h] at this
    rw [hT4]
    simp [flat] at this ⊢
    omega
  have s1 : ∀ w, (Op.stringOp .add T2 T3).run Tryd.prog w = .ok (.string (T2 ++ T3)) w := fun w => run_string_add_sum w _ _ (by omega)
  have s2 : ∀ w, (Op.stringOp .add (T2 ++ T3) T5).run Tryd.prog w = .ok (.string (T2 ++ T3 ++ T5)) w := fun w => run_string_add_sum w _ _ (by rw [ByteArray.size_append]; omega)
  have HT := Lib.hid (show T2 ++ T3 ++ T5 = mkB (authT ⟨scheme, user, pass, ⟨k, nm, v4, a0, a1, a2, a3, a4, a5, a6, a7⟩, port, opq, path, hasq, query, hasf, frag⟩) by
    rw [hT5', hT2, hT3, hT1, heu, hep]
    apply ByteArray.ext
    simp [mkB, ByteArray.data_append, authT, flat, isEmpty])
  have HW1 := Lib.hid (fun (W : World) (g : Nat) (hg : g < W.heap.size) (hr : RowAt textC 1 W (some ⟨g, 0, none⟩) [⟨#[58]⟩, pass]) => when_calls (!ep) g [⟨#[58]⟩, pass] W hg hr (by simp) (fun _ => by omega))
  have HW2 := Lib.hid (fun (W : World) (g : Nat) (hg : g < W.heap.size) (hr : RowAt textC 1 W (some ⟨g, 0, none⟩) [user, T1, ⟨#[64]⟩]) => when_calls (!eu || !ep) g [user, T1, ⟨#[64]⟩] W hg hr (by simp) (fun _ => by omega))
  have HW5 := Lib.hid (fun (W : World) (g : Nat) (hg : g < W.heap.size) (hr : RowAt textC 1 W (some ⟨g, 0, none⟩) [⟨#[58]⟩, T4]) => when_calls (decide (0 ≤ port)) g [⟨#[58]⟩, T4] W hg hr (by simp) (fun h => by have := z5 h; omega))
  rw [← hep] at hT1
  rw [← hT1] at HW1
  rw [← hT2] at HW2
  rw [← hT3] at HH
  rw [← hT4] at HI
  rw [← hT5] at HW5
  rw [← HT.out]
  replace heu := heu.symm
  replace hep := hep.symm
  clear hA z1 zT1 hT1 z2 hzp hH1 hT2 zT2 hT3 zT3 hT4 hT5 hT5' zT5 z5 HT ho hs
  obtain ⟨pp, hpp⟩ : ∃ pp, pp = decide (0 ≤ port) := ⟨_, rfl⟩
  rw [← hpp] at HW5
  replace hpp := hpp.symm
  rcases eu with _ | _
  · simp only [Bool.not_false, Bool.not_true, Bool.true_or, Bool.false_or] at HW2
    go_enter Tryd.func37, Tryd.ntmps37
    go_wp2_with fail
    obtain ⟨W, hW⟩ : ∃ W, W = w.alloc (.cells #[.string scheme, .string user, .string pass, .int .i64 k, .string nm, .int .u32 v4, .int .u16 a0, .int .u16 a1, .int .u16 a2, .int .u16 a3, .int .u16 a4, .int .u16 a5, .int .u16 a6, .int .u16 a7, .int .i64 port, .bool opq, .slice A path.length c, .bool hasq, .string query, .bool hasf, .string frag] 29) := ⟨_, rfl⟩
    have KU := Lib.hid (show Blk W w.heap.size 29 #[.string scheme, .string user, .string pass, .int .i64 k, .string nm, .int .u32 v4, .int .u16 a0, .int .u16 a1, .int .u16 a2, .int .u16 a3, .int .u16 a4, .int .u16 a5, .int .u16 a6, .int .u16 a7, .int .i64 port, .bool opq, .slice A path.length c, .bool hasq, .string query, .bool hasf, .string frag] by rw [hW]; exact Blk.new w _ _)
    have HB := Lib.hid (show Below w.heap.size w W by rw [hW]; exact (Below.refl _ _).alloc (Nat.le_refl _) _)
    rw [← hW]
    clear hW
    refine wp_region_RI [.is (.pointer (some ⟨w.heap.size, 1, none⟩)), .is (.string user), .is (.bool true), .is (.bool true), .is (undef), .is (undef), .is (undef), .is (.bool true), .is (.pointer (some ⟨w.heap.size, 1, none⟩)), .is (.string user), .is (.pointer (some ⟨w.heap.size, 2, none⟩)), .is (.string pass), .is (.bool (!ep)), .is (.pointer (some ⟨w.heap.size, 2, none⟩)), .is (.string pass), .row [⟨#[58]⟩, pass], .is (.string T1), .row [user, T1, ⟨#[64]⟩], .is (.string T2), .is (.pointer (some ⟨w.heap.size, 3, none⟩)), .is (.agg #[.int .i64 k, .string nm, .int .u32 v4, .int .u16 a0, .int .u16 a1, .int .u16 a2, .int .u16 a3, .int .u16 a4, .int .u16 a5, .int .u16 a6, .int .u16 a7]), .is (.string T3), .is (.string (T2 ++ T3)), .is (.pointer (some ⟨w.heap.size, 14, none⟩)), .is (.int .i64 port), .is (.bool pp), .is (.pointer (some ⟨w.heap.size, 14, none⟩)), .is (.int .i64 port), .is (.string T4), .row [⟨#[58]⟩, T4], .is (.string T5), .is (.string (T2 ++ T3 ++ T5)), .is (.string (T2 ++ T3 ++ T5))] (by kernel_rfl) (by kernel_rfl) rfl ?_ ?_
    · intro i o sp ho hs a w2 hbe htz hkept hdep
      have hi : i < 33 := (Array.getElem?_eq_some_iff.1 ho).1
      have KW := KU.out.keep hbe
      have hsz : a.tmps.size = 35 := htz
      have hb1 : a.tmps.getD 1 undef = .pointer (some ⟨w.heap.size, 0, none⟩) := hkept 1 (noDst_spec (by kernel_rfl))
      rcases (by omega : i = 0 ∨ i = 1 ∨ i = 2 ∨ i = 3 ∨ i = 4 ∨ i = 5 ∨ i = 6 ∨ i = 7 ∨ i = 8 ∨ i = 9 ∨ i = 10 ∨ i = 11 ∨ i = 12 ∨ i = 13 ∨ i = 14 ∨ i = 15 ∨ i = 16 ∨ i = 17 ∨ i = 18 ∨ i = 19 ∨ i = 20 ∨ i = 21 ∨ i = 22 ∨ i = 23 ∨ i = 24 ∨ i = 25 ∨ i = 26 ∨ i = 27 ∨ i = 28 ∨ i = 29 ∨ i = 30 ∨ i = 31 ∨ i = 32) with rfl | rfl | rfl | rfl | rfl | rfl | rfl | rfl | rfl | rfl | rfl | rfl | rfl | rfl | rfl | rfl | rfl | rfl | rfl | rfl | rfl | rfl | rfl | rfl | rfl | rfl | rfl | rfl | rfl | rfl | rfl | rfl | rfl
      · obtain rfl := Option.some.inj ho
        obtain rfl := Option.some.inj hs
        have e1 : a.tmps.getD 1 undef = .pointer (some ⟨w.heap.size, 0, none⟩) := hb1
        exact wpOp_plain rfl rfl (u := .pointer (some ⟨w.heap.size, 1, none⟩)) (fun ρ hc hf ht => by have f1 := (ht 1).trans e1; clear ht; simp [go_sem, *]) ⟨_, rfl, rfl, Below.refl _ _⟩
      · obtain rfl := Option.some.inj ho
        obtain rfl := Option.some.inj hs
        have e3 : a.tmps.getD 3 undef = .pointer (some ⟨w.heap.size, 1, none⟩) := hdep 0 _ _ _ rfl rfl rfl (by kernel_rfl)
        exact wpOp_plain rfl rfl (u := .string user) (fun ρ hc hf ht => by have f3 := (ht 3).trans e3; clear ht; have q0 := (KW.cell 1); simp [go_sem, *]) ⟨_, rfl, rfl, Below.refl _ _⟩
      · obtain rfl := Option.some.inj ho
        obtain rfl := Option.some.inj hs
        have e4 : a.tmps.getD 4 undef = .string user := hdep 1 _ _ _ rfl rfl rfl (by kernel_rfl)
        exact wpOp_plain rfl rfl (u := .bool true) (fun ρ hc hf ht => by have f4 := (ht 4).trans e4; clear ht; have q0 := heu; simp [go_sem, *]) ⟨_, rfl, rfl, Below.refl _ _⟩
      · obtain rfl := Option.some.inj ho
        obtain rfl := Option.some.inj hs
        have e5 : a.tmps.getD 5 undef = .bool true := hdep 2 _ _ _ rfl rfl rfl (by kernel_rfl)
        exact wpOp_plain rfl rfl (u := .bool true) (fun ρ hc hf ht => by have f5 := (ht 5).trans e5; clear ht; simp [go_sem, *]) ⟨_, rfl, rfl, Below.refl _ _⟩
      · obtain rfl := Option.some.inj ho
        obtain rfl := Option.some.inj hs
        have e1 : a.tmps.getD 1 undef = .pointer (some ⟨w.heap.size, 0, none⟩) := hb1
        have e6 : a.tmps.getD 6 undef = .bool true := hdep 3 _ _ _ rfl rfl rfl (by kernel_rfl)
        exact wpOp_skipped rfl (by simp [Region.wanted, yielded, got_some e6 (by omega)]) ⟨_, rfl, rfl, Below.refl _ _⟩
      · obtain rfl := Option.some.inj ho
        obtain rfl := Option.some.inj hs
        have e7 : a.tmps.getD 7 undef = undef := hdep 4 _ _ _ rfl rfl rfl (by kernel_rfl)
        have e6 : a.tmps.getD 6 undef = .bool true := hdep 3 _ _ _ rfl rfl rfl (by kernel_rfl)
        exact wpOp_skipped rfl (by simp [Region.wanted, yielded, got_some e6 (by omega)]) ⟨_, rfl, rfl, Below.refl _ _⟩
      · obtain rfl := Option.some.inj ho
        obtain rfl := Option.some.inj hs
        have e8 : a.tmps.getD 8 undef = undef := hdep 5 _ _ _ rfl rfl rfl (by kernel_rfl)
        have e6 : a.tmps.getD 6 undef = .bool true := hdep 3 _ _ _ rfl rfl rfl (by kernel_rfl)
        exact wpOp_skipped rfl (by simp [Region.wanted, yielded, got_some e6 (by omega)]) ⟨_, rfl, rfl, Below.refl _ _⟩
      · obtain rfl := Option.some.inj ho
        obtain rfl := Option.some.inj hs
        have e6 : a.tmps.getD 6 undef = .bool true := hdep 3 _ _ _ rfl rfl rfl (by kernel_rfl)
        have e9 : a.tmps.getD 9 undef = undef := hdep 6 _ _ _ rfl rfl rfl (by kernel_rfl)
        exact wpOp_plain rfl rfl (u := .bool true) (fun ρ hc hf ht => by have f6 := (ht 6).trans e6; have f9 := (ht 9).trans e9; clear ht; have q0 := (trivial : True); simp [go_sem, *]) ⟨_, rfl, rfl, Below.refl _ _⟩
      · obtain rfl := Option.some.inj ho
        obtain rfl := Option.some.inj hs
        have e1 : a.tmps.getD 1 undef = .pointer (some ⟨w.heap.size, 0, none⟩) := hb1
        exact wpOp_plain rfl rfl (u := .pointer (some ⟨w.heap.size, 1, none⟩)) (fun ρ hc hf ht => by have f1 := (ht 1).trans e1; clear ht; simp [go_sem, *]) ⟨_, rfl, rfl, Below.refl _ _⟩
      · obtain rfl := Option.some.inj ho
        obtain rfl := Option.some.inj hs
        have e11 : a.tmps.getD 11 undef = .pointer (some ⟨w.heap.size, 1, none⟩) := hdep 8 _ _ _ rfl rfl rfl (by kernel_rfl)
        exact wpOp_plain rfl rfl (u := .string user) (fun ρ hc hf ht => by have f11 := (ht 11).trans e11; clear ht; have q0 := (KW.cell 1); simp [go_sem, *]) ⟨_, rfl, rfl, Below.refl _ _⟩
      · obtain rfl := Option.some.inj ho
        obtain rfl := Option.some.inj hs
        have e1 : a.tmps.getD 1 undef = .pointer (some ⟨w.heap.size, 0, none⟩) := hb1
        exact wpOp_plain rfl rfl (u := .pointer (some ⟨w.heap.size, 2, none⟩)) (fun ρ hc hf ht => by have f1 := (ht 1).trans e1; clear ht; simp [go_sem, *]) ⟨_, rfl, rfl, Below.refl _ _⟩
      · obtain rfl := Option.some.inj ho
        obtain rfl := Option.some.inj hs
        have e13 : a.tmps.getD 13 undef = .pointer (some ⟨w.heap.size, 2, none⟩) := hdep 10 _ _ _ rfl rfl rfl (by kernel_rfl)
        exact wpOp_plain rfl rfl (u := .string pass) (fun ρ hc hf ht => by have f13 := (ht 13).trans e13; clear ht; have q0 := (KW.cell 2); simp [go_sem, *]) ⟨_, rfl, rfl, Below.refl _ _⟩
      · obtain rfl := Option.some.inj ho
        obtain rfl := Option.some.inj hs
        have e14 : a.tmps.getD 14 undef = .string pass := hdep 11 _ _ _ rfl rfl rfl (by kernel_rfl)
        exact wpOp_plain rfl rfl (u := .bool (!ep)) (fun ρ hc hf ht => by have f14 := (ht 14).trans e14; clear ht; have q0 := hep; simp [go_sem, *]) ⟨_, rfl, rfl, Below.refl _ _⟩
      · obtain rfl := Option.some.inj ho
        obtain rfl := Option.some.inj hs
        have e1 : a.tmps.getD 1 undef = .pointer (some ⟨w.heap.size, 0, none⟩) := hb1
        exact wpOp_plain rfl rfl (u := .pointer (some ⟨w.heap.size, 2, none⟩)) (fun ρ hc hf ht => by have f1 := (ht 1).trans e1; clear ht; simp [go_sem, *]) ⟨_, rfl, rfl, Below.refl _ _⟩
      · obtain rfl := Option.some.inj ho
        obtain rfl := Option.some.inj hs
        have e16 : a.tmps.getD 16 undef = .pointer (some ⟨w.heap.size, 2, none⟩) := hdep 13 _ _ _ rfl rfl rfl (by kernel_rfl)
        exact wpOp_plain rfl rfl (u := .string pass) (fun ρ hc hf ht => by have f16 := (ht 16).trans e16; clear ht; have q0 := (KW.cell 2); simp [go_sem, *]) ⟨_, rfl, rfl, Below.refl _ _⟩
      · obtain rfl := Option.some.inj ho
        obtain rfl := Option.some.inj hs
        have e17 : a.tmps.getD 17 undef = .string pass := hdep 14 _ _ _ rfl rfl rfl (by kernel_rfl)
        refine wpOp_plain rfl rfl (u := .slice (some ⟨w2.heap.size, 0, none⟩) 2 2) (w' := w2.alloc (.cells ([⟨#[58]⟩, pass].map Value.string).toArray 9)) (fun ρ hc hf ht => by have f17 := (ht 17).trans e17; clear ht; simp [go_sem, *]) ⟨_, rfl, ⟨_, rfl, row_new _ _ _, by simp⟩, (Below.refl _ _).alloc (Nat.le_refl _) _⟩
      · obtain rfl := Option.some.inj ho
        obtain rfl := Option.some.inj hs
        have e15 : a.tmps.getD 15 undef = .bool (!ep) := hdep 12 _ _ _ rfl rfl rfl (by kernel_rfl)
        obtain ⟨g18, e18, r18, l18⟩ : Sp.ok w2 (a.tmps.getD 18 undef) (.row [⟨#[58]⟩, pass]) := hdep 15 _ _ _ rfl rfl rfl (by kernel_rfl)
        refine wpOp_calls (f := 36) (args := #[.bool (!ep), .slice (some ⟨g18, 0, none⟩) 2 2]) rfl rfl (fun ρ hc hf ht => by have f15 := (ht 15).trans e15; have f18 := (ht 18).trans e18; clear ht; simp [go_sem, *]) ?_
        exact (HW1.out w2 g18 l18 r18).mono fun e w' h => ⟨_, h.1, _, rfl, rfl, h.2⟩
      · obtain rfl := Option.some.inj ho
        obtain rfl := Option.some.inj hs
        have e12 : a.tmps.getD 12 undef = .string user := hdep 9 _ _ _ rfl rfl rfl (by kernel_rfl)
        have e19 : a.tmps.getD 19 undef = .string T1 := hdep 16 _ _ _ rfl rfl rfl (by kernel_rfl)
        refine wpOp_plain rfl rfl (u := .slice (some ⟨w2.heap.size, 0, none⟩) 3 3) (w' := w2.alloc (.cells ([user, T1, ⟨#[64]⟩].map Value.string).toArray 9)) (fun ρ hc hf ht => by have f12 := (ht 12).trans e12; have f19 := (ht 19).trans e19; clear ht; simp [go_sem, *]) ⟨_, rfl, ⟨_, rfl, row_new _ _ _, by simp⟩, (Below.refl _ _).alloc (Nat.le_refl _) _⟩
      · obtain rfl := Option.some.inj ho
        obtain rfl := Option.some.inj hs
        have e10 : a.tmps.getD 10 undef = .bool true := hdep 7 _ _ _ rfl rfl rfl (by kernel_rfl)
        obtain ⟨g20, e20, r20, l20⟩ : Sp.ok w2 (a.tmps.getD 20 undef) (.row [user, T1, ⟨#[64]⟩]) := hdep 17 _ _ _ rfl rfl rfl (by kernel_rfl)
        refine wpOp_calls (f := 36) (args := #[.bool true, .slice (some ⟨g20, 0, none⟩) 3 3]) rfl rfl (fun ρ hc hf ht => by have f10 := (ht 10).trans e10; have f20 := (ht 20).trans e20; clear ht; simp [go_sem, *]) ?_
        exact (HW2.out w2 g20 l20 r20).mono fun e w' h => ⟨_, h.1, _, rfl, rfl, h.2⟩
      · obtain rfl := Option.some.inj ho
        obtain rfl := Option.some.inj hs
        have e1 : a.tmps.getD 1 undef = .pointer (some ⟨w.heap.size, 0, none⟩) := hb1
        exact wpOp_plain rfl rfl (u := .pointer (some ⟨w.heap.size, 3, none⟩)) (fun ρ hc hf ht => by have f1 := (ht 1).trans e1; clear ht; simp [go_sem, *]) ⟨_, rfl, rfl, Below.refl _ _⟩
      · obtain rfl := Option.some.inj ho
        obtain rfl := Option.some.inj hs
        have e22 : a.tmps.getD 22 undef = .pointer (some ⟨w.heap.size, 3, none⟩) := hdep 19 _ _ _ rfl rfl rfl (by kernel_rfl)
        exact wpOp_plain rfl rfl (u := .agg #[.int .i64 k, .string nm, .int .u32 v4, .int .u16 a0, .int .u16 a1, .int .u16 a2, .int .u16 a3, .int .u16 a4, .int .u16 a5, .int .u16 a6, .int .u16 a7]) (fun ρ hc hf ht => by have f22 := (ht 22).trans e22; clear ht; have q0 := (KW.cell 3); have q1 := (KW.cell 4); have q2 := (KW.cell 5); have q3 := (KW.cell 6); have q4 := (KW.cell 7); have q5 := (KW.cell 8); have q6 := (KW.cell 9); have q7 := (KW.cell 10); have q8 := (KW.cell 11); have q9 := (KW.cell 12); have q10 := (KW.cell 13); simp [go_sem, *]) ⟨_, rfl, rfl, Below.refl _ _⟩
      · obtain rfl := Option.some.inj ho
        obtain rfl := Option.some.inj hs
        have e23 : a.tmps.getD 23 undef = .agg #[.int .i64 k, .string nm, .int .u32 v4, .int .u16 a0, .int .u16 a1, .int .u16 a2, .int .u16 a3, .int .u16 a4, .int .u16 a5, .int .u16 a6, .int .u16 a7] := hdep 20 _ _ _ rfl rfl rfl (by kernel_rfl)
        refine wpOp_calls (f := 47) (args := #[.agg #[.int .i64 k, .string nm, .int .u32 v4, .int .u16 a0, .int .u16 a1, .int .u16 a2, .int .u16 a3, .int .u16 a4, .int .u16 a5, .int .u16 a6, .int .u16 a7]]) rfl rfl (fun ρ hc hf ht => by have f23 := (ht 23).trans e23; clear ht; simp [go_sem, *]) ?_
        exact (HH.out w2 (HF.out.keep (belowOn HB.out HB.out.size hbe))).mono fun e w' h => ⟨_, h.1, _, rfl, rfl, h.2⟩
      · obtain rfl := Option.some.inj ho
        obtain rfl := Option.some.inj hs
        have e21 : a.tmps.getD 21 undef = .string T2 := hdep 18 _ _ _ rfl rfl rfl (by kernel_rfl)
        have e24 : a.tmps.getD 24 undef = .string T3 := hdep 21 _ _ _ rfl rfl rfl (by kernel_rfl)
        exact wpOp_plain rfl rfl (u := .string (T2 ++ T3)) (fun ρ hc hf ht => by have f21 := (ht 21).trans e21; have f24 := (ht 24).trans e24; clear ht; have q0 := s1; simp [go_sem, *]) ⟨_, rfl, rfl, Below.refl _ _⟩
      · obtain rfl := Option.some.inj ho
        obtain rfl := Option.some.inj hs
        have e1 : a.tmps.getD 1 undef = .pointer (some ⟨w.heap.size, 0, none⟩) := hb1
        exact wpOp_plain rfl rfl (u := .pointer (some ⟨w.heap.size, 14, none⟩)) (fun ρ hc hf ht => by have f1 := (ht 1).trans e1; clear ht; simp [go_sem, *]) ⟨_, rfl, rfl, Below.refl _ _⟩
      · obtain rfl := Option.some.inj ho
        obtain rfl := Option.some.inj hs
        have e26 : a.tmps.getD 26 undef = .pointer (some ⟨w.heap.size, 14, none⟩) := hdep 23 _ _ _ rfl rfl rfl (by kernel_rfl)
        exact wpOp_plain rfl rfl (u := .int .i64 port) (fun ρ hc hf ht => by have f26 := (ht 26).trans e26; clear ht; have q0 := (KW.cell 14); simp [go_sem, *]) ⟨_, rfl, rfl, Below.refl _ _⟩
      · obtain rfl := Option.some.inj ho
        obtain rfl := Option.some.inj hs
        have e27 : a.tmps.getD 27 undef = .int .i64 port := hdep 24 _ _ _ rfl rfl rfl (by kernel_rfl)
        exact wpOp_plain rfl rfl (u := .bool pp) (fun ρ hc hf ht => by have f27 := (ht 27).trans e27; clear ht; have q0 := hpp; simp [go_sem, *]) ⟨_, rfl, rfl, Below.refl _ _⟩
      · obtain rfl := Option.some.inj ho
        obtain rfl := Option.some.inj hs
        have e1 : a.tmps.getD 1 undef = .pointer (some ⟨w.heap.size, 0, none⟩) := hb1
        exact wpOp_plain rfl rfl (u := .pointer (some ⟨w.heap.size, 14, none⟩)) (fun ρ hc hf ht => by have f1 := (ht 1).trans e1; clear ht; simp [go_sem, *]) ⟨_, rfl, rfl, Below.refl _ _⟩
      · obtain rfl := Option.some.inj ho
        obtain rfl := Option.some.inj hs
        have e29 : a.tmps.getD 29 undef = .pointer (some ⟨w.heap.size, 14, none⟩) := hdep 26 _ _ _ rfl rfl rfl (by kernel_rfl)
        exact wpOp_plain rfl rfl (u := .int .i64 port) (fun ρ hc hf ht => by have f29 := (ht 29).trans e29; clear ht; have q0 := (KW.cell 14); simp [go_sem, *]) ⟨_, rfl, rfl, Below.refl _ _⟩
      · obtain rfl := Option.some.inj ho
        obtain rfl := Option.some.inj hs
        have e30 : a.tmps.getD 30 undef = .int .i64 port := hdep 27 _ _ _ rfl rfl rfl (by kernel_rfl)
        refine wpOp_calls (f := 51) (args := #[.int .i64 port]) rfl rfl (fun ρ hc hf ht => by have f30 := (ht 30).trans e30; clear ht; simp [go_sem, *]) ?_
        exact (HI.out w2 (HF.out.keep (belowOn HB.out HB.out.size hbe))).mono fun e w' h => ⟨_, h.1, _, rfl, rfl, itoa_below h.2⟩
      · obtain rfl := Option.some.inj ho
        obtain rfl := Option.some.inj hs
        have e31 : a.tmps.getD 31 undef = .string T4 := hdep 28 _ _ _ rfl rfl rfl (by kernel_rfl)
        refine wpOp_plain rfl rfl (u := .slice (some ⟨w2.heap.size, 0, none⟩) 2 2) (w' := w2.alloc (.cells ([⟨#[58]⟩, T4].map Value.string).toArray 9)) (fun ρ hc hf ht => by have f31 := (ht 31).trans e31; clear ht; simp [go_sem, *]) ⟨_, rfl, ⟨_, rfl, row_new _ _ _, by simp⟩, (Below.refl _ _).alloc (Nat.le_refl _) _⟩
      · obtain rfl := Option.some.inj ho
        obtain rfl := Option.some.inj hs
        have e28 : a.tmps.getD 28 undef = .bool pp := hdep 25 _ _ _ rfl rfl rfl (by kernel_rfl)
        obtain ⟨g32, e32, r32, l32⟩ : Sp.ok w2 (a.tmps.getD 32 undef) (.row [⟨#[58]⟩, T4]) := hdep 29 _ _ _ rfl rfl rfl (by kernel_rfl)
        refine wpOp_calls (f := 36) (args := #[.bool pp, .slice (some ⟨g32, 0, none⟩) 2 2]) rfl rfl (fun ρ hc hf ht => by have f28 := (ht 28).trans e28; have f32 := (ht 32).trans e32; clear ht; simp [go_sem, *]) ?_
        exact (HW5.out w2 g32 l32 r32).mono fun e w' h => ⟨_, h.1, _, rfl, rfl, h.2⟩
      · obtain rfl := Option.some.inj ho
        obtain rfl := Option.some.inj hs
        have e25 : a.tmps.getD 25 undef = .string (T2 ++ T3) := hdep 22 _ _ _ rfl rfl rfl (by kernel_rfl)
        have e33 : a.tmps.getD 33 undef = .string T5 := hdep 30 _ _ _ rfl rfl rfl (by kernel_rfl)
        exact wpOp_plain rfl rfl (u := .string (T2 ++ T3 ++ T5)) (fun ρ hc hf ht => by have f25 := (ht 25).trans e25; have f33 := (ht 33).trans e33; clear ht; have q0 := s2; simp [go_sem, *]) ⟨_, rfl, rfl, Below.refl _ _⟩
      · obtain rfl := Option.some.inj ho
        obtain rfl := Option.some.inj hs
        have e34 : a.tmps.getD 34 undef = .string (T2 ++ T3 ++ T5) := hdep 31 _ _ _ rfl rfl rfl (by kernel_rfl)
        exact wpOp_plain rfl rfl (u := .string (T2 ++ T3 ++ T5)) (fun ρ hc hf ht => by have f34 := (ht 34).trans e34; clear ht; simp [go_sem, *]) ⟨_, rfl, rfl, Below.refl _ _⟩
    · intro a w2 hall hdef hbe
      have er : a.tmps.getD 2 undef = .string (T2 ++ T3 ++ T5) := hall 32 _ _ _ rfl rfl rfl
      rename_i Q9 K9 hK9
      refine hK9 _ _ (wp_ret ?_)
      refine bodyPost_ret (results_tmp (t := 2) rfl a.tmps _ w2) hdef ?_
      rw [er]
      exact ⟨rfl, belowOn HB.out HB.out.size hbe⟩

  · simp only [Bool.not_false, Bool.not_true, Bool.true_or, Bool.false_or] at HW2
    go_enter Tryd.func37, Tryd.ntmps37
    go_wp2_with fail
    obtain ⟨W, hW⟩ : ∃ W, W = w.alloc (.cells #[.string scheme, .string user, .string pass, .int .i64 k, .string nm, .int .u32 v4, .int .u16 a0, .int .u16 a1, .int .u16 a2, .int .u16 a3, .int .u16 a4, .int .u16 a5, .int .u16 a6, .int .u16 a7, .int .i64 port, .bool opq, .slice A path.length c, .bool hasq, .string query, .bool hasf, .string frag] 29) := ⟨_, rfl⟩
    have KU := Lib.hid (show Blk W w.heap.size 29 #[.string scheme, .string user, .string pass, .int .i64 k, .string nm, .int .u32 v4, .int .u16 a0, .int .u16 a1, .int .u16 a2, .int .u16 a3, .int .u16 a4, .int .u16 a5, .int .u16 a6, .int .u16 a7, .int .i64 port, .bool opq, .slice A path.length c, .bool hasq, .string query, .bool hasf, .string frag] by rw [hW]; exact Blk.new w _ _)
    have HB := Lib.hid (show Below w.heap.size w W by rw [hW]; exact (Below.refl _ _).alloc (Nat.le_refl _) _)
    rw [← hW]
    clear hW
    refine wp_region_RI [.is (.pointer (some ⟨w.heap.size, 1, none⟩)), .is (.string user), .is (.bool false), .is (.bool false), .is (.pointer (some ⟨w.heap.size, 2, none⟩)), .is (.string pass), .is (.bool (!ep)), .is (.bool (!ep)), .is (.pointer (some ⟨w.heap.size, 1, none⟩)), .is (.string user), .is (.pointer (some ⟨w.heap.size, 2, none⟩)), .is (.string pass), .is (.bool (!ep)), .is (.pointer (some ⟨w.heap.size, 2, none⟩)), .is (.string pass), .row [⟨#[58]⟩, pass], .is (.string T1), .row [user, T1, ⟨#[64]⟩], .is (.string T2), .is (.pointer (some ⟨w.heap.size, 3, none⟩)), .is (.agg #[.int .i64 k, .string nm, .int .u32 v4, .int .u16 a0, .int .u16 a1, .int .u16 a2, .int .u16 a3, .int .u16 a4, .int .u16 a5, .int .u16 a6, .int .u16 a7]), .is (.string T3), .is (.string (T2 ++ T3)), .is (.pointer (some ⟨w.heap.size, 14, none⟩)), .is (.int .i64 port), .is (.bool pp), .is (.pointer (some ⟨w.heap.size, 14, none⟩)), .is (.int .i64 port), .is (.string T4), .row [⟨#[58]⟩, T4], .is (.string T5), .is (.string (T2 ++ T3 ++ T5)), .is (.string (T2 ++ T3 ++ T5))] (by kernel_rfl) (by kernel_rfl) rfl ?_ ?_
    · intro i o sp ho hs a w2 hbe htz hkept hdep
      have hi : i < 33 := (Array.getElem?_eq_some_iff.1 ho).1
      have KW := KU.out.keep hbe
      have hsz : a.tmps.size = 35 := htz
      have hb1 : a.tmps.getD 1 undef = .pointer (some ⟨w.heap.size, 0, none⟩) := hkept 1 (noDst_spec (by kernel_rfl))
      rcases (by omega : i = 0 ∨ i = 1 ∨ i = 2 ∨ i = 3 ∨ i = 4 ∨ i = 5 ∨ i = 6 ∨ i = 7 ∨ i = 8 ∨ i = 9 ∨ i = 10 ∨ i = 11 ∨ i = 12 ∨ i = 13 ∨ i = 14 ∨ i = 15 ∨ i = 16 ∨ i = 17 ∨ i = 18 ∨ i = 19 ∨ i = 20 ∨ i = 21 ∨ i = 22 ∨ i = 23 ∨ i = 24 ∨ i = 25 ∨ i = 26 ∨ i = 27 ∨ i = 28 ∨ i = 29 ∨ i = 30 ∨ i = 31 ∨ i = 32) with rfl | rfl | rfl | rfl | rfl | rfl | rfl | rfl | rfl | rfl | rfl | rfl | rfl | rfl | rfl | rfl | rfl | rfl | rfl | rfl | rfl | rfl | rfl | rfl | rfl | rfl | rfl | rfl | rfl | rfl | rfl | rfl | rfl
      · obtain rfl := Option.some.inj ho
        obtain rfl := Option.some.inj hs
        have e1 : a.tmps.getD 1 undef = .pointer (some ⟨w.heap.size, 0, none⟩) := hb1
        exact wpOp_plain rfl rfl (u := .pointer (some ⟨w.heap.size, 1, none⟩)) (fun ρ hc hf ht => by have f1 := (ht 1).trans e1; clear ht; simp [go_sem, *]) ⟨_, rfl, rfl, Below.refl _ _⟩
      · obtain rfl := Option.some.inj ho
        obtain rfl := Option.some.inj hs
        have e3 : a.tmps.getD 3 undef = .pointer (some ⟨w.heap.size, 1, none⟩) := hdep 0 _ _ _ rfl rfl rfl (by kernel_rfl)
        exact wpOp_plain rfl rfl (u := .string user) (fun ρ hc hf ht => by have f3 := (ht 3).trans e3; clear ht; have q0 := (KW.cell 1); simp [go_sem, *]) ⟨_, rfl, rfl, Below.refl _ _⟩
      · obtain rfl := Option.some.inj ho
        obtain rfl := Option.some.inj hs
        have e4 : a.tmps.getD 4 undef = .string user := hdep 1 _ _ _ rfl rfl rfl (by kernel_rfl)
        exact wpOp_plain rfl rfl (u := .bool false) (fun ρ hc hf ht => by have f4 := (ht 4).trans e4; clear ht; have q0 := heu; simp [go_sem, *]) ⟨_, rfl, rfl, Below.refl _ _⟩
      · obtain rfl := Option.some.inj ho
        obtain rfl := Option.some.inj hs
        have e5 : a.tmps.getD 5 undef = .bool false := hdep 2 _ _ _ rfl rfl rfl (by kernel_rfl)
        exact wpOp_plain rfl rfl (u := .bool false) (fun ρ hc hf ht => by have f5 := (ht 5).trans e5; clear ht; simp [go_sem, *]) ⟨_, rfl, rfl, Below.refl _ _⟩
      · obtain rfl := Option.some.inj ho
        obtain rfl := Option.some.inj hs
        have e1 : a.tmps.getD 1 undef = .pointer (some ⟨w.heap.size, 0, none⟩) := hb1
        have e6 : a.tmps.getD 6 undef = .bool false := hdep 3 _ _ _ rfl rfl rfl (by kernel_rfl)
        exact wpOp_plain rfl (by simp [Region.wanted, yielded, got_some e6 (by omega)]) (u := .pointer (some ⟨w.heap.size, 2, none⟩)) (fun ρ hc hf ht => by have f1 := (ht 1).trans e1; clear ht; simp [go_sem, *]) ⟨_, rfl, rfl, Below.refl _ _⟩
      · obtain rfl := Option.some.inj ho
        obtain rfl := Option.some.inj hs
        have e7 : a.tmps.getD 7 undef = .pointer (some ⟨w.heap.size, 2, none⟩) := hdep 4 _ _ _ rfl rfl rfl (by kernel_rfl)
        have e6 : a.tmps.getD 6 undef = .bool false := hdep 3 _ _ _ rfl rfl rfl (by kernel_rfl)
        exact wpOp_plain rfl (by simp [Region.wanted, yielded, got_some e6 (by omega)]) (u := .string pass) (fun ρ hc hf ht => by have f7 := (ht 7).trans e7; clear ht; have q0 := (KW.cell 2); simp [go_sem, *]) ⟨_, rfl, rfl, Below.refl _ _⟩
      · obtain rfl := Option.some.inj ho
        obtain rfl := Option.some.inj hs
        have e8 : a.tmps.getD 8 undef = .string pass := hdep 5 _ _ _ rfl rfl rfl (by kernel_rfl)
        have e6 : a.tmps.getD 6 undef = .bool false := hdep 3 _ _ _ rfl rfl rfl (by kernel_rfl)
        exact wpOp_plain rfl (by simp [Region.wanted, yielded, got_some e6 (by omega)]) (u := .bool (!ep)) (fun ρ hc hf ht => by have f8 := (ht 8).trans e8; clear ht; have q0 := hep; simp [go_sem, *]) ⟨_, rfl, rfl, Below.refl _ _⟩
      · obtain rfl := Option.some.inj ho
        obtain rfl := Option.some.inj hs
        have e6 : a.tmps.getD 6 undef = .bool false := hdep 3 _ _ _ rfl rfl rfl (by kernel_rfl)
        have e9 : a.tmps.getD 9 undef = .bool (!ep) := hdep 6 _ _ _ rfl rfl rfl (by kernel_rfl)
        exact wpOp_plain rfl rfl (u := .bool (!ep)) (fun ρ hc hf ht => by have f6 := (ht 6).trans e6; have f9 := (ht 9).trans e9; clear ht; have q0 := (trivial : True); simp [go_sem, *]) ⟨_, rfl, rfl, Below.refl _ _⟩
      · obtain rfl := Option.some.inj ho
        obtain rfl := Option.some.inj hs
        have e1 : a.tmps.getD 1 undef = .pointer (some ⟨w.heap.size, 0, none⟩) := hb1
        exact wpOp_plain rfl rfl (u := .pointer (some ⟨w.heap.size, 1, none⟩)) (fun ρ hc hf ht => by have f1 := (ht 1).trans e1; clear ht; simp [go_sem, *]) ⟨_, rfl, rfl, Below.refl _ _⟩
      · obtain rfl := Option.some.inj ho
        obtain rfl := Option.some.inj hs
        have e11 : a.tmps.getD 11 undef = .pointer (some ⟨w.heap.size, 1, none⟩) := hdep 8 _ _ _ rfl rfl rfl (by kernel_rfl)
        exact wpOp_plain rfl rfl (u := .string user) (fun ρ hc hf ht => by have f11 := (ht 11).trans e11; clear ht; have q0 := (KW.cell 1); simp [go_sem, *]) ⟨_, rfl, rfl, Below.refl _ _⟩
      · obtain rfl := Option.some.inj ho
        obtain rfl := Option.some.inj hs
        have e1 : a.tmps.getD 1 undef = .pointer (some ⟨w.heap.size, 0, none⟩) := hb1
        exact wpOp_plain rfl rfl (u := .pointer (some ⟨w.heap.size, 2, none⟩)) (fun ρ hc hf ht => by have f1 := (ht 1).trans e1; clear ht; simp [go_sem, *]) ⟨_, rfl, rfl, Below.refl _ _⟩
      · obtain rfl := Option.some.inj ho
        obtain rfl := Option.some.inj hs
        have e13 : a.tmps.getD 13 undef = .pointer (some ⟨w.heap.size, 2, none⟩) := hdep 10 _ _ _ rfl rfl rfl (by kernel_rfl)
        exact wpOp_plain rfl rfl (u := .string pass) (fun ρ hc hf ht => by have f13 := (ht 13).trans e13; clear ht; have q0 := (KW.cell 2); simp [go_sem, *]) ⟨_, rfl, rfl, Below.refl _ _⟩
      · obtain rfl := Option.some.inj ho
        obtain rfl := Option.some.inj hs
        have e14 : a.tmps.getD 14 undef = .string pass := hdep 11 _ _ _ rfl rfl rfl (by kernel_rfl)
        exact wpOp_plain rfl rfl (u := .bool (!ep)) (fun ρ hc hf ht => by have f14 := (ht 14).trans e14; clear ht; have q0 := hep; simp [go_sem, *]) ⟨_, rfl, rfl, Below.refl _ _⟩
      · obtain rfl := Option.some.inj ho
        obtain rfl := Option.some.inj hs
        have e1 : a.tmps.getD 1 undef = .pointer (some ⟨w.heap.size, 0, none⟩) := hb1
        exact wpOp_plain rfl rfl (u := .pointer (some ⟨w.heap.size, 2, none⟩)) (fun ρ hc hf ht => by have f1 := (ht 1).trans e1; clear ht; simp [go_sem, *]) ⟨_, rfl, rfl, Below.refl _ _⟩
      · obtain rfl := Option.some.inj ho
        obtain rfl := Option.some.inj hs
        have e16 : a.tmps.getD 16 undef = .pointer (some ⟨w.heap.size, 2, none⟩) := hdep 13 _ _ _ rfl rfl rfl (by kernel_rfl)
        exact wpOp_plain rfl rfl (u := .string pass) (fun ρ hc hf ht => by have f16 := (ht 16).trans e16; clear ht; have q0 := (KW.cell 2); simp [go_sem, *]) ⟨_, rfl, rfl, Below.refl _ _⟩
      · obtain rfl := Option.some.inj ho
        obtain rfl := Option.some.inj hs
        have e17 : a.tmps.getD 17 undef = .string pass := hdep 14 _ _ _ rfl rfl rfl (by kernel_rfl)
        refine wpOp_plain rfl rfl (u := .slice (some ⟨w2.heap.size, 0, none⟩) 2 2) (w' := w2.alloc (.cells ([⟨#[58]⟩, pass].map Value.string).toArray 9)) (fun ρ hc hf ht => by have f17 := (ht 17).trans e17; clear ht; simp [go_sem, *]) ⟨_, rfl, ⟨_, rfl, row_new _ _ _, by simp⟩, (Below.refl _ _).alloc (Nat.le_refl _) _⟩
      · obtain rfl := Option.some.inj ho
        obtain rfl := Option.some.inj hs
        have e15 : a.tmps.getD 15 undef = .bool (!ep) := hdep 12 _ _ _ rfl rfl rfl (by kernel_rfl)
        obtain ⟨g18, e18, r18, l18⟩ : Sp.ok w2 (a.tmps.getD 18 undef) (.row [⟨#[58]⟩, pass]) := hdep 15 _ _ _ rfl rfl rfl (by kernel_rfl)
        refine wpOp_calls (f := 36) (args := #[.bool (!ep), .slice (some ⟨g18, 0, none⟩) 2 2]) rfl rfl (fun ρ hc hf ht => by have f15 := (ht 15).trans e15; have f18 := (ht 18).trans e18; clear ht; simp [go_sem, *]) ?_
        exact (HW1.out w2 g18 l18 r18).mono fun e w' h => ⟨_, h.1, _, rfl, rfl, h.2⟩
      · obtain rfl := Option.some.inj ho
        obtain rfl := Option.some.inj hs
        have e12 : a.tmps.getD 12 undef = .string user := hdep 9 _ _ _ rfl rfl rfl (by kernel_rfl)
        have e19 : a.tmps.getD 19 undef = .string T1 := hdep 16 _ _ _ rfl rfl rfl (by kernel_rfl)
        refine wpOp_plain rfl rfl (u := .slice (some ⟨w2.heap.size, 0, none⟩) 3 3) (w' := w2.alloc (.cells ([user, T1, ⟨#[64]⟩].map Value.string).toArray 9)) (fun ρ hc hf ht => by have f12 := (ht 12).trans e12; have f19 := (ht 19).trans e19; clear ht; simp [go_sem, *]) ⟨_, rfl, ⟨_, rfl, row_new _ _ _, by simp⟩, (Below.refl _ _).alloc (Nat.le_refl _) _⟩
      · obtain rfl := Option.some.inj ho
        obtain rfl := Option.some.inj hs
        have e10 : a.tmps.getD 10 undef = .bool (!ep) := hdep 7 _ _ _ rfl rfl rfl (by kernel_rfl)
        obtain ⟨g20, e20, r20, l20⟩ : Sp.ok w2 (a.tmps.getD 20 undef) (.row [user, T1, ⟨#[64]⟩]) := hdep 17 _ _ _ rfl rfl rfl (by kernel_rfl)
        refine wpOp_calls (f := 36) (args := #[.bool (!ep), .slice (some ⟨g20, 0, none⟩) 3 3]) rfl rfl (fun ρ hc hf ht => by have f10 := (ht 10).trans e10; have f20 := (ht 20).trans e20; clear ht; simp [go_sem, *]) ?_
        exact (HW2.out w2 g20 l20 r20).mono fun e w' h => ⟨_, h.1, _, rfl, rfl, h.2⟩
      · obtain rfl := Option.some.inj ho
        obtain rfl := Option.some.inj hs
        have e1 : a.tmps.getD 1 undef = .pointer (some ⟨w.heap.size, 0, none⟩) := hb1
        exact wpOp_plain rfl rfl (u := .pointer (some ⟨w.heap.size, 3, none⟩)) (fun ρ hc hf ht => by have f1 := (ht 1).trans e1; clear ht; simp [go_sem, *]) ⟨_, rfl, rfl, Below.refl _ _⟩
      · obtain rfl := Option.some.inj ho
        obtain rfl := Option.some.inj hs
        have e22 : a.tmps.getD 22 undef = .pointer (some ⟨w.heap.size, 3, none⟩) := hdep 19 _ _ _ rfl rfl rfl (by kernel_rfl)
        exact wpOp_plain rfl rfl (u := .agg #[.int .i64 k, .string nm, .int .u32 v4, .int .u16 a0, .int .u16 a1, .int .u16 a2, .int .u16 a3, .int .u16 a4, .int .u16 a5, .int .u16 a6, .int .u16 a7]) (fun ρ hc hf ht => by have f22 := (ht 22).trans e22; clear ht; have q0 := (KW.cell 3); have q1 := (KW.cell 4); have q2 := (KW.cell 5); have q3 := (KW.cell 6); have q4 := (KW.cell 7); have q5 := (KW.cell 8); have q6 := (KW.cell 9); have q7 := (KW.cell 10); have q8 := (KW.cell 11); have q9 := (KW.cell 12); have q10 := (KW.cell 13); simp [go_sem, *]) ⟨_, rfl, rfl, Below.refl _ _⟩
      · obtain rfl := Option.some.inj ho
        obtain rfl := Option.some.inj hs
        have e23 : a.tmps.getD 23 undef = .agg #[.int .i64 k, .string nm, .int .u32 v4, .int .u16 a0, .int .u16 a1, .int .u16 a2, .int .u16 a3, .int .u16 a4, .int .u16 a5, .int .u16 a6, .int .u16 a7] := hdep 20 _ _ _ rfl rfl rfl (by kernel_rfl)
        refine wpOp_calls (f := 47) (args := #[.agg #[.int .i64 k, .string nm, .int .u32 v4, .int .u16 a0, .int .u16 a1, .int .u16 a2, .int .u16 a3, .int .u16 a4, .int .u16 a5, .int .u16 a6, .int .u16 a7]]) rfl rfl (fun ρ hc hf ht => by have f23 := (ht 23).trans e23; clear ht; simp [go_sem, *]) ?_
        exact (HH.out w2 (HF.out.keep (belowOn HB.out HB.out.size hbe))).mono fun e w' h => ⟨_, h.1, _, rfl, rfl, h.2⟩
      · obtain rfl := Option.some.inj ho
        obtain rfl := Option.some.inj hs
        have e21 : a.tmps.getD 21 undef = .string T2 := hdep 18 _ _ _ rfl rfl rfl (by kernel_rfl)
        have e24 : a.tmps.getD 24 undef = .string T3 := hdep 21 _ _ _ rfl rfl rfl (by kernel_rfl)
        exact wpOp_plain rfl rfl (u := .string (T2 ++ T3)) (fun ρ hc hf ht => by have f21 := (ht 21).trans e21; have f24 := (ht 24).trans e24; clear ht; have q0 := s1; simp [go_sem, *]) ⟨_, rfl, rfl, Below.refl _ _⟩
      · obtain rfl := Option.some.inj ho
        obtain rfl := Option.some.inj hs
        have e1 : a.tmps.getD 1 undef = .pointer (some ⟨w.heap.size, 0, none⟩) := hb1
        exact wpOp_plain rfl rfl (u := .pointer (some ⟨w.heap.size, 14, none⟩)) (fun ρ hc hf ht => by have f1 := (ht 1).trans e1; clear ht; simp [go_sem, *]) ⟨_, rfl, rfl, Below.refl _ _⟩
      · obtain rfl := Option.some.inj ho
        obtain rfl := Option.some.inj hs
        have e26 : a.tmps.getD 26 undef = .pointer (some ⟨w.heap.size, 14, none⟩) := hdep 23 _ _ _ rfl rfl rfl (by kernel_rfl)
        exact wpOp_plain rfl rfl (u := .int .i64 port) (fun ρ hc hf ht => by have f26 := (ht 26).trans e26; clear ht; have q0 := (KW.cell 14); simp [go_sem, *]) ⟨_, rfl, rfl, Below.refl _ _⟩
      · obtain rfl := Option.some.inj ho
        obtain rfl := Option.some.inj hs
        have e27 : a.tmps.getD 27 undef = .int .i64 port := hdep 24 _ _ _ rfl rfl rfl (by kernel_rfl)
        exact wpOp_plain rfl rfl (u := .bool pp) (fun ρ hc hf ht => by have f27 := (ht 27).trans e27; clear ht; have q0 := hpp; simp [go_sem, *]) ⟨_, rfl, rfl, Below.refl _ _⟩
      · obtain rfl := Option.some.inj ho
        obtain rfl := Option.some.inj hs
        have e1 : a.tmps.getD 1 undef = .pointer (some ⟨w.heap.size, 0, none⟩) := hb1
        exact wpOp_plain rfl rfl (u := .pointer (some ⟨w.heap.size, 14, none⟩)) (fun ρ hc hf ht => by have f1 := (ht 1).trans e1; clear ht; simp [go_sem, *]) ⟨_, rfl, rfl, Below.refl _ _⟩
      · obtain rfl := Option.some.inj ho
        obtain rfl := Option.some.inj hs
        have e29 : a.tmps.getD 29 undef = .pointer (some ⟨w.heap.size, 14, none⟩) := hdep 26 _ _ _ rfl rfl rfl (by kernel_rfl)
        exact wpOp_plain rfl rfl (u := .int .i64 port) (fun ρ hc hf ht => by have f29 := (ht 29).trans e29; clear ht; have q0 := (KW.cell 14); simp [go_sem, *]) ⟨_, rfl, rfl, Below.refl _ _⟩
      · obtain rfl := Option.some.inj ho
        obtain rfl := Option.some.inj hs
        have e30 : a.tmps.getD 30 undef = .int .i64 port := hdep 27 _ _ _ rfl rfl rfl (by kernel_rfl)
        refine wpOp_calls (f := 51) (args := #[.int .i64 port]) rfl rfl (fun ρ hc hf ht => by have f30 := (ht 30).trans e30; clear ht; simp [go_sem, *]) ?_
        exact (HI.out w2 (HF.out.keep (belowOn HB.out HB.out.size hbe))).mono fun e w' h => ⟨_, h.1, _, rfl, rfl, itoa_below h.2⟩
      · obtain rfl := Option.some.inj ho
        obtain rfl := Option.some.inj hs
        have e31 : a.tmps.getD 31 undef = .string T4 := hdep 28 _ _ _ rfl rfl rfl (by kernel_rfl)
        refine wpOp_plain rfl rfl (u := .slice (some ⟨w2.heap.size, 0, none⟩) 2 2) (w' := w2.alloc (.cells ([⟨#[58]⟩, T4].map Value.string).toArray 9)) (fun ρ hc hf ht => by have f31 := (ht 31).trans e31; clear ht; simp [go_sem, *]) ⟨_, rfl, ⟨_, rfl, row_new _ _ _, by simp⟩, (Below.refl _ _).alloc (Nat.le_refl _) _⟩
      · obtain rfl := Option.some.inj ho
        obtain rfl := Option.some.inj hs
        have e28 : a.tmps.getD 28 undef = .bool pp := hdep 25 _ _ _ rfl rfl rfl (by kernel_rfl)
        obtain ⟨g32, e32, r32, l32⟩ : Sp.ok w2 (a.tmps.getD 32 undef) (.row [⟨#[58]⟩, T4]) := hdep 29 _ _ _ rfl rfl rfl (by kernel_rfl)
        refine wpOp_calls (f := 36) (args := #[.bool pp, .slice (some ⟨g32, 0, none⟩) 2 2]) rfl rfl (fun ρ hc hf ht => by have f28 := (ht 28).trans e28; have f32 := (ht 32).trans e32; clear ht; simp [go_sem, *]) ?_
        exact (HW5.out w2 g32 l32 r32).mono fun e w' h => ⟨_, h.1, _, rfl, rfl, h.2⟩
      · obtain rfl := Option.some.inj ho
        obtain rfl := Option.some.inj hs
        have e25 : a.tmps.getD 25 undef = .string (T2 ++ T3) := hdep 22 _ _ _ rfl rfl rfl (by kernel_rfl)
        have e33 : a.tmps.getD 33 undef = .string T5 := hdep 30 _ _ _ rfl rfl rfl (by kernel_rfl)
        exact wpOp_plain rfl rfl (u := .string (T2 ++ T3 ++ T5)) (fun ρ hc hf ht => by have f25 := (ht 25).trans e25; have f33 := (ht 33).trans e33; clear ht; have q0 := s2; simp [go_sem, *]) ⟨_, rfl, rfl, Below.refl _ _⟩
      · obtain rfl := Option.some.inj ho
        obtain rfl := Option.some.inj hs
        have e34 : a.tmps.getD 34 undef = .string (T2 ++ T3 ++ T5) := hdep 31 _ _ _ rfl rfl rfl (by kernel_rfl)
        exact wpOp_plain rfl rfl (u := .string (T2 ++ T3 ++ T5)) (fun ρ hc hf ht => by have f34 := (ht 34).trans e34; clear ht; simp [go_sem, *]) ⟨_, rfl, rfl, Below.refl _ _⟩
    · intro a w2 hall hdef hbe
      have er : a.tmps.getD 2 undef = .string (T2 ++ T3 ++ T5) := hall 32 _ _ _ rfl rfl rfl
      rename_i Q9 K9 hK9
      refine hK9 _ _ (wp_ret ?_)
      refine bodyPost_ret (results_tmp (t := 2) rfl a.tmps _ w2) hdef ?_
      rw [er]
      exact ⟨rfl, belowOn HB.out HB.out.size hbe⟩
end Go.Proofs.YtgljkgkmbfhgiaaDoor
