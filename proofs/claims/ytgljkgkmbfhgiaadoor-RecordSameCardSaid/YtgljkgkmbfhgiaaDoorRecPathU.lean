/- record.Path, the reference's. -/
import Derived.Test.YtgljkgkmbfhgiaaDoorRecAuth
set_option linter.unusedVariables false
set_option linter.unusedSimpArgs false
set_option maxRecDepth 100000
namespace Go.Proofs.YtgljkgkmbfhgiaaDoor
open Go.RowKit Four Six Rec

set_option maxHeartbeats 4000000 in
theorem pathU_calls (u : UrlV) (A : Option Addr) (c : Nat) (hs : u.short) (w : World) (hr : RowAt textC 1 w A u.path) (hc : u.path.length ≤ c) : Calls Tryd.prog 17 #[.agg (u.cells A c).toArray] w fun e w' => e = .returned (.string (mkB (pathU u))) ∧ Below w.heap.size w w' := by
  rw [cells_u]
  have hp1 := hs.path
  have hp2 := hs.len
  clear hs
  obtain ⟨scheme, user, pass, ⟨k, nm, v4, a0, a1, a2, a3, a4, a5, a6, a7⟩, port, opq, path, hasq, query, hasf, frag⟩ := u
  simp only at hp1 hp2 hr hc ⊢
  rcases opq with _ | _
  · have HP := Lib.hid (fun (W : World) (hb : Below w.heap.size w W) => path_calls A c path W (hr.keep hb) hc hp2 hp1)
    have HT := Lib.hid (show pathU ⟨scheme, user, pass, ⟨k, nm, v4, a0, a1, a2, a3, a4, a5, a6, a7⟩, port, false, path, hasq, query, hasf, frag⟩ = pathT path from rfl)
    rw [HT.out]
    clear hp1 hp2 hr hc HT
    go_enter Tryd.func17, Tryd.ntmps17
    go_wp2_with fail
    refine (HP.out _ ((Below.refl _ _).alloc (Nat.le_refl _) _)).mono ?_
    rintro e w1 ⟨rfl, hb⟩
    have H1 := Lib.hid (belowOn ((Below.refl w.heap.size w).alloc (Nat.le_refl _) _) (by simp) hb)
    clear hb
    go_wp2_with fail
    go_ret
    exact ⟨rfl, H1.out⟩
  · cases path with
    | nil =>
      have HT := Lib.hid (show mkB (pathU ⟨scheme, user, pass, ⟨k, nm, v4, a0, a1, a2, a3, a4, a5, a6, a7⟩, port, true, [], hasq, query, hasf, frag⟩) = ⟨#[]⟩ from rfl)
      rw [HT.out]
      clear hp1 hp2 hr hc HT
      go_enter Tryd.func17, Tryd.ntmps17
      go_wp2_with fail
      go_ret
      exact ⟨rfl, (Below.refl _ _).alloc (Nat.le_refl _) _⟩
    | cons s l =>
      have HT := Lib.hid (show mkB (pathU ⟨scheme, user, pass, ⟨k, nm, v4, a0, a1, a2, a3, a4, a5, a6, a7⟩, port, true, s :: l, hasq, query, hasf, frag⟩) = s from mkB_of s)
      rw [HT.out]
      obtain ⟨b, off, rfl, hcell⟩ := hr 0 s rfl
      have h0 : w.cell? ⟨b, off, none⟩ = some (.string s) := by simpa using hcell 0 (.string s) rfl
      have hc0 : ∀ o, (w.alloc o).cell? ⟨b, off, none⟩ = some (.string s) := fun o => (((Below.refl w.heap.size w).alloc (Nat.le_refl _) o).cell (p := ⟨b, off, none⟩) (World.block_lt_of_cell? w _ h0)).trans h0
      obtain ⟨n, hn⟩ : ∃ n, n = (s :: l).length := ⟨_, rfl⟩
      have hn1 : ((n : Int) == 0) = false := by rw [hn, List.length_cons]; simp only [beq_eq_false_iff_ne, ne_eq]; omega
      have hn2 : (0 : Int) < (n : Int) := by rw [hn, List.length_cons]; omega
      rw [← hn]
      clear hp1 hp2 hr hc HT hcell hn h0
      go_enter Tryd.func17, Tryd.ntmps17
      go_wp2_with fail
      go_ret
      exact ⟨rfl, (Below.refl _ _).alloc (Nat.le_refl _) _⟩
set_option maxHeartbeats 4000000 in
theorem refpathU_calls (u : UrlV) (A : Option Addr) (c : Nat) (hs : u.short) (w : World) (hr : RowAt textC 1 w A u.path) (hc : u.path.length ≤ c) : Calls Tryd.prog 18 #[.agg (u.cells A c).toArray] w fun e w' => e = .returned (.string (mkB (pathU u))) ∧ Below w.heap.size w w' := by
  rw [cells_u]
  have hp1 := hs.path
  have hp2 := hs.len
  clear hs
  obtain ⟨scheme, user, pass, ⟨k, nm, v4, a0, a1, a2, a3, a4, a5, a6, a7⟩, port, opq, path, hasq, query, hasf, frag⟩ := u
  simp only at hp1 hp2 hr hc ⊢
  rcases opq with _ | _
  · have HP := Lib.hid (fun (W : World) (hb : Below w.heap.size w W) => refpath_calls A c path W (hr.keep hb) hc hp2 hp1)
    have HT := Lib.hid (show pathU ⟨scheme, user, pass, ⟨k, nm, v4, a0, a1, a2, a3, a4, a5, a6, a7⟩, port, false, path, hasq, query, hasf, frag⟩ = pathT path from rfl)
    rw [HT.out]
    clear hp1 hp2 hr hc HT
    go_enter Tryd.func18, Tryd.ntmps18
    go_wp2_with fail
    refine (HP.out _ ((Below.refl _ _).alloc (Nat.le_refl _) _)).mono ?_
    rintro e w1 ⟨rfl, hb⟩
    have H1 := Lib.hid (belowOn ((Below.refl w.heap.size w).alloc (Nat.le_refl _) _) (by simp) hb)
    clear hb
    go_wp2_with fail
    go_ret
    exact ⟨rfl, H1.out⟩
  · cases path with
    | nil =>
      have HT := Lib.hid (show mkB (pathU ⟨scheme, user, pass, ⟨k, nm, v4, a0, a1, a2, a3, a4, a5, a6, a7⟩, port, true, [], hasq, query, hasf, frag⟩) = ⟨#[]⟩ from rfl)
      rw [HT.out]
      clear hp1 hp2 hr hc HT
      go_enter Tryd.func18, Tryd.ntmps18
      go_wp2_with fail
      go_ret
      exact ⟨rfl, (Below.refl _ _).alloc (Nat.le_refl _) _⟩
    | cons s l =>
      have HT := Lib.hid (show mkB (pathU ⟨scheme, user, pass, ⟨k, nm, v4, a0, a1, a2, a3, a4, a5, a6, a7⟩, port, true, s :: l, hasq, query, hasf, frag⟩) = s from mkB_of s)
      rw [HT.out]
      obtain ⟨b, off, rfl, hcell⟩ := hr 0 s rfl
      have h0 : w.cell? ⟨b, off, none⟩ = some (.string s) := by simpa using hcell 0 (.string s) rfl
      have hc0 : ∀ o, (w.alloc o).cell? ⟨b, off, none⟩ = some (.string s) := fun o => (((Below.refl w.heap.size w).alloc (Nat.le_refl _) o).cell (p := ⟨b, off, none⟩) (World.block_lt_of_cell? w _ h0)).trans h0
      obtain ⟨n, hn⟩ : ∃ n, n = (s :: l).length := ⟨_, rfl⟩
      have hn1 : ((n : Int) == 0) = false := by rw [hn, List.length_cons]; simp only [beq_eq_false_iff_ne, ne_eq]; omega
      have hn2 : (0 : Int) < (n : Int) := by rw [hn, List.length_cons]; omega
      rw [← hn]
      clear hp1 hp2 hr hc HT hcell hn h0
      go_enter Tryd.func18, Tryd.ntmps18
      go_wp2_with fail
      go_ret
      exact ⟨rfl, (Below.refl _ _).alloc (Nat.le_refl _) _⟩
end Go.Proofs.YtgljkgkmbfhgiaaDoor
