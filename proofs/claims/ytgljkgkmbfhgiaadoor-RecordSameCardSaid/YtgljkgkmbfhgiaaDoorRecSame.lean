/- URLs compared: record.Same, the reference's. -/
import Derived.Test.YtgljkgkmbfhgiaaDoorRecHostEq
import Derived.Test.YtgljkgkmbfhgiaaDoorRecPathU
set_option linter.unusedVariables false
set_option linter.unusedSimpArgs false
set_option maxRecDepth 100000
namespace Go.Proofs.YtgljkgkmbfhgiaaDoor
open Go.RowKit Rec

def sameV (a b : UrlV) : Bool := decide (a.scheme = b.scheme) && (decide (a.user = b.user) && (decide (a.pass = b.pass) && (sameHV a.h b.h && (decide (a.port = b.port) && (decide (a.hasq = b.hasq) && (decide (a.query = b.query) && (decide (a.hasf = b.hasf) && (decide (a.frag = b.frag) && (decide (a.opq = b.opq) && decide (a.path = b.path))))))))))
theorem sameV_iff {a b : UrlV} : sameV a b = true ↔ a = b := by
  unfold sameV
  simp only [Bool.and_eq_true, decide_eq_true_eq, sameHV_iff]
  constructor
  · rintro ⟨h1, h2, h3, h4, h5, h6, h7, h8, h9, h10, h11⟩
    obtain ⟨s, u, p, h, q, o, l, x, y, z, t⟩ := a
    obtain ⟨s', u', p', h', q', o', l', x', y', z', t'⟩ := b
    simp only at h1 h2 h3 h4 h5 h6 h7 h8 h9 h10 h11
    subst h1 h2 h3 h4 h5 h6 h7 h8 h9 h10 h11
    rfl
  · rintro rfl; exact ⟨rfl, rfl, rfl, rfl, rfl, rfl, rfl, rfl, rfl, rfl, rfl⟩
theorem beq_int (a b : Int) : (a == b) = decide (a = b) := by rw [Bool.eq_iff_iff]; simp
theorem beq_bool (a b : Bool) : (a == b) = decide (a = b) := by cases a <;> cases b <;> rfl

set_option maxHeartbeats 16000000 in
theorem same_callsW (a b : UrlV) (A : Option Addr) (c : Nat) (A' : Option Addr) (c' : Nat) (ha : a.ok) (hb : b.ok) (sl : a.path.length ≤ 20) (na : a.h.name.size ≤ 100) (nb : b.h.name.size ≤ 100) (w : World) (h : RowAt textC 1 w A a.path) (h' : RowAt textC 1 w A' b.path) (hc : a.path.length ≤ c) (hc' : b.path.length ≤ c') :
    Calls Tryd.prog 19 #[.agg (a.cells A c).toArray, .agg (b.cells A' c').toArray] w fun e w' => e = .returned (.bool (sameV a b)) ∧ Below w.heap.size w w' := by
  have HA := Lib.hid (fun (W : World) (hw : Below w.heap.size w W) => alike_calls A c a.path A' c' b.path W (h.keep hw) (h'.keep hw) (by omega) hc hc')
  have hh := host_eq a.h b.h ha.h hb.h na nb
  rw [cells_h, cells_h] at hh
  have HS := Lib.hid (show sameV a b = sameV a b from rfl)
  generalize hsv : sameV a b = sv
  unfold sameV at hsv
  rw [cells_u, cells_u]
  clear ha hb sl na nb h h' hc hc' HS
  obtain ⟨scheme, user, pass, ⟨k, nm, v, a0, a1, a2, a3, a4, a5, a6, a7⟩, port, opq, path, hasq, query, hasf, frag⟩ := a
  obtain ⟨scheme', user', pass', ⟨k', nm', v', b0, b1, b2, b3, b4, b5, b6, b7⟩, port', opq', path', hasq', query', hasf', frag'⟩ := b
  simp only at HA hh hsv ⊢
  obtain ⟨e1, he1⟩ : ∃ e, e = decide (scheme = scheme') := ⟨_, rfl⟩
  obtain ⟨e2, he2⟩ : ∃ e, e = decide (user = user') := ⟨_, rfl⟩
  obtain ⟨e3, he3⟩ : ∃ e, e = decide (pass = pass') := ⟨_, rfl⟩
  obtain ⟨e4, he4⟩ : ∃ e, e = sameHV ⟨k, nm, v, a0, a1, a2, a3, a4, a5, a6, a7⟩ ⟨k', nm', v', b0, b1, b2, b3, b4, b5, b6, b7⟩ := ⟨_, rfl⟩
  obtain ⟨e5, he5⟩ : ∃ e, e = decide (port = port') := ⟨_, rfl⟩
  obtain ⟨e6, he6⟩ : ∃ e, e = decide (hasq = hasq') := ⟨_, rfl⟩
  obtain ⟨e7, he7⟩ : ∃ e, e = decide (query = query') := ⟨_, rfl⟩
  obtain ⟨e8, he8⟩ : ∃ e, e = decide (hasf = hasf') := ⟨_, rfl⟩
  obtain ⟨e9, he9⟩ : ∃ e, e = decide (frag = frag') := ⟨_, rfl⟩
  obtain ⟨e10, he10⟩ : ∃ e, e = decide (opq = opq') := ⟨_, rfl⟩
  obtain ⟨ep, hep⟩ : ∃ e, e = decide (path = path') := ⟨_, rfl⟩
  rw [← he1, ← he2, ← he3, ← he4, ← he5, ← he6, ← he7, ← he8, ← he9, ← he10, ← hep] at hsv
  rw [← he4] at hh
  rw [← hep] at HA
  have c1 : (scheme.toList == scheme'.toList) = e1 := by rw [he1]; exact same_text
  have d1 : (scheme.toList != scheme'.toList) = !e1 := by rw [← c1]; rfl
  have c2 : (user.toList == user'.toList) = e2 := by rw [he2]; exact same_text
  have d2 : (user.toList != user'.toList) = !e2 := by rw [← c2]; rfl
  have c3 : (pass.toList == pass'.toList) = e3 := by rw [he3]; exact same_text
  have d3 : (pass.toList != pass'.toList) = !e3 := by rw [← c3]; rfl
  have c5 : (port == port') = e5 := by rw [he5]; exact beq_int _ _
  have d5 : (port != port') = !e5 := by rw [← c5]; rfl
  have c6 : (hasq == hasq') = e6 := by rw [he6]; exact beq_bool _ _
  have d6 : (hasq != hasq') = !e6 := by rw [← c6]; rfl
  have c7 : (query.toList == query'.toList) = e7 := by rw [he7]; exact same_text
  have d7 : (query.toList != query'.toList) = !e7 := by rw [← c7]; rfl
  have c8 : (hasf == hasf') = e8 := by rw [he8]; exact beq_bool _ _
  have d8 : (hasf != hasf') = !e8 := by rw [← c8]; rfl
  have c9 : (frag.toList == frag'.toList) = e9 := by rw [he9]; exact same_text
  have d9 : (frag.toList != frag'.toList) = !e9 := by rw [← c9]; rfl
  have c10 : (opq == opq') = e10 := by rw [he10]; exact beq_bool _ _
  have d10 : (opq != opq') = !e10 := by rw [← c10]; rfl
  have HV := Lib.hid hsv
  clear he1 he2 he3 he4 he5 he6 he7 he8 he9 he10 hep hsv
  rcases e1 with _ | _
  · rcases e6 with _ | _
    · · as_aux_lemma =>
        go_enter Tryd.func19, Tryd.ntmps19
        go_wp2_with fail
        go_ret
        exact ⟨by rw [← HV.out]; first | rfl | simp, (((Below.refl w.heap.size w).alloc (Nat.le_refl _) _).alloc (by simp) _)⟩
    · rcases e7 with _ | _
      · · as_aux_lemma =>
          go_enter Tryd.func19, Tryd.ntmps19
          go_wp2_with fail
          go_ret
          exact ⟨by rw [← HV.out]; first | rfl | simp, (((Below.refl w.heap.size w).alloc (Nat.le_refl _) _).alloc (by simp) _)⟩
      · rcases e8 with _ | _
        · · as_aux_lemma =>
            go_enter Tryd.func19, Tryd.ntmps19
            go_wp2_with fail
            go_ret
            exact ⟨by rw [← HV.out]; first | rfl | simp, (((Below.refl w.heap.size w).alloc (Nat.le_refl _) _).alloc (by simp) _)⟩
        · rcases e9 with _ | _
          · · as_aux_lemma =>
              go_enter Tryd.func19, Tryd.ntmps19
              go_wp2_with fail
              go_ret
              exact ⟨by rw [← HV.out]; first | rfl | simp, (((Below.refl w.heap.size w).alloc (Nat.le_refl _) _).alloc (by simp) _)⟩
          · · as_aux_lemma =>
              go_enter Tryd.func19, Tryd.ntmps19
              go_wp2_with fail
              go_ret
              exact ⟨by rw [← HV.out]; first | rfl | simp, (((Below.refl w.heap.size w).alloc (Nat.le_refl _) _).alloc (by simp) _)⟩
  · rcases e2 with _ | _
    · rcases e6 with _ | _
      · · as_aux_lemma =>
          go_enter Tryd.func19, Tryd.ntmps19
          go_wp2_with fail
          go_ret
          exact ⟨by rw [← HV.out]; first | rfl | simp, (((Below.refl w.heap.size w).alloc (Nat.le_refl _) _).alloc (by simp) _)⟩
      · rcases e7 with _ | _
        · · as_aux_lemma =>
            go_enter Tryd.func19, Tryd.ntmps19
            go_wp2_with fail
            go_ret
            exact ⟨by rw [← HV.out]; first | rfl | simp, (((Below.refl w.heap.size w).alloc (Nat.le_refl _) _).alloc (by simp) _)⟩
        · rcases e8 with _ | _
          · · as_aux_lemma =>
              go_enter Tryd.func19, Tryd.ntmps19
              go_wp2_with fail
              go_ret
              exact ⟨by rw [← HV.out]; first | rfl | simp, (((Below.refl w.heap.size w).alloc (Nat.le_refl _) _).alloc (by simp) _)⟩
          · rcases e9 with _ | _
            · · as_aux_lemma =>
                go_enter Tryd.func19, Tryd.ntmps19
                go_wp2_with fail
                go_ret
                exact ⟨by rw [← HV.out]; first | rfl | simp, (((Below.refl w.heap.size w).alloc (Nat.le_refl _) _).alloc (by simp) _)⟩
            · · as_aux_lemma =>
                go_enter Tryd.func19, Tryd.ntmps19
                go_wp2_with fail
                go_ret
                exact ⟨by rw [← HV.out]; first | rfl | simp, (((Below.refl w.heap.size w).alloc (Nat.le_refl _) _).alloc (by simp) _)⟩
    · rcases e3 with _ | _
      · rcases e6 with _ | _
        · · as_aux_lemma =>
            go_enter Tryd.func19, Tryd.ntmps19
            go_wp2_with fail
            go_ret
            exact ⟨by rw [← HV.out]; first | rfl | simp, (((Below.refl w.heap.size w).alloc (Nat.le_refl _) _).alloc (by simp) _)⟩
        · rcases e7 with _ | _
          · · as_aux_lemma =>
              go_enter Tryd.func19, Tryd.ntmps19
              go_wp2_with fail
              go_ret
              exact ⟨by rw [← HV.out]; first | rfl | simp, (((Below.refl w.heap.size w).alloc (Nat.le_refl _) _).alloc (by simp) _)⟩
          · rcases e8 with _ | _
            · · as_aux_lemma =>
                go_enter Tryd.func19, Tryd.ntmps19
                go_wp2_with fail
                go_ret
                exact ⟨by rw [← HV.out]; first | rfl | simp, (((Below.refl w.heap.size w).alloc (Nat.le_refl _) _).alloc (by simp) _)⟩
            · rcases e9 with _ | _
              · · as_aux_lemma =>
                  go_enter Tryd.func19, Tryd.ntmps19
                  go_wp2_with fail
                  go_ret
                  exact ⟨by rw [← HV.out]; first | rfl | simp, (((Below.refl w.heap.size w).alloc (Nat.le_refl _) _).alloc (by simp) _)⟩
              · · as_aux_lemma =>
                  go_enter Tryd.func19, Tryd.ntmps19
                  go_wp2_with fail
                  go_ret
                  exact ⟨by rw [← HV.out]; first | rfl | simp, (((Below.refl w.heap.size w).alloc (Nat.le_refl _) _).alloc (by simp) _)⟩
      · rcases e4 with _ | _
        · rcases e6 with _ | _
          · · as_aux_lemma =>
              go_enter Tryd.func19, Tryd.ntmps19
              go_wp2_with fail
              go_ret
              exact ⟨by rw [← HV.out]; first | rfl | simp, (((Below.refl w.heap.size w).alloc (Nat.le_refl _) _).alloc (by simp) _)⟩
          · rcases e7 with _ | _
            · · as_aux_lemma =>
                go_enter Tryd.func19, Tryd.ntmps19
                go_wp2_with fail
                go_ret
                exact ⟨by rw [← HV.out]; first | rfl | simp, (((Below.refl w.heap.size w).alloc (Nat.le_refl _) _).alloc (by simp) _)⟩
            · rcases e8 with _ | _
              · · as_aux_lemma =>
                  go_enter Tryd.func19, Tryd.ntmps19
                  go_wp2_with fail
                  go_ret
                  exact ⟨by rw [← HV.out]; first | rfl | simp, (((Below.refl w.heap.size w).alloc (Nat.le_refl _) _).alloc (by simp) _)⟩
              · rcases e9 with _ | _
                · · as_aux_lemma =>
                    go_enter Tryd.func19, Tryd.ntmps19
                    go_wp2_with fail
                    go_ret
                    exact ⟨by rw [← HV.out]; first | rfl | simp, (((Below.refl w.heap.size w).alloc (Nat.le_refl _) _).alloc (by simp) _)⟩
                · · as_aux_lemma =>
                    go_enter Tryd.func19, Tryd.ntmps19
                    go_wp2_with fail
                    go_ret
                    exact ⟨by rw [← HV.out]; first | rfl | simp, (((Below.refl w.heap.size w).alloc (Nat.le_refl _) _).alloc (by simp) _)⟩
        · rcases e5 with _ | _
          · rcases e6 with _ | _
            · · as_aux_lemma =>
                go_enter Tryd.func19, Tryd.ntmps19
                go_wp2_with fail
                go_ret
                exact ⟨by rw [← HV.out]; first | rfl | simp, (((Below.refl w.heap.size w).alloc (Nat.le_refl _) _).alloc (by simp) _)⟩
            · rcases e7 with _ | _
              · · as_aux_lemma =>
                  go_enter Tryd.func19, Tryd.ntmps19
                  go_wp2_with fail
                  go_ret
                  exact ⟨by rw [← HV.out]; first | rfl | simp, (((Below.refl w.heap.size w).alloc (Nat.le_refl _) _).alloc (by simp) _)⟩
              · rcases e8 with _ | _
                · · as_aux_lemma =>
                    go_enter Tryd.func19, Tryd.ntmps19
                    go_wp2_with fail
                    go_ret
                    exact ⟨by rw [← HV.out]; first | rfl | simp, (((Below.refl w.heap.size w).alloc (Nat.le_refl _) _).alloc (by simp) _)⟩
                · rcases e9 with _ | _
                  · · as_aux_lemma =>
                      go_enter Tryd.func19, Tryd.ntmps19
                      go_wp2_with fail
                      go_ret
                      exact ⟨by rw [← HV.out]; first | rfl | simp, (((Below.refl w.heap.size w).alloc (Nat.le_refl _) _).alloc (by simp) _)⟩
                  · · as_aux_lemma =>
                      go_enter Tryd.func19, Tryd.ntmps19
                      go_wp2_with fail
                      go_ret
                      exact ⟨by rw [← HV.out]; first | rfl | simp, (((Below.refl w.heap.size w).alloc (Nat.le_refl _) _).alloc (by simp) _)⟩
          · rcases e6 with _ | _
            · · as_aux_lemma =>
                go_enter Tryd.func19, Tryd.ntmps19
                go_wp2_with fail
                go_ret
                exact ⟨by rw [← HV.out]; first | rfl | simp, (((Below.refl w.heap.size w).alloc (Nat.le_refl _) _).alloc (by simp) _)⟩
            · rcases e7 with _ | _
              · · as_aux_lemma =>
                  go_enter Tryd.func19, Tryd.ntmps19
                  go_wp2_with fail
                  go_ret
                  exact ⟨by rw [← HV.out]; first | rfl | simp, (((Below.refl w.heap.size w).alloc (Nat.le_refl _) _).alloc (by simp) _)⟩
              · rcases e8 with _ | _
                · · as_aux_lemma =>
                    go_enter Tryd.func19, Tryd.ntmps19
                    go_wp2_with fail
                    go_ret
                    exact ⟨by rw [← HV.out]; first | rfl | simp, (((Below.refl w.heap.size w).alloc (Nat.le_refl _) _).alloc (by simp) _)⟩
                · rcases e9 with _ | _
                  · · as_aux_lemma =>
                      go_enter Tryd.func19, Tryd.ntmps19
                      go_wp2_with fail
                      go_ret
                      exact ⟨by rw [← HV.out]; first | rfl | simp, (((Below.refl w.heap.size w).alloc (Nat.le_refl _) _).alloc (by simp) _)⟩
                  · rcases e10 with _ | _
                    · · as_aux_lemma =>
                        go_enter Tryd.func19, Tryd.ntmps19
                        go_wp2_with fail
                        go_ret
                        exact ⟨by rw [← HV.out]; first | rfl | simp, (((Below.refl w.heap.size w).alloc (Nat.le_refl _) _).alloc (by simp) _)⟩
                    · · as_aux_lemma =>
                        go_enter Tryd.func19, Tryd.ntmps19
                        go_wp2_with fail
                        refine (HA.out _ (((Below.refl w.heap.size w).alloc (Nat.le_refl _) _).alloc (by simp) _)).mono ?_
                        rintro e w1 ⟨rfl, hb⟩
                        have H1 := Lib.hid (belowOn (((Below.refl w.heap.size w).alloc (Nat.le_refl _) _).alloc (by simp) _) (by simp; omega) hb)
                        clear hb
                        go_wp2_with fail
                        go_ret
                        exact ⟨by rw [← HV.out]; first | rfl | simp, H1.out⟩
theorem same_calls (a b : UrlV) (A : Option Addr) (c : Nat) (A' : Option Addr) (c' : Nat) (ha : a.ok) (hb : b.ok) (sa : a.short) (sb : b.short) (w : World) (h : RowAt textC 1 w A a.path) (h' : RowAt textC 1 w A' b.path) (hc : a.path.length ≤ c) (hc' : b.path.length ≤ c') :
    Calls Tryd.prog 19 #[.agg (a.cells A c).toArray, .agg (b.cells A' c').toArray] w fun e w' => e = .returned (.bool (sameV a b)) ∧ Below w.heap.size w w' :=
  same_callsW a b A c A' c' ha hb sa.len sa.name sb.name w h h' hc hc'
set_option maxHeartbeats 16000000 in
theorem refsame_callsW (a b : UrlV) (A : Option Addr) (c : Nat) (A' : Option Addr) (c' : Nat) (ha : a.ok) (hb : b.ok) (sl : a.path.length ≤ 20) (na : a.h.name.size ≤ 100) (nb : b.h.name.size ≤ 100) (w : World) (h : RowAt textC 1 w A a.path) (h' : RowAt textC 1 w A' b.path) (hc : a.path.length ≤ c) (hc' : b.path.length ≤ c') :
    Calls Tryd.prog 20 #[.agg (a.cells A c).toArray, .agg (b.cells A' c').toArray] w fun e w' => e = .returned (.bool (sameV a b)) ∧ Below w.heap.size w w' := by
  have HA := Lib.hid (fun (W : World) (hw : Below w.heap.size w W) => same11_calls A c a.path A' c' b.path W (h.keep hw) (h'.keep hw) (by omega) hc hc')
  have hh := host_eq a.h b.h ha.h hb.h na nb
  rw [cells_h, cells_h] at hh
  have HS := Lib.hid (show sameV a b = sameV a b from rfl)
  generalize hsv : sameV a b = sv
  unfold sameV at hsv
  rw [cells_u, cells_u]
  clear ha hb sl na nb h h' hc hc' HS
  obtain ⟨scheme, user, pass, ⟨k, nm, v, a0, a1, a2, a3, a4, a5, a6, a7⟩, port, opq, path, hasq, query, hasf, frag⟩ := a
  obtain ⟨scheme', user', pass', ⟨k', nm', v', b0, b1, b2, b3, b4, b5, b6, b7⟩, port', opq', path', hasq', query', hasf', frag'⟩ := b
  simp only at HA hh hsv ⊢
  obtain ⟨e1, he1⟩ : ∃ e, e = decide (scheme = scheme') := ⟨_, rfl⟩
  obtain ⟨e2, he2⟩ : ∃ e, e = decide (user = user') := ⟨_, rfl⟩
  obtain ⟨e3, he3⟩ : ∃ e, e = decide (pass = pass') := ⟨_, rfl⟩
  obtain ⟨e4, he4⟩ : ∃ e, e = sameHV ⟨k, nm, v, a0, a1, a2, a3, a4, a5, a6, a7⟩ ⟨k', nm', v', b0, b1, b2, b3, b4, b5, b6, b7⟩ := ⟨_, rfl⟩
  obtain ⟨e5, he5⟩ : ∃ e, e = decide (port = port') := ⟨_, rfl⟩
  obtain ⟨e6, he6⟩ : ∃ e, e = decide (hasq = hasq') := ⟨_, rfl⟩
  obtain ⟨e7, he7⟩ : ∃ e, e = decide (query = query') := ⟨_, rfl⟩
  obtain ⟨e8, he8⟩ : ∃ e, e = decide (hasf = hasf') := ⟨_, rfl⟩
  obtain ⟨e9, he9⟩ : ∃ e, e = decide (frag = frag') := ⟨_, rfl⟩
  obtain ⟨e10, he10⟩ : ∃ e, e = decide (opq = opq') := ⟨_, rfl⟩
  obtain ⟨ep, hep⟩ : ∃ e, e = decide (path = path') := ⟨_, rfl⟩
  rw [← he1, ← he2, ← he3, ← he4, ← he5, ← he6, ← he7, ← he8, ← he9, ← he10, ← hep] at hsv
  rw [← he4] at hh
  rw [← hep] at HA
  have c1 : (scheme.toList == scheme'.toList) = e1 := by rw [he1]; exact same_text
  have d1 : (scheme.toList != scheme'.toList) = !e1 := by rw [← c1]; rfl
  have c2 : (user.toList == user'.toList) = e2 := by rw [he2]; exact same_text
  have d2 : (user.toList != user'.toList) = !e2 := by rw [← c2]; rfl
  have c3 : (pass.toList == pass'.toList) = e3 := by rw [he3]; exact same_text
  have d3 : (pass.toList != pass'.toList) = !e3 := by rw [← c3]; rfl
  have c5 : (port == port') = e5 := by rw [he5]; exact beq_int _ _
  have d5 : (port != port') = !e5 := by rw [← c5]; rfl
  have c6 : (hasq == hasq') = e6 := by rw [he6]; exact beq_bool _ _
  have d6 : (hasq != hasq') = !e6 := by rw [← c6]; rfl
  have c7 : (query.toList == query'.toList) = e7 := by rw [he7]; exact same_text
  have d7 : (query.toList != query'.toList) = !e7 := by rw [← c7]; rfl
  have c8 : (hasf == hasf') = e8 := by rw [he8]; exact beq_bool _ _
  have d8 : (hasf != hasf') = !e8 := by rw [← c8]; rfl
  have c9 : (frag.toList == frag'.toList) = e9 := by rw [he9]; exact same_text
  have d9 : (frag.toList != frag'.toList) = !e9 := by rw [← c9]; rfl
  have c10 : (opq == opq') = e10 := by rw [he10]; exact beq_bool _ _
  have d10 : (opq != opq') = !e10 := by rw [← c10]; rfl
  have HV := Lib.hid hsv
  clear he1 he2 he3 he4 he5 he6 he7 he8 he9 he10 hep hsv
  rcases e1 with _ | _
  · · as_aux_lemma =>
      go_enter Tryd.func20, Tryd.ntmps20
      go_wp2_with fail
      go_ret
      exact ⟨by rw [← HV.out]; first | rfl | simp, (((Below.refl w.heap.size w).alloc (Nat.le_refl _) _).alloc (by simp) _)⟩
  · rcases e2 with _ | _
    · · as_aux_lemma =>
        go_enter Tryd.func20, Tryd.ntmps20
        go_wp2_with fail
        go_ret
        exact ⟨by rw [← HV.out]; first | rfl | simp, (((Below.refl w.heap.size w).alloc (Nat.le_refl _) _).alloc (by simp) _)⟩
    · rcases e3 with _ | _
      · · as_aux_lemma =>
          go_enter Tryd.func20, Tryd.ntmps20
          go_wp2_with fail
          go_ret
          exact ⟨by rw [← HV.out]; first | rfl | simp, (((Below.refl w.heap.size w).alloc (Nat.le_refl _) _).alloc (by simp) _)⟩
      · rcases e4 with _ | _
        · · as_aux_lemma =>
            go_enter Tryd.func20, Tryd.ntmps20
            go_wp2_with fail
            go_ret
            exact ⟨by rw [← HV.out]; first | rfl | simp, (((Below.refl w.heap.size w).alloc (Nat.le_refl _) _).alloc (by simp) _)⟩
        · rcases e5 with _ | _
          · · as_aux_lemma =>
              go_enter Tryd.func20, Tryd.ntmps20
              go_wp2_with fail
              go_ret
              exact ⟨by rw [← HV.out]; first | rfl | simp, (((Below.refl w.heap.size w).alloc (Nat.le_refl _) _).alloc (by simp) _)⟩
          · rcases e10 with _ | _
            · · as_aux_lemma =>
                go_enter Tryd.func20, Tryd.ntmps20
                go_wp2_with fail
                go_ret
                exact ⟨by rw [← HV.out]; first | rfl | simp, (((Below.refl w.heap.size w).alloc (Nat.le_refl _) _).alloc (by simp) _)⟩
            · rcases ep with _ | _
              · · as_aux_lemma =>
                  go_enter Tryd.func20, Tryd.ntmps20
                  go_wp2_with fail
                  refine (HA.out _ (((Below.refl w.heap.size w).alloc (Nat.le_refl _) _).alloc (by simp) _)).mono ?_
                  rintro e w1 ⟨rfl, hb⟩
                  have H1 := Lib.hid (belowOn (((Below.refl w.heap.size w).alloc (Nat.le_refl _) _).alloc (by simp) _) (by simp; omega) hb)
                  have KX := Lib.hid (((Blk.new w 29 #[.string scheme, .string user, .string pass, .int .i64 k, .string nm, .int .u32 v, .int .u16 a0, .int .u16 a1, .int .u16 a2, .int .u16 a3, .int .u16 a4, .int .u16 a5, .int .u16 a6, .int .u16 a7, .int .i64 port, .bool opq, .slice A path.length c, .bool hasq, .string query, .bool hasf, .string frag]).alloc (.cells #[.string scheme', .string user', .string pass', .int .i64 k', .string nm', .int .u32 v', .int .u16 b0, .int .u16 b1, .int .u16 b2, .int .u16 b3, .int .u16 b4, .int .u16 b5, .int .u16 b6, .int .u16 b7, .int .i64 port', .bool opq', .slice A' path'.length c', .bool hasq', .string query', .bool hasf', .string frag'] 29)).keep hb)
                  have KY := Lib.hid ((show Blk ((w.alloc (.cells #[.string scheme, .string user, .string pass, .int .i64 k, .string nm, .int .u32 v, .int .u16 a0, .int .u16 a1, .int .u16 a2, .int .u16 a3, .int .u16 a4, .int .u16 a5, .int .u16 a6, .int .u16 a7, .int .i64 port, .bool opq, .slice A path.length c, .bool hasq, .string query, .bool hasf, .string frag] 29)).alloc (.cells #[.string scheme', .string user', .string pass', .int .i64 k', .string nm', .int .u32 v', .int .u16 b0, .int .u16 b1, .int .u16 b2, .int .u16 b3, .int .u16 b4, .int .u16 b5, .int .u16 b6, .int .u16 b7, .int .i64 port', .bool opq', .slice A' path'.length c', .bool hasq', .string query', .bool hasf', .string frag'] 29)) (w.heap.size + 1) 29 #[.string scheme', .string user', .string pass', .int .i64 k', .string nm', .int .u32 v', .int .u16 b0, .int .u16 b1, .int .u16 b2, .int .u16 b3, .int .u16 b4, .int .u16 b5, .int .u16 b6, .int .u16 b7, .int .i64 port', .bool opq', .slice A' path'.length c', .bool hasq', .string query', .bool hasf', .string frag'] from by have := Blk.new (w.alloc (.cells #[.string scheme, .string user, .string pass, .int .i64 k, .string nm, .int .u32 v, .int .u16 a0, .int .u16 a1, .int .u16 a2, .int .u16 a3, .int .u16 a4, .int .u16 a5, .int .u16 a6, .int .u16 a7, .int .i64 port, .bool opq, .slice A path.length c, .bool hasq, .string query, .bool hasf, .string frag] 29)) 29 #[.string scheme', .string user', .string pass', .int .i64 k', .string nm', .int .u32 v', .int .u16 b0, .int .u16 b1, .int .u16 b2, .int .u16 b3, .int .u16 b4, .int .u16 b5, .int .u16 b6, .int .u16 b7, .int .i64 port', .bool opq', .slice A' path'.length c', .bool hasq', .string query', .bool hasf', .string frag']; simpa using this).keep hb)
                  have x17 : w1.cell? ⟨w.heap.size, 17, none⟩ = some (.bool hasq) := KX.out.cell 17
                  have y17 : w1.cell? ⟨w.heap.size + 1, 17, none⟩ = some (.bool hasq') := KY.out.cell 17
                  have x18 : w1.cell? ⟨w.heap.size, 18, none⟩ = some (.string query) := KX.out.cell 18
                  have y18 : w1.cell? ⟨w.heap.size + 1, 18, none⟩ = some (.string query') := KY.out.cell 18
                  have x19 : w1.cell? ⟨w.heap.size, 19, none⟩ = some (.bool hasf) := KX.out.cell 19
                  have y19 : w1.cell? ⟨w.heap.size + 1, 19, none⟩ = some (.bool hasf') := KY.out.cell 19
                  have x20 : w1.cell? ⟨w.heap.size, 20, none⟩ = some (.string frag) := KX.out.cell 20
                  have y20 : w1.cell? ⟨w.heap.size + 1, 20, none⟩ = some (.string frag') := KY.out.cell 20
                  clear hb
                  go_wp2_with fail
                  go_ret
                  exact ⟨by rw [← HV.out]; first | rfl | simp, H1.out⟩
              · rcases e6 with _ | _
                · · as_aux_lemma =>
                    go_enter Tryd.func20, Tryd.ntmps20
                    go_wp2_with fail
                    refine (HA.out _ (((Below.refl w.heap.size w).alloc (Nat.le_refl _) _).alloc (by simp) _)).mono ?_
                    rintro e w1 ⟨rfl, hb⟩
                    have H1 := Lib.hid (belowOn (((Below.refl w.heap.size w).alloc (Nat.le_refl _) _).alloc (by simp) _) (by simp; omega) hb)
                    have KX := Lib.hid (((Blk.new w 29 #[.string scheme, .string user, .string pass, .int .i64 k, .string nm, .int .u32 v, .int .u16 a0, .int .u16 a1, .int .u16 a2, .int .u16 a3, .int .u16 a4, .int .u16 a5, .int .u16 a6, .int .u16 a7, .int .i64 port, .bool opq, .slice A path.length c, .bool hasq, .string query, .bool hasf, .string frag]).alloc (.cells #[.string scheme', .string user', .string pass', .int .i64 k', .string nm', .int .u32 v', .int .u16 b0, .int .u16 b1, .int .u16 b2, .int .u16 b3, .int .u16 b4, .int .u16 b5, .int .u16 b6, .int .u16 b7, .int .i64 port', .bool opq', .slice A' path'.length c', .bool hasq', .string query', .bool hasf', .string frag'] 29)).keep hb)
                    have KY := Lib.hid ((show Blk ((w.alloc (.cells #[.string scheme, .string user, .string pass, .int .i64 k, .string nm, .int .u32 v, .int .u16 a0, .int .u16 a1, .int .u16 a2, .int .u16 a3, .int .u16 a4, .int .u16 a5, .int .u16 a6, .int .u16 a7, .int .i64 port, .bool opq, .slice A path.length c, .bool hasq, .string query, .bool hasf, .string frag] 29)).alloc (.cells #[.string scheme', .string user', .string pass', .int .i64 k', .string nm', .int .u32 v', .int .u16 b0, .int .u16 b1, .int .u16 b2, .int .u16 b3, .int .u16 b4, .int .u16 b5, .int .u16 b6, .int .u16 b7, .int .i64 port', .bool opq', .slice A' path'.length c', .bool hasq', .string query', .bool hasf', .string frag'] 29)) (w.heap.size + 1) 29 #[.string scheme', .string user', .string pass', .int .i64 k', .string nm', .int .u32 v', .int .u16 b0, .int .u16 b1, .int .u16 b2, .int .u16 b3, .int .u16 b4, .int .u16 b5, .int .u16 b6, .int .u16 b7, .int .i64 port', .bool opq', .slice A' path'.length c', .bool hasq', .string query', .bool hasf', .string frag'] from by have := Blk.new (w.alloc (.cells #[.string scheme, .string user, .string pass, .int .i64 k, .string nm, .int .u32 v, .int .u16 a0, .int .u16 a1, .int .u16 a2, .int .u16 a3, .int .u16 a4, .int .u16 a5, .int .u16 a6, .int .u16 a7, .int .i64 port, .bool opq, .slice A path.length c, .bool hasq, .string query, .bool hasf, .string frag] 29)) 29 #[.string scheme', .string user', .string pass', .int .i64 k', .string nm', .int .u32 v', .int .u16 b0, .int .u16 b1, .int .u16 b2, .int .u16 b3, .int .u16 b4, .int .u16 b5, .int .u16 b6, .int .u16 b7, .int .i64 port', .bool opq', .slice A' path'.length c', .bool hasq', .string query', .bool hasf', .string frag']; simpa using this).keep hb)
                    have x17 : w1.cell? ⟨w.heap.size, 17, none⟩ = some (.bool hasq) := KX.out.cell 17
                    have y17 : w1.cell? ⟨w.heap.size + 1, 17, none⟩ = some (.bool hasq') := KY.out.cell 17
                    have x18 : w1.cell? ⟨w.heap.size, 18, none⟩ = some (.string query) := KX.out.cell 18
                    have y18 : w1.cell? ⟨w.heap.size + 1, 18, none⟩ = some (.string query') := KY.out.cell 18
                    have x19 : w1.cell? ⟨w.heap.size, 19, none⟩ = some (.bool hasf) := KX.out.cell 19
                    have y19 : w1.cell? ⟨w.heap.size + 1, 19, none⟩ = some (.bool hasf') := KY.out.cell 19
                    have x20 : w1.cell? ⟨w.heap.size, 20, none⟩ = some (.string frag) := KX.out.cell 20
                    have y20 : w1.cell? ⟨w.heap.size + 1, 20, none⟩ = some (.string frag') := KY.out.cell 20
                    clear hb
                    go_wp2_with fail
                    go_ret
                    exact ⟨by rw [← HV.out]; first | rfl | simp, H1.out⟩
                · rcases e7 with _ | _
                  · · as_aux_lemma =>
                      go_enter Tryd.func20, Tryd.ntmps20
                      go_wp2_with fail
                      refine (HA.out _ (((Below.refl w.heap.size w).alloc (Nat.le_refl _) _).alloc (by simp) _)).mono ?_
                      rintro e w1 ⟨rfl, hb⟩
                      have H1 := Lib.hid (belowOn (((Below.refl w.heap.size w).alloc (Nat.le_refl _) _).alloc (by simp) _) (by simp; omega) hb)
                      have KX := Lib.hid (((Blk.new w 29 #[.string scheme, .string user, .string pass, .int .i64 k, .string nm, .int .u32 v, .int .u16 a0, .int .u16 a1, .int .u16 a2, .int .u16 a3, .int .u16 a4, .int .u16 a5, .int .u16 a6, .int .u16 a7, .int .i64 port, .bool opq, .slice A path.length c, .bool hasq, .string query, .bool hasf, .string frag]).alloc (.cells #[.string scheme', .string user', .string pass', .int .i64 k', .string nm', .int .u32 v', .int .u16 b0, .int .u16 b1, .int .u16 b2, .int .u16 b3, .int .u16 b4, .int .u16 b5, .int .u16 b6, .int .u16 b7, .int .i64 port', .bool opq', .slice A' path'.length c', .bool hasq', .string query', .bool hasf', .string frag'] 29)).keep hb)
                      have KY := Lib.hid ((show Blk ((w.alloc (.cells #[.string scheme, .string user, .string pass, .int .i64 k, .string nm, .int .u32 v, .int .u16 a0, .int .u16 a1, .int .u16 a2, .int .u16 a3, .int .u16 a4, .int .u16 a5, .int .u16 a6, .int .u16 a7, .int .i64 port, .bool opq, .slice A path.length c, .bool hasq, .string query, .bool hasf, .string frag] 29)).alloc (.cells #[.string scheme', .string user', .string pass', .int .i64 k', .string nm', .int .u32 v', .int .u16 b0, .int .u16 b1, .int .u16 b2, .int .u16 b3, .int .u16 b4, .int .u16 b5, .int .u16 b6, .int .u16 b7, .int .i64 port', .bool opq', .slice A' path'.length c', .bool hasq', .string query', .bool hasf', .string frag'] 29)) (w.heap.size + 1) 29 #[.string scheme', .string user', .string pass', .int .i64 k', .string nm', .int .u32 v', .int .u16 b0, .int .u16 b1, .int .u16 b2, .int .u16 b3, .int .u16 b4, .int .u16 b5, .int .u16 b6, .int .u16 b7, .int .i64 port', .bool opq', .slice A' path'.length c', .bool hasq', .string query', .bool hasf', .string frag'] from by have := Blk.new (w.alloc (.cells #[.string scheme, .string user, .string pass, .int .i64 k, .string nm, .int .u32 v, .int .u16 a0, .int .u16 a1, .int .u16 a2, .int .u16 a3, .int .u16 a4, .int .u16 a5, .int .u16 a6, .int .u16 a7, .int .i64 port, .bool opq, .slice A path.length c, .bool hasq, .string query, .bool hasf, .string frag] 29)) 29 #[.string scheme', .string user', .string pass', .int .i64 k', .string nm', .int .u32 v', .int .u16 b0, .int .u16 b1, .int .u16 b2, .int .u16 b3, .int .u16 b4, .int .u16 b5, .int .u16 b6, .int .u16 b7, .int .i64 port', .bool opq', .slice A' path'.length c', .bool hasq', .string query', .bool hasf', .string frag']; simpa using this).keep hb)
                      have x17 : w1.cell? ⟨w.heap.size, 17, none⟩ = some (.bool hasq) := KX.out.cell 17
                      have y17 : w1.cell? ⟨w.heap.size + 1, 17, none⟩ = some (.bool hasq') := KY.out.cell 17
                      have x18 : w1.cell? ⟨w.heap.size, 18, none⟩ = some (.string query) := KX.out.cell 18
                      have y18 : w1.cell? ⟨w.heap.size + 1, 18, none⟩ = some (.string query') := KY.out.cell 18
                      have x19 : w1.cell? ⟨w.heap.size, 19, none⟩ = some (.bool hasf) := KX.out.cell 19
                      have y19 : w1.cell? ⟨w.heap.size + 1, 19, none⟩ = some (.bool hasf') := KY.out.cell 19
                      have x20 : w1.cell? ⟨w.heap.size, 20, none⟩ = some (.string frag) := KX.out.cell 20
                      have y20 : w1.cell? ⟨w.heap.size + 1, 20, none⟩ = some (.string frag') := KY.out.cell 20
                      clear hb
                      go_wp2_with fail
                      go_ret
                      exact ⟨by rw [← HV.out]; first | rfl | simp, H1.out⟩
                  · rcases e8 with _ | _
                    · · as_aux_lemma =>
                        go_enter Tryd.func20, Tryd.ntmps20
                        go_wp2_with fail
                        refine (HA.out _ (((Below.refl w.heap.size w).alloc (Nat.le_refl _) _).alloc (by simp) _)).mono ?_
                        rintro e w1 ⟨rfl, hb⟩
                        have H1 := Lib.hid (belowOn (((Below.refl w.heap.size w).alloc (Nat.le_refl _) _).alloc (by simp) _) (by simp; omega) hb)
                        have KX := Lib.hid (((Blk.new w 29 #[.string scheme, .string user, .string pass, .int .i64 k, .string nm, .int .u32 v, .int .u16 a0, .int .u16 a1, .int .u16 a2, .int .u16 a3, .int .u16 a4, .int .u16 a5, .int .u16 a6, .int .u16 a7, .int .i64 port, .bool opq, .slice A path.length c, .bool hasq, .string query, .bool hasf, .string frag]).alloc (.cells #[.string scheme', .string user', .string pass', .int .i64 k', .string nm', .int .u32 v', .int .u16 b0, .int .u16 b1, .int .u16 b2, .int .u16 b3, .int .u16 b4, .int .u16 b5, .int .u16 b6, .int .u16 b7, .int .i64 port', .bool opq', .slice A' path'.length c', .bool hasq', .string query', .bool hasf', .string frag'] 29)).keep hb)
                        have KY := Lib.hid ((show Blk ((w.alloc (.cells #[.string scheme, .string user, .string pass, .int .i64 k, .string nm, .int .u32 v, .int .u16 a0, .int .u16 a1, .int .u16 a2, .int .u16 a3, .int .u16 a4, .int .u16 a5, .int .u16 a6, .int .u16 a7, .int .i64 port, .bool opq, .slice A path.length c, .bool hasq, .string query, .bool hasf, .string frag] 29)).alloc (.cells #[.string scheme', .string user', .string pass', .int .i64 k', .string nm', .int .u32 v', .int .u16 b0, .int .u16 b1, .int .u16 b2, .int .u16 b3, .int .u16 b4, .int .u16 b5, .int .u16 b6, .int .u16 b7, .int .i64 port', .bool opq', .slice A' path'.length c', .bool hasq', .string query', .bool hasf', .string frag'] 29)) (w.heap.size + 1) 29 #[.string scheme', .string user', .string pass', .int .i64 k', .string nm', .int .u32 v', .int .u16 b0, .int .u16 b1, .int .u16 b2, .int .u16 b3, .int .u16 b4, .int .u16 b5, .int .u16 b6, .int .u16 b7, .int .i64 port', .bool opq', .slice A' path'.length c', .bool hasq', .string query', .bool hasf', .string frag'] from by have := Blk.new (w.alloc (.cells #[.string scheme, .string user, .string pass, .int .i64 k, .string nm, .int .u32 v, .int .u16 a0, .int .u16 a1, .int .u16 a2, .int .u16 a3, .int .u16 a4, .int .u16 a5, .int .u16 a6, .int .u16 a7, .int .i64 port, .bool opq, .slice A path.length c, .bool hasq, .string query, .bool hasf, .string frag] 29)) 29 #[.string scheme', .string user', .string pass', .int .i64 k', .string nm', .int .u32 v', .int .u16 b0, .int .u16 b1, .int .u16 b2, .int .u16 b3, .int .u16 b4, .int .u16 b5, .int .u16 b6, .int .u16 b7, .int .i64 port', .bool opq', .slice A' path'.length c', .bool hasq', .string query', .bool hasf', .string frag']; simpa using this).keep hb)
                        have x17 : w1.cell? ⟨w.heap.size, 17, none⟩ = some (.bool hasq) := KX.out.cell 17
                        have y17 : w1.cell? ⟨w.heap.size + 1, 17, none⟩ = some (.bool hasq') := KY.out.cell 17
                        have x18 : w1.cell? ⟨w.heap.size, 18, none⟩ = some (.string query) := KX.out.cell 18
                        have y18 : w1.cell? ⟨w.heap.size + 1, 18, none⟩ = some (.string query') := KY.out.cell 18
                        have x19 : w1.cell? ⟨w.heap.size, 19, none⟩ = some (.bool hasf) := KX.out.cell 19
                        have y19 : w1.cell? ⟨w.heap.size + 1, 19, none⟩ = some (.bool hasf') := KY.out.cell 19
                        have x20 : w1.cell? ⟨w.heap.size, 20, none⟩ = some (.string frag) := KX.out.cell 20
                        have y20 : w1.cell? ⟨w.heap.size + 1, 20, none⟩ = some (.string frag') := KY.out.cell 20
                        clear hb
                        go_wp2_with fail
                        go_ret
                        exact ⟨by rw [← HV.out]; first | rfl | simp, H1.out⟩
                    · rcases e9 with _ | _
                      · · as_aux_lemma =>
                          go_enter Tryd.func20, Tryd.ntmps20
                          go_wp2_with fail
                          refine (HA.out _ (((Below.refl w.heap.size w).alloc (Nat.le_refl _) _).alloc (by simp) _)).mono ?_
                          rintro e w1 ⟨rfl, hb⟩
                          have H1 := Lib.hid (belowOn (((Below.refl w.heap.size w).alloc (Nat.le_refl _) _).alloc (by simp) _) (by simp; omega) hb)
                          have KX := Lib.hid (((Blk.new w 29 #[.string scheme, .string user, .string pass, .int .i64 k, .string nm, .int .u32 v, .int .u16 a0, .int .u16 a1, .int .u16 a2, .int .u16 a3, .int .u16 a4, .int .u16 a5, .int .u16 a6, .int .u16 a7, .int .i64 port, .bool opq, .slice A path.length c, .bool hasq, .string query, .bool hasf, .string frag]).alloc (.cells #[.string scheme', .string user', .string pass', .int .i64 k', .string nm', .int .u32 v', .int .u16 b0, .int .u16 b1, .int .u16 b2, .int .u16 b3, .int .u16 b4, .int .u16 b5, .int .u16 b6, .int .u16 b7, .int .i64 port', .bool opq', .slice A' path'.length c', .bool hasq', .string query', .bool hasf', .string frag'] 29)).keep hb)
                          have KY := Lib.hid ((show Blk ((w.alloc (.cells #[.string scheme, .string user, .string pass, .int .i64 k, .string nm, .int .u32 v, .int .u16 a0, .int .u16 a1, .int .u16 a2, .int .u16 a3, .int .u16 a4, .int .u16 a5, .int .u16 a6, .int .u16 a7, .int .i64 port, .bool opq, .slice A path.length c, .bool hasq, .string query, .bool hasf, .string frag] 29)).alloc (.cells #[.string scheme', .string user', .string pass', .int .i64 k', .string nm', .int .u32 v', .int .u16 b0, .int .u16 b1, .int .u16 b2, .int .u16 b3, .int .u16 b4, .int .u16 b5, .int .u16 b6, .int .u16 b7, .int .i64 port', .bool opq', .slice A' path'.length c', .bool hasq', .string query', .bool hasf', .string frag'] 29)) (w.heap.size + 1) 29 #[.string scheme', .string user', .string pass', .int .i64 k', .string nm', .int .u32 v', .int .u16 b0, .int .u16 b1, .int .u16 b2, .int .u16 b3, .int .u16 b4, .int .u16 b5, .int .u16 b6, .int .u16 b7, .int .i64 port', .bool opq', .slice A' path'.length c', .bool hasq', .string query', .bool hasf', .string frag'] from by have := Blk.new (w.alloc (.cells #[.string scheme, .string user, .string pass, .int .i64 k, .string nm, .int .u32 v, .int .u16 a0, .int .u16 a1, .int .u16 a2, .int .u16 a3, .int .u16 a4, .int .u16 a5, .int .u16 a6, .int .u16 a7, .int .i64 port, .bool opq, .slice A path.length c, .bool hasq, .string query, .bool hasf, .string frag] 29)) 29 #[.string scheme', .string user', .string pass', .int .i64 k', .string nm', .int .u32 v', .int .u16 b0, .int .u16 b1, .int .u16 b2, .int .u16 b3, .int .u16 b4, .int .u16 b5, .int .u16 b6, .int .u16 b7, .int .i64 port', .bool opq', .slice A' path'.length c', .bool hasq', .string query', .bool hasf', .string frag']; simpa using this).keep hb)
                          have x17 : w1.cell? ⟨w.heap.size, 17, none⟩ = some (.bool hasq) := KX.out.cell 17
                          have y17 : w1.cell? ⟨w.heap.size + 1, 17, none⟩ = some (.bool hasq') := KY.out.cell 17
                          have x18 : w1.cell? ⟨w.heap.size, 18, none⟩ = some (.string query) := KX.out.cell 18
                          have y18 : w1.cell? ⟨w.heap.size + 1, 18, none⟩ = some (.string query') := KY.out.cell 18
                          have x19 : w1.cell? ⟨w.heap.size, 19, none⟩ = some (.bool hasf) := KX.out.cell 19
                          have y19 : w1.cell? ⟨w.heap.size + 1, 19, none⟩ = some (.bool hasf') := KY.out.cell 19
                          have x20 : w1.cell? ⟨w.heap.size, 20, none⟩ = some (.string frag) := KX.out.cell 20
                          have y20 : w1.cell? ⟨w.heap.size + 1, 20, none⟩ = some (.string frag') := KY.out.cell 20
                          clear hb
                          go_wp2_with fail
                          go_ret
                          exact ⟨by rw [← HV.out]; first | rfl | simp, H1.out⟩
                      · · as_aux_lemma =>
                          go_enter Tryd.func20, Tryd.ntmps20
                          go_wp2_with fail
                          refine (HA.out _ (((Below.refl w.heap.size w).alloc (Nat.le_refl _) _).alloc (by simp) _)).mono ?_
                          rintro e w1 ⟨rfl, hb⟩
                          have H1 := Lib.hid (belowOn (((Below.refl w.heap.size w).alloc (Nat.le_refl _) _).alloc (by simp) _) (by simp; omega) hb)
                          have KX := Lib.hid (((Blk.new w 29 #[.string scheme, .string user, .string pass, .int .i64 k, .string nm, .int .u32 v, .int .u16 a0, .int .u16 a1, .int .u16 a2, .int .u16 a3, .int .u16 a4, .int .u16 a5, .int .u16 a6, .int .u16 a7, .int .i64 port, .bool opq, .slice A path.length c, .bool hasq, .string query, .bool hasf, .string frag]).alloc (.cells #[.string scheme', .string user', .string pass', .int .i64 k', .string nm', .int .u32 v', .int .u16 b0, .int .u16 b1, .int .u16 b2, .int .u16 b3, .int .u16 b4, .int .u16 b5, .int .u16 b6, .int .u16 b7, .int .i64 port', .bool opq', .slice A' path'.length c', .bool hasq', .string query', .bool hasf', .string frag'] 29)).keep hb)
                          have KY := Lib.hid ((show Blk ((w.alloc (.cells #[.string scheme, .string user, .string pass, .int .i64 k, .string nm, .int .u32 v, .int .u16 a0, .int .u16 a1, .int .u16 a2, .int .u16 a3, .int .u16 a4, .int .u16 a5, .int .u16 a6, .int .u16 a7, .int .i64 port, .bool opq, .slice A path.length c, .bool hasq, .string query, .bool hasf, .string frag] 29)).alloc (.cells #[.string scheme', .string user', .string pass', .int .i64 k', .string nm', .int .u32 v', .int .u16 b0, .int .u16 b1, .int .u16 b2, .int .u16 b3, .int .u16 b4, .int .u16 b5, .int .u16 b6, .int .u16 b7, .int .i64 port', .bool opq', .slice A' path'.length c', .bool hasq', .string query', .bool hasf', .string frag'] 29)) (w.heap.size + 1) 29 #[.string scheme', .string user', .string pass', .int .i64 k', .string nm', .int .u32 v', .int .u16 b0, .int .u16 b1, .int .u16 b2, .int .u16 b3, .int .u16 b4, .int .u16 b5, .int .u16 b6, .int .u16 b7, .int .i64 port', .bool opq', .slice A' path'.length c', .bool hasq', .string query', .bool hasf', .string frag'] from by have := Blk.new (w.alloc (.cells #[.string scheme, .string user, .string pass, .int .i64 k, .string nm, .int .u32 v, .int .u16 a0, .int .u16 a1, .int .u16 a2, .int .u16 a3, .int .u16 a4, .int .u16 a5, .int .u16 a6, .int .u16 a7, .int .i64 port, .bool opq, .slice A path.length c, .bool hasq, .string query, .bool hasf, .string frag] 29)) 29 #[.string scheme', .string user', .string pass', .int .i64 k', .string nm', .int .u32 v', .int .u16 b0, .int .u16 b1, .int .u16 b2, .int .u16 b3, .int .u16 b4, .int .u16 b5, .int .u16 b6, .int .u16 b7, .int .i64 port', .bool opq', .slice A' path'.length c', .bool hasq', .string query', .bool hasf', .string frag']; simpa using this).keep hb)
                          have x17 : w1.cell? ⟨w.heap.size, 17, none⟩ = some (.bool hasq) := KX.out.cell 17
                          have y17 : w1.cell? ⟨w.heap.size + 1, 17, none⟩ = some (.bool hasq') := KY.out.cell 17
                          have x18 : w1.cell? ⟨w.heap.size, 18, none⟩ = some (.string query) := KX.out.cell 18
                          have y18 : w1.cell? ⟨w.heap.size + 1, 18, none⟩ = some (.string query') := KY.out.cell 18
                          have x19 : w1.cell? ⟨w.heap.size, 19, none⟩ = some (.bool hasf) := KX.out.cell 19
                          have y19 : w1.cell? ⟨w.heap.size + 1, 19, none⟩ = some (.bool hasf') := KY.out.cell 19
                          have x20 : w1.cell? ⟨w.heap.size, 20, none⟩ = some (.string frag) := KX.out.cell 20
                          have y20 : w1.cell? ⟨w.heap.size + 1, 20, none⟩ = some (.string frag') := KY.out.cell 20
                          clear hb
                          go_wp2_with fail
                          go_ret
                          exact ⟨by rw [← HV.out]; first | rfl | simp, H1.out⟩
theorem refsame_calls (a b : UrlV) (A : Option Addr) (c : Nat) (A' : Option Addr) (c' : Nat) (ha : a.ok) (hb : b.ok) (sa : a.short) (sb : b.short) (w : World) (h : RowAt textC 1 w A a.path) (h' : RowAt textC 1 w A' b.path) (hc : a.path.length ≤ c) (hc' : b.path.length ≤ c') :
    Calls Tryd.prog 20 #[.agg (a.cells A c).toArray, .agg (b.cells A' c').toArray] w fun e w' => e = .returned (.bool (sameV a b)) ∧ Below w.heap.size w w' :=
  refsame_callsW a b A c A' c' ha hb sa.len sa.name sb.name w h h' hc hc'
end Go.Proofs.YtgljkgkmbfhgiaaDoor
