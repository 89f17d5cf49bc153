/- The reference's memo: each of its calls, by the plain lists; its places lie in rows that are never written once they are told. -/
import Derived.Test.YtjnghgalniapjaaMemo2
import Derived.Test.YtjnghgalniapjaaClockDo
import Derived.Deep.RegionHeld3
set_option linter.unusedSimpArgs false
set_option linter.unusedVariables false
namespace Go.Proofs.Ytjnghgalniapjaa
open Go.RowKit

/-- The reference's places: a row u of the call's own. -/
def RefAt (w : World) (base : Nat) (u : Value) (l : List Pl) : Prop := w.ownsRow base 60 4 u l.length (l.flatMap Pl.cells)
theorem ref_info : (Try.prog.info? 60).map (fun i => (i.zero, i.size, i.bytes)) = some (some (.agg #[.string ⟨#[]⟩, .int .i64 0, .string ⟨#[]⟩, .bool false]), 4, 48) := by kernel_rfl
theorem RefAt.at_ {w : World} {base : Nat} {u : Value} {l : List Pl} (h : RefAt w base u l) {i : Nat} {p : Pl} (hi : l[i]? = some p) :
    ∃ g cap, u = .slice (some ⟨g, 0, none⟩) l.length cap ∧ base ≤ g ∧ w.cell? ⟨g, i * 4, none⟩ = some (.string p.k) ∧ w.cell? ⟨g, i * 4 + 1, none⟩ = some (.int .i64 p.ver) ∧ w.cell? ⟨g, i * 4 + 2, none⟩ = some (.string p.v) ∧ w.cell? ⟨g, i * 4 + 3, none⟩ = some (.bool p.mark) ∧ g < w.heap.size := by
  have hl := (List.getElem?_eq_some_iff.1 hi).1
  obtain ⟨g, cap, cur, hv, hb, _, _, hg, hc, hf⟩ := row_form h (by omega)
  refine ⟨g, cap, hv, hb, ?_, ?_, ?_, ?_, (Array.getElem?_eq_some_iff.1 hg).1⟩
  · exact hc _ _ ((flat_get pl_len l i 0 p hi (by omega)).trans rfl)
  · exact hc _ _ ((flat_get pl_len l i 1 p hi (by omega)).trans rfl)
  · exact hc _ _ ((flat_get pl_len l i 2 p hi (by omega)).trans rfl)
  · exact hc _ _ ((flat_get pl_len l i 3 p hi (by omega)).trans rfl)

/-- A whole place is written: four cells. -/
theorem row_put' {w : World} {base g cap n : Nat} {e : TypeId} {l : List Pl} (h : w.ownsRow base e 4 (.slice (some ⟨g, 0, none⟩) n cap) n (l.flatMap Pl.cells)) {i : Nat} {p : Pl} (hi : l[i]? = some p) (q : Pl) :
    ((((w.setCell ⟨g, i * 4, none⟩ (.string q.k)).setCell ⟨g, i * 4 + 1, none⟩ (.int .i64 q.ver)).setCell ⟨g, i * 4 + 2, none⟩ (.string q.v)).setCell ⟨g, i * 4 + 3, none⟩ (.bool q.mark)).ownsRow base e 4 (.slice (some ⟨g, 0, none⟩) n cap) n ((l.set i q).flatMap Pl.cells) := by
  have hl := (List.getElem?_eq_some_iff.1 hi).1
  have at_ : ∀ (x : Pl), (l.set i x)[i]? = some x := fun x => by simp [hl]
  have e0 := flat_set pl_len l i 0 p ⟨q.k, p.ver, p.v, p.mark⟩ (.string q.k) hi (by omega) rfl
  have e1 := flat_set pl_len (l.set i ⟨q.k, p.ver, p.v, p.mark⟩) i 1 _ ⟨q.k, q.ver, p.v, p.mark⟩ (.int .i64 q.ver) (at_ _) (by omega) rfl
  have e2 := flat_set pl_len (l.set i ⟨q.k, q.ver, p.v, p.mark⟩) i 2 _ ⟨q.k, q.ver, q.v, p.mark⟩ (.string q.v) (at_ _) (by omega) rfl
  have e3 := flat_set pl_len (l.set i ⟨q.k, q.ver, q.v, p.mark⟩) i 3 _ q (.bool q.mark) (at_ _) (by omega) rfl
  rw [List.set_set] at e1 e2 e3
  have h0 := row_set (c := i * 4 + 0) (u := .string q.k) h
  rw [e0] at h0
  have h1 := row_set (c := i * 4 + 1) (u := .int .i64 q.ver) h0
  rw [e1] at h1
  have h2 := row_set (c := i * 4 + 2) (u := .string q.v) h1
  rw [e2] at h2
  have h3 := row_set (c := i * 4 + 3) (u := .bool q.mark) h2
  rw [e3] at h3
  exact h3

def findI (k : ByteArray) (l : List Pl) : Int := match findP k l with | none => -1 | some n => (n : Int)
theorem findI_none {k : ByteArray} {l : List Pl} (h : ∀ (j : Nat) (p : Pl), l[j]? = some p → p.k ≠ k) : findI k l = -1 := by
  have : findP k l = none := findP_none.2 fun hm => by
    obtain ⟨p, hp, e⟩ := List.mem_map.1 hm
    obtain ⟨j, hj⟩ := List.getElem?_of_mem hp
    exact h j p hj e
  simp [findI, this]
theorem findP_first {k : ByteArray} : ∀ {l : List Pl} {i : Nat} {p : Pl}, l[i]? = some p → p.k = k → (∀ (j : Nat) (q : Pl), j < i → l[j]? = some q → q.k ≠ k) → findP k l = some i
  | [], i, p, h, _, _ => by simp at h
  | x :: l, 0, p, h, hk, _ => by
    simp only [List.getElem?_cons_zero, Option.some.injEq] at h
    subst h
    simp [findP, hk]
  | x :: l, i + 1, p, h, hk, hno => by
    simp only [List.getElem?_cons_succ] at h
    have h0 := hno 0 x (by omega) rfl
    simp only [findP, if_neg h0, findP_first h hk (fun j q hj hq => hno (j + 1) q (by omega) (by simpa using hq)), Option.map_some]

set_option maxHeartbeats 1000000 in
theorem find_calls {w : World} {base : Nat} {u : Value} {l : List Pl} (h : RefAt w base u l) (hlen : l.length ≤ 4096) (room hand : Int) (k : ByteArray) :
    Calls Try.prog 20 #[.agg #[u, .int .i64 room, .int .i64 hand], .string k] w fun e w' => e = .returned (.int .i64 (findI k l)) ∧ w.alloc (.cells #[u, .int .i64 room, .int .i64 hand] 32) = w' := by
  obtain ⟨A, cap, hu⟩ := row_slice h
  subst hu
  have H := Lib.hid h
  clear h
  go_enter Try.func20, Try.ntmps20
  go_wp2
  go_loop [5] (fun v5 => Hid (∃ i : Nat, v5 = .int .i64 i ∧ i ≤ l.length ∧ ∀ (j : Nat) (q : Pl), j < i → l[j]? = some q → q.k ≠ k)) (fun v5 => l.length - (intOf v5).toNat)
  case atStart => exact ⟨0, rfl, Nat.zero_le _, fun j q h => by omega⟩
  case round =>
    obtain ⟨i, rfl, hi, hno⟩ := hrel.out
    have HNO := Lib.hid hno
    clear hrel hno
    by_cases hlt : i < l.length
    · obtain ⟨p, hp⟩ : ∃ p, l[i]? = some p := ⟨l[i]'hlt, List.getElem?_eq_getElem hlt⟩
      have HP := Lib.hid hp
      obtain ⟨g, cap', hv, _, c0, _, _, _, hgl⟩ := H.out.at_ hp
      injection hv with hv1 _ hv2
      subst hv1 hv2
      clear hp
      by_cases hk : p.k = k
      · have hbq := str_beq_true hk
        have HK := Lib.hid hk
        clear hk
        go_wp2
        go_ret
        exact ⟨by simp [findI, findP_first HP.out HK.out HNO.out], rfl⟩
      · have hbq := str_beq_false hk
        have HK := Lib.hid hk
        clear hk
        go_wp2
        go_round
        case measure => simp [intOf]; omega
        case rel =>
          refine ⟨i + 1, by simp, by omega, fun j q hj hq => ?_⟩
          by_cases e : j = i
          · subst e
            rw [HP.out] at hq
            cases hq
            exact HK.out
          · exact HNO.out j q (by omega) hq
    · go_wp2
      go_ret
      exact ⟨by rw [findI_none (fun j q hq => HNO.out j q (by have := (List.getElem?_eq_some_iff.1 hq).1; omega) hq)]; rfl, rfl⟩

set_option maxHeartbeats 1000000 in
theorem with_calls {w : World} {base : Nat} {u : Value} {l : List Pl} (h : RefAt w base u l) (hbase : base ≤ w.heap.size) (hlen : l.length ≤ 4096) (room hand : Int) (i : Nat) (hi : i < l.length) (q : Pl) :
    Calls Try.prog 21 #[.agg #[u, .int .i64 room, .int .i64 hand], .int .i64 i, .agg #[.string q.k, .int .i64 q.ver, .string q.v, .bool q.mark]] w fun e w' =>
      (∃ u', e = .returned (.agg #[u', .int .i64 room, .int .i64 hand]) ∧ RefAt w' base u' (l.set i q)) ∧ Below w.heap.size w w' := by
  obtain ⟨p, hp⟩ : ∃ p, l[i]? = some p := ⟨l[i]'hi, List.getElem?_eq_getElem hi⟩
  obtain ⟨g, cap, rfl, hgb, _, _, _, _, hgl⟩ := h.at_ hp
  obtain ⟨ip, hip, hpz, hps, hpb⟩ := info_parts ref_info
  have H := Lib.hid h
  have HP := Lib.hid hp
  have HI := Lib.hid (And.intro hip (And.intro hpz (And.intro hps hpb)))
  clear h hp hip hpz hps hpb
  have hsrc : ∀ W : World, Below w.heap.size w W → ∀ j u, (l.flatMap Pl.cells)[j]? = some u → W.cell? ((⟨g, 0, none⟩ : Addr).add j) = some u := fun W hb j u hu => by
    have := H.out.cells (g := g) rfl j u hu
    exact (hb.cell (World.block_lt_of_cell? w _ this)).trans this
  have HSRC := Lib.hid hsrc
  have hone : ∀ u ∈ l.flatMap Pl.cells, u.oneCell' = true := fun u hu => by
    obtain ⟨p, _, hu⟩ := List.mem_flatMap.1 hu
    simp only [Pl.cells, List.mem_cons, List.not_mem_nil, or_false] at hu
    rcases hu with rfl | rfl | rfl | rfl <;> rfl
  have HONE := Lib.hid hone
  have HLen := Lib.hid (flat_length pl_len l)
  clear hsrc hone
  have hown : (((((w.alloc (.cells #[.slice (some ⟨g, 0, none⟩) l.length cap, .int .i64 room, .int .i64 hand] 32)).alloc (.cells #[.string q.k, .int .i64 q.ver, .string q.v, .bool q.mark] 60)).alloc (.cells #[.slice none 0 0, .int .i64 0, .int .i64 0] 32)).alloc (.cells #[] 60))).ownsRow base 60 4 (.slice (some ⟨w.heap.size + 1 + 1 + 1, 0, none⟩) 0 0) 0 [] := by
    have := World.ownsRow_made (((w.alloc (.cells #[.slice (some ⟨g, 0, none⟩) l.length cap, .int .i64 room, .int .i64 hand] 32)).alloc (.cells #[.string q.k, .int .i64 q.ver, .string q.v, .bool q.mark] 60)).alloc (.cells #[.slice none 0 0, .int .i64 0, .int .i64 0] 32)) (base := base) (size := 4) (e := 60) #[] 0 (by simp; omega) (by decide) rfl
    simpa using this
  have hbw : Below w.heap.size w (((((w.alloc (.cells #[.slice (some ⟨g, 0, none⟩) l.length cap, .int .i64 room, .int .i64 hand] 32)).alloc (.cells #[.string q.k, .int .i64 q.ver, .string q.v, .bool q.mark] 60)).alloc (.cells #[.slice none 0 0, .int .i64 0, .int .i64 0] 32)).alloc (.cells #[] 60))) :=
    ((((Below.refl _ w).alloc (Nat.le_refl _) _).alloc (by simp) _).alloc (by simp; omega) _).alloc (by simp; omega) _
  have bz0 : Blk ((((w.alloc (.cells #[.slice (some ⟨g, 0, none⟩) l.length cap, .int .i64 room, .int .i64 hand] 32)).alloc (.cells #[.string q.k, .int .i64 q.ver, .string q.v, .bool q.mark] 60)).alloc (.cells #[.slice none 0 0, .int .i64 0, .int .i64 0] 32)).alloc (.cells #[] 60)) w.heap.size 32 #[.slice (some ⟨g, 0, none⟩) l.length cap, .int .i64 room, .int .i64 hand] := (((Blk.new w _ _).alloc _).alloc _).alloc _
  have bz1 : Blk ((((w.alloc (.cells #[.slice (some ⟨g, 0, none⟩) l.length cap, .int .i64 room, .int .i64 hand] 32)).alloc (.cells #[.string q.k, .int .i64 q.ver, .string q.v, .bool q.mark] 60)).alloc (.cells #[.slice none 0 0, .int .i64 0, .int .i64 0] 32)).alloc (.cells #[] 60)) (w.heap.size + 1) 60 #[.string q.k, .int .i64 q.ver, .string q.v, .bool q.mark] := by
    have := ((Blk.new (w.alloc (.cells #[.slice (some ⟨g, 0, none⟩) l.length cap, .int .i64 room, .int .i64 hand] 32)) 60 #[.string q.k, .int .i64 q.ver, .string q.v, .bool q.mark]).alloc (.cells #[.slice none 0 0, .int .i64 0, .int .i64 0] 32)).alloc (.cells #[] 60)
    simpa using this
  have bz2 : Blk ((((w.alloc (.cells #[.slice (some ⟨g, 0, none⟩) l.length cap, .int .i64 room, .int .i64 hand] 32)).alloc (.cells #[.string q.k, .int .i64 q.ver, .string q.v, .bool q.mark] 60)).alloc (.cells #[.slice none 0 0, .int .i64 0, .int .i64 0] 32)).alloc (.cells #[] 60)) (w.heap.size + 1 + 1) 32 #[.slice none 0 0, .int .i64 0, .int .i64 0] := by
    have := ((Blk.new ((w.alloc (.cells #[.slice (some ⟨g, 0, none⟩) l.length cap, .int .i64 room, .int .i64 hand] 32)).alloc (.cells #[.string q.k, .int .i64 q.ver, .string q.v, .bool q.mark] 60)) 32 #[.slice none 0 0, .int .i64 0, .int .i64 0])).alloc (.cells #[] 60)
    simpa using this
  have hz4 : (((((w.alloc (.cells #[.slice (some ⟨g, 0, none⟩) l.length cap, .int .i64 room, .int .i64 hand] 32)).alloc (.cells #[.string q.k, .int .i64 q.ver, .string q.v, .bool q.mark] 60)).alloc (.cells #[.slice none 0 0, .int .i64 0, .int .i64 0] 32)).alloc (.cells #[] 60))).heap.size = w.heap.size + 4 := by simp
  have hpost : ∀ v1 w1, w1.ownsRow base 60 4 v1 (0 + l.length) ([] ++ l.flatMap Pl.cells) → World.grownBy ((((w.alloc (.cells #[.slice (some ⟨g, 0, none⟩) l.length cap, .int .i64 room, .int .i64 hand] 32)).alloc (.cells #[.string q.k, .int .i64 q.ver, .string q.v, .bool q.mark] 60)).alloc (.cells #[.slice none 0 0, .int .i64 0, .int .i64 0] 32)).alloc (.cells #[] 60)) w1 (Value.slice (some ⟨w.heap.size + 1 + 1 + 1, 0, none⟩) 0 0).ownBlock →
      (v1.ownBlock = (Value.slice (some ⟨w.heap.size + 1 + 1 + 1, 0, none⟩) 0 0).ownBlock ∨ v1.ownBlock = some (((((w.alloc (.cells #[.slice (some ⟨g, 0, none⟩) l.length cap, .int .i64 room, .int .i64 hand] 32)).alloc (.cells #[.string q.k, .int .i64 q.ver, .string q.v, .bool q.mark] 60)).alloc (.cells #[.slice none 0 0, .int .i64 0, .int .i64 0] 32)).alloc (.cells #[] 60))).heap.size) → ∃ g1 cap1, v1 = .slice (some ⟨g1, 0, none⟩) l.length cap1 ∧ w.heap.size + 3 ≤ g1 ∧ RefAt w1 base (.slice (some ⟨g1, 0, none⟩) l.length cap1) l ∧
        Blk w1 w.heap.size 32 #[.slice (some ⟨g, 0, none⟩) l.length cap, .int .i64 room, .int .i64 hand] ∧ Blk w1 (w.heap.size + 1) 60 #[.string q.k, .int .i64 q.ver, .string q.v, .bool q.mark] ∧ Blk w1 (w.heap.size + 1 + 1) 32 #[.slice none 0 0, .int .i64 0, .int .i64 0] ∧
        Below w.heap.size w w1 ∧ (∀ j, w1.frozen? ⟨g1, j, none⟩ = false) := by
    intro v1 w1 h1 h2 h3
    simp only [Nat.zero_add, List.nil_append] at h1
    obtain ⟨g1, cap1, cur1, rfl, _, _, _, _, _, hfz⟩ := row_form h1 (by omega)
    refine ⟨g1, cap1, rfl, ?_, h1, bz0.grown h2 (by simp [Value.ownBlock] <;> omega), bz1.grown h2 (by simp [Value.ownBlock] <;> omega), bz2.grown h2 (by simp [Value.ownBlock] <;> omega), hbw.grown h2 (by rw [hz4]; omega) (fun k hk => by simp [Value.ownBlock] at hk; omega), hfz⟩
    rcases h3 with e | e <;> simp only [Value.ownBlock, Option.some.injEq] at e <;> omega
  have HPOST := Lib.hid hpost
  clear hpost bz0 bz1 bz2 hz4
  have HOWN := Lib.hid hown
  have HBW := Lib.hid hbw
  clear hown hbw
  go_enter Try.func21, Try.ntmps21
  go_wp2_with (at_builtin; go_must (refine wpList_append_own_at _ rfl (.tmp 8) (.tmp 10) _ rfl base 60 ip _ 4 48 Try.underlying30 HI.out.1 HI.out.2.1 HI.out.2.2.1 HI.out.2.2.2 rfl (by omega) (.slice (some ⟨w.heap.size + 1 + 1 + 1, 0, none⟩) 0 0) 0 [] rfl ?_ ⟨g, 0, none⟩ l.length cap (l.flatMap Pl.cells) rfl HLen.out ?_ HONE.out ?_ ?_ ?_ ?_); (go_must (exact HOWN.out)); (go_must (exact HSRC.out _ HBW.out)); (go_must (simp only [maxLen]; omega)); (go_must (omega)); (go_must (simp; omega)); intro v1 w1 hown1 hg1 hnil1 hat1; obtain ⟨g1, cap1, hv1, hg1z, href1, b0, b1, b2, hbe1, hfz1⟩ := HPOST.out v1 w1 hown1 hg1 hat1; subst hv1; clear hown1 hg1 hnil1 hat1; obtain ⟨g1', cap1', hv1', _, k0, k1, k2, k3, hgl1⟩ := href1.at_ HP.out; cases hv1'; have f0 := hfz1 (i * 4); have f1 := hfz1 (i * 4 + 1); have f2 := hfz1 (i * 4 + 2); have f3 := hfz1 (i * 4 + 3); have p0 := b1.cell 0; have p1 := b1.cell 1; have p2 := b1.cell 2; have p3 := b1.cell 3; have q0 := b0.cell 0; have q1 := b0.cell 1; have q2 := b0.cell 2; have r0 := b2.cell 0; have r1 := b2.cell 1; have r2 := b2.cell 2; have fq := b0.frozen 0; have fr0 := b2.frozen 0; have fr1 := b2.frozen 1; have fr2 := b2.frozen 2; simp only [List.getElem?_toArray, List.getElem?_cons_zero, List.getElem?_cons_succ] at p0 p1 p2 p3 q0 q1 q2 r0 r1 r2; have n0 : ¬ g1 = w.heap.size := (by omega); have n1 : ¬ g1 = w.heap.size + 1 := (by omega); have n2 : ¬ g1 = w.heap.size + 1 + 1 := (by omega); have n0' : ¬ w.heap.size = g1 := (by omega); have n2' : ¬ w.heap.size + 1 + 1 = g1 := (by omega); have HREF := Lib.hid href1; have HBE := Lib.hid hbe1; have HB0 := Lib.hid b0; have HB2 := Lib.hid b2; clear hfz1 href1 hbe1 b0 b1 b2)
  have b2 := ((((((((HB2.out.far (p := ⟨g1, i * 4, none⟩) n2' (.string q.k)).far (p := ⟨g1, i * 4 + 1, none⟩) n2' (.int .i64 q.ver)).far (p := ⟨g1, i * 4 + 2, none⟩) n2' (.string q.v)).far (p := ⟨g1, i * 4 + 3, none⟩) n2' (.bool q.mark)).far (p := ⟨w.heap.size, 0, none⟩) (by show w.heap.size + 1 + 1 ≠ w.heap.size; omega) (.slice (some ⟨g1, 0, none⟩) l.length cap1)).set_ 0 (.slice (some ⟨g1, 0, none⟩) l.length cap1)).set_ 1 (.int .i64 room)).set_ 2 (.int .i64 hand))
  simp only [List.setIfInBounds_toArray, List.set_cons_zero, List.set_cons_succ] at b2
  refine bodyPost_ret (results_cell_row rfl _ _ (w.heap.size + 1 + 1) 32 #[.slice (some ⟨g1, 0, none⟩) l.length cap1, .int .i64 room, .int .i64 hand] (0, 0) _ rfl b2 Try.underlying32 rfl (by kernel_rfl)) rfl ?_
  have hrow := row_put' HREF.out HP.out q
  have hz0 : w.heap.size ≤ g1 := by omega
  have hl : (l.set i q).length = l.length := by simp
  refine ⟨⟨_, rfl, ?_⟩, ?_⟩
  · unfold RefAt
    rw [hl]
    refine row_keep hrow fun g' hg' => ?_
    obtain rfl : g1 = g' := by simpa [Value.ownBlock] using hg'
    rw [Below.heap_setCell _ _ _ _ n2, Below.heap_setCell _ _ _ _ n2, Below.heap_setCell _ _ _ _ n2, Below.heap_setCell _ _ _ _ n0]
  · exact (((((((HBE.out.setCell (p := ⟨g1, i * 4, none⟩) hz0 _).setCell (p := ⟨g1, i * 4 + 1, none⟩) hz0 _).setCell (p := ⟨g1, i * 4 + 2, none⟩) hz0 _).setCell (p := ⟨g1, i * 4 + 3, none⟩) hz0 _).setCell (p := ⟨w.heap.size, 0, none⟩) (Nat.le_refl _) _).setCell (p := ⟨w.heap.size + 1 + 1, 0, none⟩) (by show w.heap.size ≤ w.heap.size + 1 + 1; omega) _).setCell (p := ⟨w.heap.size + 1 + 1, 1, none⟩) (by show w.heap.size ≤ w.heap.size + 1 + 1; omega) _).setCell (p := ⟨w.heap.size + 1 + 1, 2, none⟩) (by show w.heap.size ≤ w.heap.size + 1 + 1; omega) _
end Go.Proofs.Ytjnghgalniapjaa
