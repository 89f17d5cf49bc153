/- table.New. -/
import Derived.Test.YtlpjjbkpoaohnaaDoorTabTell
import Derived.Test.YtlpjjbkpoaohnaaDoorSlotsNew
import Derived.Test.YtlpjjbkpoaohnaaDoorRowR
import Derived.Deep.LoopGhost
set_option linter.unusedVariables false
set_option linter.unusedSimpArgs false
namespace Go.Proofs.YtlpjjbkpoaohnaaDoor
open Go.RowKit Slots

theorem tnew_bad (room n last : Int) (w : World) (h : (room < 1 ∨ 4096 < room ∨ last = 0) ∨ ((1 ≤ room ∧ room ≤ 4096 ∧ 1 ≤ last) ∧ (n < 1 ∨ 64 < n))) :
    Calls Tryd.prog 7 #[.int .i64 room, .int .i64 n, .int .u64 last] w fun e w' => (∃ v, e = .returned (.tuple #[.pointer none, v]) ∧ ErrT w' (some 1) v) ∧ Below w.heap.size w w' := by
  rcases h with h | ⟨⟨h1, h2, h3⟩, h4⟩
  · have HC := Lib.hid (slots_new_bad room last w h)
    clear h
    go_enter Tryd.func7, Tryd.ntmps7
    go_wp2_with fail
    refine HC.out.mono ?_
    rintro e w1 ⟨⟨v, rfl, hv⟩, hb⟩
    obtain ⟨t0, x0, hx0⟩ := hv.iface
    subst hx0
    have HB := Lib.hid hb
    clear hv hb HC
    go_wp2_with fail
    refine (wrap_num _ 1 _).mono ?_
    rintro e w2 ⟨N, rfl, hc, hb⟩
    have HC := Lib.hid hc
    have HB2 := Lib.hid (belowOn HB.out HB.out.size hb)
    clear hc hb
    go_wp2_with fail
    go_ret2
    exact ⟨⟨_, rfl, _, HC.out⟩, HB2.out⟩
  · obtain ⟨rm, rfl⟩ := Int.eq_ofNat_of_zero_le (show 0 ≤ room by omega)
    have HC := Lib.hid (slots_new_ok rm last w (by omega) (by omega) h3)
    clear h1 h2 h3
    by_cases h5 : n < 1
    · clear h4
      go_enter Tryd.func7, Tryd.ntmps7
      go_wp2_with fail
      refine HC.out.mono ?_
      rintro e w1 ⟨⟨b, g, rfl, _, _, _⟩, hb⟩
      have HB := Lib.hid hb
      clear hb HC
      go_wp2_with fail
      refine (wrap_num _ 1 _).mono ?_
      rintro e w2 ⟨N, rfl, hc, hb⟩
      have HC := Lib.hid hc
      have HB2 := Lib.hid (belowOn HB.out HB.out.size hb)
      clear hc hb
      go_wp2_with fail
      go_ret2
      exact ⟨⟨_, rfl, _, HC.out⟩, HB2.out⟩
    · have h6 : 64 < n := by omega
      clear h4
      go_enter Tryd.func7, Tryd.ntmps7
      go_wp2_with fail
      refine HC.out.mono ?_
      rintro e w1 ⟨⟨b, g, rfl, _, _, _⟩, hb⟩
      have HB := Lib.hid hb
      clear hb HC
      go_wp2_with fail
      refine (wrap_num _ 1 _).mono ?_
      rintro e w2 ⟨N, rfl, hc, hb⟩
      have HC := Lib.hid hc
      have HB2 := Lib.hid (belowOn HB.out HB.out.size hb)
      clear hc hb
      go_wp2_with fail
      go_ret2
      exact ⟨⟨_, rfl, _, HC.out⟩, HB2.out⟩

def mapC (m : Nat) : List Value := [.map (some m)]
/-- What stands while the stripes are laid. -/
structure NwSt (w0 w : World) (b sb sg yb : Nat) (v : Value) (ms : List Nat) (s : St) : Prop where
  blk : Blk w b 84 #[.pointer (some ⟨sb, 0, none⟩), v, .map (some yb)]
  slots : At w sb sg s
  by_ : MapS (Value.int .i64) w yb ([] : List (Int × Value))
  st : ∀ m ∈ ms, MapK Value.string w m ([] : List (ByteArray × Value)) ∧ w0.heap.size ≤ m
  nd : ms.Nodup
  ny : yb ∉ ms
  own : OwnR w w0.heap.size 85 1 mapC v ms
  be : Below w0.heap.size w0 w
  lo : w0.heap.size ≤ b ∧ w0.heap.size ≤ sb ∧ w0.heap.size ≤ sg ∧ w0.heap.size ≤ yb
theorem NwSt.push {w0 w w5 : World} {b sb sg yb : Nat} {v v' : Value} {ms : List Nat} {s : St} (h : NwSt w0 w b sb sg yb v ms s)
    (ho : OwnR w5 w0.heap.size 85 1 mapC v' (ms ++ [w.heap.size]))
    (hg : ((w.alloc (.map #[] 0)).alloc (.cells #[.map (some w.heap.size)] 85)).grownBy w5 v.ownBlock) (hat : v'.ownBlock = v.ownBlock ∨ v'.ownBlock = some ((w.alloc (.map #[] 0)).alloc (.cells #[.map (some w.heap.size)] 85)).heap.size) :
    Blk w5 b 84 #[.pointer (some ⟨sb, 0, none⟩), v, .map (some yb)] ∧ NwSt w0 (w5.setCell ⟨b, 1, none⟩ v') b sb sg yb v' (ms ++ [w.heap.size]) s := by
  have hk : Below w.heap.size w ((w.alloc (.map #[] 0)).alloc (.cells #[.map (some w.heap.size)] 85)) := ((Below.refl _ w).alloc (Nat.le_refl _) _).alloc (by simp) _
  have hown : ∀ g, v.ownBlock = some g → w0.heap.size ≤ g ∧ ∃ cur, Blk w g 85 cur := fun g e => row_blk h.own e
  have hblk : ∀ {g : Nat} {T : TypeId} {cs : Array Value}, Blk w g T cs → T ≠ 85 → Blk w5 g T cs := fun hb hT => (hb.keep hk).grown hg (fun e => by
    obtain ⟨_, cur, hc⟩ := hown _ e.symm
    exact absurd rfl (hb.ne_ hc hT))
  have hmap : ∀ {κ : Type} {kf : κ → Value} {g : Nat} {kvs : List (κ × Value)}, MapK kf w g kvs → w5.heap[g]? = w.heap[g]? := fun hm => (hg.block _ (Nat.lt_of_lt_of_le hm.lt hk.size) (fun e => by
    obtain ⟨_, cur, hc⟩ := hown _ e.symm
    exact hm.ne_blk hc rfl)).trans (hk.block _ hm.lt)
  have hb5 := hblk h.blk (by decide)
  have hb5' : Below w0.heap.size w0 w5 := ((h.be.alloc h.be.size _).alloc (Nat.le_trans h.be.size (by simp)) _).grown hg (Nat.le_trans h.be.size hk.size) (fun k e => (hown k e).1)
  have hnew : MapK Value.string w5 w.heap.size ([] : List (ByteArray × Value)) := ((MapK.new Value.string w).alloc (.cells #[.map (some w.heap.size)] 85)).grown hg (fun e => by
    obtain ⟨_, cur, hc⟩ := hown _ e.symm
    exact absurd hc.lt (by omega))
  have hvb : ∀ g, v'.ownBlock = some g → g ≠ b := fun g e e1 => by
    subst e1
    rcases hat with h1 | h1
    · obtain ⟨_, cur, hc⟩ := hown g (h1 ▸ e)
      exact absurd rfl (h.blk.ne_ hc (by decide))
    · rw [e] at h1
      injection h1 with h1
      have := h.blk.lt
      simp at h1
      omega
  refine ⟨hb5, ?_, ?_, ?_, ?_, ?_, ?_, ?_, ?_, h.lo⟩
  · have := hb5.set_ 1 v'
    simpa using this
  · have h1 : sb ≠ b := fun e => absurd e (h.slots.blk.ne_ h.blk (by decide))
    have h2 : sg ≠ b := fun e => absurd e (h.slots.row.ne_ h.blk (by decide))
    exact ⟨h.slots.ne, (hblk h.slots.blk (by decide)).far (p := ⟨b, 1, none⟩) h1 _, (hblk h.slots.row (by decide)).far (p := ⟨b, 1, none⟩) h2 _⟩
  · exact (h.by_.at_ (hmap h.by_.k)).at_ (Below.heap_setCell _ _ _ _ (h.by_.k.ne_blk h.blk))
  · intro m hm
    rcases List.mem_append.1 hm with hm | hm
    · exact ⟨((h.st m hm).1.at_ (hmap (h.st m hm).1)).far (p := ⟨b, 1, none⟩) ((h.st m hm).1.ne_blk h.blk) _, (h.st m hm).2⟩
    · rw [List.mem_singleton] at hm
      subst hm
      exact ⟨hnew.far (p := ⟨b, 1, none⟩) (by have := h.blk.lt; simp; omega) _, h.be.size⟩
  · rw [List.nodup_append]
    refine ⟨h.nd, by simp, fun a ha c hc e => ?_⟩
    rw [List.mem_singleton] at hc
    subst hc
    subst e
    exact absurd (h.st _ ha).1.lt (by omega)
  · intro hm
    rcases List.mem_append.1 hm with hm | hm
    · exact h.ny hm
    · rw [List.mem_singleton] at hm
      have := h.by_.lt
      omega
  · exact row_keep ho fun g e => Below.heap_setCell _ _ _ _ (hvb g e)
  · exact hb5'.setCell (p := ⟨b, 1, none⟩) h.lo.1 v'
theorem NwSt.done {w0 w : World} {b sb sg yb : Nat} {v : Value} {ms : List Nat} {s : St} (h : NwSt w0 w b sb sg yb v ms s) (h1 : 1 ≤ ms.length) :
    ∃ A : TA, A.b = b ∧ TbM w A ⟨s, [], ms.length⟩ ∧ (∀ i, A.fp i → w0.heap.size ≤ i) := by
  obtain ⟨g, cap, cur, rfl, hb, _, _, hgb, hc, _⟩ := row_form h.own h1
  refine ⟨⟨b, sb, sg, g, yb, cap, ms⟩, rfl, ⟨h.blk, h.slots, ⟨cur, hgb, fun j m hm => ?_⟩, rfl, h.by_, fun j m hm => (h.st m (List.mem_of_getElem? hm)).1, by simp, h.nd, h.ny⟩, ?_⟩
  · have := hc (j * 1 + 0) _ ((flat_get (f := mapC) (sz := 1) (fun _ => rfl) ms j 0 m hm (by omega)).trans rfl)
    rw [cell_of_row w g _ cur _ (0, 0) hgb] at this
    simpa using this
  · rintro i (rfl | rfl | rfl | hi)
    · exact h.lo.2.1
    · exact h.lo.2.2.1
    · exact h.lo.2.2.2
    · exact (h.st i hi).2
theorem rowAt_blk {α : Type} {f : α → List Value} {sz : Nat} (hf : ∀ x, (f x).length = sz) {w : World} {g : Nat} {t : TypeId} {cs : Array Value} {l : List α} (h : Blk w g t cs) (hc : cs.toList = l.flatMap f) : RowAt f sz w (some ⟨g, 0, none⟩) l := by
  intro i x hx
  refine ⟨g, 0, rfl, fun j u hu => ?_⟩
  have hj : j < sz := by rw [← hf x]; exact (List.getElem?_eq_some_iff.1 hu).1
  rw [h.cell, Nat.zero_add, ← Array.getElem?_toList, hc, flat_get hf l i j x hx hj]
  exact hu
theorem map_info : (Tryd.prog.info? 85).map (fun i => (i.zero, i.size, i.bytes)) = some (some (.map none), 1, 8) := by kernel_rfl

set_option maxRecDepth 100000 in
set_option maxHeartbeats 2000000 in
theorem tnew_ok (room n : Nat) (last : Int) (w : World) (h1 : 1 ≤ room) (h2 : room ≤ 4096) (h3 : 1 ≤ last) (h4 : 1 ≤ n) (h5 : n ≤ 64) :
    Calls Tryd.prog 7 #[.int .i64 room, .int .i64 n, .int .u64 last] w fun e w' => (∃ A : TA, e = .returned (.tuple #[.pointer (some ⟨A.b, 0, none⟩), .nilIface]) ∧ TbM w' A (newTb room last n) ∧ w.heap.size ≤ A.b ∧ ∀ i, A.fp i → w.heap.size ≤ i) ∧ Below w.heap.size w w' := by
  have hmm := @run_makeMap Tryd.prog
  have HC := Lib.hid (slots_new_ok room last w h1 h2 h3)
  have e1 : decide ((n : Int) < 1) = false := by simp; omega
  have e2 : decide ((64 : Int) < (n : Int)) = false := by simp; omega
  clear h1 h2 h3
  go_enter Tryd.func7, Tryd.ntmps7
  go_wp2_with fail
  refine HC.out.mono ?_
  rintro e w1 ⟨⟨sb, sg, rfl, hA, l1, l2⟩, hb⟩
  have HA := Lib.hid hA
  have HB := Lib.hid hb
  have HL := Lib.hid (show w.heap.size ≤ sb ∧ w.heap.size ≤ sg from ⟨l1, l2⟩)
  clear hA hb HC l1 l2
  go_wp2_with fail
  have N0 : NwSt w ((w1.alloc (.map #[] 0)).alloc (.cells #[.pointer (some ⟨sb, 0, none⟩), .slice none 0 0, .map (some w1.heap.size)] 84)) (w1.heap.size + 1) sb sg w1.heap.size (.slice none 0 0) [] (newSt room last) := by
    have hk : Below w1.heap.size w1 ((w1.alloc (.map #[] 0)).alloc (.cells #[.pointer (some ⟨sb, 0, none⟩), .slice none 0 0, .map (some w1.heap.size)] 84)) := ((Below.refl _ w1).alloc (Nat.le_refl _) _).alloc (by simp) _
    refine ⟨?_, HA.out.keep hk, ?_, by simp, by simp, by simp, OwnR.nil _ _ _ _ _, belowOn HB.out HB.out.size hk, by have := HB.out.size; omega, HL.out.1, HL.out.2, HB.out.size⟩
    · have := Blk.new (w1.alloc (.map #[] 0)) 84 #[.pointer (some ⟨sb, 0, none⟩), .slice none 0 0, .map (some w1.heap.size)]
      simpa using this
    · exact (MapS.new (Value.int .i64) w1).keep ((Below.refl _ _).alloc (Nat.le_refl _) _)
  have N0 := Lib.hid N0
  generalize (w1.alloc (.map #[] 0)).alloc (.cells #[.pointer (some ⟨sb, 0, none⟩), .slice none 0 0, .map (some w1.heap.size)] 84) = W at N0 ⊢
  generalize w1.heap.size + 1 = b at N0 ⊢
  clear HA HB HL
  go_loopg [34] n (fun k v34 w' => Hid (∃ (i : Nat) (v : Value) (ms : List Nat), v34 = .int .i64 i ∧ i ≤ n ∧ k = n - i ∧ ms.length = i ∧ NwSt w w' b sb sg w1.heap.size v ms (newSt room last)))
  case atStart => exact ⟨0, _, [], rfl, Nat.zero_le _, rfl, rfl, N0.out⟩
  case round =>
    obtain ⟨i, v, ms, rfl, hi, hk, hms, hN⟩ := hrel.out
    clear hrel N0
    have HK := Lib.hid hk
    have HMS := Lib.hid hms
    have b1 := hN.blk.cell 1
    have bf := hN.blk.frozen
    simp only [List.getElem?_toArray, List.getElem?_cons_zero, List.getElem?_cons_succ] at b1
    have HN := Lib.hid hN
    have hlt := hN.blk.lt
    clear hk hms hN
    by_cases hin : i < n
    · go_wp2_with (at_builtin; refine stop_here ?_)
      refine stop_go ?_
      refine wpList_appendR mapC 1 (fun _ => rfl) (by omega) (fun x u hu => by simp [mapC] at hu; subst hu; rfl) rfl (.tmp 40) (.tmp 42) _ 85 _ 8 rfl Tryd.underlying82 map_info rfl (by omega) w.heap.size v ms (some ⟨wr.heap.size + 1, 0, none⟩) 1 [wr.heap.size] rfl rfl (HN.out.own.below (((Below.refl _ wr).alloc (Nat.le_refl _) _).alloc (by simp) _)) ?_ (by have := HMS.out; simp; omega) (by have := HN.out.be.size; simp; omega) ?_
      · refine rowAt_blk (f := mapC) (fun _ => rfl) (t := 85) (cs := #[.map (some wr.heap.size)]) ?_ rfl
        have := Blk.new (wr.alloc (.map #[] 0)) 85 #[.map (some wr.heap.size)]
        simpa using this
      · intro v' w5 ho5 hg5 hat5
        obtain ⟨hb5, N5⟩ := HN.out.push ho5 hg5 hat5
        obtain ⟨A5, c5, hv5, _⟩ := ho5.row (f := mapC) (fun _ => rfl)
        subst hv5
        have b15 := hb5.cell 1
        have bf5 := hb5.frozen
        simp only [List.getElem?_toArray, List.getElem?_cons_zero, List.getElem?_cons_succ] at b15
        have HN5 := Lib.hid N5
        clear ho5 hg5 hat5 hb5 N5
        go_wp2_with fail
        go_roundg (n - (i + 1))
        case measure => have := HK.out; omega
        case rel =>
          have h9 := HN5.out
          rw [show (ms ++ [wr.heap.size]).length = ms.length + 1 by simp] at h9
          exact ⟨i + 1, _, ms ++ [wr.heap.size], by go_num, by omega, rfl, by rw [List.length_append, HMS.out]; rfl, h9⟩
    · obtain rfl : i = n := by omega
      go_wp2_with fail
      go_ret2
      obtain ⟨A, hA, hT, hlo⟩ := HN.out.done (by rw [HMS.out]; exact h4)
      rw [HMS.out] at hT
      exact ⟨⟨A, by rw [hA]; rfl, hT, by rw [hA]; exact HN.out.lo.1, hlo⟩, HN.out.be⟩
end Go.Proofs.YtlpjjbkpoaohnaaDoor
