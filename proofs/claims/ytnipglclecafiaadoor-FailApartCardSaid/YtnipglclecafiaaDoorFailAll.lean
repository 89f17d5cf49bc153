/- fail.All; the reference's text, its lists; numbers. -/
import Derived.Test.YtnipglclecafiaaDoorFailRef
set_option linter.unusedVariables false
set_option linter.unusedSimpArgs false
namespace Go.Proofs.YtnipglclecafiaaDoor
open Go.RowKit

set_option maxHeartbeats 1000000 in
theorem all_calls (A : Option Addr) (cap : Nat) (calls : List ByteArray) (c : Int) (w : World) (h : RowAt sC 1 w A calls) (hlc : calls.length ≤ cap) (hcm : cap ≤ maxLen) (hc : c ≠ 0) (l : List ByteArray) (hl : calls.reverse = l) :
    Calls Tryd.prog 11 #[.slice A calls.length cap, .int .i64 c] w fun e w' => (∃ v, e = .returned v ∧ Chain w' l v c) ∧ Below w.heap.size w w' := by
  have H := Lib.hid h
  have HL := Lib.hid hl
  have hc0 : (c == 0) = false := by simpa using hc
  clear h hl
  go_enter Tryd.func11, Tryd.ntmps11
  go_wp2
  go_loopg [14, 5, 7] calls.length (fun n v14 v5 v7 w' => Hid (∃ (i : Nat), v14 = .int .i64 i ∧ i ≤ calls.length ∧ n = calls.length - i ∧ Chain w' (calls.take i).reverse v5 c ∧ Below w.heap.size w w'))
  case atStart => exact ⟨0, rfl, Nat.zero_le _, rfl, .num c, Below.refl _ w⟩
  case round =>
    obtain ⟨i, rfl, hi, hn, hch, hb⟩ := hrel.out
    clear hrel
    have HN := Lib.hid hn
    have HB := Lib.hid hb
    have HCH := Lib.hid hch
    obtain ⟨t0, x0, rfl⟩ := hch.iface
    clear hn hb hch
    by_cases hlt : i < calls.length
    · obtain ⟨s, hs⟩ : ∃ s, calls[i]? = some s := ⟨calls[i]'hlt, List.getElem?_eq_getElem hlt⟩
      obtain ⟨b, off, rfl, c0⟩ := str_at (H.out.keep HB.out) hs
      have HS := Lib.hid hs
      clear hs
      go_wp2_with (go_at_call 19; refine (wrap_some _ _ _ _).mono ?_; rintro e w' ⟨rfl, rfl⟩)
      go_roundg (calls.length - (i + 1))
      case measure => have := HN.out; omega
      case rel =>
        refine ⟨i + 1, (by first | exact wrap_up _ _ _ hlt hlc hcm | simp), by omega, rfl, ?_, HB.out.alloc HB.out.size _⟩
        rw [take_snoc HS.out, List.reverse_append]
        exact .fail _ s _ _ c (heap_alloc_new wr _) (HCH.out.keep ((Below.refl _ _).alloc (Nat.le_refl _) _))
    · go_wp2
      go_ret
      exact ⟨⟨_, rfl, by have := HCH.out; rwa [List.take_of_length_le (by omega), HL.out] at this⟩, HB.out⟩
theorem all_none (A : Option Addr) (n cap : Nat) (w : World) : Calls Tryd.prog 11 #[.slice A n cap, .int .i64 0] w fun e w' => e = .returned .nilIface ∧ w = w' := by
  go_enter Tryd.func11, Tryd.ntmps11
  go_wp2
  go_ret
  exact ⟨rfl, rfl⟩
theorem number_calls (n : Int) (w : World) (h0 : 0 ≤ n) (h1 : n < 256) : Calls Tryd.prog 10 #[.int .u8 n] w fun e w' => e = .returned (.int .i64 (1 + n % 10)) ∧ w = w' := by
  go_enter Tryd.func10, Tryd.ntmps10
  go_wp2
  go_ret
  exact ⟨rfl, rfl⟩

set_option maxHeartbeats 1000000 in
theorem text_calls (A : Option Addr) (cap : Nat) (calls : List ByteArray) (wd : ByteArray) (w : World) (h : RowAt sC 1 w A calls) (hlc : calls.length ≤ cap) (hcm : cap ≤ maxLen) (hs : ∀ s ∈ calls, s.size ≤ 100) (hlen : calls.length ≤ 100) (hw : wd.size ≤ 100) :
    Calls Tryd.prog 12 #[.slice A calls.length cap, .string wd] w fun e w' => e = .returned (.string (textOf calls wd)) ∧ w = w' := by
  have H := Lib.hid h
  have HSZ := Lib.hid hs
  clear h hs
  go_enter Tryd.func12, Tryd.ntmps12
  go_wp2
  go_loopg [5, 6] calls.length (fun n v5 v6 w' => Hid (∃ (i : Nat) (o : ByteArray), v6 = .int .i64 i ∧ v5 = .string o ∧ i ≤ calls.length ∧ n = calls.length - i ∧ o = textOf (calls.take i) wd ∧ o.size ≤ i * 102 + 100 ∧ w' = w))
  case atStart => exact ⟨0, wd, rfl, rfl, Nat.zero_le _, rfl, rfl, by omega, rfl⟩
  case round =>
    obtain ⟨i, o, rfl, rfl, hi, hn, ho, hoz, rfl⟩ := hrel.out
    clear hrel
    have HN := Lib.hid hn
    have HO := Lib.hid ho
    clear hn ho
    by_cases hlt : i < calls.length
    · obtain ⟨s, hs⟩ : ∃ s, calls[i]? = some s := ⟨calls[i]'hlt, List.getElem?_eq_getElem hlt⟩
      obtain ⟨b, off, rfl, c0⟩ := str_at H.out hs
      have hsz := HSZ.out s (List.mem_of_getElem? hs)
      have hA : ∀ w, (Op.stringOp .add s ⟨#[58, 32]⟩).run Tryd.prog w = .ok (.string (s ++ ⟨#[58, 32]⟩)) w := fun w => run_string_add_sum w _ _ (by have : (⟨#[58, 32]⟩ : ByteArray).size = 2 := rfl; omega)
      have hB : ∀ w, (Op.stringOp .add (s ++ ⟨#[58, 32]⟩) o).run Tryd.prog w = .ok (.string ((s ++ ⟨#[58, 32]⟩) ++ o)) w := fun w => run_string_add_sum w _ _ (by rw [app_size]; have : (⟨#[58, 32]⟩ : ByteArray).size = 2 := rfl; omega)
      have HS := Lib.hid hs
      have hoz2 : ((s ++ ⟨#[58, 32]⟩) ++ o).size ≤ (i + 1) * 102 + 100 := by rw [app_size, app_size]; have : (⟨#[58, 32]⟩ : ByteArray).size = 2 := rfl; omega
      have HOZ := Lib.hid hoz2
      clear hs hoz2
      go_wp2
      go_roundg (calls.length - (i + 1))
      case measure => have := HN.out; omega
      case rel => exact ⟨i + 1, (s ++ ⟨#[58, 32]⟩) ++ o, (by first | exact wrap_up _ _ _ hlt hlc hcm | simp), rfl, by omega, rfl, by rw [take_snoc HS.out, textOf_snoc, HO.out]; rfl, HOZ.out, rfl⟩
    · have hd : calls.take i = calls := List.take_of_length_le (by omega)
      have ho := HO.out
      rw [hd] at ho
      have HO2 := Lib.hid ho
      clear hd ho
      go_wp2
      go_ret
      exact ⟨by rw [← HO2.out]; rfl, rfl⟩

theorem same_drop {x s : ByteArray} {a b : List ByteArray} {i : Nat} (hx : a[i]? = some x) (hs : b[i]? = some s) : (a.drop i = b.drop i) ↔ x = s ∧ a.drop (i + 1) = b.drop (i + 1) := by
  obtain ⟨h1, rfl⟩ := List.getElem?_eq_some_iff.1 hx
  obtain ⟨h2, rfl⟩ := List.getElem?_eq_some_iff.1 hs
  rw [List.drop_eq_getElem_cons h1, List.drop_eq_getElem_cons h2, List.cons.injEq]
set_option maxHeartbeats 1000000 in
theorem same_calls (A B : Option Addr) (ca cb : Nat) (a b : List ByteArray) (w : World) (ha : RowAt sC 1 w A a) (hb : RowAt sC 1 w B b) (hla : a.length ≤ ca) (hca : ca ≤ maxLen) (hlb : b.length ≤ cb) (hcb : cb ≤ maxLen) :
    Calls Tryd.prog 15 #[.slice A a.length ca, .slice B b.length cb] w fun e w' => e = .returned (.bool (decide (a = b))) ∧ Below w.heap.size w w' := by
  have HA := Lib.hid ha
  have HB := Lib.hid hb
  clear ha hb
  by_cases hlen : (a.length : Int) = b.length
  · go_enter Tryd.func15, Tryd.ntmps15
    have hl2 : b.length = a.length := by omega
    rw [hl2]
    clear hlen
    go_wp2
    go_loopg [5] a.length (fun n v5 w' => Hid (∃ (i : Nat), v5 = .int .i64 i ∧ i ≤ a.length ∧ n = a.length - i ∧ (a = b ↔ a.drop i = b.drop i) ∧ Below w.heap.size w w'))
    case atStart => exact ⟨0, rfl, Nat.zero_le _, rfl, by simp, Below.refl _ w⟩
    case round =>
      obtain ⟨i, rfl, hi, hn, hd, hbe⟩ := hrel.out
      clear hrel
      have HN := Lib.hid hn
      have HD := Lib.hid hd
      have HBE := Lib.hid hbe
      clear hn hd hbe
      by_cases hlt : i < a.length
      · have hltb : i < b.length := by omega
        obtain ⟨x, hx⟩ : ∃ s, a[i]? = some s := ⟨a[i]'hlt, List.getElem?_eq_getElem hlt⟩
        obtain ⟨y, hy⟩ : ∃ s, b[i]? = some s := ⟨b[i]'hltb, List.getElem?_eq_getElem hltb⟩
        obtain ⟨ba, oa, rfl, c0⟩ := str_at (HA.out.keep HBE.out) hx
        obtain ⟨bb, ob, rfl, d0⟩ := str_at (HB.out.keep HBE.out) hy
        have hsd := same_drop hx hy
        have HSD := Lib.hid hsd
        clear hx hy hsd
        by_cases hxy : x = y
        · have hq := str_beq_true hxy
          have HXY := Lib.hid hxy
          clear hxy
          go_wp2
          go_quiet (fail)
          go_wp2
          go_roundg (a.length - (i + 1))
          case measure => have := HN.out; omega
          case rel => exact ⟨i + 1, (by first | exact wrap_up _ _ _ hlt hla hca | simp), by omega, rfl, by rw [HD.out, HSD.out]; simp [HXY.out], HBE.out.drewN _⟩
        · have hq := str_beq_false hxy
          have HXY := Lib.hid hxy
          clear hxy
          go_wp2
          go_quiet (fail)
          go_wp2
          go_ret
          exact ⟨by have : ¬ a = b := fun e => HXY.out ((HSD.out.1 (HD.out.1 e)).1); simp [this], HBE.out.drewN _⟩
      · have hab : a = b := HD.out.2 (by rw [List.drop_eq_nil_of_le (by omega), List.drop_eq_nil_of_le (by omega)])
        have HAB := Lib.hid hab
        clear hab
        go_wp2
        go_ret
        exact ⟨by simp [HAB.out], HBE.out⟩
  · have hne : ¬ a = b := fun e => hlen (by rw [e])
    have HNE := Lib.hid hne
    have hbq : ((a.length : Int) == (b.length : Int)) = false := by simpa using hlen
    clear hne
    go_enter Tryd.func15, Tryd.ntmps15
    go_wp2
    go_ret
    exact ⟨by simp [HNE.out], Below.refl _ w⟩

set_option maxHeartbeats 2000000 in
theorem turned_calls (A : Option Addr) (cap : Nat) (l : List ByteArray) (w : World) (h : RowAt sC 1 w A l) (hlc : l.length ≤ cap) (hcm : cap ≤ maxLen) (hlen : l.length ≤ 1000) :
    Calls Tryd.prog 17 #[.slice A l.length cap] w fun e w' => (∃ u, e = .returned u ∧ OwnR w' w.heap.size 9 1 sC u l.reverse) ∧ Below w.heap.size w w' := by
  have H := Lib.hid h
  clear h
  go_enter Tryd.func17, Tryd.ntmps17
  go_wp2
  go_loopg [3, 4] l.length (fun n v3 v4 w' => Hid (∃ (k : Nat) (A2 : Option Addr) (c2 : Nat), v4 = .int .i64 ((k : Int) - 1) ∧ k ≤ l.length ∧ n = k ∧ v3 = .slice A2 (l.drop k).reverse.length c2 ∧ OwnR w' w.heap.size 9 1 sC v3 (l.drop k).reverse ∧ Below w.heap.size w w'))
  case atStart => exact ⟨l.length, none, 0, rfl, Nat.le_refl _, rfl, by simp, by simpa using OwnR.nil w w.heap.size 9 1 sC, Below.refl _ w⟩
  case round =>
    obtain ⟨k, A2, c2, rfl, hk, hn, rfl, ho, hb⟩ := hrel.out
    clear hrel
    have HO := Lib.hid ho
    have HB := Lib.hid hb
    subst hn
    clear ho hb
    obtain ⟨m, hm⟩ : ∃ m, m = (l.drop gk).reverse := ⟨_, rfl⟩
    rw [← hm] at HO ⊢
    have hml : m.length ≤ 1000 := by rw [hm]; simp; omega
    have HM := Lib.hid hm
    clear hm
    by_cases hpos : 0 < gk
    · have hge : (gk : Int) - 1 ≥ 0 := by omega
      obtain ⟨j, rfl⟩ : ∃ j, gk = j + 1 := ⟨gk - 1, by omega⟩
      have hj : ((j + 1 : Nat) : Int) - 1 = (j : Int) := by omega
      rw [hj] at hge ⊢
      obtain ⟨s, hs⟩ : ∃ s, l[j]? = some s := ⟨l[j]'(by omega), List.getElem?_eq_getElem (by omega)⟩
      obtain ⟨b, off, rfl, c0⟩ := str_at (H.out.keep HB.out) hs
      have HS := Lib.hid hs
      have hjl : (j : Int) < l.length := by omega
      clear hs
      go_wp2_with (at_builtin; refine stop_here ?_)
      refine stop_go ?_
      refine wpList_appendR sC 1 sC_len (by omega) sC_one rfl (.tmp 12) (.tmp 17) _ 9 _ 16 rfl Tryd.underlying22 string_info rfl (by omega) w.heap.size _ m (some ⟨wr.heap.size, 0, none⟩) 1 [s] rfl rfl (HO.out.below ((Below.refl _ _).alloc (Nat.le_refl _) _)) (RowAt.one wr s) (by simp; omega) (by have := HB.out.size; simp; omega) ?_
      intro v3 w3 ho3 hg3 hat3
      have hb3 : Below w.heap.size w w3 := (HB.out.alloc HB.out.size _).grown hg3 (by have := HB.out.size; simp; omega) (fun k e => (row_blk HO.out e).1)
      obtain ⟨A3, c3, rfl, _⟩ := ho3.row sC_len
      have hmm : m ++ [s] = (l.drop j).reverse := by
        obtain ⟨h1, rfl⟩ := List.getElem?_eq_some_iff.1 HS.out
        rw [List.drop_eq_getElem_cons h1, List.reverse_cons, HM.out]
      rw [hmm] at ho3 ⊢
      have HO3 := Lib.hid ho3
      have HB3 := Lib.hid hb3
      clear ho3 hg3 hat3 hb3 hmm
      generalize hlr : (l.drop j).reverse.length = lr
      have HLR := Lib.hid hlr
      rw [hlr] at HO3
      clear hlr
      go_wp2
      go_roundg j
      case measure => omega
      case rel => exact ⟨j, A3, c3, by first | rfl | simp, by omega, rfl, by rw [HLR.out], HO3.out, HB3.out⟩
    · have hz : gk = 0 := by omega
      subst hz
      have hge : ¬ ((0 : Nat) : Int) - 1 ≥ 0 := by omega
      have hm0 : m = l.reverse := by rw [HM.out]; simp
      have HM0 := Lib.hid hm0
      clear hm0
      go_wp2
      go_ret
      exact ⟨⟨_, rfl, by rw [← HM0.out]; exact HO.out⟩, HB.out⟩
/-! ### What is nothing -/
theorem error_nil (w : World) : Calls Tryd.prog 22 #[.pointer none] w fun e w' => e = .returned (.string ⟨#[]⟩) ∧ w = w' := by
  go_enter Tryd.func22, Tryd.ntmps22
  go_wp2
  go_ret
  exact ⟨rfl, rfl⟩
theorem unwrap_nil (w : World) : Calls Tryd.prog 21 #[.pointer none] w fun e w' => e = .returned .nilIface ∧ w = w' := by
  go_enter Tryd.func21, Tryd.ntmps21
  go_wp2
  go_ret
  exact ⟨rfl, rfl⟩
theorem error_bare {g : Nat} {s : ByteArray} {w : World} (h : Blk w g 45 #[.string s, .nilIface]) : Calls Tryd.prog 22 #[.pointer (some ⟨g, 0, none⟩)] w fun e w' => e = .returned (.string ⟨#[]⟩) ∧ w = w' := by
  have x1 := h.cell 1
  have hlt := h.lt
  simp only [List.getElem?_toArray, List.getElem?_cons_zero, List.getElem?_cons_succ] at x1
  clear h
  go_enter Tryd.func22, Tryd.ntmps22
  go_wp2
  go_ret
  exact ⟨rfl, rfl⟩
end Go.Proofs.YtnipglclecafiaaDoor
