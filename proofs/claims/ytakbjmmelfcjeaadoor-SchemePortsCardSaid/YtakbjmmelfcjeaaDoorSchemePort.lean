/- scheme.Port: what it tells, or an error that is the number 4. -/
import Derived.Test.YtakbjmmelfcjeaaDoorSchemeHand
import Derived.Test.YtakbjmmelfcjeaaDoorErr
import Derived.Test.YtakbjmmelfcjeaaDoorPSchemex4
set_option linter.unusedVariables false
set_option linter.unusedSimpArgs false
namespace Go.Proofs.YtakbjmmelfcjeaaDoor
open Go.RowKit Go.Proofs.YtakbjmmelfcjeaaDoorW.PrintWords Go.Proofs.YtakbjmmelfcjeaaDoor.PScheme

def defaultOf (s : ByteArray) : Int := (scheme_Default.f s).getD 0
theorem default_some (s : ByteArray) : scheme_Default.f s = some (defaultOf s) := by
  unfold defaultOf scheme_Default.f
  repeat (first | rfl | split)
def portR : List UInt8 → Int → Option Int
  | [], n => some n
  | c :: l, n => if 48 ≤ (c.toNat : Int) ∧ (c.toNat : Int) ≤ 57 ∧ n * 10 + c.toNat - 48 ≤ 65535 then portR l (n * 10 + c.toNat - 48) else none
theorem portR_range : ∀ (l : List UInt8) (n m : Int), 0 ≤ n → n ≤ 65535 → portR l n = some m → 0 ≤ m ∧ m ≤ 65535
  | [], n, m, h0, h1, h => by simp only [portR, Option.some.injEq] at h; omega
  | c :: l, n, m, h0, h1, h => by
    unfold portR at h
    split at h
    · exact portR_range l _ m (by omega) (by omega) h
    · cases h
def portOf (s sc : ByteArray) : Option Int := (portR s.data.toList 0).map fun n => if s.size = 0 ∨ n = defaultOf sc then -1 else n
theorem bytes_at {s : ByteArray} {k : Nat} (h : k < s.size) : ∃ c, s.data.toList[k]? = some c := ⟨_, List.getElem?_eq_getElem (by simpa using h)⟩

def callW : ByteArray := ⟨#[115, 99, 104, 101, 109, 101]⟩
/-- Whatever the text: the number, or the error. -/
def PortEnd (w : World) (r : Option Int) (e : Ending) (w' : World) : Prop :=
  (∃ n, r = some n ∧ e = .returned (.tuple #[.int .i64 n, .nilIface]) ∧ Below w.heap.size w w') ∨ (r = none ∧ ∃ v, e = .returned (.tuple #[.int .i64 0, v]) ∧ Chain w' [callW] v 4 ∧ Below w.heap.size w w')
def PortRel (s : ByteArray) (w : World) (k : Nat) (n : Int) (w' : World) : Prop :=
  k ≤ s.size ∧ 0 ≤ n ∧ n ≤ 65535 ∧ portR (s.data.toList.drop k) n = portR s.data.toList 0 ∧ BytesB w' w.heap.size s.data.toList ∧ Below w.heap.size w w'

set_option maxHeartbeats 2000000 in
theorem port_calls (s sc : ByteArray) (w : World) (hs : s.size ≤ 140737488351232) :
    Calls Tryd.prog 5 #[.string s, .string sc] w (PortEnd w (portOf s sc)) := by
  have hcv := fun w s => Lib.run_convert_string_bytes (P := Tryd.prog) w 9 37 5 s Tryd.underlying9 Tryd.underlying37 Tryd.underlying5
  have HB := Lib.hid (bytesWorld_below w 5 s)
  have HN := Lib.hid (BytesB.new w s)
  have HL := Lib.hid (show s.data.toList.length = s.size by simp)
  go_enter Tryd.func5, Tryd.ntmps5
  go_wp2
  generalize Lib.bytesWorld w 5 s = W at HB HN ⊢
  generalize grownCap w s.size 0 5 = cap
  clear hcv
  go_loopg [12, 6] s.size (fun m v12 v6 w' => Hid (∃ (k : Nat) (n : Int), v12 = .int .i64 k ∧ v6 = .int .i64 n ∧ m = s.size - k ∧ PortRel s w k n w'))
  case atStart => exact ⟨0, 0, rfl, rfl, rfl, Nat.zero_le _, by omega, by omega, rfl, HN.out, HB.out⟩
  case round =>
    obtain ⟨k, n, rfl, rfl, hm, hk, h0, h1, hr, hb, hw⟩ := hrel.out
    clear hrel HB HN
    have HM := Lib.hid hm
    have HR := Lib.hid hr
    have HBB := Lib.hid hb
    have HW := Lib.hid hw
    clear hm hr hb hw
    by_cases hlt : k < s.size
    · obtain ⟨c, hc⟩ := bytes_at hlt
      have hcell := HBB.out.cell hc
      have hcl : (c.toNat : Int) < 256 := by have := c.toNat_lt; omega
      have hd : portR (s.data.toList.drop k) n = if 48 ≤ (c.toNat : Int) ∧ (c.toNat : Int) ≤ 57 ∧ n * 10 + c.toNat - 48 ≤ 65535 then portR (s.data.toList.drop (k + 1)) (n * 10 + c.toNat - 48) else none := by
        obtain ⟨hl, hg⟩ := List.getElem?_eq_some_iff.1 hc
        rw [List.drop_eq_getElem_cons hl, hg]
        rfl
      have HD := Lib.hid hd
      clear hd hc
      have hbad : ¬ (48 ≤ (c.toNat : Int) ∧ (c.toNat : Int) ≤ 57 ∧ n * 10 + c.toNat - 48 ≤ 65535) → Hid (portOf s sc = none) := fun hn => Lib.hid (by
        have h1 := HR.out
        have h2 := HD.out
        rw [if_neg hn] at h2
        rw [h2] at h1
        simp [portOf, ← h1])
      have HBAD := Lib.hid hbad
      clear hbad
      by_cases c1 : (c.toNat : Int) < 48
      · go_wp2_with (go_at_call 13; refine (wrap_some _ _ _ _).mono ?_; rintro e w' ⟨rfl, rfl⟩)
        go_ret2
        exact .inr ⟨(HBAD.out (by omega)).out, _, rfl, .fail _ _ _ _ _ (heap_alloc_new _ _) (.num 4), HW.out.alloc HW.out.size _⟩
      · by_cases c2 : (57 : Int) < (c.toNat : Int)
        · go_wp2_with (go_at_call 13; refine (wrap_some _ _ _ _).mono ?_; rintro e w' ⟨rfl, rfl⟩)
          go_ret2
          exact .inr ⟨(HBAD.out (by omega)).out, _, rfl, .fail _ _ _ _ _ (heap_alloc_new _ _) (.num 4), HW.out.alloc HW.out.size _⟩
        · by_cases c3 : (65535 : Int) < n * 10 + (c.toNat : Int) - 48
          · go_wp2_with (go_at_call 13; refine (wrap_some _ _ _ _).mono ?_; rintro e w' ⟨rfl, rfl⟩)
            go_ret2
            exact .inr ⟨(HBAD.out (by omega)).out, _, rfl, .fail _ _ _ _ _ (heap_alloc_new _ _) (.num 4), HW.out.alloc HW.out.size _⟩
          · go_wp2
            go_roundg (s.size - (k + 1))
            case measure => have := HM.out; omega
            case rel => exact ⟨k + 1, _, by simp, rfl, rfl, by omega, by omega, by omega, by have := HD.out; rw [if_pos (by omega)] at this; rw [← this]; exact HR.out, HBB.out, HW.out⟩
    · obtain rfl : k = s.size := by omega
      have hp : portR s.data.toList 0 = some n := by
        have := HR.out
        rw [List.drop_eq_nil_of_le (by rw [HL.out]; exact Nat.le_refl _)] at this
        exact this.symm
      have HP := Lib.hid (show portOf s sc = some (if s.size = 0 ∨ n = defaultOf sc then -1 else n) by simp [portOf, hp])
      clear hp
      by_cases z : s.size = 0
      · have hz : s.toList = [] := by rw [ByteArray.toList_eq]; have := HL.out; rw [z] at this; exact List.length_eq_zero_iff.1 this
        have hz2 : s.toList.isEmpty = true := by rw [hz]; rfl
        have HZ := Lib.hid z
        clear z
        go_wp2_with (go_at_call 11; refine (scheme_Default.calls _ _ _ (default_some sc)).mono ?_; rintro e w' ⟨rfl, ⟨n2, rfl⟩⟩)
        go_ret2
        exact .inl ⟨_, HP.out, by rw [if_pos (.inl HZ.out)]; rfl, HW.out⟩
      · have hz : ¬ s.toList = [] := by rw [ByteArray.toList_eq]; intro e; have := HL.out; rw [e] at this; exact z this.symm
        have hz2 : s.toList.isEmpty = false := by simpa using hz
        have HZ := Lib.hid z
        clear z
        by_cases hd : n = defaultOf sc
        · have hd2 : (n == defaultOf sc) = true := by simpa using hd
          have HD := Lib.hid hd
          clear hd
          go_wp2_with (go_at_call 11; refine (scheme_Default.calls _ _ _ (default_some sc)).mono ?_; rintro e w' ⟨rfl, ⟨n2, rfl⟩⟩)
          go_ret2
          exact .inl ⟨_, HP.out, by rw [if_pos (.inr HD.out)]; rfl, pw_below_drewN HW.out n2⟩
        · have hd2 : (n == defaultOf sc) = false := by simpa using hd
          have HD := Lib.hid hd
          clear hd
          go_wp2_with (go_at_call 11; refine (scheme_Default.calls _ _ _ (default_some sc)).mono ?_; rintro e w' ⟨rfl, ⟨n2, rfl⟩⟩)
          go_ret2
          exact .inl ⟨_, HP.out, by rw [if_neg (by rintro (e | e); exact HZ.out e; exact HD.out e)]; rfl, pw_below_drewN HW.out n2⟩

theorem port_ok (s sc : ByteArray) (n : Int) (w : World) (hs : s.size ≤ 140737488351232) (h : portOf s sc = some n) :
    Calls Tryd.prog 5 #[.string s, .string sc] w fun e w' => e = .returned (.tuple #[.int .i64 n, .nilIface]) ∧ Below w.heap.size w w' := by
  refine (port_calls s sc w hs).mono ?_
  rintro e w' (⟨m, hm, he, hb⟩ | ⟨hn, _⟩)
  · rw [h] at hm
    obtain rfl := Option.some.inj hm
    exact ⟨he, hb⟩
  · rw [h] at hn; cases hn
theorem port_err (s sc : ByteArray) (w : World) (hs : s.size ≤ 140737488351232) (h : portOf s sc = none) :
    Calls Tryd.prog 5 #[.string s, .string sc] w fun e w' => ∃ t x, e = .returned (.tuple #[.int .i64 0, .iface t x]) ∧ Chain w' [callW] (.iface t x) 4 ∧ Below w.heap.size w w' := by
  refine (port_calls s sc w hs).mono ?_
  rintro e w' (⟨m, hm, he, hb⟩ | ⟨_, v, he, hc, hb⟩)
  · rw [h] at hm; cases hm
  · obtain ⟨t, x, rfl⟩ := hc.iface
    exact ⟨t, x, he, hc, hb⟩
end Go.Proofs.YtakbjmmelfcjeaaDoor
