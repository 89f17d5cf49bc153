/- The law KeyApart, walked. -/
import Derived.Test.YtkeegffhfmhgfaaDoorKeyBackPure
import Derived.Test.YtkeegffhfmhgfaaDoorKeyAwake
import Derived.Test.YtkeegffhfmhgfaaDoorKeyTellsWalk
import Derived.Test.YtkeegffhfmhgfaaDoorBase
import Derived.Deep.RegionHeld3
set_option linter.unusedVariables false
set_option linter.unusedSimpArgs false
namespace Go.Proofs.YtkeegffhfmhgfaaDoor
open Go.RowKit Go.Proofs.YtkeegffhfmhgfaaDoorW.PrintWords Go.Proofs.YtkeegffhfmhgfaaDoor.Plain Go.Proofs.YtkeegffhfmhgfaaDoor.PKey

theorem beq_iff {x y a c : ByteArray} (h : x = y ↔ a = c) : (x.toList == y.toList) = (a.toList == c.toList) := by
  by_cases e : a = c
  · rw [h.2 e, e]; simp
  · have e2 := fun i => e (h.1 i)
    rw [beq_eq_false_iff_ne.2 fun i => e (toList_inj i), beq_eq_false_iff_ne.2 fun i => e2 (toList_inj i)]
theorem ofB_apart {a b c d : ByteArray} {h k : Bool} (ha : a.size ≤ 100) (hb : b.size ≤ 100) (hc : c.size ≤ 100) (hd : d.size ≤ 100) :
    ofB a h b = ofB c k d ↔ b = d ∧ h = k ∧ (h = true → a = c) := by
  constructor
  · intro e
    have h1 := backR_of a b h (by omega) (by omega)
    have h2 := backR_of c d k (by omega) (by omega)
    rw [e, h2] at h1
    injection h1 with e1 e
    injection e with e2 e
    injection e with e3 _
    subst e2 e3
    refine ⟨rfl, rfl, ?_⟩
    rintro rfl
    exact e1.symm
  · rintro ⟨rfl, rfl, e⟩
    cases h with
    | true => rw [e rfl]
    | false => rfl

set_option maxHeartbeats 4000000 in
theorem apart_calls (a b c d : ByteArray) (h k : Bool) (w : World) (hk : KW w) :
    Calls Tryd.prog 6 #[.agg #[.string a, .string b], .agg #[.string c, .string d], .agg #[.bool h, .bool k]] w fun e w' => e = .returned (.bool true) ∧ Below w.heap.size w w' := by
  have HK := Lib.hid hk
  clear hk
  go_enter Tryd.func6, Tryd.ntmps6
  go_wp2_with fail
  have B0 : Below w.heap.size w (((w.alloc (.cells #[.string a, .string b] 32)).alloc (.cells #[.string c, .string d] 32)).alloc (.cells #[.bool h, .bool k] 33)) := (((Below.refl _ _).alloc (Nat.le_refl _) _).alloc (by simp) _).alloc (by simp; omega) _
  have b1 := ((Blk.new w 32 #[.string a, .string b]).alloc (.cells #[.string c, .string d] 32)).alloc (.cells #[.bool h, .bool k] 33)
  have b2 := (Blk.new (w.alloc (.cells #[.string a, .string b] 32)) 32 #[.string c, .string d]).alloc (.cells #[.bool h, .bool k] 33)
  have b3 := Blk.new ((w.alloc (.cells #[.string a, .string b] 32)).alloc (.cells #[.string c, .string d] 32)) 33 #[.bool h, .bool k]
  rw [show (w.alloc (.cells #[.string a, .string b] 32)).heap.size = w.heap.size + 1 by simp] at b2
  rw [show ((w.alloc (.cells #[.string a, .string b] 32)).alloc (.cells #[.string c, .string d] 32)).heap.size = w.heap.size + 1 + 1 by simp] at b3
  have K0 := Lib.hid (HK.out.keep B0)
  have H0 := Lib.hid B0
  have B1 := Lib.hid b1
  have B2 := Lib.hid b2
  have B3 := Lib.hid b3
  clear B0 b1 b2 b3
  generalize (((w.alloc (.cells #[.string a, .string b] 32)).alloc (.cells #[.string c, .string d] 32)).alloc (.cells #[.bool h, .bool k] 33)) = w0 at *
  refine (awake_calls _ K0.out).mono ?_
  rintro e w1 ⟨rfl, hb1⟩
  have H1 := Lib.hid (below_step H0.out hb1)
  have K1 := Lib.hid (K0.out.keep hb1)
  have c0 := (B1.out.keep hb1).cell 0
  have c1 := (B1.out.keep hb1).cell 1
  have c2 := (B2.out.keep hb1).cell 0
  have c3 := (B2.out.keep hb1).cell 1
  have c4 := (B3.out.keep hb1).cell 0
  have c5 := (B3.out.keep hb1).cell 1
  simp only [List.getElem?_toArray, List.getElem?_cons_zero, List.getElem?_cons_succ] at c0 c1 c2 c3 c4 c5
  have D1 := Lib.hid (B1.out.keep hb1)
  have D2 := Lib.hid (B2.out.keep hb1)
  have D3 := Lib.hid (B3.out.keep hb1)
  clear hb1 B1 B2 B3 H0 K0 HK
  have stop : ∀ (e : Ending) (w' : World), e = .returned (.bool true) ∧ w' = w1 → e = .returned (.bool true) ∧ Below w.heap.size w w' := by
    rintro e w' ⟨rfl, rfl⟩
    exact ⟨rfl, H1.out⟩
  by_cases ha : (100 : Int) < (a.size : Int)
  · go_wp2_with fail
    go_ret
    exact ⟨rfl, H1.out⟩
  by_cases hb : (100 : Int) < (b.size : Int)
  · go_wp2_with fail
    go_ret
    exact ⟨rfl, H1.out⟩
  by_cases hc : (100 : Int) < (c.size : Int)
  · go_wp2_with fail
    go_ret
    exact ⟨rfl, H1.out⟩
  by_cases hd : (100 : Int) < (d.size : Int)
  · go_wp2_with fail
    go_ret
    exact ⟨rfl, H1.out⟩
  have AP := Lib.hid (ofB_apart (a := a) (b := b) (c := c) (d := d) (h := h) (k := k) (by omega) (by omega) (by omega) (by omega))
  have O1 := Lib.hid (fun (w : World) (hk : KW w) => of_calls a b h w hk (by omega) (by omega))
  have O2 := Lib.hid (fun (w : World) (hk : KW w) => of_calls c d k w hk (by omega) (by omega))
  have X : Hid ((b = d → h = k → h = true → ((ofB a h b).toList == (ofB c k d).toList) = (a.toList == c.toList)) ∧ (b = d → h = k → h = false → ((ofB a h b).toList == (ofB c k d).toList) = true) ∧ (b = d → ¬ h = k → ((ofB a h b).toList == (ofB c k d).toList) = false) ∧ (¬ b = d → ((ofB a h b).toList == (ofB c k d).toList) = false)) := by
    refine Lib.hid ⟨fun e1 e2 e3 => beq_iff ?_, fun e1 e2 e3 => ?_, fun e1 e2 => beq_eq_false_iff_ne.2 fun i => ?_, fun e1 => beq_eq_false_iff_ne.2 fun i => ?_⟩
    · rw [AP.out]; exact ⟨fun i => i.2.2 e3, fun i => ⟨e1, e2, fun _ => i⟩⟩
    · rw [AP.out.2 ⟨e1, e2, fun i => by rw [e3] at i; cases i⟩]; simp
    · exact e2 (AP.out.1 (toList_inj i)).2.1
    · exact e1 (AP.out.1 (toList_inj i)).1
  clear AP
  generalize ofB a h b = x at *
  generalize ofB c k d = y at *
  have E : Hid ((b = d → b.toList = d.toList) ∧ (¬ b = d → (b.toList == d.toList) = false)) := Lib.hid ⟨fun e => by rw [e], fun e => beq_eq_false_iff_ne.2 fun i => e (toList_inj i)⟩
  by_cases e1 : b = d
  · obtain ⟨X1, X2, X3, _⟩ := X.out
    have X1 := X1 e1
    have X2 := X2 e1
    have X3 := X3 e1
    have e2 := E.out.1 e1
    clear X E e1
    cases h <;> cases k
    · have XX := Lib.hid (X2 rfl rfl)
      clear X1 X2 X3
      go_wp2_with fail
      go_region_held3 (fun w' => w'.cell? ⟨w.heap.size, 0, none⟩ = some (.string a) ∧ w'.cell? ⟨w.heap.size, 1, none⟩ = some (.string b) ∧ w'.cell? ⟨w.heap.size + 1, 0, none⟩ = some (.string c) ∧ w'.cell? ⟨w.heap.size + 1, 1, none⟩ = some (.string d) ∧ w'.cell? ⟨w.heap.size + 1 + 1, 0, none⟩ = some (.bool false) ∧ w'.cell? ⟨w.heap.size + 1 + 1, 1, none⟩ = some (.bool false))
        (first | exact ⟨c0, c1, c2, c3, c4, c5⟩ | exact ⟨c06, c16, c26, c36, c46, c56⟩ | exact ⟨c07, c17, c27, c37, c47, c57⟩ | go_keep)
        (first
          | (go_at_call_of 9 (Value.string a); refine (O1.out _ (K1.out.keep (Below.refl _ _).drew)).mono ?_; rintro e w6 ⟨rfl, hb6⟩; have H6 := Lib.hid (below_step H1.out.drew hb6); have K6 := Lib.hid ((K1.out.keep (Below.refl _ _).drew).keep hb6); have c06 := (D1.out.drew.keep hb6).cell 0; have c16 := (D1.out.drew.keep hb6).cell 1; have c26 := (D2.out.drew.keep hb6).cell 0; have c36 := (D2.out.drew.keep hb6).cell 1; have c46 := (D3.out.drew.keep hb6).cell 0; have c56 := (D3.out.drew.keep hb6).cell 1; simp only [List.getElem?_toArray, List.getElem?_cons_zero, List.getElem?_cons_succ] at c06 c16 c26 c36 c46 c56; have D16 := Lib.hid (D1.out.drew.keep hb6); have D26 := Lib.hid (D2.out.drew.keep hb6); have D36 := Lib.hid (D3.out.drew.keep hb6); clear hb6)
          | (go_at_call_of 9 (Value.string c); refine (O2.out _ K6.out).mono ?_; rintro e w7 ⟨rfl, hb7⟩; have H7 := Lib.hid (below_step H6.out hb7); have c07 := (D16.out.keep hb7).cell 0; have c17 := (D16.out.keep hb7).cell 1; have c27 := (D26.out.keep hb7).cell 0; have c37 := (D26.out.keep hb7).cell 1; have c47 := (D36.out.keep hb7).cell 0; have c57 := (D36.out.keep hb7).cell 1; simp only [List.getElem?_toArray, List.getElem?_cons_zero, List.getElem?_cons_succ] at c07 c17 c27 c37 c47 c57; clear hb7))
      go_wp2_with fail
      go_ret
      exact ⟨by simp [XX.out], H7.out⟩
    · have XX := Lib.hid (X3 (by decide))
      clear X1 X2 X3
      go_wp2_with fail
      go_region_held3 (fun w' => w'.cell? ⟨w.heap.size, 0, none⟩ = some (.string a) ∧ w'.cell? ⟨w.heap.size, 1, none⟩ = some (.string b) ∧ w'.cell? ⟨w.heap.size + 1, 0, none⟩ = some (.string c) ∧ w'.cell? ⟨w.heap.size + 1, 1, none⟩ = some (.string d) ∧ w'.cell? ⟨w.heap.size + 1 + 1, 0, none⟩ = some (.bool false) ∧ w'.cell? ⟨w.heap.size + 1 + 1, 1, none⟩ = some (.bool true))
        (first | exact ⟨c0, c1, c2, c3, c4, c5⟩ | exact ⟨c06, c16, c26, c36, c46, c56⟩ | exact ⟨c07, c17, c27, c37, c47, c57⟩ | go_keep)
        (first
          | (go_at_call_of 9 (Value.string a); refine (O1.out _ (K1.out.keep (Below.refl _ _).drew)).mono ?_; rintro e w6 ⟨rfl, hb6⟩; have H6 := Lib.hid (below_step H1.out.drew hb6); have K6 := Lib.hid ((K1.out.keep (Below.refl _ _).drew).keep hb6); have c06 := (D1.out.drew.keep hb6).cell 0; have c16 := (D1.out.drew.keep hb6).cell 1; have c26 := (D2.out.drew.keep hb6).cell 0; have c36 := (D2.out.drew.keep hb6).cell 1; have c46 := (D3.out.drew.keep hb6).cell 0; have c56 := (D3.out.drew.keep hb6).cell 1; simp only [List.getElem?_toArray, List.getElem?_cons_zero, List.getElem?_cons_succ] at c06 c16 c26 c36 c46 c56; have D16 := Lib.hid (D1.out.drew.keep hb6); have D26 := Lib.hid (D2.out.drew.keep hb6); have D36 := Lib.hid (D3.out.drew.keep hb6); clear hb6)
          | (go_at_call_of 9 (Value.string c); refine (O2.out _ K6.out).mono ?_; rintro e w7 ⟨rfl, hb7⟩; have H7 := Lib.hid (below_step H6.out hb7); have c07 := (D16.out.keep hb7).cell 0; have c17 := (D16.out.keep hb7).cell 1; have c27 := (D26.out.keep hb7).cell 0; have c37 := (D26.out.keep hb7).cell 1; have c47 := (D36.out.keep hb7).cell 0; have c57 := (D36.out.keep hb7).cell 1; simp only [List.getElem?_toArray, List.getElem?_cons_zero, List.getElem?_cons_succ] at c07 c17 c27 c37 c47 c57; clear hb7))
      go_wp2_with fail
      go_ret
      exact ⟨by simp [XX.out], H7.out⟩
    · have XX := Lib.hid (X3 (by decide))
      clear X1 X2 X3
      go_wp2_with fail
      go_region_held3 (fun w' => w'.cell? ⟨w.heap.size, 0, none⟩ = some (.string a) ∧ w'.cell? ⟨w.heap.size, 1, none⟩ = some (.string b) ∧ w'.cell? ⟨w.heap.size + 1, 0, none⟩ = some (.string c) ∧ w'.cell? ⟨w.heap.size + 1, 1, none⟩ = some (.string d) ∧ w'.cell? ⟨w.heap.size + 1 + 1, 0, none⟩ = some (.bool true) ∧ w'.cell? ⟨w.heap.size + 1 + 1, 1, none⟩ = some (.bool false))
        (first | exact ⟨c0, c1, c2, c3, c4, c5⟩ | exact ⟨c06, c16, c26, c36, c46, c56⟩ | exact ⟨c07, c17, c27, c37, c47, c57⟩ | go_keep)
        (first
          | (go_at_call_of 9 (Value.string a); refine (O1.out _ (K1.out.keep (Below.refl _ _).drew)).mono ?_; rintro e w6 ⟨rfl, hb6⟩; have H6 := Lib.hid (below_step H1.out.drew hb6); have K6 := Lib.hid ((K1.out.keep (Below.refl _ _).drew).keep hb6); have c06 := (D1.out.drew.keep hb6).cell 0; have c16 := (D1.out.drew.keep hb6).cell 1; have c26 := (D2.out.drew.keep hb6).cell 0; have c36 := (D2.out.drew.keep hb6).cell 1; have c46 := (D3.out.drew.keep hb6).cell 0; have c56 := (D3.out.drew.keep hb6).cell 1; simp only [List.getElem?_toArray, List.getElem?_cons_zero, List.getElem?_cons_succ] at c06 c16 c26 c36 c46 c56; have D16 := Lib.hid (D1.out.drew.keep hb6); have D26 := Lib.hid (D2.out.drew.keep hb6); have D36 := Lib.hid (D3.out.drew.keep hb6); clear hb6)
          | (go_at_call_of 9 (Value.string c); refine (O2.out _ K6.out).mono ?_; rintro e w7 ⟨rfl, hb7⟩; have H7 := Lib.hid (below_step H6.out hb7); have c07 := (D16.out.keep hb7).cell 0; have c17 := (D16.out.keep hb7).cell 1; have c27 := (D26.out.keep hb7).cell 0; have c37 := (D26.out.keep hb7).cell 1; have c47 := (D36.out.keep hb7).cell 0; have c57 := (D36.out.keep hb7).cell 1; simp only [List.getElem?_toArray, List.getElem?_cons_zero, List.getElem?_cons_succ] at c07 c17 c27 c37 c47 c57; clear hb7))
      go_wp2_with fail
      go_ret
      exact ⟨by simp [XX.out], H7.out⟩
    · have XX := Lib.hid (X1 rfl rfl)
      clear X1 X2 X3
      go_wp2_with fail
      go_region_held3 (fun w' => w'.cell? ⟨w.heap.size, 0, none⟩ = some (.string a) ∧ w'.cell? ⟨w.heap.size, 1, none⟩ = some (.string b) ∧ w'.cell? ⟨w.heap.size + 1, 0, none⟩ = some (.string c) ∧ w'.cell? ⟨w.heap.size + 1, 1, none⟩ = some (.string d) ∧ w'.cell? ⟨w.heap.size + 1 + 1, 0, none⟩ = some (.bool true) ∧ w'.cell? ⟨w.heap.size + 1 + 1, 1, none⟩ = some (.bool true))
        (first | exact ⟨c0, c1, c2, c3, c4, c5⟩ | exact ⟨c06, c16, c26, c36, c46, c56⟩ | exact ⟨c07, c17, c27, c37, c47, c57⟩ | go_keep)
        (first
          | (go_at_call_of 9 (Value.string a); refine (O1.out _ (K1.out.keep (Below.refl _ _).drew)).mono ?_; rintro e w6 ⟨rfl, hb6⟩; have H6 := Lib.hid (below_step H1.out.drew hb6); have K6 := Lib.hid ((K1.out.keep (Below.refl _ _).drew).keep hb6); have c06 := (D1.out.drew.keep hb6).cell 0; have c16 := (D1.out.drew.keep hb6).cell 1; have c26 := (D2.out.drew.keep hb6).cell 0; have c36 := (D2.out.drew.keep hb6).cell 1; have c46 := (D3.out.drew.keep hb6).cell 0; have c56 := (D3.out.drew.keep hb6).cell 1; simp only [List.getElem?_toArray, List.getElem?_cons_zero, List.getElem?_cons_succ] at c06 c16 c26 c36 c46 c56; have D16 := Lib.hid (D1.out.drew.keep hb6); have D26 := Lib.hid (D2.out.drew.keep hb6); have D36 := Lib.hid (D3.out.drew.keep hb6); clear hb6)
          | (go_at_call_of 9 (Value.string c); refine (O2.out _ K6.out).mono ?_; rintro e w7 ⟨rfl, hb7⟩; have H7 := Lib.hid (below_step H6.out hb7); have c07 := (D16.out.keep hb7).cell 0; have c17 := (D16.out.keep hb7).cell 1; have c27 := (D26.out.keep hb7).cell 0; have c37 := (D26.out.keep hb7).cell 1; have c47 := (D36.out.keep hb7).cell 0; have c57 := (D36.out.keep hb7).cell 1; simp only [List.getElem?_toArray, List.getElem?_cons_zero, List.getElem?_cons_succ] at c07 c17 c27 c37 c47 c57; clear hb7))
      go_wp2_with fail
      go_ret
      exact ⟨by simp [XX.out], H7.out⟩
  · have X4 := X.out.2.2.2 e1
    have XX := Lib.hid X4
    have e2 := E.out.2 e1
    have e3 : ¬ b.toList = d.toList := beq_eq_false_iff_ne.1 e2
    clear X E e1 X4
    go_wp2_with fail
    go_region_held3 (fun w' => w'.cell? ⟨w.heap.size, 0, none⟩ = some (.string a) ∧ w'.cell? ⟨w.heap.size, 1, none⟩ = some (.string b) ∧ w'.cell? ⟨w.heap.size + 1, 0, none⟩ = some (.string c) ∧ w'.cell? ⟨w.heap.size + 1, 1, none⟩ = some (.string d) ∧ w'.cell? ⟨w.heap.size + 1 + 1, 0, none⟩ = some (.bool h) ∧ w'.cell? ⟨w.heap.size + 1 + 1, 1, none⟩ = some (.bool k))
      (first | exact ⟨c0, c1, c2, c3, c4, c5⟩ | exact ⟨c06, c16, c26, c36, c46, c56⟩ | exact ⟨c07, c17, c27, c37, c47, c57⟩ | go_keep)
      (first
        | (go_at_call_of 9 (Value.string a); refine (O1.out _ (K1.out.keep (Below.refl _ _).drew)).mono ?_; rintro e w6 ⟨rfl, hb6⟩; have H6 := Lib.hid (below_step H1.out.drew hb6); have K6 := Lib.hid ((K1.out.keep (Below.refl _ _).drew).keep hb6); have c06 := (D1.out.drew.keep hb6).cell 0; have c16 := (D1.out.drew.keep hb6).cell 1; have c26 := (D2.out.drew.keep hb6).cell 0; have c36 := (D2.out.drew.keep hb6).cell 1; have c46 := (D3.out.drew.keep hb6).cell 0; have c56 := (D3.out.drew.keep hb6).cell 1; simp only [List.getElem?_toArray, List.getElem?_cons_zero, List.getElem?_cons_succ] at c06 c16 c26 c36 c46 c56; have D16 := Lib.hid (D1.out.drew.keep hb6); have D26 := Lib.hid (D2.out.drew.keep hb6); have D36 := Lib.hid (D3.out.drew.keep hb6); clear hb6)
        | (go_at_call_of 9 (Value.string c); refine (O2.out _ K6.out).mono ?_; rintro e w7 ⟨rfl, hb7⟩; have H7 := Lib.hid (below_step H6.out hb7); have c07 := (D16.out.keep hb7).cell 0; have c17 := (D16.out.keep hb7).cell 1; have c27 := (D26.out.keep hb7).cell 0; have c37 := (D26.out.keep hb7).cell 1; have c47 := (D36.out.keep hb7).cell 0; have c57 := (D36.out.keep hb7).cell 1; simp only [List.getElem?_toArray, List.getElem?_cons_zero, List.getElem?_cons_succ] at c07 c17 c27 c37 c47 c57; clear hb7))
    go_wp2_with fail
    go_ret
    exact ⟨by simp [XX.out], H7.out⟩
end Go.Proofs.YtkeegffhfmhgfaaDoor
