/- record.Text. -/
import Derived.Test.YtgljkgkmbfhgiaaDoorRecPathU
import Derived.Deep.DeepCutAuto
import Derived.Deep.CutBlock
set_option linter.unusedVariables false
set_option linter.unusedSimpArgs false
set_option maxRecDepth 100000
namespace Go.Proofs.YtgljkgkmbfhgiaaDoor
open Go.RowKit Four Six Rec

theorem textU_len {u : UrlV} (h : u.short) (ho : u.ok) (bare : Bool) : (textU u bare).length ≤ 3000 := by
  have h1 := authT_len h ho
  have h2 := pathU_len h
  have h3 := when_len (hosted u) (47 :: 47 :: authT u)
  have h4 := when_len (dotted u) [47, 46]
  have h5 := when_len u.hasq (63 :: u.query.data.toList)
  have h6 := when_len (!bare && u.hasf) (35 :: u.frag.data.toList)
  have h7 := h.scheme
  have h8 := h.query
  have h9 := h.frag
  simp only [List.length_cons, List.length_nil] at h3 h4 h5 h6
  have z1 : u.scheme.data.toList.length = u.scheme.size := by simp
  have z2 : u.query.data.toList.length = u.query.size := by simp
  have z3 : u.frag.data.toList.length = u.frag.size := by simp
  unfold textU
  simp only [List.length_append, List.length_singleton]
  omega

/-- The statement of record.Text that draws its order. -/
noncomputable def textOps : Array Oper := match Tryd.f15.body with
  | some (.seq _ (.seq _ (.seq _ (.seq (.region _ ops _) _)))) => ops
  | _ => #[]
set_option maxHeartbeats 16000000 in
theorem text_region_f (scheme user pass nm query frag : ByteArray) (k : Int) (v4 a0 a1 a2 a3 a4 a5 a6 a7 : Nat) (port : Int) (opq hasq hasf : Bool) (path : List ByteArray) (A : Option Addr) (c : Nat) (hd em : Bool) (w W : World) (TA PT W1 W2 W3 W4 E1 E2 E3 E4 E5 E6 : ByteArray) (KU : Hid (Blk W w.heap.size 29 #[.string scheme, .string user, .string pass, .int .i64 k, .string nm, .int .u32 v4, .int .u16 a0, .int .u16 a1, .int .u16 a2, .int .u16 a3, .int .u16 a4, .int .u16 a5, .int .u16 a6, .int .u16 a7, .int .i64 port, .bool opq, .slice A path.length c, .bool hasq, .string query, .bool hasf, .string frag])) (HB : Hid (Below w.heap.size w W)) (HF : Hid (FW w))
    (HA : Hid (∀ (W : World), FW W → Calls Tryd.prog 37 #[.agg #[.string scheme, .string user, .string pass, .int .i64 k, .string nm, .int .u32 v4, .int .u16 a0, .int .u16 a1, .int .u16 a2, .int .u16 a3, .int .u16 a4, .int .u16 a5, .int .u16 a6, .int .u16 a7, .int .i64 port, .bool opq, .slice A path.length c, .bool hasq, .string query, .bool hasf, .string frag]] W fun e w' => e = .returned (.string TA) ∧ Below W.heap.size W w'))
    (HP : Hid (∀ (W : World), Below w.heap.size w W → Calls Tryd.prog 17 #[.agg #[.string scheme, .string user, .string pass, .int .i64 k, .string nm, .int .u32 v4, .int .u16 a0, .int .u16 a1, .int .u16 a2, .int .u16 a3, .int .u16 a4, .int .u16 a5, .int .u16 a6, .int .u16 a7, .int .i64 port, .bool opq, .slice A path.length c, .bool hasq, .string query, .bool hasf, .string frag]] W fun e w' => e = .returned (.string PT) ∧ Below W.heap.size W w'))
    (HW1 : Hid (∀ (W : World) (g : Nat), g < W.heap.size → RowAt textC 1 W (some ⟨g, 0, none⟩) [⟨#[47, 47]⟩, TA] → Calls Tryd.prog 36 #[.bool hd, .slice (some ⟨g, 0, none⟩) ([⟨#[47, 47]⟩, TA] : List ByteArray).length ([⟨#[47, 47]⟩, TA] : List ByteArray).length] W fun e w' => e = .returned (.string W1) ∧ Below W.heap.size W w')) (HW2 : Hid (∀ (W : World) (g : Nat), g < W.heap.size → RowAt textC 1 W (some ⟨g, 0, none⟩) [⟨#[47, 46]⟩] → Calls Tryd.prog 36 #[.bool em, .slice (some ⟨g, 0, none⟩) ([⟨#[47, 46]⟩] : List ByteArray).length ([⟨#[47, 46]⟩] : List ByteArray).length] W fun e w' => e = .returned (.string W2) ∧ Below W.heap.size W w')) (HW3 : Hid (∀ (W : World) (g : Nat), g < W.heap.size → RowAt textC 1 W (some ⟨g, 0, none⟩) [⟨#[63]⟩, query] → Calls Tryd.prog 36 #[.bool hasq, .slice (some ⟨g, 0, none⟩) ([⟨#[63]⟩, query] : List ByteArray).length ([⟨#[63]⟩, query] : List ByteArray).length] W fun e w' => e = .returned (.string W3) ∧ Below W.heap.size W w')) (HW4 : Hid (∀ (W : World) (g : Nat), g < W.heap.size → RowAt textC 1 W (some ⟨g, 0, none⟩) [⟨#[35]⟩, frag] → Calls Tryd.prog 36 #[.bool hasf, .slice (some ⟨g, 0, none⟩) ([⟨#[35]⟩, frag] : List ByteArray).length ([⟨#[35]⟩, frag] : List ByteArray).length] W fun e w' => e = .returned (.string W4) ∧ Below W.heap.size W w'))
    (s1 : ∀ w, (Op.stringOp .add scheme ⟨#[58]⟩).run Tryd.prog w = .ok (.string E1) w) (s2 : ∀ w, (Op.stringOp .add E1 W1).run Tryd.prog w = .ok (.string E2) w) (s3 : ∀ w, (Op.stringOp .add E2 W2).run Tryd.prog w = .ok (.string E3) w) (s4 : ∀ w, (Op.stringOp .add E3 PT).run Tryd.prog w = .ok (.string E4) w) (s5 : ∀ w, (Op.stringOp .add E4 W3).run Tryd.prog w = .ok (.string E5) w) (s6 : ∀ w, (Op.stringOp .add E5 W4).run Tryd.prog w = .ok (.string E6) w)
    (id : Nat) (Q : Exit → Act → World → Prop) (a0' : Act) (hz0 : a0'.tmps.size = 65) (t1 : a0'.tmps.getD 1 undef = .bool false) (t2 : a0'.tmps.getD 2 undef = .pointer (some ⟨w.heap.size, 0, none⟩)) (t5 : a0'.tmps.getD 5 undef = .bool hd) (t6 : a0'.tmps.getD 6 undef = .bool em)
    (hq : ∀ a' w', a'.tmps.getD 4 undef = .string E6 → a'.defers = a0'.defers → Below W.heap.size W w' → Q .normal a' w') : (Code.region id textOps true).wp Tryd.prog Q a0' W := by
    dsimp only [textOps, Tryd.f15]
    refine wp_region_RI [.is (.pointer (some ⟨w.heap.size, 0, none⟩)), .is (.string scheme), .is (.string E1), .is (.bool hd), .is (.agg #[.string scheme, .string user, .string pass, .int .i64 k, .string nm, .int .u32 v4, .int .u16 a0, .int .u16 a1, .int .u16 a2, .int .u16 a3, .int .u16 a4, .int .u16 a5, .int .u16 a6, .int .u16 a7, .int .i64 port, .bool opq, .slice A path.length c, .bool hasq, .string query, .bool hasf, .string frag]), .is (.string TA), .row [⟨#[47, 47]⟩, TA], .is (.string W1), .is (.string E2), .is (.bool em), .row [⟨#[47, 46]⟩], .is (.string W2), .is (.string E3), .is (.agg #[.string scheme, .string user, .string pass, .int .i64 k, .string nm, .int .u32 v4, .int .u16 a0, .int .u16 a1, .int .u16 a2, .int .u16 a3, .int .u16 a4, .int .u16 a5, .int .u16 a6, .int .u16 a7, .int .i64 port, .bool opq, .slice A path.length c, .bool hasq, .string query, .bool hasf, .string frag]), .is (.string PT), .is (.string E4), .is (.pointer (some ⟨w.heap.size, 17, none⟩)), .is (.bool hasq), .is (.pointer (some ⟨w.heap.size, 18, none⟩)), .is (.string query), .row [⟨#[63]⟩, query], .is (.string W3), .is (.string E5), .is (.bool false), .is (.bool true), .is (.bool true), .is (.pointer (some ⟨w.heap.size, 19, none⟩)), .is (.bool hasf), .is (.bool hasf), .is (.pointer (some ⟨w.heap.size, 20, none⟩)), .is (.string frag), .row [⟨#[35]⟩, frag], .is (.string W4), .is (.string E6), .is (.string E6)] (by kernel_rfl) (by rw [hz0]; kernel_rfl) (by kernel_rfl) ?_ ?_
    · intro i o sp ho hs a w2 hbe htz hkept hdep
      have hi : i < 35 := (Array.getElem?_eq_some_iff.1 ho).1
      have KW := KU.out.keep hbe
      have hsz : a.tmps.size = 65 := htz.trans hz0
      have hb2 : a.tmps.getD 2 undef = .pointer (some ⟨w.heap.size, 0, none⟩) := (hkept 2 (noDst_spec (by kernel_rfl))).trans t2
      have hb1 : a.tmps.getD 1 undef = .bool false := (hkept 1 (noDst_spec (by kernel_rfl))).trans t1
      have hb5 : a.tmps.getD 5 undef = .bool hd := (hkept 5 (noDst_spec (by kernel_rfl))).trans t5
      have hb6 : a.tmps.getD 6 undef = .bool em := (hkept 6 (noDst_spec (by kernel_rfl))).trans t6
      rcases (by omega : i = 0 ∨ i = 1 ∨ i = 2 ∨ i = 3 ∨ i = 4 ∨ i = 5 ∨ i = 6 ∨ i = 7 ∨ i = 8 ∨ i = 9 ∨ i = 10 ∨ i = 11 ∨ i = 12 ∨ i = 13 ∨ i = 14 ∨ i = 15 ∨ i = 16 ∨ i = 17 ∨ i = 18 ∨ i = 19 ∨ i = 20 ∨ i = 21 ∨ i = 22 ∨ i = 23 ∨ i = 24 ∨ i = 25 ∨ i = 26 ∨ i = 27 ∨ i = 28 ∨ i = 29 ∨ i = 30 ∨ i = 31 ∨ i = 32 ∨ i = 33 ∨ i = 34) with rfl | rfl | rfl | rfl | rfl | rfl | rfl | rfl | rfl | rfl | rfl | rfl | rfl | rfl | rfl | rfl | rfl | rfl | rfl | rfl | rfl | rfl | rfl | rfl | rfl | rfl | rfl | rfl | rfl | rfl | rfl | rfl | rfl | rfl | rfl
      · as_aux_lemma =>
        obtain rfl := Option.some.inj ho
        obtain rfl := Option.some.inj hs
        have e2 : a.tmps.getD 2 undef = .pointer (some ⟨w.heap.size, 0, none⟩) := hb2
        exact wpOp_plain rfl rfl (u := .pointer (some ⟨w.heap.size, 0, none⟩)) (fun ρ hc hf ht => by have f2 := (ht 2).trans e2; clear ht; simp [go_sem, *]) ⟨_, rfl, rfl, Below.refl _ _⟩
      · as_aux_lemma =>
        obtain rfl := Option.some.inj ho
        obtain rfl := Option.some.inj hs
        have e31 : a.tmps.getD 31 undef = .pointer (some ⟨w.heap.size, 0, none⟩) := hdep 0 _ _ _ rfl rfl rfl (by kernel_rfl)
        exact wpOp_plain rfl rfl (u := .string scheme) (fun ρ hc hf ht => by have f31 := (ht 31).trans e31; clear ht; have q0 := (KW.cell 0); simp [go_sem, *]) ⟨_, rfl, rfl, Below.refl _ _⟩
      · as_aux_lemma =>
        obtain rfl := Option.some.inj ho
        obtain rfl := Option.some.inj hs
        have e32 : a.tmps.getD 32 undef = .string scheme := hdep 1 _ _ _ rfl rfl rfl (by kernel_rfl)
        exact wpOp_plain rfl rfl (u := .string E1) (fun ρ hc hf ht => by have f32 := (ht 32).trans e32; clear ht; have q0 := s1; simp [go_sem, *]) ⟨_, rfl, rfl, Below.refl _ _⟩
      · as_aux_lemma =>
        obtain rfl := Option.some.inj ho
        obtain rfl := Option.some.inj hs
        have e5 : a.tmps.getD 5 undef = .bool hd := hb5
        exact wpOp_plain rfl rfl (u := .bool hd) (fun ρ hc hf ht => by have f5 := (ht 5).trans e5; clear ht; simp [go_sem, *]) ⟨_, rfl, rfl, Below.refl _ _⟩
      · as_aux_lemma =>
        obtain rfl := Option.some.inj ho
        obtain rfl := Option.some.inj hs
        have e2 : a.tmps.getD 2 undef = .pointer (some ⟨w.heap.size, 0, none⟩) := hb2
        exact wpOp_plain rfl rfl (u := .agg #[.string scheme, .string user, .string pass, .int .i64 k, .string nm, .int .u32 v4, .int .u16 a0, .int .u16 a1, .int .u16 a2, .int .u16 a3, .int .u16 a4, .int .u16 a5, .int .u16 a6, .int .u16 a7, .int .i64 port, .bool opq, .slice A path.length c, .bool hasq, .string query, .bool hasf, .string frag]) (fun ρ hc hf ht => load_row _ rfl ((ht 2).trans e2) KW Tryd.underlying29 (by kernel_rfl)) ⟨_, rfl, rfl, Below.refl _ _⟩
      · as_aux_lemma =>
        obtain rfl := Option.some.inj ho
        obtain rfl := Option.some.inj hs
        have e35 : a.tmps.getD 35 undef = .agg #[.string scheme, .string user, .string pass, .int .i64 k, .string nm, .int .u32 v4, .int .u16 a0, .int .u16 a1, .int .u16 a2, .int .u16 a3, .int .u16 a4, .int .u16 a5, .int .u16 a6, .int .u16 a7, .int .i64 port, .bool opq, .slice A path.length c, .bool hasq, .string query, .bool hasf, .string frag] := hdep 4 _ _ _ rfl rfl rfl (by kernel_rfl)
        refine wpOp_calls (f := 37) (args := #[.agg #[.string scheme, .string user, .string pass, .int .i64 k, .string nm, .int .u32 v4, .int .u16 a0, .int .u16 a1, .int .u16 a2, .int .u16 a3, .int .u16 a4, .int .u16 a5, .int .u16 a6, .int .u16 a7, .int .i64 port, .bool opq, .slice A path.length c, .bool hasq, .string query, .bool hasf, .string frag]]) rfl rfl (fun ρ hc hf ht => by have f35 := (ht 35).trans e35; clear ht; simp [go_sem, *]) ?_
        exact (HA.out w2 (HF.out.keep (belowOn HB.out HB.out.size hbe))).mono fun e w' h => ⟨_, h.1, _, rfl, rfl, h.2⟩
      · as_aux_lemma =>
        obtain rfl := Option.some.inj ho
        obtain rfl := Option.some.inj hs
        have e36 : a.tmps.getD 36 undef = .string TA := hdep 5 _ _ _ rfl rfl rfl (by kernel_rfl)
        refine wpOp_plain rfl rfl (u := .slice (some ⟨w2.heap.size, 0, none⟩) 2 2) (w' := w2.alloc (.cells ([⟨#[47, 47]⟩, TA].map Value.string).toArray 9)) (fun ρ hc hf ht => by have f36 := (ht 36).trans e36; clear ht; simp [go_sem, *]) ⟨_, rfl, ⟨_, rfl, row_new _ _ _, by simp⟩, (Below.refl _ _).alloc (Nat.le_refl _) _⟩
      · as_aux_lemma =>
        obtain rfl := Option.some.inj ho
        obtain rfl := Option.some.inj hs
        have e34 : a.tmps.getD 34 undef = .bool hd := hdep 3 _ _ _ rfl rfl rfl (by kernel_rfl)
        obtain ⟨g37, e37, r37, l37⟩ : Sp.ok w2 (a.tmps.getD 37 undef) (.row [⟨#[47, 47]⟩, TA]) := hdep 6 _ _ _ rfl rfl rfl (by kernel_rfl)
        refine wpOp_calls (f := 36) (args := #[.bool hd, .slice (some ⟨g37, 0, none⟩) 2 2]) rfl rfl (fun ρ hc hf ht => by have f34 := (ht 34).trans e34; have f37 := (ht 37).trans e37; clear ht; simp [go_sem, *]) ?_
        exact (HW1.out w2 g37 l37 r37).mono fun e w' h => ⟨_, h.1, _, rfl, rfl, h.2⟩
      · as_aux_lemma =>
        obtain rfl := Option.some.inj ho
        obtain rfl := Option.some.inj hs
        have e33 : a.tmps.getD 33 undef = .string E1 := hdep 2 _ _ _ rfl rfl rfl (by kernel_rfl)
        have e38 : a.tmps.getD 38 undef = .string W1 := hdep 7 _ _ _ rfl rfl rfl (by kernel_rfl)
        exact wpOp_plain rfl rfl (u := .string E2) (fun ρ hc hf ht => by have f33 := (ht 33).trans e33; have f38 := (ht 38).trans e38; clear ht; have q0 := s2; simp [go_sem, *]) ⟨_, rfl, rfl, Below.refl _ _⟩
      · as_aux_lemma =>
        obtain rfl := Option.some.inj ho
        obtain rfl := Option.some.inj hs
        have e6 : a.tmps.getD 6 undef = .bool em := hb6
        exact wpOp_plain rfl rfl (u := .bool em) (fun ρ hc hf ht => by have f6 := (ht 6).trans e6; clear ht; simp [go_sem, *]) ⟨_, rfl, rfl, Below.refl _ _⟩
      · as_aux_lemma =>
        obtain rfl := Option.some.inj ho
        obtain rfl := Option.some.inj hs
        refine wpOp_plain rfl rfl (u := .slice (some ⟨w2.heap.size, 0, none⟩) 1 1) (w' := w2.alloc (.cells ([⟨#[47, 46]⟩].map Value.string).toArray 9)) (fun ρ hc hf ht => by clear ht; simp [go_sem, *]) ⟨_, rfl, ⟨_, rfl, row_new _ _ _, by simp⟩, (Below.refl _ _).alloc (Nat.le_refl _) _⟩
      · as_aux_lemma =>
        obtain rfl := Option.some.inj ho
        obtain rfl := Option.some.inj hs
        have e40 : a.tmps.getD 40 undef = .bool em := hdep 9 _ _ _ rfl rfl rfl (by kernel_rfl)
        obtain ⟨g41, e41, r41, l41⟩ : Sp.ok w2 (a.tmps.getD 41 undef) (.row [⟨#[47, 46]⟩]) := hdep 10 _ _ _ rfl rfl rfl (by kernel_rfl)
        refine wpOp_calls (f := 36) (args := #[.bool em, .slice (some ⟨g41, 0, none⟩) 1 1]) rfl rfl (fun ρ hc hf ht => by have f40 := (ht 40).trans e40; have f41 := (ht 41).trans e41; clear ht; simp [go_sem, *]) ?_
        exact (HW2.out w2 g41 l41 r41).mono fun e w' h => ⟨_, h.1, _, rfl, rfl, h.2⟩
      · as_aux_lemma =>
        obtain rfl := Option.some.inj ho
        obtain rfl := Option.some.inj hs
        have e39 : a.tmps.getD 39 undef = .string E2 := hdep 8 _ _ _ rfl rfl rfl (by kernel_rfl)
        have e42 : a.tmps.getD 42 undef = .string W2 := hdep 11 _ _ _ rfl rfl rfl (by kernel_rfl)
        exact wpOp_plain rfl rfl (u := .string E3) (fun ρ hc hf ht => by have f39 := (ht 39).trans e39; have f42 := (ht 42).trans e42; clear ht; have q0 := s3; simp [go_sem, *]) ⟨_, rfl, rfl, Below.refl _ _⟩
      · as_aux_lemma =>
        obtain rfl := Option.some.inj ho
        obtain rfl := Option.some.inj hs
        have e2 : a.tmps.getD 2 undef = .pointer (some ⟨w.heap.size, 0, none⟩) := hb2
        exact wpOp_plain rfl rfl (u := .agg #[.string scheme, .string user, .string pass, .int .i64 k, .string nm, .int .u32 v4, .int .u16 a0, .int .u16 a1, .int .u16 a2, .int .u16 a3, .int .u16 a4, .int .u16 a5, .int .u16 a6, .int .u16 a7, .int .i64 port, .bool opq, .slice A path.length c, .bool hasq, .string query, .bool hasf, .string frag]) (fun ρ hc hf ht => load_row _ rfl ((ht 2).trans e2) KW Tryd.underlying29 (by kernel_rfl)) ⟨_, rfl, rfl, Below.refl _ _⟩
      · as_aux_lemma =>
        obtain rfl := Option.some.inj ho
        obtain rfl := Option.some.inj hs
        have e44 : a.tmps.getD 44 undef = .agg #[.string scheme, .string user, .string pass, .int .i64 k, .string nm, .int .u32 v4, .int .u16 a0, .int .u16 a1, .int .u16 a2, .int .u16 a3, .int .u16 a4, .int .u16 a5, .int .u16 a6, .int .u16 a7, .int .i64 port, .bool opq, .slice A path.length c, .bool hasq, .string query, .bool hasf, .string frag] := hdep 13 _ _ _ rfl rfl rfl (by kernel_rfl)
        refine wpOp_calls (f := 17) (args := #[.agg #[.string scheme, .string user, .string pass, .int .i64 k, .string nm, .int .u32 v4, .int .u16 a0, .int .u16 a1, .int .u16 a2, .int .u16 a3, .int .u16 a4, .int .u16 a5, .int .u16 a6, .int .u16 a7, .int .i64 port, .bool opq, .slice A path.length c, .bool hasq, .string query, .bool hasf, .string frag]]) rfl rfl (fun ρ hc hf ht => by have f44 := (ht 44).trans e44; clear ht; simp [go_sem, *]) ?_
        exact (HP.out w2 (belowOn HB.out HB.out.size hbe)).mono fun e w' h => ⟨_, h.1, _, rfl, rfl, h.2⟩
      · as_aux_lemma =>
        obtain rfl := Option.some.inj ho
        obtain rfl := Option.some.inj hs
        have e43 : a.tmps.getD 43 undef = .string E3 := hdep 12 _ _ _ rfl rfl rfl (by kernel_rfl)
        have e45 : a.tmps.getD 45 undef = .string PT := hdep 14 _ _ _ rfl rfl rfl (by kernel_rfl)
        exact wpOp_plain rfl rfl (u := .string E4) (fun ρ hc hf ht => by have f43 := (ht 43).trans e43; have f45 := (ht 45).trans e45; clear ht; have q0 := s4; simp [go_sem, *]) ⟨_, rfl, rfl, Below.refl _ _⟩
      · as_aux_lemma =>
        obtain rfl := Option.some.inj ho
        obtain rfl := Option.some.inj hs
        have e2 : a.tmps.getD 2 undef = .pointer (some ⟨w.heap.size, 0, none⟩) := hb2
        exact wpOp_plain rfl rfl (u := .pointer (some ⟨w.heap.size, 17, none⟩)) (fun ρ hc hf ht => by have f2 := (ht 2).trans e2; clear ht; simp [go_sem, *]) ⟨_, rfl, rfl, Below.refl _ _⟩
      · as_aux_lemma =>
        obtain rfl := Option.some.inj ho
        obtain rfl := Option.some.inj hs
        have e47 : a.tmps.getD 47 undef = .pointer (some ⟨w.heap.size, 17, none⟩) := hdep 16 _ _ _ rfl rfl rfl (by kernel_rfl)
        exact wpOp_plain rfl rfl (u := .bool hasq) (fun ρ hc hf ht => by have f47 := (ht 47).trans e47; clear ht; have q0 := (KW.cell 17); simp [go_sem, *]) ⟨_, rfl, rfl, Below.refl _ _⟩
      · as_aux_lemma =>
        obtain rfl := Option.some.inj ho
        obtain rfl := Option.some.inj hs
        have e2 : a.tmps.getD 2 undef = .pointer (some ⟨w.heap.size, 0, none⟩) := hb2
        exact wpOp_plain rfl rfl (u := .pointer (some ⟨w.heap.size, 18, none⟩)) (fun ρ hc hf ht => by have f2 := (ht 2).trans e2; clear ht; simp [go_sem, *]) ⟨_, rfl, rfl, Below.refl _ _⟩
      · as_aux_lemma =>
        obtain rfl := Option.some.inj ho
        obtain rfl := Option.some.inj hs
        have e49 : a.tmps.getD 49 undef = .pointer (some ⟨w.heap.size, 18, none⟩) := hdep 18 _ _ _ rfl rfl rfl (by kernel_rfl)
        exact wpOp_plain rfl rfl (u := .string query) (fun ρ hc hf ht => by have f49 := (ht 49).trans e49; clear ht; have q0 := (KW.cell 18); simp [go_sem, *]) ⟨_, rfl, rfl, Below.refl _ _⟩
      · as_aux_lemma =>
        obtain rfl := Option.some.inj ho
        obtain rfl := Option.some.inj hs
        have e50 : a.tmps.getD 50 undef = .string query := hdep 19 _ _ _ rfl rfl rfl (by kernel_rfl)
        refine wpOp_plain rfl rfl (u := .slice (some ⟨w2.heap.size, 0, none⟩) 2 2) (w' := w2.alloc (.cells ([⟨#[63]⟩, query].map Value.string).toArray 9)) (fun ρ hc hf ht => by have f50 := (ht 50).trans e50; clear ht; simp [go_sem, *]) ⟨_, rfl, ⟨_, rfl, row_new _ _ _, by simp⟩, (Below.refl _ _).alloc (Nat.le_refl _) _⟩
      · as_aux_lemma =>
        obtain rfl := Option.some.inj ho
        obtain rfl := Option.some.inj hs
        have e48 : a.tmps.getD 48 undef = .bool hasq := hdep 17 _ _ _ rfl rfl rfl (by kernel_rfl)
        obtain ⟨g51, e51, r51, l51⟩ : Sp.ok w2 (a.tmps.getD 51 undef) (.row [⟨#[63]⟩, query]) := hdep 20 _ _ _ rfl rfl rfl (by kernel_rfl)
        refine wpOp_calls (f := 36) (args := #[.bool hasq, .slice (some ⟨g51, 0, none⟩) 2 2]) rfl rfl (fun ρ hc hf ht => by have f48 := (ht 48).trans e48; have f51 := (ht 51).trans e51; clear ht; simp [go_sem, *]) ?_
        exact (HW3.out w2 g51 l51 r51).mono fun e w' h => ⟨_, h.1, _, rfl, rfl, h.2⟩
      · as_aux_lemma =>
        obtain rfl := Option.some.inj ho
        obtain rfl := Option.some.inj hs
        have e46 : a.tmps.getD 46 undef = .string E4 := hdep 15 _ _ _ rfl rfl rfl (by kernel_rfl)
        have e52 : a.tmps.getD 52 undef = .string W3 := hdep 21 _ _ _ rfl rfl rfl (by kernel_rfl)
        exact wpOp_plain rfl rfl (u := .string E5) (fun ρ hc hf ht => by have f46 := (ht 46).trans e46; have f52 := (ht 52).trans e52; clear ht; have q0 := s5; simp [go_sem, *]) ⟨_, rfl, rfl, Below.refl _ _⟩
      · as_aux_lemma =>
        obtain rfl := Option.some.inj ho
        obtain rfl := Option.some.inj hs
        have e1 : a.tmps.getD 1 undef = .bool false := hb1
        exact wpOp_plain rfl rfl (u := .bool false) (fun ρ hc hf ht => by have f1 := (ht 1).trans e1; clear ht; simp [go_sem, *]) ⟨_, rfl, rfl, Below.refl _ _⟩
      · as_aux_lemma =>
        obtain rfl := Option.some.inj ho
        obtain rfl := Option.some.inj hs
        have e54 : a.tmps.getD 54 undef = .bool false := hdep 23 _ _ _ rfl rfl rfl (by kernel_rfl)
        exact wpOp_plain rfl rfl (u := .bool true) (fun ρ hc hf ht => by have f54 := (ht 54).trans e54; clear ht; have q0 := (trivial : True); simp [go_sem, *]) ⟨_, rfl, rfl, Below.refl _ _⟩
      · as_aux_lemma =>
        obtain rfl := Option.some.inj ho
        obtain rfl := Option.some.inj hs
        have e55 : a.tmps.getD 55 undef = .bool true := hdep 24 _ _ _ rfl rfl rfl (by kernel_rfl)
        exact wpOp_plain rfl rfl (u := .bool true) (fun ρ hc hf ht => by have f55 := (ht 55).trans e55; clear ht; have q0 := (trivial : True); simp [go_sem, *]) ⟨_, rfl, rfl, Below.refl _ _⟩
      · as_aux_lemma =>
        obtain rfl := Option.some.inj ho
        obtain rfl := Option.some.inj hs
        have e2 : a.tmps.getD 2 undef = .pointer (some ⟨w.heap.size, 0, none⟩) := hb2
        have e56 : a.tmps.getD 56 undef = .bool true := hdep 25 _ _ _ rfl rfl rfl (by kernel_rfl)
        exact wpOp_plain rfl (by simp [Region.wanted, yielded, got_some e56 (by omega)]) (u := .pointer (some ⟨w.heap.size, 19, none⟩)) (fun ρ hc hf ht => by have f2 := (ht 2).trans e2; clear ht; simp [go_sem, *]) ⟨_, rfl, rfl, Below.refl _ _⟩
      · as_aux_lemma =>
        obtain rfl := Option.some.inj ho
        obtain rfl := Option.some.inj hs
        have e57 : a.tmps.getD 57 undef = .pointer (some ⟨w.heap.size, 19, none⟩) := hdep 26 _ _ _ rfl rfl rfl (by kernel_rfl)
        have e56 : a.tmps.getD 56 undef = .bool true := hdep 25 _ _ _ rfl rfl rfl (by kernel_rfl)
        exact wpOp_plain rfl (by simp [Region.wanted, yielded, got_some e56 (by omega)]) (u := .bool hasf) (fun ρ hc hf ht => by have f57 := (ht 57).trans e57; clear ht; have q0 := (KW.cell 19); simp [go_sem, *]) ⟨_, rfl, rfl, Below.refl _ _⟩
      · as_aux_lemma =>
        obtain rfl := Option.some.inj ho
        obtain rfl := Option.some.inj hs
        have e56 : a.tmps.getD 56 undef = .bool true := hdep 25 _ _ _ rfl rfl rfl (by kernel_rfl)
        have e58 : a.tmps.getD 58 undef = .bool hasf := hdep 27 _ _ _ rfl rfl rfl (by kernel_rfl)
        exact wpOp_plain rfl rfl (u := .bool hasf) (fun ρ hc hf ht => by have f56 := (ht 56).trans e56; have f58 := (ht 58).trans e58; clear ht; have q0 := (trivial : True); simp [go_sem, *]) ⟨_, rfl, rfl, Below.refl _ _⟩
      · as_aux_lemma =>
        obtain rfl := Option.some.inj ho
        obtain rfl := Option.some.inj hs
        have e2 : a.tmps.getD 2 undef = .pointer (some ⟨w.heap.size, 0, none⟩) := hb2
        exact wpOp_plain rfl rfl (u := .pointer (some ⟨w.heap.size, 20, none⟩)) (fun ρ hc hf ht => by have f2 := (ht 2).trans e2; clear ht; simp [go_sem, *]) ⟨_, rfl, rfl, Below.refl _ _⟩
      · as_aux_lemma =>
        obtain rfl := Option.some.inj ho
        obtain rfl := Option.some.inj hs
        have e60 : a.tmps.getD 60 undef = .pointer (some ⟨w.heap.size, 20, none⟩) := hdep 29 _ _ _ rfl rfl rfl (by kernel_rfl)
        exact wpOp_plain rfl rfl (u := .string frag) (fun ρ hc hf ht => by have f60 := (ht 60).trans e60; clear ht; have q0 := (KW.cell 20); simp [go_sem, *]) ⟨_, rfl, rfl, Below.refl _ _⟩
      · as_aux_lemma =>
        obtain rfl := Option.some.inj ho
        obtain rfl := Option.some.inj hs
        have e61 : a.tmps.getD 61 undef = .string frag := hdep 30 _ _ _ rfl rfl rfl (by kernel_rfl)
        refine wpOp_plain rfl rfl (u := .slice (some ⟨w2.heap.size, 0, none⟩) 2 2) (w' := w2.alloc (.cells ([⟨#[35]⟩, frag].map Value.string).toArray 9)) (fun ρ hc hf ht => by have f61 := (ht 61).trans e61; clear ht; simp [go_sem, *]) ⟨_, rfl, ⟨_, rfl, row_new _ _ _, by simp⟩, (Below.refl _ _).alloc (Nat.le_refl _) _⟩
      · as_aux_lemma =>
        obtain rfl := Option.some.inj ho
        obtain rfl := Option.some.inj hs
        have e59 : a.tmps.getD 59 undef = .bool hasf := hdep 28 _ _ _ rfl rfl rfl (by kernel_rfl)
        obtain ⟨g62, e62, r62, l62⟩ : Sp.ok w2 (a.tmps.getD 62 undef) (.row [⟨#[35]⟩, frag]) := hdep 31 _ _ _ rfl rfl rfl (by kernel_rfl)
        refine wpOp_calls (f := 36) (args := #[.bool hasf, .slice (some ⟨g62, 0, none⟩) 2 2]) rfl rfl (fun ρ hc hf ht => by have f59 := (ht 59).trans e59; have f62 := (ht 62).trans e62; clear ht; simp [go_sem, *]) ?_
        exact (HW4.out w2 g62 l62 r62).mono fun e w' h => ⟨_, h.1, _, rfl, rfl, h.2⟩
      · as_aux_lemma =>
        obtain rfl := Option.some.inj ho
        obtain rfl := Option.some.inj hs
        have e53 : a.tmps.getD 53 undef = .string E5 := hdep 22 _ _ _ rfl rfl rfl (by kernel_rfl)
        have e63 : a.tmps.getD 63 undef = .string W4 := hdep 32 _ _ _ rfl rfl rfl (by kernel_rfl)
        exact wpOp_plain rfl rfl (u := .string E6) (fun ρ hc hf ht => by have f53 := (ht 53).trans e53; have f63 := (ht 63).trans e63; clear ht; have q0 := s6; simp [go_sem, *]) ⟨_, rfl, rfl, Below.refl _ _⟩
      · as_aux_lemma =>
        obtain rfl := Option.some.inj ho
        obtain rfl := Option.some.inj hs
        have e64 : a.tmps.getD 64 undef = .string E6 := hdep 33 _ _ _ rfl rfl rfl (by kernel_rfl)
        exact wpOp_plain rfl rfl (u := .string E6) (fun ρ hc hf ht => by have f64 := (ht 64).trans e64; clear ht; simp [go_sem, *]) ⟨_, rfl, rfl, Below.refl _ _⟩
    · intro a w2 hall hdef hbe
      have er : a.tmps.getD 4 undef = .string E6 := hall 34 _ _ _ rfl rfl rfl
      exact hq a w2 er hdef hbe
set_option maxHeartbeats 16000000 in
theorem text_region_t (scheme user pass nm query frag : ByteArray) (k : Int) (v4 a0 a1 a2 a3 a4 a5 a6 a7 : Nat) (port : Int) (opq hasq hasf : Bool) (path : List ByteArray) (A : Option Addr) (c : Nat) (hd em : Bool) (w W : World) (TA PT W1 W2 W3 W4 E1 E2 E3 E4 E5 E6 : ByteArray) (KU : Hid (Blk W w.heap.size 29 #[.string scheme, .string user, .string pass, .int .i64 k, .string nm, .int .u32 v4, .int .u16 a0, .int .u16 a1, .int .u16 a2, .int .u16 a3, .int .u16 a4, .int .u16 a5, .int .u16 a6, .int .u16 a7, .int .i64 port, .bool opq, .slice A path.length c, .bool hasq, .string query, .bool hasf, .string frag])) (HB : Hid (Below w.heap.size w W)) (HF : Hid (FW w))
    (HA : Hid (∀ (W : World), FW W → Calls Tryd.prog 37 #[.agg #[.string scheme, .string user, .string pass, .int .i64 k, .string nm, .int .u32 v4, .int .u16 a0, .int .u16 a1, .int .u16 a2, .int .u16 a3, .int .u16 a4, .int .u16 a5, .int .u16 a6, .int .u16 a7, .int .i64 port, .bool opq, .slice A path.length c, .bool hasq, .string query, .bool hasf, .string frag]] W fun e w' => e = .returned (.string TA) ∧ Below W.heap.size W w'))
    (HP : Hid (∀ (W : World), Below w.heap.size w W → Calls Tryd.prog 17 #[.agg #[.string scheme, .string user, .string pass, .int .i64 k, .string nm, .int .u32 v4, .int .u16 a0, .int .u16 a1, .int .u16 a2, .int .u16 a3, .int .u16 a4, .int .u16 a5, .int .u16 a6, .int .u16 a7, .int .i64 port, .bool opq, .slice A path.length c, .bool hasq, .string query, .bool hasf, .string frag]] W fun e w' => e = .returned (.string PT) ∧ Below W.heap.size W w'))
    (HW1 : Hid (∀ (W : World) (g : Nat), g < W.heap.size → RowAt textC 1 W (some ⟨g, 0, none⟩) [⟨#[47, 47]⟩, TA] → Calls Tryd.prog 36 #[.bool hd, .slice (some ⟨g, 0, none⟩) ([⟨#[47, 47]⟩, TA] : List ByteArray).length ([⟨#[47, 47]⟩, TA] : List ByteArray).length] W fun e w' => e = .returned (.string W1) ∧ Below W.heap.size W w')) (HW2 : Hid (∀ (W : World) (g : Nat), g < W.heap.size → RowAt textC 1 W (some ⟨g, 0, none⟩) [⟨#[47, 46]⟩] → Calls Tryd.prog 36 #[.bool em, .slice (some ⟨g, 0, none⟩) ([⟨#[47, 46]⟩] : List ByteArray).length ([⟨#[47, 46]⟩] : List ByteArray).length] W fun e w' => e = .returned (.string W2) ∧ Below W.heap.size W w')) (HW3 : Hid (∀ (W : World) (g : Nat), g < W.heap.size → RowAt textC 1 W (some ⟨g, 0, none⟩) [⟨#[63]⟩, query] → Calls Tryd.prog 36 #[.bool hasq, .slice (some ⟨g, 0, none⟩) ([⟨#[63]⟩, query] : List ByteArray).length ([⟨#[63]⟩, query] : List ByteArray).length] W fun e w' => e = .returned (.string W3) ∧ Below W.heap.size W w')) (HW4 : Hid (∀ (W : World) (g : Nat), g < W.heap.size → RowAt textC 1 W (some ⟨g, 0, none⟩) [⟨#[35]⟩, frag] → Calls Tryd.prog 36 #[.bool false, .slice (some ⟨g, 0, none⟩) ([⟨#[35]⟩, frag] : List ByteArray).length ([⟨#[35]⟩, frag] : List ByteArray).length] W fun e w' => e = .returned (.string W4) ∧ Below W.heap.size W w'))
    (s1 : ∀ w, (Op.stringOp .add scheme ⟨#[58]⟩).run Tryd.prog w = .ok (.string E1) w) (s2 : ∀ w, (Op.stringOp .add E1 W1).run Tryd.prog w = .ok (.string E2) w) (s3 : ∀ w, (Op.stringOp .add E2 W2).run Tryd.prog w = .ok (.string E3) w) (s4 : ∀ w, (Op.stringOp .add E3 PT).run Tryd.prog w = .ok (.string E4) w) (s5 : ∀ w, (Op.stringOp .add E4 W3).run Tryd.prog w = .ok (.string E5) w) (s6 : ∀ w, (Op.stringOp .add E5 W4).run Tryd.prog w = .ok (.string E6) w)
    (id : Nat) (Q : Exit → Act → World → Prop) (a0' : Act) (hz0 : a0'.tmps.size = 65) (t1 : a0'.tmps.getD 1 undef = .bool true) (t2 : a0'.tmps.getD 2 undef = .pointer (some ⟨w.heap.size, 0, none⟩)) (t5 : a0'.tmps.getD 5 undef = .bool hd) (t6 : a0'.tmps.getD 6 undef = .bool em)
    (hq : ∀ a' w', a'.tmps.getD 4 undef = .string E6 → a'.defers = a0'.defers → Below W.heap.size W w' → Q .normal a' w') : (Code.region id textOps true).wp Tryd.prog Q a0' W := by
    dsimp only [textOps, Tryd.f15]
    refine wp_region_RI [.is (.pointer (some ⟨w.heap.size, 0, none⟩)), .is (.string scheme), .is (.string E1), .is (.bool hd), .is (.agg #[.string scheme, .string user, .string pass, .int .i64 k, .string nm, .int .u32 v4, .int .u16 a0, .int .u16 a1, .int .u16 a2, .int .u16 a3, .int .u16 a4, .int .u16 a5, .int .u16 a6, .int .u16 a7, .int .i64 port, .bool opq, .slice A path.length c, .bool hasq, .string query, .bool hasf, .string frag]), .is (.string TA), .row [⟨#[47, 47]⟩, TA], .is (.string W1), .is (.string E2), .is (.bool em), .row [⟨#[47, 46]⟩], .is (.string W2), .is (.string E3), .is (.agg #[.string scheme, .string user, .string pass, .int .i64 k, .string nm, .int .u32 v4, .int .u16 a0, .int .u16 a1, .int .u16 a2, .int .u16 a3, .int .u16 a4, .int .u16 a5, .int .u16 a6, .int .u16 a7, .int .i64 port, .bool opq, .slice A path.length c, .bool hasq, .string query, .bool hasf, .string frag]), .is (.string PT), .is (.string E4), .is (.pointer (some ⟨w.heap.size, 17, none⟩)), .is (.bool hasq), .is (.pointer (some ⟨w.heap.size, 18, none⟩)), .is (.string query), .row [⟨#[63]⟩, query], .is (.string W3), .is (.string E5), .is (.bool true), .is (.bool false), .is (.bool false), .is (undef), .is (undef), .is (.bool false), .is (.pointer (some ⟨w.heap.size, 20, none⟩)), .is (.string frag), .row [⟨#[35]⟩, frag], .is (.string W4), .is (.string E6), .is (.string E6)] (by kernel_rfl) (by rw [hz0]; kernel_rfl) (by kernel_rfl) ?_ ?_
    · intro i o sp ho hs a w2 hbe htz hkept hdep
      have hi : i < 35 := (Array.getElem?_eq_some_iff.1 ho).1
      have KW := KU.out.keep hbe
      have hsz : a.tmps.size = 65 := htz.trans hz0
      have hb2 : a.tmps.getD 2 undef = .pointer (some ⟨w.heap.size, 0, none⟩) := (hkept 2 (noDst_spec (by kernel_rfl))).trans t2
      have hb1 : a.tmps.getD 1 undef = .bool true := (hkept 1 (noDst_spec (by kernel_rfl))).trans t1
      have hb5 : a.tmps.getD 5 undef = .bool hd := (hkept 5 (noDst_spec (by kernel_rfl))).trans t5
      have hb6 : a.tmps.getD 6 undef = .bool em := (hkept 6 (noDst_spec (by kernel_rfl))).trans t6
      rcases (by omega : i = 0 ∨ i = 1 ∨ i = 2 ∨ i = 3 ∨ i = 4 ∨ i = 5 ∨ i = 6 ∨ i = 7 ∨ i = 8 ∨ i = 9 ∨ i = 10 ∨ i = 11 ∨ i = 12 ∨ i = 13 ∨ i = 14 ∨ i = 15 ∨ i = 16 ∨ i = 17 ∨ i = 18 ∨ i = 19 ∨ i = 20 ∨ i = 21 ∨ i = 22 ∨ i = 23 ∨ i = 24 ∨ i = 25 ∨ i = 26 ∨ i = 27 ∨ i = 28 ∨ i = 29 ∨ i = 30 ∨ i = 31 ∨ i = 32 ∨ i = 33 ∨ i = 34) with rfl | rfl | rfl | rfl | rfl | rfl | rfl | rfl | rfl | rfl | rfl | rfl | rfl | rfl | rfl | rfl | rfl | rfl | rfl | rfl | rfl | rfl | rfl | rfl | rfl | rfl | rfl | rfl | rfl | rfl | rfl | rfl | rfl | rfl | rfl
      · as_aux_lemma =>
        obtain rfl := Option.some.inj ho
        obtain rfl := Option.some.inj hs
        have e2 : a.tmps.getD 2 undef = .pointer (some ⟨w.heap.size, 0, none⟩) := hb2
        exact wpOp_plain rfl rfl (u := .pointer (some ⟨w.heap.size, 0, none⟩)) (fun ρ hc hf ht => by have f2 := (ht 2).trans e2; clear ht; simp [go_sem, *]) ⟨_, rfl, rfl, Below.refl _ _⟩
      · as_aux_lemma =>
        obtain rfl := Option.some.inj ho
        obtain rfl := Option.some.inj hs
        have e31 : a.tmps.getD 31 undef = .pointer (some ⟨w.heap.size, 0, none⟩) := hdep 0 _ _ _ rfl rfl rfl (by kernel_rfl)
        exact wpOp_plain rfl rfl (u := .string scheme) (fun ρ hc hf ht => by have f31 := (ht 31).trans e31; clear ht; have q0 := (KW.cell 0); simp [go_sem, *]) ⟨_, rfl, rfl, Below.refl _ _⟩
      · as_aux_lemma =>
        obtain rfl := Option.some.inj ho
        obtain rfl := Option.some.inj hs
        have e32 : a.tmps.getD 32 undef = .string scheme := hdep 1 _ _ _ rfl rfl rfl (by kernel_rfl)
        exact wpOp_plain rfl rfl (u := .string E1) (fun ρ hc hf ht => by have f32 := (ht 32).trans e32; clear ht; have q0 := s1; simp [go_sem, *]) ⟨_, rfl, rfl, Below.refl _ _⟩
      · as_aux_lemma =>
        obtain rfl := Option.some.inj ho
        obtain rfl := Option.some.inj hs
        have e5 : a.tmps.getD 5 undef = .bool hd := hb5
        exact wpOp_plain rfl rfl (u := .bool hd) (fun ρ hc hf ht => by have f5 := (ht 5).trans e5; clear ht; simp [go_sem, *]) ⟨_, rfl, rfl, Below.refl _ _⟩
      · as_aux_lemma =>
        obtain rfl := Option.some.inj ho
        obtain rfl := Option.some.inj hs
        have e2 : a.tmps.getD 2 undef = .pointer (some ⟨w.heap.size, 0, none⟩) := hb2
        exact wpOp_plain rfl rfl (u := .agg #[.string scheme, .string user, .string pass, .int .i64 k, .string nm, .int .u32 v4, .int .u16 a0, .int .u16 a1, .int .u16 a2, .int .u16 a3, .int .u16 a4, .int .u16 a5, .int .u16 a6, .int .u16 a7, .int .i64 port, .bool opq, .slice A path.length c, .bool hasq, .string query, .bool hasf, .string frag]) (fun ρ hc hf ht => load_row _ rfl ((ht 2).trans e2) KW Tryd.underlying29 (by kernel_rfl)) ⟨_, rfl, rfl, Below.refl _ _⟩
      · as_aux_lemma =>
        obtain rfl := Option.some.inj ho
        obtain rfl := Option.some.inj hs
        have e35 : a.tmps.getD 35 undef = .agg #[.string scheme, .string user, .string pass, .int .i64 k, .string nm, .int .u32 v4, .int .u16 a0, .int .u16 a1, .int .u16 a2, .int .u16 a3, .int .u16 a4, .int .u16 a5, .int .u16 a6, .int .u16 a7, .int .i64 port, .bool opq, .slice A path.length c, .bool hasq, .string query, .bool hasf, .string frag] := hdep 4 _ _ _ rfl rfl rfl (by kernel_rfl)
        refine wpOp_calls (f := 37) (args := #[.agg #[.string scheme, .string user, .string pass, .int .i64 k, .string nm, .int .u32 v4, .int .u16 a0, .int .u16 a1, .int .u16 a2, .int .u16 a3, .int .u16 a4, .int .u16 a5, .int .u16 a6, .int .u16 a7, .int .i64 port, .bool opq, .slice A path.length c, .bool hasq, .string query, .bool hasf, .string frag]]) rfl rfl (fun ρ hc hf ht => by have f35 := (ht 35).trans e35; clear ht; simp [go_sem, *]) ?_
        exact (HA.out w2 (HF.out.keep (belowOn HB.out HB.out.size hbe))).mono fun e w' h => ⟨_, h.1, _, rfl, rfl, h.2⟩
      · as_aux_lemma =>
        obtain rfl := Option.some.inj ho
        obtain rfl := Option.some.inj hs
        have e36 : a.tmps.getD 36 undef = .string TA := hdep 5 _ _ _ rfl rfl rfl (by kernel_rfl)
        refine wpOp_plain rfl rfl (u := .slice (some ⟨w2.heap.size, 0, none⟩) 2 2) (w' := w2.alloc (.cells ([⟨#[47, 47]⟩, TA].map Value.string).toArray 9)) (fun ρ hc hf ht => by have f36 := (ht 36).trans e36; clear ht; simp [go_sem, *]) ⟨_, rfl, ⟨_, rfl, row_new _ _ _, by simp⟩, (Below.refl _ _).alloc (Nat.le_refl _) _⟩
      · as_aux_lemma =>
        obtain rfl := Option.some.inj ho
        obtain rfl := Option.some.inj hs
        have e34 : a.tmps.getD 34 undef = .bool hd := hdep 3 _ _ _ rfl rfl rfl (by kernel_rfl)
        obtain ⟨g37, e37, r37, l37⟩ : Sp.ok w2 (a.tmps.getD 37 undef) (.row [⟨#[47, 47]⟩, TA]) := hdep 6 _ _ _ rfl rfl rfl (by kernel_rfl)
        refine wpOp_calls (f := 36) (args := #[.bool hd, .slice (some ⟨g37, 0, none⟩) 2 2]) rfl rfl (fun ρ hc hf ht => by have f34 := (ht 34).trans e34; have f37 := (ht 37).trans e37; clear ht; simp [go_sem, *]) ?_
        exact (HW1.out w2 g37 l37 r37).mono fun e w' h => ⟨_, h.1, _, rfl, rfl, h.2⟩
      · as_aux_lemma =>
        obtain rfl := Option.some.inj ho
        obtain rfl := Option.some.inj hs
        have e33 : a.tmps.getD 33 undef = .string E1 := hdep 2 _ _ _ rfl rfl rfl (by kernel_rfl)
        have e38 : a.tmps.getD 38 undef = .string W1 := hdep 7 _ _ _ rfl rfl rfl (by kernel_rfl)
        exact wpOp_plain rfl rfl (u := .string E2) (fun ρ hc hf ht => by have f33 := (ht 33).trans e33; have f38 := (ht 38).trans e38; clear ht; have q0 := s2; simp [go_sem, *]) ⟨_, rfl, rfl, Below.refl _ _⟩
      · as_aux_lemma =>
        obtain rfl := Option.some.inj ho
        obtain rfl := Option.some.inj hs
        have e6 : a.tmps.getD 6 undef = .bool em := hb6
        exact wpOp_plain rfl rfl (u := .bool em) (fun ρ hc hf ht => by have f6 := (ht 6).trans e6; clear ht; simp [go_sem, *]) ⟨_, rfl, rfl, Below.refl _ _⟩
      · as_aux_lemma =>
        obtain rfl := Option.some.inj ho
        obtain rfl := Option.some.inj hs
        refine wpOp_plain rfl rfl (u := .slice (some ⟨w2.heap.size, 0, none⟩) 1 1) (w' := w2.alloc (.cells ([⟨#[47, 46]⟩].map Value.string).toArray 9)) (fun ρ hc hf ht => by clear ht; simp [go_sem, *]) ⟨_, rfl, ⟨_, rfl, row_new _ _ _, by simp⟩, (Below.refl _ _).alloc (Nat.le_refl _) _⟩
      · as_aux_lemma =>
        obtain rfl := Option.some.inj ho
        obtain rfl := Option.some.inj hs
        have e40 : a.tmps.getD 40 undef = .bool em := hdep 9 _ _ _ rfl rfl rfl (by kernel_rfl)
        obtain ⟨g41, e41, r41, l41⟩ : Sp.ok w2 (a.tmps.getD 41 undef) (.row [⟨#[47, 46]⟩]) := hdep 10 _ _ _ rfl rfl rfl (by kernel_rfl)
        refine wpOp_calls (f := 36) (args := #[.bool em, .slice (some ⟨g41, 0, none⟩) 1 1]) rfl rfl (fun ρ hc hf ht => by have f40 := (ht 40).trans e40; have f41 := (ht 41).trans e41; clear ht; simp [go_sem, *]) ?_
        exact (HW2.out w2 g41 l41 r41).mono fun e w' h => ⟨_, h.1, _, rfl, rfl, h.2⟩
      · as_aux_lemma =>
        obtain rfl := Option.some.inj ho
        obtain rfl := Option.some.inj hs
        have e39 : a.tmps.getD 39 undef = .string E2 := hdep 8 _ _ _ rfl rfl rfl (by kernel_rfl)
        have e42 : a.tmps.getD 42 undef = .string W2 := hdep 11 _ _ _ rfl rfl rfl (by kernel_rfl)
        exact wpOp_plain rfl rfl (u := .string E3) (fun ρ hc hf ht => by have f39 := (ht 39).trans e39; have f42 := (ht 42).trans e42; clear ht; have q0 := s3; simp [go_sem, *]) ⟨_, rfl, rfl, Below.refl _ _⟩
      · as_aux_lemma =>
        obtain rfl := Option.some.inj ho
        obtain rfl := Option.some.inj hs
        have e2 : a.tmps.getD 2 undef = .pointer (some ⟨w.heap.size, 0, none⟩) := hb2
        exact wpOp_plain rfl rfl (u := .agg #[.string scheme, .string user, .string pass, .int .i64 k, .string nm, .int .u32 v4, .int .u16 a0, .int .u16 a1, .int .u16 a2, .int .u16 a3, .int .u16 a4, .int .u16 a5, .int .u16 a6, .int .u16 a7, .int .i64 port, .bool opq, .slice A path.length c, .bool hasq, .string query, .bool hasf, .string frag]) (fun ρ hc hf ht => load_row _ rfl ((ht 2).trans e2) KW Tryd.underlying29 (by kernel_rfl)) ⟨_, rfl, rfl, Below.refl _ _⟩
      · as_aux_lemma =>
        obtain rfl := Option.some.inj ho
        obtain rfl := Option.some.inj hs
        have e44 : a.tmps.getD 44 undef = .agg #[.string scheme, .string user, .string pass, .int .i64 k, .string nm, .int .u32 v4, .int .u16 a0, .int .u16 a1, .int .u16 a2, .int .u16 a3, .int .u16 a4, .int .u16 a5, .int .u16 a6, .int .u16 a7, .int .i64 port, .bool opq, .slice A path.length c, .bool hasq, .string query, .bool hasf, .string frag] := hdep 13 _ _ _ rfl rfl rfl (by kernel_rfl)
        refine wpOp_calls (f := 17) (args := #[.agg #[.string scheme, .string user, .string pass, .int .i64 k, .string nm, .int .u32 v4, .int .u16 a0, .int .u16 a1, .int .u16 a2, .int .u16 a3, .int .u16 a4, .int .u16 a5, .int .u16 a6, .int .u16 a7, .int .i64 port, .bool opq, .slice A path.length c, .bool hasq, .string query, .bool hasf, .string frag]]) rfl rfl (fun ρ hc hf ht => by have f44 := (ht 44).trans e44; clear ht; simp [go_sem, *]) ?_
        exact (HP.out w2 (belowOn HB.out HB.out.size hbe)).mono fun e w' h => ⟨_, h.1, _, rfl, rfl, h.2⟩
      · as_aux_lemma =>
        obtain rfl := Option.some.inj ho
        obtain rfl := Option.some.inj hs
        have e43 : a.tmps.getD 43 undef = .string E3 := hdep 12 _ _ _ rfl rfl rfl (by kernel_rfl)
        have e45 : a.tmps.getD 45 undef = .string PT := hdep 14 _ _ _ rfl rfl rfl (by kernel_rfl)
        exact wpOp_plain rfl rfl (u := .string E4) (fun ρ hc hf ht => by have f43 := (ht 43).trans e43; have f45 := (ht 45).trans e45; clear ht; have q0 := s4; simp [go_sem, *]) ⟨_, rfl, rfl, Below.refl _ _⟩
      · as_aux_lemma =>
        obtain rfl := Option.some.inj ho
        obtain rfl := Option.some.inj hs
        have e2 : a.tmps.getD 2 undef = .pointer (some ⟨w.heap.size, 0, none⟩) := hb2
        exact wpOp_plain rfl rfl (u := .pointer (some ⟨w.heap.size, 17, none⟩)) (fun ρ hc hf ht => by have f2 := (ht 2).trans e2; clear ht; simp [go_sem, *]) ⟨_, rfl, rfl, Below.refl _ _⟩
      · as_aux_lemma =>
        obtain rfl := Option.some.inj ho
        obtain rfl := Option.some.inj hs
        have e47 : a.tmps.getD 47 undef = .pointer (some ⟨w.heap.size, 17, none⟩) := hdep 16 _ _ _ rfl rfl rfl (by kernel_rfl)
        exact wpOp_plain rfl rfl (u := .bool hasq) (fun ρ hc hf ht => by have f47 := (ht 47).trans e47; clear ht; have q0 := (KW.cell 17); simp [go_sem, *]) ⟨_, rfl, rfl, Below.refl _ _⟩
      · as_aux_lemma =>
        obtain rfl := Option.some.inj ho
        obtain rfl := Option.some.inj hs
        have e2 : a.tmps.getD 2 undef = .pointer (some ⟨w.heap.size, 0, none⟩) := hb2
        exact wpOp_plain rfl rfl (u := .pointer (some ⟨w.heap.size, 18, none⟩)) (fun ρ hc hf ht => by have f2 := (ht 2).trans e2; clear ht; simp [go_sem, *]) ⟨_, rfl, rfl, Below.refl _ _⟩
      · as_aux_lemma =>
        obtain rfl := Option.some.inj ho
        obtain rfl := Option.some.inj hs
        have e49 : a.tmps.getD 49 undef = .pointer (some ⟨w.heap.size, 18, none⟩) := hdep 18 _ _ _ rfl rfl rfl (by kernel_rfl)
        exact wpOp_plain rfl rfl (u := .string query) (fun ρ hc hf ht => by have f49 := (ht 49).trans e49; clear ht; have q0 := (KW.cell 18); simp [go_sem, *]) ⟨_, rfl, rfl, Below.refl _ _⟩
      · as_aux_lemma =>
        obtain rfl := Option.some.inj ho
        obtain rfl := Option.some.inj hs
        have e50 : a.tmps.getD 50 undef = .string query := hdep 19 _ _ _ rfl rfl rfl (by kernel_rfl)
        refine wpOp_plain rfl rfl (u := .slice (some ⟨w2.heap.size, 0, none⟩) 2 2) (w' := w2.alloc (.cells ([⟨#[63]⟩, query].map Value.string).toArray 9)) (fun ρ hc hf ht => by have f50 := (ht 50).trans e50; clear ht; simp [go_sem, *]) ⟨_, rfl, ⟨_, rfl, row_new _ _ _, by simp⟩, (Below.refl _ _).alloc (Nat.le_refl _) _⟩
      · as_aux_lemma =>
        obtain rfl := Option.some.inj ho
        obtain rfl := Option.some.inj hs
        have e48 : a.tmps.getD 48 undef = .bool hasq := hdep 17 _ _ _ rfl rfl rfl (by kernel_rfl)
        obtain ⟨g51, e51, r51, l51⟩ : Sp.ok w2 (a.tmps.getD 51 undef) (.row [⟨#[63]⟩, query]) := hdep 20 _ _ _ rfl rfl rfl (by kernel_rfl)
        refine wpOp_calls (f := 36) (args := #[.bool hasq, .slice (some ⟨g51, 0, none⟩) 2 2]) rfl rfl (fun ρ hc hf ht => by have f48 := (ht 48).trans e48; have f51 := (ht 51).trans e51; clear ht; simp [go_sem, *]) ?_
        exact (HW3.out w2 g51 l51 r51).mono fun e w' h => ⟨_, h.1, _, rfl, rfl, h.2⟩
      · as_aux_lemma =>
        obtain rfl := Option.some.inj ho
        obtain rfl := Option.some.inj hs
        have e46 : a.tmps.getD 46 undef = .string E4 := hdep 15 _ _ _ rfl rfl rfl (by kernel_rfl)
        have e52 : a.tmps.getD 52 undef = .string W3 := hdep 21 _ _ _ rfl rfl rfl (by kernel_rfl)
        exact wpOp_plain rfl rfl (u := .string E5) (fun ρ hc hf ht => by have f46 := (ht 46).trans e46; have f52 := (ht 52).trans e52; clear ht; have q0 := s5; simp [go_sem, *]) ⟨_, rfl, rfl, Below.refl _ _⟩
      · as_aux_lemma =>
        obtain rfl := Option.some.inj ho
        obtain rfl := Option.some.inj hs
        have e1 : a.tmps.getD 1 undef = .bool true := hb1
        exact wpOp_plain rfl rfl (u := .bool true) (fun ρ hc hf ht => by have f1 := (ht 1).trans e1; clear ht; simp [go_sem, *]) ⟨_, rfl, rfl, Below.refl _ _⟩
      · as_aux_lemma =>
        obtain rfl := Option.some.inj ho
        obtain rfl := Option.some.inj hs
        have e54 : a.tmps.getD 54 undef = .bool true := hdep 23 _ _ _ rfl rfl rfl (by kernel_rfl)
        exact wpOp_plain rfl rfl (u := .bool false) (fun ρ hc hf ht => by have f54 := (ht 54).trans e54; clear ht; have q0 := (trivial : True); simp [go_sem, *]) ⟨_, rfl, rfl, Below.refl _ _⟩
      · as_aux_lemma =>
        obtain rfl := Option.some.inj ho
        obtain rfl := Option.some.inj hs
        have e55 : a.tmps.getD 55 undef = .bool false := hdep 24 _ _ _ rfl rfl rfl (by kernel_rfl)
        exact wpOp_plain rfl rfl (u := .bool false) (fun ρ hc hf ht => by have f55 := (ht 55).trans e55; clear ht; have q0 := (trivial : True); simp [go_sem, *]) ⟨_, rfl, rfl, Below.refl _ _⟩
      · as_aux_lemma =>
        obtain rfl := Option.some.inj ho
        obtain rfl := Option.some.inj hs
        have e2 : a.tmps.getD 2 undef = .pointer (some ⟨w.heap.size, 0, none⟩) := hb2
        have e56 : a.tmps.getD 56 undef = .bool false := hdep 25 _ _ _ rfl rfl rfl (by kernel_rfl)
        exact wpOp_skipped rfl (by simp [Region.wanted, yielded, got_some e56 (by omega)]) ⟨_, rfl, rfl, Below.refl _ _⟩
      · as_aux_lemma =>
        obtain rfl := Option.some.inj ho
        obtain rfl := Option.some.inj hs
        have e57 : a.tmps.getD 57 undef = undef := hdep 26 _ _ _ rfl rfl rfl (by kernel_rfl)
        have e56 : a.tmps.getD 56 undef = .bool false := hdep 25 _ _ _ rfl rfl rfl (by kernel_rfl)
        exact wpOp_skipped rfl (by simp [Region.wanted, yielded, got_some e56 (by omega)]) ⟨_, rfl, rfl, Below.refl _ _⟩
      · as_aux_lemma =>
        obtain rfl := Option.some.inj ho
        obtain rfl := Option.some.inj hs
        have e56 : a.tmps.getD 56 undef = .bool false := hdep 25 _ _ _ rfl rfl rfl (by kernel_rfl)
        have e58 : a.tmps.getD 58 undef = undef := hdep 27 _ _ _ rfl rfl rfl (by kernel_rfl)
        exact wpOp_plain rfl rfl (u := .bool false) (fun ρ hc hf ht => by have f56 := (ht 56).trans e56; have f58 := (ht 58).trans e58; clear ht; have q0 := (trivial : True); simp [go_sem, *]) ⟨_, rfl, rfl, Below.refl _ _⟩
      · as_aux_lemma =>
        obtain rfl := Option.some.inj ho
        obtain rfl := Option.some.inj hs
        have e2 : a.tmps.getD 2 undef = .pointer (some ⟨w.heap.size, 0, none⟩) := hb2
        exact wpOp_plain rfl rfl (u := .pointer (some ⟨w.heap.size, 20, none⟩)) (fun ρ hc hf ht => by have f2 := (ht 2).trans e2; clear ht; simp [go_sem, *]) ⟨_, rfl, rfl, Below.refl _ _⟩
      · as_aux_lemma =>
        obtain rfl := Option.some.inj ho
        obtain rfl := Option.some.inj hs
        have e60 : a.tmps.getD 60 undef = .pointer (some ⟨w.heap.size, 20, none⟩) := hdep 29 _ _ _ rfl rfl rfl (by kernel_rfl)
        exact wpOp_plain rfl rfl (u := .string frag) (fun ρ hc hf ht => by have f60 := (ht 60).trans e60; clear ht; have q0 := (KW.cell 20); simp [go_sem, *]) ⟨_, rfl, rfl, Below.refl _ _⟩
      · as_aux_lemma =>
        obtain rfl := Option.some.inj ho
        obtain rfl := Option.some.inj hs
        have e61 : a.tmps.getD 61 undef = .string frag := hdep 30 _ _ _ rfl rfl rfl (by kernel_rfl)
        refine wpOp_plain rfl rfl (u := .slice (some ⟨w2.heap.size, 0, none⟩) 2 2) (w' := w2.alloc (.cells ([⟨#[35]⟩, frag].map Value.string).toArray 9)) (fun ρ hc hf ht => by have f61 := (ht 61).trans e61; clear ht; simp [go_sem, *]) ⟨_, rfl, ⟨_, rfl, row_new _ _ _, by simp⟩, (Below.refl _ _).alloc (Nat.le_refl _) _⟩
      · as_aux_lemma =>
        obtain rfl := Option.some.inj ho
        obtain rfl := Option.some.inj hs
        have e59 : a.tmps.getD 59 undef = .bool false := hdep 28 _ _ _ rfl rfl rfl (by kernel_rfl)
        obtain ⟨g62, e62, r62, l62⟩ : Sp.ok w2 (a.tmps.getD 62 undef) (.row [⟨#[35]⟩, frag]) := hdep 31 _ _ _ rfl rfl rfl (by kernel_rfl)
        refine wpOp_calls (f := 36) (args := #[.bool false, .slice (some ⟨g62, 0, none⟩) 2 2]) rfl rfl (fun ρ hc hf ht => by have f59 := (ht 59).trans e59; have f62 := (ht 62).trans e62; clear ht; simp [go_sem, *]) ?_
        exact (HW4.out w2 g62 l62 r62).mono fun e w' h => ⟨_, h.1, _, rfl, rfl, h.2⟩
      · as_aux_lemma =>
        obtain rfl := Option.some.inj ho
        obtain rfl := Option.some.inj hs
        have e53 : a.tmps.getD 53 undef = .string E5 := hdep 22 _ _ _ rfl rfl rfl (by kernel_rfl)
        have e63 : a.tmps.getD 63 undef = .string W4 := hdep 32 _ _ _ rfl rfl rfl (by kernel_rfl)
        exact wpOp_plain rfl rfl (u := .string E6) (fun ρ hc hf ht => by have f53 := (ht 53).trans e53; have f63 := (ht 63).trans e63; clear ht; have q0 := s6; simp [go_sem, *]) ⟨_, rfl, rfl, Below.refl _ _⟩
      · as_aux_lemma =>
        obtain rfl := Option.some.inj ho
        obtain rfl := Option.some.inj hs
        have e64 : a.tmps.getD 64 undef = .string E6 := hdep 33 _ _ _ rfl rfl rfl (by kernel_rfl)
        exact wpOp_plain rfl rfl (u := .string E6) (fun ρ hc hf ht => by have f64 := (ht 64).trans e64; clear ht; simp [go_sem, *]) ⟨_, rfl, rfl, Below.refl _ _⟩
    · intro a w2 hall hdef hbe
      have er : a.tmps.getD 4 undef = .string E6 := hall 34 _ _ _ rfl rfl rfl
      exact hq a w2 er hdef hbe
set_option maxHeartbeats 16000000 in
theorem urltext_calls (u : UrlV) (A : Option Addr) (c : Nat) (bare : Bool) (ho : u.ok) (hs : u.short) (w : World) (hF : FW w) (hr : RowAt textC 1 w A u.path) (hc : u.path.length ≤ c) :
    Calls Tryd.prog 15 #[.agg (u.cells A c).toArray, .bool bare] w fun e w' => e = .returned (.string (mkB (textU u bare))) ∧ Below w.heap.size w w' := by
  have HF := Lib.hid hF
  clear hF
  have hA := fun (W : World) (hW : FW W) => auth_calls u A c ho hs W hW
  have hP := fun (W : World) (hb : Below w.heap.size w W) => pathU_calls u A c hs W (hr.keep hb) hc
  have zA := authT_len hs ho
  have zP := pathU_len hs
  have zs := hs.scheme
  have zq := hs.query
  have zf := hs.frag
  obtain ⟨hd, hkz⟩ : ∃ hd, hd = (u.h.kind != 0) := ⟨_, rfl⟩
  have hho : hosted u = hd := by rw [hkz]; unfold hosted; by_cases h : u.h.kind = 0 <;> simp [h]
  obtain ⟨em, hem⟩ : ∃ em, em = dotted u := ⟨_, rfl⟩
  obtain ⟨TA, hTA⟩ : ∃ T, T = mkB (authT u) := ⟨_, rfl⟩
  obtain ⟨PT, hPT⟩ : ∃ T, T = mkB (pathU u) := ⟨_, rfl⟩
  have zTA : TA.size ≤ 423 := by rw [hTA, mkB_size]; exact zA
  have zPT : PT.size ≤ 1220 := by rw [hPT, mkB_size]; exact zP
  obtain ⟨W1, hW1⟩ : ∃ T, T = mkB (when hd (flat [⟨#[47, 47]⟩, TA])) := ⟨_, rfl⟩
  obtain ⟨W2, hW2⟩ : ∃ T, T = mkB (when em (flat [⟨#[47, 46]⟩])) := ⟨_, rfl⟩
  obtain ⟨W3, hW3⟩ : ∃ T, T = mkB (when u.hasq (flat [⟨#[63]⟩, u.query])) := ⟨_, rfl⟩
  obtain ⟨W4, hW4⟩ : ∃ T, T = mkB (when (!bare && u.hasf) (flat [⟨#[35]⟩, u.frag])) := ⟨_, rfl⟩
  have y1 : (flat [⟨#[47, 47]⟩, TA]).length ≤ 500 := by simp [flat]; omega
  have y2 : (flat [(⟨#[47, 46]⟩ : ByteArray)]).length ≤ 500 := by simp [flat]
  have y3 : (flat [⟨#[63]⟩, u.query]).length ≤ 500 := by simp [flat]; omega
  have y4 : (flat [⟨#[35]⟩, u.frag]).length ≤ 500 := by simp [flat]; omega
  have zW1 : W1.size ≤ 500 := by rw [hW1, mkB_size]; exact Nat.le_trans (when_len _ _) y1
  have zW2 : W2.size ≤ 500 := by rw [hW2, mkB_size]; exact Nat.le_trans (when_len _ _) y2
  have zW3 : W3.size ≤ 500 := by rw [hW3, mkB_size]; exact Nat.le_trans (when_len _ _) y3
  have zW4 : W4.size ≤ 500 := by rw [hW4, mkB_size]; exact Nat.le_trans (when_len _ _) y4
  obtain ⟨E1, hE1⟩ : ∃ T, T = u.scheme ++ (⟨#[58]⟩ : ByteArray) := ⟨_, rfl⟩
  obtain ⟨E2, hE2⟩ : ∃ T, T = E1 ++ W1 := ⟨_, rfl⟩
  obtain ⟨E3, hE3⟩ : ∃ T, T = E2 ++ W2 := ⟨_, rfl⟩
  obtain ⟨E4, hE4⟩ : ∃ T, T = E3 ++ PT := ⟨_, rfl⟩
  obtain ⟨E5, hE5⟩ : ∃ T, T = E4 ++ W3 := ⟨_, rfl⟩
  obtain ⟨E6, hE6⟩ : ∃ T, T = E5 ++ W4 := ⟨_, rfl⟩
  have x1 : E1.size ≤ 101 := by rw [hE1, ByteArray.size_append, show (⟨#[58]⟩ : ByteArray).size = 1 from rfl]; omega
  have x2 : E2.size ≤ 601 := by rw [hE2, ByteArray.size_append]; omega
  have x3 : E3.size ≤ 1101 := by rw [hE3, ByteArray.size_append]; omega
  have x4 : E4.size ≤ 2400 := by rw [hE4, ByteArray.size_append]; omega
  have x5 : E5.size ≤ 2900 := by rw [hE5, ByteArray.size_append]; omega
  have s1 : ∀ w, (Op.stringOp .add u.scheme ⟨#[58]⟩).run Tryd.prog w = .ok (.string E1) w := fun w => by rw [hE1]; exact run_string_add_sum w _ _ (by rw [show (⟨#[58]⟩ : ByteArray).size = 1 from rfl]; omega)
  have s2 : ∀ w, (Op.stringOp .add E1 W1).run Tryd.prog w = .ok (.string E2) w := fun w => by rw [hE2]; exact run_string_add_sum w _ _ (by omega)
  have s3 : ∀ w, (Op.stringOp .add E2 W2).run Tryd.prog w = .ok (.string E3) w := fun w => by rw [hE3]; exact run_string_add_sum w _ _ (by omega)
  have s4 : ∀ w, (Op.stringOp .add E3 PT).run Tryd.prog w = .ok (.string E4) w := fun w => by rw [hE4]; exact run_string_add_sum w _ _ (by omega)
  have s5 : ∀ w, (Op.stringOp .add E4 W3).run Tryd.prog w = .ok (.string E5) w := fun w => by rw [hE5]; exact run_string_add_sum w _ _ (by omega)
  have s6 : ∀ w, (Op.stringOp .add E5 W4).run Tryd.prog w = .ok (.string E6) w := fun w => by rw [hE6]; exact run_string_add_sum w _ _ (by omega)
  have HT := Lib.hid (show E6 = mkB (textU u bare) by
    rw [hE6, hE5, hE4, hE3, hE2, hE1, hW1, hW2, hW3, hW4, hPT, hTA]
    unfold textU
    rw [hho, ← hem]
    apply ByteArray.ext
    simp [mkB, ByteArray.data_append, flat])
  have HW1 := Lib.hid (fun (W : World) (g : Nat) (hg : g < W.heap.size) (hr : RowAt textC 1 W (some ⟨g, 0, none⟩) [⟨#[47, 47]⟩, TA]) => when_calls hd g [⟨#[47, 47]⟩, TA] W hg hr (by simp) (fun _ => by omega))
  have HW2 := Lib.hid (fun (W : World) (g : Nat) (hg : g < W.heap.size) (hr : RowAt textC 1 W (some ⟨g, 0, none⟩) [⟨#[47, 46]⟩]) => when_calls em g [⟨#[47, 46]⟩] W hg hr (by simp) (fun _ => by omega))
  have HW3 := Lib.hid (fun (W : World) (g : Nat) (hg : g < W.heap.size) (hr : RowAt textC 1 W (some ⟨g, 0, none⟩) [⟨#[63]⟩, u.query]) => when_calls u.hasq g [⟨#[63]⟩, u.query] W hg hr (by simp) (fun _ => by omega))
  have HW4 := Lib.hid (fun (W : World) (g : Nat) (hg : g < W.heap.size) (hr : RowAt textC 1 W (some ⟨g, 0, none⟩) [⟨#[35]⟩, u.frag]) => when_calls (!bare && u.hasf) g [⟨#[35]⟩, u.frag] W hg hr (by simp) (fun _ => by omega))
  rw [← hTA] at hA
  rw [← hPT] at hP
  rw [← hW1] at HW1
  rw [← hW2] at HW2
  rw [← hW3] at HW3
  rw [← hW4] at HW4
  rw [← HT.out]
  rw [cells_u] at hA hP ⊢
  have hl20 := hs.len
  have hho' := hho
  clear zA zP zs zq zf hho hTA hPT zTA zPT hW1 hW2 hW3 hW4 y1 y2 y3 y4 zW1 zW2 zW3 zW4 hE1 hE2 hE3 hE4 hE5 hE6 x1 x2 x3 x4 x5 HT hs ho
  have HEM := Lib.hid hem
  have HR := Lib.hid hr
  clear hem hr
  obtain ⟨scheme, user, pass, ⟨k, nm, v4, a0, a1, a2, a3, a4, a5, a6, a7⟩, port, opq, path, hasq, query, hasf, frag⟩ := u
  simp only at hA hP s1 HW3 HW4 hkz HEM HR hc hl20 ⊢
  have HA := Lib.hid hA
  have HP := Lib.hid hP
  replace hkz : (k != 0) = hd := hkz.symm
  clear hA hP
  have HS := Lib.hid (And.intro s1 (And.intro s2 (And.intro s3 (And.intro s4 (And.intro s5 s6)))))
  clear s1 s2 s3 s4 s5 s6
  have HCASE := Lib.hid (show (hd = true ∧ em = false) ∨ (hd = false ∧ opq = true ∧ em = false) ∨ (hd = false ∧ opq = false ∧ ¬ (1 : Int) < (path.length : Int) ∧ em = false) ∨ (hd = false ∧ opq = false ∧ (1 : Int) < (path.length : Int) ∧ ∃ s b off, A = some ⟨b, off, none⟩ ∧ w.cell? ⟨b, off, none⟩ = some (.string s) ∧ s.toList.isEmpty = em) by
    have hho2 : hosted ⟨scheme, user, pass, ⟨k, nm, v4, a0, a1, a2, a3, a4, a5, a6, a7⟩, port, opq, path, hasq, query, hasf, frag⟩ = hd := hho'
    cases hd with
    | true => exact .inl ⟨rfl, by rw [HEM.out]; unfold dotted; rw [hho2]; rfl⟩
    | false =>
      cases opq with
      | true => exact .inr (.inl ⟨rfl, rfl, by rw [HEM.out]; unfold dotted; rw [hho2]; simp⟩)
      | false =>
        by_cases hl : 1 < path.length
        · refine .inr (.inr (.inr ⟨rfl, rfl, by omega, ?_⟩))
          obtain ⟨s, hs⟩ : ∃ s, path[0]? = some s := ⟨path[0], List.getElem?_eq_getElem _⟩
          obtain ⟨b, off, rfl, hcell⟩ := HR.out 0 s hs
          refine ⟨s, b, off, rfl, by simpa using hcell 0 (.string s) rfl, ?_⟩
          rw [HEM.out]
          unfold dotted isEmpty
          rw [hho2]
          have : path.head? = some s := by rw [List.head?_eq_getElem?]; exact hs
          simp [this, hl]
        · exact .inr (.inr (.inl ⟨rfl, rfl, by omega, by rw [HEM.out]; unfold dotted; rw [hho2]; simp [hl]⟩)))
  clear hho' HEM HR
  have HK := Lib.hid hkz
  clear hkz
  obtain ⟨s1, s2, s3, s4, s5, s6⟩ := HS.out
  clear HS
  cases bare

  · simp only [Bool.not_false, Bool.true_and] at HW4
    rcases HCASE.out with ⟨rfl, rfl⟩ | ⟨rfl, rfl, rfl⟩ | ⟨rfl, rfl, hl, rfl⟩ | ⟨rfl, rfl, hl, s, b, off, rfl, h0, hse⟩
    · clear HCASE
      have hk := HK.out
      go_enter Tryd.func15, Tryd.ntmps15
      go_wp2_with fail
      obtain ⟨W, hW⟩ : ∃ W, W = w.alloc (.cells #[.string scheme, .string user, .string pass, .int .i64 k, .string nm, .int .u32 v4, .int .u16 a0, .int .u16 a1, .int .u16 a2, .int .u16 a3, .int .u16 a4, .int .u16 a5, .int .u16 a6, .int .u16 a7, .int .i64 port, .bool opq, .slice A path.length c, .bool hasq, .string query, .bool hasf, .string frag] 29) := ⟨_, rfl⟩
      have KU := Lib.hid (show Blk W w.heap.size 29 #[.string scheme, .string user, .string pass, .int .i64 k, .string nm, .int .u32 v4, .int .u16 a0, .int .u16 a1, .int .u16 a2, .int .u16 a3, .int .u16 a4, .int .u16 a5, .int .u16 a6, .int .u16 a7, .int .i64 port, .bool opq, .slice A path.length c, .bool hasq, .string query, .bool hasf, .string frag] by rw [hW]; exact Blk.new w _ _)
      have HB := Lib.hid (show Below w.heap.size w W by rw [hW]; exact (Below.refl _ _).alloc (Nat.le_refl _) _)
      rw [← hW]
      refine text_region_f _ _ _ _ _ _ _ _ _ _ _ _ _ _ _ _ _ _ _ _ _ _ _ _ _ w W TA PT W1 W2 W3 W4 E1 E2 E3 E4 E5 E6 KU HB HF HA HP HW1 HW2 HW3 HW4 s1 s2 s3 s4 s5 s6 _ _ _ rfl rfl rfl rfl rfl ?_
      intro a w2 er hdef hbe
      rename_i Q9 K9 hK9
      refine hK9 _ _ (wp_ret ?_)
      refine bodyPost_ret (results_tmp (t := 4) rfl a.tmps _ w2) hdef ?_
      rw [er]
      exact ⟨rfl, belowOn HB.out HB.out.size hbe⟩
    · clear HCASE
      have hk := HK.out
      go_enter Tryd.func15, Tryd.ntmps15
      go_wp2_with fail
      obtain ⟨W, hW⟩ : ∃ W, W = w.alloc (.cells #[.string scheme, .string user, .string pass, .int .i64 k, .string nm, .int .u32 v4, .int .u16 a0, .int .u16 a1, .int .u16 a2, .int .u16 a3, .int .u16 a4, .int .u16 a5, .int .u16 a6, .int .u16 a7, .int .i64 port, .bool true, .slice A path.length c, .bool hasq, .string query, .bool hasf, .string frag] 29) := ⟨_, rfl⟩
      have KU := Lib.hid (show Blk W w.heap.size 29 #[.string scheme, .string user, .string pass, .int .i64 k, .string nm, .int .u32 v4, .int .u16 a0, .int .u16 a1, .int .u16 a2, .int .u16 a3, .int .u16 a4, .int .u16 a5, .int .u16 a6, .int .u16 a7, .int .i64 port, .bool true, .slice A path.length c, .bool hasq, .string query, .bool hasf, .string frag] by rw [hW]; exact Blk.new w _ _)
      have HB := Lib.hid (show Below w.heap.size w W by rw [hW]; exact (Below.refl _ _).alloc (Nat.le_refl _) _)
      rw [← hW]
      refine text_region_f _ _ _ _ _ _ _ _ _ _ _ _ _ _ _ _ _ _ _ _ _ _ _ _ _ w W TA PT W1 W2 W3 W4 E1 E2 E3 E4 E5 E6 KU HB HF HA HP HW1 HW2 HW3 HW4 s1 s2 s3 s4 s5 s6 _ _ _ rfl rfl rfl rfl rfl ?_
      intro a w2 er hdef hbe
      rename_i Q9 K9 hK9
      refine hK9 _ _ (wp_ret ?_)
      refine bodyPost_ret (results_tmp (t := 4) rfl a.tmps _ w2) hdef ?_
      rw [er]
      exact ⟨rfl, belowOn HB.out HB.out.size hbe⟩
    · clear HCASE
      have hk := HK.out
      go_enter Tryd.func15, Tryd.ntmps15
      go_wp2_with fail
      obtain ⟨W, hW⟩ : ∃ W, W = w.alloc (.cells #[.string scheme, .string user, .string pass, .int .i64 k, .string nm, .int .u32 v4, .int .u16 a0, .int .u16 a1, .int .u16 a2, .int .u16 a3, .int .u16 a4, .int .u16 a5, .int .u16 a6, .int .u16 a7, .int .i64 port, .bool false, .slice A path.length c, .bool hasq, .string query, .bool hasf, .string frag] 29) := ⟨_, rfl⟩
      have KU := Lib.hid (show Blk W w.heap.size 29 #[.string scheme, .string user, .string pass, .int .i64 k, .string nm, .int .u32 v4, .int .u16 a0, .int .u16 a1, .int .u16 a2, .int .u16 a3, .int .u16 a4, .int .u16 a5, .int .u16 a6, .int .u16 a7, .int .i64 port, .bool false, .slice A path.length c, .bool hasq, .string query, .bool hasf, .string frag] by rw [hW]; exact Blk.new w _ _)
      have HB := Lib.hid (show Below w.heap.size w W by rw [hW]; exact (Below.refl _ _).alloc (Nat.le_refl _) _)
      rw [← hW]
      refine text_region_f _ _ _ _ _ _ _ _ _ _ _ _ _ _ _ _ _ _ _ _ _ _ _ _ _ w W TA PT W1 W2 W3 W4 E1 E2 E3 E4 E5 E6 KU HB HF HA HP HW1 HW2 HW3 HW4 s1 s2 s3 s4 s5 s6 _ _ _ rfl rfl rfl rfl rfl ?_
      intro a w2 er hdef hbe
      rename_i Q9 K9 hK9
      refine hK9 _ _ (wp_ret ?_)
      refine bodyPost_ret (results_tmp (t := 4) rfl a.tmps _ w2) hdef ?_
      rw [er]
      exact ⟨rfl, belowOn HB.out HB.out.size hbe⟩
    · clear HCASE
      have hk := HK.out
      have hl0 : (0 : Int) < (path.length : Int) := by omega
      have hc0 : ∀ o, (w.alloc o).cell? ⟨b, off, none⟩ = some (.string s) := fun o => (((Below.refl w.heap.size w).alloc (Nat.le_refl _) o).cell (p := ⟨b, off, none⟩) (World.block_lt_of_cell? w _ h0)).trans h0
      go_enter Tryd.func15, Tryd.ntmps15
      go_wp2_with fail
      obtain ⟨W, hW⟩ : ∃ W, W = w.alloc (.cells #[.string scheme, .string user, .string pass, .int .i64 k, .string nm, .int .u32 v4, .int .u16 a0, .int .u16 a1, .int .u16 a2, .int .u16 a3, .int .u16 a4, .int .u16 a5, .int .u16 a6, .int .u16 a7, .int .i64 port, .bool false, .slice (some ⟨b, off, none⟩) path.length c, .bool hasq, .string query, .bool hasf, .string frag] 29) := ⟨_, rfl⟩
      have KU := Lib.hid (show Blk W w.heap.size 29 #[.string scheme, .string user, .string pass, .int .i64 k, .string nm, .int .u32 v4, .int .u16 a0, .int .u16 a1, .int .u16 a2, .int .u16 a3, .int .u16 a4, .int .u16 a5, .int .u16 a6, .int .u16 a7, .int .i64 port, .bool false, .slice (some ⟨b, off, none⟩) path.length c, .bool hasq, .string query, .bool hasf, .string frag] by rw [hW]; exact Blk.new w _ _)
      have HB := Lib.hid (show Below w.heap.size w W by rw [hW]; exact (Below.refl _ _).alloc (Nat.le_refl _) _)
      rw [← hW]
      refine text_region_f _ _ _ _ _ _ _ _ _ _ _ _ _ _ _ _ _ _ _ _ _ _ _ _ _ w W TA PT W1 W2 W3 W4 E1 E2 E3 E4 E5 E6 KU HB HF HA HP HW1 HW2 HW3 HW4 s1 s2 s3 s4 s5 s6 _ _ _ rfl rfl rfl rfl rfl ?_
      intro a w2 er hdef hbe
      rename_i Q9 K9 hK9
      refine hK9 _ _ (wp_ret ?_)
      refine bodyPost_ret (results_tmp (t := 4) rfl a.tmps _ w2) hdef ?_
      rw [er]
      exact ⟨rfl, belowOn HB.out HB.out.size hbe⟩
  · simp only [Bool.not_true, Bool.false_and] at HW4
    rcases HCASE.out with ⟨rfl, rfl⟩ | ⟨rfl, rfl, rfl⟩ | ⟨rfl, rfl, hl, rfl⟩ | ⟨rfl, rfl, hl, s, b, off, rfl, h0, hse⟩
    · clear HCASE
      have hk := HK.out
      go_enter Tryd.func15, Tryd.ntmps15
      go_wp2_with fail
      obtain ⟨W, hW⟩ : ∃ W, W = w.alloc (.cells #[.string scheme, .string user, .string pass, .int .i64 k, .string nm, .int .u32 v4, .int .u16 a0, .int .u16 a1, .int .u16 a2, .int .u16 a3, .int .u16 a4, .int .u16 a5, .int .u16 a6, .int .u16 a7, .int .i64 port, .bool opq, .slice A path.length c, .bool hasq, .string query, .bool hasf, .string frag] 29) := ⟨_, rfl⟩
      have KU := Lib.hid (show Blk W w.heap.size 29 #[.string scheme, .string user, .string pass, .int .i64 k, .string nm, .int .u32 v4, .int .u16 a0, .int .u16 a1, .int .u16 a2, .int .u16 a3, .int .u16 a4, .int .u16 a5, .int .u16 a6, .int .u16 a7, .int .i64 port, .bool opq, .slice A path.length c, .bool hasq, .string query, .bool hasf, .string frag] by rw [hW]; exact Blk.new w _ _)
      have HB := Lib.hid (show Below w.heap.size w W by rw [hW]; exact (Below.refl _ _).alloc (Nat.le_refl _) _)
      rw [← hW]
      refine text_region_t _ _ _ _ _ _ _ _ _ _ _ _ _ _ _ _ _ _ _ _ _ _ _ _ _ w W TA PT W1 W2 W3 W4 E1 E2 E3 E4 E5 E6 KU HB HF HA HP HW1 HW2 HW3 HW4 s1 s2 s3 s4 s5 s6 _ _ _ rfl rfl rfl rfl rfl ?_
      intro a w2 er hdef hbe
      rename_i Q9 K9 hK9
      refine hK9 _ _ (wp_ret ?_)
      refine bodyPost_ret (results_tmp (t := 4) rfl a.tmps _ w2) hdef ?_
      rw [er]
      exact ⟨rfl, belowOn HB.out HB.out.size hbe⟩
    · clear HCASE
      have hk := HK.out
      go_enter Tryd.func15, Tryd.ntmps15
      go_wp2_with fail
      obtain ⟨W, hW⟩ : ∃ W, W = w.alloc (.cells #[.string scheme, .string user, .string pass, .int .i64 k, .string nm, .int .u32 v4, .int .u16 a0, .int .u16 a1, .int .u16 a2, .int .u16 a3, .int .u16 a4, .int .u16 a5, .int .u16 a6, .int .u16 a7, .int .i64 port, .bool true, .slice A path.length c, .bool hasq, .string query, .bool hasf, .string frag] 29) := ⟨_, rfl⟩
      have KU := Lib.hid (show Blk W w.heap.size 29 #[.string scheme, .string user, .string pass, .int .i64 k, .string nm, .int .u32 v4, .int .u16 a0, .int .u16 a1, .int .u16 a2, .int .u16 a3, .int .u16 a4, .int .u16 a5, .int .u16 a6, .int .u16 a7, .int .i64 port, .bool true, .slice A path.length c, .bool hasq, .string query, .bool hasf, .string frag] by rw [hW]; exact Blk.new w _ _)
      have HB := Lib.hid (show Below w.heap.size w W by rw [hW]; exact (Below.refl _ _).alloc (Nat.le_refl _) _)
      rw [← hW]
      refine text_region_t _ _ _ _ _ _ _ _ _ _ _ _ _ _ _ _ _ _ _ _ _ _ _ _ _ w W TA PT W1 W2 W3 W4 E1 E2 E3 E4 E5 E6 KU HB HF HA HP HW1 HW2 HW3 HW4 s1 s2 s3 s4 s5 s6 _ _ _ rfl rfl rfl rfl rfl ?_
      intro a w2 er hdef hbe
      rename_i Q9 K9 hK9
      refine hK9 _ _ (wp_ret ?_)
      refine bodyPost_ret (results_tmp (t := 4) rfl a.tmps _ w2) hdef ?_
      rw [er]
      exact ⟨rfl, belowOn HB.out HB.out.size hbe⟩
    · clear HCASE
      have hk := HK.out
      go_enter Tryd.func15, Tryd.ntmps15
      go_wp2_with fail
      obtain ⟨W, hW⟩ : ∃ W, W = w.alloc (.cells #[.string scheme, .string user, .string pass, .int .i64 k, .string nm, .int .u32 v4, .int .u16 a0, .int .u16 a1, .int .u16 a2, .int .u16 a3, .int .u16 a4, .int .u16 a5, .int .u16 a6, .int .u16 a7, .int .i64 port, .bool false, .slice A path.length c, .bool hasq, .string query, .bool hasf, .string frag] 29) := ⟨_, rfl⟩
      have KU := Lib.hid (show Blk W w.heap.size 29 #[.string scheme, .string user, .string pass, .int .i64 k, .string nm, .int .u32 v4, .int .u16 a0, .int .u16 a1, .int .u16 a2, .int .u16 a3, .int .u16 a4, .int .u16 a5, .int .u16 a6, .int .u16 a7, .int .i64 port, .bool false, .slice A path.length c, .bool hasq, .string query, .bool hasf, .string frag] by rw [hW]; exact Blk.new w _ _)
      have HB := Lib.hid (show Below w.heap.size w W by rw [hW]; exact (Below.refl _ _).alloc (Nat.le_refl _) _)
      rw [← hW]
      refine text_region_t _ _ _ _ _ _ _ _ _ _ _ _ _ _ _ _ _ _ _ _ _ _ _ _ _ w W TA PT W1 W2 W3 W4 E1 E2 E3 E4 E5 E6 KU HB HF HA HP HW1 HW2 HW3 HW4 s1 s2 s3 s4 s5 s6 _ _ _ rfl rfl rfl rfl rfl ?_
      intro a w2 er hdef hbe
      rename_i Q9 K9 hK9
      refine hK9 _ _ (wp_ret ?_)
      refine bodyPost_ret (results_tmp (t := 4) rfl a.tmps _ w2) hdef ?_
      rw [er]
      exact ⟨rfl, belowOn HB.out HB.out.size hbe⟩
    · clear HCASE
      have hk := HK.out
      have hl0 : (0 : Int) < (path.length : Int) := by omega
      have hc0 : ∀ o, (w.alloc o).cell? ⟨b, off, none⟩ = some (.string s) := fun o => (((Below.refl w.heap.size w).alloc (Nat.le_refl _) o).cell (p := ⟨b, off, none⟩) (World.block_lt_of_cell? w _ h0)).trans h0
      go_enter Tryd.func15, Tryd.ntmps15
      go_wp2_with fail
      obtain ⟨W, hW⟩ : ∃ W, W = w.alloc (.cells #[.string scheme, .string user, .string pass, .int .i64 k, .string nm, .int .u32 v4, .int .u16 a0, .int .u16 a1, .int .u16 a2, .int .u16 a3, .int .u16 a4, .int .u16 a5, .int .u16 a6, .int .u16 a7, .int .i64 port, .bool false, .slice (some ⟨b, off, none⟩) path.length c, .bool hasq, .string query, .bool hasf, .string frag] 29) := ⟨_, rfl⟩
      have KU := Lib.hid (show Blk W w.heap.size 29 #[.string scheme, .string user, .string pass, .int .i64 k, .string nm, .int .u32 v4, .int .u16 a0, .int .u16 a1, .int .u16 a2, .int .u16 a3, .int .u16 a4, .int .u16 a5, .int .u16 a6, .int .u16 a7, .int .i64 port, .bool false, .slice (some ⟨b, off, none⟩) path.length c, .bool hasq, .string query, .bool hasf, .string frag] by rw [hW]; exact Blk.new w _ _)
      have HB := Lib.hid (show Below w.heap.size w W by rw [hW]; exact (Below.refl _ _).alloc (Nat.le_refl _) _)
      rw [← hW]
      refine text_region_t _ _ _ _ _ _ _ _ _ _ _ _ _ _ _ _ _ _ _ _ _ _ _ _ _ w W TA PT W1 W2 W3 W4 E1 E2 E3 E4 E5 E6 KU HB HF HA HP HW1 HW2 HW3 HW4 s1 s2 s3 s4 s5 s6 _ _ _ rfl rfl rfl rfl rfl ?_
      intro a w2 er hdef hbe
      rename_i Q9 K9 hK9
      refine hK9 _ _ (wp_ret ?_)
      refine bodyPost_ret (results_tmp (t := 4) rfl a.tmps _ w2) hdef ?_
      rw [er]
      exact ⟨rfl, belowOn HB.out HB.out.size hbe⟩
end Go.Proofs.YtgljkgkmbfhgiaaDoor
