/- The iterator over the Fails that an error is made of. -/
import Derived.Test.YtnipglclecafiaaDoorIter
import Derived.Test.YtnipglclecafiaaDoorErrAsF
set_option linter.unusedVariables false
set_option linter.unusedSimpArgs false
namespace Go.Proofs.YtnipglclecafiaaDoor
open Go.RowKit Go.Shelf
attribute [local go_sem] Oper.semAt_some

/-- An error's Fails, block by block: their calls, what it ends in: a number, or nothing. -/
inductive ChainG (w : World) : List Nat → List ByteArray → Value → Option Int → Prop
  | num (c : Int) : ChainG w [] [] (.iface 25 (.int .i64 c)) (some c)
  | nil : ChainG w [] [] .nilIface none
  | fail (g : Nat) (s : ByteArray) (gs : List Nat) (l : List ByteArray) (v : Value) (e : Option Int) (h : Blk w g 45 #[.string s, v]) (hv : ChainG w gs l v e) : ChainG w (g :: gs) (s :: l) (.iface 40 (.pointer (some ⟨g, 0, none⟩))) e
theorem ChainG.keep {w w' : World} {n : Nat} (hb : Below n w w') {gs : List Nat} {l : List ByteArray} {v : Value} {e : Option Int} (h : ChainG w gs l v e) (hn : ∀ g ∈ gs, g < n) : ChainG w' gs l v e := by
  induction h with
  | num c => exact .num c
  | nil => exact .nil
  | fail g s gs l v e h _ ih => exact .fail g s gs l v e (h.below hb (hn g (by simp))) (ih fun x hx => hn x (by simp [hx]))
theorem ChainG.lt {w : World} {gs : List Nat} {l : List ByteArray} {v : Value} {e : Option Int} (h : ChainG w gs l v e) : ∀ g ∈ gs, g < w.heap.size := by
  induction h with
  | num c => simp
  | nil => simp
  | fail g s gs l v e h _ ih =>
    intro x hx
    rcases List.mem_cons.1 hx with rfl | hx
    · exact h.lt
    · exact ih x hx
theorem ChainG.len {w : World} {gs : List Nat} {l : List ByteArray} {v : Value} {e : Option Int} (h : ChainG w gs l v e) : gs.length = l.length := by
  induction h with
  | num c => rfl
  | nil => rfl
  | fail g s gs l v e h _ ih => simp [ih]
theorem ChainG.uniq {w : World} {gs gs' : List Nat} {l l' : List ByteArray} {v : Value} {e e' : Option Int} (h : ChainG w gs l v e) (h' : ChainG w gs' l' v e') : gs = gs' := by
  induction h generalizing gs' l' e' with
  | num c => cases h'; rfl
  | nil => cases h'; rfl
  | fail g s gs l v e h _ ih =>
    cases h' with
    | fail _ s' gs2 l2 v2 e2 h2 hv2 =>
      unfold Blk at h h2
      rw [h] at h2
      injection h2 with h2
      injection h2 with h2
      have h3 : ([Value.string s, v] : List Value) = [Value.string s', v2] := congrArg Array.toList h2
      injection h3 with _ h4
      injection h4 with h5 _
      subst h5
      rw [ih hv2]
theorem Chain.toG {w : World} {l : List ByteArray} {v : Value} {c : Int} (h : Chain w l v c) : ∃ gs, ChainG w gs l v (some c) := by
  induction h with
  | num c => exact ⟨[], .num c⟩
  | fail g s l v c h _ ih => obtain ⟨gs, hg⟩ := ih; exact ⟨g :: gs, .fail g s gs l v _ h hg⟩
open Classical in
/-- How many Fails an error is made of, read off the world. -/
noncomputable def left (w : World) (v : Value) : Nat :=
  if h : ∃ r : List Nat × List ByteArray × Option Int, ChainG w r.1 r.2.1 v r.2.2 then (Classical.choose h).1.length else 0
theorem left_eq {w : World} {gs : List Nat} {l : List ByteArray} {v : Value} {e : Option Int} (h : ChainG w gs l v e) : left w v = gs.length := by
  have hex : ∃ r : List Nat × List ByteArray × Option Int, ChainG w r.1 r.2.1 v r.2.2 := ⟨(gs, l, e), h⟩
  unfold left
  rw [dif_pos hex, (Classical.choose_spec hex).uniq h]

theorem grown_of_fr {w w' : World} {b : Nat} (h : Fr w w' (· = b)) : w.grownBy w' (some b) := ⟨h.os, h.tape, h.output, h.size, fun i hi hn => h.block i hi (fun e => hn (by rw [e]))⟩
theorem grown_of_below {w w' : World} (h : Below w.heap.size w w') (row : Option Nat) : w.grownBy w' row := ⟨h.os, h.tape, h.output, h.size, fun i hi _ => h.block i hi⟩
theorem grown_set (w : World) (b i : Nat) (u : Value) : w.grownBy (w.setCell ⟨b, i, none⟩ u) (some b) :=
  ⟨rfl, rfl, rfl, by simp [World.setCell], fun k _ hk => Below.heap_setCell w ⟨b, i, none⟩ u k (fun e => hk (by rw [e]))⟩

/-- What a round keeps: what lay ahead of the call, and the iterator's two boxes. -/
def KeepF (n0 be bf : Nat) (W W' : World) : Prop := Below n0 W W' ∧ W'.heap[be]? = W.heap[be]? ∧ W'.heap[bf]? = W.heap[bf]?

set_option maxRecDepth 100000 in
set_option maxHeartbeats 4000000 in
theorem fails_iter (n n0 be : Nat) (hn : 1 ≤ n) (gs : List Nat) (l0 : List ByteArray) (v : Value) (e : Option Int) (W : World) (hbe : n0 ≤ be) (hbW : be < W.heap.size) (hG : ErrType W) (hGn : 0 < n0)
    (hv : Blk W be 28 #[v]) (hc : ChainG W gs l0 v e) (hgs : ∀ g ∈ gs, g < n0) :
    IterAt Fence.wide n Tryd.prog 30 #[.pointer (some ⟨be, 0, none⟩)] (fun g : Nat => #[.pointer (some ⟨g, 0, none⟩)]) (KeepF n0 be W.heap.size) gs (fun r => r = be ∨ r = W.heap.size) (W.heap.size + 1) W := by
  intro l J hJ hY h0
  have HJ := Lib.hid hJ
  have HY := Lib.hid hY
  have HG := Lib.hid hG
  have HV := Lib.hid hv
  have HC := Lib.hid hc
  have HGS := Lib.hid hgs
  have H0 := Lib.hid h0
  clear hJ hY hG hv hc hgs h0
  have hx0 := HV.out.cell 0
  simp only [List.getElem?_toArray, List.getElem?_cons_zero] at hx0
  refine callsIn_of_wp Tryd.func30 rfl trivial ?_ rfl
  simp only [Tryd.ntmps30, List.size_toArray, List.length_cons, List.length_nil, Nat.reduceAdd, Nat.reduceSub, Array.replicate_succ, Array.replicate_zero, List.push_toArray, List.append_toArray, List.nil_append, List.cons_append]
  gi_wp2
  have hb0 : Below n0 W (W.alloc (.cells #[.pointer none] 40)) := (Below.refl _ W).alloc (by omega) _
  gi_loopw [4] (fun v4 wr => ∃ (pre rest : List Nat) (lr : List ByteArray) (vr fv : Value), gs = pre ++ rest ∧ ChainG W rest lr vr e ∧ Blk wr be 28 #[vr] ∧ Blk wr W.heap.size 40 #[fv] ∧ Below n0 W wr ∧ J pre wr)
    (fun v4 wr => left wr ((wr.cell? ⟨be, 0, none⟩).getD undef))
  case atStart =>
    refine ⟨[], gs, l0, v, .pointer none, rfl, HC.out, HV.out.alloc _, Blk.new W _ _, hb0, ?_⟩
    exact HJ.out [] W _ none H0.out (grown_of_below ((Below.refl _ W).alloc (Nat.le_refl _) _) none) (fun r e => by cases e)
  case round =>
    obtain ⟨pre, rest, lr, vr, fv, hgs, hch, hbx, hfx, hbl, hj⟩ := hrel
    have x0 := hbx.cell 0
    have y0 := hfx.cell 0
    have fx0 := hbx.frozen 0
    have fy0 := hfx.frozen 0
    have hblt := hbx.lt
    have hflt := hfx.lt
    have hne : ¬ be = W.heap.size := by omega
    have hne' : ¬ W.heap.size = be := by omega
    simp only [List.getElem?_toArray, List.getElem?_cons_zero] at x0 y0
    have hgw : ErrType wr := (hbl.cell (p := ⟨0, 0, none⟩) hGn).trans HG.out
    have HGW := Lib.hid hgw
    have HBX := Lib.hid hbx
    have HFX := Lib.hid hfx
    have HBL := Lib.hid hbl
    have HJJ := Lib.hid hj
    have HGS1 := Lib.hid hgs
    have hlt1 : ∀ g ∈ rest, g < n0 := fun g hg => HGS.out g (by rw [hgs]; simp [hg])
    have HLT1 := Lib.hid hlt1
    have HM := Lib.hid (left_eq (hch.keep HBL.out hlt1))
    clear hbx hfx hbl hj hgs hgw hlt1
    cases hch with
    | nil =>
      gi_wp2
      refine ⟨trivial, ?_⟩
      gi_wp2
      go_end0
      exact ⟨⟨_, rfl⟩, by rw [HGS1.out, List.append_nil]; exact HJJ.out⟩
    | num c =>
      gi_wp2_with (refine ⟨trivial, ?_⟩; gi_at_call 20; refine (callsIn_wide.2 (as_N c ⟨W.heap.size, 0, none⟩ fv wr HGW.out y0 fy0)).mono ?_; rintro e w2 ⟨rfl, hb2⟩; have HB2 := Lib.hid hb2; clear hb2)
      go_end0
      exact ⟨⟨_, rfl⟩, by rw [HGS1.out, List.append_nil]; exact HJ.out _ _ _ none HJJ.out (grown_of_below HB2.out none) (fun r e => by cases e)⟩
    | fail g s gs2 l2 v2 _ hg hv2 =>
      have HV2 := Lib.hid hv2
      have HGG := Lib.hid hg
      clear hv2 hg
      gi_wp2_with (refine ⟨trivial, ?_⟩; gi_at_call 20; refine (callsIn_wide.2 (as_F ⟨g, 0, none⟩ ⟨W.heap.size, 0, none⟩ fv wr HGW.out y0 fy0)).mono ?_; rintro e w2 ⟨rfl, wm, hbm, rfl⟩; have hf2 := (HFX.out.keep hbm).set_ 0 (.pointer (some ⟨g, 0, none⟩)); have hc2 := hf2.cell 0; have hb2 := (HBX.out.keep hbm).far (p := ⟨W.heap.size, 0, none⟩) hne (.pointer (some ⟨g, 0, none⟩)); have hl2 : Below n0 W (wm.setCell ⟨W.heap.size, 0, none⟩ (.pointer (some ⟨g, 0, none⟩))) := (HBL.out.trans ⟨hbm.os, hbm.tape, hbm.output, hbm.size, fun i hi => hbm.block i (by omega)⟩).setCell (p := ⟨W.heap.size, 0, none⟩) (by simp; omega) _; obtain ⟨fn, tmps, assign, body, hy, hR⟩ := HY.out pre g (wm.setCell ⟨W.heap.size, 0, none⟩ (.pointer (some ⟨g, 0, none⟩))) (HJ.out _ _ _ _ (HJ.out _ _ _ none HJJ.out (grown_of_below hbm none) (fun r e => by cases e)) (grown_set wm W.heap.size 0 _) (fun r e => by cases e; exact .inr rfl)) ⟨gs2, HGS1.out⟩ (by have := hbm.size; simp; omega); simp only [List.setIfInBounds_toArray, List.set_cons_zero, List.getElem?_toArray, List.getElem?_cons_zero] at hf2 hc2; have HF2 := Lib.hid hf2; have HB2 := Lib.hid hb2; have HL2 := Lib.hid hl2; have HR := Lib.hid hR; clear hf2 hb2 hl2 hR)
      refine HR.out.mono ?_
      rintro e3 W3 ⟨rfl, hJ3, hk3⟩
      have hf3 : Blk W3 W.heap.size 40 #[.pointer (some ⟨g, 0, none⟩)] := hk3.2.2.trans HF2.out
      have hb3 : Blk W3 be 28 #[.iface 40 (.pointer (some ⟨g, 0, none⟩))] := hk3.2.1.trans HB2.out
      have hl3 : Below n0 W W3 := HL2.out.trans hk3.1
      have z0 := hf3.cell 0
      have b0 := hb3.cell 0
      have fb0 := hb3.frozen 0
      have hblt3 := hb3.lt
      have hflt3 := hf3.lt
      simp only [List.getElem?_toArray, List.getElem?_cons_zero] at z0 b0
      have hun := unwrap_calls g s v2 W3 ((HGG.out.below hl3 (HLT1.out g (by simp))))
      have HUN := Lib.hid hun
      have HF3 := Lib.hid hf3
      have HB3 := Lib.hid hb3
      have HL3 := Lib.hid hl3
      have HJ3 := Lib.hid hJ3
      clear hf3 hb3 hl3 hJ3 hk3 hun
      have hform : v2 = .nilIface ∨ ∃ t x, v2 = .iface t x := by
        cases HV2.out with
        | num c => exact .inr ⟨_, _, rfl⟩
        | nil => exact .inl rfl
        | fail => exact .inr ⟨_, _, rfl⟩
      rcases hform with rfl | ⟨t2, y2, rfl⟩
      · gi_wp2_with (refine ⟨trivial, ?_⟩; gi_at_call 21; refine (callsIn_wide.2 HUN.out).mono ?_; rintro e w' ⟨rfl, rfl⟩)
        have hb4 := HB3.out.set_ 0 .nilIface
        simp only [List.setIfInBounds_toArray, List.set_cons_zero] at hb4
        have hl4 : Below n0 W (W3.setCell ⟨be, 0, none⟩ .nilIface) := HL3.out.setCell (p := ⟨be, 0, none⟩) hbe _
        go_roundw
        case rel => exact ⟨pre ++ [g], gs2, l2, .nilIface, _, by rw [HGS1.out]; simp, HV2.out, hb4, HF3.out.far (p := ⟨be, 0, none⟩) hne' _, hl4, HJ.out _ _ _ _ HJ3.out (grown_set W3 be 0 .nilIface) (fun r e => by cases e; exact .inl rfl)⟩
        case measure =>
          have h4 := hb4.cell 0
          simp only [List.getElem?_toArray, List.getElem?_cons_zero] at h4
          rw [h4, x0]
          simp only [Option.getD_some]
          rw [HM.out, left_eq (HV2.out.keep hl4 fun x hx => HLT1.out x (by simp [hx]))]
          simp
      · gi_wp2_with (refine ⟨trivial, ?_⟩; gi_at_call 21; refine (callsIn_wide.2 HUN.out).mono ?_; rintro e w' ⟨rfl, rfl⟩)
        have hb4 := HB3.out.set_ 0 (.iface t2 y2)
        simp only [List.setIfInBounds_toArray, List.set_cons_zero] at hb4
        have hl4 : Below n0 W (W3.setCell ⟨be, 0, none⟩ (.iface t2 y2)) := HL3.out.setCell (p := ⟨be, 0, none⟩) hbe _
        go_roundw
        case rel => exact ⟨pre ++ [g], gs2, l2, (.iface t2 y2), _, by rw [HGS1.out]; simp, HV2.out, hb4, HF3.out.far (p := ⟨be, 0, none⟩) hne' _, hl4, HJ.out _ _ _ _ HJ3.out (grown_set W3 be 0 (.iface t2 y2)) (fun r e => by cases e; exact .inl rfl)⟩
        case measure =>
          have h4 := hb4.cell 0
          simp only [List.getElem?_toArray, List.getElem?_cons_zero] at h4
          rw [h4, x0]
          simp only [Option.getD_some]
          rw [HM.out, left_eq (HV2.out.keep hl4 fun x hx => HLT1.out x (by simp [hx]))]
          simp

theorem fails_calls (v : Value) (w : World) (hv : v = .nilIface ∨ ∃ t x, v = .iface t x) : Calls Tryd.prog 23 #[v] w fun e w' => e = .returned (.func (.func 30) #[] #[.pointer (some ⟨w.heap.size, 0, none⟩)]) ∧ w.alloc (.cells #[v] 28) = w' := by
  rcases hv with rfl | ⟨t, x, rfl⟩
  all_goals (
  go_enter Tryd.func23, Tryd.ntmps23
  go_wp2
  go_ret
  exact ⟨rfl, rfl⟩)
end Go.Proofs.YtnipglclecafiaaDoor
