/- slices.Insert of one code point into a row of the call's own. -/
import Derived.Test.YtbeibfhnbnmocaaDoorProg
import Derived.WalkKit
import Derived.KernelRfl
import Derived.Test.YtbeibfhnbnmocaaDoorRowI
import Derived.Laws.CopyOwn
import Derived.Lib.AppendZerosOnto
import Derived.Lib.Overlaps
import Derived.Laws.NewBlocks
import Derived.Laws.Externs
import Derived.Deep.LoopGhost
import Derived.Lib.Hide
set_option linter.unusedVariables false
set_option linter.unusedSimpArgs false
set_option maxRecDepth 100000
namespace Go.Proofs.YtbeibfhnbnmocaaDoor
open Go.RowKit

theorem grown_below {B : Nat} {w w' : World} {row : Option Nat} (h : w.grownBy w' row) (hB : B ≤ w.heap.size) (hr : ∀ k, row = some k → B ≤ k) : Below B w w' :=
  ⟨h.os, h.tape, h.output, h.size, fun k hk => h.block k (by omega) (fun e => by have := hr k e.symm; omega)⟩
theorem info_r32 : (Tryd.prog.info? 21).map (fun i => (i.zero, i.size, i.bytes)) = some (some (.int .i32 0), 1, 4) := by kernel_rfl
theorem size_r32 : (Tryd.prog.info? 21).map (·.size) = some 1 := by kernel_rfl
theorem add_off (b o j : Nat) : ((⟨b, o, none⟩ : Addr).add j) = ⟨b, o + j, none⟩ := by unfold Addr.add; split <;> simp_all
theorem no_overlap {w : World} {g g0 : Nat} {cur cs0 : Array Value} (h : Blk w g 21 cur) (h0 : Blk w g0 21 cs0) (hne : g0 ≠ g) (hc : cur.size ≠ 0) (o la ca lb cb : Nat) :
    (callFunc 51 #[.slice (some ⟨g0, 0, none⟩) la ca, .slice (some ⟨g, o, none⟩) lb cb]).run Tryd.prog w = .ok (.value (.bool false)) w := by
  rw [run_callFunc_extern Tryd.func51 (by kernel_rfl) (by kernel_rfl) (by kernel_rfl) (e := Extern.SlicesOverlaps.overlaps #[22, 22] #[4]) (by kernel_rfl),
    Lib.run_overlaps_apart w 22 4 21 Tryd.underlying22 1 Tryd.sizeOf21 ⟨g0, 0, none⟩ ⟨g, o, none⟩ la ca lb cb hne 21 21 cs0.size cur.size
      (by unfold Blk at h0; simp [World.shape?, h0]) (by unfold Blk at h; simp [World.shape?, h]) hc (h0.frozen _) (h0.frozen _)]
  rfl
/-- A copy as a step of a drawn region; the other blocks are told. -/
theorem step_copy_far {P : Program} {ops : Array Oper} {o : Oper} {a : Act} {w : World} {K : Act → World → Prop} {Q : Exit → Act → World → Prop} {E : Prop} (hgd : o.guard = none) (d s : Operand) (dT sT : TypeId)
    (ho : o.op = .call { callee := .builtin .copy, args := #[d, s], argTypes := #[dT, sT] }) (elem : TypeId) (hu : P.underlying dT = some (.slice elem)) (hsz : (P.info? elem).map (·.size) = some 1)
    (dp sp : Option Addr) (dLen dCap sLen sCap : Nat) (hd : a.eval d = .slice dp dLen dCap) (hs : a.eval s = .slice sp sLen sCap)
    (g off : Nat) (cur : List Value) (t : TypeId) (hg : w.heap[g]? = some (.cells cur.toArray t (0, 0))) (cs : List Value) (hn : cs.length = Nat.min sLen dLen)
    (hpos : 0 < cs.length → dp = some ⟨g, off, none⟩ ∧ ∃ ad, sp = some ad ∧ ∀ j v, cs[j]? = some v → w.cell? (ad.add j) = some v)
    (hfit : off + cs.length ≤ cur.length) (h1 : ∀ v ∈ cs, v.oneCell' = true) (B : Nat) (w0 : World) (hb : RowKit.Below B w0 w) (hBg : B ≤ g)
    (h : ∀ w', RowKit.Hid (w'.heap[g]? = some (.cells (splice cur off cs).toArray t (0, 0))) → RowKit.Hid (∀ k, k ≠ g → w'.heap[k]? = w.heap[k]?) → RowKit.Below B w0 w' → K (a.put o.dst (goInt cs.length)) w') :
    if Region.wanted o (yielded ops a.tmps) = true then Oper.wp P o a w K Q else E := by
  have hw : Region.wanted o (yielded ops a.tmps) = true := by simp [Region.wanted, hgd]
  rw [if_pos hw]
  by_cases h0 : cs.length = 0
  · obtain rfl : cs = [] := List.eq_nil_of_length_eq_zero h0
    have hrun := run_copy_none (P := P) w dT sT o.type elem dp sp dLen dCap sLen sCap hu hsz (by simpa using hn.symm)
    unfold Oper.wp
    simp [execOp, ho, resolve, invoke, builtin, hd, hs, hrun, Result.andThen]
    exact h w (show _ = _ by simpa [splice] using hg) (fun _ _ => rfl) hb
  · obtain ⟨rfl, ad, rfl, hsrc⟩ := hpos (by omega)
    have hrun := run_copy_row (P := P) w dT sT o.type elem g off dLen dCap ad sLen sCap cur.toArray t cs hu hsz hg hn hsrc (by simpa using hfit) h1
    unfold Oper.wp
    simp [execOp, ho, resolve, invoke, builtin, hd, hs, hrun, Result.andThen]
    exact h _ (show _ = _ by simpa [splice] using setRow_heap w g _ _ t _ hg) (fun k hk => setRow_other w g k _ hk) (below_setRow hb hBg _)
theorem stop82 {P : Program} {ops : Array Oper} {rest : List Oper} {a : Act} {w : World} {Q : Exit → Act → World → Prop} {a1 : Op} {a2 : TypeId} {a3 : String} {a4 : Array Edge} {a5 : Option (Nat × Bool)} (h : Stop (wpList P ops Q (⟨some 82, a1, a2, a3, a4, a5⟩ :: rest) a w)) : wpList P ops Q (⟨some 82, a1, a2, a3, a4, a5⟩ :: rest) a w := h
theorem stop45 {P : Program} {ops : Array Oper} {rest : List Oper} {a : Act} {w : World} {Q : Exit → Act → World → Prop} {a1 : Op} {a2 : TypeId} {a3 : String} {a4 : Array Edge} {a5 : Option (Nat × Bool)} (h : Stop (wpList P ops Q (⟨some 45, a1, a2, a3, a4, a5⟩ :: rest) a w)) : wpList P ops Q (⟨some 45, a1, a2, a3, a4, a5⟩ :: rest) a w := h
/-- What an insertion leaves of a row's cells. -/
theorem splice_ins {α : Type} (L l : List α) (i : Nat) (x : α) (hi : i ≤ l.length) (hl : l.length + 1 ≤ L.length) (hL : L.take l.length = l) :
    (splice (splice L (i + 1) (l.drop i)) i [x]).take (l.length + 1) = l.take i ++ x :: l.drop i := by
  have hlen : (l.drop i).length = l.length - i := List.length_drop
  have h1 : L.take i = l.take i := by rw [← hL, List.take_take, Nat.min_eq_left hi]
  unfold splice
  have e1 : (L.take (i + 1) ++ (l.drop i ++ L.drop (i + 1 + (l.drop i).length))).take i = l.take i := by
    rw [List.take_append_of_le_length (by rw [List.length_take]; omega), List.take_take, Nat.min_eq_left (by omega), h1]
  have e2 : (L.take (i + 1) ++ (l.drop i ++ L.drop (i + 1 + (l.drop i).length))).drop (i + [x].length) = l.drop i ++ L.drop (i + 1 + (l.drop i).length) := by
    rw [List.length_singleton]
    exact List.drop_left' (by rw [List.length_take]; omega)
  rw [e1, e2, ← List.append_assoc, ← List.append_assoc]
  rw [List.take_left' (by simp; omega)]
  simp
set_option maxHeartbeats 4000000 in
theorem insert_room {w : World} {B g cap g0 : Nat} {cur : Array Value} {l : List Int} (hg : Blk w g 21 cur) (hB : B ≤ g) (hcl : l.length + 1 ≤ cap) (hcm : cap ≤ maxLen) (hcs : cur.size = cap) (hct : cur.toList.take l.length = l.map (Value.int .i32))
    (i : Nat) (hi : i < l.length) (x : Int) (h0 : Blk w g0 21 #[.int .i32 x]) (hne : g0 ≠ g) (hBw : B ≤ w.heap.size) :
    Calls Tryd.prog 32 #[.slice (some ⟨g, 0, none⟩) l.length cap, .int .i64 i, .slice (some ⟨g0, 0, none⟩) 1 1] w fun e w' => ∃ v', e = .returned v' ∧ OwnI w' B 21 .i32 v' (l.take i ++ x :: l.drop i) ∧ Below B w w' := by
  have hov := fun lb cb => no_overlap hg h0 hne (by omega) (i + 1) 1 1 lb cb
  obtain ⟨n, hn⟩ : ∃ n, n = l.length := ⟨_, rfl⟩
  have HG := Lib.hid hg
  have H0 := Lib.hid h0
  have HCT := Lib.hid hct
  have HCS := Lib.hid hcs
  have HN := Lib.hid hn
  rw [← hn] at hi hcl ⊢
  have hi' : (i : Int) < (n : Int) := by omega
  have hcap' : ¬ ((cap : Int) < (n : Int) + 1) := by omega
  have hne' : ¬ ((i : Int) = (n : Int)) := by omega
  unfold maxLen at hcm
  have hw1 : IntKind.i64.wrap ((i : Int) + 1) = (i : Int) + 1 := by rw [IntKind.wrap_i64]; omega
  have hw2 : (0 : Int) ≤ (i : Int) + 1 := by omega
  have hw3 : ((i : Int) + 1).toNat = i + 1 := by omega
  have hw4 : (i : Int) + 1 ≤ (n : Int) + 1 := by omega
  have hw5 : ¬ cap = i + 1 := by omega
  have hw6 : ¬ cap = i := by omega
  have hw7 : (i : Int) ≤ (n : Int) + 1 := by omega
  clear hg h0 hct hcs hn
  go_enter Tryd.func32, Tryd.ntmps32
  go_wp2_with (simp only [hov])
  have hdl : ((l.drop i).map (Value.int .i32)).length = n - i := by rw [List.length_map, List.length_drop, HN.out]
  have hone : ∀ u ∈ (l.drop i).map (Value.int .i32), u.oneCell' = true := fun u hu => by
    obtain ⟨y, -, rfl⟩ := List.mem_map.1 hu
    rfl
  have hcell : ∀ (j : Nat) (u : Value), ((l.drop i).map (Value.int .i32))[j]? = some u → w.drew.cell? ((⟨g, i, none⟩ : Addr).add j) = some u := fun j u hu => by
    rw [add_off]
    show w.cell? ⟨g, i + j, none⟩ = some u
    have h1 := HG.out.cell (i + j)
    rw [h1]
    have h2 : (l.map (Value.int .i32))[i + j]? = some u := by
      rw [List.map_drop, List.getElem?_drop] at hu
      exact hu
    rw [← HCT.out, List.getElem?_take] at h2
    split at h2
    · simpa using h2
    · cases h2
  go_region_law (refine step_copy_far rfl (.tmp 73) (.tmp 76) 22 22 rfl 21 Tryd.underlying22 size_r32 (some ⟨g, i + 1, none⟩) (some ⟨g, i, none⟩) (n + 1 - (i + 1)) (cap - (i + 1)) (n + 1 - i) (cap - i) (by simp [Act.eval, Act.put]) (by simp [Act.eval, Act.put]) g (i + 1) cur.toList 21 HG.out ((l.drop i).map (Value.int .i32)) (by rw [hdl]; simp only [Nat.min_def]; split <;> omega) (fun _ => ⟨rfl, _, rfl, hcell⟩) (by rw [hdl, Array.length_toList, HCS.out]; omega) hone B w ((Below.refl _ _).drew) hB ?_; intro w4 hg4 HK4 hb4)
  go_wp2_with (with_reducible refine stop82 ?_)
  refine stop_go ?_
  obtain ⟨C1, hC1⟩ : ∃ C, C = splice cur.toList (i + 1) ((l.drop i).map (Value.int .i32)) := ⟨_, rfl⟩
  rw [← hC1] at hg4
  have HC1 := Lib.hid hC1
  have nC1 : C1.length = cap := by rw [hC1, length_splice _ _ _ (by rw [hdl, Array.length_toList, HCS.out]; omega), Array.length_toList, HCS.out]
  have h04 : Blk w4 g0 21 #[.int .i32 x] := by
    exact (HK4.out g0 hne).trans H0.out
  clear hC1
  refine wpList_copy_splice rfl (.tmp 80) (.tmp 81) 22 22 rfl 21 Tryd.underlying22 size_r32 (some ⟨g, i, none⟩) (some ⟨g0, 0, none⟩) (n + 1 - i) (cap - i) 1 1 rfl rfl g i C1 21 hg4.out [.int .i32 x] (by show 1 = min 1 (n + 1 - i); omega) (fun _ => ⟨rfl, _, rfl, fun j u hu => ?_⟩) (by show i + 1 ≤ C1.length; omega) (fun u hu => by rw [List.mem_singleton.1 hu]; rfl) B w hb4 hB ?_
  · rcases j with _ | j
    · simp only [List.getElem?_cons_zero, Option.some.injEq] at hu
      subst hu
      exact h04.cell 0
    · simp at hu
  intro w5 hg5 hb5
  go_wp2
  go_ret
  have hi1 : i ≤ l.length := by rw [← HN.out]; omega
  have hlen : (l.take i ++ x :: l.drop i).length = n + 1 := by
    rw [List.length_append, List.length_cons, List.length_take, List.length_drop, HN.out]
    have := HN.out
    omega
  refine ⟨_, rfl, ?_, hb5⟩
  unfold OwnI
  rw [hlen]
  refine ⟨by rw [List.length_map, hlen]; omega, .inr ⟨g, cap, _, rfl, hB, hg5.out, hcl, by unfold maxLen; omega, ?_, ?_⟩⟩
  · rw [List.size_toArray, length_splice _ _ _ (by show i + 1 ≤ C1.length; omega), nC1]
    omega
  · have hlm : (l.map (Value.int .i32)).length = n := by rw [List.length_map, HN.out]
    have hcl' : cur.toList.length = cap := by rw [Array.length_toList, HCS.out]
    rw [HC1.out]
    have := splice_ins cur.toList (l.map (Value.int .i32)) i (Value.int .i32 x) (by omega) (by omega) (by rw [hlm, HN.out]; exact HCT.out)
    rw [hlm, ← List.map_drop] at this
    rw [show (n + 1) * 1 = n + 1 by omega, List.toList_toArray, this]
    rw [List.map_append, List.map_cons, List.map_take, List.map_drop]
set_option maxHeartbeats 4000000 in
theorem insert_end {w : World} {B g0 : Nat} {v : Value} {l : List Int} (h : OwnI w B 21 .i32 v l) (hl : l.length + 1 ≤ 1000000) (x : Int) (h0 : Blk w g0 21 #[.int .i32 x]) (hB : B ≤ w.heap.size) :
    Calls Tryd.prog 32 #[v, .int .i64 l.length, .slice (some ⟨g0, 0, none⟩) 1 1] w fun e w' => ∃ v', e = .returned v' ∧ OwnI w' B 21 .i32 v' (l ++ [x]) ∧ Below B w w' := by
  have hr : RowI .i32 21 w (some ⟨g0, 0, none⟩) [x] := .inr ⟨g0, 0, rfl, ⟨_, h0⟩, fun j y hy => by
    rcases j with _ | j
    · simp only [List.getElem?_cons_zero, Option.some.injEq] at hy
      subst hy
      exact h0.cell 0
    · simp at hy⟩
  obtain ⟨A, c, rfl, -, hc, hA⟩ := h.row
  have hrow : ∀ k, (Value.slice A l.length c).ownBlock = some k → B ≤ k := fun k hk => by
    cases A with
    | none => cases hk
    | some ad =>
      obtain ⟨b1, o1, f1⟩ := ad
      simp only [Value.ownBlock, Option.some.injEq] at hk
      subst hk
      rcases h.2 with ⟨e, _⟩ | ⟨g, cap, cur, e, hb, _⟩
      · cases e
      · cases e
        exact hb
  have hAz : A = none ∨ ∃ g, A = some ⟨g, 0, none⟩ := by
    rcases h.2 with ⟨e, _⟩ | ⟨g, cap, cur, e, hb, _⟩
    · injection e with e _ _
      exact .inl e
    · injection e with e _ _
      exact .inr ⟨g, e⟩
  have hcm : c ≤ maxLen := by
    rcases h.2 with ⟨e, _⟩ | ⟨g, cap, cur, e, hb, _, _, hm, _⟩
    · injection e with _ _ e
      rw [e]
      decide
    · injection e with _ _ e
      rw [e]
      exact hm
  have HO := Lib.hid h
  have HR := Lib.hid hr
  have HW := Lib.hid hrow
  have HL := Lib.hid hl
  obtain ⟨n, hn⟩ : ∃ n, n = l.length := ⟨_, rfl⟩
  have HN := Lib.hid hn
  rw [← hn] at hc hl HO HW ⊢
  unfold maxLen at hcm
  clear h hr hrow h0 hA hn
  rcases hAz with rfl | ⟨g, rfl⟩
  all_goals (
    go_enter Tryd.func32, Tryd.ntmps32
    go_wp2_with (at_builtin; refine stop_here ?_)
    all_goals (
      have HO1 := HO.out
      have HW1 := HW.out
      try rw [(by assumption : c = n)] at HO1 HW1
      refine stop_go ?_
      refine wpList_appendI rfl (.tmp 23) (.tmp 24) 22 21 .i32 4 rfl Tryd.underlying22 info_r32 (by decide) B _ l (some ⟨g0, 0, none⟩) 1 [x] rfl rfl HO1 HR.out (by have := HL.out; simpa using this) hB ?_
      intro v' w' hv' hg' _
      have HV := Lib.hid hv'
      have HB := Lib.hid (grown_below hg' hB HW1)
      clear hv' hg'
      go_wp2
      go_ret
      exact ⟨_, rfl, HV.out, HB.out⟩))
theorem splice_grow {α : Type} (L l : List α) (i : Nat) (x : α) (hi : i < l.length) (hl : l.length + 1 ≤ L.length) (hL : L.take i = l.take i) :
    (splice (splice L i [x]) (i + 1) (l.drop i)).take (l.length + 1) = l.take i ++ x :: l.drop i := by
  have hlen : (l.drop i).length = l.length - i := List.length_drop
  have hti : (l.take i).length = i := by rw [List.length_take]; omega
  unfold splice
  rw [hL]
  have e1 : (l.take i ++ ([x] ++ L.drop (i + [x].length))).take (i + 1) = l.take i ++ [x] := by
    rw [← List.append_assoc]
    exact List.take_left' (by rw [List.length_append, hti, List.length_singleton])
  rw [e1, ← List.append_assoc]
  rw [List.take_left' (by simp; omega)]
  simp
set_option maxHeartbeats 4000000 in
theorem insert_grow {w : World} {B g cap g0 : Nat} {cur : Array Value} {l : List Int} (hg : Blk w g 21 cur) (hB : B ≤ g) (hcl : cap < l.length + 1) (hcs : cur.size = cap) (hlc : l.length ≤ cap) (hct : cur.toList.take l.length = l.map (Value.int .i32)) (hlm : l.length + 1 ≤ 1000000)
    (i : Nat) (hi : i < l.length) (x : Int) (h0 : Blk w g0 21 #[.int .i32 x]) (hne : g0 ≠ g) (hBw : B ≤ w.heap.size) :
    Calls Tryd.prog 32 #[.slice (some ⟨g, 0, none⟩) l.length cap, .int .i64 i, .slice (some ⟨g0, 0, none⟩) 1 1] w fun e w' => ∃ v', e = .returned v' ∧ OwnI w' B 21 .i32 v' (l.take i ++ x :: l.drop i) ∧ Below B w w' := by
  obtain ⟨n, hn⟩ : ∃ n, n = l.length := ⟨_, rfl⟩
  have HG := Lib.hid hg
  have H0 := Lib.hid h0
  have HCT := Lib.hid hct
  have HCS := Lib.hid hcs
  have HN := Lib.hid hn
  rw [← hn] at hi hcl hlc hlm ⊢
  have hi' : (i : Int) < (n : Int) := by omega
  have hcap' : (cap : Int) < (n : Int) + 1 := by omega
  have hne' : ¬ ((i : Int) = (n : Int)) := by omega
  have hw1 : IntKind.i64.wrap ((i : Int) + 1) = (i : Int) + 1 := by rw [IntKind.wrap_i64]; omega
  have hw2 : (0 : Int) ≤ (i : Int) + 1 := by omega
  have hw3 : ((i : Int) + 1).toNat = i + 1 := by omega
  have hw4 : (i : Int) + 1 ≤ (n : Int) + 1 := by omega
  have hw7 : (i : Int) ≤ (n : Int) + 1 := by omega
  have hw6 : ¬ cap = i := by omega
  clear hg h0 hct hcs hn
  go_enter Tryd.func32, Tryd.ntmps32
  go_wp2_with (at_builtin; refine stop_here ?_)
  refine stop_go ?_
  have hl1 : i ≤ l.length := by rw [← HN.out]; omega
  obtain ⟨ti, hti, htz⟩ := Option.map_eq_some_iff.1 info_r32
  simp only [Prod.mk.injEq] at htz
  obtain ⟨hz1, hz2, hz3⟩ := htz
  have holds : (Builtin.firstCells ti.size i (.slice (some ⟨g, 0, none⟩) i cap)).run Tryd.prog w.drew = .ok ((l.take i).map (Value.int .i32)).toArray w.drew := by
    refine run_firstCells_some _ _ _ _ _ _ _ (by rw [List.length_map, List.length_take, hz2]; omega) fun j u hu => ?_
    rw [add_off]
    show w.cell? ⟨g, 0 + j, none⟩ = some u
    have h1 := HG.out.cell j
    rw [Nat.zero_add, h1]
    rw [List.map_take, List.getElem?_take] at hu
    split at hu
    · rw [← HCT.out, List.getElem?_take] at hu
      split at hu
      · simpa using hu
      · cases hu
    · cases hu
  have hrun := Lib.run_append_grow_zeros (P := Tryd.prog) w 22 3 22 21 ti (.int .i32 0) .i64 .i64 Tryd.underlying22 Tryd.underlying3 hti hz1 (some ⟨g, 0, none⟩) i cap _ holds (n + 1 - i) (by omega) (by omega) (by omega) (by omega) (by rw [hz3]; omega) (growslice_fits (by omega) (by rw [hz3]; omega))
  obtain ⟨G, hG⟩ : ∃ G, G = grownCap w (i + (n + 1 - i)) cap 21 := ⟨_, rfl⟩
  rw [← hG] at hrun
  have hG1 : n + 1 ≤ G := by
    rw [hG]
    have := grownCap_ge w (i + (n + 1 - i)) cap 21
    omega
  have hG2 : G ≤ maxLen := by
    rw [hG]
    exact grownCap_le_maxLen _ _ _ _ (by unfold maxLen; omega)
  obtain ⟨L, hL⟩ : ∃ L : Array Value, L = ((l.take i).map (Value.int .i32)).toArray ++ Builtin.zeroCells (Value.int .i32 0).cells (n + 1 - i) ++ Builtin.zeroCells (Value.int .i32 0).cells (G - (i + (n + 1 - i))) := ⟨_, rfl⟩
  rw [← hL] at hrun
  have hLs : L.size = G := by
    rw [hL]
    simp only [Array.size_append, List.size_toArray, size_zeroCells, List.length_map, List.length_take]
    show min i l.length + (n + 1 - i) * 1 + (G - (i + (n + 1 - i))) * 1 = G
    omega
  have hLt : L.toList.take i = (l.map (Value.int .i32)).take i := by
    rw [hL, Array.toList_append, Array.toList_append, List.toList_toArray, List.append_assoc, List.map_take]
    exact List.take_left' (by rw [List.length_take, List.length_map]; omega)
  refine Lib.wpList_append_run w rfl (.tmp 34) (.tmp 39) 22 3 rfl _ (.int .i64 ((n + 1 - i : Nat) : Int)) rfl (by show Value.int .i64 ((n : Int) + 1 - (i : Int)) = _; congr 1; omega) _ _ hrun ?_
  obtain ⟨w1, hw1e⟩ : ∃ w1, w1 = w.drew.alloc (.cells L 21) := ⟨_, rfl⟩
  have HG1 := Lib.hid (show Blk w1 g 21 cur by rw [hw1e]; exact (HG.out.drew).alloc _)
  have H01 := Lib.hid (show Blk w1 g0 21 #[.int .i32 x] by rw [hw1e]; exact (H0.out.drew).alloc _)
  have HN1 := Lib.hid (show Blk w1 w.heap.size 21 L by rw [hw1e]; exact Blk.new w.drew _ _)
  have hb1 : Below B w w1 := by rw [hw1e]; exact ((Below.refl B w).drew).alloc hBw _
  have hne1 := HG.out.lt
  have hne2 := H0.out.lt
  rw [← hw1e, show i + (n + 1 - i) = n + 1 by omega]
  obtain ⟨N, hN⟩ : ∃ N, N = w.heap.size := ⟨_, rfl⟩
  rw [← hN] at HN1 hne1 hne2 hBw ⊢
  have HL := Lib.hid hL
  have HLT := Lib.hid hLt
  have HLS := Lib.hid hLs
  clear hG hL hLt hLs hrun holds hti hz1 hz2 hz3 hw1e hN
  go_wp2_with (with_reducible refine stop45 ?_)
  refine stop_go ?_
  have hLl : L.toList.length = G := by rw [Array.length_toList, HLS.out]
  refine wpList_copy_splice rfl (.tmp 43) (.tmp 44) 22 22 rfl 21 Tryd.underlying22 size_r32 (some ⟨N, i, none⟩) (some ⟨g0, 0, none⟩) (n + 1 - i) (G - i) 1 1 rfl rfl N i L.toList 21 HN1.out [.int .i32 x] (by show 1 = min 1 (n + 1 - i); omega) (fun _ => ⟨rfl, _, rfl, fun j u hu => ?_⟩) (by rw [hLl]; show i + 1 ≤ G; omega) (fun u hu => by rw [List.mem_singleton.1 hu]; rfl) N w1 (Below.refl N w1) (Nat.le_refl _) ?_
  · rcases j with _ | j
    · simp only [List.getElem?_cons_zero, Option.some.injEq] at hu
      subst hu
      exact H01.out.cell 0
    · simp at hu
  intro w3 hg3 hb3
  obtain ⟨C1, hC1⟩ : ∃ C, C = splice L.toList i [Value.int .i32 x] := ⟨_, rfl⟩
  rw [← hC1] at hg3
  have nC1 : C1.length = G := by rw [hC1, length_splice _ _ _ (by rw [hLl]; show i + 1 ≤ G; omega), hLl]
  have HC1 := Lib.hid hC1
  have HG3 := Lib.hid (show Blk w3 g 21 cur from (hb3.block g hne1).trans HG1.out)
  clear hC1
  have hdl : ((l.drop i).map (Value.int .i32)).length = n - i := by rw [List.length_map, List.length_drop, HN.out]
  have hone : ∀ u ∈ (l.drop i).map (Value.int .i32), u.oneCell' = true := fun u hu => by
    obtain ⟨y, -, rfl⟩ := List.mem_map.1 hu
    rfl
  have hcell : ∀ (j : Nat) (u : Value), ((l.drop i).map (Value.int .i32))[j]? = some u → w3.drew.cell? ((⟨g, i, none⟩ : Addr).add j) = some u := fun j u hu => by
    rw [add_off]
    show w3.cell? ⟨g, i + j, none⟩ = some u
    have h1 := HG3.out.cell (i + j)
    rw [h1]
    have h2 : (l.map (Value.int .i32))[i + j]? = some u := by
      rw [List.map_drop, List.getElem?_drop] at hu
      exact hu
    rw [← HCT.out, List.getElem?_take] at h2
    split at h2
    · simpa using h2
    · cases h2
  have HB3 := Lib.hid hb3
  clear hb3
  have hw8 : ¬ G = i + 1 := by omega
  have hw9 : (i : Int) ≤ (n : Int) := by omega
  go_wp2
  go_region_law (refine step_copy_splice rfl (.tmp 50) (.tmp 53) 22 22 rfl 21 Tryd.underlying22 size_r32 (some ⟨N, i + 1, none⟩) (some ⟨g, i, none⟩) (n + 1 - (i + 1)) (G - (i + 1)) (n - i) (cap - i) (by simp [Act.eval, Act.put]) (by simp [Act.eval, Act.put]) N (i + 1) C1 21 hg3.out ((l.drop i).map (Value.int .i32)) (by rw [hdl]; simp only [Nat.min_def]; split <;> omega) (fun _ => ⟨rfl, _, rfl, hcell⟩) (by rw [hdl, nC1]; omega) hone N w1 HB3.out.drew (Nat.le_refl _) ?_; intro w4 hg4 hb4)
  have HG4 := Lib.hid hg4
  have HB4 := Lib.hid (hb1.trans (hb4.mono hBw))
  clear hg4 hb4
  go_wp2
  go_ret
  have hlen : (l.take i ++ x :: l.drop i).length = n + 1 := by
    rw [List.length_append, List.length_cons, List.length_take, List.length_drop, HN.out]
    have := HN.out
    omega
  refine ⟨_, rfl, ?_, HB4.out⟩
  unfold OwnI
  rw [hlen]
  refine ⟨by rw [List.length_map, hlen]; omega, .inr ⟨N, G, _, rfl, hBw, HG4.out, hG1, hG2, ?_, ?_⟩⟩
  · rw [List.size_toArray, length_splice _ _ _ (by rw [hdl]; omega), nC1]
    omega
  · have hlm2 : (l.map (Value.int .i32)).length = n := by rw [List.length_map, HN.out]
    rw [HC1.out]
    have := splice_grow L.toList (l.map (Value.int .i32)) i (Value.int .i32 x) (by omega) (by omega) HLT.out
    rw [hlm2, ← List.map_drop] at this
    rw [show (n + 1) * 1 = n + 1 by omega, List.toList_toArray, this]
    rw [List.map_append, List.map_cons, List.map_take, List.map_drop]
/-- One code point comes between the others. -/
theorem insert_calls {w : World} {B g0 : Nat} {v : Value} {l : List Int} (h : OwnI w B 21 .i32 v l) (hl : l.length + 1 ≤ 1000000) (i : Nat) (hi : i ≤ l.length) (x : Int) (h0 : Blk w g0 21 #[.int .i32 x]) (hne : v.ownBlock ≠ some g0) (hB : B ≤ w.heap.size) :
    Calls Tryd.prog 32 #[v, .int .i64 i, .slice (some ⟨g0, 0, none⟩) 1 1] w fun e w' => ∃ v', e = .returned v' ∧ OwnI w' B 21 .i32 v' (l.take i ++ x :: l.drop i) ∧ Below B w w' := by
  by_cases he : i = l.length
  · subst he
    rw [List.take_length, List.drop_length]
    exact insert_end h hl x h0 hB
  · rcases h.2 with ⟨_, hn⟩ | ⟨g, cap, cur, rfl, hBg, hg, hnc, hcm, hcs, hct⟩
    · omega
    · have hne' : g0 ≠ g := fun e => hne (by rw [e]; rfl)
      rw [Nat.mul_one] at hcs hct
      by_cases hr : l.length + 1 ≤ cap
      · exact insert_room hg hBg hr hcm hcs hct i (by omega) x h0 hne' hB
      · exact insert_grow hg hBg (by omega) hcs hnc hct hl i (by omega) x h0 hne' hB
end Go.Proofs.YtbeibfhnbnmocaaDoor
