/- fail.Calls: the calls that wrap an error, the outermost first. -/
import Derived.Test.YtnipglclecafiaaDoorFailIter
import Derived.Test.YtnipglclecafiaaDoorRowR
import Derived.RangeFuncBox
import Derived.Stop.RegionWithIn
set_option linter.unusedVariables false
set_option linter.unusedSimpArgs false
namespace Go.Proofs.YtnipglclecafiaaDoor
open Go.RowKit Go.Shelf
attribute [local go_sem] Oper.semAt_some

def sC (s : ByteArray) : List Value := [.string s]
theorem sC_len (x : ByteArray) : (sC x).length = 1 := rfl
theorem sC_one (x : ByteArray) : ∀ u ∈ sC x, u.oneCell' = true := by
  intro u hu
  simp only [sC, List.mem_cons, List.not_mem_nil, or_false] at hu
  rcases hu with rfl; rfl
theorem string_info : (Tryd.prog.info? 9).map (fun i => (i.zero, i.size, i.bytes)) = some (some (.string ⟨#[]⟩), 1, 16) := by kernel_rfl
theorem RowAt.one (w : World) (s : ByteArray) : RowAt sC 1 (w.alloc (.cells #[.string s] 9)) (some ⟨w.heap.size, 0, none⟩) [s] := by
  intro i x hx
  cases i with
  | zero =>
    simp only [List.getElem?_cons_zero, Option.some.injEq] at hx
    subst hx
    refine ⟨w.heap.size, 0, rfl, fun j u hu => ?_⟩
    cases j with
    | zero => simp only [sC, List.getElem?_cons_zero, Option.some.injEq] at hu; subst hu; rw [(Blk.new w _ _).cell]; rfl
    | succ j => simp [sC] at hu
  | succ i => simp at hx
/-- An append as one of a drawn region's steps, in a round. -/
theorem stepIn_append {F : Fence} {n : Nat} {P : Program} {w w' : World} {ops : Array Oper} {o : Oper} {a : Act} {K : Act → World → Prop} {Q : Exit → Act → World → Prop} {E : Prop} {v' : Value} (hgd : o.guard = none) (s x : Operand) (t : TypeId)
    (ho : o.op = .call { callee := .builtin .append, args := #[s, x], argTypes := #[t, t] }) (hr : (Builtin.append_ #[t, t] o.type #[a.eval s, a.eval x]).run P w = .ok v' w')
    (h : K (a.put o.dst v') w') : if Region.wanted o (yielded ops a.tmps) = true then Oper.wpIn F n P o a w K Q else E := by
  have hw : Region.wanted o (yielded ops a.tmps) = true := by simp [Region.wanted, hgd]
  rw [if_pos hw]
  unfold Oper.wpIn
  refine ⟨?_, ?_⟩
  · simp [Oper.about, ho, resolve, Target.leads, Sem.run_pure]
  · rw [Oper.semAt_plain F _ _ (by rw [ho]; intro c hc'; cases hc')]
    simp only [execOp, ho, resolve, invoke, builtin, Sem.run_bind, Sem.run_pure, Result.andThen_ok, List.map_toArray, List.map_cons, List.map_nil, hr]
    exact h
theorem ChainG.at_ {w : World} {gs : List Nat} {l : List ByteArray} {v : Value} {e : Option Int} (h : ChainG w gs l v e) : ∀ (pre rest : List Nat) (x : Nat), gs = pre ++ x :: rest → ∃ s v2, Blk w x 45 #[.string s, v2] ∧ l.take (pre.length + 1) = l.take pre.length ++ [s] := by
  induction h with
  | num c => intro pre rest x e; simp at e
  | nil => intro pre rest x e; simp at e
  | fail g s gs l v e h _ ih =>
    intro pre rest x e
    cases pre with
    | nil =>
      simp only [List.nil_append, List.cons.injEq] at e
      rw [← e.1]
      exact ⟨s, v, h, by simp⟩
    | cons y pre =>
      simp only [List.cons_append, List.cons.injEq] at e
      obtain ⟨s2, v2, h2, h3⟩ := ih pre rest x e.2
      exact ⟨s2, v2, h2, by simpa using h3⟩

/-- What stands between two rounds: the list's box, the calls that have come, nothing else written. -/
def CInv (w0 : World) (l : List ByteArray) (pre : List Nat) (W : World) : Prop :=
  ∃ u, Blk W w0.heap.size 22 #[u] ∧ OwnR W (w0.heap.size + 5) 9 1 sC u (l.take pre.length) ∧ Below w0.heap.size w0 W
theorem CInv.abides (w0 : World) (l : List ByteArray) : Abides (fun r => (r = w0.heap.size + 1 ∨ r = w0.heap.size + 4) ∨ r = w0.heap.size + 3) (CInv w0 l) := by
  rintro pre W W' row ⟨u, h1, h2, h3⟩ hg hr
  have hb : ∀ r, row = some r → w0.heap.size < r ∧ r < w0.heap.size + 5 := fun r e => by rcases hr r e with (h | h) | h <;> omega
  refine ⟨u, (hg.block _ h1.lt fun e => by have := hb _ e.symm; omega).trans h1, row_keep h2 fun g hg' => ?_, h3.grown hg h3.size (fun k e => by have := hb k e; omega)⟩
  obtain ⟨hge, cur, hc⟩ := row_blk h2 hg'
  exact hg.block _ hc.lt fun e => by have := hb _ e.symm; omega
theorem KeepF.trans {n0 be bf : Nat} {A B C : World} (h : KeepF n0 be bf A B) (k : KeepF n0 be bf B C) : KeepF n0 be bf A C := ⟨h.1.trans k.1, k.2.1.trans h.2.1, k.2.2.trans h.2.2⟩

/-- One round: the list is longer by one, and nothing else is written. -/
theorem calls_round {w W w' : World} {l lp : List ByteArray} {pre : List Nat} {x : Nat} {s : ByteArray} {u v' : Value} (hb1 : Blk W w.heap.size 22 #[u]) (ho : OwnR W (w.heap.size + 5) 9 1 sC u lp) (hbe : Below w.heap.size w W) (hm : w.heap.size + 5 ≤ W.heap.size)
    (hg : ((W.alloc (.cells #[.string s] 9)).drew).grownBy w' u.ownBlock) (ho' : OwnR w' (w.heap.size + 5) 9 1 sC v' (lp ++ [s])) (h5 : w.heap.size + 5 ≤ W.heap.size + 1) (htake : l.take (pre.length + 1) = lp ++ [s]) :
    KeepsOthers W (w'.setCell ⟨w.heap.size, 0, none⟩ v') ∧ KeepF w.heap.size (w.heap.size + 1) (w.heap.size + 4) W (w'.setCell ⟨w.heap.size, 0, none⟩ v') ∧ CInv w l (pre ++ [x]) (w'.setCell ⟨w.heap.size, 0, none⟩ v') := by
  have hrow : ∀ k, u.ownBlock = some k → w.heap.size + 5 ≤ k := fun k e => (row_blk ho e).1
  have hz : W.heap.size + 1 ≤ w'.heap.size := by have := hg.size; simpa using this
  have heq : ∀ k, k < w.heap.size + 5 → k ≠ w.heap.size → (w'.setCell ⟨w.heap.size, 0, none⟩ v').heap[k]? = W.heap[k]? := fun k hk hne =>
    (Below.heap_setCell w' ⟨w.heap.size, 0, none⟩ v' k hne).trans ((hg.block k (by simp; omega) (fun e => by have := hrow k e.symm; omega)).trans (Below.heap_alloc W _ k (by omega)))
  have hbl : ∀ (B w1 : World), Below w.heap.size B W → Below w.heap.size B (w'.setCell ⟨w.heap.size, 0, none⟩ v') := fun B w1 h =>
    (((h.alloc (by omega) _).drew).grown hg (by simp; omega) (fun k e => by have := hrow k e; omega)).setCell (p := ⟨w.heap.size, 0, none⟩) (Nat.le_refl _) _
  refine ⟨(((KeepsOthers.alloc W _).trans (KeepsOthers.drew _)).trans (KeepsOthers.of_grownBy hg fun j o e hj => ?_)).trans (KeepsOthers.setCell _ _ _), ⟨hbl W w (Below.refl _ W), heq _ (by omega) (by omega), heq _ (by omega) (by omega)⟩, ⟨v', ?_, ?_, hbl w w hbe⟩⟩
  · obtain ⟨_, cur, hc⟩ := row_blk ho e
    have : ((W.alloc (.cells #[.string s] 9)).drew).heap[j]? = some (.cells cur 9 (0, 0)) := (hc.alloc _).drew
    rw [this] at hj
    cases hj
    rfl
  · have := (((hb1.alloc (.cells #[.string s] 9)).drew).grown hg (fun e => by have := hrow _ e.symm; omega)).set_ 0 v'
    simpa using this
  · rw [show l.take (pre ++ [x]).length = lp ++ [s] by rw [List.length_append]; exact htake]
    exact row_keep ho' fun g hg' => Below.heap_setCell w' ⟨w.heap.size, 0, none⟩ v' g (by have := (row_blk ho' hg').1; show g ≠ w.heap.size; omega)

set_option maxRecDepth 100000 in
set_option maxHeartbeats 4000000 in
theorem calls_chain (v : Value) (gs : List Nat) (l : List ByteArray) (e : Option Int) (w : World) (hc : ChainG w gs l v e) (hG : ErrType w) (hlen : l.length ≤ 1000) :
    Calls Tryd.prog 16 #[v] w fun e w' => (∃ u, e = .returned u ∧ OwnR w' w.heap.size 9 1 sC u l) ∧ Below w.heap.size w w' := by
  have hform : v = .nilIface ∨ ∃ t x, v = .iface t x := by
    cases hc with
    | num c => exact .inr ⟨_, _, rfl⟩
    | nil => exact .inl rfl
    | fail => exact .inr ⟨_, _, rfl⟩
  have hgsl := hc.len
  have HC := Lib.hid hc
  have HG := Lib.hid hG
  have HF := Lib.hid hform
  refine (callsIn_wide (n := 3)).1 ?_
  refine callsIn_of_wp_marks Tryd.func16 rfl trivial ?_ rfl
  simp only [Tryd.ntmps16, List.size_toArray, List.length_cons, List.length_nil, Nat.reduceAdd, Nat.reduceSub, Array.replicate_succ, Array.replicate_zero, List.push_toArray, List.append_toArray, List.nil_append, List.cons_append]
  have hW0 : Below w.heap.size w ((w.alloc (.cells #[.slice none 0 0] 22)).alloc (.cells #[v] 28)) := ((Below.refl _ w).alloc (Nat.le_refl _) _).alloc (by simp) _
  have bl0 : Blk ((w.alloc (.cells #[.slice none 0 0] 22)).alloc (.cells #[v] 28)) w.heap.size 22 #[.slice none 0 0] := (Blk.new w _ _).alloc _
  have be0 : Blk ((w.alloc (.cells #[.slice none 0 0] 22)).alloc (.cells #[v] 28)) (w.heap.size + 1) 28 #[v] := by
    have := Blk.new (w.alloc (.cells #[.slice none 0 0] 22)) 28 #[v]
    simpa using this
  have hz0 : ((w.alloc (.cells #[.slice none 0 0] 22)).alloc (.cells #[v] 28)).heap.size = w.heap.size + 2 := by simp
  rcases hform with rfl | ⟨t0, x0, rfl⟩
  · gi_wp2_with (refine ⟨trivial, ?_⟩; gi_at_call 23; refine (callsIn_wide.2 (fails_calls _ _ HF.out)).mono ?_; rintro e w' ⟨rfl, rfl⟩)
    obtain ⟨W0, hWW⟩ : ∃ W0, (w.alloc (.cells #[.slice none 0 0] 22)).alloc (.cells #[.nilIface] 28) = W0 := ⟨_, rfl⟩
    rw [hWW] at hW0 bl0 be0 hz0 ⊢
    clear hWW
    have hc0 := HC.out.keep hW0 HC.out.lt
    refine rangeFunc_boxes rfl (by omega) (gf := 30) (lb := #[.pointer (some ⟨w.heap.size + 1, 0, none⟩)]) rfl trivial (enters_of Tryd.func30 (by kernel_rfl) rfl)
      (encs := fun g : Nat => #[.pointer (some ⟨g, 0, none⟩)]) (Kp := KeepF w.heap.size (w.heap.size + 1) (w.heap.size + 4)) (xs := gs) (B := fun r => r = w.heap.size + 1 ∨ r = w.heap.size + 4) (m := w.heap.size + 5)
      ?seq (fun h k => h.trans k) ?keeps (fun _ => rfl) (by rw [hz0]; omega) (by rw [hz0]; omega)
      (CInv w l) (by rw [hz0]; exact CInv.abides w l) ⟨_, bl0, by simpa using OwnR.nil W0 _ _ _ _, hW0⟩
      (fun x => { tmps := #[.nilIface, undef, .slice none 0 0, .pointer (some ⟨w.heap.size, 0, none⟩), .pointer (some ⟨x, 0, none⟩), .nilIface, .func (.func 30) #[] #[.pointer (some ⟨w.heap.size + 1, 0, none⟩)], .pointer (some ⟨x, 0, none⟩), undef, undef, undef, undef, undef, undef, undef, undef], defers := [] }) ?assign ?body ?done
    case seq =>
      intro W hW hz
      have hzw : W.heap.size = w.heap.size + 4 := by omega
      have := fails_iter (3 - 1) w.heap.size (w.heap.size + 1) (by omega) gs l _ e W (by omega) (by omega) ((HG.out.keep hW0).keep hW) HG.out.lt (be0.keep hW) (hc0.keep hW (fun g hg => by have := HC.out.lt g hg; omega)) HC.out.lt
      rw [hzw] at this
      exact this
    case keeps =>
      intro W o hlt
      rw [hz0] at hlt ⊢
      exact ⟨(Below.refl _ W).grown (grownBy_putObj' W _ o) (by omega) (fun k e => by cases e; omega), World.putObj_heap_other (by omega), World.putObj_heap_other (by omega)⟩
    case assign =>
      intro l x W K hK
      gi_wp2
      exact hK
    case body =>
      rintro l1 pre x W ⟨u, hb1, ho, hbe⟩ ⟨rest, hgs⟩ hm
      obtain ⟨s, v2, hx, htake⟩ := HC.out.at_ pre rest x hgs
      have hxc := (hx.keep hbe).cell 0
      have hxl := hx.lt
      obtain ⟨A, c, rfl, hrA, hlA, hmA, hbA⟩ := ho.row sC_len
      have hpre : pre.length < gs.length := by rw [hgs]; simp
      obtain ⟨lp, hlp⟩ : ∃ lp, l.take pre.length = lp := ⟨_, rfl⟩
      have hlpn : lp.length ≤ 1000 := by rw [← hlp]; simp; omega
      rw [hlp] at ho hb1 htake hrA hlA hbA
      have hbc := hb1.cell 0
      have hbf := hb1.frozen 0
      have hbl := hb1.lt
      simp only [List.getElem?_toArray, List.getElem?_cons_zero] at hxc hbc
      obtain ⟨v', w', hrun, ho', hg', hat⟩ := run_append_rowR (P := Tryd.prog) (w := (W.alloc (.cells #[.string s] 9)).drew) sC 1 sC_len (by omega) sC_one (w.heap.size + 5) 22 22 9 (.string ⟨#[]⟩) 16 Tryd.underlying22 string_info rfl (by omega)
        _ _ (row_below ho ((Below.refl _ W).alloc (Nat.le_refl _) _).drew) (some ⟨W.heap.size, 0, none⟩) 1 [s] (RowAt.one W s) (by simp; omega) (by simp; omega)
      simp only [List.length_cons, List.length_nil, Nat.zero_add] at hrun
      have hb2 := ((hb1.alloc (.cells #[.string s] 9)).drew).grown hg' (fun e => by have := (row_blk ho e.symm).1; omega)
      have hz2 := hg'.size
      obtain ⟨A2, c2, rfl, hrA2, hlA2, hmA2, hbA2⟩ := ho'.row sC_len
      have hb2c := hb2.cell 0
      have hb2f := hb2.frozen 0
      have hb2l := hb2.lt
      simp only [List.getElem?_toArray, List.getElem?_cons_zero] at hb2c
      have hfin := calls_round (x := x) hb1 ho hbe hm hg' ho' (by omega) htake
      rw [show (lp ++ [s]).length = lp.length + 1 by simp] at hfin hrun
      gi_wp2
      refine wpIn_region_any (by kernel_rfl) ?_
      change wpAnyIn _ _ _ _ _ _ _ _ _ (World.drew _)
      refine wpAnyIn_ready (rs := [0, 1]) (by kernel_rfl) (by simp) ?_
      refine AllReadyIn.cons rfl ?_ ?_
      · intro K hK
        go_simp
        refine hK _ _ ?_
        clear hK K
        refine wpAnyIn_ready (rs := [1]) (by kernel_rfl) (by simp) ?_
        refine AllReadyIn.cons rfl ?_ ?_
        · intro K hK
          go_simp
          refine hK _ _ ?_
          clear hK K
          refine wpAnyIn_ready (rs := [2]) (by kernel_rfl) (by simp) ?_
          refine AllReadyIn.cons rfl ?_ ?_
          · intro K hK
            go_simp
            refine hK _ _ ?_
            clear hK K
            refine wpAnyIn_ready (rs := [3]) (by kernel_rfl) (by simp) ?_
            refine AllReadyIn.cons rfl ?_ ?_
            · intro K hK
              go_simp
              refine hK _ _ ?_
              clear hK K
              refine wpAnyIn_ready (rs := [4]) (by kernel_rfl) (by simp) ?_
              refine AllReadyIn.cons rfl ?_ ?_
              · intro K hK
                go_simp
                refine hK _ _ ?_
                clear hK K
                refine wpAnyIn_ready (rs := [5]) (by kernel_rfl) (by simp) ?_
                refine AllReadyIn.cons rfl ?_ ?_
                · intro K hK
                  go_simp
                  refine hK _ _ ?_
                  clear hK K
                  refine wpAnyIn_ready (rs := [6]) (by kernel_rfl) (by simp) ?_
                  refine AllReadyIn.cons rfl ?_ ?_
                  · intro K hK
                    refine stepIn_append rfl (.tmp 8) (.tmp 13) _ rfl hrun ?_
                    go_simp
                    refine hK _ _ ?_
                    clear hK K
                    refine wpAnyIn_ready (rs := [7]) (by kernel_rfl) (by simp) ?_
                    refine AllReadyIn.cons rfl ?_ ?_
                    · intro K hK
                      go_simp
                      refine hK _ _ ?_
                      clear hK K
                      refine wpAnyIn_done (by kernel_rfl) ?_ _
                      exact hfin
                    exact AllReadyIn.nil
                  exact AllReadyIn.nil
                exact AllReadyIn.nil
              exact AllReadyIn.nil
            exact AllReadyIn.nil
          exact AllReadyIn.nil
        exact AllReadyIn.nil
      refine AllReadyIn.cons rfl ?_ ?_
      · intro K hK
        go_simp
        refine hK _ _ ?_
        clear hK K
        refine wpAnyIn_ready (rs := [0, 2]) (by kernel_rfl) (by simp) ?_
        refine AllReadyIn.cons rfl ?_ ?_
        · intro K hK
          go_simp
          refine hK _ _ ?_
          clear hK K
          refine wpAnyIn_ready (rs := [2]) (by kernel_rfl) (by simp) ?_
          refine AllReadyIn.cons rfl ?_ ?_
          · intro K hK
            go_simp
            refine hK _ _ ?_
            clear hK K
            refine wpAnyIn_ready (rs := [3]) (by kernel_rfl) (by simp) ?_
            refine AllReadyIn.cons rfl ?_ ?_
            · intro K hK
              go_simp
              refine hK _ _ ?_
              clear hK K
              refine wpAnyIn_ready (rs := [4]) (by kernel_rfl) (by simp) ?_
              refine AllReadyIn.cons rfl ?_ ?_
              · intro K hK
                go_simp
                refine hK _ _ ?_
                clear hK K
                refine wpAnyIn_ready (rs := [5]) (by kernel_rfl) (by simp) ?_
                refine AllReadyIn.cons rfl ?_ ?_
                · intro K hK
                  go_simp
                  refine hK _ _ ?_
                  clear hK K
                  refine wpAnyIn_ready (rs := [6]) (by kernel_rfl) (by simp) ?_
                  refine AllReadyIn.cons rfl ?_ ?_
                  · intro K hK
                    refine stepIn_append rfl (.tmp 8) (.tmp 13) _ rfl hrun ?_
                    go_simp
                    refine hK _ _ ?_
                    clear hK K
                    refine wpAnyIn_ready (rs := [7]) (by kernel_rfl) (by simp) ?_
                    refine AllReadyIn.cons rfl ?_ ?_
                    · intro K hK
                      go_simp
                      refine hK _ _ ?_
                      clear hK K
                      refine wpAnyIn_done (by kernel_rfl) ?_ _
                      exact hfin
                    exact AllReadyIn.nil
                  exact AllReadyIn.nil
                exact AllReadyIn.nil
              exact AllReadyIn.nil
            exact AllReadyIn.nil
          exact AllReadyIn.nil
        refine AllReadyIn.cons rfl ?_ ?_
        · intro K hK
          go_simp
          refine hK _ _ ?_
          clear hK K
          refine wpAnyIn_ready (rs := [0, 3]) (by kernel_rfl) (by simp) ?_
          refine AllReadyIn.cons rfl ?_ ?_
          · intro K hK
            go_simp
            refine hK _ _ ?_
            clear hK K
            refine wpAnyIn_ready (rs := [3]) (by kernel_rfl) (by simp) ?_
            refine AllReadyIn.cons rfl ?_ ?_
            · intro K hK
              go_simp
              refine hK _ _ ?_
              clear hK K
              refine wpAnyIn_ready (rs := [4]) (by kernel_rfl) (by simp) ?_
              refine AllReadyIn.cons rfl ?_ ?_
              · intro K hK
                go_simp
                refine hK _ _ ?_
                clear hK K
                refine wpAnyIn_ready (rs := [5]) (by kernel_rfl) (by simp) ?_
                refine AllReadyIn.cons rfl ?_ ?_
                · intro K hK
                  go_simp
                  refine hK _ _ ?_
                  clear hK K
                  refine wpAnyIn_ready (rs := [6]) (by kernel_rfl) (by simp) ?_
                  refine AllReadyIn.cons rfl ?_ ?_
                  · intro K hK
                    refine stepIn_append rfl (.tmp 8) (.tmp 13) _ rfl hrun ?_
                    go_simp
                    refine hK _ _ ?_
                    clear hK K
                    refine wpAnyIn_ready (rs := [7]) (by kernel_rfl) (by simp) ?_
                    refine AllReadyIn.cons rfl ?_ ?_
                    · intro K hK
                      go_simp
                      refine hK _ _ ?_
                      clear hK K
                      refine wpAnyIn_done (by kernel_rfl) ?_ _
                      exact hfin
                    exact AllReadyIn.nil
                  exact AllReadyIn.nil
                exact AllReadyIn.nil
              exact AllReadyIn.nil
            exact AllReadyIn.nil
          refine AllReadyIn.cons rfl ?_ ?_
          · intro K hK
            go_simp
            refine hK _ _ ?_
            clear hK K
            refine wpAnyIn_ready (rs := [0, 4]) (by kernel_rfl) (by simp) ?_
            refine AllReadyIn.cons rfl ?_ ?_
            · intro K hK
              go_simp
              refine hK _ _ ?_
              clear hK K
              refine wpAnyIn_ready (rs := [4]) (by kernel_rfl) (by simp) ?_
              refine AllReadyIn.cons rfl ?_ ?_
              · intro K hK
                go_simp
                refine hK _ _ ?_
                clear hK K
                refine wpAnyIn_ready (rs := [5]) (by kernel_rfl) (by simp) ?_
                refine AllReadyIn.cons rfl ?_ ?_
                · intro K hK
                  go_simp
                  refine hK _ _ ?_
                  clear hK K
                  refine wpAnyIn_ready (rs := [6]) (by kernel_rfl) (by simp) ?_
                  refine AllReadyIn.cons rfl ?_ ?_
                  · intro K hK
                    refine stepIn_append rfl (.tmp 8) (.tmp 13) _ rfl hrun ?_
                    go_simp
                    refine hK _ _ ?_
                    clear hK K
                    refine wpAnyIn_ready (rs := [7]) (by kernel_rfl) (by simp) ?_
                    refine AllReadyIn.cons rfl ?_ ?_
                    · intro K hK
                      go_simp
                      refine hK _ _ ?_
                      clear hK K
                      refine wpAnyIn_done (by kernel_rfl) ?_ _
                      exact hfin
                    exact AllReadyIn.nil
                  exact AllReadyIn.nil
                exact AllReadyIn.nil
              exact AllReadyIn.nil
            refine AllReadyIn.cons rfl ?_ ?_
            · intro K hK
              go_simp
              refine hK _ _ ?_
              clear hK K
              refine wpAnyIn_ready (rs := [0, 5]) (by kernel_rfl) (by simp) ?_
              refine AllReadyIn.cons rfl ?_ ?_
              · intro K hK
                go_simp
                refine hK _ _ ?_
                clear hK K
                refine wpAnyIn_ready (rs := [5]) (by kernel_rfl) (by simp) ?_
                refine AllReadyIn.cons rfl ?_ ?_
                · intro K hK
                  go_simp
                  refine hK _ _ ?_
                  clear hK K
                  refine wpAnyIn_ready (rs := [6]) (by kernel_rfl) (by simp) ?_
                  refine AllReadyIn.cons rfl ?_ ?_
                  · intro K hK
                    refine stepIn_append rfl (.tmp 8) (.tmp 13) _ rfl hrun ?_
                    go_simp
                    refine hK _ _ ?_
                    clear hK K
                    refine wpAnyIn_ready (rs := [7]) (by kernel_rfl) (by simp) ?_
                    refine AllReadyIn.cons rfl ?_ ?_
                    · intro K hK
                      go_simp
                      refine hK _ _ ?_
                      clear hK K
                      refine wpAnyIn_done (by kernel_rfl) ?_ _
                      exact hfin
                    exact AllReadyIn.nil
                  exact AllReadyIn.nil
                exact AllReadyIn.nil
              refine AllReadyIn.cons rfl ?_ ?_
              · intro K hK
                go_simp
                refine hK _ _ ?_
                clear hK K
                refine wpAnyIn_ready (rs := [0]) (by kernel_rfl) (by simp) ?_
                refine AllReadyIn.cons rfl ?_ ?_
                · intro K hK
                  go_simp
                  refine hK _ _ ?_
                  clear hK K
                  refine wpAnyIn_ready (rs := [6]) (by kernel_rfl) (by simp) ?_
                  refine AllReadyIn.cons rfl ?_ ?_
                  · intro K hK
                    refine stepIn_append rfl (.tmp 8) (.tmp 13) _ rfl hrun ?_
                    go_simp
                    refine hK _ _ ?_
                    clear hK K
                    refine wpAnyIn_ready (rs := [7]) (by kernel_rfl) (by simp) ?_
                    refine AllReadyIn.cons rfl ?_ ?_
                    · intro K hK
                      go_simp
                      refine hK _ _ ?_
                      clear hK K
                      refine wpAnyIn_done (by kernel_rfl) ?_ _
                      exact hfin
                    exact AllReadyIn.nil
                  exact AllReadyIn.nil
                exact AllReadyIn.nil
              exact AllReadyIn.nil
            exact AllReadyIn.nil
          exact AllReadyIn.nil
        exact AllReadyIn.nil
      exact AllReadyIn.nil
    case done =>
      rintro W ⟨u, hb1, ho, hbe⟩ hK
      rw [List.take_of_length_le (by omega)] at ho
      obtain ⟨A, c, rfl, hrA, hlA, hmA, hbA⟩ := ho.row sC_len
      have hbc := hb1.cell 0
      have hbf := hb1.frozen 0
      have hbl := hb1.lt
      simp only [List.getElem?_toArray, List.getElem?_cons_zero] at hbc
      gi_wp2
      refine ⟨by simp, .inl ⟨_, _, rfl, run_takeDeferred hK, ?_⟩⟩
      refine ⟨_, results_tmp rfl _ _ _, ⟨_, rfl, ?_⟩, hbe.grown (grownBy_putObj' W _ _) hbe.size (fun k e => by cases e; omega)⟩
      exact row_base (row_keep ho fun g hg' => World.putObj_heap_other (by have := (row_blk ho hg').1; omega)) (by omega)
  · gi_wp2_with (refine ⟨trivial, ?_⟩; gi_at_call 23; refine (callsIn_wide.2 (fails_calls _ _ HF.out)).mono ?_; rintro e w' ⟨rfl, rfl⟩)
    obtain ⟨W0, hWW⟩ : ∃ W0, (w.alloc (.cells #[.slice none 0 0] 22)).alloc (.cells #[.iface t0 x0] 28) = W0 := ⟨_, rfl⟩
    rw [hWW] at hW0 bl0 be0 hz0 ⊢
    clear hWW
    have hc0 := HC.out.keep hW0 HC.out.lt
    refine rangeFunc_boxes rfl (by omega) (gf := 30) (lb := #[.pointer (some ⟨w.heap.size + 1, 0, none⟩)]) rfl trivial (enters_of Tryd.func30 (by kernel_rfl) rfl)
      (encs := fun g : Nat => #[.pointer (some ⟨g, 0, none⟩)]) (Kp := KeepF w.heap.size (w.heap.size + 1) (w.heap.size + 4)) (xs := gs) (B := fun r => r = w.heap.size + 1 ∨ r = w.heap.size + 4) (m := w.heap.size + 5)
      ?seq (fun h k => h.trans k) ?keeps (fun _ => rfl) (by rw [hz0]; omega) (by rw [hz0]; omega)
      (CInv w l) (by rw [hz0]; exact CInv.abides w l) ⟨_, bl0, by simpa using OwnR.nil W0 _ _ _ _, hW0⟩
      (fun x => { tmps := #[.iface t0 x0, undef, .slice none 0 0, .pointer (some ⟨w.heap.size, 0, none⟩), .pointer (some ⟨x, 0, none⟩), .iface t0 x0, .func (.func 30) #[] #[.pointer (some ⟨w.heap.size + 1, 0, none⟩)], .pointer (some ⟨x, 0, none⟩), undef, undef, undef, undef, undef, undef, undef, undef], defers := [] }) ?assign ?body ?done
    case seq =>
      intro W hW hz
      have hzw : W.heap.size = w.heap.size + 4 := by omega
      have := fails_iter (3 - 1) w.heap.size (w.heap.size + 1) (by omega) gs l _ e W (by omega) (by omega) ((HG.out.keep hW0).keep hW) HG.out.lt (be0.keep hW) (hc0.keep hW (fun g hg => by have := HC.out.lt g hg; omega)) HC.out.lt
      rw [hzw] at this
      exact this
    case keeps =>
      intro W o hlt
      rw [hz0] at hlt ⊢
      exact ⟨(Below.refl _ W).grown (grownBy_putObj' W _ o) (by omega) (fun k e => by cases e; omega), World.putObj_heap_other (by omega), World.putObj_heap_other (by omega)⟩
    case assign =>
      intro l x W K hK
      gi_wp2
      exact hK
    case body =>
      rintro l1 pre x W ⟨u, hb1, ho, hbe⟩ ⟨rest, hgs⟩ hm
      obtain ⟨s, v2, hx, htake⟩ := HC.out.at_ pre rest x hgs
      have hxc := (hx.keep hbe).cell 0
      have hxl := hx.lt
      obtain ⟨A, c, rfl, hrA, hlA, hmA, hbA⟩ := ho.row sC_len
      have hpre : pre.length < gs.length := by rw [hgs]; simp
      obtain ⟨lp, hlp⟩ : ∃ lp, l.take pre.length = lp := ⟨_, rfl⟩
      have hlpn : lp.length ≤ 1000 := by rw [← hlp]; simp; omega
      rw [hlp] at ho hb1 htake hrA hlA hbA
      have hbc := hb1.cell 0
      have hbf := hb1.frozen 0
      have hbl := hb1.lt
      simp only [List.getElem?_toArray, List.getElem?_cons_zero] at hxc hbc
      obtain ⟨v', w', hrun, ho', hg', hat⟩ := run_append_rowR (P := Tryd.prog) (w := (W.alloc (.cells #[.string s] 9)).drew) sC 1 sC_len (by omega) sC_one (w.heap.size + 5) 22 22 9 (.string ⟨#[]⟩) 16 Tryd.underlying22 string_info rfl (by omega)
        _ _ (row_below ho ((Below.refl _ W).alloc (Nat.le_refl _) _).drew) (some ⟨W.heap.size, 0, none⟩) 1 [s] (RowAt.one W s) (by simp; omega) (by simp; omega)
      simp only [List.length_cons, List.length_nil, Nat.zero_add] at hrun
      have hb2 := ((hb1.alloc (.cells #[.string s] 9)).drew).grown hg' (fun e => by have := (row_blk ho e.symm).1; omega)
      have hz2 := hg'.size
      obtain ⟨A2, c2, rfl, hrA2, hlA2, hmA2, hbA2⟩ := ho'.row sC_len
      have hb2c := hb2.cell 0
      have hb2f := hb2.frozen 0
      have hb2l := hb2.lt
      simp only [List.getElem?_toArray, List.getElem?_cons_zero] at hb2c
      have hfin := calls_round (x := x) hb1 ho hbe hm hg' ho' (by omega) htake
      rw [show (lp ++ [s]).length = lp.length + 1 by simp] at hfin hrun
      gi_wp2
      refine wpIn_region_any (by kernel_rfl) ?_
      change wpAnyIn _ _ _ _ _ _ _ _ _ (World.drew _)
      refine wpAnyIn_ready (rs := [0, 1]) (by kernel_rfl) (by simp) ?_
      refine AllReadyIn.cons rfl ?_ ?_
      · intro K hK
        go_simp
        refine hK _ _ ?_
        clear hK K
        refine wpAnyIn_ready (rs := [1]) (by kernel_rfl) (by simp) ?_
        refine AllReadyIn.cons rfl ?_ ?_
        · intro K hK
          go_simp
          refine hK _ _ ?_
          clear hK K
          refine wpAnyIn_ready (rs := [2]) (by kernel_rfl) (by simp) ?_
          refine AllReadyIn.cons rfl ?_ ?_
          · intro K hK
            go_simp
            refine hK _ _ ?_
            clear hK K
            refine wpAnyIn_ready (rs := [3]) (by kernel_rfl) (by simp) ?_
            refine AllReadyIn.cons rfl ?_ ?_
            · intro K hK
              go_simp
              refine hK _ _ ?_
              clear hK K
              refine wpAnyIn_ready (rs := [4]) (by kernel_rfl) (by simp) ?_
              refine AllReadyIn.cons rfl ?_ ?_
              · intro K hK
                go_simp
                refine hK _ _ ?_
                clear hK K
                refine wpAnyIn_ready (rs := [5]) (by kernel_rfl) (by simp) ?_
                refine AllReadyIn.cons rfl ?_ ?_
                · intro K hK
                  go_simp
                  refine hK _ _ ?_
                  clear hK K
                  refine wpAnyIn_ready (rs := [6]) (by kernel_rfl) (by simp) ?_
                  refine AllReadyIn.cons rfl ?_ ?_
                  · intro K hK
                    refine stepIn_append rfl (.tmp 8) (.tmp 13) _ rfl hrun ?_
                    go_simp
                    refine hK _ _ ?_
                    clear hK K
                    refine wpAnyIn_ready (rs := [7]) (by kernel_rfl) (by simp) ?_
                    refine AllReadyIn.cons rfl ?_ ?_
                    · intro K hK
                      go_simp
                      refine hK _ _ ?_
                      clear hK K
                      refine wpAnyIn_done (by kernel_rfl) ?_ _
                      exact hfin
                    exact AllReadyIn.nil
                  exact AllReadyIn.nil
                exact AllReadyIn.nil
              exact AllReadyIn.nil
            exact AllReadyIn.nil
          exact AllReadyIn.nil
        exact AllReadyIn.nil
      refine AllReadyIn.cons rfl ?_ ?_
      · intro K hK
        go_simp
        refine hK _ _ ?_
        clear hK K
        refine wpAnyIn_ready (rs := [0, 2]) (by kernel_rfl) (by simp) ?_
        refine AllReadyIn.cons rfl ?_ ?_
        · intro K hK
          go_simp
          refine hK _ _ ?_
          clear hK K
          refine wpAnyIn_ready (rs := [2]) (by kernel_rfl) (by simp) ?_
          refine AllReadyIn.cons rfl ?_ ?_
          · intro K hK
            go_simp
            refine hK _ _ ?_
            clear hK K
            refine wpAnyIn_ready (rs := [3]) (by kernel_rfl) (by simp) ?_
            refine AllReadyIn.cons rfl ?_ ?_
            · intro K hK
              go_simp
              refine hK _ _ ?_
              clear hK K
              refine wpAnyIn_ready (rs := [4]) (by kernel_rfl) (by simp) ?_
              refine AllReadyIn.cons rfl ?_ ?_
              · intro K hK
                go_simp
                refine hK _ _ ?_
                clear hK K
                refine wpAnyIn_ready (rs := [5]) (by kernel_rfl) (by simp) ?_
                refine AllReadyIn.cons rfl ?_ ?_
                · intro K hK
                  go_simp
                  refine hK _ _ ?_
                  clear hK K
                  refine wpAnyIn_ready (rs := [6]) (by kernel_rfl) (by simp) ?_
                  refine AllReadyIn.cons rfl ?_ ?_
                  · intro K hK
                    refine stepIn_append rfl (.tmp 8) (.tmp 13) _ rfl hrun ?_
                    go_simp
                    refine hK _ _ ?_
                    clear hK K
                    refine wpAnyIn_ready (rs := [7]) (by kernel_rfl) (by simp) ?_
                    refine AllReadyIn.cons rfl ?_ ?_
                    · intro K hK
                      go_simp
                      refine hK _ _ ?_
                      clear hK K
                      refine wpAnyIn_done (by kernel_rfl) ?_ _
                      exact hfin
                    exact AllReadyIn.nil
                  exact AllReadyIn.nil
                exact AllReadyIn.nil
              exact AllReadyIn.nil
            exact AllReadyIn.nil
          exact AllReadyIn.nil
        refine AllReadyIn.cons rfl ?_ ?_
        · intro K hK
          go_simp
          refine hK _ _ ?_
          clear hK K
          refine wpAnyIn_ready (rs := [0, 3]) (by kernel_rfl) (by simp) ?_
          refine AllReadyIn.cons rfl ?_ ?_
          · intro K hK
            go_simp
            refine hK _ _ ?_
            clear hK K
            refine wpAnyIn_ready (rs := [3]) (by kernel_rfl) (by simp) ?_
            refine AllReadyIn.cons rfl ?_ ?_
            · intro K hK
              go_simp
              refine hK _ _ ?_
              clear hK K
              refine wpAnyIn_ready (rs := [4]) (by kernel_rfl) (by simp) ?_
              refine AllReadyIn.cons rfl ?_ ?_
              · intro K hK
                go_simp
                refine hK _ _ ?_
                clear hK K
                refine wpAnyIn_ready (rs := [5]) (by kernel_rfl) (by simp) ?_
                refine AllReadyIn.cons rfl ?_ ?_
                · intro K hK
                  go_simp
                  refine hK _ _ ?_
                  clear hK K
                  refine wpAnyIn_ready (rs := [6]) (by kernel_rfl) (by simp) ?_
                  refine AllReadyIn.cons rfl ?_ ?_
                  · intro K hK
                    refine stepIn_append rfl (.tmp 8) (.tmp 13) _ rfl hrun ?_
                    go_simp
                    refine hK _ _ ?_
                    clear hK K
                    refine wpAnyIn_ready (rs := [7]) (by kernel_rfl) (by simp) ?_
                    refine AllReadyIn.cons rfl ?_ ?_
                    · intro K hK
                      go_simp
                      refine hK _ _ ?_
                      clear hK K
                      refine wpAnyIn_done (by kernel_rfl) ?_ _
                      exact hfin
                    exact AllReadyIn.nil
                  exact AllReadyIn.nil
                exact AllReadyIn.nil
              exact AllReadyIn.nil
            exact AllReadyIn.nil
          refine AllReadyIn.cons rfl ?_ ?_
          · intro K hK
            go_simp
            refine hK _ _ ?_
            clear hK K
            refine wpAnyIn_ready (rs := [0, 4]) (by kernel_rfl) (by simp) ?_
            refine AllReadyIn.cons rfl ?_ ?_
            · intro K hK
              go_simp
              refine hK _ _ ?_
              clear hK K
              refine wpAnyIn_ready (rs := [4]) (by kernel_rfl) (by simp) ?_
              refine AllReadyIn.cons rfl ?_ ?_
              · intro K hK
                go_simp
                refine hK _ _ ?_
                clear hK K
                refine wpAnyIn_ready (rs := [5]) (by kernel_rfl) (by simp) ?_
                refine AllReadyIn.cons rfl ?_ ?_
                · intro K hK
                  go_simp
                  refine hK _ _ ?_
                  clear hK K
                  refine wpAnyIn_ready (rs := [6]) (by kernel_rfl) (by simp) ?_
                  refine AllReadyIn.cons rfl ?_ ?_
                  · intro K hK
                    refine stepIn_append rfl (.tmp 8) (.tmp 13) _ rfl hrun ?_
                    go_simp
                    refine hK _ _ ?_
                    clear hK K
                    refine wpAnyIn_ready (rs := [7]) (by kernel_rfl) (by simp) ?_
                    refine AllReadyIn.cons rfl ?_ ?_
                    · intro K hK
                      go_simp
                      refine hK _ _ ?_
                      clear hK K
                      refine wpAnyIn_done (by kernel_rfl) ?_ _
                      exact hfin
                    exact AllReadyIn.nil
                  exact AllReadyIn.nil
                exact AllReadyIn.nil
              exact AllReadyIn.nil
            refine AllReadyIn.cons rfl ?_ ?_
            · intro K hK
              go_simp
              refine hK _ _ ?_
              clear hK K
              refine wpAnyIn_ready (rs := [0, 5]) (by kernel_rfl) (by simp) ?_
              refine AllReadyIn.cons rfl ?_ ?_
              · intro K hK
                go_simp
                refine hK _ _ ?_
                clear hK K
                refine wpAnyIn_ready (rs := [5]) (by kernel_rfl) (by simp) ?_
                refine AllReadyIn.cons rfl ?_ ?_
                · intro K hK
                  go_simp
                  refine hK _ _ ?_
                  clear hK K
                  refine wpAnyIn_ready (rs := [6]) (by kernel_rfl) (by simp) ?_
                  refine AllReadyIn.cons rfl ?_ ?_
                  · intro K hK
                    refine stepIn_append rfl (.tmp 8) (.tmp 13) _ rfl hrun ?_
                    go_simp
                    refine hK _ _ ?_
                    clear hK K
                    refine wpAnyIn_ready (rs := [7]) (by kernel_rfl) (by simp) ?_
                    refine AllReadyIn.cons rfl ?_ ?_
                    · intro K hK
                      go_simp
                      refine hK _ _ ?_
                      clear hK K
                      refine wpAnyIn_done (by kernel_rfl) ?_ _
                      exact hfin
                    exact AllReadyIn.nil
                  exact AllReadyIn.nil
                exact AllReadyIn.nil
              refine AllReadyIn.cons rfl ?_ ?_
              · intro K hK
                go_simp
                refine hK _ _ ?_
                clear hK K
                refine wpAnyIn_ready (rs := [0]) (by kernel_rfl) (by simp) ?_
                refine AllReadyIn.cons rfl ?_ ?_
                · intro K hK
                  go_simp
                  refine hK _ _ ?_
                  clear hK K
                  refine wpAnyIn_ready (rs := [6]) (by kernel_rfl) (by simp) ?_
                  refine AllReadyIn.cons rfl ?_ ?_
                  · intro K hK
                    refine stepIn_append rfl (.tmp 8) (.tmp 13) _ rfl hrun ?_
                    go_simp
                    refine hK _ _ ?_
                    clear hK K
                    refine wpAnyIn_ready (rs := [7]) (by kernel_rfl) (by simp) ?_
                    refine AllReadyIn.cons rfl ?_ ?_
                    · intro K hK
                      go_simp
                      refine hK _ _ ?_
                      clear hK K
                      refine wpAnyIn_done (by kernel_rfl) ?_ _
                      exact hfin
                    exact AllReadyIn.nil
                  exact AllReadyIn.nil
                exact AllReadyIn.nil
              exact AllReadyIn.nil
            exact AllReadyIn.nil
          exact AllReadyIn.nil
        exact AllReadyIn.nil
      exact AllReadyIn.nil
    case done =>
      rintro W ⟨u, hb1, ho, hbe⟩ hK
      rw [List.take_of_length_le (by omega)] at ho
      obtain ⟨A, c, rfl, hrA, hlA, hmA, hbA⟩ := ho.row sC_len
      have hbc := hb1.cell 0
      have hbf := hb1.frozen 0
      have hbl := hb1.lt
      simp only [List.getElem?_toArray, List.getElem?_cons_zero] at hbc
      gi_wp2
      refine ⟨by simp, .inl ⟨_, _, rfl, run_takeDeferred hK, ?_⟩⟩
      refine ⟨_, results_tmp rfl _ _ _, ⟨_, rfl, ?_⟩, hbe.grown (grownBy_putObj' W _ _) hbe.size (fun k e => by cases e; omega)⟩
      exact row_base (row_keep ho fun g hg' => World.putObj_heap_other (by have := (row_blk ho hg').1; omega)) (by omega)
end Go.Proofs.YtnipglclecafiaaDoor
