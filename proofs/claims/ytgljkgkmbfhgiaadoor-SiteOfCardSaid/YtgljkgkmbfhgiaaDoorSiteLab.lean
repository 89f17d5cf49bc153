/- Rows of texts: reversed in place, turned. A name's labels: rules.Labels. -/
import Derived.Test.YtgljkgkmbfhgiaaDoorTrie
import Derived.Test.YtgljkgkmbfhgiaaDoorShelf
import Derived.Deep.MidRow
import Derived.Laws.CopyOwn
import Derived.Laws.MakeOwn
import Derived.Lib.Hide
import Derived.Test.YtgljkgkmbfhgiaaDoorRowI
import Derived.Test.YtgljkgkmbfhgiaaDoorHostWorld
set_option linter.unusedVariables false
set_option linter.unusedSimpArgs false
set_option maxRecDepth 100000
namespace Go.Proofs.YtgljkgkmbfhgiaaDoor
open Go.RowKit

theorem setCells_away (g : Nat) : ∀ (us : List Value) (o : Nat) (w : World) (i : Nat), i ≠ g → (w.setCells g o us).heap[i]? = w.heap[i]?
  | [], _, _, _, _ => rfl
  | v :: us, o, w, i, h => by
    have := setCells_away g us (o + 1) (w.setCell ⟨g, o, none⟩ v) i h
    exact this.trans (Below.heap_setCell w ⟨g, o, none⟩ v i h)
theorem below_cells {B : Nat} {a : World} {g : Nat} (hg : B ≤ g) : ∀ (us : List Value) (o : Nat) (w : World), Below B a w → Below B a (w.setCells g o us)
  | [], _, _, h => h
  | v :: us, o, w, h => below_cells hg us (o + 1) _ (h.setCell (p := ⟨g, o, none⟩) hg v)
theorem row_cells {w : World} {g : Nat} {l : List ByteArray} (h : RowAt strC 1 w (some ⟨g, 0, none⟩) l) {j : Nat} {x : ByteArray} (hx : l[j]? = some x) : w.cell? ⟨g, j, none⟩ = some (.string x) := by
  obtain ⟨b, off, e, hc⟩ := h j x hx
  cases e
  simpa using hc 0 (.string x) rfl
theorem row_of_cells {w : World} {g : Nat} {l : List ByteArray} (h : ∀ (j : Nat) (x : ByteArray), l[j]? = some x → w.cell? ⟨g, j, none⟩ = some (.string x)) : RowAt strC 1 w (some ⟨g, 0, none⟩) l := fun i x hx => ⟨g, 0, rfl, fun j u hu => by
  have hj : j = 0 := by
    have := (List.getElem?_eq_some_iff.1 hu).1
    simp [strC] at this
    exact this
  subst hj
  simp only [strC, List.getElem?_cons_zero, Option.some.injEq] at hu
  subst hu
  simpa using h i x hx⟩
theorem enc_str (x : ByteArray) : encStr x.data.toList = .string x := by
  show Value.string _ = _
  congr 1
theorem strs_map (l : List ByteArray) : Lib.strsOf (fun i => l.getD i ByteArray.empty) l.length = l.map (·.data.toList) := by
  apply List.ext_getElem?
  intro j
  by_cases h : j < l.length
  · simp [Lib.strsOf, h]
  · simp [Lib.strsOf, Nat.not_lt.1 h]
/-- slices.Reverse of a row that begins at a block's head. -/
theorem reverse_calls (g c : Nat) (l : List ByteArray) (w : World) (h : RowAt strC 1 w (some ⟨g, 0, none⟩) l) (hf : ∀ j, j < l.length → w.frozen? ⟨g, j, none⟩ = false) (hl : l.length ≤ 9223372036854775807) :
    Calls Tryd.prog 62 #[.slice (some ⟨g, 0, none⟩) l.length c] w fun e w' => e = .returned (.tuple #[]) ∧ RowAt strC 1 w' (some ⟨g, 0, none⟩) l.reverse ∧ (∀ B a, B ≤ g → Below B a w → Below B a w') ∧ Below g w w' := by
  have hc : ∀ i, i < l.length → w.cell? ⟨g, 0 + i, none⟩ = some (.string (l.getD i ByteArray.empty)) := fun i hi => by
    rw [Nat.zero_add]
    exact row_cells h (by simp [hi])
  refine (Tryd.slices_Reverse_string_cells g 0 l.length c (fun i => l.getD i ByteArray.empty) w hl hc (fun j hj => by rw [Nat.zero_add]; exact hf j hj)).mono ?_
  rintro e w' ⟨rfl, q, rfl⟩
  rw [strs_map]
  refine ⟨rfl, row_of_cells fun j x hx => ?_, fun B a hB hb => below_cells hB _ _ _ (hb.drewN q), below_cells (Nat.le_refl _) _ _ _ ((Below.refl g w).drewN q)⟩
  have hlen : ((l.map fun x => x.data.toList).reverse.map encStr).length = l.length := by simp
  have hr := World.rangeAt_setCells_same (w.drewN q) g 0 ((l.map fun x => x.data.toList).reverse.map encStr) (fun j hj => by
    rw [hlen] at hj
    refine ⟨?_, ?_⟩
    · show (w.cell? ⟨g, 0 + j, none⟩).isSome = true
      rw [hc j hj]
      rfl
    · show w.frozen? ⟨g, 0 + j, none⟩ = false
      rw [Nat.zero_add]
      exact hf j hj)
  have := hr j (.string x) (by rw [← List.map_reverse, List.map_map, List.getElem?_map, hx]; simp [enc_str])
  rw [Nat.zero_add] at this
  exact this
theorem info_strS : (Tryd.prog.info? 9).map (fun i => (i.zero, i.size, i.bytes)) = some (some (.string ⟨#[]⟩), 1, 16) := by kernel_rfl
theorem made_strs (n : Nat) : madeCells #[.string ⟨#[]⟩] (n * 1) = Array.replicate n (Value.string ⟨#[]⟩) := by
  apply Array.ext_getElem?
  intro j
  rw [Nat.mul_one]
  by_cases h : j < n
  · simp [madeCells, h, Nat.mod_one]
  · simp [madeCells, h]
/-- A walk halted at a copy. -/
def StopC (p : Prop) : Prop := p
theorem stop_copy {P : Program} {ops : Array Oper} {rest : List Oper} {a : Act} {w : World} {Q : Exit → Act → World → Prop} {a0 : Option Nat} {A : Array Operand} {T : Array TypeId} {a2 : TypeId} {a3 : String} {a4 : Array Edge} {a5 : Option (Nat × Bool)} (h : StopC (wpList P ops Q (⟨a0, .call { callee := .builtin .copy, args := A, argTypes := T }, a2, a3, a4, a5⟩ :: rest) a w)) : wpList P ops Q (⟨a0, .call { callee := .builtin .copy, args := A, argTypes := T }, a2, a3, a4, a5⟩ :: rest) a w := h
theorem stop_copy_go {p : Prop} (h : p) : StopC p := h
theorem make_strs (n : Nat) (h : n ≤ 100000) : ∀ W : World, (Instr.makeSlice 27 (.int .i64 (n : Int)) (.int .i64 (n : Int))).run Tryd.prog W = .ok (.slice (some ⟨W.heap.size, 0, none⟩) n n) (W.alloc (.cells (Array.replicate n (Value.string ⟨#[]⟩)) 9)) := by
  intro W
  obtain ⟨i0, hi, hz⟩ := Option.map_eq_some_iff.1 info_strS
  simp only [Prod.mk.injEq] at hz
  have := run_make (P := Tryd.prog) W 27 9 i0 _ Tryd.underlying27 hi hz.1 .i64 .i64 n n (by omega) (Int.le_refl _) (by rw [hz.2.2]; omega) (by omega)
  rw [hz.2.1] at this
  simp only [Int.toNat_natCast, Value.cells] at this
  rw [this, made_strs]
theorem row_cellsA {w : World} {A : Option Addr} {l : List ByteArray} (h : RowAt strC 1 w A l) (hp : 0 < l.length) : ∃ ad, A = some ad ∧ ∀ (j : Nat) (v : Value), (l.map Value.string)[j]? = some v → w.cell? (ad.add j) = some v := by
  obtain ⟨b, off, rfl, -⟩ := h 0 _ (List.getElem?_eq_getElem hp)
  refine ⟨_, rfl, fun j v hv => ?_⟩
  rw [List.getElem?_map] at hv
  obtain ⟨x, hx, rfl⟩ := Option.map_eq_some_iff.1 hv
  obtain ⟨b', off', e, hc⟩ := h j x hx
  cases e
  have := hc 0 (.string x) rfl
  have e2 : (⟨b, off, none⟩ : Addr).add j = ⟨b, off + j * 1 + 0, none⟩ := by unfold Addr.add; split <;> simp_all
  rw [e2]
  exact this
theorem blk_row {w : World} {g : Nat} {t : TypeId} {l : List ByteArray} (h : Blk w g t (l.map Value.string).toArray) : RowAt strC 1 w (some ⟨g, 0, none⟩) l := row_of_cells fun j x hx => by rw [h.cell]; simp [hx]
set_option maxHeartbeats 1000000 in
theorem turned_calls (A : Option Addr) (c : Nat) (l : List ByteArray) (w : World) (h : RowAt strC 1 w A l) (hl : l.length ≤ 1000) :
    Calls Tryd.prog 74 #[.slice A l.length c] w fun e w' => e = .returned (.slice (some ⟨w.heap.size, 0, none⟩) l.length l.length) ∧ RowAt strC 1 w' (some ⟨w.heap.size, 0, none⟩) l.reverse ∧ Below w.heap.size w w' := by
  have H := Lib.hid h
  have hm := make_strs l.length (by omega)
  clear h
  go_enter Tryd.func74, Tryd.ntmps74
  go_upto_region 2 with fail
  clear hm
  go_wp2_with (with_reducible refine stop_copy ?_)
  refine stop_copy_go ?_
  have hz : (w.alloc (.cells (Array.replicate l.length (Value.string ⟨#[]⟩)) 9)).heap[w.heap.size]? = some (.cells (List.replicate l.length (Value.string ⟨#[]⟩)).toArray 9 (0, 0)) := by
    rw [show (List.replicate l.length (Value.string ⟨#[]⟩)).toArray = Array.replicate l.length (Value.string ⟨#[]⟩) by simp]
    exact heap_alloc_new w _
  refine wpList_copy_splice rfl (.tmp 7) (.tmp 8) _ _ rfl 9 Tryd.underlying27 (by kernel_rfl) (some ⟨w.heap.size, 0, none⟩) A l.length l.length l.length c rfl rfl w.heap.size 0 (List.replicate l.length (Value.string ⟨#[]⟩)) 9 hz (l.map Value.string) (by rw [List.length_map]; exact (Nat.min_self _).symm)
    (fun hp => ⟨rfl, row_cellsA (H.out.keep ((Below.refl _ _).alloc (Nat.le_refl _) _)) (by simpa using hp)⟩) (by simp) (fun v hv => by obtain ⟨x, -, rfl⟩ := List.mem_map.1 hv; rfl) w.heap.size w ((Below.refl _ _).alloc (Nat.le_refl _) _) (Nat.le_refl _) ?_
  intro w1 hg hb
  have hK : Blk w1 w.heap.size 9 (l.map Value.string).toArray := by
    have := hg.out
    rw [show splice (List.replicate l.length (Value.string ⟨#[]⟩)) 0 (l.map Value.string) = l.map Value.string by simp [splice]] at this
    exact this
  have HR := Lib.hid (reverse_calls w.heap.size l.length l w1 (blk_row hK) (fun j hj => hK.frozen _) (by omega))
  have HB := Lib.hid hb
  clear hg hz hK hb H
  go_wp2_with fail
  refine HR.out.mono ?_
  rintro e w2 ⟨rfl, h1, h2, -⟩
  have H1 := Lib.hid h1
  have H2 := Lib.hid (h2 _ _ (Nat.le_refl _) HB.out)
  clear h1 h2
  go_wp2_with fail
  go_ret
  exact ⟨rfl, H1.out, H2.out⟩
end Go.Proofs.YtgljkgkmbfhgiaaDoor

set_option maxRecDepth 100000
namespace Go.Proofs.YtgljkgkmbfhgiaaDoor
open Go.RowKit Four Six

def labelsL (s : ByteArray) : Option (List ByteArray) := if [] ∈ partsL s.data.toList then none else some ((partsL s.data.toList).map mkB).reverse
theorem mkB_toList (l : List UInt8) : (mkB l).toList = l := by rw [ByteArray.toList_eq, mkB_data]
theorem mkB_empty {l : List UInt8} : mkB l = ⟨#[]⟩ ↔ l = [] := by
  constructor
  · intro h; have := congrArg (fun s : ByteArray => s.data.toList) h; simpa [mkB] using this
  · rintro rfl; rfl
theorem contains_empty (L : List (List UInt8)) : Lib.containsS (L.map mkB) ⟨#[]⟩ = decide ([] ∈ L) := by
  rw [Bool.eq_iff_iff, Lib.containsS_iff, decide_eq_true_eq, List.mem_map]
  constructor
  · rintro ⟨l, h, e⟩
    rwa [mkB_empty.1 e] at h
  · intro h
    exact ⟨[], h, rfl⟩
theorem splitS_calls (s : ByteArray) (c : UInt8) {w : World} (hF : FW w) (hs : s.size ≤ 1000000) :
    Calls Tryd.prog 72 #[.string s, .string ⟨#[c]⟩] w fun e w' => e = .returned (.slice (some ⟨w.heap.size, 0, none⟩) (splitL c s.data.toList).length (splitL c s.data.toList).length) ∧ RowAt strC 1 w' (some ⟨w.heap.size, 0, none⟩) ((splitL c s.data.toList).map mkB) ∧ Below w.heap.size w w' := by
  obtain ⟨m, hm⟩ := hF.ml
  refine (Tryd.strings_Split s ⟨#[c]⟩ m w (by omega) hm (Nat.le_refl 1)).mono ?_
  rintro e w' ⟨rfl, rfl⟩
  rw [countB_parts, splitB_parts]
  exact ⟨rfl, blk_row (Blk.new w _ _), (Below.refl _ _).alloc (Nat.le_refl _) _⟩
theorem row_short {w : World} {g : Nat} {l : List ByteArray} (h : RowAt strC 1 w (some ⟨g, 0, none⟩) l) : RowAt strC 1 w (some ⟨g, 0, none⟩) l.dropLast := row_of_cells fun j x hx => row_cells h (by
  rw [List.getElem?_dropLast] at hx
  split at hx
  · exact hx
  · cases hx)
theorem containsR_calls (g c : Nat) (L : List (List UInt8)) (w : World) (h : RowAt strC 1 w (some ⟨g, 0, none⟩) (L.map mkB)) (hl : L.length ≤ 1000001) :
    Calls Tryd.prog 73 #[.slice (some ⟨g, 0, none⟩) L.length c, .string ⟨#[]⟩] w fun e w' => e = .returned (.bool (decide ([] ∈ L))) ∧ w' = w := by
  refine (Tryd.slices_Contains_string g 0 L.length c (L.map mkB) ⟨#[]⟩ w (by simp) (by omega) (fun j hj => by
    rw [Nat.zero_add]
    exact row_cells h (by simp at hj; simp [hj]))).mono ?_
  rintro e w' ⟨rfl, rfl⟩
  rw [List.take_of_length_le (by simp), contains_empty]
  exact ⟨rfl, rfl⟩
def labR (g : Nat) : Option (List ByteArray) → Value
  | none => .tuple #[.slice none 0 0, .bool false]
  | some l => .tuple #[.slice (some ⟨g, 0, none⟩) l.length l.length, .bool true]
def labRow (w : World) (g : Nat) : Option (List ByteArray) → Prop
  | none => True
  | some l => RowAt strC 1 w (some ⟨g, 0, none⟩) l
set_option maxHeartbeats 1000000 in
theorem labels_calls (s : ByteArray) {w : World} (hF : FW w) (hs : s.size ≤ 900) :
    Calls Tryd.prog 58 #[.string s] w fun e w' => ∃ g, w.heap.size ≤ g ∧ e = .returned (labR g (labelsL s)) ∧ labRow w' g (labelsL s) ∧ Below w.heap.size w w' := by
  have HC := Lib.hid (splitS_calls s 46 hF (by omega))
  have hp := splitL_pos 46 s.data.toList
  have hl := splitL_length 46 s.data.toList
  have hl2 : (splitL 46 s.data.toList).length ≤ 901 := by have : s.data.toList.length = s.size := by simp
                                                          omega
  have HD := Lib.hid (show partsL s.data.toList = if 1 < (splitL 46 s.data.toList).length ∧ (splitL 46 s.data.toList).getLastD [] = [] then (splitL 46 s.data.toList).dropLast else splitL 46 s.data.toList from rfl)
  obtain ⟨R, hRR⟩ : ∃ R, R = labelsL s := ⟨_, rfl⟩
  rw [← hRR]
  unfold labelsL at hRR
  have HRR := Lib.hid hRR
  clear hRR
  generalize partsL s.data.toList = Q at HD HRR ⊢
  generalize splitL 46 s.data.toList = L at HC HD hp hl2
  clear hl hF hs
  have hat := last_at (d := []) hp
  have HAT := Lib.hid hat
  clear hat
  go_enter Tryd.func58, Tryd.ntmps58
  go_wp2_with fail
  refine HC.out.mono ?_
  rintro e w1 ⟨rfl, hR, hb⟩
  have hcell : w1.cell? ⟨w.heap.size, L.length - 1, none⟩ = some (.string (mkB (L.getLastD []))) := row_cells hR (by rw [List.getElem?_map, HAT.out]; rfl)
  have HR := Lib.hid hR
  have HB := Lib.hid hb
  clear hR hb HC
  by_cases h1 : L.length = 1
  · have hQ : Q = L := by rw [HD.out, if_neg (by omega)]
    subst hQ
    clear hcell HAT
    have HL := Lib.hid (show Q.length = 1 from h1)
    have HLE := Lib.hid (show Q.length ≤ 901 from hl2)
    have HQ := HR
    rw [h1]
    clear h1 hp hl2
    obtain ⟨X, hX⟩ : ∃ X, X = decide ([] ∈ Q) := ⟨_, rfl⟩
    have HT := Lib.hid (containsR_calls w.heap.size 1 Q w1 HQ.out (by have := HLE.out; omega))
    have HTU := Lib.hid (turned_calls (some ⟨w.heap.size, 0, none⟩) 1 (Q.map mkB) w1 HQ.out (by have := HLE.out; simp; omega))
    rw [List.length_map] at HTU
    rw [← hX] at HT
    rw [HL.out] at HT HTU
    have HX := Lib.hid hX
    clear hX
    cases X
    · have HV := Lib.hid (show R = some (Q.map mkB).reverse by rw [HRR.out, if_neg (by simpa using HX.out.symm)])
      go_wp2_with fail
      refine HT.out.mono ?_
      rintro e w2 ⟨rfl, rfl⟩
      go_wp2_with fail
      refine HTU.out.mono ?_
      rintro e w3 ⟨rfl, hr3, hb3⟩
      have H3 := Lib.hid hr3
      have HB3 := Lib.hid (belowOn HB.out HB.out.size hb3)
      clear hr3 hb3
      go_wp2_with fail
      go_ret2
      exact ⟨w2.heap.size, HB.out.size, by rw [HV.out]; simp [labR, HL.out], by rw [HV.out]; exact H3.out, HB3.out⟩
    · have HV := Lib.hid (show R = none by rw [HRR.out, if_pos (by simpa using HX.out.symm)])
      go_wp2_with fail
      refine HT.out.mono ?_
      rintro e w2 ⟨rfl, rfl⟩
      go_wp2_with fail
      go_ret2
      exact ⟨w.heap.size, Nat.le_refl _, by rw [HV.out]; rfl, by rw [HV.out]; trivial, HB.out⟩
  · obtain ⟨n, hn⟩ : ∃ n, L.length = n + 2 := ⟨L.length - 2, by omega⟩
    rw [hn] at hcell ⊢
    have e1 : n + 2 - 1 = n + 1 := by omega
    rw [e1] at hcell
    have HN := Lib.hid hn
    by_cases h2 : L.getLastD [] = []
    · have hQ : Q = L.dropLast := by rw [HD.out, if_pos ⟨by omega, h2⟩]
      have hz : (mkB (L.getLastD [])).toList.isEmpty = true := by rw [mkB_toList, h2]; rfl
      have HL := Lib.hid (show Q.length = n + 1 by rw [hQ, List.length_dropLast, HN.out]; omega)
      have HLE := Lib.hid (show Q.length ≤ 901 by rw [HL.out]; omega)
      have HQ := Lib.hid (show RowAt strC 1 w1 (some ⟨w.heap.size, 0, none⟩) (Q.map mkB) by rw [hQ, List.map_dropLast]; exact row_short HR.out)
      have hn2 : n + 2 ≤ 901 := by omega
      clear h1 hn hp hl2 h2 hQ HD HAT HN
      generalize L.getLastD [] = x at *
      obtain ⟨X, hX⟩ : ∃ X, X = decide ([] ∈ Q) := ⟨_, rfl⟩
      have HT := Lib.hid (containsR_calls w.heap.size (n + 2) Q w1 HQ.out (by have := HLE.out; omega))
      have HTU := Lib.hid (turned_calls (some ⟨w.heap.size, 0, none⟩) (n + 2) (Q.map mkB) w1 HQ.out (by have := HLE.out; simp; omega))
      rw [List.length_map] at HTU
      rw [← hX] at HT
      rw [HL.out] at HT HTU
      have HX := Lib.hid hX
      clear hX
      cases X
      · have HV := Lib.hid (show R = some (Q.map mkB).reverse by rw [HRR.out, if_neg (by simpa using HX.out.symm)])
        go_wp2_with fail
        refine HT.out.mono ?_
        rintro e w2 ⟨rfl, rfl⟩
        go_wp2_with fail
        refine HTU.out.mono ?_
        rintro e w3 ⟨rfl, hr3, hb3⟩
        have H3 := Lib.hid hr3
        have HB3 := Lib.hid (belowOn HB.out HB.out.size hb3)
        clear hr3 hb3
        go_wp2_with fail
        go_ret2
        exact ⟨w2.heap.size, HB.out.size, by rw [HV.out]; simp [labR, HL.out], by rw [HV.out]; exact H3.out, HB3.out⟩
      · have HV := Lib.hid (show R = none by rw [HRR.out, if_pos (by simpa using HX.out.symm)])
        go_wp2_with fail
        refine HT.out.mono ?_
        rintro e w2 ⟨rfl, rfl⟩
        go_wp2_with fail
        go_ret2
        exact ⟨w.heap.size, Nat.le_refl _, by rw [HV.out]; rfl, by rw [HV.out]; trivial, HB.out⟩
    · have hQ : Q = L := by rw [HD.out, if_neg (fun h => h2 h.2)]
      have hz : (mkB (L.getLastD [])).toList.isEmpty = false := by rw [mkB_toList]; simpa using h2
      have HL := Lib.hid (show Q.length = n + 2 by rw [hQ, HN.out])
      have HLE := Lib.hid (show Q.length ≤ 901 by rw [HL.out]; omega)
      have HQ := Lib.hid (show RowAt strC 1 w1 (some ⟨w.heap.size, 0, none⟩) (Q.map mkB) by rw [hQ]; exact HR.out)
      have hn2 : n + 2 ≤ 901 := by omega
      clear h1 hn hp hl2 h2 hQ HD HAT HN
      generalize L.getLastD [] = x at *
      obtain ⟨X, hX⟩ : ∃ X, X = decide ([] ∈ Q) := ⟨_, rfl⟩
      have HT := Lib.hid (containsR_calls w.heap.size (n + 2) Q w1 HQ.out (by have := HLE.out; omega))
      have HTU := Lib.hid (turned_calls (some ⟨w.heap.size, 0, none⟩) (n + 2) (Q.map mkB) w1 HQ.out (by have := HLE.out; simp; omega))
      rw [List.length_map] at HTU
      rw [← hX] at HT
      rw [HL.out] at HT HTU
      have HX := Lib.hid hX
      clear hX
      cases X
      · have HV := Lib.hid (show R = some (Q.map mkB).reverse by rw [HRR.out, if_neg (by simpa using HX.out.symm)])
        go_wp2_with fail
        refine HT.out.mono ?_
        rintro e w2 ⟨rfl, rfl⟩
        go_wp2_with fail
        refine HTU.out.mono ?_
        rintro e w3 ⟨rfl, hr3, hb3⟩
        have H3 := Lib.hid hr3
        have HB3 := Lib.hid (belowOn HB.out HB.out.size hb3)
        clear hr3 hb3
        go_wp2_with fail
        go_ret2
        exact ⟨w2.heap.size, HB.out.size, by rw [HV.out]; simp [labR, HL.out], by rw [HV.out]; exact H3.out, HB3.out⟩
      · have HV := Lib.hid (show R = none by rw [HRR.out, if_pos (by simpa using HX.out.symm)])
        go_wp2_with fail
        refine HT.out.mono ?_
        rintro e w2 ⟨rfl, rfl⟩
        go_wp2_with fail
        go_ret2
        exact ⟨w.heap.size, Nat.le_refl _, by rw [HV.out]; rfl, by rw [HV.out]; trivial, HB.out⟩
end Go.Proofs.YtgljkgkmbfhgiaaDoor
