/- The table: URL, Key, Count of a handle; Live, In. -/
import Derived.Test.YtlpjjbkpoaohnaaDoorTab
set_option linter.unusedVariables false
set_option linter.unusedSimpArgs false
namespace Go.Proofs.YtlpjjbkpoaohnaaDoor
open Go.RowKit Slots

/-! ### A block written whole -/
theorem Blk.setFrom {g : Nat} {t : TypeId} : ∀ (us : List Value) (o : Nat) (w : World) (cs : Array Value), Blk w g t cs → o + us.length = cs.size → Blk (w.setCells g o us) g t (cs.toList.take o ++ us).toArray
  | [], o, w, cs, h, hl => by
    have : cs.toList.take o = cs.toList := List.take_of_length_le (by simp at hl; simp; omega)
    rw [this]
    simpa [World.setCells] using h
  | v :: us, o, w, cs, h, hl => by
    have ih := Blk.setFrom us (o + 1) _ _ (h.set_ o v) (by simp at hl ⊢; omega)
    have ho : o < cs.toList.length := by simp at hl ⊢; omega
    have e : (cs.setIfInBounds o v).toList.take (o + 1) = cs.toList.take o ++ [v] := by
      rw [Array.toList_setIfInBounds, List.take_set, List.take_succ_eq_append_getElem (by simpa using ho), List.set_append_right _ _ (by simp; omega)]
      have h3 : o - (List.take o cs.toList).length = 0 := by rw [List.length_take, Nat.min_eq_left (Nat.le_of_lt ho)]; omega
      rw [h3]
      rfl
    rw [e] at ih
    simpa [World.setCells] using ih
theorem Blk.setAll {w : World} {g : Nat} {t : TypeId} {cs us : Array Value} (h : Blk w g t cs) (hl : us.size = cs.size) : Blk (w.setCells g 0 us.toList) g t us := by
  have := Blk.setFrom us.toList 0 w cs h (by simp [hl])
  simpa using this
theorem setCells_other (g : Nat) : ∀ (us : List Value) (o : Nat) (w : World) (i : Nat), i ≠ g → (w.setCells g o us).heap[i]? = w.heap[i]?
  | [], _, _, _, _ => rfl
  | v :: us, o, w, i, h => by
    have := setCells_other g us (o + 1) (w.setCell ⟨g, o, none⟩ v) i h
    exact this.trans (Below.heap_setCell w ⟨g, o, none⟩ v i h)
theorem setCells_size (g : Nat) : ∀ (us : List Value) (o : Nat) (w : World), (w.setCells g o us).heap.size = w.heap.size
  | [], _, _ => rfl
  | v :: us, o, w => by have := setCells_size g us (o + 1) (w.setCell ⟨g, o, none⟩ v); rw [World.setCells, this]; simp [World.setCell]
theorem below_setCells {B : Nat} {a : World} {g : Nat} (hg : B ≤ g) : ∀ (us : List Value) (o : Nat) (w : World), Below B a w → Below B a (w.setCells g o us)
  | [], _, _, h => h
  | v :: us, o, w, h => below_setCells hg us (o + 1) _ (h.setCell (p := ⟨g, o, none⟩) hg v)
theorem Fr.setCells {a : World} {fp : Nat → Prop} {g : Nat} (hg : fp g ∨ a.heap.size ≤ g) : ∀ (us : List Value) (o : Nat) (w : World), Fr a w fp → Fr a (w.setCells g o us) fp
  | [], _, _, h => h
  | v :: us, o, w, h => Fr.setCells hg us (o + 1) _ (h.setCell (p := ⟨g, o, none⟩) hg v)
theorem Blk.there {w : World} {g : Nat} {t : TypeId} {cs : Array Value} (h : Blk w g t cs) : w.there g 0 cs.size := fun j hj => ⟨by rw [h.cell]; simp [hj], h.frozen _⟩
theorem Chain.blk {w w' : World} {g : Nat} {t : TypeId} {cs : Array Value} {l : List ByteArray} {v : Value} {c : Int} (hc : Chain w l v c) (h : Blk w g t cs) (ht : t ≠ 123) (hs : ∀ i, i ≠ g → w'.heap[i]? = w.heap[i]?) : Chain w' l v c :=
  hc.mono fun k s v' hk => (hs k fun e => by subst e; exact absurd (Blk.ne_ (show Blk w k 123 #[.string s, v'] from hk) h (Ne.symm ht)) (fun i => i rfl)).trans hk
/-- A block of no kind of the table's was written. -/
theorem TbM.blk_ {w w' : World} {A : TA} {t : Tb} (h : TbM w A t) {g : Nat} {T : TypeId} {cs : Array Value} (hg : Blk w g T cs) (hT : T ≠ 84 ∧ T ≠ 118 ∧ T ≠ 120 ∧ T ≠ 85 ∧ T ≠ 107) (hs : ∀ i, i ≠ g → w'.heap[i]? = w.heap[i]?) : TbM w' A t := by
  obtain ⟨t1, t2, t3, t4, t5⟩ := hT
  obtain ⟨cur, h1, h2⟩ := h.row
  have hap : ∀ {g' : Nat} {T' : TypeId} {cs' : Array Value}, Blk w g' T' cs' → T ≠ T' → Blk w' g' T' cs' := fun hg' n => (hs _ fun e => by subst e; exact absurd rfl (hg.ne_ hg' n)).trans hg'
  have hmp : ∀ {κ : Type} {kf : κ → Value} {g' : Nat} {kvs : List (κ × Value)}, MapK kf w g' kvs → w'.heap[g']? = w.heap[g']? := fun hm => hs _ fun e => by subst e; exact absurd rfl (hm.ne_blk hg)
  exact ⟨hap h.blk t1, ⟨h.slots.ne, hap h.slots.blk t2, hap h.slots.row t3⟩, ⟨cur, hap h1 t4, h2⟩, h.len, h.by_.at_ (hmp h.by_.k), fun j m hm => (h.st j m hm).at_ (hmp (h.st j m hm)), fun e he => ⟨hap (h.ents e he).1 t5, (h.ents e he).2⟩, h.nd, h.ny⟩

theorem info_url : (Tryd.prog.info? 62).map (·.size) = some 21 := by kernel_rfl
def zeroUrl : Array Value := #[.string ⟨#[]⟩, .string ⟨#[]⟩, .string ⟨#[]⟩, .int .i64 0, .string ⟨#[]⟩, .int .u32 0, .int .u16 0, .int .u16 0, .int .u16 0, .int .u16 0, .int .u16 0, .int .u16 0, .int .u16 0, .int .u16 0, .int .i64 0, .bool false, .slice none 0 0, .bool false, .string ⟨#[]⟩, .bool false, .string ⟨#[]⟩]
section
variable {ops : Array Oper} {rest : List Oper} {op : Oper} {a : Act} {w : World} {Q : Exit → Act → World → Prop}
theorem wpList_load_url {b o : Nat} {u : Array Value} (h : w.rangeAt b o u.toList) (hu : u.size = 21) (hgd : op.guard = none) (x : Operand) (ho : op.op = .load 62 x) (hx : a.eval x = .pointer (some ⟨b, o, none⟩))
    (hK : wpList Tryd.prog ops Q rest (a.put op.dst (.agg u)) w) : wpList Tryd.prog ops Q (op :: rest) a w :=
  wpList_load_mid hgd 62 x ho b o hx u.toList _ h Tryd.underlying62 rfl (by rw [info_url]; simp [hu]) (by simpa using hK)
theorem wpList_store_url {b : Nat} {u cs : Array Value} (h : Blk w b 62 cs) (hc : cs.size = 21) (hu : UrlOk u) (hgd : op.guard = none) (x y : Operand) (ho : op.op = .store 62 x y) (hx : a.eval x = .pointer (some ⟨b, 0, none⟩)) (hy : a.eval y = .agg u)
    (hK : wpList Tryd.prog ops Q rest (a.put op.dst undef) (w.setCells b 0 u.toList)) : wpList Tryd.prog ops Q (op :: rest) a w :=
  wpList_store_mid hgd 62 x y ho b 0 u hx hy (by rw [hu.1, ← hc]; exact h.there) (by rw [info_url, hu.1]) hu.2 hK
end

set_option maxRecDepth 100000 in
theorem key_calls {w : World} {A : TA} {t : Tb} {x : Rf} {K : Int} (h : TbM w A t) (hok : t.Ok K x) (hK : K ≤ 999999) (a : Int × Int) :
    Calls Tryd.prog 17 #[.pointer (some ⟨A.b, 0, none⟩), .agg #[.int .i64 a.1, .int .u64 a.2]] w fun e w' =>
      (∃ v, e = .returned (.tuple #[.string (((t.told a).map (·.1.k)).getD ⟨#[]⟩), v]) ∧ ErrT w' (if t.s.ok a then none else some 7) v) ∧ TbM w' A t ∧ Fr w w' A.fp := by
  have hb0 := Blk.new w 50 #[.int .i64 a.1, .int .u64 a.2]
  have h0 := h.keep ((Below.refl w.heap.size w).alloc (Nat.le_refl _) (.cells #[.int .i64 a.1, .int .u64 a.2] 50))
  have hc := entry_calls h0 hok hK a
  have y0 := hb0.cell 0
  have y1 := hb0.cell 1
  simp only [List.getElem?_toArray, List.getElem?_cons_zero, List.getElem?_cons_succ] at y0 y1
  have HF0 := Lib.hid ((Fr.refl w A.fp).alloc (.cells #[.int .i64 a.1, .int .u64 a.2] 50))
  by_cases hk : t.s.ok a
  · obtain ⟨e0, he, hea, hsl, htd⟩ := told_some hok hk
    rw [htd, if_pos hk] at hc
    rw [htd, if_pos hk]
    have HC := Lib.hid hc
    have HE := Lib.hid he
    clear h h0 hc he htd hsl hea hk hb0
    go_enter Tryd.func17, Tryd.ntmps17
    go_wp2_with fail
    refine HC.out.mono ?_
    rintro e w1 ⟨⟨v, rfl, hv⟩, hT, hF⟩
    obtain rfl : v = .nilIface := hv
    have HT := Lib.hid hT
    have HF := Lib.hid (HF0.out.trans hF (fun i hi => .inl hi))
    obtain ⟨a1, a2⟩ := hT.ents e0 HE.out
    obtain ⟨x0, _, _, _⟩ := ent_at a1 a2
    clear hT hF a1 a2
    simp only [Option.map_some, Option.getD_some, ptr]
    go_wp2_with fail
    go_ret2
    exact ⟨⟨_, rfl, rfl⟩, HT.out, HF.out⟩
  · rw [told_none hk, if_neg hk] at hc
    rw [told_none hk, if_neg hk]
    have HC := Lib.hid hc
    clear h h0 hc hk hb0
    go_enter Tryd.func17, Tryd.ntmps17
    go_wp2_with fail
    refine HC.out.mono ?_
    rintro e w1 ⟨⟨v, rfl, hv⟩, hT, hF⟩
    obtain ⟨l, hv⟩ := hv
    obtain ⟨t0, x0, hx0⟩ := hv.iface
    subst hx0
    have HV := Lib.hid hv
    have HT := Lib.hid hT
    have HF := Lib.hid (HF0.out.trans hF (fun i hi => .inl hi))
    clear hT hF hv
    simp only [Option.map_none, Option.getD_none]
    go_wp2_with fail
    go_ret2
    exact ⟨⟨_, rfl, _, HV.out⟩, HT.out, HF.out⟩
theorem count_calls {w : World} {A : TA} {t : Tb} {x : Rf} {K : Int} (h : TbM w A t) (hok : t.Ok K x) (hK : K ≤ 999999) (a : Int × Int) :
    Calls Tryd.prog 21 #[.pointer (some ⟨A.b, 0, none⟩), .agg #[.int .i64 a.1, .int .u64 a.2]] w fun e w' =>
      (∃ v, e = .returned (.tuple #[.int .i64 (((t.told a).map (·.2)).getD 0), v]) ∧ ErrT w' (if t.s.ok a then none else some 7) v) ∧ TbM w' A t ∧ Fr w w' A.fp := by
  have hb0 := Blk.new w 50 #[.int .i64 a.1, .int .u64 a.2]
  have h0 := h.keep ((Below.refl w.heap.size w).alloc (Nat.le_refl _) (.cells #[.int .i64 a.1, .int .u64 a.2] 50))
  have HC := Lib.hid (entry_calls h0 hok hK a)
  have y0 := hb0.cell 0
  have y1 := hb0.cell 1
  simp only [List.getElem?_toArray, List.getElem?_cons_zero, List.getElem?_cons_succ] at y0 y1
  have HF0 := Lib.hid ((Fr.refl w A.fp).alloc (.cells #[.int .i64 a.1, .int .u64 a.2] 50))
  clear h h0 hb0
  obtain ⟨oe, hoe⟩ : ∃ oe : Option Int, oe = (if t.s.ok a then none else some 7) := ⟨_, rfl⟩
  rw [← hoe] at HC ⊢
  clear hoe
  go_enter Tryd.func21, Tryd.ntmps21
  go_wp2_with fail
  refine HC.out.mono ?_
  rintro e w1 ⟨⟨v, rfl, hv⟩, hT, hF⟩
  have HV := Lib.hid hv
  have HT := Lib.hid hT
  have HF := Lib.hid (HF0.out.trans hF (fun i hi => .inl hi))
  clear hT hF hv
  go_wp2_with fail
  go_ret2
  exact ⟨⟨_, rfl, HV.out⟩, HT.out, HF.out⟩
theorem url_zero (w : World) : Blk (w.alloc (.cells zeroUrl 62)) w.heap.size 62 zeroUrl := Blk.new w _ _
set_option maxRecDepth 100000 in
theorem url_calls {w : World} {A : TA} {t : Tb} {x : Rf} {K : Int} (h : TbM w A t) (hok : t.Ok K x) (hK : K ≤ 999999) (a : Int × Int) :
    Calls Tryd.prog 20 #[.pointer (some ⟨A.b, 0, none⟩), .agg #[.int .i64 a.1, .int .u64 a.2]] w fun e w' =>
      (∃ v, e = .returned (.tuple #[.agg (((t.told a).map (·.1.u)).getD zeroUrl), v]) ∧ ErrT w' (if t.s.ok a then none else some 7) v) ∧ TbM w' A t ∧ Fr w w' A.fp := by
  have hu0 : Blk ((w.alloc (.cells #[.int .i64 a.1, .int .u64 a.2] 50)).alloc (.cells zeroUrl 62)) (w.heap.size + 1) 62 zeroUrl := by
    have := Blk.new (w.alloc (.cells #[.int .i64 a.1, .int .u64 a.2] 50)) 62 zeroUrl
    simpa using this
  have h0 := (h.keep ((Below.refl w.heap.size w).alloc (Nat.le_refl _) (.cells #[.int .i64 a.1, .int .u64 a.2] 50))).keep ((Below.refl _ _).alloc (Nat.le_refl _) (.cells zeroUrl 62))
  have hc := entry_calls h0 hok hK a
  have HAP := Lib.hid (h0.apart hu0 (by decide) (by decide))
  have HF0 := Lib.hid (((Fr.refl w A.fp).alloc (.cells #[.int .i64 a.1, .int .u64 a.2] 50)).alloc (.cells zeroUrl 62))
  have HU0 := Lib.hid hu0
  have hb0 := (Blk.new w 50 #[.int .i64 a.1, .int .u64 a.2]).alloc (.cells zeroUrl 62)
  have y0 := hb0.cell 0
  have y1 := hb0.cell 1
  simp only [List.getElem?_toArray, List.getElem?_cons_zero, List.getElem?_cons_succ] at y0 y1
  have hz : zeroUrl.size = 21 := rfl
  have hzk : UrlOk zeroUrl := ⟨rfl, by simp [zeroUrl, Value.oneCell']⟩
  clear h h0 hb0 hu0
  by_cases hk : t.s.ok a
  · obtain ⟨e0, he, hea, hsl, htd⟩ := told_some hok hk
    rw [htd, if_pos hk] at hc
    rw [htd, if_pos hk]
    have HC := Lib.hid hc
    have HE := Lib.hid he
    clear hc he htd hsl hea hk
    go_enter Tryd.func20, Tryd.ntmps20
    go_wp2_with fail
    refine HC.out.mono ?_
    rintro e w1 ⟨⟨v, rfl, hv⟩, hT, hF⟩
    obtain rfl : v = .nilIface := hv
    have hU := HU0.out.fr hF HAP.out
    obtain ⟨a1, a2⟩ := hT.ents e0 HE.out
    obtain ⟨_, _, _, x3⟩ := ent_at a1 a2
    have HX3 := Lib.hid x3
    have HUB := Lib.hid hU
    have HUO := Lib.hid a2
    have HT := Lib.hid (hT.blk_ hU (by decide) (fun i hi => setCells_other _ e0.u.toList 0 w1 i hi))
    have HF := Lib.hid (Fr.setCells (g := w.heap.size + 1) (.inr (by omega)) e0.u.toList 0 w1 (HF0.out.trans hF (fun i hi => .inl hi)))
    have HU := Lib.hid (hU.setAll (us := e0.u) (by rw [a2.1]; rfl))
    have HE1 := Lib.hid a2.1
    clear hT hF a1 a2 x3 hU
    simp only [Option.map_some, Option.getD_some, ptr]
    go_wp2_with (with_reducible (first | refine wpList_load_url HX3.out HE1.out rfl _ rfl rfl ?_ | refine wpList_store_url HUB.out hz HUO.out rfl _ _ rfl rfl rfl ?_))
    refine bodyPost_ret (results_cell_row2 rfl _ _ (w.heap.size + 1) 62 _ (0, 0) _ rfl HU.out Tryd.underlying62 rfl (by rw [info_url, HE1.out])) rfl ?_
    exact ⟨⟨_, rfl, rfl⟩, HT.out, HF.out⟩
  · rw [told_none hk, if_neg hk] at hc
    rw [told_none hk, if_neg hk]
    have HC := Lib.hid hc
    clear hc hk
    go_enter Tryd.func20, Tryd.ntmps20
    go_wp2_with fail
    refine HC.out.mono ?_
    rintro e w1 ⟨⟨v, rfl, hv⟩, hT, hF⟩
    obtain ⟨l, hv⟩ := hv
    obtain ⟨t0, x0, hx0⟩ := hv.iface
    subst hx0
    have hU := HU0.out.fr hF HAP.out
    have HUB := Lib.hid hU
    have HZK := Lib.hid hzk
    have HT := Lib.hid (hT.blk_ hU (by decide) (fun i hi => setCells_other _ zeroUrl.toList 0 w1 i hi))
    have HF := Lib.hid (Fr.setCells (g := w.heap.size + 1) (.inr (by omega)) zeroUrl.toList 0 w1 (HF0.out.trans hF (fun i hi => .inl hi)))
    have HV := Lib.hid (hv.blk hU (by decide) (fun i hi => setCells_other _ zeroUrl.toList 0 w1 i hi))
    have HU := Lib.hid (hU.setAll (us := zeroUrl) rfl)
    clear hT hF hU hv
    simp only [Option.map_none, Option.getD_none]
    go_wp2_with (with_reducible (refine wpList_store_url (u := zeroUrl) HUB.out hz HZK.out rfl _ _ rfl rfl rfl ?_))
    refine bodyPost_ret (results_cell_row2 rfl _ _ (w.heap.size + 1) 62 _ (0, 0) _ rfl HU.out Tryd.underlying62 rfl (by rw [info_url]; rfl)) rfl ?_
    exact ⟨⟨_, rfl, _, HV.out⟩, HT.out, HF.out⟩
theorem tell_nil (a : Int × Int) (w : World) :
    Calls Tryd.prog 21 #[.pointer none, .agg #[.int .i64 a.1, .int .u64 a.2]] w fun e w' => (∃ v, e = .returned (.tuple #[.int .i64 0, v]) ∧ ErrT w' (some 1) v) ∧ Below w.heap.size w w' := by
  have hb0 := Blk.new w 50 #[.int .i64 a.1, .int .u64 a.2]
  have HC := Lib.hid (entry_nil a (w.alloc (.cells #[.int .i64 a.1, .int .u64 a.2] 50)))
  have y0 := hb0.cell 0
  have y1 := hb0.cell 1
  simp only [List.getElem?_toArray, List.getElem?_cons_zero, List.getElem?_cons_succ] at y0 y1
  have HF0 := Lib.hid ((Below.refl w.heap.size w).alloc (Nat.le_refl _) (.cells #[.int .i64 a.1, .int .u64 a.2] 50))
  clear hb0
  go_enter Tryd.func21, Tryd.ntmps21
  go_wp2_with fail
  refine HC.out.mono ?_
  rintro e w1 ⟨⟨v, rfl, hv⟩, hF⟩
  have HV := Lib.hid hv
  have HF := Lib.hid (belowOn HF0.out HF0.out.size hF)
  clear hF hv
  go_wp2_with fail
  go_ret2
  exact ⟨⟨_, rfl, HV.out⟩, HF.out⟩
theorem live_calls {w : World} {A : TA} {t : Tb} (h : TbM w A t) : Calls Tryd.prog 10 #[.pointer (some ⟨A.b, 0, none⟩)] w fun e w' => e = .returned (.int .i64 t.l.length) ∧ w = w' := by
  have c2 := h.c2
  have hl := run_lenK (P := Tryd.prog) (ty := 3) (kf := Value.int .i64) Tryd.underlying81 h.by_.k
  rw [List.length_map] at hl
  clear h
  go_enter Tryd.func10, Tryd.ntmps10
  go_wp2
  go_ret
  exact ⟨rfl, rfl⟩
theorem live_nil (w : World) : Calls Tryd.prog 10 #[.pointer none] w fun e w' => e = .returned (.int .i64 0) ∧ w = w' := by
  go_enter Tryd.func10, Tryd.ntmps10
  go_wp2
  go_ret
  exact ⟨rfl, rfl⟩
/-- How many entries a stripe has. -/
def Tb.inN (t : Tb) (i : Int) : Nat := if 0 ≤ i ∧ i < t.n then (t.l.filter fun e => decide (stripeN e.k t.n = i.toNat)).length else 0
set_option maxRecDepth 100000 in
theorem in_calls {w : World} {A : TA} {t : Tb} (h : TbM w A t) (i : Int) : Calls Tryd.prog 11 #[.pointer (some ⟨A.b, 0, none⟩), .int .i64 i] w fun e w' => e = .returned (.int .i64 (t.inN i)) ∧ w = w' := by
  have c1 := h.c1
  by_cases hi : 0 ≤ i ∧ i < t.n
  · obtain ⟨j, rfl⟩ := Int.eq_ofNat_of_zero_le hi.1
    obtain ⟨m, hm⟩ : ∃ m, A.ms[j]? = some m := ⟨_, List.getElem?_eq_getElem (by rw [h.len]; omega)⟩
    have hl := run_lenK (P := Tryd.prog) (ty := 3) (kf := Value.string) Tryd.underlying85 (h.st j m hm)
    have r1 := h.r hm
    have e : t.inN (j : Int) = (t.l.filter fun e => decide (stripeN e.k t.n = j)).length := by unfold Tb.inN; rw [if_pos hi, Int.toNat_natCast]
    rw [List.length_map, ← e] at hl
    have h1 := hi.2
    clear h e hm hi
    go_enter Tryd.func11, Tryd.ntmps11
    go_wp2
    go_ret
    exact ⟨rfl, rfl⟩
  · have e : t.inN i = 0 := by unfold Tb.inN; rw [if_neg hi]
    rw [e]
    clear h e
    by_cases h0 : i < 0
    · clear hi
      go_enter Tryd.func11, Tryd.ntmps11
      go_wp2
      go_ret
      exact ⟨rfl, rfl⟩
    · have h1 : (t.n : Int) ≤ i := by omega
      clear hi
      go_enter Tryd.func11, Tryd.ntmps11
      go_wp2
      go_ret
      exact ⟨rfl, rfl⟩
end Go.Proofs.YtlpjjbkpoaohnaaDoor
