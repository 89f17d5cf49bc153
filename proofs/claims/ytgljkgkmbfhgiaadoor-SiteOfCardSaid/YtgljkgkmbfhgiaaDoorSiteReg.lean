/- site.ends, Suffix and Registrable, walked. Suffix and Registrable, of the program and of the reference. -/
import Derived.Test.YtgljkgkmbfhgiaaDoorSiteTold
import Derived.Test.YtgljkgkmbfhgiaaDoorSiteTrieRef
set_option linter.unusedVariables false
set_option linter.unusedSimpArgs false
set_option maxRecDepth 100000
namespace Go.Proofs.YtgljkgkmbfhgiaaDoor
open Go.RowKit Four Six Rec

theorem labelsL_facts {s : ByteArray} {L : List ByteArray} (h : labelsL s = some L) (hs : s.size ≤ 900) : L.length ≤ s.size + 1 ∧ (∀ x ∈ L, x.size ≤ 900) ∧ 0 < s.size := by
  have hl : s.data.toList.length = s.size := by simp
  unfold labelsL at h
  split at h
  · cases h
  · rename_i hno
    simp only [Option.some.injEq] at h
    subst h
    refine ⟨?_, ?_, ?_⟩
    · rw [List.length_reverse, List.length_map]
      have h1 := splitL_length 46 s.data.toList
      unfold partsL
      split
      · rw [List.length_dropLast]; omega
      · omega
    · intro x hx
      rw [List.mem_reverse, List.mem_map] at hx
      obtain ⟨p, hp, rfl⟩ := hx
      rw [mkB_size]
      have : p.length ≤ s.data.toList.length := by
        unfold partsL at hp
        split at hp
        · exact splitL_part 46 _ p (List.dropLast_subset _ hp)
        · exact splitL_part 46 _ p hp
      omega
    · apply Nat.pos_of_ne_zero
      intro h0
      apply hno
      have : s.data.toList = [] := List.length_eq_zero_iff.1 (by omega)
      rw [this]
      decide
def endsP (rules : List Rule) (h : HostV) (more : Nat) : Option (List UInt8) :=
  if h.kind = 2 then match labelsL h.name with
    | none => none
    | some L => if (L.length : Int) < suffixR rules L + more then none else some (lastT h.name L ((suffixR rules L).toNat + more))
  else none
def endsV : Option (List UInt8) → Value
  | none => .tuple #[.string ⟨#[]⟩, .bool false]
  | some t => .tuple #[.string (mkB t), .bool true]
theorem hostc (h : HostV) : h.cells.toArray = #[.int .i64 h.kind, .string h.name, .int .u32 h.v4, .int .u16 h.a0, .int .u16 h.a1, .int .u16 h.a2, .int .u16 h.a3, .int .u16 h.a4, .int .u16 h.a5, .int .u16 h.a6, .int .u16 h.a7] := rfl
set_option maxHeartbeats 4000000 in
theorem ends_calls {w : World} {t : Nat} {a : Addrs} {l : List Rule} {v : Int} (hT : TrieOk w t a l v) (hF : FW w) (h : HostV) (more : Nat) (hm : more ≤ 1) (hs : h.name.size ≤ 200) :
    Calls Tryd.prog 44 #[.pointer (some ⟨t, 0, none⟩), .agg h.cells.toArray, .int .i64 (more : Int)] w fun e w' => e = .returned (endsV (endsP l h more)) ∧ Below w.heap.size w w' := by
  have hmf : ∀ (fn : Fn) (first cap : Array Value) (w : World), (Instr.makeFunc fn first cap).run Tryd.prog w = .ok (.func fn first cap) w := fun _ _ _ _ => rfl
  have HT := Lib.hid hT
  have hL := fun (w' : World) (hb : Below w.heap.size w w') => labels_calls h.name (hF.keep hb) (by omega)
  have HF := Lib.hid hF
  obtain ⟨R, hR⟩ : ∃ R, R = endsP l h more := ⟨_, rfl⟩
  rw [← hR]
  unfold endsP at hR
  have HR := Lib.hid hR
  have hfacts := fun L (e : labelsL h.name = some L) => labelsL_facts e (by omega)
  clear hT hF hR
  rw [hostc]
  cases hlab : labelsL h.name with
  | none =>
    rw [hlab] at hL
    have HL := Lib.hid hL
    have hRn : R = none := by rw [HR.out, hlab]; split <;> rfl
    clear hL hfacts
    subst hRn
    have hb0 := Blk.new w 26 #[.int .i64 h.kind, .string h.name, .int .u32 h.v4, .int .u16 h.a0, .int .u16 h.a1, .int .u16 h.a2, .int .u16 h.a3, .int .u16 h.a4, .int .u16 h.a5, .int .u16 h.a6, .int .u16 h.a7]
    have hbe := (Below.refl w.heap.size w).alloc (Nat.le_refl _) (.cells #[.int .i64 h.kind, .string h.name, .int .u32 h.v4, .int .u16 h.a0, .int .u16 h.a1, .int .u16 h.a2, .int .u16 h.a3, .int .u16 h.a4, .int .u16 h.a5, .int .u16 h.a6, .int .u16 h.a7] 26)
    have HB0 := Lib.hid hb0
    have HBE := Lib.hid hbe
    clear hb0 hbe
    go_enter Tryd.func44, Tryd.ntmps44
    go_wp2_with fail
    refine (HL.out _ HBE.out).mono ?_
    rintro e w1 ⟨g, hg, rfl, -, hb1⟩
    have hk := HB0.out.keep hb1
    have hlt := hk.lt
    have x0 := hk.cell 0
    simp only [List.getElem?_toArray, List.getElem?_cons_zero, List.getElem?_cons_succ] at x0
    have HB1 := Lib.hid (belowOn HBE.out HBE.out.size hb1)
    clear hb1 hk HB0 HBE HL hg
    unfold labR
    by_cases h2 : h.kind = 2
    · rw [h2] at x0
      go_wp2_with fail
      go_ret2
      exact ⟨rfl, HB1.out.alloc (by omega) _⟩
    · have hne : (h.kind == 2) = false := by simpa using h2
      go_wp2_with fail
      go_ret2
      exact ⟨rfl, HB1.out.alloc (by omega) _⟩
  | some L =>
    rw [hlab] at hL
    have HL := Lib.hid hL
    obtain ⟨f1, f2, f3⟩ := hfacts L hlab
    have hb0 := Blk.new w 26 #[.int .i64 h.kind, .string h.name, .int .u32 h.v4, .int .u16 h.a0, .int .u16 h.a1, .int .u16 h.a2, .int .u16 h.a3, .int .u16 h.a4, .int .u16 h.a5, .int .u16 h.a6, .int .u16 h.a7]
    have hbe := (Below.refl w.heap.size w).alloc (Nat.le_refl _) (.cells #[.int .i64 h.kind, .string h.name, .int .u32 h.v4, .int .u16 h.a0, .int .u16 h.a1, .int .u16 h.a2, .int .u16 h.a3, .int .u16 h.a4, .int .u16 h.a5, .int .u16 h.a6, .int .u16 h.a7] 26)
    have HB0 := Lib.hid hb0
    have HBE := Lib.hid hbe
    have HF2 := Lib.hid f2
    clear hb0 hbe hL hfacts f2
    by_cases h2 : h.kind = 2
    · have hRs := HR.out
      rw [if_pos h2, hlab] at hRs
      dsimp only at hRs
      have hsle := suffix_le l L
      have hsz := fun (W : World) (A : Option Addr) (c : Nat) (hb : Below w.heap.size w W) (hr : RowAt strC 1 W A L) (hc : L.length ≤ c) (hm : c ≤ maxLen) (hl : L.length ≤ 900) => suffix_calls (HT.out.keep hb) A c L hr hc hm hl
      obtain ⟨n, hn⟩ : ∃ n : Nat, suffixR l L = (n : Int) := ⟨(suffixR l L).toNat, by omega⟩
      rw [hn] at hsle hRs hsz
      have HSUF := Lib.hid hsz
      have HRS := Lib.hid hRs
      clear hRs hsz hn HR
      rw [h2] at HB0
      rw [h2]
      go_enter Tryd.func44, Tryd.ntmps44
      go_wp2_with fail
      rw [h2] at HBE
      refine (HL.out _ HBE.out).mono ?_
      rintro e w1 ⟨g, hg, rfl, hrow, hb1⟩
      have hk := HB0.out.keep hb1
      have hlt := hk.lt
      have x0 := hk.cell 0
      simp only [List.getElem?_toArray, List.getElem?_cons_zero, List.getElem?_cons_succ] at x0
      have HB1 := Lib.hid (belowOn HBE.out HBE.out.size hb1)
      have HK1 := Lib.hid hk
      have HROW := Lib.hid (show RowAt strC 1 w1 (some ⟨g, 0, none⟩) L from hrow)
      clear hb1 hk HB0 HBE HL hg hrow
      unfold labR
      have HK2 := Lib.hid (HK1.out.keep ((Below.refl _ w1).alloc (Nat.le_refl _) (.cells #[.slice (some ⟨g, 0, none⟩) L.length L.length] 27)))
      have HL2 := Lib.hid (Blk.new w1 27 #[.slice (some ⟨g, 0, none⟩) L.length L.length])
      have HROW2 := Lib.hid (HROW.out.keep ((Below.refl _ w1).alloc (Nat.le_refl _) (.cells #[.slice (some ⟨g, 0, none⟩) L.length L.length] 27)))
      have HB2 := Lib.hid (HB1.out.alloc (by omega) (.cells #[.slice (some ⟨g, 0, none⟩) L.length L.length] 27))
      have hl1 : w1.heap.size < (w1.alloc (.cells #[.slice (some ⟨g, 0, none⟩) L.length L.length] 27)).heap.size := by simp
      clear HK1 HROW HB1
      go_wp2_with fail
      clear x0
      generalize w1.alloc (.cells #[.slice (some ⟨g, 0, none⟩) L.length L.length] 27) = W1 at HK2 HL2 HROW2 HB2 hl1 ⊢
      generalize w1.heap.size = p1 at HL2 hl1 hlt ⊢
      refine (HSUF.out W1 _ _ HB2.out HROW2.out (Nat.le_refl _) (by simp only [maxLen]; omega) (by omega)).mono ?_
      rintro e w2 ⟨rfl, hb2⟩
      have HB3 := Lib.hid (belowOn HB2.out HB2.out.size hb2)
      have HK3 := Lib.hid (HK2.out.keep hb2)
      have HL3 := Lib.hid (HL2.out.keep hb2)
      have HROW3 := Lib.hid (HROW2.out.keep hb2)
      have hp2 : p1 < w2.heap.size := HL3.out.lt
      have x1 := HL3.out.cell 0
      simp only [List.getElem?_toArray, List.getElem?_cons_zero, List.getElem?_cons_succ] at x1
      have hw1 : IntKind.i64.wrap ((n : Int) + (more : Int)) = ((n + more : Nat) : Int) := by rw [IntKind.wrap_i64]; omega
      clear hb2 HB2 HK2 HL2 HROW2 HSUF hl1
      have HSUM := Lib.hid (show (n : Int) + (more : Int) = ((n + more : Nat) : Int) by omega)
      by_cases hlt2 : (L.length : Int) < (n : Int) + (more : Int)
      · have hRn : R = none := by rw [HRS.out, if_pos hlt2]
        subst hRn
        go_wp2_with fail
        go_ret2
        exact ⟨rfl, HB3.out.alloc (by omega) _⟩
      · have hRn : R = some (lastT h.name L (n + more)) := by rw [HRS.out, if_neg hlt2, Int.toNat_natCast]
        subst hRn
        have HN4 := Lib.hid (Blk.new w2 3 #[.int .i64 ((n : Int) + (more : Int))])
        have HE4 := (Below.refl w2.heap.size w2).alloc (Nat.le_refl _) (.cells #[.int .i64 ((n : Int) + (more : Int))] 3)
        have HK4 := Lib.hid (HK3.out.keep HE4)
        have HL4 := Lib.hid (HL3.out.keep HE4)
        have HROW4 := Lib.hid (HROW3.out.keep HE4)
        have HB4 := Lib.hid (HB3.out.alloc (by omega) (.cells #[.int .i64 ((n : Int) + (more : Int))] 3))
        have hp4 : w2.heap.size < (w2.alloc (.cells #[.int .i64 ((n : Int) + (more : Int))] 3)).heap.size := by simp
        clear HE4 HK3 HL3 HROW3 HB3
        go_wp2_with fail
        generalize w2.alloc (.cells #[.int .i64 ((n : Int) + (more : Int))] 3) = W2 at HN4 HK4 HL4 HROW4 HB4 hp4 ⊢
        generalize w2.heap.size = p2 at HN4 hp4 hp2 ⊢
        refine (told_calls p1 p2 w.heap.size g L (n + more) h W2 HROW4.out (by omega) (by omega) (fun x hx => by have := HF2.out x hx; omega) (by have := HL4.out.cell 0; simpa using this) (by have := HN4.out.cell 0; rw [← HSUM.out]; simpa using this) (by have := HK4.out.cell 1; simpa using this) (by omega)).mono ?_
        rintro e w3 ⟨rfl, hb3⟩
        have HB5 := Lib.hid (belowOn HB4.out HB4.out.size hb3)
        clear hb3 HB4 HN4 HK4 HL4 HROW4
        go_wp2_with fail
        go_ret2
        exact ⟨rfl, HB5.out⟩
    · have hne : (h.kind == 2) = false := by simpa using h2
      have hRn : R = none := by rw [HR.out, if_neg h2]
      subst hRn
      go_enter Tryd.func44, Tryd.ntmps44
      go_wp2_with fail
      refine (HL.out _ HBE.out).mono ?_
      rintro e w1 ⟨g, hg, rfl, -, hb1⟩
      have hk := HB0.out.keep hb1
      have hlt := hk.lt
      have x0 := hk.cell 0
      simp only [List.getElem?_toArray, List.getElem?_cons_zero, List.getElem?_cons_succ] at x0
      have HB1 := Lib.hid (belowOn HBE.out HBE.out.size hb1)
      clear hb1 hk HB0 HBE HL hg
      unfold labR
      go_wp2_with fail
      go_ret2
      exact ⟨rfl, HB1.out.alloc (by omega) _⟩
end Go.Proofs.YtgljkgkmbfhgiaaDoor

set_option maxRecDepth 100000
namespace Go.Proofs.YtgljkgkmbfhgiaaDoor
open Go.RowKit Four Six Rec

theorem endsV_eq (o : Option (List UInt8)) : ∃ s b, endsV o = .tuple #[.string s, .bool b] := by
  cases o
  · exact ⟨_, _, rfl⟩
  · exact ⟨_, _, rfl⟩
set_option maxHeartbeats 1000000 in
theorem suffix17_calls {w : World} {t : Nat} {a : Addrs} {l : List Rule} {v : Int} (hT : TrieOk w t a l v) (hF : FW w) (h : HostV) (hs : h.name.size ≤ 200) :
    Calls Tryd.prog 26 #[.pointer (some ⟨t, 0, none⟩), .agg h.cells.toArray] w fun e w' => e = .returned (endsV (endsP l h 0)) ∧ Below w.heap.size w w' := by
  have H := fun (W : World) (hb : Below w.heap.size w W) => ends_calls (hT.keep hb) (hF.keep hb) h 0 (by omega) hs
  obtain ⟨s, b, hsb⟩ := endsV_eq (endsP l h 0)
  rw [hsb] at H ⊢
  rw [hostc] at H ⊢
  have HC := Lib.hid H
  clear H hT hF
  have HBE := Lib.hid ((Below.refl w.heap.size w).alloc (Nat.le_refl _) (.cells #[.int .i64 h.kind, .string h.name, .int .u32 h.v4, .int .u16 h.a0, .int .u16 h.a1, .int .u16 h.a2, .int .u16 h.a3, .int .u16 h.a4, .int .u16 h.a5, .int .u16 h.a6, .int .u16 h.a7] 26))
  go_enter Tryd.func26, Tryd.ntmps26
  go_wp2_with fail
  refine (HC.out _ HBE.out).mono ?_
  rintro e w1 ⟨rfl, hb⟩
  have HB := Lib.hid (belowOn HBE.out HBE.out.size hb)
  clear hb HC HBE
  go_wp2_with fail
  go_ret2
  exact ⟨rfl, HB.out⟩
set_option maxHeartbeats 1000000 in
theorem reg17_calls {w : World} {t : Nat} {a : Addrs} {l : List Rule} {v : Int} (hT : TrieOk w t a l v) (hF : FW w) (h : HostV) (hs : h.name.size ≤ 200) :
    Calls Tryd.prog 27 #[.pointer (some ⟨t, 0, none⟩), .agg h.cells.toArray] w fun e w' => e = .returned (endsV (endsP l h 1)) ∧ Below w.heap.size w w' := by
  have H := fun (W : World) (hb : Below w.heap.size w W) => ends_calls (hT.keep hb) (hF.keep hb) h 1 (by omega) hs
  obtain ⟨s, b, hsb⟩ := endsV_eq (endsP l h 1)
  rw [hsb] at H ⊢
  rw [hostc] at H ⊢
  have HC := Lib.hid H
  clear H hT hF
  have HBE := Lib.hid ((Below.refl w.heap.size w).alloc (Nat.le_refl _) (.cells #[.int .i64 h.kind, .string h.name, .int .u32 h.v4, .int .u16 h.a0, .int .u16 h.a1, .int .u16 h.a2, .int .u16 h.a3, .int .u16 h.a4, .int .u16 h.a5, .int .u16 h.a6, .int .u16 h.a7] 26))
  go_enter Tryd.func27, Tryd.ntmps27
  go_wp2_with fail
  refine (HC.out _ HBE.out).mono ?_
  rintro e w1 ⟨rfl, hb⟩
  have HB := Lib.hid (belowOn HBE.out HBE.out.size hb)
  clear hb HC HBE
  go_wp2_with fail
  go_ret2
  exact ⟨rfl, HB.out⟩
set_option maxHeartbeats 4000000 in
theorem refsuffix17_calls (A : Option Addr) (c : Nat) (l : List RulV) (w : World) (hr : RowAt RulV.cells 2 w A l) (hok : ∀ x ∈ l, x.ok w) (hlc : l.length ≤ c) (hcm : c ≤ maxLen) (h : HostV) (hs : h.name.size ≤ 200) :
    Calls Tryd.prog 28 #[.slice A l.length c, .agg h.cells.toArray] w fun e w' => e = .returned (endsV (endsP (l.map (·.r)) h 0)) ∧ Below w.heap.size w w' := by
  have hL := fun (w' : World) => reflabels_calls h.name (by omega) w'
  obtain ⟨R, hR⟩ : ∃ R, R = endsP (l.map (·.r)) h 0 := ⟨_, rfl⟩
  rw [← hR]
  unfold endsP at hR
  have HR := Lib.hid hR
  have hfacts := fun L (e : labelsL h.name = some L) => labelsL_facts e (by omega)
  have HROW := Lib.hid hr
  have HOK := Lib.hid hok
  clear hR hr hok
  rw [hostc]
  have HB0 := Lib.hid (Blk.new w 26 #[.int .i64 h.kind, .string h.name, .int .u32 h.v4, .int .u16 h.a0, .int .u16 h.a1, .int .u16 h.a2, .int .u16 h.a3, .int .u16 h.a4, .int .u16 h.a5, .int .u16 h.a6, .int .u16 h.a7])
  have HBE := Lib.hid ((Below.refl w.heap.size w).alloc (Nat.le_refl _) (.cells #[.int .i64 h.kind, .string h.name, .int .u32 h.v4, .int .u16 h.a0, .int .u16 h.a1, .int .u16 h.a2, .int .u16 h.a3, .int .u16 h.a4, .int .u16 h.a5, .int .u16 h.a6, .int .u16 h.a7] 26))
  cases hlab : labelsL h.name with
  | none =>
    rw [hlab] at hL
    have HL := Lib.hid hL
    have hRn : R = none := by rw [HR.out, hlab]; split <;> rfl
    clear hL hfacts HROW HOK
    subst hRn
    go_enter Tryd.func28, Tryd.ntmps28
    go_wp2_with fail
    refine (HL.out _).mono ?_
    rintro e w1 ⟨A1, c1, rfl, -, -, -, hb1⟩
    have hk := HB0.out.keep hb1
    have hlt := hk.lt
    have x0 := hk.cell 0
    simp only [List.getElem?_toArray, List.getElem?_cons_zero, List.getElem?_cons_succ] at x0
    have HB1 := Lib.hid (belowOn HBE.out HBE.out.size hb1)
    clear hb1 hk HB0 HBE HL
    unfold labP
    by_cases h2 : h.kind = 2
    · rw [h2] at x0
      go_wp2_with fail
      go_ret2
      exact ⟨rfl, HB1.out⟩
    · have hne : (h.kind == 2) = false := by simpa using h2
      go_wp2_with fail
      go_ret2
      exact ⟨rfl, HB1.out⟩
  | some L =>
    rw [hlab] at hL
    have HL := Lib.hid hL
    obtain ⟨f1, f2, f3⟩ := hfacts L hlab
    have HF2 := Lib.hid f2
    clear hL hfacts f2
    by_cases h2 : h.kind = 2
    · have hRs := HR.out
      rw [if_pos h2, hlab] at hRs
      dsimp only at hRs
      have hsle := suffix_le (l.map (·.r)) L
      have hsz := fun (W : World) (A2 : Option Addr) (c2 : Nat) (hb : Below w.heap.size w W) (hr : RowAt strC 1 W A2 L) (hc : L.length ≤ c2) (hm : c2 ≤ maxLen) => refSuffix_calls A c l A2 c2 L W (HROW.out.keep hb) (fun x hx => (HOK.out x hx).keep hb) hr hlc hcm hc hm
      obtain ⟨n, hn⟩ : ∃ n : Nat, suffixR (l.map (·.r)) L = (n : Int) := ⟨(suffixR (l.map (·.r)) L).toNat, by omega⟩
      rw [hn] at hsle hRs hsz
      have HSUF := Lib.hid hsz
      have HRS := Lib.hid hRs
      clear hRs hsz hn HR
      rw [h2] at HB0
      rw [h2]
      rw [h2] at HBE
      go_enter Tryd.func28, Tryd.ntmps28
      go_wp2_with fail
      refine (HL.out _).mono ?_
      rintro e w1 ⟨A1, c1, rfl, hrow, hc1, hm1, hb1⟩
      have hk := HB0.out.keep hb1
      have hlt := hk.lt
      have x0 := hk.cell 0
      simp only [List.getElem?_toArray, List.getElem?_cons_zero, List.getElem?_cons_succ] at x0
      have HB1 := Lib.hid (belowOn HBE.out HBE.out.size hb1)
      have HK1 := Lib.hid hk
      have HRW1 := Lib.hid (show RowAt strC 1 w1 A1 L from hrow)
      have HC1 := Lib.hid (show L.length ≤ c1 from hc1)
      have HM1 := Lib.hid hm1
      clear hb1 hk HB0 HBE HL hrow hc1 hm1
      unfold labP
      have x1 := HK1.out.cell 1
      simp only [List.getElem?_toArray, List.getElem?_cons_zero, List.getElem?_cons_succ] at x1
      have hRn : R = some (lastT h.name L n) := by rw [HRS.out, if_neg (by omega), Int.toNat_natCast]; rfl
      subst hRn
      have hbd : Below w1.heap.size w1 w1.drew := (Below.refl _ _).drew
      have HS := Lib.hid (HSUF.out w1.drew A1 c1 HB1.out.drew (HRW1.out.keep hbd) HC1.out HM1.out)
      have HLAST := Lib.hid (fun (W : World) (hb : Below w1.heap.size w1 W) => reflast_calls h.name A1 c1 L n W (HRW1.out.keep hb) HC1.out (by omega) (by omega) (fun x hx => by have := HF2.out x hx; omega) (by omega) (fun _ => f3))
      have HBD := Lib.hid hbd
      clear hbd HSUF HRW1
      go_wp2_with fail
      go_region_with (first
        | (go_at_call 46; (with_reducible refine HS.out.mono ?_); rintro e w2 ⟨rfl, hb2⟩; have HB2 := Lib.hid (belowOn HBD.out HBD.out.size hb2); have hk2 := HK1.out.keep HB2.out; have y1 := hk2.cell 1; have hlt2 := hk2.lt; simp only [List.getElem?_toArray, List.getElem?_cons_zero, List.getElem?_cons_succ] at y1; clear hb2 hk2)
        | (go_at_call 45; (with_reducible refine (HLAST.out w2 HB2.out).mono ?_); rintro e w3 ⟨rfl, hb3⟩; have HB3 := Lib.hid (belowOn HB2.out HB2.out.size hb3); clear hb3))
      all_goals (
        go_wp2_with fail
        go_ret2
        exact ⟨rfl, belowOn HB1.out HB1.out.size HB3.out⟩)
    · have hne : (h.kind == 2) = false := by simpa using h2
      have hRn : R = none := by rw [HR.out, if_neg h2]
      subst hRn
      clear HROW HOK
      go_enter Tryd.func28, Tryd.ntmps28
      go_wp2_with fail
      refine (HL.out _).mono ?_
      rintro e w1 ⟨A1, c1, rfl, -, -, -, hb1⟩
      have hk := HB0.out.keep hb1
      have hlt := hk.lt
      have x0 := hk.cell 0
      simp only [List.getElem?_toArray, List.getElem?_cons_zero, List.getElem?_cons_succ] at x0
      have HB1 := Lib.hid (belowOn HBE.out HBE.out.size hb1)
      clear hb1 hk HB0 HBE HL
      unfold labP
      go_wp2_with fail
      go_ret2
      exact ⟨rfl, HB1.out⟩
set_option maxHeartbeats 4000000 in
theorem refreg17_calls (A : Option Addr) (c : Nat) (l : List RulV) (w : World) (hr : RowAt RulV.cells 2 w A l) (hok : ∀ x ∈ l, x.ok w) (hlc : l.length ≤ c) (hcm : c ≤ maxLen) (h : HostV) (hs : h.name.size ≤ 200) :
    Calls Tryd.prog 29 #[.slice A l.length c, .agg h.cells.toArray] w fun e w' => e = .returned (endsV (endsP (l.map (·.r)) h 1)) ∧ Below w.heap.size w w' := by
  have hL := fun (w' : World) => reflabels_calls h.name (by omega) w'
  obtain ⟨R, hR⟩ : ∃ R, R = endsP (l.map (·.r)) h 1 := ⟨_, rfl⟩
  rw [← hR]
  unfold endsP at hR
  have HR := Lib.hid hR
  have hfacts := fun L (e : labelsL h.name = some L) => labelsL_facts e (by omega)
  have HROW := Lib.hid hr
  have HOK := Lib.hid hok
  clear hR hr hok
  rw [hostc]
  have HB0 := Lib.hid (Blk.new w 26 #[.int .i64 h.kind, .string h.name, .int .u32 h.v4, .int .u16 h.a0, .int .u16 h.a1, .int .u16 h.a2, .int .u16 h.a3, .int .u16 h.a4, .int .u16 h.a5, .int .u16 h.a6, .int .u16 h.a7])
  have HBE := Lib.hid ((Below.refl w.heap.size w).alloc (Nat.le_refl _) (.cells #[.int .i64 h.kind, .string h.name, .int .u32 h.v4, .int .u16 h.a0, .int .u16 h.a1, .int .u16 h.a2, .int .u16 h.a3, .int .u16 h.a4, .int .u16 h.a5, .int .u16 h.a6, .int .u16 h.a7] 26))
  cases hlab : labelsL h.name with
  | none =>
    rw [hlab] at hL
    have HL := Lib.hid hL
    have hRn : R = none := by rw [HR.out, hlab]; split <;> rfl
    clear hL hfacts HROW HOK
    subst hRn
    go_enter Tryd.func29, Tryd.ntmps29
    go_wp2_with fail
    refine (HL.out _).mono ?_
    rintro e w1 ⟨A1, c1, rfl, -, -, -, hb1⟩
    have hk := HB0.out.keep hb1
    have hlt := hk.lt
    have x0 := hk.cell 0
    simp only [List.getElem?_toArray, List.getElem?_cons_zero, List.getElem?_cons_succ] at x0
    have HB1 := Lib.hid (belowOn HBE.out HBE.out.size hb1)
    clear hb1 hk HB0 HBE HL
    unfold labP
    by_cases h2 : h.kind = 2
    · rw [h2] at x0
      go_wp2_with fail
      go_ret2
      exact ⟨rfl, HB1.out⟩
    · have hne : (h.kind == 2) = false := by simpa using h2
      go_wp2_with fail
      go_ret2
      exact ⟨rfl, HB1.out⟩
  | some L =>
    rw [hlab] at hL
    have HL := Lib.hid hL
    obtain ⟨f1, f2, f3⟩ := hfacts L hlab
    have HF2 := Lib.hid f2
    clear hL hfacts f2
    by_cases h2 : h.kind = 2
    · have hRs := HR.out
      rw [if_pos h2, hlab] at hRs
      dsimp only at hRs
      have hsle := suffix_le (l.map (·.r)) L
      have hsz := fun (W : World) (A2 : Option Addr) (c2 : Nat) (hb : Below w.heap.size w W) (hr : RowAt strC 1 W A2 L) (hc : L.length ≤ c2) (hm : c2 ≤ maxLen) => refSuffix_calls A c l A2 c2 L W (HROW.out.keep hb) (fun x hx => (HOK.out x hx).keep hb) hr hlc hcm hc hm
      obtain ⟨n, hn⟩ : ∃ n : Nat, suffixR (l.map (·.r)) L = (n : Int) := ⟨(suffixR (l.map (·.r)) L).toNat, by omega⟩
      rw [hn] at hsle hRs hsz
      have HSUF := Lib.hid hsz
      have HRS := Lib.hid hRs
      clear hRs hsz hn HR
      rw [h2] at HB0
      rw [h2]
      rw [h2] at HBE
      go_enter Tryd.func29, Tryd.ntmps29
      go_wp2_with fail
      refine (HL.out _).mono ?_
      rintro e w1 ⟨A1, c1, rfl, hrow, hc1, hm1, hb1⟩
      have hk := HB0.out.keep hb1
      have hlt := hk.lt
      have x0 := hk.cell 0
      simp only [List.getElem?_toArray, List.getElem?_cons_zero, List.getElem?_cons_succ] at x0
      have HB1 := Lib.hid (belowOn HBE.out HBE.out.size hb1)
      have HK1 := Lib.hid hk
      have HRW1 := Lib.hid (show RowAt strC 1 w1 A1 L from hrow)
      have HC1 := Lib.hid (show L.length ≤ c1 from hc1)
      have HM1 := Lib.hid hm1
      clear hb1 hk HB0 HBE HL hrow hc1 hm1
      unfold labP
      go_wp2_with fail
      refine (HSUF.out w1 _ _ HB1.out HRW1.out HC1.out HM1.out).mono ?_
      rintro e w2 ⟨rfl, hb2⟩
      have HB3 := Lib.hid (belowOn HB1.out HB1.out.size hb2)
      have hk3 := HK1.out.keep hb2
      have hlt3 := hk3.lt
      have x1 := hk3.cell 1
      simp only [List.getElem?_toArray, List.getElem?_cons_zero, List.getElem?_cons_succ] at x1
      have HRW3 := Lib.hid (HRW1.out.keep hb2)
      clear hb2 HB1 HK1 HRW1 HSUF x0 hk3
      have hw1 : IntKind.i64.wrap ((n : Int) + 1) = (n : Int) + 1 := by rw [IntKind.wrap_i64]; omega
      by_cases hle : (L.length : Int) ≤ (n : Int)
      · have hRn : R = none := by rw [HRS.out, if_pos (by omega)]
        subst hRn
        go_wp2_with fail
        go_ret2
        exact ⟨rfl, HB3.out⟩
      · have hRn : R = some (lastT h.name L (n + 1)) := by rw [HRS.out, if_neg (by omega), Int.toNat_natCast]
        subst hRn
        have HLAST := Lib.hid (reflast_calls h.name A1 c1 L (n + 1) w2 HRW3.out HC1.out (by omega) (by omega) (fun x hx => by have := HF2.out x hx; omega) (by omega) (fun _ => f3))
        go_wp2_with fail
        refine HLAST.out.mono ?_
        rintro e w3 ⟨rfl, hb3⟩
        have HB5 := Lib.hid (belowOn HB3.out HB3.out.size hb3)
        clear hb3 HB3 HLAST HRW3
        go_wp2_with fail
        go_ret2
        exact ⟨rfl, HB5.out⟩
    · have hne : (h.kind == 2) = false := by simpa using h2
      have hRn : R = none := by rw [HR.out, if_neg h2]
      subst hRn
      clear HROW HOK
      go_enter Tryd.func29, Tryd.ntmps29
      go_wp2_with fail
      refine (HL.out _).mono ?_
      rintro e w1 ⟨A1, c1, rfl, -, -, -, hb1⟩
      have hk := HB0.out.keep hb1
      have hlt := hk.lt
      have x0 := hk.cell 0
      simp only [List.getElem?_toArray, List.getElem?_cons_zero, List.getElem?_cons_succ] at x0
      have HB1 := Lib.hid (belowOn HBE.out HBE.out.size hb1)
      clear hb1 hk HB0 HBE HL
      unfold labP
      go_wp2_with fail
      go_ret2
      exact ⟨rfl, HB1.out⟩
end Go.Proofs.YtgljkgkmbfhgiaaDoor
