/- ipfour.Ends, ipfour.Parse. -/
import Derived.Test.YtcclghpoodbdcaaDoorFourNumberW
import Derived.Test.YtcclghpoodbdcaaDoorErr
import Derived.Test.YtcclghpoodbdcaaDoorRowI
import Derived.Outline
set_option linter.unusedVariables false
set_option linter.unusedSimpArgs false
set_option maxRecDepth 100000
namespace Go.Proofs.YtcclghpoodbdcaaDoor
open Go.RowKit Four

theorem trim_calls (s : ByteArray) (w : World) (hs : s.size ≤ 1000000) :
    Calls Tryd.prog 19 #[.string s, .string ⟨#[48, 49, 50, 51, 52, 53, 54, 55, 56, 57]⟩] w fun e w' => e = .returned (.string (mkB (Lib.trimS s.data.toList figuresL))) ∧ Below w.heap.size w w' :=
  Any.strings_Trim_laid Tryd.lays160 (by kernel_rfl) s _ w (by omega) (by decide) (ascii_of_all (by decide))
theorem mkB_empty (l : List UInt8) : (mkB l).toList.isEmpty = decide (l = []) := by
  rw [mkB_toList]
  cases l <;> simp

theorem ends_calls (s : ByteArray) {w : World} (hF : FW w) (hs : s.size ≤ 1000) :
    Calls Tryd.prog 11 #[.string s] w fun e w' => e = .returned (.bool (endsL s.data.toList)) ∧ Below w.heap.size w w' := by
  have HP := Lib.hid (parts_calls s hF (by omega))
  have hp := partsL_length s.data.toList
  have hl : s.data.toList.length = s.size := by simp
  have hat := last_at (d := []) hp.1
  have hmem := List.mem_of_getElem? hat
  have hlen := partsL_part _ _ hmem
  have HE := Lib.hid (show endsL s.data.toList = ((numL ((partsL s.data.toList).getLastD [])).isSome || (decide ((partsL s.data.toList).getLastD [] ≠ []) && ((partsL s.data.toList).getLastD []).all isFig)) from rfl)
  generalize endsL s.data.toList = R at HE ⊢
  generalize hq : partsL s.data.toList = Q at HP hp hat hlen HE
  generalize Q.getLastD [] = x at hat hlen HE
  obtain ⟨n, hn⟩ : ∃ n, Q.length = n + 1 := ⟨Q.length - 1, by omega⟩
  rw [hn] at hat HP
  rw [show n + 1 - 1 = n by omega] at hat
  have hn1 : n ≤ 1000000 := by omega
  have HN := Lib.hid (fun W => number_calls (mkB x) W (by rw [mkB_size]; omega))
  have HT := Lib.hid (fun W => trim_calls (mkB x) W (by rw [mkB_size]; omega))
  rw [mkB_data] at HN HT
  have HAT := Lib.hid hat
  clear hmem hat hlen hl hp hF hs hn hq
  go_enter Tryd.func11, Tryd.ntmps11
  go_wp2_with fail
  refine HP.out.mono ?_
  rintro e w1 ⟨⟨c, rfl, _, _⟩, hR, hb⟩
  have hcell := hR.cell HAT.out
  have HB := Lib.hid hb
  clear hR hb HP
  go_wp2_with fail
  refine (HN.out _).mono ?_
  rintro e w2 ⟨rfl, hb2⟩
  have HB2 := Lib.hid (belowOn HB.out HB.out.size hb2)
  clear hb2 hcell HN
  cases hx : numL x with
  | some m =>
    have HR := Lib.hid (show R = true by rw [HE.out, hx]; rfl)
    clear hx HE
    unfold numV
    simp only [Option.isSome_some, Option.getD_some]
    go_wp2_with fail
    go_ret
    exact ⟨by rw [HR.out]; rfl, HB2.out⟩
  | none =>
    unfold numV
    simp only [Option.isSome_none, Option.getD_none]
    by_cases h0 : x = []
    · have HR := Lib.hid (show R = false by rw [HE.out, hx, h0]; rfl)
      have hz : (mkB x).toList.isEmpty = true := by rw [mkB_empty, h0]; rfl
      clear hx HE h0
      go_wp2_with fail
      go_ret
      exact ⟨by rw [HR.out]; rfl, HB2.out⟩
    · have HR := Lib.hid (show R = decide (Lib.trimS x figuresL = []) by
        rw [HE.out, hx]
        have : decide (x ≠ []) = true := by simpa using h0
        rw [this]
        simp only [Option.isSome_none, Bool.false_or, Bool.true_and]
        rw [Bool.eq_iff_iff, decide_eq_true_iff, trim_figures])
      have hz : (mkB x).toList.isEmpty = false := by rw [mkB_empty]; simpa using h0
      have hy := mkB_empty (Lib.trimS x figuresL)
      generalize Lib.trimS x figuresL = y at HT HR hy
      rw [show decide (y = []) = R from HR.out.symm] at hy
      clear hx HE h0 HR
      go_wp2_with (go_at_call 19; refine (HT.out _).mono ?_; rintro e w3 ⟨rfl, hb3⟩; have HB3 := Lib.hid (belowOn HB2.out HB2.out.size hb3); clear hb3)
      go_ret
      exact ⟨rfl, HB3.out⟩

/-! ### ipfour.Parse -/
/-- An error of this number, or none at 0. -/
def ErrF (w : World) (c : Nat) (v : Value) : Prop := (c = 0 ∧ v = .nilIface) ∨ (c ≠ 0 ∧ ∃ l, Chain w l v c)
theorem ErrF.keep {w w' : World} {c : Nat} {v : Value} (h : ErrF w c v) (hb : Below w.heap.size w w') : ErrF w' c v := by
  rcases h with h | ⟨h1, l, h2⟩
  · exact .inl h
  · exact .inr ⟨h1, l, h2.keep hb⟩
def ipfourB : ByteArray := ⟨#[105, 112, 102, 111, 117, 114]⟩
def PEnd (w : World) (r : Nat × Nat) (e : Ending) (w' : World) : Prop := (∃ v, e = .returned (.tuple #[.int .u32 r.1, v]) ∧ ErrF w' r.2 v) ∧ Below w.heap.size w w'
theorem pend_err {w w1 : World} (c : Nat) (hc : c ≠ 0) (hb : Below w.heap.size w w1) (s : ByteArray) :
    PEnd w (0, c) (.returned (.tuple #[.int .u32 0, .iface 58 (.pointer (some ⟨w1.heap.size, 0, none⟩))])) (w1.alloc (.cells #[.string s, .iface 32 (.int .i64 c)] 60)) :=
  ⟨⟨_, rfl, .inr ⟨hc, _, .fail _ _ _ _ _ (heap_alloc_new _ _) (.num c)⟩⟩, hb.alloc hb.size _⟩
def numD (p : List UInt8) : Nat := (numL p).getD 0
/-- Round k of the parts: their numbers, so far. -/
structure PRel (w : World) (b : Nat) (Q : List (List UInt8)) (k : Nat) (v : Value) (w' : World) : Prop where
  le : k ≤ Q.length
  some_ : ∀ p ∈ Q.take k, (numL p).isSome = true
  row : RowS w' b Q
  own : OwnI w' (w.heap.size) 3 .i64 v ((Q.take k).map fun p => (numD p : Int))
  be : Below w.heap.size w w'
  hb : w.heap.size ≤ b
theorem info_int4 : (Tryd.prog.info? 3).map (fun i => (i.zero, i.size, i.bytes)) = some (some (.int .i64 0), 1, 8) := by kernel_rfl
theorem take_snoc4 {α : Type} {l : List α} {i : Nat} {x : α} (h : l[i]? = some x) : l.take (i + 1) = l.take i ++ [x] := by
  obtain ⟨hi, rfl⟩ := List.getElem?_eq_some_iff.1 h
  simp

theorem PRel.next {w w1 w2 w5 : World} {b k m : Nat} {Q : List (List UInt8)} {v v' : Value} {p : List UInt8} (h : PRel w b Q k v w1) (hp : Q[k]? = some p) (hx : numL p = some m) (hb : Below w1.heap.size w1 w2)
    (ho : OwnI w5 w.heap.size 3 .i64 v' ((Q.take k).map (fun p => (numD p : Int)) ++ [(m : Int)])) (hg : (w2.alloc (.cells #[.int .i64 m] 3)).grownBy w5 v.ownBlock) : PRel w b Q (k + 1) v' w5 := by
  have hk : Below w1.heap.size w1 (w2.alloc (.cells #[.int .i64 m] 3)) := hb.alloc hb.size _
  have hown : ∀ g, v.ownBlock = some g → w.heap.size ≤ g ∧ ∃ cur, Blk w1 g 3 cur := fun g e => h.own.blk e
  obtain ⟨hlt, _⟩ := List.getElem?_eq_some_iff.1 hp
  refine ⟨hlt, ?_, ?_, ?_, ?_, h.hb⟩
  · rw [take_snoc4 hp]
    intro q hq
    rcases List.mem_append.1 hq with hq | hq
    · exact h.some_ q hq
    · rw [List.mem_singleton.1 hq, hx]; rfl
  · obtain ⟨cs, h1, h2⟩ := h.row
    refine ⟨cs, (h1.keep hk).grown hg (fun e => ?_), h2⟩
    obtain ⟨_, cur, hc⟩ := hown _ e.symm
    exact absurd rfl (h1.ne_ hc (by decide))
  · rw [take_snoc4 hp, List.map_append]
    have : numD p = m := by unfold numD; rw [hx]; rfl
    simpa [this] using ho
  · exact (belowOn h.be h.be.size hk).grown hg (Nat.le_trans h.be.size hk.size) (fun k e => (hown k e).1)

/-- Behind the last round: where the numbers lie. -/
theorem PRel.nums {w w1 : World} {b : Nat} {Q : List (List UInt8)} {v : Value} (h : PRel w b Q Q.length v w1) (hq : 1 ≤ Q.length) :
    ∃ g cap, v = .slice (some ⟨g, 0, none⟩) Q.length cap ∧ Q.length ≤ cap ∧ (∀ (i x : Nat), (Q.map numD)[i]? = some x → w1.cell? ⟨g, i, none⟩ = some (.int .i64 x)) ∧ (∀ p ∈ Q, (numL p).isSome = true) := by
  have ho := h.own
  have hs := h.some_
  rw [List.take_length] at ho hs
  obtain ⟨A, cp, hv, hrow, hcp, hA⟩ := ho.row
  rw [List.length_map] at hv hcp
  obtain ⟨p, hp⟩ : ∃ p, Q[0]? = some p := ⟨_, List.getElem?_eq_getElem (by omega)⟩
  obtain ⟨g, off, rfl, _, _⟩ := hrow.at_ (i := 0) (y := (numD p : Int)) (by rw [List.getElem?_map, hp]; rfl)
  obtain ⟨_, _, rfl⟩ := hA g off rfl
  refine ⟨g, cp, hv, hcp, fun i x hx => ?_, hs⟩
  rw [List.getElem?_map] at hx
  obtain ⟨q, hq, rfl⟩ := Option.map_eq_some_iff.1 hx
  obtain ⟨g', off', e, _, hc⟩ := hrow.at_ (i := i) (y := (numD q : Int)) (by rw [List.getElem?_map, hq]; rfl)
  cases e
  rwa [Nat.zero_add] at hc
theorem numD_le (p : List UInt8) : numD p ≤ 1099511627776 := by
  unfold numD
  cases e : numL p with
  | none => simp
  | some m => exact numL_le p m e

theorem ret_u32 {x y : Int} {v : Value} (h : x = y) : Ending.returned (.tuple #[.int .u32 x, v]) = .returned (.tuple #[.int .u32 y, v]) := by rw [h]
theorem shl_small (x c : Nat) (hx : x ≤ 255) (hc : c ≤ 24) : Op.shift .shl .i64 (x : Int) .i64 (c : Int) = pure (.int .i64 ((x * 2 ^ c : Nat) : Int)) := by
  rw [shift_shl _ _ _ _ (by omega) (by show (c : Int) ≤ 64; omega)]
  congr 2
  have h1 : x * 2 ^ c ≤ 255 * 2 ^ 24 := Nat.mul_le_mul hx (Nat.pow_le_pow_right (by decide) hc)
  have h2 : (x : Int) * 2 ^ (c : Int).toNat = ((x * 2 ^ c : Nat) : Int) := by simp
  rw [h2, IntKind.wrap_i64]
  have h3 : (255 : Nat) * 2 ^ 24 = 4278190080 := by decide
  omega
theorem addN_step {I : List Nat} {k a x : Nat} (hx : I[k]? = some x) : addN (I.drop k) k a = if 255 < x then none else addN (I.drop (k + 1)) (k + 1) (a + x * 256 ^ (3 - k)) := by
  obtain ⟨hk, rfl⟩ := List.getElem?_eq_some_iff.1 hx
  rw [List.drop_eq_getElem_cons hk]
  rfl

set_option maxHeartbeats 4000000 in
theorem parse_calls (s : ByteArray) {w : World} (hF : FW w) (hs : s.size ≤ 1000) :
    Calls Tryd.prog 10 #[.string s] w (PEnd w (parseL s.data.toList)) := by
  have HP := Lib.hid (parts_calls s hF (by omega))
  have hp := partsL_length s.data.toList
  have hl : s.data.toList.length = s.size := by simp
  have hsz : ∀ x ∈ partsL s.data.toList, x.length ≤ 1000 := fun x hx => by have := partsL_part _ _ hx; omega
  have hpar : parseL s.data.toList = if (partsL s.data.toList).all (fun p => (numL p).isSome) = true ∧ (partsL s.data.toList).length ≤ 4 then ansN (joinN ((partsL s.data.toList).map numD)) else (0, 2) := rfl
  have hrl := parseL_lt s.data.toList
  generalize parseL s.data.toList = R at hpar hrl ⊢
  have HRL := Lib.hid hrl
  clear hrl
  generalize partsL s.data.toList = Q at HP hp hsz hpar
  have HSZ := Lib.hid hsz
  have HPAR := Lib.hid hpar
  have hq1 : Q.length ≤ 1001 := by omega
  have hq0 := hp.1
  clear hsz hpar hl hp hF hs
  go_enter Tryd.func10, Tryd.ntmps10
  go_wp2_with fail
  refine HP.out.mono ?_
  rintro e w1 ⟨⟨c, rfl, hc1, hc2⟩, hR, hb⟩
  have HR0 := Lib.hid (show PRel w w.heap.size Q 0 (.slice none 0 0) w1 from ⟨Nat.zero_le _, by simp, hR, OwnI.nil _ _ _ _, hb, Nat.le_refl _⟩)
  clear hR hb HP
  go_wp2_with fail
  generalize w.heap.size = b at HR0 ⊢
  go_loopg [18, 5] Q.length (fun m v18 v5 w' => Hid (∃ (k : Nat), v18 = .int .i64 k ∧ m = Q.length - k ∧ PRel w b Q k v5 w'))
  case atStart => exact ⟨0, rfl, rfl, HR0.out⟩
  case round =>
    obtain ⟨k, rfl, hm, hP⟩ := hrel.out
    clear hrel HR0
    have HM := Lib.hid hm
    have HPP := Lib.hid hP
    have hle := hP.le
    clear hm hP
    by_cases hlt : k < Q.length
    · obtain ⟨p, hpk⟩ : ∃ p, Q[k]? = some p := ⟨_, List.getElem?_eq_getElem hlt⟩
      have hcell := HPP.out.row.cell hpk
      have hpl := HSZ.out p (List.mem_of_getElem? hpk)
      have HN := Lib.hid (fun W => number_calls (mkB p) W (by rw [mkB_size]; omega))
      rw [mkB_data] at HN
      have HPK := Lib.hid hpk
      clear hpk
      go_wp2_with fail
      refine (HN.out _).mono ?_
      rintro e w2 ⟨rfl, hb2⟩
      cases hx : numL p with
      | none =>
        have HB2 := Lib.hid (belowOn HPP.out.be HPP.out.be.size hb2)
        have HQ := Lib.hid (show R = (0, 2) by
          rw [HPAR.out, if_neg]
          rintro ⟨h, _⟩
          have := List.all_eq_true.1 h p (List.mem_of_getElem? HPK.out)
          rw [hx] at this
          cases this)
        clear hb2 hx HN hcell
        unfold numV
        simp only [Option.isSome_none, Option.getD_none]
        go_wp2_with (go_at_call 18; refine (wrap_some _ _ _ _).mono ?_; rintro e w' ⟨rfl, rfl⟩)
        go_ret2
        rw [HQ.out]
        exact pend_err 2 (by decide) HB2.out _
      | some m =>
        have HB2 := Lib.hid hb2
        have HX := Lib.hid hx
        clear hb2 hx HN hcell
        unfold numV
        simp only [Option.isSome_some, Option.getD_some]
        go_wp2_with (at_builtin; refine stop_here ?_)
        refine stop_go ?_
        refine wpList_appendI rfl (.tmp 31) (.tmp 33) _ 3 .i64 8 rfl Tryd.underlying39 info_int4 (Nat.le_refl _) w.heap.size u5 _ (some ⟨w2.heap.size, 0, none⟩) 1 [(m : Int)] rfl rfl (HPP.out.own.below (HB2.out.alloc HB2.out.size _)) (RowI.one _ _ _ _) (by simp; omega) (by have := HPP.out.be.size; have := HB2.out.size; simp; omega) ?_
        intro v' w5 ho hg _
        have HN := Lib.hid (HPP.out.next HPK.out HX.out HB2.out ho hg)
        clear ho hg
        go_wp2_with fail
        go_roundg (Q.length - (k + 1))
        case measure => have := HM.out; omega
        case rel => exact ⟨k + 1, by simp, rfl, HN.out⟩
    · obtain rfl : k = Q.length := by omega
      obtain ⟨g, cap, hv, hcap, hcells, hall⟩ := HPP.out.nums hq0
      subst hv
      have HB := Lib.hid HPP.out.be
      have HALL := Lib.hid (show Q.all (fun p => (numL p).isSome) = true from List.all_eq_true.2 hall)
      clear HPP hall hlt
      by_cases h4 : Q.length ≤ 4
      · have HPR := Lib.hid (show R = ansN (joinN (Q.map numD)) by rw [HPAR.out, if_pos ⟨HALL.out, h4⟩])
        have hnl : (Q.map numD).length = Q.length := List.length_map ..
        have hnb : ∀ x ∈ Q.map numD, x ≤ 1099511627776 := fun x hx => by
          obtain ⟨p, _, rfl⟩ := List.mem_map.1 hx
          exact numD_le p
        generalize Q.map numD = N at HPR hnl hnb hcells
        generalize Q.length = n at hnl h4 hq0 hq1 hcap HM ⊢
        have hlast := last_at (d := 0) (show 1 ≤ N.length by omega)
        have hcl := hcells _ _ hlast
        have hab := hnb _ (List.mem_of_getElem? hlast)
        have HNB := Lib.hid (fun x (hx : x ∈ N.dropLast) => hnb x (List.dropLast_subset _ hx))
        have HCE := Lib.hid (fun (i x : Nat) (hx : N.dropLast[i]? = some x) => hcells i x (by
          obtain ⟨hi, rfl⟩ := List.getElem?_eq_some_iff.1 hx
          rw [List.length_dropLast] at hi
          rw [List.getElem_dropLast]
          exact List.getElem?_eq_getElem (by omega)))
        have hdl : N.dropLast.length = n - 1 := by rw [List.length_dropLast, hnl]
        have HJ := Lib.hid (show joinN N = if 256 ^ (5 - n) ≤ N.getLastD 0 then none else addN N.dropLast 0 (N.getLastD 0) by unfold joinN; rw [hnl])
        rw [hnl] at hcl
        generalize joinN N = J at HJ HPR
        generalize N.getLastD 0 = a0 at hcl hab HJ
        generalize N.dropLast = I at HNB HCE hdl HJ
        clear hlast hcells hnb hnl HALL HPAR HM
        obtain ⟨M, hM⟩ : ∃ M : Nat, M = 256 ^ (5 - n) := ⟨_, rfl⟩
        rw [← hM] at HJ
        have HMM := Lib.hid hM
        clear hM
        have hs1 : n = 1 → Op.shift .shl .i64 1 .i64 32 = pure (.int .i64 M) := fun e => by rw [HMM.out, e]; rfl
        have hs2 : n = 2 → Op.shift .shl .i64 1 .i64 24 = pure (.int .i64 M) := fun e => by rw [HMM.out, e]; rfl
        have hs3 : n = 3 → Op.shift .shl .i64 1 .i64 16 = pure (.int .i64 M) := fun e => by rw [HMM.out, e]; rfl
        have hs4 : n = 4 → Op.shift .shl .i64 1 .i64 8 = pure (.int .i64 M) := fun e => by rw [HMM.out, e]; rfl
        by_cases hbig : M ≤ a0
        · have hbg : decide (M ≤ a0) = true := by simpa using hbig
          have HQ := Lib.hid (show R = (0, 3) by rw [HPR.out, HJ.out, if_pos hbig]; rfl)
          clear hbig HJ
          obtain rfl | rfl | rfl | rfl : n = 1 ∨ n = 2 ∨ n = 3 ∨ n = 4 := by omega
          · have hs := hs1 rfl
            clear hs1 hs2 hs3 hs4
            simp only [Nat.reduceSub] at hdl hcl
            go_wp2_with (go_at_call 18; refine (wrap_some _ _ _ _).mono ?_; rintro e w' ⟨rfl, rfl⟩)
            go_ret2
            rw [HQ.out]
            exact pend_err 3 (by decide) HB.out _
          · have hs := hs2 rfl
            clear hs1 hs2 hs3 hs4
            simp only [Nat.reduceSub] at hdl hcl
            go_wp2_with (go_at_call 18; refine (wrap_some _ _ _ _).mono ?_; rintro e w' ⟨rfl, rfl⟩)
            go_ret2
            rw [HQ.out]
            exact pend_err 3 (by decide) HB.out _
          · have hs := hs3 rfl
            clear hs1 hs2 hs3 hs4
            simp only [Nat.reduceSub] at hdl hcl
            go_wp2_with (go_at_call 18; refine (wrap_some _ _ _ _).mono ?_; rintro e w' ⟨rfl, rfl⟩)
            go_ret2
            rw [HQ.out]
            exact pend_err 3 (by decide) HB.out _
          · have hs := hs4 rfl
            clear hs1 hs2 hs3 hs4
            simp only [Nat.reduceSub] at hdl hcl
            go_wp2_with (go_at_call 18; refine (wrap_some _ _ _ _).mono ?_; rintro e w' ⟨rfl, rfl⟩)
            go_ret2
            rw [HQ.out]
            exact pend_err 3 (by decide) HB.out _
        · have hbg : decide (M ≤ a0) = false := by simpa using hbig
          have HQ := Lib.hid (show J = addN I 0 a0 by rw [HJ.out, if_neg hbig])
          have HBG := Lib.hid hbig
          clear hbig HJ
          obtain rfl | rfl | rfl | rfl : n = 1 ∨ n = 2 ∨ n = 3 ∨ n = 4 := by omega
          · have hs := hs1 rfl
            clear hs1 hs2 hs3 hs4
            simp only [Nat.reduceSub] at hdl hcl
            go_wp2_with fail
            clear hs hbg hcl
            go_loop [60, 11] (fun v60 v11 => ∃ k a : Nat, v60 = .int .i64 k ∧ v11 = .int .i64 a ∧ k ≤ 0 ∧ addN (I.drop k) k a = J ∧ a ≤ 1099511627776 + k * 4278190080) (fun v60 _ => 0 - (intOf v60).toNat)
            case atStart => exact ⟨0, a0, rfl, rfl, by omega, by rw [List.drop_zero]; exact HQ.out.symm, by omega⟩
            case round =>
              obtain ⟨k, a, rfl, rfl, hk, hst, hba⟩ := hrel
              have HS := Lib.hid hst
              clear hst
              by_cases hkl : k < 0
              · exact absurd hkl (by omega)
              · obtain rfl : k = 0 := by omega
                have HJ2 := Lib.hid (show J = some a by rw [← HS.out, List.drop_of_length_le (by omega)]; rfl)
                have HR2 := Lib.hid (show R = (a, 0) by rw [HPR.out, HJ2.out]; rfl)
                have HLT := Lib.hid (show a < 4294967296 by have := HRL.out; rw [HR2.out] at this; exact this)
                go_wp2_with fail
                go_ret2
                rw [HR2.out]
                exact ⟨⟨_, ret_u32 (by have := HLT.out; show _ = (a : Int); omega), .inl ⟨rfl, rfl⟩⟩, HB.out⟩
          · have hs := hs2 rfl
            clear hs1 hs2 hs3 hs4
            simp only [Nat.reduceSub] at hdl hcl
            go_wp2_with fail
            clear hs hbg hcl
            go_loop [60, 11] (fun v60 v11 => ∃ k a : Nat, v60 = .int .i64 k ∧ v11 = .int .i64 a ∧ k ≤ 1 ∧ addN (I.drop k) k a = J ∧ a ≤ 1099511627776 + k * 4278190080) (fun v60 _ => 1 - (intOf v60).toNat)
            case atStart => exact ⟨0, a0, rfl, rfl, by omega, by rw [List.drop_zero]; exact HQ.out.symm, by omega⟩
            case round =>
              obtain ⟨k, a, rfl, rfl, hk, hst, hba⟩ := hrel
              have HS := Lib.hid hst
              clear hst
              by_cases hkl : k < 1
              · obtain ⟨x, hx⟩ : ∃ x, I[k]? = some x := ⟨_, List.getElem?_eq_getElem (by omega)⟩
                have hcx := HCE.out k x hx
                have hbx := HNB.out x (List.mem_of_getElem? hx)
                have HST := Lib.hid ((addN_step (a := a) hx).symm.trans HS.out)
                clear hx
                by_cases hx255 : x ≤ 255
                · obtain rfl : k = 0 := by omega
                  have HST2 := Lib.hid (show addN (I.drop (0 + 1)) (0 + 1) (a + x * 16777216) = J by rw [← HST.out, if_neg (by omega)])
                  go_wp2_with fail
                  go_round
                  case rel => exact ⟨0 + 1, a + x * 16777216, by go_num, by go_num, by omega, HST2.out, by omega⟩
                  case measure => simp [intOf]
                · have hx2 : ((x : Int) > 255) := by omega
                  have hx3 : (255 : Int) < (x : Int) := by omega
                  have HJ2 := Lib.hid (show R = (0, 3) by
                    have := HST.out
                    rw [if_pos (by omega)] at this
                    rw [HPR.out, ← this]; rfl)
                  clear hx255 HST
                  go_wp2_with (go_at_call 18; refine (wrap_some _ _ _ _).mono ?_; rintro e w' ⟨rfl, rfl⟩)
                  go_ret2
                  rw [HJ2.out]
                  exact pend_err 3 (by decide) HB.out _
              · obtain rfl : k = 1 := by omega
                have HJ2 := Lib.hid (show J = some a by rw [← HS.out, List.drop_of_length_le (by omega)]; rfl)
                have HR2 := Lib.hid (show R = (a, 0) by rw [HPR.out, HJ2.out]; rfl)
                have HLT := Lib.hid (show a < 4294967296 by have := HRL.out; rw [HR2.out] at this; exact this)
                go_wp2_with fail
                go_ret2
                rw [HR2.out]
                exact ⟨⟨_, ret_u32 (by have := HLT.out; show _ = (a : Int); omega), .inl ⟨rfl, rfl⟩⟩, HB.out⟩
          · have hs := hs3 rfl
            clear hs1 hs2 hs3 hs4
            simp only [Nat.reduceSub] at hdl hcl
            go_wp2_with fail
            clear hs hbg hcl
            go_loop [60, 11] (fun v60 v11 => ∃ k a : Nat, v60 = .int .i64 k ∧ v11 = .int .i64 a ∧ k ≤ 2 ∧ addN (I.drop k) k a = J ∧ a ≤ 1099511627776 + k * 4278190080) (fun v60 _ => 2 - (intOf v60).toNat)
            case atStart => exact ⟨0, a0, rfl, rfl, by omega, by rw [List.drop_zero]; exact HQ.out.symm, by omega⟩
            case round =>
              obtain ⟨k, a, rfl, rfl, hk, hst, hba⟩ := hrel
              have HS := Lib.hid hst
              clear hst
              by_cases hkl : k < 2
              · obtain ⟨x, hx⟩ : ∃ x, I[k]? = some x := ⟨_, List.getElem?_eq_getElem (by omega)⟩
                have hcx := HCE.out k x hx
                have hbx := HNB.out x (List.mem_of_getElem? hx)
                have HST := Lib.hid ((addN_step (a := a) hx).symm.trans HS.out)
                clear hx
                by_cases hx255 : x ≤ 255
                · obtain rfl | rfl : k = 0 ∨ k = 1 := by omega
                  · have HST2 := Lib.hid (show addN (I.drop (0 + 1)) (0 + 1) (a + x * 16777216) = J by rw [← HST.out, if_neg (by omega)])
                    go_wp2_with fail
                    go_round
                    case rel => exact ⟨0 + 1, a + x * 16777216, by go_num, by go_num, by omega, HST2.out, by omega⟩
                    case measure => simp [intOf]
                  · have HST2 := Lib.hid (show addN (I.drop (1 + 1)) (1 + 1) (a + x * 65536) = J by rw [← HST.out, if_neg (by omega)])
                    go_wp2_with fail
                    go_round
                    case rel => exact ⟨1 + 1, a + x * 65536, by go_num, by go_num, by omega, HST2.out, by omega⟩
                    case measure => simp [intOf]
                · have hx2 : ((x : Int) > 255) := by omega
                  have hx3 : (255 : Int) < (x : Int) := by omega
                  have HJ2 := Lib.hid (show R = (0, 3) by
                    have := HST.out
                    rw [if_pos (by omega)] at this
                    rw [HPR.out, ← this]; rfl)
                  clear hx255 HST
                  go_wp2_with (go_at_call 18; refine (wrap_some _ _ _ _).mono ?_; rintro e w' ⟨rfl, rfl⟩)
                  go_ret2
                  rw [HJ2.out]
                  exact pend_err 3 (by decide) HB.out _
              · obtain rfl : k = 2 := by omega
                have HJ2 := Lib.hid (show J = some a by rw [← HS.out, List.drop_of_length_le (by omega)]; rfl)
                have HR2 := Lib.hid (show R = (a, 0) by rw [HPR.out, HJ2.out]; rfl)
                have HLT := Lib.hid (show a < 4294967296 by have := HRL.out; rw [HR2.out] at this; exact this)
                go_wp2_with fail
                go_ret2
                rw [HR2.out]
                exact ⟨⟨_, ret_u32 (by have := HLT.out; show _ = (a : Int); omega), .inl ⟨rfl, rfl⟩⟩, HB.out⟩
          · have hs := hs4 rfl
            clear hs1 hs2 hs3 hs4
            simp only [Nat.reduceSub] at hdl hcl
            go_wp2_with fail
            clear hs hbg hcl
            go_loop [60, 11] (fun v60 v11 => ∃ k a : Nat, v60 = .int .i64 k ∧ v11 = .int .i64 a ∧ k ≤ 3 ∧ addN (I.drop k) k a = J ∧ a ≤ 1099511627776 + k * 4278190080) (fun v60 _ => 3 - (intOf v60).toNat)
            case atStart => exact ⟨0, a0, rfl, rfl, by omega, by rw [List.drop_zero]; exact HQ.out.symm, by omega⟩
            case round =>
              obtain ⟨k, a, rfl, rfl, hk, hst, hba⟩ := hrel
              have HS := Lib.hid hst
              clear hst
              by_cases hkl : k < 3
              · obtain ⟨x, hx⟩ : ∃ x, I[k]? = some x := ⟨_, List.getElem?_eq_getElem (by omega)⟩
                have hcx := HCE.out k x hx
                have hbx := HNB.out x (List.mem_of_getElem? hx)
                have HST := Lib.hid ((addN_step (a := a) hx).symm.trans HS.out)
                clear hx
                by_cases hx255 : x ≤ 255
                · obtain rfl | rfl | rfl : k = 0 ∨ k = 1 ∨ k = 2 := by omega
                  · have HST2 := Lib.hid (show addN (I.drop (0 + 1)) (0 + 1) (a + x * 16777216) = J by rw [← HST.out, if_neg (by omega)])
                    go_wp2_with fail
                    go_round
                    case rel => exact ⟨0 + 1, a + x * 16777216, by go_num, by go_num, by omega, HST2.out, by omega⟩
                    case measure => simp [intOf]
                  · have HST2 := Lib.hid (show addN (I.drop (1 + 1)) (1 + 1) (a + x * 65536) = J by rw [← HST.out, if_neg (by omega)])
                    go_wp2_with fail
                    go_round
                    case rel => exact ⟨1 + 1, a + x * 65536, by go_num, by go_num, by omega, HST2.out, by omega⟩
                    case measure => simp [intOf]
                  · have HST2 := Lib.hid (show addN (I.drop (2 + 1)) (2 + 1) (a + x * 256) = J by rw [← HST.out, if_neg (by omega)])
                    go_wp2_with fail
                    go_round
                    case rel => exact ⟨2 + 1, a + x * 256, by go_num, by go_num, by omega, HST2.out, by omega⟩
                    case measure => simp [intOf]
                · have hx2 : ((x : Int) > 255) := by omega
                  have hx3 : (255 : Int) < (x : Int) := by omega
                  have HJ2 := Lib.hid (show R = (0, 3) by
                    have := HST.out
                    rw [if_pos (by omega)] at this
                    rw [HPR.out, ← this]; rfl)
                  clear hx255 HST
                  go_wp2_with (go_at_call 18; refine (wrap_some _ _ _ _).mono ?_; rintro e w' ⟨rfl, rfl⟩)
                  go_ret2
                  rw [HJ2.out]
                  exact pend_err 3 (by decide) HB.out _
              · obtain rfl : k = 3 := by omega
                have HJ2 := Lib.hid (show J = some a by rw [← HS.out, List.drop_of_length_le (by omega)]; rfl)
                have HR2 := Lib.hid (show R = (a, 0) by rw [HPR.out, HJ2.out]; rfl)
                have HLT := Lib.hid (show a < 4294967296 by have := HRL.out; rw [HR2.out] at this; exact this)
                go_wp2_with fail
                go_ret2
                rw [HR2.out]
                exact ⟨⟨_, ret_u32 (by have := HLT.out; show _ = (a : Int); omega), .inl ⟨rfl, rfl⟩⟩, HB.out⟩
      · have HQ := Lib.hid (show R = (0, 2) by
          rw [HPAR.out, if_neg]
          rintro ⟨_, h⟩
          exact h4 h)
        have h4' : (4 : Int) < (Q.length : Int) := by omega
        clear h4
        go_wp2_with (go_at_call 18; refine (wrap_some _ _ _ _).mono ?_; rintro e w' ⟨rfl, rfl⟩)
        go_ret2
        rw [HQ.out]
        exact pend_err 2 (by decide) HB.out _
end Go.Proofs.YtcclghpoodbdcaaDoor
