/- ipsix: pieces between colons. -/
import Derived.Test.YtodpjdeffhbkpaaGreatDoorSixPiece
set_option linter.unusedVariables false
set_option linter.unusedSimpArgs false
set_option maxRecDepth 100000
namespace Go.Proofs.YtodpjdeffhbkpaaGreatDoor
open Go.RowKit Four Six

def numC (n : Nat) : List Value := [.int .u16 n]
theorem info_u16 : (Tryz.prog.info? 22).map (fun i => (i.zero, i.size, i.bytes)) = some (some (.int .u16 0), 1, 2) := by kernel_rfl
/-- What pieces' loop keeps. -/
structure PRel (w0 : World) (L : List (List UInt8)) (last : Bool) (k : Nat) (v : Value) (w : World) : Prop where
  acc : ∃ acc, walkL last L = (walkL last (L.drop k)).map (fun y => acc ++ y) ∧ OwnR w w0.heap.size 22 1 numC v acc ∧ acc.length ≤ 2 * k
  row : RowS w w0.heap.size L
  be : Below w0.heap.size w0 w
/-- How pieces ends. -/
def PRes (w0 w : World) (r : Option (List Nat)) (e : Ending) : Prop := match r with
  | none => e = .returned (.tuple #[.slice none 0 0, .bool false])
  | some x => ∃ v, e = .returned (.tuple #[v, .bool true]) ∧ OwnR w w0.heap.size 22 1 numC v x
theorem blk_rowN {w : World} {g : Nat} {t : TypeId} {cs : Array Value} {l : List Nat} (h : Blk w g t cs) (hc : cs.toList = l.flatMap numC) : RowAt numC 1 w (some ⟨g, 0, none⟩) l := by
  intro i x hx
  refine ⟨g, 0, rfl, fun j u hu => ?_⟩
  have hj : j < 1 := (List.getElem?_eq_some_iff.1 hu).1
  rw [h.cell, Nat.zero_add, ← Array.getElem?_toList, hc, flat_get (sz := 1) (f := numC) (fun _ => rfl) l i j x hx hj]
  exact hu
theorem PRel.next {w0 w1 w2 w3 : World} {L : List (List UInt8)} {last : Bool} {k : Nat} {v v' : Value} {acc x : List Nat} {p : List UInt8}
    (h : PRel w0 L last k v w1) (ha : walkL last L = (walkL last (L.drop k)).map (fun y => acc ++ y)) (hown : OwnR w1 w0.heap.size 22 1 numC v acc) (hac : acc.length ≤ 2 * k)
    (hp : L[k]? = some p) (hx : pieceP p (last && (L.drop (k + 1)).isEmpty) = some x) (hxl : x.length ≤ 2) (hb : Below w1.heap.size w1 w2) (ho : OwnR w3 w0.heap.size 22 1 numC v' (acc ++ x)) (hg : w2.grownBy w3 v.ownBlock) (hne : v.ownBlock ≠ some w0.heap.size) :
    PRel w0 L last (k + 1) v' w3 := by
  have hown' : ∀ g, v.ownBlock = some g → w0.heap.size ≤ g := fun g e => (row_blk hown e).1
  refine ⟨⟨acc ++ x, ?_, ho, by simp; omega⟩, ?_, (belowOn h.be h.be.size hb).grown hg (Nat.le_trans h.be.size hb.size) (fun g e => hown' g e)⟩
  · have hk := (List.getElem?_eq_some_iff.1 hp).1
    have hd : L.drop k = p :: L.drop (k + 1) := by rw [List.drop_eq_getElem_cons hk]; congr 1; exact (List.getElem?_eq_some_iff.1 hp).2
    rw [ha, hd, walkL, hx]
    simp only [Option.map_map]
    congr 1
    funext y
    simp
  · obtain ⟨cs, r1, r2⟩ := h.row
    exact ⟨cs, (r1.keep hb).grown hg (fun e => hne e.symm), r2⟩
theorem PRel.ne {w0 w : World} {L : List (List UInt8)} {last : Bool} {k : Nat} {v : Value} {acc : List Nat} (h : PRel w0 L last k v w) (hown : OwnR w w0.heap.size 22 1 numC v acc) : v.ownBlock ≠ some w0.heap.size := by
  intro e
  obtain ⟨_, cur, h2⟩ := row_blk hown e
  obtain ⟨cs, r1, _⟩ := h.row
  exact Blk.ne_ h2 r1 (by decide) rfl
theorem walkL_none {last : Bool} {L : List (List UInt8)} {k : Nat} {p : List UInt8} {acc : List Nat} (ha : walkL last L = (walkL last (L.drop k)).map (fun y => acc ++ y)) (hp : L[k]? = some p) (hx : pieceP p (last && (L.drop (k + 1)).isEmpty) = none) : walkL last L = none := by
  have hk := (List.getElem?_eq_some_iff.1 hp).1
  have hd : L.drop k = p :: L.drop (k + 1) := by rw [List.drop_eq_getElem_cons hk]; congr 1; exact (List.getElem?_eq_some_iff.1 hp).2
  rw [ha, hd, walkL, hx]
  rfl
theorem walkL_done {last : Bool} {L : List (List UInt8)} {k : Nat} {acc : List Nat} (ha : walkL last L = (walkL last (L.drop k)).map (fun y => acc ++ y)) (hk : L.length ≤ k) : walkL last L = some acc := by
  rw [ha, List.drop_eq_nil_of_le hk]
  simp [walkL]
set_option maxHeartbeats 8000000 in
theorem pieces_calls (s : ByteArray) (last : Bool) {w : World} (hF : FW w) (hs : s.size ≤ 1000) :
    Calls Tryz.prog 19 #[.string s, .bool last] w fun e w' => PRes w w' (listL s.data.toList last) e ∧ Below w.heap.size w w' := by
  by_cases h0 : s.data.toList = []
  · have hz : s.toList.isEmpty = true := by rw [ByteArray.toList_eq, h0]; rfl
    have HN := Lib.hid (show listL s.data.toList last = some [] by unfold listL; rw [if_pos h0])
    clear hF h0
    go_enter Tryz.func19, Tryz.ntmps19
    go_wp2_with fail
    go_ret2
    rw [HN.out]
    exact ⟨⟨_, rfl, OwnR.nil _ _ _ _ _⟩, Below.refl _ _⟩
  · have hz : s.toList.isEmpty = false := by rw [ByteArray.toList_eq]; simpa using h0
    have HN := Lib.hid (show listL s.data.toList last = walkL last (splitL 58 s.data.toList) by unfold listL; rw [if_neg h0])
    have HC := Lib.hid (split_calls s 58 hF (by omega))
    have hps : ∀ p ∈ splitL 58 s.data.toList, p.length ≤ 1000 := fun p hp => by have := splitL_part 58 _ p hp; have : s.data.toList.length = s.size := by simp
                                                                                omega
    have hl : (splitL 58 s.data.toList).length ≤ 1001 := by
      have := splitL_length 58 s.data.toList
      have : s.data.toList.length = s.size := by simp
      omega
    generalize listL s.data.toList last = R at HN ⊢
    generalize splitL 58 s.data.toList = L at HC HN hps hl
    have HF := Lib.hid hF
    have HP := Lib.hid hps
    clear hF hps h0
    go_enter Tryz.func19, Tryz.ntmps19
    go_wp2_with fail
    refine HC.out.mono ?_
    rintro e w1 ⟨rfl, hR, hb⟩
    have HR0 := Lib.hid (show PRel w L last 0 (.slice none 0 0) w1 from ⟨⟨[], by simp, OwnR.nil _ _ _ _ _, by simp⟩, hR, hb⟩)
    clear hR hb HC
    go_wp2_with fail
    go_loopg [20, 6] (L.length) (fun m v20 v6 w' => Hid (∃ (k : Nat), k ≤ L.length ∧ v20 = .int .i64 k ∧ m = L.length - k ∧ PRel w L last k v6 w'))
    case atStart => exact ⟨0, by omega, rfl, by omega, HR0.out⟩
    case round =>
      obtain ⟨k, hk, rfl, hm, hP⟩ := hrel.out
      clear hrel HR0
      have HM := Lib.hid hm
      have HQ := Lib.hid hP
      clear hm hP
      by_cases hkl : k < L.length
      · obtain ⟨p, hp⟩ : ∃ p, L[k]? = some p := ⟨L[k]'(by omega), List.getElem?_eq_getElem _⟩
        have hrow := HQ.out.row.cell hp
        have hpl : p.length ≤ 1000 := HP.out p (List.mem_of_getElem? hp)
        have HI := Lib.hid (quad_calls (mkB p) (HF.out.keep HQ.out.be) (by rw [mkB_size]; omega))
        have HI2 := Lib.hid (fun (W : World) => piece_calls (w := W) (mkB p) (by rw [mkB_size]; omega))
        rw [mkB_data] at HI HI2
        have HPp := Lib.hid hp
        have hem : (L.drop (k + 1)).isEmpty = decide (k + 1 = L.length) := by
          by_cases e : k + 1 = L.length
          · rw [List.drop_eq_nil_of_le (by omega)]; simp [e]
          · cases hd : L.drop (k + 1) with
            | nil => have := congrArg List.length hd; simp at this; omega
            | cons a b => simp [e]
        have HE := Lib.hid hem
        clear hem hp hpl
        go_wp2_with fail
        refine HI.out.mono ?_
        rintro e w3 ⟨hI, hb3⟩
        subst hI
        have HB3 := Lib.hid hb3
        clear hb3 HI hrow
        obtain ⟨acc, ha, hown, hac⟩ := HQ.out.acc
        have HA := Lib.hid ha
        have HO := Lib.hid hown
        clear ha hown
        rcases hq : quadL p with _ | q
        · simp only [quadR]
          have HX := Lib.hid (show pieceP p (last && (L.drop (k + 1)).isEmpty) = (pieceL p).map fun n => [n] by unfold pieceP; rw [hq])
          clear hq HE
          go_wp2_with fail
          refine (HI2.out _).mono ?_
          rintro e w4 ⟨rfl, hb4⟩
          have HB4 := Lib.hid (belowOn HB3.out HB3.out.size (belowOn ((Below.refl w3.heap.size w3).alloc (Nat.le_refl _) _) (by simp) hb4))
          clear hb4 HI2
          rcases hpc : pieceL p with _ | n
          · simp only [pieceR]
            have HX2 := Lib.hid (HX.out.trans (by rw [hpc]))
            clear hpc
            go_wp2_with fail
            go_ret2
            rw [HN.out, walkL_none HA.out HPp.out HX2.out]
            exact ⟨rfl, belowOn HQ.out.be HQ.out.be.size HB4.out⟩
          · simp only [pieceR]
            have HX2 := Lib.hid (HX.out.trans (show _ = some [n] by rw [hpc]; rfl))
            clear hpc
            go_wp2_with (at_builtin; refine stop_here ?_)
            refine stop_go ?_
            refine wpList_appendR numC 1 (fun _ => rfl) (by omega) (fun x u hu => by simp [numC] at hu; subst hu; rfl) rfl (.tmp 51) (.tmp 53) _ 22 _ 2 rfl Tryz.underlying46 info_u16 rfl (by omega) w.heap.size u6 _ (some ⟨w4.heap.size, 0, none⟩) 1 [n] rfl rfl (HO.out.below (HB4.out.alloc HB4.out.size _)) (blk_rowN (Blk.new w4 _ _) rfl) (by simp; omega) (by have := HQ.out.be.size; have := HB4.out.size; simp; omega) ?_
            intro v' w5 ho hg _
            have HNX := Lib.hid (PRel.next HQ.out HA.out HO.out hac HPp.out HX2.out (by simp) (HB4.out.alloc HB4.out.size _) ho hg (PRel.ne HQ.out HO.out))
            clear ho hg
            go_wp2_with fail
            go_roundg (L.length - (k + 1))
            case measure => have := HM.out; omega
            case rel => exact ⟨k + 1, by omega, by first | rfl | go_num, rfl, HNX.out⟩
        · simp only [quadR]
          by_cases hA : last = true ∧ k + 1 = L.length
          · obtain ⟨rfl, hkn⟩ := hA
            have HX := Lib.hid (show pieceP p (true && (L.drop (k + 1)).isEmpty) = some [q.1, q.2] by unfold pieceP; rw [hq, HE.out]; simp [hkn])
            have hi : ((k : Int) == (L.length : Int) - 1) = true := by simp; omega
            clear hq HE hkn
            go_wp2_with (at_builtin; refine stop_here ?_)
            refine stop_go ?_
            refine wpList_appendR numC 1 (fun _ => rfl) (by omega) (fun x u hu => by simp [numC] at hu; subst hu; rfl) rfl (.tmp 41) (.tmp 42) _ 22 _ 2 rfl Tryz.underlying46 info_u16 rfl (by omega) w.heap.size u6 _ (some ⟨w3.heap.size, 0, none⟩) 2 [q.1, q.2] rfl rfl (HO.out.below (HB3.out.alloc HB3.out.size _)) (blk_rowN (Blk.new w3 _ _) rfl) (by simp; omega) (by have := HQ.out.be.size; have := HB3.out.size; simp; omega) ?_
            intro v' w5 ho hg _
            have HNX := Lib.hid (PRel.next HQ.out HA.out HO.out hac HPp.out HX.out (by simp) (HB3.out.alloc HB3.out.size _) ho hg (PRel.ne HQ.out HO.out))
            clear ho hg
            go_wp2_with fail
            go_roundg (L.length - (k + 1))
            case measure => have := HM.out; omega
            case rel => exact ⟨k + 1, by omega, by first | rfl | go_num, rfl, HNX.out⟩
          · have HX := Lib.hid (show pieceP p (last && (L.drop (k + 1)).isEmpty) = (pieceL p).map fun n => [n] by
              unfold pieceP
              rw [hq, HE.out]
              simp only
              rw [if_neg (by simpa using hA)])
            rcases last with _ | _
            · clear hq HE hA
              go_wp2_with fail
              refine (HI2.out _).mono ?_
              rintro e w4 ⟨rfl, hb4⟩
              have HB4 := Lib.hid (belowOn HB3.out HB3.out.size (belowOn ((Below.refl w3.heap.size w3).alloc (Nat.le_refl _) _) (by simp) hb4))
              clear hb4 HI2
              rcases hpc : pieceL p with _ | n
              · simp only [pieceR]
                have HX2 := Lib.hid (HX.out.trans (by rw [hpc]))
                clear hpc
                go_wp2_with fail
                go_ret2
                rw [HN.out, walkL_none HA.out HPp.out HX2.out]
                exact ⟨rfl, belowOn HQ.out.be HQ.out.be.size HB4.out⟩
              · simp only [pieceR]
                have HX2 := Lib.hid (HX.out.trans (show _ = some [n] by rw [hpc]; rfl))
                clear hpc
                go_wp2_with (at_builtin; refine stop_here ?_)
                refine stop_go ?_
                refine wpList_appendR numC 1 (fun _ => rfl) (by omega) (fun x u hu => by simp [numC] at hu; subst hu; rfl) rfl (.tmp 51) (.tmp 53) _ 22 _ 2 rfl Tryz.underlying46 info_u16 rfl (by omega) w.heap.size u6 _ (some ⟨w4.heap.size, 0, none⟩) 1 [n] rfl rfl (HO.out.below (HB4.out.alloc HB4.out.size _)) (blk_rowN (Blk.new w4 _ _) rfl) (by simp; omega) (by have := HQ.out.be.size; have := HB4.out.size; simp; omega) ?_
                intro v' w5 ho hg _
                have HNX := Lib.hid (PRel.next HQ.out HA.out HO.out hac HPp.out HX2.out (by simp) (HB4.out.alloc HB4.out.size _) ho hg (PRel.ne HQ.out HO.out))
                clear ho hg
                go_wp2_with fail
                go_roundg (L.length - (k + 1))
                case measure => have := HM.out; omega
                case rel => exact ⟨k + 1, by omega, by first | rfl | go_num, rfl, HNX.out⟩
            · have hi : ((k : Int) == (L.length : Int) - 1) = false := by
                have : k + 1 ≠ L.length := fun e => hA ⟨rfl, e⟩
                simp
                omega
              clear hq HE hA
              go_wp2_with fail
              refine (HI2.out _).mono ?_
              rintro e w4 ⟨rfl, hb4⟩
              have HB4 := Lib.hid (belowOn HB3.out HB3.out.size (belowOn ((Below.refl w3.heap.size w3).alloc (Nat.le_refl _) _) (by simp) hb4))
              clear hb4 HI2
              rcases hpc : pieceL p with _ | n
              · simp only [pieceR]
                have HX2 := Lib.hid (HX.out.trans (by rw [hpc]))
                clear hpc
                go_wp2_with fail
                go_ret2
                rw [HN.out, walkL_none HA.out HPp.out HX2.out]
                exact ⟨rfl, belowOn HQ.out.be HQ.out.be.size HB4.out⟩
              · simp only [pieceR]
                have HX2 := Lib.hid (HX.out.trans (show _ = some [n] by rw [hpc]; rfl))
                clear hpc
                go_wp2_with (at_builtin; refine stop_here ?_)
                refine stop_go ?_
                refine wpList_appendR numC 1 (fun _ => rfl) (by omega) (fun x u hu => by simp [numC] at hu; subst hu; rfl) rfl (.tmp 51) (.tmp 53) _ 22 _ 2 rfl Tryz.underlying46 info_u16 rfl (by omega) w.heap.size u6 _ (some ⟨w4.heap.size, 0, none⟩) 1 [n] rfl rfl (HO.out.below (HB4.out.alloc HB4.out.size _)) (blk_rowN (Blk.new w4 _ _) rfl) (by simp; omega) (by have := HQ.out.be.size; have := HB4.out.size; simp; omega) ?_
                intro v' w5 ho hg _
                have HNX := Lib.hid (PRel.next HQ.out HA.out HO.out hac HPp.out HX2.out (by simp) (HB4.out.alloc HB4.out.size _) ho hg (PRel.ne HQ.out HO.out))
                clear ho hg
                go_wp2_with fail
                go_roundg (L.length - (k + 1))
                case measure => have := HM.out; omega
                case rel => exact ⟨k + 1, by omega, by first | rfl | go_num, rfl, HNX.out⟩
      · obtain ⟨acc, ha, hown, hac⟩ := HQ.out.acc
        have HD := Lib.hid (walkL_done ha (by omega))
        have HO := Lib.hid hown
        clear ha hown
        go_wp2_with fail
        go_ret2
        rw [HN.out, HD.out]
        exact ⟨⟨_, rfl, HO.out⟩, HQ.out.be⟩
end Go.Proofs.YtodpjdeffhbkpaaGreatDoor
