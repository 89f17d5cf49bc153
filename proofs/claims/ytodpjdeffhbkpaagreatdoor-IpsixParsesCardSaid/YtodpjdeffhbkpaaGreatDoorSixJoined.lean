/- ipsix: pieces as a text; the longest run of noughts. -/
import Derived.Test.YtodpjdeffhbkpaaGreatDoorSixParse
import Derived.Test.YtodpjdeffhbkpaaGreatDoorSixBack
set_option linter.unusedVariables false
set_option linter.unusedSimpArgs false
set_option maxRecDepth 100000
namespace Go.Proofs.YtodpjdeffhbkpaaGreatDoor
open Go.RowKit Four Six

def strC (l : List UInt8) : List Value := [.string (mkB l)]
theorem info_strS : (Tryz.prog.info? 9).map (fun i => (i.zero, i.size, i.bytes)) = some (some (.string ⟨#[]⟩), 1, 16) := by kernel_rfl
structure JRel (w0 : World) (l : List Nat) (k : Nat) (v : Value) (w : World) : Prop where
  own : OwnR w w0.heap.size 9 1 strC v ((l.take k).map hexL)
  be : Below w0.heap.size w0 w
theorem blk_rowS {w : World} {g : Nat} {t : TypeId} {x : List UInt8} (h : Blk w g t #[.string (mkB x)]) : RowAt strC 1 w (some ⟨g, 0, none⟩) [x] := by
  intro i y hx
  have hi : i < 1 := (List.getElem?_eq_some_iff.1 hx).1
  obtain rfl : i = 0 := by omega
  obtain rfl : x = y := by simpa using hx
  refine ⟨g, 0, rfl, fun j u hu => ?_⟩
  have hj : j < 1 := (List.getElem?_eq_some_iff.1 hu).1
  obtain rfl : j = 0 := by omega
  obtain rfl : Value.string (mkB x) = u := by simpa [strC] using hu
  rw [h.cell]
  rfl
theorem JRel.next {w0 w1 w2 w3 : World} {l : List Nat} {k n : Nat} {v v' : Value} (h : JRel w0 l k v w1) (hn : l[k]? = some n) (hb : Below w1.heap.size w1 w2) (ho : OwnR w3 w0.heap.size 9 1 strC v' ((l.take k).map hexL ++ [hexL n])) (hg : w2.grownBy w3 v.ownBlock) : JRel w0 l (k + 1) v' w3 := by
  have hown : ∀ g, v.ownBlock = some g → w0.heap.size ≤ g := fun g e => (row_blk h.own e).1
  refine ⟨?_, (belowOn h.be h.be.size hb).grown hg (Nat.le_trans h.be.size hb.size) (fun g e => hown g e)⟩
  rw [List.take_add_one, hn]
  simpa using ho
theorem rowN_below' {w w' : World} {A : Option Addr} {l : List Nat} (h : RowAt numC 1 w A l) (hb : Below w.heap.size w w') : RowAt numC 1 w' A l := by
  intro i x hx
  obtain ⟨b, off, rfl, hc⟩ := h i x hx
  refine ⟨b, off, rfl, fun j u hu => ?_⟩
  have := hc j u hu
  exact (hb.cell (p := ⟨b, off + i * 1 + j, none⟩) (World.block_lt_of_cell? w _ this)).trans this
theorem joined_small {l : List Nat} (h8 : l.length ≤ 8) (h : ∀ n ∈ l, n < 65536) : (joined l).length ≤ 40 := by
  have := (joined_len l h).1
  omega
set_option maxHeartbeats 4000000 in
theorem joined_calls (A : Option Addr) (c : Nat) (l : List Nat) (h8 : l.length ≤ 8) (hl : ∀ n ∈ l, n < 65536) {w : World} (hF : FW w) (hc : l.length ≤ c) (hr : RowAt numC 1 w A l) :
    Calls Tryz.prog 24 #[.slice A l.length c] w fun e w' => e = .returned (.string (mkB (joined l))) ∧ Below w.heap.size w w' := by
  have HR0 := Lib.hid (show JRel w l 0 (.slice none 0 0) w from ⟨OwnR.nil _ _ _ _ _, Below.refl _ _⟩)
  have HF := Lib.hid hF
  have HR := Lib.hid hr
  have HL := Lib.hid hl
  clear hF hr hl
  by_cases h0 : l = []
  · subst h0
    clear HR0
    go_enter Tryz.func24, Tryz.ntmps24
    go_wp2_with fail
    go_loopg [8, 3] 0 (fun m v8 v3 w' => v8 = .int .i64 0 ∧ v3 = .slice none 0 0 ∧ w' = w)
    case atStart => exact ⟨rfl, rfl, rfl⟩
    case round =>
      obtain ⟨rfl, rfl, rfl⟩ := hrel
      go_wp2_with fail
      refine (Tryz.strings_Join_none none 0 _ _).mono ?_
      rintro e w' ⟨rfl, rfl⟩
      go_wp2_with fail
      go_ret
      exact ⟨rfl, Below.refl _ _⟩
  · obtain ⟨n0, hn0⟩ : ∃ n, l[0]? = some n := ⟨l[0]'(List.length_pos_iff.2 h0), List.getElem?_eq_getElem _⟩
    obtain ⟨b, off, rfl, _⟩ := HR.out 0 n0 hn0
    have hp : 0 < l.length := List.length_pos_iff.2 h0
    clear hn0 h0
    go_enter Tryz.func24, Tryz.ntmps24
    go_wp2_with fail
    go_loopg [8, 3] (l.length) (fun m v8 v3 w' => Hid (∃ (k : Nat), k ≤ l.length ∧ v8 = .int .i64 k ∧ m = l.length - k ∧ JRel w l k v3 w'))
    case atStart => exact ⟨0, by omega, rfl, by omega, HR0.out⟩
    case round =>
      obtain ⟨k, hk, rfl, hm, hT⟩ := hrel.out
      clear hrel HR0
      have HM := Lib.hid hm
      have HT := Lib.hid hT
      clear hm hT
      by_cases hlt : k < l.length
      · obtain ⟨n, hn⟩ : ∃ n, l[k]? = some n := ⟨l[k]'hlt, List.getElem?_eq_getElem _⟩
        have hn6 := HL.out n (List.mem_of_getElem? hn)
        have hcell : wr.cell? ⟨b, off + k, none⟩ = some (.int .u16 n) := by
          obtain ⟨b', off', e, hc⟩ := rowN_below' HR.out HT.out.be k n hn
          cases e
          simpa using hc 0 _ rfl
        have HI := Lib.hid (formatU_calls n hn6 (HF.out.keep HT.out.be))
        have HN := Lib.hid hn
        have hw64 : IntKind.u64.wrap (n : Int) = (n : Int) := by rw [IntKind.wrap_u64]; omega
        clear hn
        go_wp2_with fail
        refine HI.out.mono ?_
        rintro e w2 ⟨rfl, hb2⟩
        have HB2 := Lib.hid hb2
        clear hb2 HI
        go_wp2_with (at_builtin; refine stop_here ?_)
        refine stop_go ?_
        refine wpList_appendR strC 1 (fun _ => rfl) (by omega) (fun x u hu => by simp [strC] at hu; subst hu; rfl) rfl (.tmp 12) (.tmp 16) _ 9 _ 16 rfl Tryz.underlying63 info_strS rfl (by omega) w.heap.size u3 _ (some ⟨w2.heap.size, 0, none⟩) 1 [hexL n] rfl rfl (HT.out.own.below (HB2.out.alloc HB2.out.size _)) (blk_rowS (Blk.new w2 _ _)) (by simp; omega) (by have := HT.out.be.size; have := HB2.out.size; simp; omega) ?_
        intro v' w5 ho hg _
        have HNX := Lib.hid (HT.out.next HN.out (HB2.out.alloc HB2.out.size _) ho hg)
        clear ho hg
        go_wp2_with fail
        go_roundg (l.length - (k + 1))
        case measure => have := HM.out; omega
        case rel => exact ⟨k + 1, by omega, by first | rfl | go_num, rfl, HNX.out⟩
      · obtain rfl : k = l.length := by omega
        have ho := HT.out.own
        rw [List.take_length] at ho
        obtain ⟨A, c', hv, hrow, hc', hcm, hA⟩ := ho.row (fun _ => rfl)
        obtain ⟨b', off', rfl, h0⟩ := hrow 0 _ (List.getElem?_eq_getElem (by simpa using hp))
        obtain ⟨_, _, rfl⟩ := hA b' off' rfl
        have e : ((l.map hexL).map mkB).map (·.data.toList) = l.map hexL := by
          rw [List.map_map]
          conv => rhs; rw [← List.map_id (l.map hexL)]
          exact List.map_congr_left fun l _ => mkB_data l
        have HJ := Lib.hid (fun (W : World) (hW : W = wr) => Tryz.strings_Join b' 0 c' ((l.map hexL).map mkB) ⟨#[58]⟩ W (fun j x hx => by
          rw [List.getElem?_map] at hx
          obtain ⟨y, hy, rfl⟩ := Option.map_eq_some_iff.1 hx
          obtain ⟨b'', off'', e, hcell⟩ := hrow j y hy
          cases e
          have := hcell 0 _ rfl
          rw [hW]
          simpa using this) (by rw [hW]; exact World.block_lt_of_cell? _ _ (h0 0 _ rfl)) (by simp; omega) (by simpa using hc') (by
            rw [e]
            have := joined_small h8 HL.out
            unfold joined at this
            have e2 : (ByteArray.mk #[58]).data.toList = [58] := rfl
            rw [e2]
            omega))
        rw [e] at HJ
        have el : ((l.map hexL).map mkB).length = l.length := by simp
        rw [el] at HJ
        have hv2 : u3 = .slice (some ⟨b', 0, none⟩) l.length c' := by rw [hv]; simp
        have HB := Lib.hid HT.out.be
        clear h0 hrow hA ho hv e el HT
        subst hv2
        go_wp2_with fail
        refine (HJ.out _ rfl).mono ?_
        rintro e w2 ⟨rfl, hb2⟩
        have HB2 := Lib.hid (belowOn HB.out HB.out.size hb2)
        clear hb2
        go_wp2_with fail
        go_ret
        exact ⟨rfl, HB2.out⟩
end Go.Proofs.YtodpjdeffhbkpaaGreatDoor
