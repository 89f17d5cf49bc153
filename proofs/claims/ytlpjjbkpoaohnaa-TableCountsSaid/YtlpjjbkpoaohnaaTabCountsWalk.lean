/- TableCounts, walked. -/
import Derived.Test.YtlpjjbkpoaohnaaTabCountsPure
set_option linter.unusedVariables false
set_option linter.unusedSimpArgs false
set_option maxRecDepth 100000
namespace Go.Proofs.Ytlpjjbkpoaohnaa
open Go.RowKit Slots

theorem LSt.sub {w0 w : World} {A : TA} {t : Tb} {bx bx' : List (Nat × TypeId × Array Value)} (h : LSt w0 w A t bx) (hs : ∀ p ∈ bx', p ∈ bx) : LSt w0 w A t bx' := ⟨h.tb, h.be, h.lo, fun p hp => h.bx p (hs p hp)⟩
section
variable {ops : Array Oper} {rest : List Oper} {op : Oper} {a : Act} {w : World} {Q : Exit → Act → World → Prop}
theorem info_act : (Try.prog.info? 63).map (·.size) = some 26 := by kernel_rfl
theorem wpList_load_act {b o : Nat} {u : Array Value} (h : w.rangeAt b o u.toList) (hu : u.size = 26) (hgd : op.guard = none) (x : Operand) (ho : op.op = .load 63 x) (hx : a.eval x = .pointer (some ⟨b, o, none⟩))
    (hK : wpList Try.prog ops Q rest (a.put op.dst (.agg u)) w) : wpList Try.prog ops Q (op :: rest) a w :=
  wpList_load_mid hgd 63 x ho b o hx u.toList _ h Try.underlying63 rfl (by rw [info_act]; simp [hu]) (by simpa using hK)
end
theorem rowAt_act {w w' : World} {A : Option Addr} {l : List ActV} (h : RowAt ActV.cells 26 w A l) (hb : Below w.heap.size w w') : RowAt ActV.cells 26 w' A l := h.keep hb
def otherB : ByteArray := ⟨#[111, 116, 104, 101, 114]⟩

set_option maxHeartbeats 8000000 in
theorem counts_calls (n : Int) (hn : 0 ≤ n ∧ n ≤ 255) (k : ByteArray) (U : Array Value) (hU : UrlOk U) (hU0 : U[0]? = some (.string k)) (hU16 : U[16]? = some (.slice none 0 0)) (Al : Option Addr) (c : Nat) (l : List ActV) (st : Nat) (hst : 1 ≤ st) (hst2 : st ≤ 64) (w : World) (h : RowAt ActV.cells 26 w Al l) (hacts : ∀ a ∈ l, a.ok) (hlc : l.length ≤ c) (hcm : c ≤ maxLen) :
    Calls Try.prog 6 #[.int .u8 n, .string k, .agg U, .slice Al l.length c, .int .i64 st] w fun e w' => e = .returned (.bool true) ∧ Below w.heap.size w w' := by
  have hub := Blk.new w 31 U
  have HR := Lib.hid (fun w' (hb : Below w.heap.size w w') => h.keep hb)
  have F := Lib.hid (fun w' (hb : Below w.heap.size w w') => few_calls Al c l w' (h.keep hb) hlc hcm)
  have H0 := Lib.hid ((Below.refl w.heap.size w).alloc (Nat.le_refl _) (.cells U 31))
  have u0 := (hub.cell 0).trans hU0
  have u16 := (hub.cell 16).trans hU16
  have HUB := Lib.hid hub
  have HU := Lib.hid hU
  have HU0 := Lib.hid hU0
  have HAC := Lib.hid hacts
  clear h hub hU hU0 hU16 hacts
  cases hf : fewT l
  · rw [hf] at F
    go_enter Try.func6, Try.ntmps6
    go_wp2_with (go_at_call 17; refine (F.out _ H0.out).mono ?_; rintro e w' ⟨rfl, rfl⟩)
    go_ret
    exact ⟨rfl, H0.out⟩
  rw [hf] at F
  by_cases hk : (k.size : Int) > 60
  · go_enter Try.func6, Try.ntmps6
    go_wp2_with (go_at_call 17; refine (F.out _ H0.out).mono ?_; rintro e w' ⟨rfl, rfl⟩)
    go_ret
    exact ⟨rfl, H0.out⟩
  obtain ⟨hl30, hfit⟩ := fewT_len hf
  have HFIT := Lib.hid hfit
  have hk60 : k.size ≤ 1000000 := by omega
  clear hf hfit
  go_enter Try.func6, Try.ntmps6
  go_wp2_with (go_at_call 17; refine (F.out _ H0.out).mono ?_; rintro e w' ⟨rfl, rfl⟩)
  refine (tnew_ok 40 st 9 _ (by decide) (by decide) (by decide) hst hst2).mono ?_
  rintro e w1 ⟨⟨A, rfl, hT1, _, hlo⟩, hb1⟩
  have L1 : LSt w w1 A (newTb 40 9 st) [(w.heap.size, 31, U)] := ⟨hT1, belowOn H0.out H0.out.size hb1, fun i hi => Nat.le_trans H0.out.size (hlo i hi), fun p hp => by
    rw [List.mem_singleton] at hp
    subst hp
    exact ⟨HUB.out.keep hb1, (by decide : (31 : TypeId) ≠ 99 ∧ (31 : TypeId) ≠ 95)⟩⟩
  have L1 := Lib.hid L1
  have OK0 := Lib.hid (newTb_ok 40 st 9 (by decide) (by decide) (by decide) (by decide) hst hst2)
  clear hT1 hlo hb1 F u0 u16 H0
  as_aux_lemma =>
    go_wp2_with fail
    go_loopg [13] l.length (fun m v13 w' => Hid (∃ (i : Nat) (t : Tb) (x : Rf), v13 = .int .i64 i ∧ i ≤ l.length ∧ m = l.length - i ∧ LSt w w' A t [(w.heap.size, 31, U)] ∧ t.Ok i x ∧ t.n = st ∧ (40 : Int) - i ≤ t.s.left))
    case atStart => exact ⟨0, _, _, rfl, Nat.zero_le _, rfl, L1.out, OK0.out, rfl, by show (40 : Int) - 0 ≤ 40; omega⟩
    case round =>
      obtain ⟨i, t, x, rfl, hi, hm, L, ok, htn, hleft⟩ := hrel.out
      clear hrel L1 OK0
      have L := Lib.hid L
      have OK := Lib.hid ok
      have HM := Lib.hid hm
      clear ok hm
      by_cases hlt : i < l.length
      · obtain ⟨a, ha⟩ : ∃ a, l[i]? = some a := ⟨l[i]'hlt, List.getElem?_eq_getElem hlt⟩
        obtain ⟨b, off, rfl, hrg, _⟩ := act_at (HR.out _ L.out.be) ha
        have ham := List.mem_of_getElem? ha
        have HRG := Lib.hid (show wr.rangeAt b (off + i * 26) a.cells.toArray.toList by simpa using hrg)
        obtain ⟨g1, g2, g3⟩ := HFIT.out a ham
        have HC := Lib.hid (tdo_calls L.out.tb OK.out (by omega) a (HAC.out a ham) (by omega) a.cells.toArray (by simp))
        have HOK2 := Lib.hid (fun ad => OK.out.act (by omega) a ad (by omega))
        have hsz : a.cells.toArray.size = 26 := rfl
        clear hrg ha ham g1 g2 g3
        generalize a.cells.toArray = cs at *
        go_wp2_with (with_reducible (refine wpList_load_act HRG.out hsz rfl _ rfl rfl ?_))
        refine HC.out.mono ?_
        rintro e w2 ⟨ad, ⟨v, rfl, hv⟩, hT, hF⟩
        have L2 := Lib.hid (L.out.did hT hF)
        clear hT hF hv HC
        go_wp2_with fail
        go_roundg (l.length - (i + 1))
        case measure => have := HM.out; omega
        case rel =>
          have h1 := act_left t a ad
          exact ⟨i + 1, _, _, (by first | exact wrap_upT _ _ _ hlt hlc hcm | go_num), by omega, rfl, L2.out, by have := HOK2.out ad; simpa using this, by rw [act_n]; exact htn, by push_cast; omega⟩
      · obtain rfl : i = l.length := by omega
        have hl0 : t.s.left ≠ 0 := by omega
        have HC := Lib.hid (find_calls L.out.tb OK.out.n1 OK.out.n2 k hk60)
        go_wp2_with fail
        refine HC.out.mono ?_
        rintro e w2 ⟨rfl, hb⟩
        have L2 := Lib.hid (L.out.keep hb)
        clear hb HC L
        cases hlk : t.look k with
        | some e0 =>
          simp only [Option.map_some, Option.getD_some, Option.isSome_some]
          go_wp2_with fail
          go_ret
          exact ⟨rfl, L2.out.be.alloc L2.out.be.size _⟩
        | none =>
          simp only [Option.map_none, Option.getD_none, Option.isSome_none]
          have L3 := Lib.hid (L2.out.alloc (.cells #[.int .i64 0, .int .u64 0] 36))
          have HL := Lib.hid hlk
          have hm1 : IntKind.i64.wrap n = n := by rw [IntKind.wrap_i64]; omega
          have hm2 : Int.tmod n 9 = n % 9 := Int.tmod_eq_emod_of_nonneg hn.1
          have hm3 : IntKind.i64.wrap (1 + n % 9) = 1 + n % 9 := by rw [IntKind.wrap_i64]; omega
          obtain ⟨many, hmany⟩ : ∃ many : Nat, 1 + n % 9 = many := ⟨(1 + n % 9).toNat, by omega⟩
          have hmr : 1 ≤ many ∧ many ≤ 9 := by omega
          rw [hmany] at hm3
          have hrg := L3.out.at_ (g := w.heap.size) (T := 31) (cs := U) (by simp)
          have HRG := Lib.hid (show (w2.alloc (.cells #[.int .i64 0, .int .u64 0] 36)).rangeAt w.heap.size 0 U.toList from fun j v hv => by rw [hrg.cell]; simpa using hv)
          have hu21 := HU.out.1
          clear hlk L2 hrg
          as_aux_lemma =>
            go_wp2_with (with_reducible (refine wpList_load_url HRG.out hu21 rfl _ rfl rfl ?_))
            refine (intern_calls L3.out.tb OK.out (by omega) k hk60 U HU.out).mono ?_
            rintro e w4 ⟨ad, ⟨v4, rfl, hv⟩, hT, hF⟩
            obtain ⟨hhas, hnone⟩ := Has.new OK.out HL.out hl0 U ad
            rw [hnone] at hv
            obtain rfl : v4 = .nilIface := hv
            have OK4 := Lib.hid ((OK.out.intern (by omega) k U ad hk60).mono (show _ ≤ (31 + (1 : Nat) : Int) by omega))
            have hn4 := intern_n t k U ad
            generalize (t.intern k U ad).2.1 = p at *
            generalize (t.intern k U ad).1 = t4 at *
            rw [htn] at hn4
            have L4 := Lib.hid ((L3.out.did hT hF).box #[.int .i64 p.1, .int .u64 p.2] 36 (by decide))
            have HS := Lib.hid hhas
            clear hT hF HRG L3 OK HL hl0 hhas hnone hleft
            generalize t.internR x k = x4 at *
            go_wp2_with fail
            go_loopg [19] many (fun m v19 w' => Hid (∃ (i : Nat) (t : Tb) (x : Rf), v19 = .int .i64 i ∧ 1 ≤ i ∧ i ≤ many ∧ m + i = many + 1 ∧ LSt w w' A t [(w4.heap.size, 36, #[.int .i64 p.1, .int .u64 p.2]), (w.heap.size, 31, U)] ∧ t.Ok (31 + i) x ∧ t.n = st ∧ Has t k U p i ad))
            case atStart => exact ⟨1, t4, _, rfl, Nat.le_refl _, hmr.1, rfl, L4.out, OK4.out, hn4, HS.out⟩
            case round =>
              obtain ⟨i, t5, x5, rfl, hi1, hi, hm, L, ok, htn5, hhas⟩ := hrel.out
              clear hrel L4 OK4 HS
              have L := Lib.hid L
              have OK := Lib.hid ok
              have HM := Lib.hid hm
              have HS := Lib.hid hhas
              clear ok hm hhas
              by_cases hlt : i < many
              · have hlt' : (i : Int) < (many : Int) := by omega
                obtain ⟨hint, hhas⟩ := Has.again OK.out HS.out (urlS otherB) 0
                have HC := Lib.hid (intern_calls L.out.tb OK.out (by omega) k hk60 (urlS otherB) (urlS_ok _))
                have hint2 : ∀ a', t5.intern k (urlS otherB) a' = ({ t5 with s := (t5.s.turn p 1).1 }, p, none) := fun a' => (Has.again OK.out HS.out (urlS otherB) a').1
                have HOK2 := OK.out.intern (by omega) k (urlS otherB) 0 hk60
                rw [hint] at HOK2
                simp only [hint2] at HC
                have HOK2 := Lib.hid HOK2
                have HS2 := Lib.hid hhas
                have hn6 : ({ t5 with s := (t5.s.turn p 1).1 } : Tb).n = st := htn5
                generalize ({ t5 with s := (t5.s.turn p 1).1 } : Tb) = t6 at *
                clear hint hint2 hhas
                go_wp2_with fail
                refine HC.out.mono ?_
                rintro e w6 ⟨_, ⟨v6, rfl, hv⟩, hT, hF⟩
                obtain rfl : v6 = .nilIface := hv
                have L6 := Lib.hid ((L.out.did hT hF).alloc (.cells #[.int .i64 p.1, .int .u64 p.2] 36))
                obtain ⟨z0, z1⟩ := L6.out.handle (g := w4.heap.size) (x := .int .i64 p.1) (y := .int .u64 p.2) (by simp)
                clear hT hF HC L
                go_wp2_with fail
                go_roundg (many - i)
                case measure => have := HM.out; omega
                case rel => exact ⟨i + 1, _, _, by go_num, by omega, by omega, by omega, L6.out, HOK2.out.mono (by omega), hn6, by have := HS2.out; push_cast; exact this⟩
              · obtain rfl : i = many := by omega
                as_aux_lemma =>
                  go_wp2_with fail
                  go_loopg [22] (i + 1) (fun m v22 w' => Hid (∃ (j : Nat) (t : Tb) (x : Rf), v22 = .int .i64 j ∧ j ≤ i ∧ m + j = i + 1 ∧ LSt w w' A t [(w4.heap.size, 36, #[.int .i64 p.1, .int .u64 p.2]), (w.heap.size, 31, U)] ∧ t.Ok (50 + j) x ∧ t.n = st ∧ (j < i → Has t k U p (i - j) ad) ∧ (j = i → t.look k = none ∧ ¬ t.s.ok p)))
                  case atStart => exact ⟨0, t5, _, rfl, Nat.zero_le _, rfl, L.out, OK.out.mono (by omega), htn5, fun _ => by simpa using HS.out, fun e => by omega⟩
                  case round =>
                    obtain ⟨j, t6, x6, rfl, hj, hm6, L6, ok6, htn6, hhas, hgone⟩ := hrel.out
                    clear hrel L OK HS HM hlt
                    have L6 := Lib.hid L6
                    have OK6 := Lib.hid ok6
                    have HM6 := Lib.hid hm6
                    clear ok6 hm6
                    obtain ⟨z0, z1⟩ := L6.out.handle (g := w4.heap.size) (x := .int .i64 p.1) (y := .int .u64 p.2) (by simp)
                    by_cases hlt : j < i
                    · have hlt' : (j : Int) < (i : Int) := by omega
                      have HS := Lib.hid (hhas hlt)
                      clear hhas hgone
                      have hw1 : IntKind.i64.wrap ((i : Int) - (j : Int)) = (i : Int) - (j : Int) := by rw [IntKind.wrap_i64]; omega
                      have hw2 : wrap64 ((i : Int) - (j : Int)) = (i : Int) - (j : Int) := by unfold wrap64; omega
                      have hc := count_calls L6.out.tb OK6.out (by omega) p
                      rw [HS.out.told OK6.out, if_pos HS.out.ok] at hc
                      simp only [Option.map_some, Option.getD_some] at hc
                      have HC := Lib.hid hc
                      clear hc
                      go_wp2_with fail
                      refine HC.out.mono ?_
                      rintro e w7 ⟨⟨v7, rfl, hv⟩, hT, hF⟩
                      obtain rfl : v7 = .nilIface := hv
                      have L7 := Lib.hid (L6.out.did hT hF)
                      clear hT hF HC L6 z0 z1
                      obtain ⟨z0, z1⟩ := L7.out.handle (g := w4.heap.size) (x := .int .i64 p.1) (y := .int .u64 p.2) (by simp)
                      have hc := url_calls L7.out.tb OK6.out (by omega) p
                      rw [HS.out.told OK6.out, if_pos HS.out.ok] at hc
                      simp only [Option.map_some, Option.getD_some] at hc
                      have HC := Lib.hid hc
                      clear hc
                      go_wp2_with fail
                      refine HC.out.mono ?_
                      rintro e w8 ⟨⟨v8, rfl, hv⟩, hT, hF⟩
                      obtain rfl : v8 = .nilIface := hv
                      have L8 := Lib.hid (L7.out.did hT hF)
                      clear hT hF HC L7 z0 z1
                      have HZ := Lib.hid (Blk.new w8 31 #[.string ⟨#[]⟩, .string ⟨#[]⟩, .string ⟨#[]⟩, .int .i64 0, .string ⟨#[]⟩, .int .u32 0, .int .u16 0, .int .u16 0, .int .u16 0, .int .u16 0, .int .u16 0, .int .u16 0, .int .u16 0, .int .u16 0, .int .i64 0, .bool false, .slice none 0 0, .bool false, .string ⟨#[]⟩, .bool false, .string ⟨#[]⟩])
                      have L9 := Lib.hid (L8.out.boxSet #[.string ⟨#[]⟩, .string ⟨#[]⟩, .string ⟨#[]⟩, .int .i64 0, .string ⟨#[]⟩, .int .u32 0, .int .u16 0, .int .u16 0, .int .u16 0, .int .u16 0, .int .u16 0, .int .u16 0, .int .u16 0, .int .u16 0, .int .i64 0, .bool false, .slice none 0 0, .bool false, .string ⟨#[]⟩, .bool false, .string ⟨#[]⟩] U HU.out.1)
                      obtain ⟨z0, z1⟩ := L9.out.handle (g := w4.heap.size) (x := .int .i64 p.1) (y := .int .u64 p.2) (by simp)
                      have s0 := ((L9.out.at_ (g := w8.heap.size) (T := 31) (cs := U) (by simp)).cell 0).trans HU0.out
                      have s1 := ((L9.out.at_ (g := w.heap.size) (T := 31) (cs := U) (by simp)).cell 0).trans HU0.out
                      have HR9 := Lib.hid (release_calls L9.out.tb OK6.out (by omega) p)
                      have OK9 := Lib.hid (OK6.out.release (by omega) p)
                      have hn9 := (release_n t6 p).trans htn6
                      have hrel9 : (t6.release p).2 = none ∧ (j + 1 < i → Has (t6.release p).1 k U p ((i : Int) - (j + 1 : Nat)) ad) ∧ (j + 1 = i → (t6.release p).1.look k = none ∧ ¬ (t6.release p).1.s.ok p) := by
                        by_cases h2 : j + 1 < i
                        · obtain ⟨g1, g2⟩ := Has.less OK6.out HS.out (by omega)
                          exact ⟨g1, fun _ => by push_cast; rw [show (i : Int) - (j + 1) = i - j - 1 by omega]; exact g2, fun e => by omega⟩
                        · have hS1 := HS.out
                          rw [show (i : Int) - (j : Int) = 1 by omega] at hS1
                          obtain ⟨g1, g2⟩ := Has.last OK6.out hS1
                          exact ⟨g1, fun e => by omega, fun _ => g2⟩
                      have HREL := Lib.hid hrel9.2
                      have hn0 := hrel9.1
                      rw [hn0] at HR9
                      generalize (t6.release p).1 = t9 at *
                      clear hrel9 hn0
                      go_wp2_with (with_reducible (refine wpList_store_url HZ.out rfl HU.out rfl _ _ rfl rfl rfl ?_))
                      refine HR9.out.mono ?_
                      rintro e w10 ⟨⟨v10, rfl, hv⟩, hT, hF⟩
                      obtain rfl : v10 = .nilIface := hv
                      have L10 := Lib.hid ((L9.out.did hT hF).sub (bx' := [(w4.heap.size, 36, #[.int .i64 p.1, .int .u64 p.2]), (w.heap.size, 31, U)]) (fun p hp => List.mem_cons_of_mem _ hp))
                      clear hT hF HR9 L9 z0 z1 s0 s1
                      go_wp2_with fail
                      go_roundg (i - j)
                      case measure => have := HM6.out; omega
                      case rel => exact ⟨j + 1, t9, _, by go_num, by omega, by omega, L10.out, OK9.out.mono (by omega), hn9, HREL.out.1, HREL.out.2⟩
                    · obtain rfl : j = i := by omega
                      obtain ⟨hg1, hg2⟩ := hgone rfl
                      have hc := find_calls L6.out.tb OK6.out.n1 OK6.out.n2 k hk60
                      rw [hg1] at hc
                      have HC := Lib.hid hc
                      have hr := fun w' (hT : TbM w' A t6) => release_calls hT OK6.out (by omega) p
                      have hrel : t6.release p = (t6, some 7) := by unfold Tb.release; rw [if_neg hg2]
                      rw [hrel] at hr
                      have HR := Lib.hid hr
                      clear hc hr hrel hhas hgone hg1 hg2
                      go_wp2_with fail
                      refine HC.out.mono ?_
                      rintro e w7 ⟨rfl, hb⟩
                      have L7 := Lib.hid ((L6.out.keep hb).alloc (.cells #[.int .i64 0, .int .u64 0] 36))
                      obtain ⟨y0, y1⟩ := L7.out.handle (g := w4.heap.size) (x := .int .i64 p.1) (y := .int .u64 p.2) (by simp)
                      obtain ⟨y2, y3⟩ := (L6.out.keep hb).handle (g := w4.heap.size) (x := .int .i64 p.1) (y := .int .u64 p.2) (by simp)
                      have lt7 := ((L6.out.keep hb).at_ (g := w4.heap.size) (T := 36) (cs := #[.int .i64 p.1, .int .u64 p.2]) (by simp)).lt
                      clear hb HC L6 z0 z1
                      simp only [Option.map_none, Option.getD_none, Option.isSome_none]
                      go_wp2_with fail
                      refine (HR.out _ L7.out.tb).mono ?_
                      rintro e w8 ⟨⟨v8, rfl, hv⟩, hT, hF⟩
                      have L8 := Lib.hid (L7.out.did hT hF)
                      have HV := Lib.hid hv
                      clear hT hF hv L7 HR
                      go_wp2_with fail
                      refine (isT_calls _ _ 7 _ HV.out).mono ?_
                      rintro e w' ⟨rfl, rfl⟩
                      go_wp2_with fail
                      go_ret
                      exact ⟨rfl, L8.out.be⟩
end Go.Proofs.Ytlpjjbkpoaohnaa
