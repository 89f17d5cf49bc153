/- The reference's text of a URL. -/
import Derived.Test.YtgljkgkmbfhgiaaDoorRecText
import Derived.Test.YtgljkgkmbfhgiaaDoorRecNumber
import Derived.Deep.DeepCutAuto
set_option linter.unusedVariables false
set_option linter.unusedSimpArgs false
set_option maxRecDepth 100000
namespace Go.Proofs.YtgljkgkmbfhgiaaDoor
open Go.RowKit Four Six Rec

theorem add_b (x y : ByteArray) (hx : x.size ≤ 5000) (hy : y.size ≤ 5000) (w : World) : (Op.stringOp .add x y).run Tryd.prog w = .ok (.string (x ++ y)) w := run_string_add_sum w _ _ (by omega)
def StopU (p : Prop) : Prop := p
theorem stop_goU {p : Prop} (h : p) : StopU p := h
theorem stopU {P : Program} {ops : Array Oper} {rest : List Oper} {a : Act} {w : World} {Q : Exit → Act → World → Prop} {a1 : Op} {a2 : TypeId} {a3 : String} {a4 : Array Edge} {a5 : Option (Nat × Bool)} (h : StopU (wpList P ops Q (⟨some 70, a1, a2, a3, a4, a5⟩ :: rest) a w)) : wpList P ops Q (⟨some 70, a1, a2, a3, a4, a5⟩ :: rest) a w := h
theorem wpList_loadrow {P : Program} {ops : Array Oper} {rest : List Oper} {a : Act} {w : World} {Q : Exit → Act → World → Prop} {N : Option Tmp} {q : Tmp} {t ty : TypeId} {pos : String} {e : Array Edge} {g : Nat} {cs : Array Value} (d : TypeDesc) (hd : (match d with | .struct _ | .array _ _ => true | _ => false) = true) (hq : a.tmps.getD q undef = .pointer (some ⟨g, 0, none⟩)) (K : Blk w g t cs) (hu : P.underlying t = some d) (hi : (P.info? t).map (·.size) = some cs.size) (h : wpList P ops Q rest (a.put N (.agg cs)) w) : wpList P ops Q (⟨N, .load t (.tmp q), ty, pos, e, none⟩ :: rest) a w := by
  unfold wpList
  rw [if_pos (show Region.wanted _ _ = true from rfl)]
  left
  unfold Oper.wp
  rw [load_row (ρ := a.eval) d hd hq K hu hi]
  exact h
/-- The text up to the path. -/
def headU (u : UrlV) : List UInt8 := u.scheme.data.toList ++ [58] ++ when (hosted u) (47 :: 47 :: authT u) ++ when (dotted u) [47, 46]
theorem empty_data {s : ByteArray} (h : s.toList.isEmpty = true) : s.data.toList = [] := by rw [← ByteArray.toList_eq]; simpa using h
set_option maxHeartbeats 16000000 in
theorem reftext12_calls (u : UrlV) (A : Option Addr) (c : Nat) (bare : Bool) (ho : u.ok) (hs : u.short) (w : World) (hr : RowAt textC 1 w A u.path) (hc : u.path.length ≤ c) :
    Calls Tryd.prog 16 #[.agg (u.cells A c).toArray, .bool bare] w fun e w' => e = .returned (.string (mkB (textU u bare))) ∧ Below w.heap.size w w' := by
  have hH := fun (W : World) => refhost_text u.h ho.h W
  have hP := fun (W : World) (hb : Below w.heap.size w W) => refpathU_calls u A c hs W (hr.keep hb) hc
  have zA := authT_len hs ho
  have zP := pathU_len hs
  have zH := hostT_len hs.name ho.h.v6
  have zs := hs.scheme
  have zu := hs.user
  have zp := hs.pass
  have zq := hs.query
  have zf := hs.frag
  have zn := ho.p1
  have hl20 := hs.len
  rw [cells_h] at hH
  rw [cells_u] at hP ⊢
  obtain ⟨cs, hcs⟩ : ∃ cs : Array Value, cs = #[.string u.scheme, .string u.user, .string u.pass, .int .i64 u.h.kind, .string u.h.name, .int .u32 u.h.v4, .int .u16 u.h.a0, .int .u16 u.h.a1, .int .u16 u.h.a2, .int .u16 u.h.a3, .int .u16 u.h.a4, .int .u16 u.h.a5, .int .u16 u.h.a6, .int .u16 u.h.a7, .int .i64 u.port, .bool u.opq, .slice A u.path.length c, .bool u.hasq, .string u.query, .bool u.hasf, .string u.frag] := ⟨_, rfl⟩
  obtain ⟨HT, hHT⟩ : ∃ T, T = mkB (hostT u.h) := ⟨_, rfl⟩
  obtain ⟨PT, hPT⟩ : ∃ T, T = mkB (pathU u) := ⟨_, rfl⟩
  have zHT : HT.size ≤ 100 := by rw [hHT, mkB_size]; exact zH
  have zPT : PT.size ≤ 1220 := by rw [hPT, mkB_size]; exact zP
  obtain ⟨S0, hS0⟩ : ∃ T, T = u.scheme ++ (⟨#[58]⟩ : ByteArray) := ⟨_, rfl⟩
  obtain ⟨S1, hS1⟩ : ∃ T, T = mkB (headU u) := ⟨_, rfl⟩
  have zS0 : S0.size ≤ 101 := by rw [hS0, ByteArray.size_append, show (⟨#[58]⟩ : ByteArray).size = 1 from rfl]; omega
  have zS1 : S1.size ≤ 600 := by
    have h3 := when_len (hosted u) (47 :: 47 :: authT u)
    have h4 := when_len (dotted u) [47, 46]
    have z1 : u.scheme.data.toList.length = u.scheme.size := by simp
    simp only [List.length_cons, List.length_nil] at h3 h4
    rw [hS1, mkB_size]
    unfold headU
    simp only [List.length_append, List.length_singleton]
    omega
  obtain ⟨S2, hS2⟩ : ∃ T, T = S1 ++ PT := ⟨_, rfl⟩
  have zS2 : S2.size ≤ 1820 := by rw [hS2, ByteArray.size_append]; omega
  obtain ⟨S3, hS3⟩ : ∃ T, T = S2 ++ mkB (when u.hasq (63 :: u.query.data.toList)) := ⟨_, rfl⟩
  have zS3 : S3.size ≤ 2000 := by
    have h := when_len u.hasq (63 :: u.query.data.toList)
    have z1 : u.query.data.toList.length = u.query.size := by simp
    simp only [List.length_cons] at h
    rw [hS3, ByteArray.size_append, mkB_size]
    omega
  obtain ⟨S4, hS4⟩ : ∃ T, T = S3 ++ mkB (when (!bare && u.hasf) (35 :: u.frag.data.toList)) := ⟨_, rfl⟩
  have HEND := Lib.hid (show S4 = mkB (textU u bare) by
    rw [hS4, hS3, hS2, hS1, hPT]
    unfold textU headU
    apply ByteArray.ext
    simp [mkB, ByteArray.data_append])
  rw [← HEND.out]
  rw [← hHT] at hH
  rw [← hPT] at hP
  have HHT := Lib.hid hHT
  have HS1 := Lib.hid hS1
  have HS0 := Lib.hid hS0
  have HS3 := Lib.hid hS3
  have HS4 := Lib.hid hS4
  have HR := Lib.hid hr
  have e0 : ∀ w, (Op.stringOp .add u.scheme ⟨#[58]⟩).run Tryd.prog w = .ok (.string S0) w := fun w => by rw [hS0]; exact add_b _ _ (by omega) (by decide) w
  have e2 : ∀ w, (Op.stringOp .add S1 PT).run Tryd.prog w = .ok (.string S2) w := fun w => by rw [hS2]; exact add_b _ _ (by omega) (by omega) w
  have hsize : cs.size = 21 := by rw [hcs]; rfl
  clear zA zP zH hs ho hr hHT hPT hS0 hS1 hS2 hS3 hS4 HEND
  obtain ⟨scheme, user, pass, ⟨k, nm, v4, a0, a1, a2, a3, a4, a5, a6, a7⟩, port, opq, path, hasq, query, hasf, frag⟩ := u
  simp only at hH hP zs zu zp zq zf zn hl20 hcs HHT HS1 HS0 HS3 HS4 HR hc e0 ⊢
  have HH := Lib.hid hH
  rw [← hcs] at hP ⊢
  have HP := Lib.hid hP
  have HCS := Lib.hid hcs
  clear hH hP hcs
  go_enter Tryd.func16, Tryd.ntmps16
  go_upto_region 1 with fail
  obtain ⟨W, hW⟩ : ∃ W, W = w.alloc (.cells cs 29) := ⟨_, rfl⟩
  have KU := Lib.hid (show Blk W w.heap.size 29 cs by rw [hW]; exact Blk.new w _ _)
  have HB := Lib.hid (show Below w.heap.size w W by rw [hW]; exact (Below.refl _ _).alloc (Nat.le_refl _) _)
  rw [← hW]
  clear hW
  have KU2 := Lib.hid (show Blk W w.heap.size 29 #[.string scheme, .string user, .string pass, .int .i64 k, .string nm, .int .u32 v4, .int .u16 a0, .int .u16 a1, .int .u16 a2, .int .u16 a3, .int .u16 a4, .int .u16 a5, .int .u16 a6, .int .u16 a7, .int .i64 port, .bool opq, .slice A path.length c, .bool hasq, .string query, .bool hasf, .string frag] by have := KU.out; rwa [HCS.out] at this)
  have c0 : W.cell? ⟨w.heap.size, 0, none⟩ = some (.string scheme) := KU2.out.cell 0
  have c1 : W.cell? ⟨w.heap.size, 1, none⟩ = some (.string user) := KU2.out.cell 1
  have c2 : W.cell? ⟨w.heap.size, 2, none⟩ = some (.string pass) := KU2.out.cell 2
  have c3 : W.cell? ⟨w.heap.size, 3, none⟩ = some (.int .i64 k) := KU2.out.cell 3
  have c4 : W.cell? ⟨w.heap.size, 4, none⟩ = some (.string nm) := KU2.out.cell 4
  have c5 : W.cell? ⟨w.heap.size, 5, none⟩ = some (.int .u32 v4) := KU2.out.cell 5
  have c6 : W.cell? ⟨w.heap.size, 6, none⟩ = some (.int .u16 a0) := KU2.out.cell 6
  have c7 : W.cell? ⟨w.heap.size, 7, none⟩ = some (.int .u16 a1) := KU2.out.cell 7
  have c8 : W.cell? ⟨w.heap.size, 8, none⟩ = some (.int .u16 a2) := KU2.out.cell 8
  have c9 : W.cell? ⟨w.heap.size, 9, none⟩ = some (.int .u16 a3) := KU2.out.cell 9
  have c10 : W.cell? ⟨w.heap.size, 10, none⟩ = some (.int .u16 a4) := KU2.out.cell 10
  have c11 : W.cell? ⟨w.heap.size, 11, none⟩ = some (.int .u16 a5) := KU2.out.cell 11
  have c12 : W.cell? ⟨w.heap.size, 12, none⟩ = some (.int .u16 a6) := KU2.out.cell 12
  have c13 : W.cell? ⟨w.heap.size, 13, none⟩ = some (.int .u16 a7) := KU2.out.cell 13
  have c14 : W.cell? ⟨w.heap.size, 14, none⟩ = some (.int .i64 port) := KU2.out.cell 14
  have c15 : W.cell? ⟨w.heap.size, 15, none⟩ = some (.bool opq) := KU2.out.cell 15
  have c16 : W.cell? ⟨w.heap.size, 16, none⟩ = some (.slice A path.length c) := KU2.out.cell 16
  have c17 : W.cell? ⟨w.heap.size, 17, none⟩ = some (.bool hasq) := KU2.out.cell 17
  have c18 : W.cell? ⟨w.heap.size, 18, none⟩ = some (.string query) := KU2.out.cell 18
  have c19 : W.cell? ⟨w.heap.size, 19, none⟩ = some (.bool hasf) := KU2.out.cell 19
  have c20 : W.cell? ⟨w.heap.size, 20, none⟩ = some (.string frag) := KU2.out.cell 20
  go_upto_if 12 with fail
  go_cut [5] from 9 to 68 (fun v5 wx => Hid (v5 = .string S1 ∧ Below w.heap.size w wx ∧ Blk wx w.heap.size 29 cs))
  case first =>
    as_aux_lemma =>
    by_cases hk : k = 0
    · have hk1 : (k != 0) = false := by simp [hk]
      rcases opq with _ | _
      · by_cases hl : 1 < path.length
        · have hl1 : (1 : Int) < (path.length : Int) := by omega
          have hl0 : (0 : Int) < (path.length : Int) := by omega
          obtain ⟨s, hs⟩ : ∃ s, path[0]? = some s := ⟨path[0], List.getElem?_eq_getElem _⟩
          have hh : path.head? = some s := by rw [List.head?_eq_getElem?]; exact hs
          obtain ⟨b, off, hAb, hcell⟩ := HR.out 0 s hs
          have h0 : w.cell? ⟨b, off, none⟩ = some (.string s) := by simpa using hcell 0 (.string s) rfl
          have hc0 : W.cell? ⟨b, off, none⟩ = some (.string s) := (HB.out.cell (p := ⟨b, off, none⟩) (World.block_lt_of_cell? w _ h0)).trans h0
          clear hcell hs h0
          cases hse : s.toList.isEmpty with
          | true =>
            obtain ⟨X1, hX1⟩ : ∃ X, X = S0 ++ (⟨#[47, 46]⟩ : ByteArray) := ⟨_, rfl⟩
            have zX1 : X1.size ≤ 103 := by rw [hX1, ByteArray.size_append]; have : ((⟨#[47, 46]⟩ : ByteArray) : ByteArray).size ≤ 2 := (by decide); omega
            have aX1 : ∀ w, (Op.stringOp .add S0 (⟨#[47, 46]⟩ : ByteArray)).run Tryd.prog w = .ok (.string X1) w := fun w => by rw [hX1]; exact add_b _ _ (by omega) (by have : ((⟨#[47, 46]⟩ : ByteArray) : ByteArray).size ≤ 2 := (by decide); omega) w
            have HE := Lib.hid (show X1 = S1 by
              rw [HS1.out, hX1, HS0.out]
              apply Plain.data_inj
              simp [mkB, ByteArray.data_append, headU, hosted, dotted, when, isEmpty, hk, hl, hh, hse])
            clear hX1 zX1 hl hh
            subst hAb
            go_wp2_with fail
            go_meet
            exact Lib.hid ⟨by first | rfl | rw [HE.out], HB.out, KU.out⟩
          | false =>
            have HE := Lib.hid (show S0 = S1 by
              rw [HS1.out, HS0.out]
              apply Plain.data_inj
              simp [mkB, ByteArray.data_append, headU, hosted, dotted, when, isEmpty, hk, hl, hh, hse])
            clear hl hh
            subst hAb
            go_wp2_with fail
            go_meet
            exact Lib.hid ⟨by first | rfl | rw [HE.out], HB.out, KU.out⟩
        · have hl1 : ¬ (1 : Int) < (path.length : Int) := by omega
          have HE := Lib.hid (show S0 = S1 by
            rw [HS1.out, HS0.out]
            apply Plain.data_inj
            simp [mkB, ByteArray.data_append, headU, hosted, dotted, when, isEmpty, hk, hl])
          clear hl
          go_wp2_with fail
          go_meet
          exact Lib.hid ⟨by first | rfl | rw [HE.out], HB.out, KU.out⟩
      · have HE := Lib.hid (show S0 = S1 by
          rw [HS1.out, HS0.out]
          apply Plain.data_inj
          simp [mkB, ByteArray.data_append, headU, hosted, dotted, when, isEmpty, hk])
        go_wp2_with fail
        go_meet
        exact Lib.hid ⟨by first | rfl | rw [HE.out], HB.out, KU.out⟩
    · have hk1 : (k != 0) = true := by simp [hk]
      cases hu : user.toList.isEmpty <;> cases hp : pass.toList.isEmpty <;> by_cases hport : (0 : Int) ≤ port
      · as_aux_lemma =>
          obtain ⟨NT, hNT⟩ : ∃ T, T = mkB (Lib.decDigits port.toNat) := ⟨_, rfl⟩
          have zNT : NT.size ≤ 20 := by rw [hNT, mkB_size]; exact (dec_len2 port.toNat 19 (by omega)).2
          have HN := Lib.hid (fun (W : World) => number_calls port.toNat (by omega) W)
          rw [← hNT, Int.toNat_of_nonneg hport] at HN
          obtain ⟨X1, hX1⟩ : ∃ X, X = S0 ++ (⟨#[47, 47]⟩ : ByteArray) := ⟨_, rfl⟩
          have zX1 : X1.size ≤ 103 := by rw [hX1, ByteArray.size_append]; have : ((⟨#[47, 47]⟩ : ByteArray) : ByteArray).size ≤ 2 := (by decide); omega
          have aX1 : ∀ w, (Op.stringOp .add S0 (⟨#[47, 47]⟩ : ByteArray)).run Tryd.prog w = .ok (.string X1) w := fun w => by rw [hX1]; exact add_b _ _ (by omega) (by have : ((⟨#[47, 47]⟩ : ByteArray) : ByteArray).size ≤ 2 := (by decide); omega) w
          obtain ⟨X2, hX2⟩ : ∃ X, X = X1 ++ user := ⟨_, rfl⟩
          have zX2 : X2.size ≤ 203 := by rw [hX2, ByteArray.size_append]; have : (user : ByteArray).size ≤ 100 := (by omega); omega
          have aX2 : ∀ w, (Op.stringOp .add X1 user).run Tryd.prog w = .ok (.string X2) w := fun w => by rw [hX2]; exact add_b _ _ (by omega) (by have : (user : ByteArray).size ≤ 100 := (by omega); omega) w
          obtain ⟨X3, hX3⟩ : ∃ X, X = X2 ++ (⟨#[58]⟩ : ByteArray) := ⟨_, rfl⟩
          have zX3 : X3.size ≤ 204 := by rw [hX3, ByteArray.size_append]; have : ((⟨#[58]⟩ : ByteArray) : ByteArray).size ≤ 1 := (by decide); omega
          have aX3 : ∀ w, (Op.stringOp .add X2 (⟨#[58]⟩ : ByteArray)).run Tryd.prog w = .ok (.string X3) w := fun w => by rw [hX3]; exact add_b _ _ (by omega) (by have : ((⟨#[58]⟩ : ByteArray) : ByteArray).size ≤ 1 := (by decide); omega) w
          obtain ⟨X4, hX4⟩ : ∃ X, X = X3 ++ pass := ⟨_, rfl⟩
          have zX4 : X4.size ≤ 304 := by rw [hX4, ByteArray.size_append]; have : (pass : ByteArray).size ≤ 100 := (by omega); omega
          have aX4 : ∀ w, (Op.stringOp .add X3 pass).run Tryd.prog w = .ok (.string X4) w := fun w => by rw [hX4]; exact add_b _ _ (by omega) (by have : (pass : ByteArray).size ≤ 100 := (by omega); omega) w
          obtain ⟨X5, hX5⟩ : ∃ X, X = X4 ++ (⟨#[64]⟩ : ByteArray) := ⟨_, rfl⟩
          have zX5 : X5.size ≤ 305 := by rw [hX5, ByteArray.size_append]; have : ((⟨#[64]⟩ : ByteArray) : ByteArray).size ≤ 1 := (by decide); omega
          have aX5 : ∀ w, (Op.stringOp .add X4 (⟨#[64]⟩ : ByteArray)).run Tryd.prog w = .ok (.string X5) w := fun w => by rw [hX5]; exact add_b _ _ (by omega) (by have : ((⟨#[64]⟩ : ByteArray) : ByteArray).size ≤ 1 := (by decide); omega) w
          obtain ⟨X6, hX6⟩ : ∃ X, X = X5 ++ HT := ⟨_, rfl⟩
          have zX6 : X6.size ≤ 405 := by rw [hX6, ByteArray.size_append]; have : (HT : ByteArray).size ≤ 100 := (by omega); omega
          have aX6 : ∀ w, (Op.stringOp .add X5 HT).run Tryd.prog w = .ok (.string X6) w := fun w => by rw [hX6]; exact add_b _ _ (by omega) (by have : (HT : ByteArray).size ≤ 100 := (by omega); omega) w
          obtain ⟨X7, hX7⟩ : ∃ X, X = X6 ++ (⟨#[58]⟩ : ByteArray) := ⟨_, rfl⟩
          have zX7 : X7.size ≤ 406 := by rw [hX7, ByteArray.size_append]; have : ((⟨#[58]⟩ : ByteArray) : ByteArray).size ≤ 1 := (by decide); omega
          have aX7 : ∀ w, (Op.stringOp .add X6 (⟨#[58]⟩ : ByteArray)).run Tryd.prog w = .ok (.string X7) w := fun w => by rw [hX7]; exact add_b _ _ (by omega) (by have : ((⟨#[58]⟩ : ByteArray) : ByteArray).size ≤ 1 := (by decide); omega) w
          obtain ⟨X8, hX8⟩ : ∃ X, X = X7 ++ NT := ⟨_, rfl⟩
          have zX8 : X8.size ≤ 426 := by rw [hX8, ByteArray.size_append]; have : (NT : ByteArray).size ≤ 20 := (zNT); omega
          have aX8 : ∀ w, (Op.stringOp .add X7 NT).run Tryd.prog w = .ok (.string X8) w := fun w => by rw [hX8]; exact add_b _ _ (by omega) (by have : (NT : ByteArray).size ≤ 20 := (zNT); omega) w
          have HE := Lib.hid (show X8 = S1 by
            rw [HS1.out, hX8, hX7, hX6, hX5, hX4, hX3, hX2, hX1, HS0.out, HHT.out, hNT]
            apply Plain.data_inj
            simp [mkB, ByteArray.data_append, headU, hosted, dotted, when, isEmpty, authT, numT, hk, hu, hp, hport, itoa_pos hport])
          clear hX1 hX2 hX3 hX4 hX5 hX6 hX7 hX8 zX1 zX2 zX3 zX4 zX5 zX6 zX7 zX8 hNT zNT
          have hd9 : decide (0 ≤ port) = true := by simp [hport]
          go_wp2_with fail
          refine (HH.out W).mono ?_
          rintro e w1 ⟨rfl, hb⟩
          have K1 := Lib.hid (KU2.out.keep hb)
          have KC1 := Lib.hid (KU.out.keep hb)
          have B1 := Lib.hid (belowOn HB.out HB.out.size hb)
          have x14 : w1.cell? ⟨w.heap.size, 14, none⟩ = some (.int .i64 port) := K1.out.cell 14
          clear hb c0 c1 c2 c3 c4 c5 c6 c7 c8 c9 c10 c11 c12 c13 c14 c15 c16 c17 c18 c19 c20
          go_wp2_with fail
          refine (HN.out w1).mono ?_
          rintro e w2 ⟨rfl, hb⟩
          have KC2 := Lib.hid (KC1.out.keep hb)
          have B2 := Lib.hid (belowOn B1.out B1.out.size hb)
          clear hb x14
          go_wp2_with fail
          go_meet
          exact Lib.hid ⟨by first | rfl | rw [HE.out], B2.out, KC2.out⟩
      · as_aux_lemma =>
          obtain ⟨X1, hX1⟩ : ∃ X, X = S0 ++ (⟨#[47, 47]⟩ : ByteArray) := ⟨_, rfl⟩
          have zX1 : X1.size ≤ 103 := by rw [hX1, ByteArray.size_append]; have : ((⟨#[47, 47]⟩ : ByteArray) : ByteArray).size ≤ 2 := (by decide); omega
          have aX1 : ∀ w, (Op.stringOp .add S0 (⟨#[47, 47]⟩ : ByteArray)).run Tryd.prog w = .ok (.string X1) w := fun w => by rw [hX1]; exact add_b _ _ (by omega) (by have : ((⟨#[47, 47]⟩ : ByteArray) : ByteArray).size ≤ 2 := (by decide); omega) w
          obtain ⟨X2, hX2⟩ : ∃ X, X = X1 ++ user := ⟨_, rfl⟩
          have zX2 : X2.size ≤ 203 := by rw [hX2, ByteArray.size_append]; have : (user : ByteArray).size ≤ 100 := (by omega); omega
          have aX2 : ∀ w, (Op.stringOp .add X1 user).run Tryd.prog w = .ok (.string X2) w := fun w => by rw [hX2]; exact add_b _ _ (by omega) (by have : (user : ByteArray).size ≤ 100 := (by omega); omega) w
          obtain ⟨X3, hX3⟩ : ∃ X, X = X2 ++ (⟨#[58]⟩ : ByteArray) := ⟨_, rfl⟩
          have zX3 : X3.size ≤ 204 := by rw [hX3, ByteArray.size_append]; have : ((⟨#[58]⟩ : ByteArray) : ByteArray).size ≤ 1 := (by decide); omega
          have aX3 : ∀ w, (Op.stringOp .add X2 (⟨#[58]⟩ : ByteArray)).run Tryd.prog w = .ok (.string X3) w := fun w => by rw [hX3]; exact add_b _ _ (by omega) (by have : ((⟨#[58]⟩ : ByteArray) : ByteArray).size ≤ 1 := (by decide); omega) w
          obtain ⟨X4, hX4⟩ : ∃ X, X = X3 ++ pass := ⟨_, rfl⟩
          have zX4 : X4.size ≤ 304 := by rw [hX4, ByteArray.size_append]; have : (pass : ByteArray).size ≤ 100 := (by omega); omega
          have aX4 : ∀ w, (Op.stringOp .add X3 pass).run Tryd.prog w = .ok (.string X4) w := fun w => by rw [hX4]; exact add_b _ _ (by omega) (by have : (pass : ByteArray).size ≤ 100 := (by omega); omega) w
          obtain ⟨X5, hX5⟩ : ∃ X, X = X4 ++ (⟨#[64]⟩ : ByteArray) := ⟨_, rfl⟩
          have zX5 : X5.size ≤ 305 := by rw [hX5, ByteArray.size_append]; have : ((⟨#[64]⟩ : ByteArray) : ByteArray).size ≤ 1 := (by decide); omega
          have aX5 : ∀ w, (Op.stringOp .add X4 (⟨#[64]⟩ : ByteArray)).run Tryd.prog w = .ok (.string X5) w := fun w => by rw [hX5]; exact add_b _ _ (by omega) (by have : ((⟨#[64]⟩ : ByteArray) : ByteArray).size ≤ 1 := (by decide); omega) w
          obtain ⟨X6, hX6⟩ : ∃ X, X = X5 ++ HT := ⟨_, rfl⟩
          have zX6 : X6.size ≤ 405 := by rw [hX6, ByteArray.size_append]; have : (HT : ByteArray).size ≤ 100 := (by omega); omega
          have aX6 : ∀ w, (Op.stringOp .add X5 HT).run Tryd.prog w = .ok (.string X6) w := fun w => by rw [hX6]; exact add_b _ _ (by omega) (by have : (HT : ByteArray).size ≤ 100 := (by omega); omega) w
          have HE := Lib.hid (show X6 = S1 by
            rw [HS1.out, hX6, hX5, hX4, hX3, hX2, hX1, HS0.out, HHT.out]
            apply Plain.data_inj
            simp [mkB, ByteArray.data_append, headU, hosted, dotted, when, isEmpty, authT, numT, hk, hu, hp, hport])
          clear hX1 hX2 hX3 hX4 hX5 hX6 zX1 zX2 zX3 zX4 zX5 zX6
          have hd9 : decide (0 ≤ port) = false := by simp [hport]
          go_wp2_with fail
          refine (HH.out W).mono ?_
          rintro e w1 ⟨rfl, hb⟩
          have K1 := Lib.hid (KU2.out.keep hb)
          have KC1 := Lib.hid (KU.out.keep hb)
          have B1 := Lib.hid (belowOn HB.out HB.out.size hb)
          have x14 : w1.cell? ⟨w.heap.size, 14, none⟩ = some (.int .i64 port) := K1.out.cell 14
          clear hb c0 c1 c2 c3 c4 c5 c6 c7 c8 c9 c10 c11 c12 c13 c14 c15 c16 c17 c18 c19 c20
          go_wp2_with fail
          go_meet
          exact Lib.hid ⟨by first | rfl | rw [HE.out], B1.out, KC1.out⟩
      · as_aux_lemma =>
          obtain ⟨NT, hNT⟩ : ∃ T, T = mkB (Lib.decDigits port.toNat) := ⟨_, rfl⟩
          have zNT : NT.size ≤ 20 := by rw [hNT, mkB_size]; exact (dec_len2 port.toNat 19 (by omega)).2
          have HN := Lib.hid (fun (W : World) => number_calls port.toNat (by omega) W)
          rw [← hNT, Int.toNat_of_nonneg hport] at HN
          obtain ⟨X1, hX1⟩ : ∃ X, X = S0 ++ (⟨#[47, 47]⟩ : ByteArray) := ⟨_, rfl⟩
          have zX1 : X1.size ≤ 103 := by rw [hX1, ByteArray.size_append]; have : ((⟨#[47, 47]⟩ : ByteArray) : ByteArray).size ≤ 2 := (by decide); omega
          have aX1 : ∀ w, (Op.stringOp .add S0 (⟨#[47, 47]⟩ : ByteArray)).run Tryd.prog w = .ok (.string X1) w := fun w => by rw [hX1]; exact add_b _ _ (by omega) (by have : ((⟨#[47, 47]⟩ : ByteArray) : ByteArray).size ≤ 2 := (by decide); omega) w
          obtain ⟨X2, hX2⟩ : ∃ X, X = X1 ++ user := ⟨_, rfl⟩
          have zX2 : X2.size ≤ 203 := by rw [hX2, ByteArray.size_append]; have : (user : ByteArray).size ≤ 100 := (by omega); omega
          have aX2 : ∀ w, (Op.stringOp .add X1 user).run Tryd.prog w = .ok (.string X2) w := fun w => by rw [hX2]; exact add_b _ _ (by omega) (by have : (user : ByteArray).size ≤ 100 := (by omega); omega) w
          obtain ⟨X3, hX3⟩ : ∃ X, X = X2 ++ (⟨#[64]⟩ : ByteArray) := ⟨_, rfl⟩
          have zX3 : X3.size ≤ 204 := by rw [hX3, ByteArray.size_append]; have : ((⟨#[64]⟩ : ByteArray) : ByteArray).size ≤ 1 := (by decide); omega
          have aX3 : ∀ w, (Op.stringOp .add X2 (⟨#[64]⟩ : ByteArray)).run Tryd.prog w = .ok (.string X3) w := fun w => by rw [hX3]; exact add_b _ _ (by omega) (by have : ((⟨#[64]⟩ : ByteArray) : ByteArray).size ≤ 1 := (by decide); omega) w
          obtain ⟨X4, hX4⟩ : ∃ X, X = X3 ++ HT := ⟨_, rfl⟩
          have zX4 : X4.size ≤ 304 := by rw [hX4, ByteArray.size_append]; have : (HT : ByteArray).size ≤ 100 := (by omega); omega
          have aX4 : ∀ w, (Op.stringOp .add X3 HT).run Tryd.prog w = .ok (.string X4) w := fun w => by rw [hX4]; exact add_b _ _ (by omega) (by have : (HT : ByteArray).size ≤ 100 := (by omega); omega) w
          obtain ⟨X5, hX5⟩ : ∃ X, X = X4 ++ (⟨#[58]⟩ : ByteArray) := ⟨_, rfl⟩
          have zX5 : X5.size ≤ 305 := by rw [hX5, ByteArray.size_append]; have : ((⟨#[58]⟩ : ByteArray) : ByteArray).size ≤ 1 := (by decide); omega
          have aX5 : ∀ w, (Op.stringOp .add X4 (⟨#[58]⟩ : ByteArray)).run Tryd.prog w = .ok (.string X5) w := fun w => by rw [hX5]; exact add_b _ _ (by omega) (by have : ((⟨#[58]⟩ : ByteArray) : ByteArray).size ≤ 1 := (by decide); omega) w
          obtain ⟨X6, hX6⟩ : ∃ X, X = X5 ++ NT := ⟨_, rfl⟩
          have zX6 : X6.size ≤ 325 := by rw [hX6, ByteArray.size_append]; have : (NT : ByteArray).size ≤ 20 := (zNT); omega
          have aX6 : ∀ w, (Op.stringOp .add X5 NT).run Tryd.prog w = .ok (.string X6) w := fun w => by rw [hX6]; exact add_b _ _ (by omega) (by have : (NT : ByteArray).size ≤ 20 := (zNT); omega) w
          have HE := Lib.hid (show X6 = S1 by
            rw [HS1.out, hX6, hX5, hX4, hX3, hX2, hX1, HS0.out, HHT.out, hNT]
            apply Plain.data_inj
            simp [mkB, ByteArray.data_append, headU, hosted, dotted, when, isEmpty, authT, numT, hk, hu, hp, hport, itoa_pos hport])
          clear hX1 hX2 hX3 hX4 hX5 hX6 zX1 zX2 zX3 zX4 zX5 zX6 hNT zNT
          have hd9 : decide (0 ≤ port) = true := by simp [hport]
          go_wp2_with fail
          refine (HH.out W).mono ?_
          rintro e w1 ⟨rfl, hb⟩
          have K1 := Lib.hid (KU2.out.keep hb)
          have KC1 := Lib.hid (KU.out.keep hb)
          have B1 := Lib.hid (belowOn HB.out HB.out.size hb)
          have x14 : w1.cell? ⟨w.heap.size, 14, none⟩ = some (.int .i64 port) := K1.out.cell 14
          clear hb c0 c1 c2 c3 c4 c5 c6 c7 c8 c9 c10 c11 c12 c13 c14 c15 c16 c17 c18 c19 c20
          go_wp2_with fail
          refine (HN.out w1).mono ?_
          rintro e w2 ⟨rfl, hb⟩
          have KC2 := Lib.hid (KC1.out.keep hb)
          have B2 := Lib.hid (belowOn B1.out B1.out.size hb)
          clear hb x14
          go_wp2_with fail
          go_meet
          exact Lib.hid ⟨by first | rfl | rw [HE.out], B2.out, KC2.out⟩
      · as_aux_lemma =>
          obtain ⟨X1, hX1⟩ : ∃ X, X = S0 ++ (⟨#[47, 47]⟩ : ByteArray) := ⟨_, rfl⟩
          have zX1 : X1.size ≤ 103 := by rw [hX1, ByteArray.size_append]; have : ((⟨#[47, 47]⟩ : ByteArray) : ByteArray).size ≤ 2 := (by decide); omega
          have aX1 : ∀ w, (Op.stringOp .add S0 (⟨#[47, 47]⟩ : ByteArray)).run Tryd.prog w = .ok (.string X1) w := fun w => by rw [hX1]; exact add_b _ _ (by omega) (by have : ((⟨#[47, 47]⟩ : ByteArray) : ByteArray).size ≤ 2 := (by decide); omega) w
          obtain ⟨X2, hX2⟩ : ∃ X, X = X1 ++ user := ⟨_, rfl⟩
          have zX2 : X2.size ≤ 203 := by rw [hX2, ByteArray.size_append]; have : (user : ByteArray).size ≤ 100 := (by omega); omega
          have aX2 : ∀ w, (Op.stringOp .add X1 user).run Tryd.prog w = .ok (.string X2) w := fun w => by rw [hX2]; exact add_b _ _ (by omega) (by have : (user : ByteArray).size ≤ 100 := (by omega); omega) w
          obtain ⟨X3, hX3⟩ : ∃ X, X = X2 ++ (⟨#[64]⟩ : ByteArray) := ⟨_, rfl⟩
          have zX3 : X3.size ≤ 204 := by rw [hX3, ByteArray.size_append]; have : ((⟨#[64]⟩ : ByteArray) : ByteArray).size ≤ 1 := (by decide); omega
          have aX3 : ∀ w, (Op.stringOp .add X2 (⟨#[64]⟩ : ByteArray)).run Tryd.prog w = .ok (.string X3) w := fun w => by rw [hX3]; exact add_b _ _ (by omega) (by have : ((⟨#[64]⟩ : ByteArray) : ByteArray).size ≤ 1 := (by decide); omega) w
          obtain ⟨X4, hX4⟩ : ∃ X, X = X3 ++ HT := ⟨_, rfl⟩
          have zX4 : X4.size ≤ 304 := by rw [hX4, ByteArray.size_append]; have : (HT : ByteArray).size ≤ 100 := (by omega); omega
          have aX4 : ∀ w, (Op.stringOp .add X3 HT).run Tryd.prog w = .ok (.string X4) w := fun w => by rw [hX4]; exact add_b _ _ (by omega) (by have : (HT : ByteArray).size ≤ 100 := (by omega); omega) w
          have HE := Lib.hid (show X4 = S1 by
            rw [HS1.out, hX4, hX3, hX2, hX1, HS0.out, HHT.out]
            apply Plain.data_inj
            simp [mkB, ByteArray.data_append, headU, hosted, dotted, when, isEmpty, authT, numT, hk, hu, hp, hport])
          clear hX1 hX2 hX3 hX4 zX1 zX2 zX3 zX4
          have hd9 : decide (0 ≤ port) = false := by simp [hport]
          go_wp2_with fail
          refine (HH.out W).mono ?_
          rintro e w1 ⟨rfl, hb⟩
          have K1 := Lib.hid (KU2.out.keep hb)
          have KC1 := Lib.hid (KU.out.keep hb)
          have B1 := Lib.hid (belowOn HB.out HB.out.size hb)
          have x14 : w1.cell? ⟨w.heap.size, 14, none⟩ = some (.int .i64 port) := K1.out.cell 14
          clear hb c0 c1 c2 c3 c4 c5 c6 c7 c8 c9 c10 c11 c12 c13 c14 c15 c16 c17 c18 c19 c20
          go_wp2_with fail
          go_meet
          exact Lib.hid ⟨by first | rfl | rw [HE.out], B1.out, KC1.out⟩
      · as_aux_lemma =>
          obtain ⟨NT, hNT⟩ : ∃ T, T = mkB (Lib.decDigits port.toNat) := ⟨_, rfl⟩
          have zNT : NT.size ≤ 20 := by rw [hNT, mkB_size]; exact (dec_len2 port.toNat 19 (by omega)).2
          have HN := Lib.hid (fun (W : World) => number_calls port.toNat (by omega) W)
          rw [← hNT, Int.toNat_of_nonneg hport] at HN
          obtain ⟨X1, hX1⟩ : ∃ X, X = S0 ++ (⟨#[47, 47]⟩ : ByteArray) := ⟨_, rfl⟩
          have zX1 : X1.size ≤ 103 := by rw [hX1, ByteArray.size_append]; have : ((⟨#[47, 47]⟩ : ByteArray) : ByteArray).size ≤ 2 := (by decide); omega
          have aX1 : ∀ w, (Op.stringOp .add S0 (⟨#[47, 47]⟩ : ByteArray)).run Tryd.prog w = .ok (.string X1) w := fun w => by rw [hX1]; exact add_b _ _ (by omega) (by have : ((⟨#[47, 47]⟩ : ByteArray) : ByteArray).size ≤ 2 := (by decide); omega) w
          obtain ⟨X2, hX2⟩ : ∃ X, X = X1 ++ user := ⟨_, rfl⟩
          have zX2 : X2.size ≤ 203 := by rw [hX2, ByteArray.size_append]; have : (user : ByteArray).size ≤ 100 := (by omega); omega
          have aX2 : ∀ w, (Op.stringOp .add X1 user).run Tryd.prog w = .ok (.string X2) w := fun w => by rw [hX2]; exact add_b _ _ (by omega) (by have : (user : ByteArray).size ≤ 100 := (by omega); omega) w
          obtain ⟨X3, hX3⟩ : ∃ X, X = X2 ++ (⟨#[58]⟩ : ByteArray) := ⟨_, rfl⟩
          have zX3 : X3.size ≤ 204 := by rw [hX3, ByteArray.size_append]; have : ((⟨#[58]⟩ : ByteArray) : ByteArray).size ≤ 1 := (by decide); omega
          have aX3 : ∀ w, (Op.stringOp .add X2 (⟨#[58]⟩ : ByteArray)).run Tryd.prog w = .ok (.string X3) w := fun w => by rw [hX3]; exact add_b _ _ (by omega) (by have : ((⟨#[58]⟩ : ByteArray) : ByteArray).size ≤ 1 := (by decide); omega) w
          obtain ⟨X4, hX4⟩ : ∃ X, X = X3 ++ pass := ⟨_, rfl⟩
          have zX4 : X4.size ≤ 304 := by rw [hX4, ByteArray.size_append]; have : (pass : ByteArray).size ≤ 100 := (by omega); omega
          have aX4 : ∀ w, (Op.stringOp .add X3 pass).run Tryd.prog w = .ok (.string X4) w := fun w => by rw [hX4]; exact add_b _ _ (by omega) (by have : (pass : ByteArray).size ≤ 100 := (by omega); omega) w
          obtain ⟨X5, hX5⟩ : ∃ X, X = X4 ++ (⟨#[64]⟩ : ByteArray) := ⟨_, rfl⟩
          have zX5 : X5.size ≤ 305 := by rw [hX5, ByteArray.size_append]; have : ((⟨#[64]⟩ : ByteArray) : ByteArray).size ≤ 1 := (by decide); omega
          have aX5 : ∀ w, (Op.stringOp .add X4 (⟨#[64]⟩ : ByteArray)).run Tryd.prog w = .ok (.string X5) w := fun w => by rw [hX5]; exact add_b _ _ (by omega) (by have : ((⟨#[64]⟩ : ByteArray) : ByteArray).size ≤ 1 := (by decide); omega) w
          obtain ⟨X6, hX6⟩ : ∃ X, X = X5 ++ HT := ⟨_, rfl⟩
          have zX6 : X6.size ≤ 405 := by rw [hX6, ByteArray.size_append]; have : (HT : ByteArray).size ≤ 100 := (by omega); omega
          have aX6 : ∀ w, (Op.stringOp .add X5 HT).run Tryd.prog w = .ok (.string X6) w := fun w => by rw [hX6]; exact add_b _ _ (by omega) (by have : (HT : ByteArray).size ≤ 100 := (by omega); omega) w
          obtain ⟨X7, hX7⟩ : ∃ X, X = X6 ++ (⟨#[58]⟩ : ByteArray) := ⟨_, rfl⟩
          have zX7 : X7.size ≤ 406 := by rw [hX7, ByteArray.size_append]; have : ((⟨#[58]⟩ : ByteArray) : ByteArray).size ≤ 1 := (by decide); omega
          have aX7 : ∀ w, (Op.stringOp .add X6 (⟨#[58]⟩ : ByteArray)).run Tryd.prog w = .ok (.string X7) w := fun w => by rw [hX7]; exact add_b _ _ (by omega) (by have : ((⟨#[58]⟩ : ByteArray) : ByteArray).size ≤ 1 := (by decide); omega) w
          obtain ⟨X8, hX8⟩ : ∃ X, X = X7 ++ NT := ⟨_, rfl⟩
          have zX8 : X8.size ≤ 426 := by rw [hX8, ByteArray.size_append]; have : (NT : ByteArray).size ≤ 20 := (zNT); omega
          have aX8 : ∀ w, (Op.stringOp .add X7 NT).run Tryd.prog w = .ok (.string X8) w := fun w => by rw [hX8]; exact add_b _ _ (by omega) (by have : (NT : ByteArray).size ≤ 20 := (zNT); omega) w
          have HE := Lib.hid (show X8 = S1 by
            rw [HS1.out, hX8, hX7, hX6, hX5, hX4, hX3, hX2, hX1, HS0.out, HHT.out, hNT]
            apply Plain.data_inj
            simp [mkB, ByteArray.data_append, headU, hosted, dotted, when, isEmpty, authT, numT, hk, hu, hp, hport, itoa_pos hport])
          clear hX1 hX2 hX3 hX4 hX5 hX6 hX7 hX8 zX1 zX2 zX3 zX4 zX5 zX6 zX7 zX8 hNT zNT
          have hd9 : decide (0 ≤ port) = true := by simp [hport]
          go_wp2_with fail
          refine (HH.out W).mono ?_
          rintro e w1 ⟨rfl, hb⟩
          have K1 := Lib.hid (KU2.out.keep hb)
          have KC1 := Lib.hid (KU.out.keep hb)
          have B1 := Lib.hid (belowOn HB.out HB.out.size hb)
          have x14 : w1.cell? ⟨w.heap.size, 14, none⟩ = some (.int .i64 port) := K1.out.cell 14
          clear hb c0 c1 c2 c3 c4 c5 c6 c7 c8 c9 c10 c11 c12 c13 c14 c15 c16 c17 c18 c19 c20
          go_wp2_with fail
          refine (HN.out w1).mono ?_
          rintro e w2 ⟨rfl, hb⟩
          have KC2 := Lib.hid (KC1.out.keep hb)
          have B2 := Lib.hid (belowOn B1.out B1.out.size hb)
          clear hb x14
          go_wp2_with fail
          go_meet
          exact Lib.hid ⟨by first | rfl | rw [HE.out], B2.out, KC2.out⟩
      · as_aux_lemma =>
          obtain ⟨X1, hX1⟩ : ∃ X, X = S0 ++ (⟨#[47, 47]⟩ : ByteArray) := ⟨_, rfl⟩
          have zX1 : X1.size ≤ 103 := by rw [hX1, ByteArray.size_append]; have : ((⟨#[47, 47]⟩ : ByteArray) : ByteArray).size ≤ 2 := (by decide); omega
          have aX1 : ∀ w, (Op.stringOp .add S0 (⟨#[47, 47]⟩ : ByteArray)).run Tryd.prog w = .ok (.string X1) w := fun w => by rw [hX1]; exact add_b _ _ (by omega) (by have : ((⟨#[47, 47]⟩ : ByteArray) : ByteArray).size ≤ 2 := (by decide); omega) w
          obtain ⟨X2, hX2⟩ : ∃ X, X = X1 ++ user := ⟨_, rfl⟩
          have zX2 : X2.size ≤ 203 := by rw [hX2, ByteArray.size_append]; have : (user : ByteArray).size ≤ 100 := (by omega); omega
          have aX2 : ∀ w, (Op.stringOp .add X1 user).run Tryd.prog w = .ok (.string X2) w := fun w => by rw [hX2]; exact add_b _ _ (by omega) (by have : (user : ByteArray).size ≤ 100 := (by omega); omega) w
          obtain ⟨X3, hX3⟩ : ∃ X, X = X2 ++ (⟨#[58]⟩ : ByteArray) := ⟨_, rfl⟩
          have zX3 : X3.size ≤ 204 := by rw [hX3, ByteArray.size_append]; have : ((⟨#[58]⟩ : ByteArray) : ByteArray).size ≤ 1 := (by decide); omega
          have aX3 : ∀ w, (Op.stringOp .add X2 (⟨#[58]⟩ : ByteArray)).run Tryd.prog w = .ok (.string X3) w := fun w => by rw [hX3]; exact add_b _ _ (by omega) (by have : ((⟨#[58]⟩ : ByteArray) : ByteArray).size ≤ 1 := (by decide); omega) w
          obtain ⟨X4, hX4⟩ : ∃ X, X = X3 ++ pass := ⟨_, rfl⟩
          have zX4 : X4.size ≤ 304 := by rw [hX4, ByteArray.size_append]; have : (pass : ByteArray).size ≤ 100 := (by omega); omega
          have aX4 : ∀ w, (Op.stringOp .add X3 pass).run Tryd.prog w = .ok (.string X4) w := fun w => by rw [hX4]; exact add_b _ _ (by omega) (by have : (pass : ByteArray).size ≤ 100 := (by omega); omega) w
          obtain ⟨X5, hX5⟩ : ∃ X, X = X4 ++ (⟨#[64]⟩ : ByteArray) := ⟨_, rfl⟩
          have zX5 : X5.size ≤ 305 := by rw [hX5, ByteArray.size_append]; have : ((⟨#[64]⟩ : ByteArray) : ByteArray).size ≤ 1 := (by decide); omega
          have aX5 : ∀ w, (Op.stringOp .add X4 (⟨#[64]⟩ : ByteArray)).run Tryd.prog w = .ok (.string X5) w := fun w => by rw [hX5]; exact add_b _ _ (by omega) (by have : ((⟨#[64]⟩ : ByteArray) : ByteArray).size ≤ 1 := (by decide); omega) w
          obtain ⟨X6, hX6⟩ : ∃ X, X = X5 ++ HT := ⟨_, rfl⟩
          have zX6 : X6.size ≤ 405 := by rw [hX6, ByteArray.size_append]; have : (HT : ByteArray).size ≤ 100 := (by omega); omega
          have aX6 : ∀ w, (Op.stringOp .add X5 HT).run Tryd.prog w = .ok (.string X6) w := fun w => by rw [hX6]; exact add_b _ _ (by omega) (by have : (HT : ByteArray).size ≤ 100 := (by omega); omega) w
          have HE := Lib.hid (show X6 = S1 by
            rw [HS1.out, hX6, hX5, hX4, hX3, hX2, hX1, HS0.out, HHT.out]
            apply Plain.data_inj
            simp [mkB, ByteArray.data_append, headU, hosted, dotted, when, isEmpty, authT, numT, hk, hu, hp, hport])
          clear hX1 hX2 hX3 hX4 hX5 hX6 zX1 zX2 zX3 zX4 zX5 zX6
          have hd9 : decide (0 ≤ port) = false := by simp [hport]
          go_wp2_with fail
          refine (HH.out W).mono ?_
          rintro e w1 ⟨rfl, hb⟩
          have K1 := Lib.hid (KU2.out.keep hb)
          have KC1 := Lib.hid (KU.out.keep hb)
          have B1 := Lib.hid (belowOn HB.out HB.out.size hb)
          have x14 : w1.cell? ⟨w.heap.size, 14, none⟩ = some (.int .i64 port) := K1.out.cell 14
          clear hb c0 c1 c2 c3 c4 c5 c6 c7 c8 c9 c10 c11 c12 c13 c14 c15 c16 c17 c18 c19 c20
          go_wp2_with fail
          go_meet
          exact Lib.hid ⟨by first | rfl | rw [HE.out], B1.out, KC1.out⟩
      · as_aux_lemma =>
          obtain ⟨NT, hNT⟩ : ∃ T, T = mkB (Lib.decDigits port.toNat) := ⟨_, rfl⟩
          have zNT : NT.size ≤ 20 := by rw [hNT, mkB_size]; exact (dec_len2 port.toNat 19 (by omega)).2
          have HN := Lib.hid (fun (W : World) => number_calls port.toNat (by omega) W)
          rw [← hNT, Int.toNat_of_nonneg hport] at HN
          obtain ⟨X1, hX1⟩ : ∃ X, X = S0 ++ (⟨#[47, 47]⟩ : ByteArray) := ⟨_, rfl⟩
          have zX1 : X1.size ≤ 103 := by rw [hX1, ByteArray.size_append]; have : ((⟨#[47, 47]⟩ : ByteArray) : ByteArray).size ≤ 2 := (by decide); omega
          have aX1 : ∀ w, (Op.stringOp .add S0 (⟨#[47, 47]⟩ : ByteArray)).run Tryd.prog w = .ok (.string X1) w := fun w => by rw [hX1]; exact add_b _ _ (by omega) (by have : ((⟨#[47, 47]⟩ : ByteArray) : ByteArray).size ≤ 2 := (by decide); omega) w
          obtain ⟨X2, hX2⟩ : ∃ X, X = X1 ++ HT := ⟨_, rfl⟩
          have zX2 : X2.size ≤ 203 := by rw [hX2, ByteArray.size_append]; have : (HT : ByteArray).size ≤ 100 := (by omega); omega
          have aX2 : ∀ w, (Op.stringOp .add X1 HT).run Tryd.prog w = .ok (.string X2) w := fun w => by rw [hX2]; exact add_b _ _ (by omega) (by have : (HT : ByteArray).size ≤ 100 := (by omega); omega) w
          obtain ⟨X3, hX3⟩ : ∃ X, X = X2 ++ (⟨#[58]⟩ : ByteArray) := ⟨_, rfl⟩
          have zX3 : X3.size ≤ 204 := by rw [hX3, ByteArray.size_append]; have : ((⟨#[58]⟩ : ByteArray) : ByteArray).size ≤ 1 := (by decide); omega
          have aX3 : ∀ w, (Op.stringOp .add X2 (⟨#[58]⟩ : ByteArray)).run Tryd.prog w = .ok (.string X3) w := fun w => by rw [hX3]; exact add_b _ _ (by omega) (by have : ((⟨#[58]⟩ : ByteArray) : ByteArray).size ≤ 1 := (by decide); omega) w
          obtain ⟨X4, hX4⟩ : ∃ X, X = X3 ++ NT := ⟨_, rfl⟩
          have zX4 : X4.size ≤ 224 := by rw [hX4, ByteArray.size_append]; have : (NT : ByteArray).size ≤ 20 := (zNT); omega
          have aX4 : ∀ w, (Op.stringOp .add X3 NT).run Tryd.prog w = .ok (.string X4) w := fun w => by rw [hX4]; exact add_b _ _ (by omega) (by have : (NT : ByteArray).size ≤ 20 := (zNT); omega) w
          have HE := Lib.hid (show X4 = S1 by
            rw [HS1.out, hX4, hX3, hX2, hX1, HS0.out, HHT.out, hNT]
            apply Plain.data_inj
            simp [mkB, ByteArray.data_append, headU, hosted, dotted, when, isEmpty, authT, numT, hk, hu, hp, hport, itoa_pos hport])
          clear hX1 hX2 hX3 hX4 zX1 zX2 zX3 zX4 hNT zNT
          have hd9 : decide (0 ≤ port) = true := by simp [hport]
          go_wp2_with fail
          refine (HH.out W).mono ?_
          rintro e w1 ⟨rfl, hb⟩
          have K1 := Lib.hid (KU2.out.keep hb)
          have KC1 := Lib.hid (KU.out.keep hb)
          have B1 := Lib.hid (belowOn HB.out HB.out.size hb)
          have x14 : w1.cell? ⟨w.heap.size, 14, none⟩ = some (.int .i64 port) := K1.out.cell 14
          clear hb c0 c1 c2 c3 c4 c5 c6 c7 c8 c9 c10 c11 c12 c13 c14 c15 c16 c17 c18 c19 c20
          go_wp2_with fail
          refine (HN.out w1).mono ?_
          rintro e w2 ⟨rfl, hb⟩
          have KC2 := Lib.hid (KC1.out.keep hb)
          have B2 := Lib.hid (belowOn B1.out B1.out.size hb)
          clear hb x14
          go_wp2_with fail
          go_meet
          exact Lib.hid ⟨by first | rfl | rw [HE.out], B2.out, KC2.out⟩
      · as_aux_lemma =>
          obtain ⟨X1, hX1⟩ : ∃ X, X = S0 ++ (⟨#[47, 47]⟩ : ByteArray) := ⟨_, rfl⟩
          have zX1 : X1.size ≤ 103 := by rw [hX1, ByteArray.size_append]; have : ((⟨#[47, 47]⟩ : ByteArray) : ByteArray).size ≤ 2 := (by decide); omega
          have aX1 : ∀ w, (Op.stringOp .add S0 (⟨#[47, 47]⟩ : ByteArray)).run Tryd.prog w = .ok (.string X1) w := fun w => by rw [hX1]; exact add_b _ _ (by omega) (by have : ((⟨#[47, 47]⟩ : ByteArray) : ByteArray).size ≤ 2 := (by decide); omega) w
          obtain ⟨X2, hX2⟩ : ∃ X, X = X1 ++ HT := ⟨_, rfl⟩
          have zX2 : X2.size ≤ 203 := by rw [hX2, ByteArray.size_append]; have : (HT : ByteArray).size ≤ 100 := (by omega); omega
          have aX2 : ∀ w, (Op.stringOp .add X1 HT).run Tryd.prog w = .ok (.string X2) w := fun w => by rw [hX2]; exact add_b _ _ (by omega) (by have : (HT : ByteArray).size ≤ 100 := (by omega); omega) w
          have HE := Lib.hid (show X2 = S1 by
            rw [HS1.out, hX2, hX1, HS0.out, HHT.out]
            apply Plain.data_inj
            simp [mkB, ByteArray.data_append, headU, hosted, dotted, when, isEmpty, authT, numT, hk, hu, hp, hport])
          clear hX1 hX2 zX1 zX2
          have hd9 : decide (0 ≤ port) = false := by simp [hport]
          go_wp2_with fail
          refine (HH.out W).mono ?_
          rintro e w1 ⟨rfl, hb⟩
          have K1 := Lib.hid (KU2.out.keep hb)
          have KC1 := Lib.hid (KU.out.keep hb)
          have B1 := Lib.hid (belowOn HB.out HB.out.size hb)
          have x14 : w1.cell? ⟨w.heap.size, 14, none⟩ = some (.int .i64 port) := K1.out.cell 14
          clear hb c0 c1 c2 c3 c4 c5 c6 c7 c8 c9 c10 c11 c12 c13 c14 c15 c16 c17 c18 c19 c20
          go_wp2_with fail
          go_meet
          exact Lib.hid ⟨by first | rfl | rw [HE.out], B1.out, KC1.out⟩
  case rest =>
    as_aux_lemma =>
    obtain ⟨rfl, hbx, hkx⟩ := hcut.out
    have HBX := Lib.hid hbx
    have KX := Lib.hid (show Blk wc w.heap.size 29 #[.string scheme, .string user, .string pass, .int .i64 k, .string nm, .int .u32 v4, .int .u16 a0, .int .u16 a1, .int .u16 a2, .int .u16 a3, .int .u16 a4, .int .u16 a5, .int .u16 a6, .int .u16 a7, .int .i64 port, .bool opq, .slice A path.length c, .bool hasq, .string query, .bool hasf, .string frag] by have := hkx; rwa [HCS.out] at this)
    clear hcut hbx c0 c1 c2 c3 c4 c5 c6 c7 c8 c9 c10 c11 c12 c13 c14 c15 c16 c17 c18 c19 c20 KU KU2 HB
    skip
    have hsz : (Tryd.prog.info? 29).map (·.size) = some cs.size := by rw [hsize]; kernel_rfl
    have HSZ := Lib.hid hsz
    have HKX := Lib.hid hkx
    clear hkx hsz
    go_wp2_with (with_reducible refine stopU ?_)
    refine stop_goU ?_
    refine wpList_loadrow _ rfl rfl HKX.out Tryd.underlying29 HSZ.out ?_
    clear HSZ HKX
    go_wp2_with fail
    refine (HP.out wc HBX.out).mono ?_
    rintro e w3 ⟨rfl, hb⟩
    have K3 := Lib.hid (KX.out.keep hb)
    have B3 := Lib.hid (belowOn HBX.out HBX.out.size hb)
    clear hb
    have c17 : w3.cell? ⟨w.heap.size, 17, none⟩ = some (.bool hasq) := K3.out.cell 17
    have c18 : w3.cell? ⟨w.heap.size, 18, none⟩ = some (.string query) := K3.out.cell 18
    have c19 : w3.cell? ⟨w.heap.size, 19, none⟩ = some (.bool hasf) := K3.out.cell 19
    have c20 : w3.cell? ⟨w.heap.size, 20, none⟩ = some (.string frag) := K3.out.cell 20
    go_upto_if 74 with fail
    go_cut [5] from 70 to 79 (fun v5 wy => Hid (v5 = .string S3 ∧ wy = w3))
    case first =>
      as_aux_lemma =>
      rcases hasq with _ | _
      · have HE := Lib.hid (show S2 = S3 by
          rw [HS3.out]
          apply Plain.data_inj
          simp [mkB, ByteArray.data_append, when])
        go_wp2_with fail
        go_meet
        exact Lib.hid ⟨by first | rfl | rw [HE.out], rfl⟩
      · obtain ⟨X1, hX1⟩ : ∃ X, X = S2 ++ (⟨#[63]⟩ : ByteArray) := ⟨_, rfl⟩
        have zX1 : X1.size ≤ 1821 := by rw [hX1, ByteArray.size_append]; have : ((⟨#[63]⟩ : ByteArray) : ByteArray).size ≤ 1 := (by decide); omega
        have aX1 : ∀ w, (Op.stringOp .add S2 (⟨#[63]⟩ : ByteArray)).run Tryd.prog w = .ok (.string X1) w := fun w => by rw [hX1]; exact add_b _ _ (by omega) (by have : ((⟨#[63]⟩ : ByteArray) : ByteArray).size ≤ 1 := (by decide); omega) w
        obtain ⟨X2, hX2⟩ : ∃ X, X = X1 ++ query := ⟨_, rfl⟩
        have zX2 : X2.size ≤ 1921 := by rw [hX2, ByteArray.size_append]; have : (query : ByteArray).size ≤ 100 := (by omega); omega
        have aX2 : ∀ w, (Op.stringOp .add X1 query).run Tryd.prog w = .ok (.string X2) w := fun w => by rw [hX2]; exact add_b _ _ (by omega) (by have : (query : ByteArray).size ≤ 100 := (by omega); omega) w
        have HE := Lib.hid (show X2 = S3 by
          rw [HS3.out, hX2, hX1]
          apply Plain.data_inj
          simp [mkB, ByteArray.data_append, when])
        clear hX1 hX2 zX1 zX2
        go_wp2_with fail
        go_meet
        exact Lib.hid ⟨by first | rfl | rw [HE.out], rfl⟩
    case rest =>
      as_aux_lemma =>
      obtain ⟨rfl, rfl⟩ := hcut.out
      clear hcut
      rcases bare with _ | _
      · rcases hasf with _ | _
        · have HE := Lib.hid (show S3 = S4 by
            rw [HS4.out]
            apply Plain.data_inj
            simp [mkB, ByteArray.data_append, when])
          go_wp2_with fail
          go_ret
          exact ⟨by first | rfl | (rw [← HE.out]; rfl) | (rw [HE.out]; rfl), B3.out⟩
        · obtain ⟨X1, hX1⟩ : ∃ X, X = S3 ++ (⟨#[35]⟩ : ByteArray) := ⟨_, rfl⟩
          have zX1 : X1.size ≤ 2001 := by rw [hX1, ByteArray.size_append]; have : ((⟨#[35]⟩ : ByteArray) : ByteArray).size ≤ 1 := (by decide); omega
          have aX1 : ∀ w, (Op.stringOp .add S3 (⟨#[35]⟩ : ByteArray)).run Tryd.prog w = .ok (.string X1) w := fun w => by rw [hX1]; exact add_b _ _ (by omega) (by have : ((⟨#[35]⟩ : ByteArray) : ByteArray).size ≤ 1 := (by decide); omega) w
          obtain ⟨X2, hX2⟩ : ∃ X, X = X1 ++ frag := ⟨_, rfl⟩
          have zX2 : X2.size ≤ 2101 := by rw [hX2, ByteArray.size_append]; have : (frag : ByteArray).size ≤ 100 := (by omega); omega
          have aX2 : ∀ w, (Op.stringOp .add X1 frag).run Tryd.prog w = .ok (.string X2) w := fun w => by rw [hX2]; exact add_b _ _ (by omega) (by have : (frag : ByteArray).size ≤ 100 := (by omega); omega) w
          have HE := Lib.hid (show X2 = S4 by
            rw [HS4.out, hX2, hX1]
            apply Plain.data_inj
            simp [mkB, ByteArray.data_append, when])
          clear hX1 hX2 zX1 zX2
          go_wp2_with fail
          go_ret
          exact ⟨by first | rfl | (rw [← HE.out]; rfl) | (rw [HE.out]; rfl), B3.out⟩
      · have HE := Lib.hid (show S3 = S4 by
          rw [HS4.out]
          apply Plain.data_inj
          simp [mkB, ByteArray.data_append, when])
        go_wp2_with fail
        go_ret
        exact ⟨by first | rfl | (rw [← HE.out]; rfl) | (rw [HE.out]; rfl), B3.out⟩
end Go.Proofs.YtgljkgkmbfhgiaaDoor
