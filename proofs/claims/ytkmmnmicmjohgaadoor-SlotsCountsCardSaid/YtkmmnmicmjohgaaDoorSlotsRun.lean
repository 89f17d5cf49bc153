/- The law's run: acts, one behind the other, of both. -/
import Derived.Test.YtkmmnmicmjohgaaDoorSlotsRunSt
import Derived.Deep.DeepCutAuto
import Derived.Deep.CutRange
set_option linter.unusedVariables false
set_option linter.unusedSimpArgs false
namespace Go.Proofs.YtkmmnmicmjohgaaDoor
open Go.RowKit Slots

set_option maxHeartbeats 8000000 in
set_option maxRecDepth 100000 in
theorem run_calls {w : World} {A : Option Addr} {cap : Nat} {l : List ActD} (h : RowAt ActD.cells 3 w A l) (hok : ∀ a ∈ l, a.ok) (hl : l.length ≤ 40) (hlc : l.length ≤ cap) (n0 n1 : Int) (h0 : 0 ≤ n0 ∧ n0 ≤ 255) (h1 : 0 ≤ n1 ∧ n1 ≤ 255) (hE : ErrType w) :
    Calls Tryd.prog 8 #[.agg #[.int .u8 n0, .int .u8 n1], .slice A l.length cap] w fun e w' => Hid (∃ b g v s x, e = .returned (.tuple #[.pointer (some ⟨b, 0, none⟩), v, .bool true]) ∧ At w' b g s ∧ RfAt w' v x ∧ Sim s x ∧ Small l.length s ∧ s.sl.length ≤ 5 ∧ s.last ≤ 3 ∧ w.heap.size ≤ b ∧ w.heap.size ≤ g) ∧ Below w.heap.size w w' := by
  obtain ⟨many, hm⟩ : ∃ many : Nat, 1 + n0 % 5 = (many : Int) := ⟨(1 + n0 % 5).toNat, by omega⟩
  have hm1 : 1 ≤ many := by omega
  have hm2 : many ≤ 5 := by omega
  obtain ⟨last, hla⟩ : ∃ last : Int, 1 + n1 % 3 = last := ⟨_, rfl⟩
  have hla1 : 1 ≤ last := by omega
  have hla2 : last ≤ 3 := by omega
  go_enter Tryd.func8, Tryd.ntmps8
  go_wp2_with fail
  refine (slots_new_ok many last _ hm1 (by omega) hla1).mono ?_
  rintro e w1 ⟨⟨b, g, rfl, hA1, hb1, hg1⟩, hbe1⟩
  have hS1 : Blk w1 (w.heap.size + 1) 30 #[.slice none 0 0, .slice none 0 0, .slice none 0 0, .int .u64 0] := by
    have := Blk.new (w.alloc (.cells #[.int .u8 n0, .int .u8 n1] 22)) 30 #[.slice none 0 0, .slice none 0 0, .slice none 0 0, .int .u64 0]
    rw [show (w.alloc (.cells #[.int .u8 n0, .int .u8 n1] 22)).heap.size = w.heap.size + 1 by simp] at this
    exact this.keep hbe1
  have hN1 : Blk w1 w.heap.size 22 #[.int .u8 n0, .int .u8 n1] := ((Blk.new w _ _).alloc _).keep hbe1
  have hB1 : Below w.heap.size w w1 := belowOn (((Below.refl _ w).alloc (Nat.le_refl _) _).alloc (by simp) _) (by simp; omega) hbe1
  have hz1 : w.heap.size + 2 ≤ w1.heap.size := by have := hbe1.size; simp at this; omega
  have hb2 : w.heap.size + 2 ≤ b := by simp at hb1; omega
  have hg2 : w.heap.size + 2 ≤ g := by simp at hg1; omega
  have c0 := hN1.cell 0
  have c1 := hN1.cell 1
  simp only [List.getElem?_toArray, List.getElem?_cons_zero, List.getElem?_cons_succ] at c0 c1
  have HA1 := Lib.hid hA1
  have HS1 := Lib.hid hS1
  have HB1 := Lib.hid hB1
  clear hA1 hS1 hB1 hbe1 hb1 hg1 hN1
  go_wp2_with fail
  refine (ref_new_ok many last hm1 (by omega) (by omega) w1).mono ?_
  rintro e w2 ⟨⟨v, rfl, B0, B1, B2, k0, k1, k2, hv, hr2⟩, hbe2⟩
  subst hv
  have hst : RunSt w (w2.alloc (.cells #[.slice B0 (newRf many last).gens.length k0, .slice B1 (newRf many last).counts.length k1, .slice B2 (newRf many last).free.length k2, .int .u64 (newRf many last).last] 30)) b g w2.heap.size (newSt many last) (newRf many last) B0 B1 B2 k0 k1 k2 := by
    have hz2 := hbe2.size
    have hA2 := HA1.out.keep hbe2
    exact ⟨⟨hA2.ne, hA2.blk.alloc _, hA2.row.alloc _⟩, Blk.new _ _ _, hr2.keep ((Below.refl _ _).alloc (Nat.le_refl _) _), (HS1.out.keep hbe2).alloc _, (belowOn HB1.out (by omega) hbe2).alloc (by omega) _, by omega, by omega, by omega⟩
  have hok0 : RunOk 0 (newSt many last) (newRf many last) := ⟨sim_new many last hla1, small_new many last, by simp [newSt]; omega, hla2⟩
  have HST := Lib.hid hst
  have HOK := Lib.hid hok0
  have H := Lib.hid h
  have HE := Lib.hid hE
  have HACT := Lib.hid hok
  clear hst hok0 hr2 hbe2 HA1 HS1 HB1 c0 c1 h hE hok hm hla
  go_wp2_with fail
  generalize w2.alloc (.cells #[.slice B0 (newRf many last).gens.length k0, .slice B1 (newRf many last).counts.length k1, .slice B2 (newRf many last).free.length k2, .int .u64 (newRf many last).last] 30) = w3 at HST ⊢
  generalize w2.heap.size = gx at HST ⊢
  go_loopw [11] (fun i wr => ∃ k : Nat, i = .int .i64 k ∧ k ≤ l.length ∧ Hid (∃ s x B0 B1 B2 k0 k1 k2, RunSt w wr b g gx s x B0 B1 B2 k0 k1 k2 ∧ RunOk k s x)) (fun i _ => l.length - (intOf i).toNat)
  case atStart => exact ⟨0, rfl, Nat.zero_le _, Lib.hid ⟨_, _, _, _, _, _, _, _, HST.out, HOK.out⟩⟩
  case round =>
    obtain ⟨k, rfl, hk, HH⟩ := hrel
    obtain ⟨s, x, A0, A1, A2, j0, j1, j2, hst, hro⟩ := HH.out
    clear HH HST HOK
    by_cases hlt : k < l.length
    · obtain ⟨a, ha⟩ : ∃ a, l[k]? = some a := ⟨l[k]'hlt, List.getElem?_eq_getElem hlt⟩
      have hao := HACT.out a (List.mem_of_getElem? ha)
      obtain ⟨ba, oa, rfl, hca⟩ := H.out k a ha
      have a0 := hca 0 _ rfl
      have a1 := hca 1 _ rfl
      have a2 := hca 2 _ rfl
      have hba : ba < w.heap.size := World.block_lt_of_cell? w _ a0
      have b0 := (hst.be.cell (p := ⟨ba, oa + k * 3 + 0, none⟩) hba).trans a0
      have b1 := (hst.be.cell (p := ⟨ba, oa + k * 3 + 1, none⟩) hba).trans a1
      have b2 := (hst.be.cell (p := ⟨ba, oa + k * 3 + 2, none⟩) hba).trans a2
      simp only [Nat.add_zero] at b0
      have HCA := Lib.hid (And.intro a0 (And.intro a1 a2))
      obtain ⟨s', x', p, m, o, hs', hx', hsim'⟩ := both_act hro.sim (a.k % 4) (handleOf a.c a.d)
      have hro' : RunOk (k + 1 : Nat) s' x' := by
        have h1 := act_small hro.small (by omega) (a.k % 4) (handleOf a.c a.d)
        have h2 := act_len s (a.k % 4) (handleOf a.c a.d)
        rw [hs'] at h1 h2
        simp only at h1 h2
        exact ⟨hsim', by simpa using h1, by rw [h2.1]; exact hro.len, by rw [h2.2]; exact hro.last⟩
      have hfine : Fine s := hro.sim.fine hro.small (by omega) (by have := hro.len; omega) (by have := hro.last; omega)
      have hdo := fun (W : World) (hA : At W b g s) => do_calls hA hfine a.k a.c a.d hao.1 hao.2.1 hao.2.2
      have hrd := fun (W : World) (v : Value) (hv : RfAt W v x) => ref_do hv (hro.sim.rfok hro.small (by omega) (by omega) (by have := hro.len; omega)) a.k a.c a.d hao.1 hao.2.1 hao.2.2
      rw [hs'] at hdo
      rw [hx'] at hrd
      have HDO := Lib.hid hdo
      have HRD := Lib.hid hrd
      have HRO := Lib.hid hro'
      have HST := Lib.hid hst
      clear hdo hrd hro' hro hst hs' hx' hsim' hfine ha hca a0 a1 a2 hao
      have hkI : (k : Int) < (l.length : Int) := by omega
      go_wp2_with fail
      refine (HDO.out _ HST.out.at_).mono ?_
      rintro e w1 ⟨⟨v1, rfl, hv1⟩, hA1, hF1⟩
      have hP2 := (HST.out.did hA1 hF1).alloc (.cells #[.int .i64 p.1, .int .u64 p.2] 34)
      have hH2 := Blk.new w1 34 #[.int .i64 p.1, .int .u64 p.2]
      have hE2 := errV_keep hv1 ((Below.refl w1.heap.size w1).alloc (Nat.le_refl _) (.cells #[.int .i64 p.1, .int .u64 p.2] 34))
      have HP2 := Lib.hid hP2
      have HH2 := Lib.hid hH2
      have HE2 := Lib.hid hE2
      clear hv1 hA1 hF1 hP2 hH2 hE2 b0 b1 b2 HST
      go_upto_region 7 with fail
      generalize w1.alloc (.cells #[.int .i64 p.1, .int .u64 p.2] 34) = w2 at HP2 HH2 HE2 ⊢
      have HLT := Lib.hid (And.intro HP2.out.lt.1 (And.intro HP2.out.lt.2.1 (And.intro HP2.out.lt.2.2.1 (And.intro HP2.out.lt.2.2.2 HH2.out.lt))))
      generalize w1.heap.size = hbx at HH2 HLT ⊢
      have hk2 : KSt w2.heap.size w2 gx (.slice A0 x.gens.length j0) (.slice A1 x.counts.length j1) (.slice A2 x.free.length j2) (.int .u64 x.last) ba (oa + k * 3) (.int .u8 a.k) (.int .u8 a.c) (.int .u8 a.d) :=
        ⟨HP2.out.box, (HP2.out.be.cell (p := ⟨ba, oa + k * 3, none⟩) hba).trans HCA.out.1, (HP2.out.be.cell (p := ⟨ba, oa + k * 3 + 1, none⟩) hba).trans HCA.out.2.1, (HP2.out.be.cell (p := ⟨ba, oa + k * 3 + 2, none⟩) hba).trans HCA.out.2.2, HP2.out.lt.1, Nat.lt_of_lt_of_le hba HP2.out.be.size, Nat.le_refl _⟩
      obtain ⟨q0, q1, q2, q3, q4, q5, q6⟩ := hk2.s
      have HK2 := Lib.hid hk2
      clear hk2
      have HS30 := Lib.hid (show (w2.alloc (.cells #[.slice none 0 0, .slice none 0 0, .slice none 0 0, .int .u64 0] 30)).heap.size = w2.heap.size + 1 by simp)
      have HS34 := Lib.hid (show (w2.alloc (.cells #[.int .i64 0, .int .u64 0] 34)).heap.size = w2.heap.size + 1 by simp)
      have o1 : ¬ w2.heap.size = w2.heap.size + 1 := by omega
      have o2 : ¬ w2.heap.size + 1 = w2.heap.size := by omega
      go_cut [15, 16, 17, 18] from 47 to 105 (fun s15 s16 s17 s18 wx => Hid (∃ g30 g34 C0 C1 C2 i0 i1 i2, s15 = .pointer (some ⟨g30, 0, none⟩) ∧ s16 = .pointer (some ⟨g34, 0, none⟩) ∧ s17 = .int .i64 m ∧ s18 = .int .i64 (o.getD 0) ∧ Post w wx w2.heap.size b g gx hbx s' x x' p o v1 A0 A1 A2 C0 C1 C2 j0 j1 j2 i0 i1 i2 ∧ Blk wx g30 30 #[.slice C0 x'.gens.length i0, .slice C1 x'.counts.length i1, .slice C2 x'.free.length i2, .int .u64 x'.last] ∧ Blk wx g34 34 #[.int .i64 p.1, .int .u64 p.2] ∧ w2.heap.size ≤ g30 ∧ w2.heap.size ≤ g34))
      case first =>
        go_region_held3 (fun w' => w'.cell? ⟨gx, 0, none⟩ = some (.slice A0 x.gens.length j0) ∧ w'.cell? ⟨gx, 1, none⟩ = some (.slice A1 x.counts.length j1) ∧ w'.cell? ⟨gx, 2, none⟩ = some (.slice A2 x.free.length j2) ∧ w'.cell? ⟨gx, 3, none⟩ = some (.int .u64 x.last) ∧ w'.cell? ⟨ba, oa + k * 3, none⟩ = some (.int .u8 a.k) ∧ w'.cell? ⟨ba, oa + k * 3 + 1, none⟩ = some (.int .u8 a.c) ∧ w'.cell? ⟨ba, oa + k * 3 + 2, none⟩ = some (.int .u8 a.d))
          ((refine KSt.s (N := w2.heap.size) ?_; repeat (with_reducible (first | exact HK2.out | exact HK5.out | apply KSt.alloc | apply KSt.drew | (refine KSt.set_ ?_ ?hN _ _; (case hN => first | exact Nat.le_refl _ | exact Nat.le_succ _ | omega))))))
          (first
            | (go_at_call 23; have hcc := HRD.out (w2.drew) _ ⟨A0, A1, A2, j0, j1, j2, rfl, ((HP2.out).drew).rf⟩; (with_reducible refine hcc.mono ?_); clear hcc; rintro e w5 ⟨⟨v5, rfl, C0, C1, C2, i0, i1, i2, hv5, hr5⟩, hb5⟩; subst hv5; have hPre := ((HP2.out).drew).keep hb5; have hk5 := ((HK2.out).drew).keep hb5; have hh5 := ((HH2.out).drew).keep hb5; have he5 := errV_keep (errV_keep (HE2.out) (Below.refl _ _).drew) hb5; have hz5 := hb5.size; (try simp at hz5); have HPO := Lib.hid (Post.mk (N := w2.heap.size) hPre hh5 he5 hr5 HLT.out.1 HLT.out.2.1 HLT.out.2.2.1 HLT.out.2.2.2.1 HLT.out.2.2.2.2); have HK5 := Lib.hid hk5; clear hPre hk5 hh5 he5 hr5 hb5 hz5)
            | (go_at_call 23; have hcc := HRD.out ((w2.alloc (.cells #[.slice none 0 0, .slice none 0 0, .slice none 0 0, .int .u64 0] 30)).drew) _ ⟨A0, A1, A2, j0, j1, j2, rfl, (((HP2.out).alloc (.cells #[.slice none 0 0, .slice none 0 0, .slice none 0 0, .int .u64 0] 30)).drew).rf⟩; (with_reducible refine hcc.mono ?_); clear hcc; rintro e w5 ⟨⟨v5, rfl, C0, C1, C2, i0, i1, i2, hv5, hr5⟩, hb5⟩; subst hv5; have hPre := (((HP2.out).alloc (.cells #[.slice none 0 0, .slice none 0 0, .slice none 0 0, .int .u64 0] 30)).drew).keep hb5; have hk5 := (((HK2.out).alloc (.cells #[.slice none 0 0, .slice none 0 0, .slice none 0 0, .int .u64 0] 30)).drew).keep hb5; have hh5 := (((HH2.out).alloc (.cells #[.slice none 0 0, .slice none 0 0, .slice none 0 0, .int .u64 0] 30)).drew).keep hb5; have he5 := errV_keep (errV_keep (errV_keep (HE2.out) ((Below.refl _ _).alloc (Nat.le_refl _) (.cells #[.slice none 0 0, .slice none 0 0, .slice none 0 0, .int .u64 0] 30))) (Below.refl _ _).drew) hb5; have HG30 := Lib.hid (((Blk.new w2 30 #[.slice none 0 0, .slice none 0 0, .slice none 0 0, .int .u64 0]).drew).keep hb5); have g0 := HG30.out.cell 0; have g1 := HG30.out.cell 1; have g2 := HG30.out.cell 2; have g3 := HG30.out.cell 3; have fg := HG30.out.frozen; simp only [List.getElem?_toArray, List.getElem?_cons_zero, List.getElem?_cons_succ] at g0 g1 g2 g3; have hz5 := hb5.size; (try simp at hz5); have l5 : w2.heap.size < w5.heap.size := (by omega); have l6 : ¬ w2.heap.size = w5.heap.size := (by omega); have l7 : ¬ w5.heap.size = w2.heap.size := (by omega); have HPO := Lib.hid (Post.mk (N := w2.heap.size) hPre hh5 he5 hr5 HLT.out.1 HLT.out.2.1 HLT.out.2.2.1 HLT.out.2.2.2.1 HLT.out.2.2.2.2); have HK5 := Lib.hid hk5; clear hPre hk5 hh5 he5 hr5 hb5 hz5)
            | (go_at_call 23; have hcc := HRD.out ((w2.alloc (.cells #[.int .i64 0, .int .u64 0] 34)).drew) _ ⟨A0, A1, A2, j0, j1, j2, rfl, (((HP2.out).alloc (.cells #[.int .i64 0, .int .u64 0] 34)).drew).rf⟩; (with_reducible refine hcc.mono ?_); clear hcc; rintro e w5 ⟨⟨v5, rfl, C0, C1, C2, i0, i1, i2, hv5, hr5⟩, hb5⟩; subst hv5; have hPre := (((HP2.out).alloc (.cells #[.int .i64 0, .int .u64 0] 34)).drew).keep hb5; have hk5 := (((HK2.out).alloc (.cells #[.int .i64 0, .int .u64 0] 34)).drew).keep hb5; have hh5 := (((HH2.out).alloc (.cells #[.int .i64 0, .int .u64 0] 34)).drew).keep hb5; have he5 := errV_keep (errV_keep (errV_keep (HE2.out) ((Below.refl _ _).alloc (Nat.le_refl _) (.cells #[.int .i64 0, .int .u64 0] 34))) (Below.refl _ _).drew) hb5; have HG34 := Lib.hid (((Blk.new w2 34 #[.int .i64 0, .int .u64 0]).drew).keep hb5); have y0 := HG34.out.cell 0; have y1 := HG34.out.cell 1; have fy := HG34.out.frozen; simp only [List.getElem?_toArray, List.getElem?_cons_zero, List.getElem?_cons_succ] at y0 y1; have hz5 := hb5.size; (try simp at hz5); have l5 : w2.heap.size < w5.heap.size := (by omega); have l6 : ¬ w2.heap.size = w5.heap.size := (by omega); have l7 : ¬ w5.heap.size = w2.heap.size := (by omega); have HPO := Lib.hid (Post.mk (N := w2.heap.size) hPre hh5 he5 hr5 HLT.out.1 HLT.out.2.1 HLT.out.2.2.1 HLT.out.2.2.2.1 HLT.out.2.2.2.2); have HK5 := Lib.hid hk5; clear hPre hk5 hh5 he5 hr5 hb5 hz5)
            | (go_at_call 23; have hcc := HRD.out (((w2.alloc (.cells #[.slice none 0 0, .slice none 0 0, .slice none 0 0, .int .u64 0] 30)).alloc (.cells #[.int .i64 0, .int .u64 0] 34)).drew) _ ⟨A0, A1, A2, j0, j1, j2, rfl, ((((HP2.out).alloc (.cells #[.slice none 0 0, .slice none 0 0, .slice none 0 0, .int .u64 0] 30)).alloc (.cells #[.int .i64 0, .int .u64 0] 34)).drew).rf⟩; (with_reducible refine hcc.mono ?_); clear hcc; rintro e w5 ⟨⟨v5, rfl, C0, C1, C2, i0, i1, i2, hv5, hr5⟩, hb5⟩; subst hv5; have hPre := ((((HP2.out).alloc (.cells #[.slice none 0 0, .slice none 0 0, .slice none 0 0, .int .u64 0] 30)).alloc (.cells #[.int .i64 0, .int .u64 0] 34)).drew).keep hb5; have hk5 := ((((HK2.out).alloc (.cells #[.slice none 0 0, .slice none 0 0, .slice none 0 0, .int .u64 0] 30)).alloc (.cells #[.int .i64 0, .int .u64 0] 34)).drew).keep hb5; have hh5 := ((((HH2.out).alloc (.cells #[.slice none 0 0, .slice none 0 0, .slice none 0 0, .int .u64 0] 30)).alloc (.cells #[.int .i64 0, .int .u64 0] 34)).drew).keep hb5; have he5 := errV_keep (errV_keep (errV_keep (errV_keep (HE2.out) ((Below.refl _ _).alloc (Nat.le_refl _) (.cells #[.slice none 0 0, .slice none 0 0, .slice none 0 0, .int .u64 0] 30))) ((Below.refl _ _).alloc (Nat.le_refl _) (.cells #[.int .i64 0, .int .u64 0] 34))) (Below.refl _ _).drew) hb5; have HG30 := Lib.hid ((((Blk.new w2 30 #[.slice none 0 0, .slice none 0 0, .slice none 0 0, .int .u64 0]).alloc (.cells #[.int .i64 0, .int .u64 0] 34)).drew).keep hb5); have hx := ((Blk.new (w2.alloc (.cells #[.slice none 0 0, .slice none 0 0, .slice none 0 0, .int .u64 0] 30)) 34 #[.int .i64 0, .int .u64 0]).drew).keep hb5; rw [HS30.out] at hx; have HG34 := Lib.hid hx; clear hx; have g0 := HG30.out.cell 0; have g1 := HG30.out.cell 1; have g2 := HG30.out.cell 2; have g3 := HG30.out.cell 3; have fg := HG30.out.frozen; simp only [List.getElem?_toArray, List.getElem?_cons_zero, List.getElem?_cons_succ] at g0 g1 g2 g3; have y0 := HG34.out.cell 0; have y1 := HG34.out.cell 1; have fy := HG34.out.frozen; simp only [List.getElem?_toArray, List.getElem?_cons_zero, List.getElem?_cons_succ] at y0 y1; have hz5 := hb5.size; (try simp at hz5); have l5 : w2.heap.size < w5.heap.size := (by omega); have l6 : ¬ w2.heap.size = w5.heap.size := (by omega); have l7 : ¬ w5.heap.size = w2.heap.size := (by omega); have l8 : w2.heap.size + 1 < w5.heap.size := (by omega); have HPO := Lib.hid (Post.mk (N := w2.heap.size) hPre hh5 he5 hr5 HLT.out.1 HLT.out.2.1 HLT.out.2.2.1 HLT.out.2.2.2.1 HLT.out.2.2.2.2); have HK5 := Lib.hid hk5; clear hPre hk5 hh5 he5 hr5 hb5 hz5)
            | (go_at_call 23; have hcc := HRD.out (((w2.alloc (.cells #[.int .i64 0, .int .u64 0] 34)).alloc (.cells #[.slice none 0 0, .slice none 0 0, .slice none 0 0, .int .u64 0] 30)).drew) _ ⟨A0, A1, A2, j0, j1, j2, rfl, ((((HP2.out).alloc (.cells #[.int .i64 0, .int .u64 0] 34)).alloc (.cells #[.slice none 0 0, .slice none 0 0, .slice none 0 0, .int .u64 0] 30)).drew).rf⟩; (with_reducible refine hcc.mono ?_); clear hcc; rintro e w5 ⟨⟨v5, rfl, C0, C1, C2, i0, i1, i2, hv5, hr5⟩, hb5⟩; subst hv5; have hPre := ((((HP2.out).alloc (.cells #[.int .i64 0, .int .u64 0] 34)).alloc (.cells #[.slice none 0 0, .slice none 0 0, .slice none 0 0, .int .u64 0] 30)).drew).keep hb5; have hk5 := ((((HK2.out).alloc (.cells #[.int .i64 0, .int .u64 0] 34)).alloc (.cells #[.slice none 0 0, .slice none 0 0, .slice none 0 0, .int .u64 0] 30)).drew).keep hb5; have hh5 := ((((HH2.out).alloc (.cells #[.int .i64 0, .int .u64 0] 34)).alloc (.cells #[.slice none 0 0, .slice none 0 0, .slice none 0 0, .int .u64 0] 30)).drew).keep hb5; have he5 := errV_keep (errV_keep (errV_keep (errV_keep (HE2.out) ((Below.refl _ _).alloc (Nat.le_refl _) (.cells #[.int .i64 0, .int .u64 0] 34))) ((Below.refl _ _).alloc (Nat.le_refl _) (.cells #[.slice none 0 0, .slice none 0 0, .slice none 0 0, .int .u64 0] 30))) (Below.refl _ _).drew) hb5; have HG34 := Lib.hid ((((Blk.new w2 34 #[.int .i64 0, .int .u64 0]).alloc (.cells #[.slice none 0 0, .slice none 0 0, .slice none 0 0, .int .u64 0] 30)).drew).keep hb5); have hx := ((Blk.new (w2.alloc (.cells #[.int .i64 0, .int .u64 0] 34)) 30 #[.slice none 0 0, .slice none 0 0, .slice none 0 0, .int .u64 0]).drew).keep hb5; rw [HS34.out] at hx; have HG30 := Lib.hid hx; clear hx; have g0 := HG30.out.cell 0; have g1 := HG30.out.cell 1; have g2 := HG30.out.cell 2; have g3 := HG30.out.cell 3; have fg := HG30.out.frozen; simp only [List.getElem?_toArray, List.getElem?_cons_zero, List.getElem?_cons_succ] at g0 g1 g2 g3; have y0 := HG34.out.cell 0; have y1 := HG34.out.cell 1; have fy := HG34.out.frozen; simp only [List.getElem?_toArray, List.getElem?_cons_zero, List.getElem?_cons_succ] at y0 y1; have hz5 := hb5.size; (try simp at hz5); have l5 : w2.heap.size < w5.heap.size := (by omega); have l6 : ¬ w2.heap.size = w5.heap.size := (by omega); have l7 : ¬ w5.heap.size = w2.heap.size := (by omega); have l8 : w2.heap.size + 1 < w5.heap.size := (by omega); have HPO := Lib.hid (Post.mk (N := w2.heap.size) hPre hh5 he5 hr5 HLT.out.1 HLT.out.2.1 HLT.out.2.2.1 HLT.out.2.2.2.1 HLT.out.2.2.2.2); have HK5 := Lib.hid hk5; clear hPre hk5 hh5 he5 hr5 hb5 hz5))
        all_goals (
          go_wp2_with fail
          go_meet
          first
            | (obtain ⟨m1, m2, m3⟩ := post_d HPO.out HG30.out (by first | (with_reducible exact Nat.le_refl _) | omega) HG34.out (by first | (with_reducible exact Nat.le_refl _) | omega) (by omega) (.slice C0 x'.gens.length i0) (.slice C1 x'.counts.length i1) (.slice C2 x'.free.length i2) (.int .u64 x'.last) (.int .i64 p.1) (.int .u64 p.2)
               (with_reducible exact Lib.hid ⟨_, _, C0, C1, C2, i0, i1, i2, rfl, rfl, rfl, rfl, m1, m2, m3, by omega, by omega⟩))
            | (obtain ⟨m1, m2, m3⟩ := post_c HPO.out HG30.out (Nat.le_refl _) (.slice C0 x'.gens.length i0) (.slice C1 x'.counts.length i1) (.slice C2 x'.free.length i2) (.int .u64 x'.last) (.int .i64 p.1) (.int .u64 p.2)
               (with_reducible exact Lib.hid ⟨_, _, C0, C1, C2, i0, i1, i2, rfl, rfl, rfl, rfl, m1, m2, m3, Nat.le_refl _, HK5.out.sz⟩))
            | (obtain ⟨m1, m2, m3⟩ := post_e HPO.out HG34.out (Nat.le_refl _) (.slice C0 x'.gens.length i0) (.slice C1 x'.counts.length i1) (.slice C2 x'.free.length i2) (.int .u64 x'.last) (.int .i64 p.1) (.int .u64 p.2)
               (with_reducible exact Lib.hid ⟨_, _, C0, C1, C2, i0, i1, i2, rfl, rfl, rfl, rfl, m1, m2, m3, HK5.out.sz, Nat.le_refl _⟩))
            | (obtain ⟨m1, m2, m3⟩ := post_a HPO.out (.slice C0 x'.gens.length i0) (.slice C1 x'.counts.length i1) (.slice C2 x'.free.length i2) (.int .u64 x'.last) (.int .i64 p.1) (.int .u64 p.2)
               (with_reducible exact Lib.hid ⟨_, _, C0, C1, C2, i0, i1, i2, rfl, rfl, rfl, rfl, m1, m2, m3, HK5.out.sz, Nat.le_succ_of_le HK5.out.sz⟩))
            | (obtain ⟨m1, m2, m3⟩ := post_b HPO.out (.slice C0 x'.gens.length i0) (.slice C1 x'.counts.length i1) (.slice C2 x'.free.length i2) (.int .u64 x'.last) (.int .i64 p.1) (.int .u64 p.2)
               (with_reducible exact Lib.hid ⟨_, _, C0, C1, C2, i0, i1, i2, rfl, rfl, rfl, rfl, m1, m2, m3, Nat.le_succ_of_le HK5.out.sz, HK5.out.sz⟩)))
      case rest =>
        obtain ⟨g30, g34, C0, C1, C2, i0, i1, i2, rfl, rfl, rfl, rfl, hP, h30, h34, hn30, hn34⟩ := hcut.out
        clear hcut HP2 HH2 HE2 HDO HRD q0 q1 q2 q3 q4 q5 q6 HK2
        have nx := hP.nx
        have t0 := h30.cell 0
        have t1 := h30.cell 1
        have t2 := h30.cell 2
        have t3 := h30.cell 3
        have d0 := hP.st.box.cell 0
        have d1 := hP.st.box.cell 1
        have d2 := hP.st.box.cell 2
        have d3 := hP.st.box.cell 3
        have fd := hP.st.box.frozen
        simp only [List.getElem?_toArray, List.getElem?_cons_zero, List.getElem?_cons_succ] at t0 t1 t2 t3 d0 d1 d2 d3
        have x1 : ¬ g30 = gx := by omega
        have x2 : ¬ gx = g30 := by omega
        obtain ⟨m1, m2, m3, m4⟩ := hP.next h34
        have M1 := Lib.hid m1
        have MC := Lib.hid (CSt.mk m2 m3 m1.box)
        have M4 := Lib.hid m4
        clear hP h30 h34 hn30 hn34 m1 m2 m3 m4 nx
        go_wp2_with fail
        generalize (((wc.setCell ⟨gx, 0, none⟩ (.slice C0 x'.gens.length i0)).setCell ⟨gx, 1, none⟩ (.slice C1 x'.counts.length i1)).setCell ⟨gx, 2, none⟩ (.slice C2 x'.free.length i2)).setCell ⟨gx, 3, none⟩ (.int .u64 x'.last) = w6 at M1 MC M4 ⊢
        clear t0 t1 t2 t3 d0 d1 d2 d3 fd x1 x2
        obtain ⟨c0, c1, c2, c3, c4, c5, c6, c7⟩ := MC.out.s
        have HLM := Lib.hid (show s'.live = (x'.many : Int) from HRO.out.sim.live)
        have HLF := Lib.hid (show s'.left = (x'.free.length : Int) from HRO.out.sim.left)
        go_region_held3 (fun w' => w'.cell? ⟨hbx, 0, none⟩ = some (.int .i64 p.1) ∧ w'.cell? ⟨hbx, 1, none⟩ = some (.int .u64 p.2) ∧ w'.cell? ⟨g34, 0, none⟩ = some (.int .i64 p.1) ∧ w'.cell? ⟨g34, 1, none⟩ = some (.int .u64 p.2) ∧ w'.cell? ⟨gx, 0, none⟩ = some (.slice C0 x'.gens.length i0) ∧ w'.cell? ⟨gx, 1, none⟩ = some (.slice C1 x'.counts.length i1) ∧ w'.cell? ⟨gx, 2, none⟩ = some (.slice C2 x'.free.length i2) ∧ w'.cell? ⟨gx, 3, none⟩ = some (.int .u64 x'.last))
          (first | ((refine CSt.s ?_; with_reducible (first | exact MC.out | exact MC.out.drew | exact MC7.out | exact MC8.out))))
          (first
            | (go_at_call 11; refine (code_errV (errV_keep M4.out (Below.refl _ _).drew) ((HE.out.keep M1.out.be).keep (Below.refl _ _).drew)).mono ?_; rintro e w7 ⟨rfl, hb7⟩; have M7 := Lib.hid (M1.out.drew.keep hb7); have MC7 := Lib.hid (MC.out.drew.keep hb7); clear hb7)
            | (go_at_call 14; have hcc := slots_live M7.out.at_; rw [HLM.out] at hcc; refine hcc.mono ?_; clear hcc; rintro e w' ⟨rfl, rfl⟩)
            | (go_at_call 24; refine (ref_many (x := x') ⟨C0, C1, C2, i0, i1, i2, rfl, M7.out.rf⟩).mono ?_; rintro e w8 ⟨rfl, hb8⟩; have M8 := Lib.hid (M7.out.keep hb8); have MC8 := Lib.hid (MC7.out.keep hb8); clear hb8)
            | (go_at_call 15; have hcc := slots_left M8.out.at_; rw [HLF.out] at hcc; refine hcc.mono ?_; clear hcc; rintro e w' ⟨rfl, rfl⟩))
        go_wp2
        go_roundw
        case rel => exact ⟨k + 1, by go_num, by omega, Lib.hid ⟨_, _, _, _, _, _, _, _, M8.out, HRO.out⟩⟩
        case measure => simp [intOf]; omega
    · obtain rfl : k = l.length := by omega
      have d0 := hst.box.cell 0
      have d1 := hst.box.cell 1
      have d2 := hst.box.cell 2
      have d3 := hst.box.cell 3
      have r0 := hst.res.cell 0
      have r1 := hst.res.cell 1
      have r2 := hst.res.cell 2
      have r3 := hst.res.cell 3
      have fr := hst.res.frozen
      simp only [List.getElem?_toArray, List.getElem?_cons_zero, List.getElem?_cons_succ] at d0 d1 d2 d3 r0 r1 r2 r3
      have hx2 := hst.hx
      have y1 : ¬ gx = w.heap.size + 1 := by omega
      have y2 : ¬ w.heap.size + 1 = gx := by omega
      have HST := Lib.hid hst
      have HRO := Lib.hid hro
      clear hst hro
      go_wp2
      go_region
      go_wp2
      obtain ⟨hd1, hd2, hd3, hd4⟩ := HST.out.done
      refine bodyPost_ret (results_tmp_cell_tmp rfl _ _ (w.heap.size + 1) 30 _ (0, 0) _ rfl hd1 Tryd.underlying30 rfl (by kernel_rfl)) rfl ?_
      exact ⟨Lib.hid ⟨b, g, _, s, x, rfl, hd2, ⟨A0, A1, A2, j0, j1, j2, rfl, hd3⟩, HRO.out.sim, HRO.out.small, HRO.out.len, HRO.out.last, by have := HST.out.hb; omega, by have := HST.out.hg; omega⟩, hd4⟩
end Go.Proofs.YtkmmnmicmjohgaaDoor
