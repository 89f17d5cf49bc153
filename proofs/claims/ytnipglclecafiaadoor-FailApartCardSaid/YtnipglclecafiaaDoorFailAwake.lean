/- Two calls that wrap an error: what each law of errors begins with. -/
import Derived.Test.YtnipglclecafiaaDoorFailAll
set_option linter.unusedVariables false
set_option linter.unusedSimpArgs false
namespace Go.Proofs.YtnipglclecafiaaDoor
open Go.RowKit

theorem chain_inv {w : World} {s : ByteArray} {l : List ByteArray} {v : Value} {c : Int} (h : Chain w (s :: l) v c) : ∃ g v2, v = .iface 40 (.pointer (some ⟨g, 0, none⟩)) ∧ Blk w g 45 #[.string s, v2] ∧ Chain w l v2 c := by
  cases h with
  | fail g _ _ v2 _ hg hv => exact ⟨g, v2, rfl, hg, hv⟩
/-- fail.All of one call at least: a Fail. -/
theorem all_cons (A : Option Addr) (cap : Nat) (calls : List ByteArray) (c : Int) (w : World) (h : RowAt sC 1 w A calls) (hlc : calls.length ≤ cap) (hcm : cap ≤ maxLen) (hc : c ≠ 0) (s : ByteArray) (l : List ByteArray) (hl : calls.reverse = s :: l) :
    Calls Tryd.prog 11 #[.slice A calls.length cap, .int .i64 c] w fun e w' => (∃ g v2, e = .returned (.iface 40 (.pointer (some ⟨g, 0, none⟩))) ∧ Blk w' g 45 #[.string s, v2] ∧ Chain w' l v2 c) ∧ Below w.heap.size w w' := by
  refine (all_calls A cap calls c w h hlc hcm hc _ hl).mono ?_
  rintro e w' ⟨⟨v, rfl, hv⟩, hb⟩
  obtain ⟨g, v2, rfl, h1, h2⟩ := chain_inv hv
  exact ⟨⟨g, v2, rfl, h1, h2⟩, hb⟩
theorem all_num (A : Option Addr) (cap : Nat) (c : Int) (w : World) (hcm : cap ≤ maxLen) (hc : c ≠ 0) :
    Calls Tryd.prog 11 #[.slice A 0 cap, .int .i64 c] w fun e w' => e = .returned (.iface 25 (.int .i64 c)) ∧ Below w.heap.size w w' := by
  refine (all_calls A cap [] c w (fun i x hx => by simp at hx) (Nat.zero_le _) hcm hc [] rfl).mono ?_
  rintro e w' ⟨⟨v, rfl, hv⟩, hb⟩
  cases hv
  exact ⟨rfl, hb⟩
/-- fail.Calls of an error. -/
theorem calls_of {l : List ByteArray} {v : Value} {c : Int} {w : World} (h : Chain w l v c) (hG : ErrType w) (hlen : l.length ≤ 1000) :
    Calls Tryd.prog 16 #[v] w fun e w' => (∃ A cap, e = .returned (.slice A l.length cap) ∧ RowAt sC 1 w' A l ∧ l.length ≤ cap ∧ cap ≤ maxLen) ∧ Below w.heap.size w w' := by
  obtain ⟨gs, hg⟩ := h.toG
  refine (calls_chain v gs l _ w hg hG hlen).mono ?_
  rintro e w' ⟨⟨u, rfl, ho⟩, hb⟩
  obtain ⟨A, cap, rfl, h1, h2, h3, _⟩ := ho.row sC_len
  exact ⟨⟨A, cap, rfl, h1, h2, h3⟩, hb⟩
theorem blk_chain {w : World} {g : Nat} {s : ByteArray} {v2 : Value} {l : List ByteArray} {c : Int} (hb : Blk w g 45 #[.string s, v2]) (h : Chain w l v2 c) : Chain w (s :: l) (.iface 40 (.pointer (some ⟨g, 0, none⟩))) c := .fail g s l v2 c hb h

def sHost : ByteArray := ⟨#[104, 111, 115, 116]⟩
def sParse : ByteArray := ⟨#[112, 97, 114, 115, 101]⟩
theorem two_strs (w : World) : RowAt sC 1 (w.alloc (.cells #[.string sHost, .string sParse] 9)) (some ⟨w.heap.size, 0, none⟩) [sHost, sParse] := by
  intro i x hx
  refine ⟨w.heap.size, 0, rfl, fun j u hu => ?_⟩
  rw [(Blk.new w _ _).cell]
  have hj : j = 0 := by have := (List.getElem?_eq_some_iff.1 hu).1; simp [sC] at this; omega
  subst hj
  have hi := (List.getElem?_eq_some_iff.1 hx).1
  simp only [List.length_cons, List.length_nil] at hi
  have hi2 : i = 0 ∨ i = 1 := by omega
  rcases hi2 with rfl | rfl <;> (cases hx; cases hu; rfl)
set_option maxHeartbeats 2000000 in
theorem awake_calls (w : World) (hG : ErrType w) : Calls Tryd.prog 8 #[] w fun e w' => e = .returned (.bool true) ∧ Below w.heap.size w w' := by
  have hmF := fun v w => methodErrF (213 - 1) v w
  have hmE := fun v w => methodErrE (213 - 1) v w
  simp only [Nat.reduceSub, Nat.reduceAdd] at hmF hmE
  obtain ⟨T, hT⟩ : ∃ T, T = errText [sParse, sHost] (word 3) := ⟨_, rfl⟩
  have hq : (T.toList == ([112, 97, 114, 115, 101, 58, 32, 104, 111, 115, 116, 58, 32, 104, 111, 115, 116] : List UInt8)) = true := by rw [hT]; kernel_rfl
  have hq2 : (sParse.toList == ([112, 97, 114, 115, 101] : List UInt8)) = true := by kernel_rfl
  have HT := Lib.hid hT
  have HG := Lib.hid hG
  clear hT hG
  have hb0 := (Below.refl w.heap.size w).alloc (Nat.le_refl _) (.cells #[.string sHost, .string sParse] 9)
  have HALL := Lib.hid (all_cons (some ⟨w.heap.size, 0, none⟩) 2 [sHost, sParse] 3 _ (two_strs w) (Nat.le_refl _) (by simp [maxLen]) (by decide) sParse [sHost] rfl)
  have HB0 := Lib.hid hb0
  clear hb0
  go_enter Tryd.func8, Tryd.ntmps8
  go_wp2_with (first
    | (go_at_call 11; refine HALL.out.mono ?_; rintro e w1 ⟨⟨g, v2, rfl, hgb, hch⟩, hb⟩; have HB1 := Lib.hid (belowOn HB0.out HB0.out.size hb); have HGB := Lib.hid hgb; have HCH := Lib.hid hch; clear hb hgb hch)
    | (go_at_call 16; refine (calls_of (blk_chain HGB.out HCH.out) (HG.out.keep HB1.out) (by simp)).mono ?_; rintro e w2 ⟨⟨A, cap, rfl, hrow, hlc, hcm⟩, hb⟩; have HR2 := Lib.hid hrow; have HB2 := Lib.hid (belowOn HB1.out HB1.out.size hb); have HGB2 := Lib.hid (HGB.out.keep hb); have HCH2 := Lib.hid (HCH.out.keep hb); clear hb hrow)
    | (go_at_call 22; refine (error_chain 3 (by decide) (by decide) [sHost] sParse v2 w2 g HCH2.out HGB2.out ⟨by simp, by intro s hs; simp at hs; rcases hs with rfl | rfl <;> decide⟩).mono ?_; rw [← HT.out]; rintro e w3 ⟨rfl, hb⟩; have HR3 := Lib.hid (HR2.out.keep hb); have HB3 := Lib.hid (belowOn HB2.out HB2.out.size hb); have HC3 := Lib.hid ((blk_chain HGB2.out HCH2.out).keep hb); clear hb)
    | (go_at_call_of 18 (Value.int .i64 3); refine (is_chain _ _ 3 3 _ HC3.out).mono ?_; rintro e w' ⟨rfl, rfl⟩)
    | (go_at_call_of 18 (Value.int .i64 4); refine (is_chain _ _ 3 4 _ HC3.out).mono ?_; rintro e w' ⟨rfl, rfl⟩)
    | (go_at_call_of 14 (Value.nilIface); refine (code_nil _).mono ?_; rintro e w5 ⟨rfl, hb⟩; have HB5 := Lib.hid (belowOn HB4.out HB4.out.size hb); clear hb)
    | (go_at_call 14; refine (code_chain _ _ 3 _ HC3.out (HG.out.keep HB3.out)).mono ?_; rintro e w4 ⟨rfl, hb⟩; have HB4 := Lib.hid (belowOn HB3.out HB3.out.size hb); obtain ⟨b4, off4, rfl, l04⟩ := str_at (HR3.out.keep hb) (i := 0) (a := sParse) rfl; simp only [Nat.add_zero] at l04; clear hb))
  go_ret
  exact ⟨rfl, HB5.out⟩
end Go.Proofs.YtnipglclecafiaaDoor
