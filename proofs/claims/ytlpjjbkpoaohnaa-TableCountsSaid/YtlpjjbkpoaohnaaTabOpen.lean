/- The acts that a law of the table is handed, opened. -/
import Derived.Test.YtlpjjbkpoaohnaaRow
import Derived.Test.YtlpjjbkpoaohnaaOpen
import Derived.Test.YtlpjjbkpoaohnaaTabAwake
set_option linter.unusedVariables false
set_option linter.unusedSimpArgs false
set_option maxRecDepth 100000
namespace Go.Proofs.Ytlpjjbkpoaohnaa
open Go.RowKit Go.ChangeShapes Go.WideShapes Go.Deep

/-- A URL's cells. -/
structure UrlV where
  (scheme user pass : ByteArray)
  kind : Int
  name : ByteArray
  (v4 a0 a1 a2 a3 a4 a5 a6 a7 port : Int)
  opq : Bool
  A : Option Addr
  (n c : Nat)
  hq : Bool
  query : ByteArray
  hf : Bool
  frag : ByteArray
def UrlV.cells (u : UrlV) : List Value := [.string u.scheme, .string u.user, .string u.pass, .int .i64 u.kind, .string u.name, .int .u32 u.v4, .int .u16 u.a0, .int .u16 u.a1, .int .u16 u.a2, .int .u16 u.a3, .int .u16 u.a4, .int .u16 u.a5, .int .u16 u.a6, .int .u16 u.a7, .int .i64 u.port, .bool u.opq, .slice u.A u.n u.c, .bool u.hq, .string u.query, .bool u.hf, .string u.frag]
def UrlV.arr (u : UrlV) : Array Value := u.cells.toArray
theorem UrlV.ok (u : UrlV) : UrlOk u.arr := ⟨rfl, by simp [UrlV.arr, UrlV.cells, Value.oneCell']⟩
/-- An act's cells. -/
structure ActV where
  k : Int
  key : ByteArray
  u : UrlV
  (hk hc hd : Int)
def ActV.cells (a : ActV) : List Value := [.int .u8 a.k, .string a.key] ++ a.u.cells ++ [.int .u8 a.hk, .int .u8 a.hc, .int .u8 a.hd]
def ActV.ok (a : ActV) : Prop := (0 ≤ a.k ∧ a.k ≤ 255) ∧ (0 ≤ a.hk ∧ a.hk ≤ 255) ∧ (0 ≤ a.hc ∧ a.hc ≤ 255) ∧ (0 ≤ a.hd ∧ a.hd ≤ 255)
theorem act_len (a : ActV) : a.cells.length = 26 := rfl

section
variable {H : Type} {enc : TypeId × Value → H} {P : Program} {w : World} {base : Nat} {spare : Nat → Bool} {held : Bool}
/-- A field's cells, whatever their number. -/
theorem struct_part {t : TypeId} {fs : Array Field} {n : Nat} {cs : List Value} {y : DataW H × List MemPlace} (ht : P.underlying t = some (.struct fs)) (h : DataW.trod enc P w base spare held n t cs = some y) (j : Nat) (f : Field) (hj : fs[j]? = some f) (sz : Nat) (hc : P.cellsOf f.type = sz) :
    ∃ m z, DataW.trod enc P w base spare held m f.type ((cs.drop f.offset).take sz) = some z := by
  obtain ⟨xs, m, _, _, _, hxl, hf⟩ := DataW.trod_struct ht h
  have h1 := hf j f hj
  have hl : j < xs.length := by have := (Array.getElem?_eq_some_iff.1 hj).1; omega
  rw [List.getElem?_eq_getElem hl, hc] at h1
  exact ⟨m, _, h1⟩
end
section
variable {H : Type} {enc : TypeId × Value → H} {w : World} {base : Nat} {spare : Nat → Bool} {held : Bool}
theorem wf_u8 {n : Int} (h : (Lit.int .u8 n).wf = true) : 0 ≤ n ∧ n ≤ 255 := by simp only [Lit.wf, Bool.and_eq_true, decide_eq_true_eq] at h; exact h
theorem cell_str {n : Nat} {c : Value} {y : DataW H × List MemPlace} (ht : DataW.trod enc Try.prog w base spare held n 9 [c] = some y) : ∃ s, c = .string s := by
  obtain ⟨k, e, _⟩ := DataW.trod_string Try.underlying9 ht
  simp only [List.cons.injEq, and_true] at e
  exact ⟨k, e⟩
theorem cell_bool {n : Nat} {c : Value} {y : DataW H × List MemPlace} (ht : DataW.trod enc Try.prog w base spare held n 4 [c] = some y) : ∃ s, c = .bool s := by
  obtain ⟨k, e, _⟩ := DataW.trod_bool Try.underlying4 ht
  simp only [List.cons.injEq, and_true] at e
  exact ⟨k, e⟩
theorem cell_int {n : Nat} {c : Value} {y : DataW H × List MemPlace} (ht : DataW.trod enc Try.prog w base spare held n 3 [c] = some y) : ∃ s, c = .int .i64 s := by
  obtain ⟨k, e, _⟩ := DataW.trod_int Try.underlying3 ht
  simp only [List.cons.injEq, and_true] at e
  exact ⟨k, e⟩
theorem cell_u8 {n : Nat} {c : Value} {y : DataW H × List MemPlace} (ht : DataW.trod enc Try.prog w base spare held n 5 [c] = some y) : ∃ s, c = .int .u8 s ∧ 0 ≤ s ∧ s ≤ 255 := by
  obtain ⟨k, e, _, hw⟩ := DataW.trod_int Try.underlying5 ht
  simp only [List.cons.injEq, and_true] at e
  exact ⟨k, e, wf_u8 hw⟩
theorem cell_u16 {n : Nat} {c : Value} {y : DataW H × List MemPlace} (ht : DataW.trod enc Try.prog w base spare held n 25 [c] = some y) : ∃ s, c = .int .u16 s := by
  obtain ⟨k, e, _⟩ := DataW.trod_int Try.underlying25 ht
  simp only [List.cons.injEq, and_true] at e
  exact ⟨k, e⟩
theorem cell_u32 {n : Nat} {c : Value} {y : DataW H × List MemPlace} (ht : DataW.trod enc Try.prog w base spare held n 24 [c] = some y) : ∃ s, c = .int .u32 s := by
  obtain ⟨k, e, _⟩ := DataW.trod_int Try.underlying24 ht
  simp only [List.cons.injEq, and_true] at e
  exact ⟨k, e⟩
theorem cell_strs {n : Nat} {c : Value} {y : DataW H × List MemPlace} (ht : DataW.trod enc Try.prog w base spare held n 29 [c] = some y) : ∃ A m k, c = .slice A m k := by
  rcases open_slice Try.underlying29 ht with ⟨hcs, _⟩ | ⟨a, len, cap, m, nn, D, Pl, hcs, _⟩
  · simp only [List.cons.injEq, and_true] at hcs
    exact ⟨_, _, _, hcs⟩
  · simp only [List.cons.injEq, and_true] at hcs
    exact ⟨_, _, _, hcs⟩
theorem cell_hex {n : Nat} {b0 b1 b2 b3 b4 b5 b6 b7 : Value} {y : DataW H × List MemPlace} (ht : DataW.trod enc Try.prog w base spare held n 26 [b0, b1, b2, b3, b4, b5, b6, b7] = some y) :
    ∃ a0 a1 a2 a3 a4 a5 a6 a7 : Int, b0 = .int .u16 a0 ∧ b1 = .int .u16 a1 ∧ b2 = .int .u16 a2 ∧ b3 = .int .u16 a3 ∧ b4 = .int .u16 a4 ∧ b5 = .int .u16 a5 ∧ b6 = .int .u16 a6 ∧ b7 = .int .u16 a7 := by
  obtain ⟨xs, m, _, _, _, hxl, hf⟩ := DataW.trod_array Try.underlying26 ht
  have hc : Try.prog.cellsOf 25 = 1 := by kernel_rfl
  rw [hc] at hf
  have key : ∀ i (c : Value), i < 8 → ([b0, b1, b2, b3, b4, b5, b6, b7].drop (i * 1)).take 1 = [c] → ∃ s, c = .int .u16 s := fun i c hi e => by
    have h1 := hf i hi
    rw [e, List.getElem?_eq_getElem (by omega)] at h1
    exact cell_u16 h1
  obtain ⟨a0, h0⟩ := key 0 b0 (by omega) rfl
  obtain ⟨a1, h1⟩ := key 1 b1 (by omega) rfl
  obtain ⟨a2, h2⟩ := key 2 b2 (by omega) rfl
  obtain ⟨a3, h3⟩ := key 3 b3 (by omega) rfl
  obtain ⟨a4, h4⟩ := key 4 b4 (by omega) rfl
  obtain ⟨a5, h5⟩ := key 5 b5 (by omega) rfl
  obtain ⟨a6, h6⟩ := key 6 b6 (by omega) rfl
  obtain ⟨a7, h7⟩ := key 7 b7 (by omega) rfl
  exact ⟨a0, a1, a2, a3, a4, a5, a6, a7, h0, h1, h2, h3, h4, h5, h6, h7⟩
theorem url_cells {n : Nat} {cs : List Value} {y : DataW H × List MemPlace} (hl : cs.length = 21) (ht : DataW.trod enc Try.prog w base spare held n 31 cs = some y) : ∃ x : UrlV, cs = x.cells := by
  match cs, hl with
  | [c0, c1, c2, c3, c4, c5, b0, b1, b2, b3, b4, b5, b6, b7, c14, c15, c16, c17, c18, c19, c20], _ =>
    have U := Try.underlying31
    obtain ⟨_, _, t0⟩ := struct_part U ht 0 _ rfl 1 (by kernel_rfl)
    obtain ⟨_, _, t1⟩ := struct_part U ht 1 _ rfl 1 (by kernel_rfl)
    obtain ⟨_, _, t2⟩ := struct_part U ht 2 _ rfl 1 (by kernel_rfl)
    obtain ⟨_, _, t3⟩ := struct_part U ht 3 _ rfl 11 (by kernel_rfl)
    obtain ⟨_, _, t4⟩ := struct_part U ht 4 _ rfl 1 (by kernel_rfl)
    obtain ⟨_, _, t5⟩ := struct_part U ht 5 _ rfl 1 (by kernel_rfl)
    obtain ⟨_, _, t6⟩ := struct_part U ht 6 _ rfl 1 (by kernel_rfl)
    obtain ⟨_, _, t7⟩ := struct_part U ht 7 _ rfl 1 (by kernel_rfl)
    obtain ⟨_, _, t8⟩ := struct_part U ht 8 _ rfl 1 (by kernel_rfl)
    obtain ⟨_, _, t9⟩ := struct_part U ht 9 _ rfl 1 (by kernel_rfl)
    obtain ⟨_, _, t10⟩ := struct_part U ht 10 _ rfl 1 (by kernel_rfl)
    have V := Try.underlying28
    obtain ⟨_, _, s0⟩ := struct_part V t3 0 _ rfl 1 (by kernel_rfl)
    obtain ⟨_, _, s1⟩ := struct_part V t3 1 _ rfl 1 (by kernel_rfl)
    obtain ⟨_, _, s2⟩ := struct_part V t3 2 _ rfl 1 (by kernel_rfl)
    obtain ⟨_, _, s3⟩ := struct_part V t3 3 _ rfl 8 (by kernel_rfl)
    obtain ⟨x0, rfl⟩ := cell_str (c := c0) t0
    obtain ⟨x1, rfl⟩ := cell_str (c := c1) t1
    obtain ⟨x2, rfl⟩ := cell_str (c := c2) t2
    obtain ⟨x3, rfl⟩ := cell_int (c := c3) s0
    obtain ⟨x4, rfl⟩ := cell_str (c := c4) s1
    obtain ⟨x5, rfl⟩ := cell_u32 (c := c5) s2
    obtain ⟨a0, a1, a2, a3, a4, a5, a6, a7, rfl, rfl, rfl, rfl, rfl, rfl, rfl, rfl⟩ := cell_hex (b0 := b0) (b1 := b1) (b2 := b2) (b3 := b3) (b4 := b4) (b5 := b5) (b6 := b6) (b7 := b7) s3
    obtain ⟨x14, rfl⟩ := cell_int (c := c14) t4
    obtain ⟨x15, rfl⟩ := cell_bool (c := c15) t5
    obtain ⟨A, m, k, rfl⟩ := cell_strs (c := c16) t6
    obtain ⟨x17, rfl⟩ := cell_bool (c := c17) t7
    obtain ⟨x18, rfl⟩ := cell_str (c := c18) t8
    obtain ⟨x19, rfl⟩ := cell_bool (c := c19) t9
    obtain ⟨x20, rfl⟩ := cell_str (c := c20) t10
    exact ⟨⟨x0, x1, x2, x3, x4, x5, a0, a1, a2, a3, a4, a5, a6, a7, x14, x15, A, m, k, x17, x18, x19, x20⟩, rfl⟩
theorem act_cells (n : Nat) (cs : List Value) (y : DataW H × List MemPlace) (hl : cs.length = 26) (ht : DataW.trod enc Try.prog w base spare held n 63 cs = some y) : ∃ x : ActV, cs = x.cells ∧ x.ok := by
  match cs, hl with
  | [d0, d1, c0, c1, c2, c3, c4, c5, b0, b1, b2, b3, b4, b5, b6, b7, c14, c15, c16, c17, c18, c19, c20, d2, d3, d4], _ =>
    have U := Try.underlying63
    obtain ⟨_, _, t0⟩ := struct_part U ht 0 _ rfl 1 (by kernel_rfl)
    obtain ⟨_, _, t1⟩ := struct_part U ht 1 _ rfl 1 (by kernel_rfl)
    obtain ⟨_, _, t2⟩ := struct_part U ht 2 _ rfl 21 (by kernel_rfl)
    obtain ⟨_, _, t3⟩ := struct_part U ht 3 _ rfl 3 (by kernel_rfl)
    have V := Try.underlying61
    obtain ⟨_, _, s0⟩ := struct_part V t3 0 _ rfl 1 (by kernel_rfl)
    obtain ⟨_, _, s1⟩ := struct_part V t3 1 _ rfl 1 (by kernel_rfl)
    obtain ⟨_, _, s2⟩ := struct_part V t3 2 _ rfl 1 (by kernel_rfl)
    obtain ⟨k, rfl, k1, k2⟩ := cell_u8 (c := d0) t0
    obtain ⟨key, rfl⟩ := cell_str (c := d1) t1
    obtain ⟨x, hx⟩ := url_cells (cs := [c0, c1, c2, c3, c4, c5, b0, b1, b2, b3, b4, b5, b6, b7, c14, c15, c16, c17, c18, c19, c20]) rfl t2
    obtain ⟨hk, rfl, h1, h2⟩ := cell_u8 (c := d2) s0
    obtain ⟨hc, rfl, h3, h4⟩ := cell_u8 (c := d3) s1
    obtain ⟨hd, rfl, h5, h6⟩ := cell_u8 (c := d4) s2
    refine ⟨⟨k, key, x, hk, hc, hd⟩, ?_, ⟨k1, k2⟩, ⟨h1, h2⟩, ⟨h3, h4⟩, h5, h6⟩
    show _ = [Value.int .u8 k, .string key] ++ x.cells ++ [.int .u8 hk, .int .u8 hc, .int .u8 hd]
    rw [← hx]
    rfl
theorem open_acts20 {v : Value} {d : DataW H} {ps : List MemPlace} {r : Reach} {b0 : Nat} (hv : Value.okWide Try.prog w r b0 22 v) (h : DataW.Trod enc Try.prog w base spare held 22 v d ps) :
    ∃ (A : Option Addr) (c : Nat) (l : List ActV), v = .slice A l.length c ∧ l.length ≤ c ∧ c ≤ maxLen ∧ RowAt ActV.cells 26 w A l ∧ ∀ x ∈ l, x.ok :=
  open_rows (P := Try.prog) ActV.cells 26 (fun _ x => x.ok) Try.underlying22 (by kernel_rfl) (by omega) act_cells hv h
end
end Go.Proofs.Ytlpjjbkpoaohnaa
