/- TableCounts: the law. -/
import Derived.Test.YtlpjjbkpoaohnaaTabCountsWalk
set_option linter.unusedVariables false
set_option linter.unusedSimpArgs false
set_option maxRecDepth 100000
namespace Go.Proofs.Ytlpjjbkpoaohnaa
open Go.RowKit Slots

section
variable {ops : Array Oper} {rest : List Oper} {op : Oper} {a : Act} {w : World} {Q : Exit → Act → World → Prop}
/-- A URL loaded by a guarded operation. -/
theorem wpList_load_urlG {b o : Nat} {u : Array Value} (h : w.rangeAt b o u.toList) (hu : u.size = 21) (x : Operand) (ho : op.op = .load 31 x) (hx : a.eval x = .pointer (some ⟨b, o, none⟩))
    (hw : Region.wanted op (yielded ops a.tmps) = true) (hK : wpList Try.prog ops Q rest (a.put op.dst (.agg u)) w) : wpList Try.prog ops Q (op :: rest) a w :=
  wpList_step fun K hK' => by
    rw [if_pos hw]
    exact wp_load_mid 31 x ho b o hx u.toList _ h Try.underlying31 rfl (by rw [info_url]; simp [hu]) (hK' _ _ (by simpa using hK))
end
set_option maxHeartbeats 4000000 in
theorem tablecounts_calls (n : Int) (hn : 0 ≤ n ∧ n ≤ 255) (k : ByteArray) (Al : Option Addr) (c : Nat) (l : List ActV) (w : World) (h : RowAt ActV.cells 26 w Al l) (hacts : ∀ a ∈ l, a.ok) (hlc : l.length ≤ c) (hcm : c ≤ maxLen) :
    Calls Try.prog 3 #[.int .u8 n, .string k, .slice Al l.length c] w fun e w' => e = .returned (.bool true) ∧ Below w.heap.size w w' := by
  obtain ⟨UK, hUK⟩ : ∃ UK : Array Value, UK = #[.string k, .string ⟨#[]⟩, .string ⟨#[]⟩, .int .i64 0, .string ⟨#[]⟩, .int .u32 0, .int .u16 0, .int .u16 0, .int .u16 0, .int .u16 0, .int .u16 0, .int .u16 0, .int .u16 0, .int .u16 0, .int .i64 0, .bool false, .slice none 0 0, .bool false, .string ⟨#[]⟩, .bool false, .string ⟨#[]⟩] := ⟨_, rfl⟩
  have HEQ := Lib.hid (show Value.agg UK = Value.agg #[.string k, .string ⟨#[]⟩, .string ⟨#[]⟩, .int .i64 0, .string ⟨#[]⟩, .int .u32 0, .int .u16 0, .int .u16 0, .int .u16 0, .int .u16 0, .int .u16 0, .int .u16 0, .int .u16 0, .int .u16 0, .int .i64 0, .bool false, .slice none 0 0, .bool false, .string ⟨#[]⟩, .bool false, .string ⟨#[]⟩] by rw [hUK])
  have HUK := Lib.hid (show UrlOk UK by rw [hUK]; exact urlS_ok k)
  have HC := Lib.hid (fun st (h1 : 1 ≤ st) (h2 : st ≤ 64) w' (hb : Below w.heap.size w w') => counts_calls n hn k UK HUK.out (by rw [hUK]; rfl) (by rw [hUK]; rfl) Al c l st h1 h2 w' (h.keep hb) hacts hlc hcm)
  clear h hacts hn hUK
  go_enter Try.func3, Try.ntmps3
  go_wp2_with fail
  refine (awake_calls _).mono ?_
  rintro e w1 ⟨rfl, hb⟩
  have H1 := Lib.hid hb
  have hz := Blk.new w1 31 #[.string ⟨#[]⟩, .string ⟨#[]⟩, .string ⟨#[]⟩, .int .i64 0, .string ⟨#[]⟩, .int .u32 0, .int .u16 0, .int .u16 0, .int .u16 0, .int .u16 0, .int .u16 0, .int .u16 0, .int .u16 0, .int .u16 0, .int .i64 0, .bool false, .slice none 0 0, .bool false, .string ⟨#[]⟩, .bool false, .string ⟨#[]⟩]
  have hZ := hz.setAll (us := UK) (by rw [HUK.out.1]; rfl)
  have HB2 := Lib.hid (below_setCells (g := w1.heap.size) H1.out.size UK.toList 0 _ (H1.out.alloc H1.out.size (.cells #[.string ⟨#[]⟩, .string ⟨#[]⟩, .string ⟨#[]⟩, .int .i64 0, .string ⟨#[]⟩, .int .u32 0, .int .u16 0, .int .u16 0, .int .u16 0, .int .u16 0, .int .u16 0, .int .u16 0, .int .u16 0, .int .u16 0, .int .i64 0, .bool false, .slice none 0 0, .bool false, .string ⟨#[]⟩, .bool false, .string ⟨#[]⟩] 31)))
  have HZ := Lib.hid hz
  have HZ2 := Lib.hid hZ
  have HR2 := Lib.hid (show ((w1.alloc (.cells #[.string ⟨#[]⟩, .string ⟨#[]⟩, .string ⟨#[]⟩, .int .i64 0, .string ⟨#[]⟩, .int .u32 0, .int .u16 0, .int .u16 0, .int .u16 0, .int .u16 0, .int .u16 0, .int .u16 0, .int .u16 0, .int .u16 0, .int .i64 0, .bool false, .slice none 0 0, .bool false, .string ⟨#[]⟩, .bool false, .string ⟨#[]⟩] 31)).setCells w1.heap.size 0 UK.toList).rangeAt w1.heap.size 0 UK.toList from fun j v hv => by rw [hZ.cell]; simpa using hv)
  have hu21 := HUK.out.1
  clear hb hz hZ
  go_wp2_with (first
    | (rw [← HEQ.out]; with_reducible (refine wpList_store_url (u := UK) HZ.out rfl HUK.out rfl _ _ rfl rfl rfl ?_))
    | (with_reducible (refine wpList_load_urlG HR2.out hu21 _ rfl rfl ?_ ?_); kernel_rfl))
  refine (HC.out 1 (by omega) (by omega) _ HB2.out).mono ?_
  rintro e w3 ⟨rfl, hb⟩
  have hZ3 := HZ2.out.keep hb
  have HB3 := Lib.hid (belowOn HB2.out HB2.out.size hb)
  have HR3 := Lib.hid (show w3.rangeAt w1.heap.size 0 UK.toList from fun j v hv => by rw [hZ3.cell]; simpa using hv)
  clear hb HZ HZ2 HB2 HR2 hZ3
  as_aux_lemma =>
    go_wp2_with (with_reducible (refine wpList_load_urlG HR3.out hu21 _ rfl rfl ?_ ?_); kernel_rfl)
    refine (HC.out 64 (by omega) (by omega) _ HB3.out).mono ?_
    rintro e w4 ⟨rfl, hb⟩
    have HB4 := Lib.hid (belowOn HB3.out HB3.out.size hb)
    clear hb
    go_wp2_with fail
    go_ret
    exact ⟨rfl, HB4.out⟩
end Go.Proofs.Ytlpjjbkpoaohnaa
