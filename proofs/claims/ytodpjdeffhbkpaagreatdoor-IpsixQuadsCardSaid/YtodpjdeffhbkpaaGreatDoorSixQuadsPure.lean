/- The texts of IpsixQuads, plain. -/
import Derived.Test.YtodpjdeffhbkpaaGreatDoorSixQuads
import Derived.Test.YtodpjdeffhbkpaaGreatDoorBytes
set_option linter.unusedVariables false
set_option linter.unusedSimpArgs false
namespace Go.Proofs.YtodpjdeffhbkpaaGreatDoor.Six
open Go.Lib Four

def preL (a : List Nat) : List UInt8 := a.flatMap fun n => hexL n ++ [58]
theorem pre_join : ∀ (a : List Nat) (q : List UInt8), preL a ++ q = joinC (a.map hexL ++ [q])
  | [], q => rfl
  | n :: a, q => by
    rw [List.map_cons, List.cons_append, joinC_cons _ (by simp), ← pre_join a q]
    simp [preL]
theorem pre_snoc (a : List Nat) (n : Nat) : preL (a ++ [n]) = preL a ++ hexL n ++ [58] := by
  simp [preL]
theorem pre_len : ∀ a : List Nat, (∀ n ∈ a, n < 65536) → (preL a).length ≤ 5 * a.length
  | [], _ => by simp [preL]
  | n :: a, h => by
    have h1 := (hex_len4 (h n (List.mem_cons_self ..))).2
    have h2 := pre_len a (fun m hm => h m (List.mem_cons_of_mem _ hm))
    have e : preL (n :: a) = hexL n ++ [58] ++ preL a := by simp [preL]
    rw [e]
    simp
    omega
theorem quadT_len (n0 n1 n2 n3 : Nat) (h0 : n0 ≤ 255) (h1 : n1 ≤ 255) (h2 : n2 ≤ 255) (h3 : n3 ≤ 255) : (quadT n0 n1 n2 n3).length ≤ 43 := by
  have l0 := (dec_len2 n0 9 (by omega)).2
  have l1 := (dec_len2 n1 9 (by omega)).2
  have l2 := (dec_len2 n2 9 (by omega)).2
  have l3 := (dec_len2 n3 9 (by omega)).2
  unfold quadT
  simp only [List.length_append, List.length_cons]
  omega
theorem quads_x (a : List Nat) (h8 : a.length = 8) (ha : ∀ n ∈ a, n < 65536) (n0 n1 n2 n3 : Nat) (h0 : n0 ≤ 255) (h1 : n1 ≤ 255) (h2 : n2 ≤ 255) (h3 : n3 ≤ 255) :
    parse6 (preL (a.take 6) ++ quadT n0 n1 n2 n3) = some (a.take 6 ++ [256 * n0 + n1, 256 * n2 + n3]) := by
  rw [pre_join, parse_pieces_quad (a.take 6) (fun n hn => ha n (List.mem_of_mem_take hn)) (fun e => by have := congrArg List.length e; simp [h8] at this) _ _ (pieceP_quadT n0 n1 n2 n3 h0 h1 h2 h3) (quadT_colon _ _ _ _) (quadT_ne _ _ _ _)]
  rw [if_pos (by simp [h8])]
theorem quads_z (a : List Nat) (h8 : a.length = 8) (ha : ∀ n ∈ a, n < 65536) (n0 n1 n2 n3 : Nat) (h0 : n0 ≤ 255) (h1 : n1 ≤ 255) (h2 : n2 ≤ 255) (h3 : n3 ≤ 255) :
    parse6 (preL (a.take 6) ++ [48, 58] ++ quadT n0 n1 n2 n3) = none := by
  have e : preL (a.take 6) ++ [48, 58] = preL (a.take 6 ++ [0]) := by
    rw [pre_snoc, hex_lt (by decide)]
    simp [hexd]
  rw [e, pre_join, parse_pieces_quad (a.take 6 ++ [0]) (fun n hn => by
    rcases List.mem_append.1 hn with hn | hn
    · exact ha n (List.mem_of_mem_take hn)
    · rw [List.mem_singleton.1 hn]; decide) (by simp) _ _ (pieceP_quadT n0 n1 n2 n3 h0 h1 h2 h3) (quadT_colon _ _ _ _) (quadT_ne _ _ _ _)]
  rw [if_neg (by simp [h8])]
end Go.Proofs.YtodpjdeffhbkpaaGreatDoor.Six
