/- Rows of bytes and of strings. -/
import Derived.Test.YtcicjmhealkigaaC4
set_option linter.unusedVariables false
set_option linter.unusedSimpArgs false
namespace Go.Proofs.Hg
open Go.RowKit

theorem brow_get (s : List UInt8) (i : Nat) : ((brow s).getD i [.int .u8 0]).getD 0 .nilp = .int .u8 ((s.getD i 0).toNat : Int) := by
  simp only [brow, List.getD_eq_getElem?_getD, List.getElem?_map]
  cases s[i]? <;> rfl
theorem brow_nil : brow [] = [] := rfl
theorem brow_cons (b : UInt8) (s : List UInt8) : brow (b :: s) = [.int .u8 (b.toNat : Int)] :: brow s := rfl
theorem brow_drop (s : List UInt8) (n : Nat) : (brow s).drop n = brow (s.drop n) := by simp [brow, List.map_drop]
theorem brow_take (s : List UInt8) (n : Nat) : (brow s).take n = brow (s.take n) := by simp [brow, List.map_take]
theorem cvt_u8 (n : Int) : [D.int .u8 (cvt .u8 n)] = [D.int .u8 ((u8 n).toNat : Int)] := by rw [cvt_wrap, u8_wrap]
theorem unb_one (n : Int) : D.int .u8 (cvt .u8 n) = D.int .u8 ((u8 n).toNat : Int) := by rw [cvt_wrap, u8_wrap]

/-- A row of strings. -/
def srow (l : List (List UInt8)) : List (List D) := l.map fun s => [.str s]
def uns1 : List D → List UInt8
  | [.str s] => s
  | _ => []
def uns (es : List (List D)) : List (List UInt8) := es.map uns1
@[simp] theorem uns_srow (l : List (List UInt8)) : uns (srow l) = l := by
  simp only [uns, srow, List.map_map]
  conv => rhs; rw [← List.map_id l]
  exact List.map_congr_left fun _ _ => rfl
@[simp] theorem srow_length (l : List (List UInt8)) : (srow l).length = l.length := by simp [srow]
theorem srow_get (l : List (List UInt8)) (i : Nat) : ((srow l).getD i [.str []]).getD 0 .nilp = .str (l.getD i []) := by
  simp only [srow, List.getD_eq_getElem?_getD, List.getElem?_map]
  cases l[i]? <;> rfl
theorem srow_append (s t : List (List UInt8)) : srow (s ++ t) = srow s ++ srow t := by simp [srow]
theorem srow_drop (s : List (List UInt8)) (n : Nat) : (srow s).drop n = srow (s.drop n) := by simp [srow, List.map_drop]
theorem srow_take (s : List (List UInt8)) (n : Nat) : (srow s).take n = srow (s.take n) := by simp [srow, List.map_take]

attribute [go_sem] brow_get brow_length unb_brow srow_get srow_length uns_srow brow_drop brow_take srow_drop srow_take Int.toNat_natCast Int.toNat_zero

theorem getD_lt {α : Type} {l : List α} {i : Nat} (h : i < l.length) (d : α) : l.getD i d = l[i] := by simp [h]
theorem take_one {α : Type} {l : List α} {i : Nat} (h : i < l.length) (d : α) : l.take (i + 1) = l.take i ++ [l.getD i d] := by
  rw [List.take_add_one, List.getD_eq_getElem?_getD, List.getElem?_eq_getElem h]; rfl
end Go.Proofs.Hg
