/- Strings as lists of bytes. Plain; no condition. -/
import Derived.Test.YtcbfmajojkcibaaDoorPGa
import Derived.ShutString
import Derived.Laws.Concat
import Derived.Laws.RangeString
import Derived.Laws.BytesString
namespace Go.Proofs.YtcbfmajojkcibaaDoor
open Go

/-- The string of a list of bytes. -/
def st (l : List UInt8) : ByteArray := ⟨l.toArray⟩
theorem st_of (s : ByteArray) : s = st s.data.toList := by cases s; simp [st]
theorem st_size (l : List UInt8) : (st l).size = l.length := by simp [st, ByteArray.size]
theorem st_list (l : List UInt8) : (st l).toList = l := ByteArray.toList_mk l
theorem st_data (l : List UInt8) : (st l).data.toList = l := by simp [st]
theorem st_append (a b : List UInt8) : st a ++ st b = st (a ++ b) := ByteArray.mk_append_mk a b
theorem st_extract (l : List UInt8) (a b : Nat) : (st l).extract a b = st ((l.drop a).take (b - a)) := ByteArray.extract_mk l a b
theorem st_from (l : List UInt8) (a : Nat) (h : a ≤ l.length) : (st l).extract a l.length = st (l.drop a) := by
  rw [st_extract, List.take_of_length_le (by rw [List.length_drop]; omega)]
theorem st_get (l : List UInt8) (n : Nat) (h : n < (st l).size) : (st l)[n]'h = l[n]'(by rw [st_size] at h; exact h) := by
  simp [st, ByteArray.getElem_eq_getElem_data]
theorem st_inj {a b : List UInt8} (h : st a = st b) : a = b := by
  have := congrArg (fun s => s.data.toList) h
  simpa [st_data] using this
theorem st_beq (a b : List UInt8) : ((st a).toList == (st b).toList) = (a == b) := by rw [st_list, st_list]
/-- A byte of a string. -/
theorem run_at {P : Program} (w : World) (t : TypeId) (l : List UInt8) (i : Nat) (b : UInt8) (k : IntKind) (ht : P.underlying t = some .string) (hb : l[i]? = some b) :
    (Instr.index t (.string (st l)) (.int k (i : Int))).run P w = .ok (.int .u8 (b.toNat : Int)) w := by
  obtain ⟨hl, rfl⟩ := List.getElem?_eq_some_iff.1 hb
  rw [run_index_string w t (st l) k i ht, dif_pos (by rw [st_size]; omega)]
  congr 2
/-- A string from a place on. -/
theorem run_from {P : Program} (w : World) (t : TypeId) (l : List UInt8) (i : Nat) (k : IntKind) (ht : P.underlying t = some .string) (h : i ≤ l.length) :
    (Instr.slice t (.string (st l)) (some (.int k (i : Int))) none none).run P w = .ok (.string (st (l.drop i))) w := by
  rw [run_slice_string_from_if w t (st l) k i ht, if_pos (by rw [st_size]; omega), st_size, Int.toNat_natCast, st_from l i h]
theorem run_cat {P : Program} (w : World) (a b : List UInt8) (h : a.length + b.length ≤ 9223372036854775807) :
    (Op.stringOp .add (st a) (st b)).run P w = .ok (.string (st (a ++ b))) w := by
  rw [run_string_add_sum w _ _ (by rw [st_size, st_size]; exact h), st_append]

theorem fold_push : ∀ (l : List UInt8) (s : List UInt8), (l.map fun b => (b.toNat : Int)).foldl (fun r n => r.push (UInt8.ofNat n.toNat)) (st s) = st (s ++ l)
  | [], s => by simp
  | b :: l, s => by
    rw [List.map_cons, List.foldl_cons]
    have : (st s).push (UInt8.ofNat ((b.toNat : Int)).toNat) = st (s ++ [b]) := by
      rw [Int.toNat_natCast, UInt8.ofNat_toNat]
      apply ByteArray.ext
      simp [st, ByteArray.push]
    rw [this, fold_push l, List.append_assoc]; rfl
/-- Bytes turned to a string. -/
theorem conv_bytes {P : Program} (w : World) (src dst e : TypeId) (a : Addr) (c n : Nat) (l : List UInt8) (hs : P.underlying src = some (.slice e)) (he : P.underlying e = some (.int .u8)) (hd : P.underlying dst = some .string) (hn : l.length = n)
    (h : ∀ j v, (l.map vB)[j]? = some v → w.cell? (a.add j) = some v) : (convert src dst (.slice (some a) n c)).run P w = .ok (.string (st l)) w := by
  subst hn
  rw [run_convert_bytes_string w src dst e (some a) _ c hs he hd]
  have h2 : (loadCells a l.length).run P w = .ok ((l.map fun b => (b.toNat : Int)).map (Value.int .u8)).toArray w := by
    have := run_loadCells_list (P := P) w a (l.map vB) h
    rw [List.length_map] at this
    rw [this, List.map_map]; rfl
  rw [run_bytesToString w a _ c _ h2]
  have := fold_push l []
  rw [List.nil_append] at this
  exact congrArg (fun x => Result.ok (Value.string x) w) this
theorem conv_none {P : Program} (w : World) (src dst e : TypeId) (c : Nat) (hs : P.underlying src = some (.slice e)) (he : P.underlying e = some (.int .u8)) (hd : P.underlying dst = some .string) :
    (convert src dst (.slice none 0 c)).run P w = .ok (.string (st [])) w := by
  rw [run_convert_bytes_string w src dst e none _ c hs he hd]
  simp [Conv.bytesToString, st]; rfl

end Go.Proofs.YtcbfmajojkcibaaDoor
