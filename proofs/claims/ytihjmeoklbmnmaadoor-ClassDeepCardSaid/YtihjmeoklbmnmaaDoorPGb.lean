/- Texts of mine, put together: Shelf, ClassP, BackP, List, Low, Bytes, At, RefA, RefB, RefC, Owned, OwnSet, SpanRows, SpansOf, EqB, RefD, Builder, Text, Hex, RefE, RefText. No condition but what each says. -/
import Derived.Shelf.Strings.Builder1
import Derived.Shelf.Small.Strs
import Derived.Shelf.Strings.BuilderF
import Derived.Shelf.Strings.BuilderK
import Derived.Shelf.Strings.Search1
import Derived.Shelf.Strings.Search2
import Derived.Shelf.Strings.Cut
import Derived.Shelf.LaysM
import Derived.Shelf.Strings.Shaped
import Derived.Shelf.Strings.Prefix
import Derived.Ground.Names2Prog
import Derived.Shelf.Slices.Clone
import Derived.Ground.SlgnProg
import Derived.Shelf.SlicesE.Clone
import Derived.Test.YtihjmeoklbmnmaaDoorProg
import Derived.Test.YtihjmeoklbmnmaaDoorPGa
import Derived.Lib.TrailingZeros
import Derived.Test.YtihjmeoklbmnmaaDoorRows
import Derived.WalkSpells
import Derived.WalkLawsBesides
import Derived.Lib.Hide
import Derived.Lib.Builder
import Derived.Lib.AppendStr

/-
  DERIVED: THE SHELF's CONTRACTS AT THIS DUMP, IN PLAIN WORDS (tools/lay-plain.mjs out of 'TrydShelf.lean', which tools/lay-shelf.mjs wrote): THE SAME DECLARATIONS UNDER THE SAME NAMES: 'import', 'namespace', 'open', 'def', 'theorem' AND NOTHING ELSE: no command of the shelf's: FOR A HAND-IN. Each laying: the table of numbers ('.._ren') and one theorem, a field a fact of the dump's own or the kernel's comparison; each contract: ONE APPLICATION.
-/
namespace Go.Proofs
open Go.Shelf
def Tryd.lays169_ren : Go.Shelf.Ren := ⟨fun | 169 => 27 | n => n, fun | 70 => 56 | 9 => 9 | 0 => 0 | 72 => 58 | 37 => 46 | 127 => 83 | 3 => 3 | 5 => 5 | n => n, fun | n => n⟩
theorem Tryd.lays169 : Go.Proofs.Lays.n169 Tryd.prog Tryd.lays169_ren := {
  mixed := by kernel_rfl
  f169 := Tryd.func27.trans (congrArg some (by kernel_rfl))
  t0 := Tryd.underlying0
  a0 := Tryd.isAgg0
  z0 := Tryd.sizeOf0
  v0 := Tryd.zeroValue0
  t3 := Tryd.underlying3
  a3 := Tryd.isAgg3
  z3 := Tryd.sizeOf3
  v3 := Tryd.zeroValue3
  t9 := Tryd.underlying9
  a9 := Tryd.isAgg9
  z9 := Tryd.sizeOf9
  v9 := Tryd.zeroValue9
  t37 := Tryd.underlying46
  a37 := Tryd.isAgg46
  z37 := Tryd.sizeOf46
  v37 := Tryd.zeroValue46
  t70 := Tryd.underlying56
  a70 := Tryd.isAgg56
  z70 := Tryd.sizeOf56
  v70 := Tryd.zeroValue56
  t72 := Tryd.underlying58
  a72 := Tryd.isAgg58
  z72 := Tryd.sizeOf58
  v72 := Tryd.zeroValue58
  t127 := Tryd.underlying83
  a127 := Tryd.isAgg83
  z127 := Tryd.sizeOf83
  v127 := Tryd.zeroValue83 }
theorem Tryd.Builder_Extra_169 : Builder.Extra Tryd.prog Tryd.lays169_ren := {
  sizeBuilder := by kernel_rfl
  liesBuilder := by kernel_rfl
  t5 := Tryd.underlying5
  a5 := Tryd.isAgg5
  z5 := Tryd.sizeOf5
  v5 := Tryd.zeroValue5
  infoByte := by kernel_rfl
  cellsByte := by kernel_rfl
  sizeByte := by kernel_rfl
  neB5 := by decide }
open Go.RowKit in
/-- (*strings.Builder).String: "String returns the accumulated string.": OF A BUILDER THAT HOLDS AT LEAST ONE BYTE. ✋ THE MODEL FREEZES THOSE BYTES IN THE BUFFER (unsafe.String): a later write INTO them ends the model's run without an answer; a later append BEHIND them goes on. The statement's order of evaluation is drawn: one draw. (LAID: no walk: one application.) -/
theorem Tryd.Builder_String (B b : Nat) (l : List UInt8) (w : World) (h : Lib.IsBuilder 58 5 B b (Lib.byteCells l) w) (h0 : l ≠ []) :
    Calls Tryd.prog 27 #[.pointer (some ⟨b, 0, none⟩)] w fun e w' => e = .returned (.string ⟨l.toArray⟩) ∧ Below B w w' := Any.Builder_String Tryd.lays169 Tryd.Builder_Extra_169 B b l w h h0
open Go.RowKit in
/-- (*strings.Builder).String OF A BUILDER THAT HOLDS NO BYTE: the empty string. (Its buffer is nil, or a row of which it has taken nothing yet; where that row has NO capacity the model lays one new block for unsafe.SliceData's 'some address'.) One draw. (LAID: no walk: one application.) -/
theorem Tryd.Builder_String_empty (B b : Nat) (w : World) (h : Lib.IsBuilder 58 5 B b [] w) (hBw : B ≤ w.heap.size) :
    Calls Tryd.prog 27 #[.pointer (some ⟨b, 0, none⟩)] w fun e w' => e = .returned (.string ⟨#[]⟩) ∧ Below B w w' := Any.Builder_String_empty Tryd.lays169 Tryd.Builder_Extra_169 B b w h hBw
open Go.RowKit in
/-- (*strings.Builder).String: "String returns the accumulated string.": WHATEVER THE BUILDER HOLDS. (LAID: no walk: one application.) -/
theorem Tryd.Builder_String_any (B b : Nat) (l : List UInt8) (w : World) (h : Lib.IsBuilder 58 5 B b (Lib.byteCells l) w) (hBw : B ≤ w.heap.size) :
    Calls Tryd.prog 27 #[.pointer (some ⟨b, 0, none⟩)] w fun e w' => e = .returned (.string ⟨l.toArray⟩) ∧ Below B w w' := Any.Builder_String_any Tryd.lays169 Tryd.Builder_Extra_169 B b l w h hBw
def Tryd.lays137_ren : Go.Shelf.Ren := ⟨fun | 137 => 38 | 217 => 51 | 266 => 64 | n => n, fun | 9 => 9 | 5 => 5 | 3 => 3 | n => n, fun | n => n⟩
theorem Tryd.lays137 : Go.Proofs.Lays.n137 Tryd.prog Tryd.lays137_ren := {
  mixed := by kernel_rfl
  f137 := Tryd.func38.trans (congrArg some (by kernel_rfl))
  f217 := Tryd.func51.trans (congrArg some (by kernel_rfl))
  f266 := Tryd.func64.trans (congrArg some (by kernel_rfl))
  t3 := Tryd.underlying3
  a3 := Tryd.isAgg3
  z3 := Tryd.sizeOf3
  v3 := Tryd.zeroValue3
  t5 := Tryd.underlying5
  a5 := Tryd.isAgg5
  z5 := Tryd.sizeOf5
  v5 := Tryd.zeroValue5
  t9 := Tryd.underlying9
  a9 := Tryd.isAgg9
  z9 := Tryd.sizeOf9
  v9 := Tryd.zeroValue9 }
open Go.RowKit in
/-- strings.IndexByte: "IndexByte returns the index of the first instance of c in s, or -1 if c is not present in s.": IT RETURNS 'Lib.indexByte s c'; the world is as it was. (LAID: no walk: one application.) -/
theorem Tryd.strings_IndexByte (s : ByteArray) (c : Int) (w : World) :
    Calls Tryd.prog 38 #[.string s, .int .u8 c] w fun e w' => e = .returned (.int .i64 (Lib.indexByte s.data.toList c.toNat.toUInt8)) ∧ w' = w := Any.strings_IndexByte Tryd.lays137 s c w
open Go.RowKit in
/-- (*strings.Builder).String: "String returns the accumulated string.": OF A BUILDER THAT HOLDS AT LEAST ONE BYTE. ✋ THE MODEL FREEZES THOSE BYTES IN THE BUFFER (unsafe.String): a later write INTO them ends the model's run without an answer; a later append BEHIND them goes on. The statement's order of evaluation is drawn: one draw. THE FORM '_f': IT SAYS BESIDES THAT THE BUILDER IS A BUILDER STILL ('Lib.IsBuilderF', the same bytes): SO IT CAN BE WRITTEN ON: 'b.WriteString(b.String()[:k])'. (LAID: no walk: one application.) -/
theorem Tryd.Builder_String_f (B b : Nat) (l : List UInt8) (w : World) (h : Lib.IsBuilderF 58 5 B b (Lib.byteCells l) w) (h0 : l ≠ []) :
    Calls Tryd.prog 27 #[.pointer (some ⟨b, 0, none⟩)] w fun e w' => e = .returned (.string ⟨l.toArray⟩) ∧ (Lib.IsBuilderF 58 5 B b (Lib.byteCells l) w' ∧ Below B w w') := Any.Builder_String_f Tryd.lays169 Tryd.Builder_Extra_169 B b l w h h0
open Go.RowKit in
/-- (*strings.Builder).String OF A BUILDER THAT HOLDS NO BYTE: the empty string; THE FORM '_f': a builder still. (LAID: no walk: one application.) -/
theorem Tryd.Builder_String_empty_f (B b : Nat) (w : World) (h : Lib.IsBuilderF 58 5 B b [] w) (hBw : B ≤ w.heap.size) :
    Calls Tryd.prog 27 #[.pointer (some ⟨b, 0, none⟩)] w fun e w' => e = .returned (.string ⟨#[]⟩) ∧ (Lib.IsBuilderF 58 5 B b [] w' ∧ Below B w w') := Any.Builder_String_empty_f Tryd.lays169 Tryd.Builder_Extra_169 B b w h hBw
open Go.RowKit in
/-- (*strings.Builder).String: "String returns the accumulated string.": WHATEVER THE BUILDER HOLDS; THE FORM '_f': OF A BUILDER THAT MAY HAVE BEEN READ BEFORE; AND IT IS A BUILDER STILL, holding the same bytes: it can be written on. (LAID: no walk: one application.) -/
theorem Tryd.Builder_String_any_f (B b : Nat) (l : List UInt8) (w : World) (h : Lib.IsBuilderF 58 5 B b (Lib.byteCells l) w) (hBw : B ≤ w.heap.size) :
    Calls Tryd.prog 27 #[.pointer (some ⟨b, 0, none⟩)] w fun e w' => e = .returned (.string ⟨l.toArray⟩) ∧ (Lib.IsBuilderF 58 5 B b (Lib.byteCells l) w' ∧ Below B w w') := Any.Builder_String_any_f Tryd.lays169 Tryd.Builder_Extra_169 B b l w h hBw
open Go.RowKit in
/-- (*strings.Builder).String: "String returns the accumulated string.": OF A BUILDER THAT HOLDS AT LEAST ONE BYTE. ✋ THE MODEL FREEZES THOSE BYTES IN THE BUFFER (unsafe.String): a later write INTO them ends the model's run without an answer; a later append BEHIND them goes on. The statement's order of evaluation is drawn: one draw. THE FORM '_k': OVER 'Lib.IsBuilderF' (a builder that 'String()' may have read), AND WITH THE FRAME THAT REACHES ABOVE THE BUILDER: 'Lib.OthersKept': every block that is not b and is no row of uint8's stands as it stood: the iterator of a range among them. (LAID: no walk: one application.) -/
theorem Tryd.Builder_String_k (B b : Nat) (l : List UInt8) (w : World) (h : Lib.IsBuilderF 58 5 B b (Lib.byteCells l) w) (h0 : l ≠ []) :
    Calls Tryd.prog 27 #[.pointer (some ⟨b, 0, none⟩)] w fun e w' => e = .returned (.string ⟨l.toArray⟩) ∧ (Lib.IsBuilderF 58 5 B b (Lib.byteCells l) w' ∧ Below B w w' ∧ Lib.OthersKept 5 (some b) w w') := Any.Builder_String_k Tryd.lays169 Tryd.Builder_Extra_169 B b l w h h0
open Go.RowKit in
/-- (*strings.Builder).String OF A BUILDER THAT HOLDS NO BYTE: the empty string; THE FORM '_k': OVER 'Lib.IsBuilderF' (a builder that 'String()' may have read), AND WITH THE FRAME THAT REACHES ABOVE THE BUILDER: 'Lib.OthersKept': every block that is not b and is no row of uint8's stands as it stood: the iterator of a range among them. (LAID: no walk: one application.) -/
theorem Tryd.Builder_String_empty_k (B b : Nat) (w : World) (h : Lib.IsBuilderF 58 5 B b [] w) (hBw : B ≤ w.heap.size) :
    Calls Tryd.prog 27 #[.pointer (some ⟨b, 0, none⟩)] w fun e w' => e = .returned (.string ⟨#[]⟩) ∧ (Lib.IsBuilderF 58 5 B b [] w' ∧ Below B w w' ∧ Lib.OthersKept 5 (some b) w w') := Any.Builder_String_empty_k Tryd.lays169 Tryd.Builder_Extra_169 B b w h hBw
open Go.RowKit in
/-- (*strings.Builder).String: "String returns the accumulated string.": WHATEVER THE BUILDER HOLDS; THE FORM '_k': OVER 'Lib.IsBuilderF' (a builder that 'String()' may have read), AND WITH THE FRAME THAT REACHES ABOVE THE BUILDER: 'Lib.OthersKept': every block that is not b and is no row of uint8's stands as it stood: the iterator of a range among them. (LAID: no walk: one application.) -/
theorem Tryd.Builder_String_any_k (B b : Nat) (l : List UInt8) (w : World) (h : Lib.IsBuilderF 58 5 B b (Lib.byteCells l) w) (hBw : B ≤ w.heap.size) :
    Calls Tryd.prog 27 #[.pointer (some ⟨b, 0, none⟩)] w fun e w' => e = .returned (.string ⟨l.toArray⟩) ∧ (Lib.IsBuilderF 58 5 B b (Lib.byteCells l) w' ∧ Below B w w' ∧ Lib.OthersKept 5 (some b) w w') := Any.Builder_String_any_k Tryd.lays169 Tryd.Builder_Extra_169 B b l w h hBw
def Tryd.lays217_ren : Go.Shelf.Ren := ⟨fun | 217 => 51 | 266 => 64 | n => n, fun | 9 => 9 | 5 => 5 | 3 => 3 | n => n, fun | n => n⟩
theorem Tryd.lays217 : Go.Proofs.Lays.n217 Tryd.prog Tryd.lays217_ren := {
  mixed := by kernel_rfl
  f217 := Tryd.func51.trans (congrArg some (by kernel_rfl))
  f266 := Tryd.func64.trans (congrArg some (by kernel_rfl))
  t3 := Tryd.underlying3
  a3 := Tryd.isAgg3
  z3 := Tryd.sizeOf3
  v3 := Tryd.zeroValue3
  t5 := Tryd.underlying5
  a5 := Tryd.isAgg5
  z5 := Tryd.sizeOf5
  v5 := Tryd.zeroValue5
  t9 := Tryd.underlying9
  a9 := Tryd.isAgg9
  z9 := Tryd.sizeOf9
  v9 := Tryd.zeroValue9 }
open Go.RowKit Go.Lib in
/-- internal/stringslite.IndexByte (what strings.IndexByte calls): IT RETURNS 'Lib.indexByte s c'; the world is as it was. (LAID: no walk: one application.) -/
theorem Tryd.stringslite_IndexByte (s : ByteArray) (c : Int) (w : World) :
    Calls Tryd.prog 51 #[.string s, .int .u8 c] w fun e w' => e = .returned (.int .i64 (Lib.indexByte s.data.toList c.toNat.toUInt8)) ∧ w' = w := Any.stringslite_IndexByte Tryd.lays217 s c w
def Tryd.lays224_ren : Go.Shelf.Ren := ⟨fun | 224 => 80 | n => n, fun | 3 => 3 | n => n, fun | n => n⟩
theorem Tryd.lays224 : Go.Proofs.Lays.n224 Tryd.prog Tryd.lays224_ren := {
  mixed := by kernel_rfl
  f224 := Tryd.func80.trans (congrArg some (by kernel_rfl))
  t3 := Tryd.underlying3
  a3 := Tryd.isAgg3
  z3 := Tryd.sizeOf3
  v3 := Tryd.zeroValue3 }
open Go.RowKit Go.Lib in
/-- internal/bytealg.Cutover: "Cutover reports the number of failures of IndexByte we should tolerate before switching over to Index. n is the number of bytes processed so far.": on amd64: (n + 16) / 8. (LAID: no walk: one application.) -/
theorem Tryd.bytealg_Cutover (n : Int) (h0 : 0 ≤ n) (h1 : n < 4611686018427387904) (w : World) :
    Calls Tryd.prog 80 #[.int .i64 n] w fun e w' => e = .returned (.int .i64 ((n + 16) / 8)) ∧ w' = w := Any.bytealg_Cutover Tryd.lays224 n h0 h1 w
def Tryd.lays314_ren : Go.Shelf.Ren := ⟨fun | 314 => 82 | n => n, fun | 9 => 9 | 51 => 151 | 3 => 3 | 4 => 4 | 5 => 5 | 46 => 80 | n => n, fun | n => n⟩
theorem Tryd.lays314 : Go.Proofs.Lays.n314 Tryd.prog Tryd.lays314_ren := {
  mixed := by kernel_rfl
  f314 := Tryd.func82.trans (congrArg some (by kernel_rfl))
  t3 := Tryd.underlying3
  a3 := Tryd.isAgg3
  z3 := Tryd.sizeOf3
  v3 := Tryd.zeroValue3
  t4 := Tryd.underlying4
  a4 := Tryd.isAgg4
  z4 := Tryd.sizeOf4
  v4 := Tryd.zeroValue4
  t5 := Tryd.underlying5
  a5 := Tryd.isAgg5
  z5 := Tryd.sizeOf5
  v5 := Tryd.zeroValue5
  t9 := Tryd.underlying9
  a9 := Tryd.isAgg9
  z9 := Tryd.sizeOf9
  v9 := Tryd.zeroValue9
  t46 := Tryd.underlying80
  a46 := Tryd.isAgg80
  z46 := Tryd.sizeOf80
  v46 := Tryd.zeroValue80
  t51 := Tryd.underlying151
  a51 := Tryd.isAgg151
  z51 := Tryd.sizeOf151
  v51 := Tryd.zeroValue151 }
open Go.RowKit Go.Lib in
/-- hashStr: "returns the hash and the appropriate multiplicative factor for use in Rabin-Karp algorithm": THE HASH OF ALL OF sep, AND 16777619 ^ len(sep), both in uint32. (LAID: no walk: one application.) -/
theorem Tryd.bytealg_hashStr (sep : ByteArray) (hs : sep.size < 4294967281) (w : World) :
    Calls Tryd.prog 82 #[.string sep] w fun e w' => e = .returned (.tuple #[.int .u32 (RK.H sep.data.toList % 4294967296), .int .u32 (16777619 ^ sep.size % 4294967296)]) ∧ w' = w := Any.bytealg_hashStr Tryd.lays314 sep hs w
def Tryd.lays267_ren : Go.Shelf.Ren := ⟨fun | 267 => 81 | 314 => 82 | n => n, fun | 9 => 9 | 3 => 3 | 146 => 152 | 51 => 151 | 4 => 4 | 5 => 5 | 46 => 80 | n => n, fun | n => n⟩
theorem Tryd.lays267 : Go.Proofs.Lays.n267 Tryd.prog Tryd.lays267_ren := {
  mixed := by kernel_rfl
  f267 := Tryd.func81.trans (congrArg some (by kernel_rfl))
  f314 := Tryd.func82.trans (congrArg some (by kernel_rfl))
  t3 := Tryd.underlying3
  a3 := Tryd.isAgg3
  z3 := Tryd.sizeOf3
  v3 := Tryd.zeroValue3
  t4 := Tryd.underlying4
  a4 := Tryd.isAgg4
  z4 := Tryd.sizeOf4
  v4 := Tryd.zeroValue4
  t5 := Tryd.underlying5
  a5 := Tryd.isAgg5
  z5 := Tryd.sizeOf5
  v5 := Tryd.zeroValue5
  t9 := Tryd.underlying9
  a9 := Tryd.isAgg9
  z9 := Tryd.sizeOf9
  v9 := Tryd.zeroValue9
  t46 := Tryd.underlying80
  a46 := Tryd.isAgg80
  z46 := Tryd.sizeOf80
  v46 := Tryd.zeroValue80
  t51 := Tryd.underlying151
  a51 := Tryd.isAgg151
  z51 := Tryd.sizeOf151
  v51 := Tryd.zeroValue151
  t146 := Tryd.underlying152
  a146 := Tryd.isAgg152
  z146 := Tryd.sizeOf152
  v146 := Tryd.zeroValue152 }
open Go.RowKit Go.Lib in
theorem Tryd.bytealg_IndexRabinKarp (s sep : ByteArray) (h1 : 1 ≤ sep.size) (h2 : sep.size ≤ s.size) (hs : s.size < 4294967281) (w : World) :
    Calls Tryd.prog 81 #[.string s, .string sep] w fun e w' => e = .returned (.int .i64 (Lib.index s.data.toList sep.data.toList)) ∧ w' = w := Any.bytealg_IndexRabinKarp Tryd.lays267 s sep h1 h2 hs w
def Tryd.lays219_ren : Go.Shelf.Ren := ⟨fun | 219 => 78 | 217 => 51 | 225 => 79 | 224 => 80 | 267 => 81 | 266 => 64 | 314 => 82 | n => n, fun | 9 => 9 | 3 => 3 | 4 => 4 | 5 => 5 | 46 => 80 | 146 => 152 | 51 => 151 | n => n, fun | 1 => 17 | n => n⟩
theorem Tryd.lays219 : Go.Proofs.Lays.n219 Tryd.prog Tryd.lays219_ren := {
  mixed := by kernel_rfl
  f217 := Tryd.func51.trans (congrArg some (by kernel_rfl))
  f219 := Tryd.func78.trans (congrArg some (by kernel_rfl))
  f224 := Tryd.func80.trans (congrArg some (by kernel_rfl))
  f225 := Tryd.func79.trans (congrArg some (by kernel_rfl))
  f266 := Tryd.func64.trans (congrArg some (by kernel_rfl))
  f267 := Tryd.func81.trans (congrArg some (by kernel_rfl))
  f314 := Tryd.func82.trans (congrArg some (by kernel_rfl))
  t3 := Tryd.underlying3
  a3 := Tryd.isAgg3
  z3 := Tryd.sizeOf3
  v3 := Tryd.zeroValue3
  t4 := Tryd.underlying4
  a4 := Tryd.isAgg4
  z4 := Tryd.sizeOf4
  v4 := Tryd.zeroValue4
  t5 := Tryd.underlying5
  a5 := Tryd.isAgg5
  z5 := Tryd.sizeOf5
  v5 := Tryd.zeroValue5
  t9 := Tryd.underlying9
  a9 := Tryd.isAgg9
  z9 := Tryd.sizeOf9
  v9 := Tryd.zeroValue9
  t46 := Tryd.underlying80
  a46 := Tryd.isAgg80
  z46 := Tryd.sizeOf80
  v46 := Tryd.zeroValue80
  t51 := Tryd.underlying151
  a51 := Tryd.isAgg151
  z51 := Tryd.sizeOf151
  v51 := Tryd.zeroValue151
  t146 := Tryd.underlying152
  a146 := Tryd.isAgg152
  z146 := Tryd.sizeOf152
  v146 := Tryd.zeroValue152
  g1 := by kernel_rfl }
open Go.RowKit Go.Lib in
/-- internal/stringslite.Index (what strings.Index calls) AT A substr OF ONE BYTE c: IT RETURNS 'Lib.indexByte s c'; the world is as it was. (LAID: no walk: one application.) -/
theorem Tryd.stringslite_Index_one (s : ByteArray) (c : UInt8) (w : World) :
    Calls Tryd.prog 78 #[.string s, .string ⟨#[c]⟩] w fun e w' => e = .returned (.int .i64 (Lib.indexByte s.data.toList c)) ∧ w' = w := Any.stringslite_Index_one Tryd.lays219 s c w
open Go.RowKit Go.Lib in
/-- internal/stringslite.Index (what strings.Index calls) AT A substr OF WHATEVER LENGTH: IT RETURNS 'Lib.index s substr'; the world is as it was. 'm': what internal/bytealg.MaxLen holds: whatever. (LAID: no walk: one application.) -/
theorem Tryd.stringslite_Index (s sub : ByteArray) (m : Int) (w : World) (hs : s.size < 4294967281) (hm : w.cell? ⟨17, 0, none⟩ = some (.int .i64 m)) :
    Calls Tryd.prog 78 #[.string s, .string sub] w fun e w' => e = .returned (.int .i64 (Lib.index s.data.toList sub.data.toList)) ∧ w' = w := Any.stringslite_Index Tryd.lays219 s sub m w hs hm
def Tryd.lays220_ren : Go.Shelf.Ren := ⟨fun | 220 => 75 | 219 => 78 | 217 => 51 | 225 => 79 | 224 => 80 | 267 => 81 | 266 => 64 | 314 => 82 | n => n, fun | 9 => 9 | 4 => 4 | 3 => 3 | 5 => 5 | 46 => 80 | 146 => 152 | 51 => 151 | n => n, fun | 1 => 17 | n => n⟩
theorem Tryd.lays220 : Go.Proofs.Lays.n220 Tryd.prog Tryd.lays220_ren := {
  mixed := by kernel_rfl
  f217 := Tryd.func51.trans (congrArg some (by kernel_rfl))
  f219 := Tryd.func78.trans (congrArg some (by kernel_rfl))
  f220 := Tryd.func75.trans (congrArg some (by kernel_rfl))
  f224 := Tryd.func80.trans (congrArg some (by kernel_rfl))
  f225 := Tryd.func79.trans (congrArg some (by kernel_rfl))
  f266 := Tryd.func64.trans (congrArg some (by kernel_rfl))
  f267 := Tryd.func81.trans (congrArg some (by kernel_rfl))
  f314 := Tryd.func82.trans (congrArg some (by kernel_rfl))
  t3 := Tryd.underlying3
  a3 := Tryd.isAgg3
  z3 := Tryd.sizeOf3
  v3 := Tryd.zeroValue3
  t4 := Tryd.underlying4
  a4 := Tryd.isAgg4
  z4 := Tryd.sizeOf4
  v4 := Tryd.zeroValue4
  t5 := Tryd.underlying5
  a5 := Tryd.isAgg5
  z5 := Tryd.sizeOf5
  v5 := Tryd.zeroValue5
  t9 := Tryd.underlying9
  a9 := Tryd.isAgg9
  z9 := Tryd.sizeOf9
  v9 := Tryd.zeroValue9
  t46 := Tryd.underlying80
  a46 := Tryd.isAgg80
  z46 := Tryd.sizeOf80
  v46 := Tryd.zeroValue80
  t51 := Tryd.underlying151
  a51 := Tryd.isAgg151
  z51 := Tryd.sizeOf151
  v51 := Tryd.zeroValue151
  t146 := Tryd.underlying152
  a146 := Tryd.isAgg152
  z146 := Tryd.sizeOf152
  v146 := Tryd.zeroValue152
  g1 := by kernel_rfl }
open Go.RowKit Go.Lib in
/-- internal/stringslite.Cut (what strings.Cut calls): IT RETURNS 'Lib.cut s sep'; the world is as it was but for the count of draws. (LAID: no walk: one application.) -/
theorem Tryd.stringslite_Cut (s sep : ByteArray) (m : Int) (w : World) (hs : s.size < 4294967281) (hm : w.cell? ⟨17, 0, none⟩ = some (.int .i64 m)) :
    Calls Tryd.prog 75 #[.string s, .string sep] w fun e w' => e = .returned (.tuple #[.string ⟨(Lib.cut s.data.toList sep.data.toList).1.toArray⟩, .string ⟨(Lib.cut s.data.toList sep.data.toList).2.1.toArray⟩, .bool (Lib.cut s.data.toList sep.data.toList).2.2]) ∧ ∃ n, w' = w.drewN n := Any.stringslite_Cut Tryd.lays220 s sep m w hs hm
def Tryd.lays145_ren : Go.Shelf.Ren := ⟨fun | 145 => 73 | 220 => 75 | 219 => 78 | 217 => 51 | 225 => 79 | 224 => 80 | 267 => 81 | 266 => 64 | 314 => 82 | n => n, fun | 9 => 9 | 4 => 4 | 59 => 141 | 3 => 3 | 5 => 5 | 46 => 80 | 146 => 152 | 51 => 151 | n => n, fun | 1 => 17 | n => n⟩
theorem Tryd.lays145 : Go.Proofs.Lays.n145 Tryd.prog Tryd.lays145_ren := {
  mixed := by kernel_rfl
  f145 := Tryd.func73.trans (congrArg some (by kernel_rfl))
  f217 := Tryd.func51.trans (congrArg some (by kernel_rfl))
  f219 := Tryd.func78.trans (congrArg some (by kernel_rfl))
  f220 := Tryd.func75.trans (congrArg some (by kernel_rfl))
  f224 := Tryd.func80.trans (congrArg some (by kernel_rfl))
  f225 := Tryd.func79.trans (congrArg some (by kernel_rfl))
  f266 := Tryd.func64.trans (congrArg some (by kernel_rfl))
  f267 := Tryd.func81.trans (congrArg some (by kernel_rfl))
  f314 := Tryd.func82.trans (congrArg some (by kernel_rfl))
  t3 := Tryd.underlying3
  a3 := Tryd.isAgg3
  z3 := Tryd.sizeOf3
  v3 := Tryd.zeroValue3
  t4 := Tryd.underlying4
  a4 := Tryd.isAgg4
  z4 := Tryd.sizeOf4
  v4 := Tryd.zeroValue4
  t5 := Tryd.underlying5
  a5 := Tryd.isAgg5
  z5 := Tryd.sizeOf5
  v5 := Tryd.zeroValue5
  t9 := Tryd.underlying9
  a9 := Tryd.isAgg9
  z9 := Tryd.sizeOf9
  v9 := Tryd.zeroValue9
  t46 := Tryd.underlying80
  a46 := Tryd.isAgg80
  z46 := Tryd.sizeOf80
  v46 := Tryd.zeroValue80
  t51 := Tryd.underlying151
  a51 := Tryd.isAgg151
  z51 := Tryd.sizeOf151
  v51 := Tryd.zeroValue151
  t59 := Tryd.underlying141
  a59 := Tryd.isAgg141
  z59 := Tryd.sizeOf141
  v59 := Tryd.zeroValue141
  t146 := Tryd.underlying152
  a146 := Tryd.isAgg152
  z146 := Tryd.sizeOf152
  v146 := Tryd.zeroValue152
  g1 := by kernel_rfl }
open Go.RowKit Go.Lib in
/-- strings.Cut: "Cut slices s around the first instance of sep, returning the text before and after sep. The found result reports whether sep appears in s. If sep does not appear in s, cut returns s, "", false.": IT RETURNS 'Lib.cut s sep'; the world is as it was but for the count of draws. (LAID: no walk: one application.) -/
theorem Tryd.strings_Cut (s sep : ByteArray) (m : Int) (w : World) (hs : s.size < 4294967281) (hm : w.cell? ⟨17, 0, none⟩ = some (.int .i64 m)) :
    Calls Tryd.prog 73 #[.string s, .string sep] w fun e w' => e = .returned (.tuple #[.string ⟨(Lib.cut s.data.toList sep.data.toList).1.toArray⟩, .string ⟨(Lib.cut s.data.toList sep.data.toList).2.1.toArray⟩, .bool (Lib.cut s.data.toList sep.data.toList).2.2]) ∧ ∃ n, w' = w.drewN n := Any.strings_Cut Tryd.lays145 s sep m w hs hm
def Tryd.laysM219_ren : Go.Shelf.Ren := ⟨fun | 219 => 78 | 217 => 51 | 225 => 79 | 224 => 80 | 267 => 81 | 266 => 64 | 314 => 82 | n => n, fun | 9 => 9 | 3 => 3 | 4 => 4 | 5 => 5 | 46 => 80 | 146 => 152 | 51 => 151 | n => n, fun | 1 => 17 | n => n⟩
theorem Tryd.laysM219 : Go.Proofs.LaysM.n219 Tryd.prog Tryd.laysM219_ren := {
  mixed := by kernel_rfl
  f217 := Tryd.func51.trans (congrArg some (by kernel_rfl))
  f219 := Tryd.func78.trans (congrArg some (by kernel_rfl))
  f224 := Tryd.func80.trans (congrArg some (by kernel_rfl))
  f225 := Tryd.func79.trans (congrArg some (by kernel_rfl))
  f266 := Tryd.func64.trans (congrArg some (by kernel_rfl))
  f267 := Tryd.func81.trans (congrArg some (by kernel_rfl))
  f314 := Tryd.func82.trans (congrArg some (by kernel_rfl))
  t3 := Tryd.underlying3
  a3 := Tryd.isAgg3
  z3 := Tryd.sizeOf3
  v3 := Tryd.zeroValue3
  t4 := Tryd.underlying4
  a4 := Tryd.isAgg4
  z4 := Tryd.sizeOf4
  v4 := Tryd.zeroValue4
  t5 := Tryd.underlying5
  a5 := Tryd.isAgg5
  z5 := Tryd.sizeOf5
  v5 := Tryd.zeroValue5
  t9 := Tryd.underlying9
  a9 := Tryd.isAgg9
  z9 := Tryd.sizeOf9
  v9 := Tryd.zeroValue9
  t46 := Tryd.underlying80
  a46 := Tryd.isAgg80
  z46 := Tryd.sizeOf80
  v46 := Tryd.zeroValue80
  t51 := Tryd.underlying151
  a51 := Tryd.isAgg151
  z51 := Tryd.sizeOf151
  v51 := Tryd.zeroValue151
  t146 := Tryd.underlying152
  a146 := Tryd.isAgg152
  z146 := Tryd.sizeOf152
  v146 := Tryd.zeroValue152
  g1 := by kernel_rfl
  i3 := by kernel_rfl
  i4 := by kernel_rfl
  i5 := by kernel_rfl
  i9 := by kernel_rfl
  i46 := by kernel_rfl
  i51 := by kernel_rfl
  i146 := by kernel_rfl
  m1 := by kernel_rfl
  s1_3 := fun w h => Go.Proofs.cell_of_shapedOpen_int (zero := #[.int .i64 0]) (t := 3) h (of_decide_eq_true (by kernel_rfl)) (by kernel_rfl) rfl (by kernel_rfl) (by kernel_rfl) Tryd.underlying3 }
open Go.RowKit Go.Lib in
theorem Tryd.stringslite_Index_shaped (s sub : ByteArray) (w : World) (h : w.ShapedOpen Tryd.prog) (hs : s.size < 4294967281) :
    Calls Tryd.prog 78 #[.string s, .string sub] w fun e w' => e = .returned (.int .i64 (Lib.index s.data.toList sub.data.toList)) ∧ w' = w := Any.stringslite_Index_shaped Tryd.laysM219 s sub w h hs
def Tryd.laysM220_ren : Go.Shelf.Ren := ⟨fun | 220 => 75 | 219 => 78 | 217 => 51 | 225 => 79 | 224 => 80 | 267 => 81 | 266 => 64 | 314 => 82 | n => n, fun | 9 => 9 | 4 => 4 | 3 => 3 | 5 => 5 | 46 => 80 | 146 => 152 | 51 => 151 | n => n, fun | 1 => 17 | n => n⟩
theorem Tryd.laysM220 : Go.Proofs.LaysM.n220 Tryd.prog Tryd.laysM220_ren := {
  mixed := by kernel_rfl
  f217 := Tryd.func51.trans (congrArg some (by kernel_rfl))
  f219 := Tryd.func78.trans (congrArg some (by kernel_rfl))
  f220 := Tryd.func75.trans (congrArg some (by kernel_rfl))
  f224 := Tryd.func80.trans (congrArg some (by kernel_rfl))
  f225 := Tryd.func79.trans (congrArg some (by kernel_rfl))
  f266 := Tryd.func64.trans (congrArg some (by kernel_rfl))
  f267 := Tryd.func81.trans (congrArg some (by kernel_rfl))
  f314 := Tryd.func82.trans (congrArg some (by kernel_rfl))
  t3 := Tryd.underlying3
  a3 := Tryd.isAgg3
  z3 := Tryd.sizeOf3
  v3 := Tryd.zeroValue3
  t4 := Tryd.underlying4
  a4 := Tryd.isAgg4
  z4 := Tryd.sizeOf4
  v4 := Tryd.zeroValue4
  t5 := Tryd.underlying5
  a5 := Tryd.isAgg5
  z5 := Tryd.sizeOf5
  v5 := Tryd.zeroValue5
  t9 := Tryd.underlying9
  a9 := Tryd.isAgg9
  z9 := Tryd.sizeOf9
  v9 := Tryd.zeroValue9
  t46 := Tryd.underlying80
  a46 := Tryd.isAgg80
  z46 := Tryd.sizeOf80
  v46 := Tryd.zeroValue80
  t51 := Tryd.underlying151
  a51 := Tryd.isAgg151
  z51 := Tryd.sizeOf151
  v51 := Tryd.zeroValue151
  t146 := Tryd.underlying152
  a146 := Tryd.isAgg152
  z146 := Tryd.sizeOf152
  v146 := Tryd.zeroValue152
  g1 := by kernel_rfl
  i3 := by kernel_rfl
  i4 := by kernel_rfl
  i5 := by kernel_rfl
  i9 := by kernel_rfl
  i46 := by kernel_rfl
  i51 := by kernel_rfl
  i146 := by kernel_rfl
  m1 := by kernel_rfl
  s1_3 := fun w h => Go.Proofs.cell_of_shapedOpen_int (zero := #[.int .i64 0]) (t := 3) h (of_decide_eq_true (by kernel_rfl)) (by kernel_rfl) rfl (by kernel_rfl) (by kernel_rfl) Tryd.underlying3 }
open Go.RowKit Go.Lib in
theorem Tryd.stringslite_Cut_shaped (s sep : ByteArray) (w : World) (h : w.ShapedOpen Tryd.prog) (hs : s.size < 4294967281) :
    Calls Tryd.prog 75 #[.string s, .string sep] w fun e w' => e = .returned (.tuple #[.string ⟨(Lib.cut s.data.toList sep.data.toList).1.toArray⟩, .string ⟨(Lib.cut s.data.toList sep.data.toList).2.1.toArray⟩, .bool (Lib.cut s.data.toList sep.data.toList).2.2]) ∧ ∃ n, w' = w.drewN n := Any.stringslite_Cut_shaped Tryd.laysM220 s sep w h hs
def Tryd.laysM145_ren : Go.Shelf.Ren := ⟨fun | 145 => 73 | 220 => 75 | 219 => 78 | 217 => 51 | 225 => 79 | 224 => 80 | 267 => 81 | 266 => 64 | 314 => 82 | n => n, fun | 9 => 9 | 4 => 4 | 59 => 141 | 3 => 3 | 5 => 5 | 46 => 80 | 146 => 152 | 51 => 151 | n => n, fun | 1 => 17 | n => n⟩
theorem Tryd.laysM145 : Go.Proofs.LaysM.n145 Tryd.prog Tryd.laysM145_ren := {
  mixed := by kernel_rfl
  f145 := Tryd.func73.trans (congrArg some (by kernel_rfl))
  f217 := Tryd.func51.trans (congrArg some (by kernel_rfl))
  f219 := Tryd.func78.trans (congrArg some (by kernel_rfl))
  f220 := Tryd.func75.trans (congrArg some (by kernel_rfl))
  f224 := Tryd.func80.trans (congrArg some (by kernel_rfl))
  f225 := Tryd.func79.trans (congrArg some (by kernel_rfl))
  f266 := Tryd.func64.trans (congrArg some (by kernel_rfl))
  f267 := Tryd.func81.trans (congrArg some (by kernel_rfl))
  f314 := Tryd.func82.trans (congrArg some (by kernel_rfl))
  t3 := Tryd.underlying3
  a3 := Tryd.isAgg3
  z3 := Tryd.sizeOf3
  v3 := Tryd.zeroValue3
  t4 := Tryd.underlying4
  a4 := Tryd.isAgg4
  z4 := Tryd.sizeOf4
  v4 := Tryd.zeroValue4
  t5 := Tryd.underlying5
  a5 := Tryd.isAgg5
  z5 := Tryd.sizeOf5
  v5 := Tryd.zeroValue5
  t9 := Tryd.underlying9
  a9 := Tryd.isAgg9
  z9 := Tryd.sizeOf9
  v9 := Tryd.zeroValue9
  t46 := Tryd.underlying80
  a46 := Tryd.isAgg80
  z46 := Tryd.sizeOf80
  v46 := Tryd.zeroValue80
  t51 := Tryd.underlying151
  a51 := Tryd.isAgg151
  z51 := Tryd.sizeOf151
  v51 := Tryd.zeroValue151
  t59 := Tryd.underlying141
  a59 := Tryd.isAgg141
  z59 := Tryd.sizeOf141
  v59 := Tryd.zeroValue141
  t146 := Tryd.underlying152
  a146 := Tryd.isAgg152
  z146 := Tryd.sizeOf152
  v146 := Tryd.zeroValue152
  g1 := by kernel_rfl
  i3 := by kernel_rfl
  i4 := by kernel_rfl
  i5 := by kernel_rfl
  i9 := by kernel_rfl
  i46 := by kernel_rfl
  i51 := by kernel_rfl
  i59 := by kernel_rfl
  i146 := by kernel_rfl
  m1 := by kernel_rfl
  s1_3 := fun w h => Go.Proofs.cell_of_shapedOpen_int (zero := #[.int .i64 0]) (t := 3) h (of_decide_eq_true (by kernel_rfl)) (by kernel_rfl) rfl (by kernel_rfl) (by kernel_rfl) Tryd.underlying3 }
open Go.RowKit Go.Lib in
theorem Tryd.strings_Cut_shaped (s sep : ByteArray) (w : World) (h : w.ShapedOpen Tryd.prog) (hs : s.size < 4294967281) :
    Calls Tryd.prog 73 #[.string s, .string sep] w fun e w' => e = .returned (.tuple #[.string ⟨(Lib.cut s.data.toList sep.data.toList).1.toArray⟩, .string ⟨(Lib.cut s.data.toList sep.data.toList).2.1.toArray⟩, .bool (Lib.cut s.data.toList sep.data.toList).2.2]) ∧ ∃ n, w' = w.drewN n := Any.strings_Cut_shaped Tryd.laysM145 s sep w h hs
def Tryd.lays206_ren : Go.Shelf.Ren := ⟨fun | 206 => 65 | n => n, fun | 9 => 9 | 4 => 4 | 3 => 3 | n => n, fun | n => n⟩
theorem Tryd.lays206 : Go.Proofs.Lays.n206 Tryd.prog Tryd.lays206_ren := {
  mixed := by kernel_rfl
  f206 := Tryd.func65.trans (congrArg some (by kernel_rfl))
  t3 := Tryd.underlying3
  a3 := Tryd.isAgg3
  z3 := Tryd.sizeOf3
  v3 := Tryd.zeroValue3
  t4 := Tryd.underlying4
  a4 := Tryd.isAgg4
  z4 := Tryd.sizeOf4
  v4 := Tryd.zeroValue4
  t9 := Tryd.underlying9
  a9 := Tryd.isAgg9
  z9 := Tryd.sizeOf9
  v9 := Tryd.zeroValue9 }
open Go.RowKit Go.Lib in
/-- internal/stringslite.HasPrefix (what strings.HasPrefix calls). (LAID: no walk: one application.) -/
theorem Tryd.stringslite_HasPrefix (s p : ByteArray) (w : World) :
    Calls Tryd.prog 65 #[.string s, .string p] w fun e w' => e = .returned (.bool (Lib.hasPrefix s.data.toList p.data.toList)) ∧ w' = w := Any.stringslite_HasPrefix Tryd.lays206 s p w
def Tryd.lays99_ren : Go.Shelf.Ren := ⟨fun | 99 => 53 | 206 => 65 | n => n, fun | 9 => 9 | 4 => 4 | 3 => 3 | n => n, fun | n => n⟩
theorem Tryd.lays99 : Go.Proofs.Lays.n99 Tryd.prog Tryd.lays99_ren := {
  mixed := by kernel_rfl
  f99 := Tryd.func53.trans (congrArg some (by kernel_rfl))
  f206 := Tryd.func65.trans (congrArg some (by kernel_rfl))
  t3 := Tryd.underlying3
  a3 := Tryd.isAgg3
  z3 := Tryd.sizeOf3
  v3 := Tryd.zeroValue3
  t4 := Tryd.underlying4
  a4 := Tryd.isAgg4
  z4 := Tryd.sizeOf4
  v4 := Tryd.zeroValue4
  t9 := Tryd.underlying9
  a9 := Tryd.isAgg9
  z9 := Tryd.sizeOf9
  v9 := Tryd.zeroValue9 }
open Go.RowKit Go.Lib in
/-- strings.HasPrefix: "HasPrefix reports whether the string s begins with prefix.": IT RETURNS 'Lib.hasPrefix s prefix'; the world is as it was. (LAID: no walk: one application.) -/
theorem Tryd.strings_HasPrefix (s p : ByteArray) (w : World) :
    Calls Tryd.prog 53 #[.string s, .string p] w fun e w' => e = .returned (.bool (Lib.hasPrefix s.data.toList p.data.toList)) ∧ w' = w := Any.strings_HasPrefix Tryd.lays99 s p w
def Tryd.laysNm216_ren : Go.Shelf.Ren := ⟨fun | 16 => 50 | n => n, fun | 24 => 23 | 9 => 9 | 4 => 4 | n => n, fun | n => n⟩
theorem Tryd.laysNm216 : Go.Proofs.Lays2.n16 Tryd.prog Tryd.laysNm216_ren := {
  mixed := by kernel_rfl
  f16 := Tryd.func50.trans (congrArg some (by kernel_rfl))
  t4 := Tryd.underlying4
  a4 := Tryd.isAgg4
  z4 := Tryd.sizeOf4
  v4 := Tryd.zeroValue4
  t9 := Tryd.underlying9
  a9 := Tryd.isAgg9
  z9 := Tryd.sizeOf9
  v9 := Tryd.zeroValue9
  t24 := Tryd.underlying23
  a24 := Tryd.isAgg23
  z24 := Tryd.sizeOf23
  v24 := Tryd.zeroValue23
  i9 := by kernel_rfl }
open Go.RowKit Go.Lib in
/-- slices.Clone at []string: "Clone returns a copy of the slice. The elements are copied using assignment, so this is a shallow clone. The result may have additional unused capacity. The result preserves the nilness of s.": OF A SLICE THAT IS NOT nil IT RETURNS A SLICE THAT IS NOT nil, OF THE SAME ELEMENTS, IN MEMORY OF THE CALL's OWN: in the how-to's words (6f): 'w'.ownsRow B e 1 v' n cells': v' begins at the head of a row among the blocks from B on (B: the heap's size at the call), not frozen, whose first cells are the elements · 'Below B w w'': below B all is as it was. The capacity is whatever the run-time gives. 'zs': what the cells behind the slice's address hold; 'zs.take n': its elements. (LAID: no walk: one application.) -/
theorem Tryd.slices_Clone_string (b off n c : Nat) (zs : List ByteArray) (w : World) (hz : n ≤ zs.length) (hbig : n * 16 ≤ 140737488355328) (hc : ∀ j, j < zs.length → w.cell? ⟨b, off + j, none⟩ = some (.string (zs.getD j ByteArray.empty))) :
    Calls Tryd.prog 50 #[.slice (some ⟨b, off, none⟩) n c] w fun e w' => ∃ v', e = .returned v' ∧ w'.ownsRow w.heap.size 9 1 v' n ((zs.take n).map (Value.string)) ∧ v' ≠ .slice none 0 0 ∧ Below w.heap.size w w' := Any.slices_Clone_string Tryd.laysNm216 b off n c zs w hz hbig hc
open Go.RowKit Go.Lib in
/-- The same at nil: nil comes back; the world is as it was. (LAID: no walk: one application.) -/
theorem Tryd.slices_Clone_string_nil (n c : Nat) (w : World) :
    Calls Tryd.prog 50 #[.slice none n c] w fun e w' => e = .returned (.slice none 0 0) ∧ w' = w := Any.slices_Clone_string_nil Tryd.laysNm216 n c w
open Go.RowKit Go.Lib in
/-- The same at a slice of length 0 that is not nil, WHATEVER ITS ADDRESS (no cell is asked for): a slice that is not nil and owns nothing comes back. (LAID: no walk: one application.) -/
theorem Tryd.slices_Clone_string_zero (a : Addr) (c : Nat) (w : World) :
    Calls Tryd.prog 50 #[.slice (some a) 0 c] w fun e w' => ∃ v', e = .returned v' ∧ w'.ownsRow w.heap.size 9 1 v' 0 [] ∧ v' ≠ .slice none 0 0 ∧ Below w.heap.size w w' := Any.slices_Clone_string_zero Tryd.laysNm216 a c w
def Tryd.laysSlE041_f50_ren : Go.Shelf.Ren := ⟨fun | 41 => 50 | n => n, fun | 22 => 23 | 23 => 9 | 4 => 4 | n => n, fun | n => n⟩
theorem Tryd.laysSlE041_f50 : Go.Proofs.SlLaysE0.n41 Tryd.prog Tryd.laysSlE041_f50_ren := {
  mixed := by kernel_rfl
  f41 := ⟨Tryd.f50.name, by decide, Tryd.func50.trans (congrArg some (by kernel_rfl))⟩
  t4 := Tryd.underlying4
  a4 := Tryd.isAgg4
  z4 := Tryd.sizeOf4
  v4 := Tryd.zeroValue4
  t22 := Tryd.underlying23
  a22 := Tryd.isAgg23
  z22 := Tryd.sizeOf23
  v22 := Tryd.zeroValue23 }
open Go.RowKit Go.Lib in
/-- slices.Clone: "Clone returns a copy of the slice. The elements are copied using assignment, so this is a shallow clone. The result may have additional unused capacity. The result preserves the nilness of s.": OF A SLICE THAT IS NOT nil IT RETURNS A SLICE THAT IS NOT nil, OF THE SAME CELLS, IN MEMORY OF THE CALL's OWN ('ownsRow': the how-to's 6f); below the heap's size at the call all is as it was. (LAID AT THE INSTANCE 'slices.Clone[[]string,string]': no walk: one application.) -/
theorem Tryd.slices_Clone (i0 : TypeInfo) (z : Value) (size bytes : Nat) (hi : Tryd.prog.info? 9 = some i0) (hz0 : i0.zero = some z) (hz1 : i0.size = size) (hz2 : i0.bytes = bytes) (hzs : z.cells.size = size) (hsz : 0 < size) (z23 : ∀ w, (Go.sizeOf 9).run Tryd.prog w = .ok size w) (b off n c : Nat) (news : List Value) (w : World) (hl : news.length = n * size) (hn : n ≤ maxLen) (hbig : n * bytes ≤ 140737488355328) (hc : ∀ j u, news[j]? = some u → w.cell? ⟨b, off + j, none⟩ = some u) (h1 : ∀ u ∈ news, u.oneCell' = true) :
    Calls Tryd.prog 50 #[.slice (some ⟨b, off, none⟩) n c] w fun e w' => ∃ v', e = .returned v' ∧ w'.ownsRow w.heap.size 9 size v' n news ∧ v' ≠ .slice none 0 0 ∧ Below w.heap.size w w' := AnyE.slices_Clone Tryd.laysSlE041_f50 i0 z size bytes hi hz0 hz1 hz2 hzs hsz z23 b off n c news w hl hn hbig hc h1
open Go.RowKit Go.Lib in
/-- The same at nil: nil comes back; the world is as it was; nothing is asked of the element's type. (LAID AT THE INSTANCE 'slices.Clone[[]string,string]': no walk: one application.) -/
theorem Tryd.slices_Clone_nil (n c : Nat) (w : World) :
    Calls Tryd.prog 50 #[.slice none n c] w fun e w' => e = .returned (.slice none 0 0) ∧ w' = w := AnyE.slices_Clone_nil Tryd.laysSlE041_f50 n c w
end Go.Proofs

/- Texts of bytes, of quoted texts and of sets: how they are written, how they are read. Plain; no condition. -/
namespace Go.Proofs.YtihjmeoklbmnmaaDoor
open Go

/-! ### How they are written -/

def hexD (n : Nat) : UInt8 := if n < 10 then UInt8.ofNat (48 + n) else UInt8.ofNat (87 + n)
/-- A byte's text: 'least' is the least one that stands as it is, but for the marks. -/
def wr (c : UInt8) (least : Nat) (marks : List UInt8) : List UInt8 :=
  if c = 10 then [92, 110] else if c = 9 then [92, 116] else if c = 13 then [92, 114]
  else if c.toNat < least ∨ 126 < c.toNat then [92, 120, hexD (c.toNat / 16), hexD (c.toNat % 16)]
  else if c ∈ marks then [92, c] else [c]
def marksT : List UInt8 := [92, 91, 93, 45, 94, 38]
def marksQ : List UInt8 := [34, 92]
def wrT (c : UInt8) : List UInt8 := wr c 33 marksT
def wrQ (c : UInt8) : List UInt8 := wr c 32 marksQ
def spanL (p : Sp) : List UInt8 := wrT p.1 ++ ((if p.1.toNat + 1 < p.2.toNat then [45] else []) ++ (if p.1.toNat < p.2.toNat then wrT p.2 else []))
def bodyL (l : List Sp) : List UInt8 := l.flatMap spanL
def textL (l : List Sp) : List UInt8 := 91 :: (bodyL l ++ [93])
def quoteL (s : List UInt8) : List UInt8 := 34 :: (s.flatMap wrQ ++ [34])

/-! ### How they are read -/

/-- A digit of base 16; 16: it is none. -/
def nibL (c : UInt8) : Nat :=
  if 48 ≤ c.toNat ∧ c.toNat ≤ 57 then c.toNat - 48 else if 97 ≤ c.toNat ∧ c.toNat ≤ 102 then c.toNat - 87 else if 65 ≤ c.toNat ∧ c.toNat ≤ 70 then c.toNat - 55 else 16
def alnumC (c : UInt8) : Bool := (decide (48 ≤ c.toNat) && decide (c.toNat ≤ 57)) || (decide (97 ≤ c.toNat) && decide (c.toNat ≤ 122)) || (decide (65 ≤ c.toNat) && decide (c.toNat ≤ 90))
/-- What a letter behind a backslash means. -/
def letterL (c : UInt8) : Option UInt8 :=
  if c = 114 then some 13 else if c = 102 then some 12 else if c = 118 then some 11 else if c = 110 then some 10 else if c = 116 then some 9
  else if c = 98 then some 8 else if c = 97 then some 7 else if c = 101 then some 27 else if c = 48 then some 0 else none
/-- An escape, behind its backslash. -/
def escP : List UInt8 → Option (UInt8 × List UInt8)
  | [] => none
  | c :: l =>
    match letterL c with
    | some v => some (v, l)
    | none =>
      if c = 120 then
        match l with
        | a :: b :: r => if nibL a < 16 ∧ nibL b < 16 then some (UInt8.ofNat (16 * nibL a + nibL b), r) else none
        | _ => none
      else if c.toNat < 33 ∨ 126 < c.toNat ∨ alnumC c = true then none else some (c, l)
/-- A byte of a class. -/
def charP : List UInt8 → Option (UInt8 × List UInt8)
  | [] => none
  | c :: l => if c = 91 ∨ c = 93 ∨ c = 45 ∨ c = 10 then none else if c = 92 then escP l else some (c, l)
/-- The text begins so. -/
def pre (s l : List UInt8) : Bool := s.isPrefixOf l
/-- The sets with names. -/
def lowerS : BitVec 256 := rangeSet 97 122
def upperS : BitVec 256 := rangeSet 65 90
def digitS : BitVec 256 := rangeSet 48 57
def alnumS : BitVec 256 := digitS ||| (lowerS ||| upperS)
def namedS (n : List UInt8) : Option (BitVec 256) :=
  if n = [100, 105, 103, 105, 116] then some digitS
  else if n = [108, 111, 119, 101, 114] then some lowerS
  else if n = [117, 112, 112, 101, 114] then some upperS
  else if n = [97, 108, 112, 104, 97] then some (lowerS ||| upperS)
  else if n = [97, 108, 110, 117, 109] then some alnumS
  else if n = [119, 111, 114, 100] then some (alnumS ||| ofList [95])
  else if n = [120, 100, 105, 103, 105, 116] then some (ofSpans [(48, 57), (97, 102), (65, 70)])
  else if n = [98, 108, 97, 110, 107] then some (ofList [32, 9])
  else if n = [115, 112, 97, 99, 101] then some (rangeSet 9 13 ||| ofList [32])
  else if n = [112, 117, 110, 99, 116] then some (rangeSet 33 126 &&& ~~~alnumS)
  else if n = [112, 114, 105, 110, 116] then some (rangeSet 32 126)
  else if n = [99, 110, 116, 114, 108] then some (rangeSet 0 31 ||| ofList [127])
  else if n = [97, 110, 121] then some (~~~emptyS)
  else none
/-- What stands ahead of the first ':]'; none: there is no such thing. -/
def cutAt : List UInt8 → Option (List UInt8)
  | [] => none
  | c :: l => if pre [58, 93] (c :: l) then some [] else (cutAt l).map (c :: ·)
/-- What reading comes to: a set and what is left; or a refusal ('deep') and what is left there. -/
inductive Rd where
  | ok (s : BitVec 256) (r : List UInt8)
  | bad (deep : Bool) (r : List UInt8)
def nameP (l : List UInt8) : Rd :=
  match cutAt (l.drop 2) with
  | none => .bad false l
  | some b => match namedS b with
    | none => .bad false l
    | some s => .ok s (l.drop (b.length + 4))
def itemP (l : List UInt8) : Rd :=
  if pre [91, 58] l then nameP l else
  match charP l with
  | none => .bad false l
  | some (lo, r) =>
    if pre [45] r && !pre [45, 45] r then
      match charP (r.drop 1) with
      | none => .bad false (r.drop 1)
      | some (hi, q) => if hi.toNat < lo.toNat then .bad false (r.drop 1) else .ok (rangeSet lo.toNat hi.toNat) q
    else .ok (ofList [lo]) r
def stops (l : List UInt8) : Bool := pre [45, 45] l || pre [38, 38] l || pre [93] l
def itemsP : Nat → List UInt8 → BitVec 256 → Rd
  | 0, l, _ => .bad false l
  | n + 1, l, s => if stops l then .ok s l else
    match itemP l with
    | .bad d r => .bad d r
    | .ok x r => itemsP n r (s ||| x)
def headP (l : List UInt8) : Rd :=
  match itemsP (l.length + 1) (if pre [94] l then l.drop 1 else l) emptyS with
  | .bad d r => .bad d r
  | .ok s r => .ok (if pre [94] l then ~~~s else s) r
mutual
def classP : Nat → Nat → List UInt8 → Rd
  | 0, _, l => .bad false l
  | n + 1, o, l => if pre [91] l = false then .bad false l else if 40 ≤ o then .bad true l else
    match headP (l.drop 1) with
    | .bad d r => .bad d r
    | .ok s r => tailsP n o r s
def tailsP : Nat → Nat → List UInt8 → BitVec 256 → Rd
  | 0, _, l, _ => .bad false l
  | n + 1, o, l, s => if pre [93] l then .ok s (l.drop 1) else
    if pre [45, 45] l = false ∧ pre [38, 38] l = false then .bad false l else
    match classP n (o + 1) (l.drop 2) with
    | .bad d r => .bad d r
    | .ok x r => tailsP n o r (if pre [45, 45] l then s &&& ~~~x else s &&& x)
end
/-- The text of a class at a place. -/
def parseP (t : List UInt8) (at' : Int) : Rd :=
  let n := if at' < 0 ∨ (t.length : Int) < at' then t.length else at'.toNat
  classP (t.length + 1) 0 (t.drop n)
/-- A quoted text, behind its first mark. -/
inductive Rq where
  | ok (s : List UInt8) (r : List UInt8)
  | bad (r : List UInt8)
def quotedP : Nat → List UInt8 → List UInt8 → Rq
  | 0, l, _ => .bad l
  | n + 1, l, acc =>
    match l with
    | [] => .bad l
    | c :: r => if c = 10 then .bad l else if c = 34 then .ok acc r else if c = 92 then
        match escP r with
        | none => .bad l
        | some (v, q) => quotedP n q (acc ++ [v])
      else quotedP n r (acc ++ [c])
def unquoteP (t : List UInt8) (at' : Int) : Rq :=
  let n := if at' < 0 ∨ (t.length : Int) < at' then t.length else at'.toNat
  if pre [34] (t.drop n) then quotedP (t.length + 1) (t.drop (n + 1)) [] else .bad (t.drop n)

/-! ### What is left is shorter -/

theorem pre_len {s l : List UInt8} (h : pre s l = true) : s.length ≤ l.length := (List.isPrefixOf_iff_prefix.1 h).length_le
theorem escP_cons (c : UInt8) (l : List UInt8) : escP (c :: l) = (match letterL c with
    | some v => some (v, l)
    | none =>
      if c = 120 then
        match l with
        | a :: b :: r => if nibL a < 16 ∧ nibL b < 16 then some (UInt8.ofNat (16 * nibL a + nibL b), r) else none
        | _ => none
      else if c.toNat < 33 ∨ 126 < c.toNat ∨ alnumC c = true then none else some (c, l)) := rfl
theorem charP_cons (c : UInt8) (l : List UInt8) : charP (c :: l) = if c = 91 ∨ c = 93 ∨ c = 45 ∨ c = 10 then none else if c = 92 then escP l else some (c, l) := rfl
theorem cutAt_cons (c : UInt8) (l : List UInt8) : cutAt (c :: l) = if pre [58, 93] (c :: l) then some [] else (cutAt l).map (c :: ·) := by rw [cutAt]
theorem escP_len {l : List UInt8} {v : UInt8} {r : List UInt8} (h : escP l = some (v, r)) : ∃ k, 1 ≤ k ∧ k ≤ l.length ∧ r = l.drop k := by
  match l with
  | [] => simp [escP] at h
  | c :: l =>
    rw [escP_cons] at h
    split at h
    · injection h with h; injection h with _ h; exact ⟨1, by omega, by simp, by simp [h]⟩
    · split at h
      · split at h
        · split at h
          · injection h with h; injection h with _ h; exact ⟨3, by omega, by simp, by simp [h]⟩
          · cases h
        · cases h
      · split at h
        · cases h
        · injection h with h; injection h with _ h; exact ⟨1, by omega, by simp, by simp [h]⟩
theorem charP_len {l : List UInt8} {v : UInt8} {r : List UInt8} (h : charP l = some (v, r)) : ∃ k, 1 ≤ k ∧ k ≤ l.length ∧ r = l.drop k := by
  match l with
  | [] => simp [charP] at h
  | c :: l =>
    rw [charP_cons] at h
    split at h
    · cases h
    · split at h
      · obtain ⟨k, h1, h2, h3⟩ := escP_len h
        exact ⟨k + 1, by omega, by simp; omega, by simp [h3]⟩
      · injection h with h; injection h with _ h; exact ⟨1, by omega, by simp, by simp [h]⟩
theorem cutAt_len : ∀ {l b : List UInt8}, cutAt l = some b → b.length + 2 ≤ l.length
  | [], b, h => by simp [cutAt] at h
  | c :: l, b, h => by
    rw [cutAt_cons] at h
    split at h
    · rename_i hp
      injection h with h; subst h; have := pre_len hp; simpa using this
    · cases hc : cutAt l with
      | none => rw [hc] at h; cases h
      | some b' => rw [hc] at h; injection h with h; subst h; have := cutAt_len hc; simp; omega
/-- The place of what is left, in what was read from. -/
def Rd.within (k0 : Nat) (l : List UInt8) : Rd → Prop
  | .ok _ r => ∃ k, k0 ≤ k ∧ k ≤ l.length ∧ r = l.drop k
  | .bad _ r => ∃ k, k ≤ l.length ∧ r = l.drop k
theorem nameP_len (l : List UInt8) : (nameP l).within 1 l := by
  unfold nameP
  split
  · exact ⟨0, by omega, by simp⟩
  · rename_i b hb
    split
    · exact ⟨0, by omega, by simp⟩
    · have := cutAt_len hb
      rw [List.length_drop] at this
      exact ⟨b.length + 4, by omega, by omega, rfl⟩
theorem itemP_len (l : List UInt8) : (itemP l).within 1 l := by
  unfold itemP
  split
  · exact nameP_len l
  · split
    · exact ⟨0, by omega, by simp⟩
    · rename_i lo r hc
      obtain ⟨k, h1, h2, rfl⟩ := charP_len hc
      split
      · rename_i hp
        simp only [Bool.and_eq_true] at hp
        have hk := pre_len hp.1
        simp only [List.length_drop, List.length_cons, List.length_nil] at hk
        split
        · exact ⟨k + 1, by omega, by simp⟩
        · rename_i hi q hq
          obtain ⟨j, h3, h4, rfl⟩ := charP_len hq
          simp only [List.length_drop] at h4
          split
          · exact ⟨k + 1, by omega, by simp⟩
          · exact ⟨k + 1 + j, by omega, by omega, by simp [Nat.add_assoc]⟩
      · exact ⟨k, h1, h2, rfl⟩
theorem Rd.within_drop {k0 j : Nat} {l : List UInt8} (hj : j ≤ l.length) : ∀ {x : Rd}, x.within k0 (l.drop j) → x.within (k0 + j) l
  | .ok _ r, ⟨k, h1, h2, h3⟩ => ⟨j + k, by omega, by rw [List.length_drop] at h2; omega, by rw [h3, List.drop_drop]⟩
  | .bad _ r, ⟨k, h2, h3⟩ => ⟨j + k, by rw [List.length_drop] at h2; omega, by rw [h3, List.drop_drop]⟩
theorem Rd.within_mono {k0 k1 : Nat} {l : List UInt8} (h : k1 ≤ k0) : ∀ {x : Rd}, x.within k0 l → x.within k1 l
  | .ok _ r, ⟨k, h1, h2, h3⟩ => ⟨k, by omega, h2, h3⟩
  | .bad _ r, h => h
theorem itemsP_len : ∀ (n : Nat) (l : List UInt8) (s : BitVec 256), (itemsP n l s).within 0 l
  | 0, l, s => ⟨0, by omega, by simp⟩
  | n + 1, l, s => by
    unfold itemsP
    split
    · exact ⟨0, by omega, by omega, by simp⟩
    · have hi := itemP_len l
      split
      · rename_i d r he; rw [he] at hi; exact hi
      · rename_i x r he
        rw [he] at hi
        obtain ⟨k, h1, h2, rfl⟩ := hi
        exact Rd.within_mono (Nat.zero_le _) (Rd.within_drop h2 (itemsP_len n (l.drop k) (s ||| x)))
/-- What items stop at. -/
theorem itemsP_stops : ∀ (n : Nat) (l : List UInt8) (s x : BitVec 256) (r : List UInt8), itemsP n l s = .ok x r → stops r = true
  | 0, l, s, x, r, h => by cases h
  | n + 1, l, s, x, r, h => by
    unfold itemsP at h
    split at h
    · rename_i hs; injection h with _ h; subst h; exact hs
    · split at h
      · cases h
      · exact itemsP_stops n _ _ _ _ h
theorem headP_len (l : List UInt8) : (headP l).within 0 l := by
  have key : (itemsP (l.length + 1) (if pre [94] l then l.drop 1 else l) emptyS).within 0 l := by
    split
    · rename_i hp
      exact Rd.within_mono (Nat.zero_le _) (Rd.within_drop (by have := pre_len hp; simpa using this) (itemsP_len _ _ _))
    · exact itemsP_len _ _ _
  unfold headP
  split
  · rename_i d r he; rw [he] at key; exact key
  · rename_i s r he; rw [he] at key; exact key
mutual
theorem classP_len : ∀ (n o : Nat) (l : List UInt8), (classP n o l).within 1 l
  | 0, o, l => ⟨0, by omega, by simp⟩
  | n + 1, o, l => by
    unfold classP
    split
    · exact ⟨0, by omega, by simp⟩
    · rename_i hp
      have hp' := pre_len (by simpa using hp : pre [91] l = true)
      split
      · exact ⟨0, by omega, by simp⟩
      · have hh := Rd.within_drop (by simpa using hp') (headP_len (l.drop 1))
        split
        · rename_i d r he; rw [he] at hh; exact hh
        · rename_i s r he
          rw [he] at hh
          obtain ⟨k, h1, h2, rfl⟩ := hh
          exact Rd.within_mono (by omega) (Rd.within_drop h2 (tailsP_len n o (l.drop k) s))
theorem tailsP_len : ∀ (n o : Nat) (l : List UInt8) (s : BitVec 256), (tailsP n o l s).within 1 l
  | 0, o, l, s => ⟨0, by omega, by simp⟩
  | n + 1, o, l, s => by
    unfold tailsP
    split
    · rename_i hp
      exact ⟨1, by omega, by have := pre_len hp; simpa using this, rfl⟩
    · split
      · exact ⟨0, by omega, by simp⟩
      · rename_i hp
        have h2 : 2 ≤ l.length := by
          by_cases h : pre [45, 45] l = true
          · exact pre_len h
          · refine pre_len (s := [38, 38]) ?_
            cases hq : pre [38, 38] l with
            | true => rfl
            | false => exact absurd ⟨by simpa using h, hq⟩ hp
        have hh := Rd.within_drop h2 (classP_len n (o + 1) (l.drop 2))
        split
        · rename_i d r he; rw [he] at hh; exact hh
        · rename_i x r he
          rw [he] at hh
          obtain ⟨k, h1, h3, rfl⟩ := hh
          exact Rd.within_mono (by omega) (Rd.within_drop h3 (tailsP_len n o (l.drop k) _))
end

end Go.Proofs.YtihjmeoklbmnmaaDoor

/- What is written is read as it. Plain; no condition. -/
namespace Go.Proofs.YtihjmeoklbmnmaaDoor
open Go

/-! ### As much fuel as bytes -/

theorem itemsP_fuel : ∀ (n m : Nat) (l : List UInt8) (s : BitVec 256), l.length < n → l.length < m → itemsP n l s = itemsP m l s
  | 0, _, _, _, h, _ => absurd h (Nat.not_lt_zero _)
  | _ + 1, 0, _, _, _, h => absurd h (Nat.not_lt_zero _)
  | n + 1, m + 1, l, s, h1, h2 => by
    have hi := itemP_len l
    unfold itemsP
    split
    · rfl
    · split
      · rfl
      · rename_i x r he
        rw [he] at hi
        obtain ⟨k, h3, h4, rfl⟩ := hi
        exact itemsP_fuel n m _ _ (by rw [List.length_drop]; omega) (by rw [List.length_drop]; omega)
def itemsF (l : List UInt8) (s : BitVec 256) : Rd := itemsP (l.length + 1) l s
theorem itemsF_stop {l : List UInt8} (s : BitVec 256) (h : stops l = true) : itemsF l s = .ok s l := by
  unfold itemsF itemsP; rw [if_pos h]
theorem itemsF_go {l r : List UInt8} {x : BitVec 256} (s : BitVec 256) (h : stops l = false) (hi : itemP l = .ok x r) : itemsF l s = itemsF r (s ||| x) := by
  have hl := itemP_len l
  rw [hi] at hl
  obtain ⟨k, h3, h4, rfl⟩ := hl
  unfold itemsF
  rw [itemsP, if_neg (by rw [h]; decide), hi]
  exact itemsP_fuel _ _ _ _ (by rw [List.length_drop]; omega) (by omega)
theorem itemsF_bad {l r : List UInt8} {d : Bool} (s : BitVec 256) (h : stops l = false) (hi : itemP l = .bad d r) : itemsF l s = .bad d r := by
  unfold itemsF
  rw [itemsP, if_neg (by rw [h]; decide), hi]
mutual
theorem classP_fuel : ∀ (n m o : Nat) (l : List UInt8), l.length < n → l.length < m → classP n o l = classP m o l
  | 0, _, _, _, h, _ => absurd h (Nat.not_lt_zero _)
  | _ + 1, 0, _, _, _, h => absurd h (Nat.not_lt_zero _)
  | n + 1, m + 1, o, l, h1, h2 => by
    unfold classP
    split
    · rfl
    · rename_i hp
      have hp' := pre_len (by simpa using hp : pre [91] l = true)
      split
      · rfl
      · have hh := headP_len (l.drop 1)
        split
        · rfl
        · rename_i s r he
          rw [he] at hh
          obtain ⟨k, h3, h4, rfl⟩ := hh
          simp only [List.length_drop, List.length_cons, List.length_nil] at h4 hp'
          exact tailsP_fuel n m o _ _ (by simp only [List.length_drop]; omega) (by simp only [List.length_drop]; omega)
theorem tailsP_fuel : ∀ (n m o : Nat) (l : List UInt8) (s : BitVec 256), l.length < n → l.length < m → tailsP n o l s = tailsP m o l s
  | 0, _, _, _, _, h, _ => absurd h (Nat.not_lt_zero _)
  | _ + 1, 0, _, _, _, _, h => absurd h (Nat.not_lt_zero _)
  | n + 1, m + 1, o, l, s, h1, h2 => by
    unfold tailsP
    split
    · rfl
    · split
      · rfl
      · rename_i hp
        have hl2 : 2 ≤ l.length := by
          by_cases h : pre [45, 45] l = true
          · exact pre_len h
          · refine pre_len (s := [38, 38]) ?_
            cases hq : pre [38, 38] l with
            | true => rfl
            | false => exact absurd ⟨by simpa using h, hq⟩ hp
        have hc := classP_fuel n m (o + 1) (l.drop 2) (by rw [List.length_drop]; omega) (by rw [List.length_drop]; omega)
        rw [hc]
        have hh := classP_len m (o + 1) (l.drop 2)
        split
        · rfl
        · rename_i x r he
          rw [he] at hh
          obtain ⟨k, h3, h4, rfl⟩ := hh
          simp only [List.length_drop] at h4
          exact tailsP_fuel n m o _ _ (by simp only [List.length_drop]; omega) (by simp only [List.length_drop]; omega)
end
def classF (o : Nat) (l : List UInt8) : Rd := classP (l.length + 1) o l
def tailsF (o : Nat) (l : List UInt8) (s : BitVec 256) : Rd := tailsP (l.length + 1) o l s
theorem classF_of {n o : Nat} {l : List UInt8} (h : l.length < n) : classP n o l = classF o l := classP_fuel _ _ _ _ h (by omega)
theorem tailsF_of {n o : Nat} {l : List UInt8} {s : BitVec 256} (h : l.length < n) : tailsP n o l s = tailsF o l s := tailsP_fuel _ _ _ _ _ h (by omega)
theorem parseP_eq (t : List UInt8) (a : Int) : parseP t a = classF 0 (t.drop (if a < 0 ∨ (t.length : Int) < a then t.length else a.toNat)) := by
  unfold parseP; exact classF_of (by rw [List.length_drop]; omega)
theorem classF_none (o : Nat) (l : List UInt8) (h : pre [91] l = false) : classF o l = .bad false l := by
  unfold classF classP; rw [if_pos h]
theorem classF_deep (o : Nat) (l : List UInt8) (h : pre [91] l = true) (ho : 40 ≤ o) : classF o l = .bad true l := by
  unfold classF classP; rw [if_neg (by rw [h]; decide), if_pos ho]
theorem classF_bad {o : Nat} {l r : List UInt8} {d : Bool} (h : pre [91] l = true) (ho : ¬ 40 ≤ o) (hh : headP (l.drop 1) = .bad d r) : classF o l = .bad d r := by
  unfold classF classP; rw [if_neg (by rw [h]; decide), if_neg ho, hh]
theorem classF_ok {o : Nat} {l r : List UInt8} {s : BitVec 256} (h : pre [91] l = true) (ho : ¬ 40 ≤ o) (hh : headP (l.drop 1) = .ok s r) : classF o l = tailsF o r s := by
  have hl := headP_len (l.drop 1)
  rw [hh] at hl
  obtain ⟨k, h3, h4, rfl⟩ := hl
  have hp := pre_len h
  simp only [List.length_drop, List.length_cons, List.length_nil] at h4 hp
  unfold classF classP
  rw [if_neg (by rw [h]; decide), if_neg ho, hh]
  exact tailsF_of (by simp only [List.length_drop]; omega)
theorem tailsF_end {o : Nat} {l : List UInt8} {s : BitVec 256} (h : pre [93] l = true) : tailsF o l s = .ok s (l.drop 1) := by
  unfold tailsF tailsP; rw [if_pos h]
theorem tailsF_none {o : Nat} {l : List UInt8} {s : BitVec 256} (h : pre [93] l = false) (h1 : pre [45, 45] l = false) (h2 : pre [38, 38] l = false) : tailsF o l s = .bad false l := by
  unfold tailsF tailsP; rw [if_neg (by rw [h]; decide), if_pos ⟨h1, h2⟩]
theorem tailsF_bad {o : Nat} {l r : List UInt8} {s : BitVec 256} {d : Bool} (h : pre [93] l = false) (h1 : pre [45, 45] l = true ∨ pre [38, 38] l = true) (hc : classF (o + 1) (l.drop 2) = .bad d r) : tailsF o l s = .bad d r := by
  have hl2 : 2 ≤ l.length := by rcases h1 with h | h <;> exact pre_len h
  unfold tailsF tailsP
  rw [if_neg (by rw [h]; decide), if_neg (by rcases h1 with h1 | h1 <;> rw [h1] <;> simp), classF_of (by rw [List.length_drop]; omega), hc]
theorem tailsF_go {o : Nat} {l r : List UInt8} {s x : BitVec 256} (h : pre [93] l = false) (h1 : pre [45, 45] l = true ∨ pre [38, 38] l = true) (hc : classF (o + 1) (l.drop 2) = .ok x r) :
    tailsF o l s = tailsF o r (if pre [45, 45] l then s &&& ~~~x else s &&& x) := by
  have hl2 : 2 ≤ l.length := by rcases h1 with h | h <;> exact pre_len h
  have hl := classP_len (l.drop 2).length.succ (o + 1) (l.drop 2)
  rw [show classP (l.drop 2).length.succ (o + 1) (l.drop 2) = classF (o + 1) (l.drop 2) from rfl, hc] at hl
  obtain ⟨k, h3, h4, rfl⟩ := hl
  simp only [List.length_drop] at h4
  unfold tailsF
  rw [tailsP, if_neg (by rw [h]; decide), if_neg (by rcases h1 with h1 | h1 <;> rw [h1] <;> simp), classF_of (by rw [List.length_drop]; omega), hc]
  exact tailsF_of (by simp only [List.length_drop]; omega)

/-! ### A byte's text is read as that byte -/

theorem hexD_nib : ∀ n, n < 16 → nibL (hexD n) = n := by decide
theorem u8_of (c : UInt8) : UInt8.ofNat (16 * (c.toNat / 16) + c.toNat % 16) = c := by
  rw [show 16 * (c.toNat / 16) + c.toNat % 16 = c.toNat by omega]; exact UInt8.ofNat_toNat
theorem esc_hex (c : UInt8) (r : List UInt8) : escP (120 :: hexD (c.toNat / 16) :: hexD (c.toNat % 16) :: r) = some (c, r) := by
  have h1 : c.toNat / 16 < 16 := by have := c.toNat_lt; omega
  have h2 : c.toNat % 16 < 16 := Nat.mod_lt _ (by omega)
  have hl : letterL 120 = none := by decide
  rw [escP_cons, hl]
  simp only [if_true, hexD_nib _ h1, hexD_nib _ h2, h1, h2, and_self]
  rw [u8_of]
theorem esc_mark {c : UInt8} (h : c ∈ marksT ∨ c ∈ marksQ) (r : List UInt8) : escP (c :: r) = some (c, r) := by
  have : c = 92 ∨ c = 91 ∨ c = 93 ∨ c = 45 ∨ c = 94 ∨ c = 38 ∨ c = 34 := by
    rcases h with h | h
    · simp only [marksT, List.mem_cons, List.not_mem_nil, or_false] at h
      rcases h with h | h | h | h | h | h <;> simp [h]
    · simp only [marksQ, List.mem_cons, List.not_mem_nil, or_false] at h
      rcases h with h | h <;> simp [h]
  rcases this with rfl | rfl | rfl | rfl | rfl | rfl | rfl <;> rfl
theorem esc_n (r : List UInt8) : escP (110 :: r) = some (10, r) ∧ escP (116 :: r) = some (9, r) ∧ escP (114 :: r) = some (13, r) := ⟨rfl, rfl, rfl⟩
/-- The ways in which a byte is written. -/
theorem wr_cases (c : UInt8) (least : Nat) (marks : List UInt8) (hm : ∀ x ∈ marks, x ∈ marksT ∨ x ∈ marksQ) :
    (∃ e, wr c least marks = 92 :: e ∧ ∀ r, escP (e ++ r) = some (c, r)) ∨ (wr c least marks = [c] ∧ least ≤ c.toNat ∧ c.toNat ≤ 126 ∧ c ∉ marks ∧ c ≠ 10) := by
  unfold wr
  split
  · rename_i h; subst h; exact .inl ⟨_, rfl, fun r => rfl⟩
  · split
    · rename_i h; subst h; exact .inl ⟨_, rfl, fun r => rfl⟩
    · split
      · rename_i h; subst h; exact .inl ⟨_, rfl, fun r => rfl⟩
      · split
        · exact .inl ⟨_, rfl, fun r => esc_hex c r⟩
        · split
          · rename_i h; exact .inl ⟨_, rfl, fun r => esc_mark (hm c h) r⟩
          · exact .inr ⟨rfl, by omega, by omega, by assumption, by assumption⟩
theorem charP_wr (c : UInt8) (r : List UInt8) : charP (wrT c ++ r) = some (c, r) := by
  rcases wr_cases c 33 marksT (fun x h => .inl h) with ⟨e, he, h⟩ | ⟨he, _, _, hm, h10⟩
  · unfold wrT; rw [he, List.cons_append, charP_cons]
    rw [if_neg (by decide), if_pos rfl]; exact h r
  · unfold wrT; rw [he, List.cons_append, List.nil_append, charP_cons]
    simp only [marksT, List.mem_cons, List.not_mem_nil, or_false, not_or] at hm
    rw [if_neg (by simp [hm, h10]), if_neg (by simp [hm])]
/-- What a byte's text begins with. -/
theorem wrT_head (c : UInt8) : ∃ x l, wrT c = x :: l ∧ x ≠ 91 ∧ x ≠ 93 ∧ x ≠ 45 ∧ x ≠ 94 ∧ x ≠ 38 := by
  rcases wr_cases c 33 marksT (fun x h => .inl h) with ⟨e, he, _⟩ | ⟨he, _, _, hm, h10⟩
  · exact ⟨92, e, he, by decide, by decide, by decide, by decide, by decide⟩
  · simp only [marksT, List.mem_cons, List.not_mem_nil, or_false, not_or] at hm
    exact ⟨c, [], he, hm.2.1, hm.2.2.1, hm.2.2.2.1, hm.2.2.2.2.1, hm.2.2.2.2.2⟩
theorem pre_no {a b : UInt8} {s l : List UInt8} (h : b ≠ a) : pre (a :: s) (b :: l) = false := by
  unfold pre; simp [List.isPrefixOf]; intro e; exact absurd e.symm h
theorem pre_wr {a : UInt8} (s : List UInt8) (c : UInt8) (r : List UInt8) (ha : a = 91 ∨ a = 93 ∨ a = 45 ∨ a = 94 ∨ a = 38) : pre (a :: s) (wrT c ++ r) = false := by
  obtain ⟨x, l, h, h1, h2, h3, h4, h5⟩ := wrT_head c
  rw [h, List.cons_append]
  refine pre_no ?_
  rcases ha with rfl | rfl | rfl | rfl | rfl <;> assumption
theorem stops_wr (c : UInt8) (r : List UInt8) : stops (wrT c ++ r) = false := by
  unfold stops; rw [pre_wr _ _ _ (by simp), pre_wr _ _ _ (by simp), pre_wr _ _ _ (by simp)]; rfl
/-- What may stand behind an item. -/
def clear (r : List UInt8) : Prop := pre [45] r = true → pre [45, 45] r = true
theorem clear_wr (c : UInt8) (r : List UInt8) : clear (wrT c ++ r) := fun h => by rw [pre_wr _ _ _ (by simp)] at h; cases h
theorem item_one (c : UInt8) (r : List UInt8) (h : clear r) : itemP (wrT c ++ r) = .ok (ofList [c]) r := by
  unfold itemP
  rw [pre_wr _ _ _ (by simp), if_neg (by decide), charP_wr]
  simp only
  rw [if_neg]
  intro h2
  simp only [Bool.and_eq_true, Bool.not_eq_true'] at h2
  rw [h h2.1] at h2; cases h2.2
theorem item_range (a b : UInt8) (r : List UInt8) (h : a.toNat ≤ b.toNat) : itemP (wrT a ++ (45 :: (wrT b ++ r))) = .ok (rangeSet a.toNat b.toNat) r := by
  unfold itemP
  rw [pre_wr _ _ _ (by simp), if_neg (by decide), charP_wr]
  simp only
  rw [if_pos]
  · simp only [List.drop_succ_cons, List.drop_zero]
    rw [charP_wr]
    simp only
    rw [if_neg (by omega)]
  · obtain ⟨x, l, hx, _, _, h3, _⟩ := wrT_head b
    rw [hx]
    simp only [pre, List.isPrefixOf, List.cons_append, beq_self_eq_true, Bool.true_and, Bool.and_true]
    simp [Ne.symm h3]
theorem ofList_one (c : UInt8) : ofList [c] = bit c.toNat := by
  have := ofList_snoc [] c
  rw [List.nil_append, ofList_nil, emptyS_or] at this; exact this
theorem items_span (p : Sp) (r : List UInt8) (s : BitVec 256) (hp : p.1.toNat ≤ p.2.toNat) (hr : clear r) : itemsF (spanL p ++ r) s = itemsF r (s ||| rangeSet p.1.toNat p.2.toNat) := by
  obtain ⟨a, b⟩ := p
  simp only at hp
  unfold spanL
  simp only
  rcases Nat.lt_trichotomy (a.toNat + 1) b.toNat with h | h | h
  · rw [if_pos h, if_pos (by omega), List.append_assoc, List.append_assoc]
    refine itemsF_go s (stops_wr _ _) ?_
    exact item_range a b r hp
  · rw [if_neg (by omega), if_pos (by omega), List.nil_append, List.append_assoc]
    rw [itemsF_go s (stops_wr _ _) (item_one a _ (clear_wr b r)), itemsF_go _ (stops_wr _ _) (item_one b r hr), BitVec.or_assoc]
    congr 2
    rw [ofList_one, ofList_one, ← h]
    rw [range_snoc a.toNat a.toNat (a.toNat + 1) (by omega) rfl, range_one]
  · have e : a = b := UInt8.toNat_inj.1 (by omega)
    subst e
    rw [if_neg (by omega), if_neg (by omega), List.append_nil, List.append_nil]
    rw [itemsF_go s (stops_wr _ _) (item_one a r hr), ofList_one, range_one]
theorem clear_body (l : List Sp) (r : List UInt8) (h : clear r) : clear (bodyL l ++ r) := by
  cases l with
  | nil => exact h
  | cons p l => show clear ((spanL p ++ bodyL l) ++ r); unfold spanL; rw [List.append_assoc, List.append_assoc]; exact clear_wr _ _
theorem items_body : ∀ (l : List Sp) (r : List UInt8) (s : BitVec 256), (∀ p ∈ l, p.1.toNat ≤ p.2.toNat) → clear r → itemsF (bodyL l ++ r) s = itemsF r (s ||| ofSpans l)
  | [], r, s, _, _ => by show itemsF r s = itemsF r (s ||| emptyS); rw [or_emptyS]
  | p :: l, r, s, hp, hr => by
    show itemsF ((spanL p ++ bodyL l) ++ r) s = _
    rw [List.append_assoc, items_span p _ s (hp p (by simp)) (clear_body l r hr), items_body l r _ (fun q hq => hp q (by simp [hq])) hr, BitVec.or_assoc]
    rfl
theorem body_not (l : List Sp) (r : List UInt8) (h : pre [94] r = false) : pre [94] (bodyL l ++ r) = false := by
  cases l with
  | nil => exact h
  | cons p l => show pre [94] ((spanL p ++ bodyL l) ++ r) = false; unfold spanL; rw [List.append_assoc, List.append_assoc]; exact pre_wr _ _ _ (by simp)
theorem clear_stops {r : List UInt8} (h : stops r = true) : clear r := fun h1 => by
  unfold stops at h
  match r, h1 with
  | c :: r, h1 =>
    have hc : c = 45 := by simp [pre, List.isPrefixOf] at h1; exact h1.symm
    subst hc
    simpa [pre, List.isPrefixOf] using h
theorem stops_not {r : List UInt8} (h : stops r = true) : pre [94] r = false := by
  unfold stops at h
  match r with
  | [] => rfl
  | c :: r =>
    refine pre_no ?_
    rintro rfl
    simp [pre, List.isPrefixOf] at h
/-- The body of a class, up to a tail or the end. -/
theorem head_body (l : List Sp) (r : List UInt8) (hl : ∀ p ∈ l, p.1.toNat ≤ p.2.toNat) (hr : stops r = true) : headP (bodyL l ++ r) = .ok (ofSpans l) r := by
  unfold headP
  rw [body_not l r (stops_not hr)]
  simp only [Bool.false_eq_true, if_false]
  rw [show itemsP ((bodyL l ++ r).length + 1) (bodyL l ++ r) emptyS = itemsF (bodyL l ++ r) emptyS from rfl, items_body l r _ hl (clear_stops hr), emptyS_or, itemsF_stop _ hr]
theorem head_not (l : List Sp) (r : List UInt8) (hl : ∀ p ∈ l, p.1.toNat ≤ p.2.toNat) (hr : stops r = true) : headP (94 :: (bodyL l ++ r)) = .ok (~~~ofSpans l) r := by
  unfold headP
  have h1 : pre [94] (94 :: (bodyL l ++ r)) = true := rfl
  rw [h1]
  simp only [if_true, List.drop_succ_cons, List.drop_zero]
  rw [itemsP_fuel _ ((bodyL l ++ r).length + 1) _ _ (by simp only [List.length_cons]; omega) (by omega)]
  rw [show itemsP ((bodyL l ++ r).length + 1) (bodyL l ++ r) emptyS = itemsF (bodyL l ++ r) emptyS from rfl, items_body l r _ hl (clear_stops hr), emptyS_or, itemsF_stop _ hr]
/-- A class's text, whatever stands behind. -/
theorem class_text (o : Nat) (ho : o < 40) (l : List Sp) (r : List UInt8) (hl : ∀ p ∈ l, p.1.toNat ≤ p.2.toNat) : classF o (textL l ++ r) = .ok (ofSpans l) r := by
  have e : textL l ++ r = 91 :: (bodyL l ++ (93 :: r)) := by simp [textL]
  rw [e, classF_ok (by rfl) (by omega) (by rw [List.drop_succ_cons, List.drop_zero]; exact head_body l (93 :: r) hl rfl), tailsF_end rfl]; rfl

/-! ### Quoted texts -/

theorem quotedP_cons (n : Nat) (c : UInt8) (r acc : List UInt8) : quotedP (n + 1) (c :: r) acc = (if c = 10 then .bad (c :: r) else if c = 34 then .ok acc r else if c = 92 then
        match escP r with
        | none => .bad (c :: r)
        | some (v, q) => quotedP n q (acc ++ [v])
      else quotedP n r (acc ++ [c])) := rfl
theorem quoted_wr (n : Nat) (c : UInt8) (r acc : List UInt8) : quotedP (n + 1) (wrQ c ++ r) acc = quotedP n r (acc ++ [c]) := by
  rcases wr_cases c 32 marksQ (fun x h => .inr h) with ⟨e, he, h⟩ | ⟨he, _, _, hm, h10⟩
  · unfold wrQ; rw [he, List.cons_append, quotedP_cons]
    rw [if_neg (by decide), if_neg (by decide), if_pos rfl, h r]
  · unfold wrQ; rw [he, List.cons_append, List.nil_append, quotedP_cons]
    simp only [marksQ, List.mem_cons, List.not_mem_nil, or_false, not_or] at hm
    rw [if_neg h10, if_neg hm.1, if_neg hm.2]
theorem quoted_all : ∀ (l : List UInt8) (n : Nat) (r acc : List UInt8), l.length < n → quotedP n (l.flatMap wrQ ++ (34 :: r)) acc = .ok (acc ++ l) r
  | [], n, r, acc, h => by
    match n, h with
    | n + 1, _ => simp [quotedP]
  | c :: l, n, r, acc, h => by
    match n, h with
    | n + 1, h =>
      rw [List.flatMap_cons, List.append_assoc, quoted_wr, quoted_all l n r _ (by simp at h; omega)]; simp

end Go.Proofs.YtihjmeoklbmnmaaDoor

/- List. No condition. -/
namespace Go.Proofs.YtihjmeoklbmnmaaDoor
open Go Go.RowKit

/-- The bytes of a set below k, rising. -/
def bytesTo (s : BitVec 256) (k : Nat) : List UInt8 := ((List.range k).filter fun i => s.getLsbD i).map UInt8.ofNat
def bytesOf (s : BitVec 256) : List UInt8 := bytesTo s 256
theorem bytesTo_yes (s : BitVec 256) (k : Nat) (h : s.getLsbD k = true) : bytesTo s (k + 1) = bytesTo s k ++ [UInt8.ofNat k] := by
  unfold bytesTo; rw [List.range_succ, List.filter_append, List.map_append]; simp only [List.filter_cons, h, if_true, List.filter_nil, List.map_cons, List.map_nil]
theorem bytesTo_no (s : BitVec 256) (k : Nat) (h : s.getLsbD k = false) : bytesTo s (k + 1) = bytesTo s k := by
  unfold bytesTo; rw [List.range_succ, List.filter_append, List.map_append]; simp [h]
theorem bytesTo_len (s : BitVec 256) (k : Nat) : (bytesTo s k).length ≤ k := by
  unfold bytesTo; rw [List.length_map]; exact Nat.le_trans (List.length_filter_le _ _) (by simp)

/-- The call hands back a new slice of these bytes. -/
def SomeBytes (l : List UInt8) (w : World) (e : Ending) (w' : World) : Prop := ∃ v, e = .returned v ∧ w'.ownsRow w.heap.size 5 1 v l.length (l.map vB) ∧ Gr w w'

theorem info_u8 : (Tryd.prog.info? 5).map (fun i => (i.zero, i.size, i.bytes)) = some (some (.int .u8 0), 1, 1) := by kernel_rfl

theorem owns_grown {w w' : World} {B e n : Nat} {v : Value} {xs : List Value} (h : w.ownsRow B e 1 v n xs) (hG : Gr w w') : w'.ownsRow B e 1 v n xs := by
  obtain ⟨h1, h2⟩ := h
  refine ⟨h1, h2.imp id ?_⟩
  rintro ⟨g, cap, cur, hv, hb, hh, r⟩
  refine ⟨g, cap, cur, hv, hb, ?_, r⟩
  have hlt : g < w.heap.size := (Array.getElem?_eq_some_iff.1 hh).1
  rw [Below.block hG g hlt]; exact hh

theorem has_of (s : BitVec 256) (b : Nat) (r : Bool) (w : World) (hb : b < 256) (h : s.getLsbD b = r) :
    Calls Tryd.prog 45 #[.agg #[.int .u64 (wd s 0), .int .u64 (wd s 1), .int .u64 (wd s 2), .int .u64 (wd s 3)], .int .u8 b] w fun e w' => e = .returned (.bool r) ∧ Below w.heap.size w w' := by
  subst h; exact has_any s b w hb

set_option maxRecDepth 100000 in
set_option maxHeartbeats 1000000 in
theorem list_any (s : BitVec 256) (w : World) : Calls Tryd.prog 37 #[.agg #[.int .u64 (wd s 0), .int .u64 (wd s 1), .int .u64 (wd s 2), .int .u64 (wd s 3)]] w (SomeBytes (bytesOf s) w) := by
  obtain ⟨i0, hi, hz0, hz1, hz2⟩ := info_parts info_u8
  go_enter Tryd.func37, Tryd.ntmps37
  go_wp2_with fail
  go_loopw [3, 5] (fun v i wr => ∃ k : Nat, k ≤ 256 ∧ i = .int .i64 k ∧ wr.ownsRow (w.heap.size + 1) 5 1 v (bytesTo s k).length ((bytesTo s k).map vB) ∧ Gr w wr ∧ w.heap.size + 1 ≤ wr.heap.size ∧ boxAt wr w.heap.size [.int .u64 (wd s 0), .int .u64 (wd s 1), .int .u64 (wd s 2), .int .u64 (wd s 3)]) (fun _ i _ => 256 - (intOf i).toNat)
  case atStart =>
    refine ⟨0, by omega, rfl, World.ownsRow_nil _ _ _ _, Gr.alloc _ _, by simp, ?_⟩
    exact boxAt.new [.int .u64 (wd s 0), .int .u64 (wd s 1), .int .u64 (wd s 2), .int .u64 (wd s 3)] 29 rfl
  case round =>
    obtain ⟨k, hk, rfl, hown, hg, hz, hs⟩ := hrel
    by_cases hlt : k < 256
    · have c_s0 := hs.cell 0 _ rfl
      have c_s1 := hs.cell 1 _ rfl
      have c_s2 := hs.cell 2 _ rfl
      have c_s3 := hs.cell 3 _ rfl
      have m_s0 := hs.mark 0 _ rfl
      have m_s1 := hs.mark 1 _ rfl
      have m_s2 := hs.mark 2 _ rfl
      have m_s3 := hs.mark 3 _ rfl
      have l_s := hs.lt (Nat.succ_pos _)
      have hlI : (k : Int) < 256 := by omega
      have hl := bytesTo_len s k
      have HL := Lib.hid hlt
      cases hb : s.getLsbD k
      · have HB := Lib.hid hb
        have R := bytesTo_no s k hb
        have HR := Lib.hid R
        clear hb hlt hk R
        go_wp2_with (go_at_call 45; refine (has_of s k _ _ HL.out HB.out).mono ?_; rintro e w' ⟨rfl, hbw⟩)
        go_roundw
        case rel =>
          refine ⟨k + 1, by have := HL.out; omega, by go_num, ?_, ?_, ?_, ?_⟩
          · rw [HR.out]; exact owns_grown hown hbw
          · exact hg.trans hbw
          · have := Gr.size hbw; omega
          · exact hs.later hbw
        case measure => simp [intOf]; omega
      · have HB := Lib.hid hb
        have R := bytesTo_yes s k hb
        have HR := Lib.hid R
        clear hb hlt hk R
        go_wp2_with (first
          | (go_at_call 45; refine (has_of s k _ _ HL.out HB.out).mono ?_; rintro e w' ⟨rfl, hbw⟩; have hown' := owns_grown hown hbw; have hzw := Gr.size hbw)
          | (at_builtin; refine wpList_append_own _ rfl (.tmp 12) (.tmp 15) 46 rfl (w.heap.size + 1) 5 i0 (.int .u8 0) 1 1 Tryd.underlying46 hi hz0 hz1 hz2 rfl (by decide) _ _ _ rfl (hown'.alloc _) ⟨_, 0, none⟩ 1 1 [.int .u8 (k : Int)] rfl rfl ?c1 ?c2 ?c3 ?c4 ?c5 ?_))
        case c1 =>
          intro j u hj
          match j, hj with
          | 0, hj => simp at hj; subst hj; simp [Addr.add]
        case c2 => intro u hu; simp at hu; subst hu; rfl
        case c3 => unfold maxLen; omega
        case c4 => omega
        case c5 => simp; omega
        intro v' w1 hown2 hgrow _
        have hne : ∀ b, u3.ownBlock = some b → w.heap.size + 1 ≤ b := fun b hb => (World.ownsRow.lt hown b hb).1
        have R1 : Gr w w1 := Gr.grown (((hg.trans hbw)).trans (Gr.alloc _ _)) hgrow (fun b hb => by have := hne b hb; omega)
        have R2 := ((hs.later hbw).later (Gr.alloc w' (.cells #[.int .u8 (k : Int)] 5))).grown hgrow (by simp) (fun e => by have := hne _ e; omega)
        have R3 := hgrow.size
        have R4 : w1.ownsRow (w.heap.size + 1) 5 1 v' (bytesTo s (k + 1)).length ((bytesTo s (k + 1)).map vB) := by
          rw [HR.out, List.map_append, List.length_append]
          have : vB (UInt8.ofNat k) = .int .u8 (k : Int) := by unfold vB; rw [UInt8.toNat_ofNat_of_lt' HL.out]
          simp only [List.map_cons, List.map_nil, this]
          exact hown2
        have R5 : w.heap.size + 1 ≤ w1.heap.size := by simp at R3; omega
        clear hown2 hgrow hown' hown hne R3 hbw hzw
        go_wp2
        go_roundw
        case rel => exact ⟨k + 1, by have := HL.out; omega, by go_num, R4, R1, R5, R2⟩
        case measure => simp [intOf]; omega
    · obtain rfl : k = 256 := by omega
      have R : wr.ownsRow w.heap.size 5 1 u3 (bytesOf s).length ((bytesOf s).map vB) := by
        obtain ⟨h1, h2⟩ := hown
        refine ⟨h1, h2.imp id ?_⟩
        rintro ⟨g, cap, cur, hv, hb, r⟩
        exact ⟨g, cap, cur, hv, by omega, r⟩
      clear hlt hown
      go_wp2_with fail
      go_ret
      exact ⟨_, rfl, R, hg⟩

end Go.Proofs.YtihjmeoklbmnmaaDoor

/- The least byte of a set, and the order of sets that it makes. Plain; no condition. -/
namespace Go.Proofs.YtihjmeoklbmnmaaDoor
open Go

/-- k is the least byte of S. -/
def IsLow (S : BitVec 256) (k : Nat) : Prop := k < 256 ∧ S.getLsbD k = true ∧ ∀ j, j < k → S.getLsbD j = false

theorem least_of (p : Nat → Bool) : ∀ n, (∃ k, k < n ∧ p k = true ∧ ∀ j, j < k → p j = false) ∨ ∀ k, k < n → p k = false
  | 0 => .inr fun k hk => absurd hk (Nat.not_lt_zero _)
  | n + 1 => by
    rcases least_of p n with ⟨k, hk, h⟩ | h
    · exact .inl ⟨k, by omega, h⟩
    · cases hp : p n
      · exact .inr fun k hk => by
          rcases Nat.lt_succ_iff_lt_or_eq.1 hk with h1 | rfl
          · exact h k h1
          · exact hp
      · exact .inl ⟨n, by omega, hp, h⟩
theorem low_or (S : BitVec 256) : (∃ k, IsLow S k) ∨ S = emptyS := by
  rcases least_of S.getLsbD 256 with ⟨k, hk, h1, h2⟩ | h
  · exact .inl ⟨k, hk, h1, h2⟩
  · exact .inr (set_ext _ _ fun k hk => by rw [h k hk, getLsbD_empty])

theorem word_bit (S : BitVec 256) (i j : Nat) (hj : j < 64) : (S.extractLsb' (64 * i) 64).toNat.testBit j = S.getLsbD (64 * i + j) := by
  rw [BitVec.testBit_toNat, BitVec.getLsbD_extractLsb']; simp [hj]
theorem word_zero (S : BitVec 256) (i : Nat) (h : ∀ j, j < 64 → S.getLsbD (64 * i + j) = false) : wd S i = 0 := by
  have : (S.extractLsb' (64 * i) 64).toNat = 0 := Nat.eq_of_testBit_eq fun j => by
    by_cases hj : j < 64
    · rw [word_bit S i j hj, h j hj]; simp
    · rw [Nat.testBit_lt_two_pow (Nat.lt_of_lt_of_le (BitVec.isLt _) (Nat.pow_le_pow_right (by omega) (by omega)))]; simp
  unfold wd; rw [this]; rfl
theorem ctz_of (x r : Nat) (hx : x < 2 ^ 64) (hr : r < 64) (h : x.testBit r = true) (h' : ∀ j, j < r → x.testBit j = false) : x ≠ 0 ∧ Lib.ctz 64 x = r := by
  have h0 : x ≠ 0 := fun e => by rw [e] at h; simp at h
  refine ⟨h0, ?_⟩
  obtain ⟨m, hm, hk⟩ := Lib.ctzFrom_spec 64 x (by omega) hx
  have e : Lib.ctz 64 x = Lib.ctzFrom 64 x := by simp [Lib.ctz, h0]
  rw [e]
  obtain ⟨c, hc⟩ : ∃ c, Lib.ctzFrom 64 x = c := ⟨_, rfl⟩
  rw [hc] at hm ⊢
  have t : ∀ j, x.testBit j = (decide (c ≤ j) && (2 * m + 1).testBit (j - c)) := fun j => by rw [hm, Nat.testBit_two_pow_mul]
  rcases Nat.lt_trichotomy c r with h1 | h1 | h1
  · have := h' c h1
    rw [t c] at this
    simp at this
  · exact h1
  · rw [t r] at h
    simp at h; omega

/-- The words of a set whose least byte is k. -/
theorem low_words (S : BitVec 256) (k : Nat) (h : IsLow S k) : (∀ i, i < k / 64 → wd S i = 0) ∧ ∃ x : Nat, wd S (k / 64) = (x : Int) ∧ x < 18446744073709551616 ∧ x ≠ 0 ∧ Lib.ctz 64 x = k % 64 := by
  obtain ⟨hk, h1, h2⟩ := h
  refine ⟨fun i hi => word_zero S i fun j hj => h2 _ (by omega), (S.extractLsb' (64 * (k / 64)) 64).toNat, rfl, BitVec.isLt _, ?_⟩
  refine ctz_of _ _ (BitVec.isLt _) (by omega) ?_ fun j hj => ?_
  · rw [word_bit _ _ _ (by omega), show 64 * (k / 64) + k % 64 = k by omega]; exact h1
  · rw [word_bit _ _ _ (by omega)]; exact h2 _ (by omega)

/-- a stands ahead of b: the least byte that is in one alone is in a. -/
def Ahead (a b : BitVec 256) : Prop := ∃ k, k < 256 ∧ a.getLsbD k = true ∧ b.getLsbD k = false ∧ ∀ j, j < k → a.getLsbD j = b.getLsbD j

/-- What Compare answers. -/
def IsCmp (a b : BitVec 256) (c : Int) : Prop := (a = b ∧ c = 0) ∨ (Ahead a b ∧ c = -1) ∨ (Ahead b a ∧ c = 1)

theorem Ahead.ne {a b : BitVec 256} (h : Ahead a b) : a ≠ b := fun e => by
  obtain ⟨k, _, h1, h2, _⟩ := h
  rw [e, h2] at h1; cases h1
theorem Ahead.not {a b : BitVec 256} (h : Ahead a b) (h' : Ahead b a) : False := by
  obtain ⟨k, _, h1, h2, h3⟩ := h
  obtain ⟨j, _, g1, g2, g3⟩ := h'
  rcases Nat.lt_trichotomy k j with hl | rfl | hl
  · rw [g3 k hl, h1] at h2; cases h2
  · rw [h1] at g2; cases g2
  · rw [h3 j hl, g1] at g2; cases g2
theorem Ahead.trans {a b c : BitVec 256} (h : Ahead a b) (h' : Ahead b c) : Ahead a c := by
  obtain ⟨k, hk, h1, h2, h3⟩ := h
  obtain ⟨j, hj, g1, g2, g3⟩ := h'
  rcases Nat.lt_trichotomy k j with hl | rfl | hl
  · exact ⟨k, hk, h1, by rw [← g3 k hl]; exact h2, fun i hi => (h3 i hi).trans (g3 i (by omega))⟩
  · rw [h2] at g1; cases g1
  · exact ⟨j, hj, by rw [h3 j hl]; exact g1, g2, fun i hi => (h3 i (by omega)).trans (g3 i hi)⟩
theorem IsCmp.one {a b : BitVec 256} {c c' : Int} (h : IsCmp a b c) (h' : IsCmp a b c') : c = c' := by
  rcases h with ⟨e, rfl⟩ | ⟨e, rfl⟩ | ⟨e, rfl⟩ <;> rcases h' with ⟨e', rfl⟩ | ⟨e', rfl⟩ | ⟨e', rfl⟩
  all_goals first
    | rfl
    | exact absurd e e'.ne
    | exact absurd e.symm e'.ne
    | exact absurd e' e.ne
    | exact absurd e'.symm e.ne
    | exact (e.not e').elim
theorem IsCmp.swap {a b : BitVec 256} {c : Int} (h : IsCmp a b c) : IsCmp b a (-c) := by
  rcases h with ⟨e, rfl⟩ | ⟨e, rfl⟩ | ⟨e, rfl⟩
  · exact .inl ⟨e.symm, rfl⟩
  · exact .inr (.inr ⟨e, rfl⟩)
  · exact .inr (.inl ⟨e, rfl⟩)
theorem IsCmp.range {a b : BitVec 256} {c : Int} (h : IsCmp a b c) : -1 ≤ c ∧ c ≤ 1 := by
  rcases h with ⟨_, rfl⟩ | ⟨_, rfl⟩ | ⟨_, rfl⟩ <;> omega
theorem IsCmp.zero {a b : BitVec 256} {c : Int} (h : IsCmp a b c) : c = 0 ↔ a = b := by
  rcases h with ⟨e, rfl⟩ | ⟨e, rfl⟩ | ⟨e, rfl⟩
  · simp [e]
  · exact ⟨fun h => by omega, fun h => absurd h e.ne⟩
  · exact ⟨fun h => by omega, fun h => absurd h.symm e.ne⟩
theorem IsCmp.trans {a b c : BitVec 256} {x y z : Int} (h : IsCmp a b x) (h' : IsCmp b c y) (h'' : IsCmp a c z) (hx : x ≤ 0) (hy : y ≤ 0) : z ≤ 0 ∧ (z = 0 → x + y = 0) := by
  rcases h with ⟨rfl, rfl⟩ | ⟨e, rfl⟩ | ⟨e, rfl⟩
  · have := h''.one h'
    subst this
    exact ⟨hy, fun h => by omega⟩
  · rcases h' with ⟨rfl, rfl⟩ | ⟨e', rfl⟩ | ⟨e', rfl⟩
    · have := h''.one (.inr (.inl ⟨e, rfl⟩))
      omega
    · have := h''.one (.inr (.inl ⟨e.trans e', rfl⟩))
      omega
    · omega
  · omega
/-- a with more bytes stands ahead. -/
theorem ahead_of_within (a b : BitVec 256) (h : ∀ k, k < 256 → b.getLsbD k = true → a.getLsbD k = true) : a = b ∨ Ahead a b := by
  rcases least_of (fun k => a.getLsbD k && !b.getLsbD k) 256 with ⟨k, hk, h1, h2⟩ | h1
  · refine .inr ⟨k, hk, ?_⟩
    simp only [Bool.and_eq_true, Bool.not_eq_true'] at h1
    refine ⟨h1.1, h1.2, fun j hj => ?_⟩
    have h3 := h2 j hj
    have h4 := h j (by omega)
    cases ha : a.getLsbD j <;> cases hb : b.getLsbD j <;> simp_all
  · refine .inl (set_ext _ _ fun k hk => ?_)
    have h3 := h1 k hk
    have h4 := h k hk
    cases ha : a.getLsbD k <;> cases hb : b.getLsbD k <;> simp_all
theorem cmp_within {a b : BitVec 256} {c : Int} (h : ∀ k, k < 256 → b.getLsbD k = true → a.getLsbD k = true) (hc : IsCmp a b c) : c ≤ 0 ∧ (c < 0 ↔ a ≠ b) := by
  rcases ahead_of_within a b h with rfl | h1
  · have := hc.one (.inl ⟨rfl, rfl⟩)
    subst this; simp
  · have := hc.one (.inr (.inl ⟨h1, rfl⟩))
    subst this; simp [h1.ne]
/-- Compare's own way: the least byte that is in one alone. -/
theorem cmp_of_low (a b : BitVec 256) (k : Nat) (h : IsLow (a &&& ~~~b ||| b &&& ~~~a) k) : IsCmp a b (if a.getLsbD k then -1 else 1) := by
  obtain ⟨hk, h1, h2⟩ := h
  simp only [BitVec.getLsbD_or, BitVec.getLsbD_and, BitVec.getLsbD_not] at h1 h2
  have h3 : ∀ j, j < k → a.getLsbD j = b.getLsbD j := fun j hj => by
    have := h2 j hj
    have hj' : j < 256 := by omega
    cases ha : a.getLsbD j <;> cases hb : b.getLsbD j <;> simp_all
  cases ha : a.getLsbD k
  · rw [if_neg (by simp)]
    refine .inr (.inr ⟨⟨k, hk, ?_, ha, fun j hj => (h3 j hj).symm⟩, rfl⟩)
    cases hb : b.getLsbD k
    · rw [ha, hb] at h1; simp at h1
    · rfl
  · rw [if_pos rfl]
    refine .inr (.inl ⟨⟨k, hk, ha, ?_, h3⟩, rfl⟩)
    cases hb : b.getLsbD k
    · rfl
    · rw [ha, hb] at h1; simp at h1
theorem low_of_ne (a b : BitVec 256) (h : a ≠ b) : ∃ k, IsLow (a &&& ~~~b ||| b &&& ~~~a) k := by
  rcases low_or (a &&& ~~~b ||| b &&& ~~~a) with h1 | h1
  · exact h1
  · refine absurd (set_ext _ _ fun k hk => ?_) h
    have := congrArg (fun s => s.getLsbD k) h1
    simp only [BitVec.getLsbD_or, BitVec.getLsbD_and, BitVec.getLsbD_not, getLsbD_empty] at this
    cases ha : a.getLsbD k <;> cases hb : b.getLsbD k <;> simp_all

end Go.Proofs.YtihjmeoklbmnmaaDoor

/- The bytes of a set, rising: what they are. Plain; no condition. -/
namespace Go.Proofs.YtihjmeoklbmnmaaDoor
open Go

theorem toNat_ofNat8 (k : Nat) (h : k < 256) : (UInt8.ofNat k).toNat = k := UInt8.toNat_ofNat_of_lt' h
theorem mem_bytesTo (s : BitVec 256) (k : Nat) (hk : k ≤ 256) (b : UInt8) : b ∈ bytesTo s k ↔ b.toNat < k ∧ s.getLsbD b.toNat = true := by
  unfold bytesTo
  simp only [List.mem_map, List.mem_filter, List.mem_range]
  constructor
  · rintro ⟨i, ⟨hi, hs⟩, rfl⟩
    rw [toNat_ofNat8 i (by omega)]; exact ⟨hi, hs⟩
  · rintro ⟨hb, hs⟩
    exact ⟨b.toNat, ⟨hb, hs⟩, by simp⟩
theorem mem_bytesOf (s : BitVec 256) (b : UInt8) : b ∈ bytesOf s ↔ s.getLsbD b.toNat = true := by
  have := b.toNat_lt
  rw [bytesOf, mem_bytesTo s 256 (Nat.le_refl _)]
  exact ⟨fun h => h.2, fun h => ⟨by omega, h⟩⟩
theorem bytesTo_rising (s : BitVec 256) : ∀ k, k ≤ 256 → (bytesTo s k).Pairwise (fun a b => a.toNat < b.toNat)
  | 0, _ => by unfold bytesTo; simp
  | k + 1, hk => by
    have ih := bytesTo_rising s k (by omega)
    cases h : s.getLsbD k
    · rw [bytesTo_no s k h]; exact ih
    · rw [bytesTo_yes s k h, List.pairwise_append]
      refine ⟨ih, by simp, fun a ha b hb => ?_⟩
      simp at hb; subst hb
      rw [toNat_ofNat8 k (by omega)]
      exact ((mem_bytesTo s k (by omega) a).1 ha).1
theorem bytesOf_rising (s : BitVec 256) : (bytesOf s).Pairwise (fun a b => a.toNat < b.toNat) := bytesTo_rising s 256 (Nat.le_refl _)
theorem ofList_bytesOf (s : BitVec 256) : ofList (bytesOf s) = s := set_ext _ _ fun k hk => by
  rw [getLsbD_ofList, Bool.eq_iff_iff]
  simp only [hk, decide_true, Bool.true_and, List.any_eq_true, beq_iff_eq]
  constructor
  · rintro ⟨b, hb, rfl⟩; exact (mem_bytesOf s b).1 hb
  · intro h; exact ⟨UInt8.ofNat k, (mem_bytesOf s _).2 (by rw [toNat_ofNat8 k hk]; exact h), toNat_ofNat8 k hk⟩
theorem bytesTo_count (s : BitVec 256) : ∀ k, (bytesTo s k).length = cardN s.getLsbD k
  | 0 => by unfold bytesTo; rfl
  | k + 1 => by
    have ih := bytesTo_count s k
    unfold cardN
    cases h : s.getLsbD k
    · rw [bytesTo_no s k h, ih]; rfl
    · rw [bytesTo_yes s k h, List.length_append, ih]; rfl
theorem bytesOf_count (s : BitVec 256) : (bytesOf s).length = card s := bytesTo_count s 256
theorem bytesOf_low (s : BitVec 256) (k : Nat) (h : IsLow s k) : (bytesOf s)[0]? = some (UInt8.ofNat k) := by
  obtain ⟨hk, h1, h2⟩ := h
  have hm : UInt8.ofNat k ∈ bytesOf s := (mem_bytesOf s _).2 (by rw [toNat_ofNat8 k hk]; exact h1)
  have hr := bytesOf_rising s
  have hall : ∀ b ∈ bytesOf s, k ≤ b.toNat := fun b hb => by
    rcases Nat.lt_or_ge b.toNat k with h | h
    · have := h2 _ h; rw [(mem_bytesOf s b).1 hb] at this; cases this
    · exact h
  cases hl : bytesOf s with
  | nil => rw [hl] at hm; cases hm
  | cons a r =>
    rw [hl] at hm hr hall
    have ha := hall a (by simp)
    rcases List.mem_cons.1 hm with e | e
    · rw [← e]; rfl
    · have := (List.pairwise_cons.1 hr).1 _ e
      rw [toNat_ofNat8 k hk] at this; omega
theorem bytesOf_empty : bytesOf emptyS = [] := by
  cases h : bytesOf emptyS with
  | nil => rfl
  | cons a r =>
    have : a ∈ bytesOf emptyS := by rw [h]; simp
    rw [mem_bytesOf, getLsbD_empty] at this; cases this
theorem bytesOf_step (s : BitVec 256) (i : Nat) (a b : UInt8) (h1 : (bytesOf s)[i]? = some a) (h2 : (bytesOf s)[i + 1]? = some b) : a.toNat < b.toNat := by
  have hr := bytesOf_rising s
  obtain ⟨g1, rfl⟩ := List.getElem?_eq_some_iff.1 h1
  obtain ⟨g2, rfl⟩ := List.getElem?_eq_some_iff.1 h2
  exact List.pairwise_iff_getElem.1 hr i (i + 1) g1 g2 (by omega)

end Go.Proofs.YtihjmeoklbmnmaaDoor

/- Calls of byteset whose answer is told by an equation. No condition. -/
namespace Go.Proofs.YtihjmeoklbmnmaaDoor
open Go Go.RowKit

theorem of_is (l : List UInt8) (S : BitVec 256) (v : Value) (w : World) (h : Sl w v 1 l.length (l.map vB)) (e : ofList l = S) :
    Calls Tryd.prog 19 #[v] w fun e w' => e = .returned (.agg #[.int .u64 (wd S 0), .int .u64 (wd S 1), .int .u64 (wd S 2), .int .u64 (wd S 3)]) ∧ Gr w w' := by subst e; exact of_any l v w h
theorem ofSpans_is (l : List Sp) (S : BitVec 256) (v : Value) (w : World) (h : Sl w v 2 l.length (spsCells l)) (e : ofSpans l = S) :
    Calls Tryd.prog 76 #[v] w fun e w' => e = .returned (.agg #[.int .u64 (wd S 0), .int .u64 (wd S 1), .int .u64 (wd S 2), .int .u64 (wd S 3)]) ∧ Gr w w' := by subst e; exact ofSpans_any l v w h
theorem spsCells_app (a b : List Sp) : spsCells (a ++ b) = spsCells a ++ spsCells b := List.flatMap_append ..
theorem beq_is {α : Type} [BEq α] [LawfulBEq α] {a b : α} (h : a = b) : (a == b) = true := by subst h; simp

theorem addr_add0 (b j : Nat) : (⟨b, 0, none⟩ : Addr).add j = ⟨b, j, none⟩ := by
  unfold Addr.add
  by_cases h : j = 0
  · subst h; rfl
  · rw [if_neg h, Nat.zero_add]
theorem spsCells_one (l : List Sp) : ∀ u ∈ spsCells l, u.oneCell' = true := fun u hu => by
  obtain ⟨p, _, hp⟩ := List.mem_flatMap.1 hu
  simp only [spCells, List.mem_cons, List.not_mem_nil, or_false] at hp
  rcases hp with rfl | rfl <;> rfl

end Go.Proofs.YtihjmeoklbmnmaaDoor

/- bolterref1: one byte of a set. No condition but a byte's bounds. -/
namespace Go.Proofs.YtihjmeoklbmnmaaDoor
open Go Go.RowKit

/-- The bit that is asked for, by division. -/
theorem wd_odd (s : BitVec 256) (i r : Nat) (hr : r < 64) : (wd s i / 2 ^ r % 2 == 1) = s.getLsbD (64 * i + r) := by
  have e1 : wd s i / 2 ^ r = (((s.extractLsb' (64 * i) 64).toNat / 2 ^ r : Nat) : Int) := by unfold wd; simp
  have e4 : s.getLsbD (64 * i + r) = (s.extractLsb' (64 * i) 64).toNat.testBit r := by
    rw [BitVec.testBit_toNat]; simp [hr]
  rw [e1, e4, Nat.testBit_eq_decide_div_mod_eq]
  generalize (s.extractLsb' (64 * i) 64).toNat / 2 ^ r = q
  rw [Bool.eq_iff_iff]; simp; omega
/-- The bit that is added. -/
theorem wd_addBit (s : BitVec 256) (b i r : Nat) (hb : b < 256) (hr : r = b % 64) (hi : i = b / 64) (h : s.getLsbD b = false) : wd s i + 2 ^ r = wd (s ||| bit b) i := by
  have hr' : r < 64 := by omega
  have hbi : 64 * i + r = b := by omega
  have e2 : (bit b).extractLsb' (64 * i) 64 = BitVec.twoPow 64 r := by
    ext k hk
    simp only [BitVec.getElem_extractLsb', getLsbD_bit, BitVec.getElem_twoPow]
    by_cases h : k = r
    · subst h; simp [hbi, hb]
    · have h2 : ¬ 64 * i + k = b := by omega
      simp [h2, h]
  have e3 : (s ||| bit b).extractLsb' (64 * i) 64 = s.extractLsb' (64 * i) 64 + BitVec.twoPow 64 r := by
    rw [BitVec.add_eq_or_of_and_eq_zero]
    · rw [BitVec.extractLsb'_or, e2]
    · ext k hk
      simp only [BitVec.getElem_and, BitVec.getElem_extractLsb', BitVec.getElem_twoPow, BitVec.getElem_zero]
      by_cases hkr : k = r
      · subst hkr; rw [hbi, h]; rfl
      · simp [hkr]
  have h4 : ((s ||| bit b).extractLsb' (64 * i) 64).toNat = (s.extractLsb' (64 * i) 64).toNat + 2 ^ r := by
    have hlt : (s.extractLsb' (64 * i) 64).toNat + 2 ^ r < 2 ^ 64 := by
      have e5 := congrArg BitVec.toNat e3
      have e6 : (s.extractLsb' (64 * i) 64 &&& BitVec.twoPow 64 r) = 0#64 := by
        ext k hk
        simp only [BitVec.getElem_and, BitVec.getElem_extractLsb', BitVec.getElem_twoPow, BitVec.getElem_zero]
        by_cases hkr : k = r
        · subst hkr; rw [hbi, h]; rfl
        · simp [hkr]
      have e7 := BitVec.toNat_add_of_and_eq_zero e6
      have e8 := (s.extractLsb' (64 * i) 64 + BitVec.twoPow 64 r).isLt
      rw [e7, BitVec.toNat_twoPow, Nat.mod_eq_of_lt (Nat.pow_lt_pow_right (by decide) hr')] at e8
      exact e8
    rw [e3, BitVec.toNat_add, BitVec.toNat_twoPow, Nat.mod_eq_of_lt (Nat.pow_lt_pow_right (by decide) hr'), Nat.mod_eq_of_lt hlt]
  unfold wd
  rw [h4]; simp

set_option maxHeartbeats 400000 in
set_option maxRecDepth 100000 in
theorem r1has_0 (s : BitVec 256) (x : Int) (r : Nat) (w : World) (hd : x / 64 = 0) (hm : x % 64 = (r : Int)) (h0 : 0 ≤ x) (h1 : x < 256) (hlo : 0 ≤ wd s 0) (hhi : wd s 0 < 18446744073709551616) (hx : (wd s 0 / 2 ^ r % 2 == 1) = s.getLsbD (64 * 0 + r)) :
    Calls Tryd.prog 39 #[.agg #[.int .u64 (wd s 0), .int .u64 (wd s 1), .int .u64 (wd s 2), .int .u64 (wd s 3)], .int .i64 x] w fun e w' => e = .returned (.bool (s.getLsbD (64 * 0 + r))) ∧ Gr w w' := by
  have HX := Lib.hid hx
  clear hx
  go_enter Tryd.func39, Tryd.ntmps39
  go_wp2
  go_ret
  exact ⟨by rw [← HX.out]; rfl, Gr.alloc _ _⟩
set_option maxHeartbeats 400000 in
set_option maxRecDepth 100000 in
theorem r1has_1 (s : BitVec 256) (x : Int) (r : Nat) (w : World) (hd : x / 64 = 1) (hm : x % 64 = (r : Int)) (h0 : 0 ≤ x) (h1 : x < 256) (hlo : 0 ≤ wd s 1) (hhi : wd s 1 < 18446744073709551616) (hx : (wd s 1 / 2 ^ r % 2 == 1) = s.getLsbD (64 * 1 + r)) :
    Calls Tryd.prog 39 #[.agg #[.int .u64 (wd s 0), .int .u64 (wd s 1), .int .u64 (wd s 2), .int .u64 (wd s 3)], .int .i64 x] w fun e w' => e = .returned (.bool (s.getLsbD (64 * 1 + r))) ∧ Gr w w' := by
  have HX := Lib.hid hx
  clear hx
  go_enter Tryd.func39, Tryd.ntmps39
  go_wp2
  go_ret
  exact ⟨by rw [← HX.out]; rfl, Gr.alloc _ _⟩
set_option maxHeartbeats 400000 in
set_option maxRecDepth 100000 in
theorem r1has_2 (s : BitVec 256) (x : Int) (r : Nat) (w : World) (hd : x / 64 = 2) (hm : x % 64 = (r : Int)) (h0 : 0 ≤ x) (h1 : x < 256) (hlo : 0 ≤ wd s 2) (hhi : wd s 2 < 18446744073709551616) (hx : (wd s 2 / 2 ^ r % 2 == 1) = s.getLsbD (64 * 2 + r)) :
    Calls Tryd.prog 39 #[.agg #[.int .u64 (wd s 0), .int .u64 (wd s 1), .int .u64 (wd s 2), .int .u64 (wd s 3)], .int .i64 x] w fun e w' => e = .returned (.bool (s.getLsbD (64 * 2 + r))) ∧ Gr w w' := by
  have HX := Lib.hid hx
  clear hx
  go_enter Tryd.func39, Tryd.ntmps39
  go_wp2
  go_ret
  exact ⟨by rw [← HX.out]; rfl, Gr.alloc _ _⟩
set_option maxHeartbeats 400000 in
set_option maxRecDepth 100000 in
theorem r1has_3 (s : BitVec 256) (x : Int) (r : Nat) (w : World) (hd : x / 64 = 3) (hm : x % 64 = (r : Int)) (h0 : 0 ≤ x) (h1 : x < 256) (hlo : 0 ≤ wd s 3) (hhi : wd s 3 < 18446744073709551616) (hx : (wd s 3 / 2 ^ r % 2 == 1) = s.getLsbD (64 * 3 + r)) :
    Calls Tryd.prog 39 #[.agg #[.int .u64 (wd s 0), .int .u64 (wd s 1), .int .u64 (wd s 2), .int .u64 (wd s 3)], .int .i64 x] w fun e w' => e = .returned (.bool (s.getLsbD (64 * 3 + r))) ∧ Gr w w' := by
  have HX := Lib.hid hx
  clear hx
  go_enter Tryd.func39, Tryd.ntmps39
  go_wp2
  go_ret
  exact ⟨by rw [← HX.out]; rfl, Gr.alloc _ _⟩

theorem r1has_any (s : BitVec 256) (b : Nat) (w : World) (hb : b < 256) : Calls Tryd.prog 39 #[.agg #[.int .u64 (wd s 0), .int .u64 (wd s 1), .int .u64 (wd s 2), .int .u64 (wd s 3)], .int .i64 b] w fun e w' => e = .returned (.bool (s.getLsbD b)) ∧ Gr w w' := by
  have hlo := wd_lo s
  have hhi := wd_hi s
  have hx := fun i => wd_odd s i (b % 64) (by omega)
  have hm : (b : Int) % 64 = ((b % 64 : Nat) : Int) := by omega
  have hcase : b / 64 = 0 ∨ b / 64 = 1 ∨ b / 64 = 2 ∨ b / 64 = 3 := by omega
  rcases hcase with h | h | h | h
  · have e : 64 * 0 + b % 64 = b := by omega
    have := r1has_0 s b (b % 64) w (by omega) hm (by omega) (by omega) (hlo _) (hhi _) (hx _)
    rw [e] at this; exact this
  · have e : 64 * 1 + b % 64 = b := by omega
    have := r1has_1 s b (b % 64) w (by omega) hm (by omega) (by omega) (hlo _) (hhi _) (hx _)
    rw [e] at this; exact this
  · have e : 64 * 2 + b % 64 = b := by omega
    have := r1has_2 s b (b % 64) w (by omega) hm (by omega) (by omega) (hlo _) (hhi _) (hx _)
    rw [e] at this; exact this
  · have e : 64 * 3 + b % 64 = b := by omega
    have := r1has_3 s b (b % 64) w (by omega) hm (by omega) (by omega) (hlo _) (hhi _) (hx _)
    rw [e] at this; exact this

theorem r1has (s : BitVec 256) (b : Nat) (r : Bool) (w : World) (hb : b < 256) (h : s.getLsbD b = r) : Calls Tryd.prog 39 #[.agg #[.int .u64 (wd s 0), .int .u64 (wd s 1), .int .u64 (wd s 2), .int .u64 (wd s 3)], .int .i64 b] w fun e w' => e = .returned (.bool r) ∧ Gr w w' := by
  subst h; exact r1has_any s b w hb

/-- Cells of two, three, four blocks that are laid one behind the other. -/
theorem boxes2 (w : World) (c0 c1 : List Value) (e0 e1 : TypeId) :
    boxAt ((w.alloc (.cells c0.toArray e0)).alloc (.cells c1.toArray e1)) w.heap.size c0 ∧ boxAt ((w.alloc (.cells c0.toArray e0)).alloc (.cells c1.toArray e1)) (w.heap.size + 1) c1 ∧
    Gr w ((w.alloc (.cells c0.toArray e0)).alloc (.cells c1.toArray e1)) ∧ ((w.alloc (.cells c0.toArray e0)).alloc (.cells c1.toArray e1)).heap.size = w.heap.size + 2 := by
  refine ⟨(boxAt.new _ _ rfl).later (Gr.alloc _ _), ?_, (Gr.alloc _ _).trans (Gr.alloc _ _), by simp⟩
  have := boxAt.new (w := w.alloc (.cells c0.toArray e0)) c1 e1 rfl
  simpa using this
theorem boxes3 (w : World) (c0 c1 c2 : List Value) (e0 e1 e2 : TypeId) :
    boxAt (((w.alloc (.cells c0.toArray e0)).alloc (.cells c1.toArray e1)).alloc (.cells c2.toArray e2)) w.heap.size c0 ∧ boxAt (((w.alloc (.cells c0.toArray e0)).alloc (.cells c1.toArray e1)).alloc (.cells c2.toArray e2)) (w.heap.size + 1) c1 ∧
    boxAt (((w.alloc (.cells c0.toArray e0)).alloc (.cells c1.toArray e1)).alloc (.cells c2.toArray e2)) (w.heap.size + 2) c2 ∧
    Gr w (((w.alloc (.cells c0.toArray e0)).alloc (.cells c1.toArray e1)).alloc (.cells c2.toArray e2)) ∧ (((w.alloc (.cells c0.toArray e0)).alloc (.cells c1.toArray e1)).alloc (.cells c2.toArray e2)).heap.size = w.heap.size + 3 := by
  obtain ⟨h0, h1, h2, h3⟩ := boxes2 w c0 c1 e0 e1
  refine ⟨h0.later (Gr.alloc _ _), h1.later (Gr.alloc _ _), ?_, h2.trans (Gr.alloc _ _), by simp⟩
  have := boxAt.new (w := (w.alloc (.cells c0.toArray e0)).alloc (.cells c1.toArray e1)) c2 e2 rfl
  simpa using this
theorem boxes4 (w : World) (c0 c1 c2 c3 : List Value) (e0 e1 e2 e3 : TypeId) :
    boxAt ((((w.alloc (.cells c0.toArray e0)).alloc (.cells c1.toArray e1)).alloc (.cells c2.toArray e2)).alloc (.cells c3.toArray e3)) w.heap.size c0 ∧ boxAt ((((w.alloc (.cells c0.toArray e0)).alloc (.cells c1.toArray e1)).alloc (.cells c2.toArray e2)).alloc (.cells c3.toArray e3)) (w.heap.size + 1) c1 ∧
    boxAt ((((w.alloc (.cells c0.toArray e0)).alloc (.cells c1.toArray e1)).alloc (.cells c2.toArray e2)).alloc (.cells c3.toArray e3)) (w.heap.size + 2) c2 ∧ boxAt ((((w.alloc (.cells c0.toArray e0)).alloc (.cells c1.toArray e1)).alloc (.cells c2.toArray e2)).alloc (.cells c3.toArray e3)) (w.heap.size + 3) c3 ∧
    Gr w ((((w.alloc (.cells c0.toArray e0)).alloc (.cells c1.toArray e1)).alloc (.cells c2.toArray e2)).alloc (.cells c3.toArray e3)) ∧ ((((w.alloc (.cells c0.toArray e0)).alloc (.cells c1.toArray e1)).alloc (.cells c2.toArray e2)).alloc (.cells c3.toArray e3)).heap.size = w.heap.size + 4 := by
  obtain ⟨h0, h1, h2, h3, h4⟩ := boxes3 w c0 c1 c2 e0 e1 e2
  refine ⟨h0.later (Gr.alloc _ _), h1.later (Gr.alloc _ _), h2.later (Gr.alloc _ _), ?_, h3.trans (Gr.alloc _ _), by simp⟩
  have := boxAt.new (w := ((w.alloc (.cells c0.toArray e0)).alloc (.cells c1.toArray e1)).alloc (.cells c2.toArray e2)) c3 e3 rfl
  simpa using this

end Go.Proofs.YtihjmeoklbmnmaaDoor

/- bolterref1: sets made byte by byte. No condition but bytes' bounds. -/
namespace Go.Proofs.YtihjmeoklbmnmaaDoor
open Go Go.RowKit

/-- Those below k of which p says yes. -/
def upTo (p : Nat → Bool) (k : Nat) : BitVec 256 := ofP (fun j => p j && decide (j < k))
theorem upTo_zero (p : Nat → Bool) : upTo p 0 = emptyS := ofP_empty _ fun j _ => by simp
theorem upTo_yes (p : Nat → Bool) (k : Nat) (h : p k = true) : upTo p (k + 1) = upTo p k ||| bit k :=
  (ofP_bit _ _ _ fun j _ => by
    by_cases hj : j = k
    · subst hj; simp [h]
    · have : decide (j < k + 1) = decide (j < k) := by simp; omega
      simp [hj, this]).symm
theorem upTo_no (p : Nat → Bool) (k : Nat) (h : p k = false) : upTo p (k + 1) = upTo p k :=
  ofP_congr _ _ fun j _ => by
    by_cases hj : j = k
    · subst hj; simp [h]
    · have : decide (j < k + 1) = decide (j < k) := by simp; omega
      simp [this]
theorem upTo_all (p : Nat → Bool) (s : BitVec 256) (h : ∀ j, j < 256 → p j = s.getLsbD j) : upTo p 256 = s :=
  set_ext _ _ fun j hj => by unfold upTo; rw [getLsbD_ofP, h j hj]; simp [hj]
theorem or_upTo_yes (a : BitVec 256) (p : Nat → Bool) (k : Nat) (h : p k = true) : a ||| upTo p (k + 1) = a ||| upTo p k ||| bit k := by rw [upTo_yes p k h, BitVec.or_assoc]
theorem or_upTo_no (a : BitVec 256) (p : Nat → Bool) (k : Nat) (h : p k = false) : a ||| upTo p (k + 1) = a ||| upTo p k := by rw [upTo_no p k h]
theorem or_upTo_zero (a : BitVec 256) (p : Nat → Bool) : a ||| upTo p 0 = a := by rw [upTo_zero, or_emptyS]

theorem range_all' : rangeSet 0 255 = ~~~emptyS := set_ext _ _ fun j hj => by
  rw [getLsbD_rangeSet, BitVec.getLsbD_not, getLsbD_empty]; simp [hj]; omega
end Go.Proofs.YtihjmeoklbmnmaaDoor

/- bolterref1: Complement, Within, Compare, Of, OfSpans. No condition. -/
namespace Go.Proofs.YtihjmeoklbmnmaaDoor
open Go Go.RowKit

theorem minus_none (s t : BitVec 256) : (s &&& ~~~t == emptyS) = (s &&& t == s) := by
  rw [Bool.eq_iff_iff, beq_iff_eq, beq_iff_eq]
  constructor
  · intro h; refine set_ext _ _ fun j hj => ?_
    have := congrArg (fun x => x.getLsbD j) h
    simp only [BitVec.getLsbD_and, BitVec.getLsbD_not, getLsbD_empty, hj] at this ⊢
    revert this; cases s.getLsbD j <;> cases t.getLsbD j <;> simp
  · intro h; refine set_ext _ _ fun j hj => ?_
    have := congrArg (fun x => x.getLsbD j) h
    simp only [BitVec.getLsbD_and, BitVec.getLsbD_not, getLsbD_empty, hj] at this ⊢
    revert this; cases s.getLsbD j <;> cases t.getLsbD j <;> simp
end Go.Proofs.YtihjmeoklbmnmaaDoor

/- Owned rows: over growth, over stores; their blocks, cells, marks. No condition. -/
namespace Go.Proofs.YtihjmeoklbmnmaaDoor
open Go Go.RowKit

theorem owns_later {w w' : World} {B e n k : Nat} {v : Value} {xs : List Value} (h : w.ownsRow B e k v n xs) (hG : Gr w w') : w'.ownsRow B e k v n xs := by
  obtain ⟨h1, h2⟩ := h
  refine ⟨h1, h2.imp id ?_⟩
  rintro ⟨g, cap, cur, hv, hb, hh, r⟩
  refine ⟨g, cap, cur, hv, hb, ?_, r⟩
  have hlt : g < w.heap.size := (Array.getElem?_eq_some_iff.1 hh).1
  rw [Below.block hG g hlt]; exact hh
/-- An owned row, while another block is written. -/
theorem owns_heap {w w' : World} {B e n k : Nat} {v : Value} {xs : List Value} (h : w.ownsRow B e k v n xs) (hb : ∀ g, v.ownBlock = some g → w'.heap[g]? = w.heap[g]?) : w'.ownsRow B e k v n xs := by
  obtain ⟨h1, h2⟩ := h
  refine ⟨h1, h2.imp id ?_⟩
  rintro ⟨g, cap, cur, hv, hb', hh, r⟩
  exact ⟨g, cap, cur, hv, hb', by rw [hb g (by rw [hv]; rfl)]; exact hh, r⟩

theorem new2_cells (w : World) (a b : Value) (e : TypeId) : ∀ (j : Nat) (u : Value), [a, b][j]? = some u → (w.alloc (.cells #[a, b] e)).cell? ((⟨w.heap.size, 0, none⟩ : Addr).add j) = some u := fun j u hj => by
  have := (boxAt.new (w := w) [a, b] e rfl).cell j u hj
  rw [show (⟨w.heap.size, 0, none⟩ : Addr).add j = ⟨w.heap.size, j, none⟩ by
    unfold Addr.add
    by_cases h : j = 0
    · subst h; rfl
    · rw [if_neg h]; simp]
  exact this
theorem new_cells (w : World) (vs : List Value) (e : TypeId) : ∀ (j : Nat) (u : Value), vs[j]? = some u → (w.alloc (.cells vs.toArray e)).cell? ((⟨w.heap.size, 0, none⟩ : Addr).add j) = some u := fun j u hj => by
  have := (boxAt.new (w := w) vs e rfl).cell j u hj
  rw [show (⟨w.heap.size, 0, none⟩ : Addr).add j = ⟨w.heap.size, j, none⟩ by
    unfold Addr.add
    by_cases h : j = 0
    · subst h; rfl
    · rw [if_neg h]; simp]
  exact this
theorem four_one (x y z t : Int) : ∀ u ∈ [Value.int .u8 x, .int .u8 y, .int .u8 z, .int .u8 t], u.oneCell' = true := fun u hu => by
  simp at hu; rcases hu with rfl | rfl | rfl | rfl <;> rfl
theorem two_one (x y : Int) : ∀ u ∈ [Value.int .u8 x, .int .u8 y], u.oneCell' = true := fun u hu => by
  simp at hu; rcases hu with rfl | rfl <;> rfl

theorem owns_block {w : World} {B e size n : Nat} {v : Value} {xs : List Value} (h : w.ownsRow B e size v n xs) (hn : 0 < n) : ∃ g cap, v = .slice (some ⟨g, 0, none⟩) n cap ∧ B ≤ g ∧ g < w.heap.size ∧ n ≤ maxLen := by
  obtain ⟨_, h2⟩ := h
  rcases h2 with ⟨_, h0⟩ | ⟨g, cap, cur, hv, hb, hh, h3, h4, _⟩
  · omega
  · exact ⟨g, cap, hv, hb, (Array.getElem?_eq_some_iff.1 hh).1, by omega⟩
theorem owns_set {w : World} {B e size n g cap : Nat} {xs : List Value} (h : w.ownsRow B e size (.slice (some ⟨g, 0, none⟩) n cap) n xs) (j : Nat) (hj : j < xs.length) (u : Value) :
    (w.setCell ⟨g, j, none⟩ u).ownsRow B e size (.slice (some ⟨g, 0, none⟩) n cap) n (xs.set j u) := by
  obtain ⟨h1, h2⟩ := h
  refine ⟨by rw [List.length_set]; exact h1, .inr ?_⟩
  rcases h2 with ⟨h2, _⟩ | ⟨g', cap', cur, hv, hb, hh, h3, h4, h5, h6⟩
  · cases h2
  · simp only [Value.slice.injEq, Option.some.injEq, Addr.mk.injEq, and_true, true_and] at hv
    obtain ⟨rfl, rfl⟩ := hv
    refine ⟨g, cap, cur.setIfInBounds j u, rfl, hb, ?_, h3, h4, by simpa using h5, ?_⟩
    · simp [World.setCell, Array.getElem?_modify, hh]
    · rw [Array.toList_setIfInBounds, ← h6, List.take_set]
theorem owns_cell {w : World} {B e size n g cap : Nat} {xs : List Value} (h : w.ownsRow B e size (.slice (some ⟨g, 0, none⟩) n cap) n xs) (j : Nat) (u : Value) (hj : xs[j]? = some u) : w.cell? ⟨g, j, none⟩ = some u := by
  have := World.ownsRow.cells h (g := g) rfl j u hj
  rw [show (⟨g, 0, none⟩ : Addr).add j = ⟨g, j, none⟩ by
    unfold Addr.add
    by_cases h0 : j = 0
    · subst h0; rfl
    · rw [if_neg h0]; simp] at this
  exact this
theorem owns_mark {w : World} {B e size n g cap : Nat} {xs : List Value} (h : w.ownsRow B e size (.slice (some ⟨g, 0, none⟩) n cap) n xs) (j : Nat) : w.frozen? ⟨g, j, none⟩ = false := by
  obtain ⟨_, h2⟩ := h
  rcases h2 with ⟨h2, _⟩ | ⟨g', cap', cur, hv, hb, hh, _⟩
  · cases h2
  · simp only [Value.slice.injEq, Option.some.injEq, Addr.mk.injEq, and_true, true_and] at hv
    obtain ⟨rfl, _⟩ := hv
    simp [World.frozen?, hh]

theorem owns_capN {w : World} {B e g cap n k : Nat} {xs : List Value} (h : w.ownsRow B e k (.slice (some ⟨g, 0, none⟩) n cap) n xs) : n ≤ cap ∧ cap ≤ maxLen := by
  obtain ⟨_, ⟨h2, _⟩ | ⟨g', cap', cur, hv, hb, hh, h3, h4, _⟩⟩ := h
  · cases h2
  · simp only [Value.slice.injEq, Option.some.injEq, Addr.mk.injEq, and_true, true_and] at hv
    obtain ⟨rfl, rfl⟩ := hv
    exact ⟨h3, h4⟩

end Go.Proofs.YtihjmeoklbmnmaaDoor

/- A store into an owned row of spans. No condition. -/
namespace Go.Proofs.YtihjmeoklbmnmaaDoor
open Go Go.RowKit

theorem spsCells_snoc (q : List Sp) (p : Sp) : spsCells (q ++ [p]) = spsCells q ++ [vB p.1, vB p.2] := by
  simp [spsCells, spCells]
theorem spsCells_length (q : List Sp) : (spsCells q).length = q.length * 2 := flatMap_len spCells 2 spCells_len q
theorem spsCells_hi (q : List Sp) (p : Sp) : (spsCells (q ++ [p]))[q.length * 2 + 1]? = some (vB p.2) := by
  rw [spsCells_snoc, List.getElem?_append_right (by rw [spsCells_length]; omega), spsCells_length, show q.length * 2 + 1 - q.length * 2 = 1 by omega]; rfl
theorem spsCells_setHi (q : List Sp) (p : Sp) (b : UInt8) : (spsCells (q ++ [p])).set (q.length * 2 + 1) (vB b) = spsCells (q ++ [(p.1, b)]) := by
  rw [spsCells_snoc, spsCells_snoc, List.set_append_right _ _ (by rw [spsCells_length]; omega), spsCells_length, show q.length * 2 + 1 - q.length * 2 = 1 by omega]; rfl

end Go.Proofs.YtihjmeoklbmnmaaDoor

/- The type of a span. No condition. -/
namespace Go.Proofs.YtihjmeoklbmnmaaDoor
open Go Go.RowKit

theorem info_span : (Tryd.prog.info? 53).map (fun i => (i.zero, i.size, i.bytes)) = some (some (.agg #[.int .u8 0, .int .u8 0]), 2, 2) := by kernel_rfl

end Go.Proofs.YtihjmeoklbmnmaaDoor

/- Spans of byteset: the longest rows of neighbours. No condition. -/
namespace Go.Proofs.YtihjmeoklbmnmaaDoor
open Go Go.RowKit

/-- The call hands back a new slice of these spans. -/
def SomeSpans (l : List UInt8) (w : World) (e : Ending) (w' : World) : Prop := ∃ v r, e = .returned v ∧ Runs r l ∧ w'.ownsRow w.heap.size 53 2 v r.length (spsCells r) ∧ Gr w w' ∧ (r = [] → v = .slice none 0 0)

theorem take_lt (L : List UInt8) (h : L.Pairwise (fun a b => a.toNat < b.toNat)) (k : Nat) (b : UInt8) (hb : L[k]? = some b) (a : UInt8) (ha : a ∈ L.take k) : a.toNat < b.toNat := by
  obtain ⟨i, hi⟩ := List.mem_iff_getElem?.1 ha
  rw [List.getElem?_take] at hi
  split at hi
  · obtain ⟨g1, rfl⟩ := List.getElem?_eq_some_iff.1 hi
    obtain ⟨g2, rfl⟩ := List.getElem?_eq_some_iff.1 hb
    exact List.pairwise_iff_getElem.1 h i k g1 g2 (by omega)
  · cases hi

set_option maxRecDepth 100000 in
set_option maxHeartbeats 4000000 in
theorem spans_any (s : BitVec 256) (w : World) : Calls Tryd.prog 21 #[.agg #[.int .u64 (wd s 0), .int .u64 (wd s 1), .int .u64 (wd s 2), .int .u64 (wd s 3)]] w (SomeSpans (bytesOf s) w) := by
  obtain ⟨i0, hi, hz0, hz1, hz2⟩ := info_parts info_span
  obtain ⟨L, hL⟩ : ∃ L, bytesOf s = L := ⟨_, rfl⟩
  have hlen : L.length ≤ 256 := by rw [← hL]; exact bytesTo_len s 256
  have hlenI : (L.length : Int) ≤ 256 := by omega
  have hRise := Lib.hid (bytesOf_rising s)
  rw [hL] at hRise
  go_enter Tryd.func21, Tryd.ntmps21
  go_wp2_with fail
  go_at_call 37
  refine (list_any s _).mono ?_
  rintro e w1 ⟨v, rfl, hownL, hb1⟩
  rw [hL] at hownL
  have HL := Lib.hid hL
  clear hL
  have hgw : Gr w w1 := (Gr.alloc _ _).trans hb1
  clear hb1
  have hsl := Sl.of_owns hownL
  clear hownL
  obtain ⟨_, _, ⟨⟨p0, c0, rfl⟩, h0⟩ | ⟨b, off, cap, rfl, hb, hc⟩⟩ := hsl
  · have hLn : L = [] := List.eq_nil_of_length_eq_zero h0
    subst hLn
    go_wp2_with fail
    refine wp_loop_rounds 1 ?_
    rw [rounds_succ]
    go_wp2
    go_ret
    exact ⟨_, [], rfl, by rw [HL.out]; exact .nil, World.ownsRow_nil _ _ _ _, hgw, fun _ => rfl⟩
  · have HC := Lib.hid hc
    clear hc
    go_wp2_with fail
    go_loopw [3, 10] (fun v i wr => ∃ (k : Nat) (r : List Sp), k ≤ L.length ∧ i = .int .i64 k ∧ Runs r (L.take k) ∧ wr.ownsRow w1.heap.size 53 2 v r.length (spsCells r) ∧ Gr w1 wr ∧ (r = [] → v = .slice none 0 0)) (fun _ i _ => L.length - (intOf i).toNat)
    case atStart => exact ⟨0, [], by omega, rfl, by rw [List.take_zero]; exact .nil, World.ownsRow_nil _ _ _ _, Gr.refl _, fun _ => rfl⟩
    case round =>
      obtain ⟨k, r, hk, rfl, hr, hown, hg, hnil⟩ := hrel
      by_cases hlt : k < L.length
      · obtain ⟨bb, hbb⟩ : ∃ x, L[k] = x := ⟨_, rfl⟩
        have hcell : w1.cell? ⟨b, off + k, none⟩ = some (vB bb) := HC.out k _ (by simp [hlt, hbb])
        have c1 := hg.cell hcell
        have htake : L.take (k + 1) = L.take k ++ [bb] := by rw [List.take_succ_eq_append_getElem hlt, hbb]
        unfold vB at c1
        obtain ⟨y, hy⟩ : ∃ y : Nat, bb.toNat = y := ⟨_, rfl⟩
        have hy256 := bb.toNat_lt
        rw [hy] at c1 hy256
        have hyI : (y : Int) < 256 := by omega
        have hkI : (k : Int) < (L.length : Int) := by omega
        have ey : IntKind.i64.wrap (y : Int) = (y : Int) := IntWalk.i64_in _ (by omega)
        have HY := Lib.hid hy
        have HT := Lib.hid htake
        have HLT := Lib.hid hlt
        have HR := Lib.hid hr
        have HBB := Lib.hid (show L[k]? = some bb by rw [List.getElem?_eq_getElem hlt, hbb])
        have hrl : r.length ≤ k := Nat.le_trans hr.len (by rw [List.length_take]; omega)
        clear hcell hy hy256 htake hlt hr hk hbb hb
        rcases List.eq_nil_or_concat r with rfl | ⟨q, p, rfl⟩
        · obtain rfl := hnil rfl
          clear hnil
          have HO := Lib.hid hown
          clear hown
          go_wp2_with (at_builtin; refine wpList_append_own _ rfl (.tmp 37) (.tmp 41) 50 rfl w1.heap.size 53 i0 (.agg #[.int .u8 0, .int .u8 0]) 2 2 Tryd.underlying50 hi hz0 hz1 hz2 rfl (by decide) _ _ _ rfl (HO.out.alloc _) ⟨wr.heap.size, 0, none⟩ 1 1 [.int .u8 (y : Int), .int .u8 (y : Int)] rfl rfl ?c1 ?c2 ?c3 ?c4 ?c5 ?_)
          case c1 => exact new2_cells _ _ _ _
          case c2 => exact two_one _ _
          case c3 => unfold maxLen; simp
          case c4 => omega
          case c5 => have := hg.size; simp; omega
          intro v3 W3 hown3 hgrow _
          have hg3 : Gr w1 W3 := Gr.grown (hg.trans (Gr.alloc _ _)) hgrow (fun g hgb => (World.ownsRow.lt HO.out g hgb).1)
          have hown3' : W3.ownsRow w1.heap.size 53 2 v3 (([] : List Sp) ++ [(bb, bb)]).length (spsCells (([] : List Sp) ++ [(bb, bb)])) := by
            rw [spsCells_snoc, List.length_append]
            unfold vB; rw [HY.out]; exact hown3
          clear hown3 hgrow
          go_wp2_with fail
          go_roundw
          case rel =>
            refine ⟨k + 1, ([] : List Sp) ++ [(bb, bb)], by have := HLT.out; omega, by go_num, ?_, hown3', hg3, fun h => by simp at h⟩
            rw [HT.out]; refine .new _ _ _ HR.out ?_
            intro p hp; simp at hp
          case measure => have := HLT.out; simp [intOf]; omega

        · rw [List.concat_eq_append] at *
          clear hnil
          obtain ⟨g, cap2, rfl, hBg, hgl, _⟩ := owns_block hown (by simp)
          obtain ⟨x, hx⟩ : ∃ x : Nat, p.2.toNat = x := ⟨_, rfl⟩
          have hx256 := p.2.toNat_lt
          rw [hx] at hx256
          have hxI : (x : Int) < 256 := by omega
          have hl1 : (q ++ [p]).length = q.length + 1 := by simp
          rw [hl1] at hown hrl
          have c2 := owns_cell hown _ _ (spsCells_hi q p)
          have m2 := owns_mark hown (q.length * 2 + 1)
          unfold vB at c2
          rw [hx] at c2
          rw [hl1]
          have HX := Lib.hid hx
          have HGB := Lib.hid hBg
          obtain ⟨m, hm⟩ : ∃ m, q.length = m := ⟨_, rfl⟩
          rw [hm] at c2 m2 hrl hown ⊢
          have HM := Lib.hid hm
          have HO := Lib.hid hown
          have hmI : (m : Int) + 1 ≤ 256 := by have := HLT.out; omega
          have ex : IntKind.i64.wrap (x : Int) = (x : Int) := IntWalk.i64_in _ (by omega)
          have ex1 : IntKind.i64.wrap ((x : Int) + 1) = (x : Int) + 1 := IntWalk.i64_in _ (by omega)
          have em : IntKind.i64.wrap ((m : Int) + 1 - 1) = (m : Int) := by rw [IntWalk.i64_in _ (by omega)]; omega
          clear hx hx256 hown hl1 hm hBg
          by_cases hxy : (x : Int) + 1 = (y : Int)
          · have HXY := Lib.hid hxy
            go_wp2_with fail
            go_roundw
            case rel =>
              refine ⟨k + 1, q ++ [(p.1, bb)], by have := HLT.out; omega, by go_num, ?_, ?_, Below.setCell hg HGB.out _, fun h => by simp at h⟩
              · rw [HT.out]; exact .ext _ _ _ _ HR.out (by have := HXY.out; rw [HX.out, HY.out]; omega)
              · have := owns_set HO.out (q.length * 2 + 1) (by rw [spsCells_length, List.length_append, List.length_singleton]; omega) (vB bb)
                rw [spsCells_setHi] at this
                rw [List.length_append, HM.out]
                unfold vB at this
                rw [HY.out, HM.out] at this
                exact this
            case measure => have := HLT.out; simp [intOf]; omega
          · have HXY := Lib.hid hxy
            go_wp2_with (at_builtin; refine wpList_append_own _ rfl (.tmp 37) (.tmp 41) 50 rfl w1.heap.size 53 i0 (.agg #[.int .u8 0, .int .u8 0]) 2 2 Tryd.underlying50 hi hz0 hz1 hz2 rfl (by decide) _ _ _ rfl (HO.out.alloc _) ⟨wr.heap.size, 0, none⟩ 1 1 [.int .u8 (y : Int), .int .u8 (y : Int)] rfl rfl ?c1 ?c2 ?c3 ?c4 ?c5 ?_)
            case c1 => exact new2_cells _ _ _ _
            case c2 => exact two_one _ _
            case c3 => unfold maxLen; omega
            case c4 => omega
            case c5 => have := hg.size; simp; omega
            intro v3 W3 hown3 hgrow _
            have hg3 : Gr w1 W3 := Gr.grown (hg.trans (Gr.alloc _ _)) hgrow (fun g hgb => (World.ownsRow.lt HO.out g hgb).1)
            have hown3' : W3.ownsRow w1.heap.size 53 2 v3 ((q ++ [p]) ++ [(bb, bb)]).length (spsCells ((q ++ [p]) ++ [(bb, bb)])) := by
              rw [spsCells_snoc, List.length_append, List.length_append, HM.out]
              unfold vB; rw [HY.out]; exact hown3
            clear hown3 hgrow
            go_wp2_with fail
            go_roundw
            case rel =>
              refine ⟨k + 1, (q ++ [p]) ++ [(bb, bb)], by have := HLT.out; omega, by go_num, ?_, hown3', hg3, fun h => by simp at h⟩
              rw [HT.out]; refine .new _ _ _ HR.out ?_
              intro p0 hp
              simp at hp; subst hp
              have h1 := take_lt L hRise.out k bb HBB.out p.2 (HR.out.mem p (by simp)).2
              have h2 := HXY.out
              rw [HX.out, HY.out] at h1
              rw [HX.out, HY.out]; omega
            case measure => have := HLT.out; simp [intOf]; omega
      · have hkL : k = L.length := by omega
        have R : wr.ownsRow w.heap.size 53 2 u3 r.length (spsCells r) := by
          obtain ⟨h1, h2⟩ := hown
          refine ⟨h1, h2.imp id ?_⟩
          rintro ⟨g, cap, cur, hv, hb, r⟩
          exact ⟨g, cap, cur, hv, by have := hgw.size; omega, r⟩
        have hr' : Runs r L := by rw [hkL, List.take_length] at hr; exact hr
        subst hkL
        have HN := Lib.hid hnil
        clear hlt hown hr hnil hk
        go_wp2_with fail
        go_ret
        exact ⟨_, r, rfl, by rw [HL.out]; exact hr', R, hgw.trans hg, HN.out⟩

end Go.Proofs.YtihjmeoklbmnmaaDoor

/- bolterref0.Eq. No condition. -/
namespace Go.Proofs.YtihjmeoklbmnmaaDoor
open Go Go.RowKit

theorem eqTake_step (l m : List UInt8) (k : Nat) (h1 : k < l.length) (h2 : k < m.length) (h : l.take k = m.take k) (e : l[k] = m[k]) : l.take (k + 1) = m.take (k + 1) := by
  rw [List.take_succ_eq_append_getElem h1, List.take_succ_eq_append_getElem h2, h, e]

end Go.Proofs.YtihjmeoklbmnmaaDoor

/- bolterref1: List, Spans, Least. No condition. -/
namespace Go.Proofs.YtihjmeoklbmnmaaDoor
open Go Go.RowKit

theorem owns_base {w : World} {B B' e k n : Nat} {v : Value} {xs : List Value} (h : w.ownsRow B e k v n xs) (hB : B' ≤ B) : w.ownsRow B' e k v n xs := by
  obtain ⟨h1, h2⟩ := h
  refine ⟨h1, h2.imp id ?_⟩
  rintro ⟨g, cap, cur, hv, hb, r⟩
  exact ⟨g, cap, cur, hv, by omega, r⟩
theorem new1_cell (w : World) (a : Value) (e : TypeId) : ∀ (j : Nat) (u : Value), [a][j]? = some u → (w.alloc (.cells #[a] e)).cell? ((⟨w.heap.size, 0, none⟩ : Addr).add j) = some u := fun j u hj => by
  match j, hj with
  | 0, hj => simp at hj; subst hj; simp [Addr.add]
theorem one_one (x : Int) : ∀ u ∈ [Value.int .u8 x], u.oneCell' = true := fun u hu => by simp at hu; subst hu; rfl

end Go.Proofs.YtihjmeoklbmnmaaDoor

/- strings.Builder: WriteByte, WriteString, String. No condition but the length's bound. -/
namespace Go.Proofs.YtihjmeoklbmnmaaDoor
open Go Go.RowKit

theorem size_builder : (Tryd.prog.info? 58).map (·.size) = some 2 := by kernel_rfl
theorem lies_builder : liesAt Tryd.prog Tryd.prog.depth 58 (2 / Tryd.prog.cellsOf 58) 0 58 1 = true := by kernel_rfl
def BuilderIs (B b : Nat) (l : List UInt8) (w : World) : Prop := Lib.IsBuilder 58 5 B b (Lib.byteCells l) w

set_option maxHeartbeats 1000000 in
set_option maxRecDepth 100000 in
theorem copyCheck_used (b : Nat) (w : World) (h0 : w.cell? ⟨b, 0, none⟩ = some (.pointer (some ⟨b, 0, none⟩))) :
    Calls Tryd.prog 40 #[.pointer (some ⟨b, 0, none⟩)] w fun e w' => e = .returned (.tuple #[]) ∧ w' = w := by
  obtain ⟨j, hj, _⟩ := Option.map_eq_some_iff.1 size_builder
  go_enter Tryd.func40, Tryd.ntmps40
  go_wp2
  rw [Lib.run_neq_ptr_same w _ Tryd.underlying56 hj]
  go_wp2
  go_end0
  exact ⟨rfl, rfl⟩
set_option maxHeartbeats 1000000 in
set_option maxRecDepth 100000 in
theorem copyCheck_fresh (b : Nat) (w : World) (h0 : w.cell? ⟨b, 0, none⟩ = some (.pointer none)) (hsh : w.shape? b = some (58, 2)) (hfz : w.frozen? ⟨b, 0, none⟩ = false) :
    Calls Tryd.prog 40 #[.pointer (some ⟨b, 0, none⟩)] w fun e w' => e = .returned (.tuple #[]) ∧ w' = w.setCell ⟨b, 0, none⟩ (.pointer (some ⟨b, 0, none⟩)) := by
  obtain ⟨j, hj, hjs⟩ := Option.map_eq_some_iff.1 size_builder
  go_enter Tryd.func40, Tryd.ntmps40
  go_wp2
  rw [Lib.run_to_unsafe w ⟨b, 0, none⟩ Tryd.underlying56 Tryd.underlying110 hj (by rw [hjs]; decide) hsh (Nat.zero_lt_succ 1)]
  simp only [Result.andThen]
  rw [Oper.upon_value]
  go_wp2
  rw [run_callFunc_extern Tryd.func52 (by kernel_rfl) (by kernel_rfl) (by kernel_rfl) (e := Extern.AbiNoEscape.same) (by kernel_rfl)]
  rw [Lib.run_noEscape]
  simp only [Result.andThen]
  rw [Oper.upon_value]
  go_wp2
  rw [Lib.run_from_unsafe w ⟨b, 0, none⟩ Tryd.underlying110 Tryd.underlying56 hj hsh lies_builder]
  simp only [Result.andThen]
  rw [Oper.upon_value]
  go_wp2
  go_end0
  exact ⟨rfl, rfl⟩
theorem copyCheck_any (B b : Nat) (bs : List Value) (w : World) (h : Lib.IsBuilder 58 5 B b bs w) :
    Calls Tryd.prog 40 #[.pointer (some ⟨b, 0, none⟩)] w fun e w' => e = .returned (.tuple #[]) ∧ (Lib.BuilderAt 58 5 B b (.pointer (some ⟨b, 0, none⟩)) bs w' ∧ Below B w w') := by
  rcases h with h | h
  · refine (copyCheck_fresh b w h.cell0 h.shape h.frozen0).mono ?_
    rintro e w' ⟨rfl, rfl⟩
    exact ⟨rfl, h.used _, (Below.refl B w).setCell (p := ⟨b, 0, none⟩) h.1 _⟩
  · refine (copyCheck_used b w h.cell0).mono ?_
    rintro e w' ⟨rfl, rfl⟩
    exact ⟨rfl, h, Below.refl B _⟩

theorem byteCells_snoc (l : List UInt8) (c : UInt8) : Lib.byteCells (l ++ [c]) = Lib.byteCells l ++ [.int .u8 (c.toNat : Int)] := by
  simp [Lib.byteCells]
set_option maxHeartbeats 2000000 in
set_option maxRecDepth 100000 in
theorem writeByte_any (B b : Nat) (l : List UInt8) (c : UInt8) (w : World) (h : BuilderIs B b l w) (hlen : l.length + 1 ≤ 140737488355328) (hBw : B ≤ w.heap.size) :
    Calls Tryd.prog 25 #[.pointer (some ⟨b, 0, none⟩), .int .u8 (c.toNat : Int)] w fun e w' => e = .returned .nilIface ∧ BuilderIs B b (l ++ [c]) w' ∧ Below B w w' := by
  obtain ⟨i0, hi, hz0, hz1, hz2⟩ := info_parts info_u8
  have hll : (Lib.byteCells l).length = l.length := Lib.byteCells_length l
  go_enter Tryd.func25, Tryd.ntmps25
  go_wp2_with (go_at_call 40; refine (copyCheck_any B b _ _ h).mono ?_)
  rintro e w1 ⟨rfl, h1, hb1⟩
  obtain ⟨hB, v, hbk, hown, hne⟩ := h1
  have c0 : w1.cell? ⟨b, 0, none⟩ = some (.pointer (some ⟨b, 0, none⟩)) := by rw [Lib.cell_of_heap hbk]; rfl
  have c1 : w1.cell? ⟨b, 1, none⟩ = some v := by rw [Lib.cell_of_heap hbk]; rfl
  rw [hll] at hown
  go_wp2_with (at_builtin; refine wpList_append_own _ rfl (.tmp 11) (.tmp 13) 46 rfl B 5 i0 (.int .u8 0) 1 1 Tryd.underlying46 hi hz0 hz1 hz2 rfl (by decide) _ _ _ rfl (hown.alloc _) ⟨w1.heap.size, 0, none⟩ 1 1 [.int .u8 (c.toNat : Int)] rfl rfl ?c1 ?c2 ?c3 ?c4 ?c5 ?_)
  case c1 => exact new1_cell _ _ _
  case c2 => exact one_one _
  case c3 => unfold maxLen; omega
  case c4 => omega
  case c5 => have := hb1.size; simp; omega
  intro v' w2 hown' hgrow _
  have hlt : b < w1.heap.size := by
    rcases Nat.lt_or_ge b w1.heap.size with h' | h'
    · exact h'
    · simp [Array.getElem?_eq_none h'] at hbk
  have hb2 : w2.heap[b]? = some (.cells #[.pointer (some ⟨b, 0, none⟩), v] 58 (0, 0)) := by
    rw [hgrow.block b (by simp; omega) (fun e => hne e.symm), Lib.alloc_old w1 _ b hlt]
    exact hbk
  have d0 : w2.cell? ⟨b, 0, none⟩ = some (.pointer (some ⟨b, 0, none⟩)) := by rw [Lib.cell_of_heap hb2]; rfl
  have d1 : w2.cell? ⟨b, 1, none⟩ = some v := by rw [Lib.cell_of_heap hb2]; rfl
  have f1 : w2.frozen? ⟨b, 1, none⟩ = false := Lib.frozen_of_heap hb2 1
  obtain ⟨g, cap, rfl⟩ : ∃ g cap, v' = .slice (some ⟨g, 0, none⟩) (l.length + 1) cap := by
    rcases hown'.2 with ⟨_, h0⟩ | ⟨g, cap, cur, hv, _⟩
    · omega
    · exact ⟨g, cap, hv⟩
  go_wp2
  go_ret
  refine ⟨rfl, .inr ?_, ?_⟩
  · rw [byteCells_snoc]
    exact Lib.BuilderAt.put (T := 58) (e := 5) hB hb2 (bs' := Lib.byteCells l ++ [.int .u8 (c.toNat : Int)]) (by simpa [hll] using hown') (by decide)
  · exact ((hb1.alloc (by have := hb1.size; omega) _).grown hgrow (by have := hb1.size; simp; omega) (fun k hk => (hown.lt k hk).1)).setCell (p := ⟨b, 1, none⟩) hB _

theorem strCells_st (l : List UInt8) : Lib.strCells (st l) = Lib.byteCells l := by
  simp [Lib.strCells, Lib.byteCells, st]
theorem byteCells_append (a b : List UInt8) : Lib.byteCells (a ++ b) = Lib.byteCells a ++ Lib.byteCells b := by
  simp [Lib.byteCells]
set_option maxHeartbeats 2000000 in
set_option maxRecDepth 100000 in
theorem writeString_any (B b : Nat) (l s : List UInt8) (w : World) (h : BuilderIs B b l w) (hlen : l.length + s.length ≤ 140737488355328) (hBw : B ≤ w.heap.size) :
    Calls Tryd.prog 26 #[.pointer (some ⟨b, 0, none⟩), .string (st s)] w fun e w' => e = .returned (.tuple #[.int .i64 s.length, .nilIface]) ∧ BuilderIs B b (l ++ s) w' ∧ Below B w w' := by
  obtain ⟨i0, hi, hz0, hz1, hz2⟩ := info_parts info_u8
  have hll : (Lib.byteCells l).length = l.length := Lib.byteCells_length l
  have hss := st_size s
  go_enter Tryd.func26, Tryd.ntmps26
  go_wp2_with (go_at_call 40; refine (copyCheck_any B b _ _ h).mono ?_)
  rintro e w1 ⟨rfl, h1, hb1⟩
  obtain ⟨hB, v, hbk, hown, hne⟩ := h1
  have c0 : w1.cell? ⟨b, 0, none⟩ = some (.pointer (some ⟨b, 0, none⟩)) := by rw [Lib.cell_of_heap hbk]; rfl
  have c1 : w1.cell? ⟨b, 1, none⟩ = some v := by rw [Lib.cell_of_heap hbk]; rfl
  rw [hll] at hown
  go_wp2_with (at_builtin; refine Lib.wpList_append_own_string _ rfl _ _ 46 9 rfl B 5 i0 Tryd.underlying46 Tryd.underlying9 hi hz0 hz1 hz2 _ _ _ rfl hown (st s) rfl ?c3 ?c4 ?c5 ?_)
  case c3 => unfold maxLen; omega
  case c4 => omega
  case c5 => have := hb1.size; omega
  intro v' w2 hown' hgrow _
  rw [strCells_st] at hown'
  have hlt : b < w1.heap.size := by
    rcases Nat.lt_or_ge b w1.heap.size with h' | h'
    · exact h'
    · simp [Array.getElem?_eq_none h'] at hbk
  have hb2 : w2.heap[b]? = some (.cells #[.pointer (some ⟨b, 0, none⟩), v] 58 (0, 0)) := by
    rw [hgrow.block b hlt (fun e => hne e.symm)]
    exact hbk
  have d0 : w2.cell? ⟨b, 0, none⟩ = some (.pointer (some ⟨b, 0, none⟩)) := by rw [Lib.cell_of_heap hb2]; rfl
  have d1 : w2.cell? ⟨b, 1, none⟩ = some v := by rw [Lib.cell_of_heap hb2]; rfl
  have f1 : w2.frozen? ⟨b, 1, none⟩ = false := Lib.frozen_of_heap hb2 1
  obtain ⟨ao, n', cap, rfl⟩ : ∃ ao n' cap, v' = .slice ao n' cap := by
    rcases hown'.2 with ⟨hv, _⟩ | ⟨g, cap, cur, hv, _⟩
    · exact ⟨_, _, _, hv⟩
    · exact ⟨_, _, _, hv⟩
  go_wp2
  refine bodyPost_ret (v := .tuple #[.int .i64 (s.length : Int), .nilIface]) (by simp [results, Tryd.results26, go_sem]) rfl ⟨rfl, .inr ?_, ?_⟩
  · rw [byteCells_append]
    exact Lib.BuilderAt.put (T := 58) (e := 5) hB hb2 (bs' := Lib.byteCells l ++ Lib.byteCells s) (by simpa [Lib.byteCells_length] using hown') (by decide)
  · exact (hb1.grown hgrow (by have := hb1.size; omega) (fun k hk => (hown.lt k hk).1)).setCell (p := ⟨b, 1, none⟩) hB _
theorem builderString_any (B b : Nat) (l : List UInt8) (w : World) (h : BuilderIs B b l w) (h0 : l ≠ []) :
    Calls Tryd.prog 27 #[.pointer (some ⟨b, 0, none⟩)] w fun e w' => e = .returned (.string (st l)) ∧ Below B w w' := Tryd.Builder_String B b l w h h0

end Go.Proofs.YtihjmeoklbmnmaaDoor

/- class.Text: a set's text. No condition. -/
namespace Go.Proofs.YtihjmeoklbmnmaaDoor
open Go Go.RowKit

theorem u8_eq (c : UInt8) (k : Nat) (hk : k < 256) : c = UInt8.ofNat k ↔ c.toNat = k := by
  constructor
  · rintro rfl; exact UInt8.toNat_ofNat_of_lt' hk
  · intro h; apply UInt8.toNat_inj.1; rw [h]; exact (UInt8.toNat_ofNat_of_lt' hk).symm
def digitsL : ByteArray := { data := #[48, 49, 50, 51, 52, 53, 54, 55, 56, 57, 97, 98, 99, 100, 101, 102] }
theorem digits_at : ∀ q, q < 16 → digitsL.extract q (q + 1) = st [hexD q] := by
  intro q hq
  have : ∀ q : Fin 16, digitsL.extract q.1 (q.1 + 1) = st [hexD q.1] := by decide
  exact this ⟨q, hq⟩
theorem index_mem (l : List UInt8) (c : UInt8) : 0 ≤ Lib.indexByte l c ↔ c ∈ l := by
  induction l with
  | nil => simp [Lib.indexByte]
  | cons b l ih =>
    have hge := Lib.indexByte_ge l c
    unfold Lib.indexByte
    by_cases h : b = c
    · subst h; simp
    · have hb : (b == c) = false := by simp [h]
      rw [hb]
      simp only [Bool.false_eq_true, if_false, List.mem_cons]
      have h' : ¬ c = b := fun e => h e.symm
      simp only [h', false_or, ← ih]
      by_cases h2 : Lib.indexByte l c = -1
      · simp [h2]
      · have : (Lib.indexByte l c == -1) = false := by simp [h2]
        rw [this]; simp only [Bool.false_eq_true, if_false]; omega

/-- Strings of known bytes, one behind the other. -/
theorem cat_is {P : Program} (x y z : ByteArray) (a b : List UInt8) (hx : x = st a) (hy : y = st b) (hz : z = st (a ++ b)) (h : a.length + b.length ≤ 9223372036854775807) :
    ∀ w : World, (Op.stringOp .add x y).run P w = .ok (.string z) w := fun w => by subst hx hy hz; exact run_cat w a b h

set_option maxRecDepth 100000 in
set_option maxHeartbeats 4000000 in
theorem written_hex (n least q r : Nat) (ms : ByteArray) (w : World) (hn : (n : Int) < 256) (e10 : ((n : Int) == 10) = false) (e9 : ((n : Int) == 9) = false) (e13 : ((n : Int) == 13) = false) (h : n < least ∨ 126 < (n : Int))
    (hq : (n : Int) / 16 = (q : Int)) (hr : (n : Int) % 16 = (r : Int)) :
    Calls Tryd.prog 22 #[.int .u8 (n : Int), .int .u8 (least : Int), .string ms] w fun e w' => e = .returned (.string (st [92, 120, hexD q, hexD r])) ∧ Gr w w' := by
  have q16 : q < 16 := by omega
  have r16 : r < 16 := by omega
  have sl : ∀ (q : Nat) (w' : World), q < 16 → (Instr.slice 9 (.string { data := #[48, 49, 50, 51, 52, 53, 54, 55, 56, 57, 97, 98, 99, 100, 101, 102] }) (some (.int .u8 (q : Int))) (some (.int .u8 ((q : Int) + 1))) none).run Tryd.prog w' = .ok (.string (st [hexD q])) w' := fun q w' hq => by
    have := run_slice_string (P := Tryd.prog) w' 9 digitsL .u8 .u8 (q : Int) ((q : Int) + 1) Tryd.underlying9 (by omega) (by omega) (by show ((q : Int) + 1) ≤ ((16 : Nat) : Int); omega)
    rw [show ((q : Int) + 1).toNat = q + 1 by omega, Int.toNat_natCast, digits_at q hq] at this
    exact this
  have slq := fun w' => sl q w' q16
  have slr := fun w' => sl r w' r16
  have ewq : IntKind.u8.wrap ((q : Int) + 1) = (q : Int) + 1 := by rw [IntKind.wrap_u8]; omega
  have ewr : IntKind.u8.wrap ((r : Int) + 1) = (r : Int) + 1 := by rw [IntKind.wrap_u8]; omega
  have c1 := cat_is (P := Tryd.prog) { data := #[92, 120] } (st [hexD q]) (st [92, 120, hexD q]) [92, 120] [hexD q] rfl rfl rfl (by simp)
  have c2 := cat_is (P := Tryd.prog) (st [92, 120, hexD q]) (st [hexD r]) (st [92, 120, hexD q, hexD r]) [92, 120, hexD q] [hexD r] rfl rfl rfl (by simp)
  have ea : bits .and .u8 (n : Int) 15 = (r : Int) := (u8_and15 (x := (n : Int)) (by omega) hn).trans hr
  clear sl q16 r16 hr
  go_enter Tryd.func22, Tryd.ntmps22
  go_wp2_with fail
  all_goals
    refine wp_region_G (.take 0 (.take 1 (.take 2 (.take 3 (.take 4 (.take 5 (.take 6 (.take 7 (.take 8 (.take 9 (.take 10 (.take 11 (.take 12 (.take 13 (.run 14 true .nil))))))))))))))) (by kernel_rfl) (by kernel_rfl) ?_
    simp only [pickOps, nthOp]
    intro wq hG
    repeat (first | (refine wpG_skip_take ?_ ?_; (focus rfl); try simp only [Act.put, List.setIfInBounds_toArray, List.set_cons_zero, List.set_cons_succ]) | (refine wpG_skip_run ?_ ?_; (focus rfl); try simp only [Act.put, List.setIfInBounds_toArray, List.set_cons_zero, List.set_cons_succ]) | (refine wpG_take ?_ ?_; (focus rfl); apply Exists.intro; refine ⟨fun w' hw' => ?_, ?_⟩; (focus (have hc := Gr.cells hw'; go_simp; (try rfl); done)); try simp only [Act.put, List.setIfInBounds_toArray, List.set_cons_zero, List.set_cons_succ]))
    rename_i w2
    refine wpG_last ?_ (fun K hK => ?_); (focus rfl)
    have hc := hG.cells
    have hm := hG.marks
    go_simp
    refine hK.out _ _ ?_
    try simp only [Act.put, List.setIfInBounds_toArray, List.set_cons_zero, List.set_cons_succ]
    clear hK K hc hm
    refine wpG_done ?_
    go_wp2
    go_ret
    exact ⟨rfl, hG⟩

theorem encode_ascii (n : Nat) (h : n < 128) : Utf8.encode (n : Int) = st [UInt8.ofNat n] := by
  have : ∀ n : Fin 128, Utf8.encode ((n.1 : Nat) : Int) = st [UInt8.ofNat n.1] := by decide
  exact this ⟨n, h⟩
theorem rune_st {P : Program} (w : World) (s t : TypeId) (n : Nat) (h : n < 128) (hs : (P.underlying s).isSome = true) (ht : P.underlying t = some .string) :
    (convert s t (.int .i32 (n : Int))).run P w = .ok (.string (st [UInt8.ofNat n])) w := by
  rw [run_convert_int_string w s t .i32 (n : Int) hs ht, encode_ascii n h]
set_option maxRecDepth 100000 in
set_option maxHeartbeats 4000000 in
theorem written_mark (n least : Nat) (marks : List UInt8) (b : Bool) (w : World) (e10 : ((n : Int) == 10) = false) (e9 : ((n : Int) == 9) = false) (e13 : ((n : Int) == 13) = false) (h : ¬ n < least) (h2 : ¬ 126 < (n : Int))
    (hb : decide (0 ≤ Lib.indexByte marks (UInt8.ofNat n)) = b) :
    Calls Tryd.prog 22 #[.int .u8 (n : Int), .int .u8 (least : Int), .string (st marks)] w fun e w' => e = .returned (.string (st (if b then [92, UInt8.ofNat n] else [UInt8.ofNat n]))) ∧ Gr w w' := by
  have hr := fun (w' : World) => rune_st (P := Tryd.prog) w' 21 9 n (by omega) (by rfl) Tryd.underlying9
  have ew : IntKind.i32.wrap (n : Int) = (n : Int) := by rw [IntKind.wrap_i32]; omega
  have c1 := cat_is (P := Tryd.prog) { data := #[92] } (st [UInt8.ofNat n]) (st [92, UInt8.ofNat n]) [92] [UInt8.ofNat n] rfl rfl rfl (by simp)
  have hc := Tryd.strings_IndexByte (st marks) (n : Int)
  rw [st_data, Int.toNat_natCast, show n.toUInt8 = UInt8.ofNat n from rfl] at hc
  obtain ⟨x, hx⟩ : ∃ x, Lib.indexByte marks (UInt8.ofNat n) = x := ⟨_, rfl⟩
  rw [hx] at hb hc
  clear hx
  have HC := Lib.hid hc
  clear hc
  cases b
  · have h0 : ¬ 0 ≤ x := by simpa using hb
    clear hb
    go_enter Tryd.func22, Tryd.ntmps22
    go_wp2_with (go_at_call 38; (with_reducible refine (HC.out _).mono ?_); rintro e w' ⟨rfl, rfl⟩)
    go_ret
    exact ⟨rfl, Gr.refl _⟩
  · have h0 : 0 ≤ x := by simpa using hb
    clear hb
    go_enter Tryd.func22, Tryd.ntmps22
    go_wp2_with (go_at_call 38; (with_reducible refine (HC.out _).mono ?_); rintro e w' ⟨rfl, rfl⟩)
    go_ret
    exact ⟨rfl, Gr.refl _⟩
set_option maxRecDepth 100000 in
theorem written_10 (least : Nat) (ms : ByteArray) (w : World) : Calls Tryd.prog 22 #[.int .u8 10, .int .u8 (least : Int), .string ms] w fun e w' => e = .returned (.string (st [92, 110])) ∧ Gr w w' := by
  go_enter Tryd.func22, Tryd.ntmps22
  go_wp2_with fail
  go_ret
  exact ⟨rfl, Gr.refl _⟩
set_option maxRecDepth 100000 in
theorem written_9 (least : Nat) (ms : ByteArray) (w : World) : Calls Tryd.prog 22 #[.int .u8 9, .int .u8 (least : Int), .string ms] w fun e w' => e = .returned (.string (st [92, 116])) ∧ Gr w w' := by
  go_enter Tryd.func22, Tryd.ntmps22
  go_wp2_with fail
  go_ret
  exact ⟨rfl, Gr.refl _⟩
set_option maxRecDepth 100000 in
theorem written_13 (least : Nat) (ms : ByteArray) (w : World) : Calls Tryd.prog 22 #[.int .u8 13, .int .u8 (least : Int), .string ms] w fun e w' => e = .returned (.string (st [92, 114])) ∧ Gr w w' := by
  go_enter Tryd.func22, Tryd.ntmps22
  go_wp2_with fail
  go_ret
  exact ⟨rfl, Gr.refl _⟩
/-- A byte's text. -/
theorem written_any (c : UInt8) (least : Nat) (marks : List UInt8) (w : World) :
    Calls Tryd.prog 22 #[.int .u8 (c.toNat : Int), .int .u8 (least : Int), .string (st marks)] w fun e w' => e = .returned (.string (st (wr c least marks))) ∧ Gr w w' := by
  have hc := c.toNat_lt
  have eq : ∀ k, k < 256 → ¬ c.toNat = k → ¬ c = UInt8.ofNat k := fun k hk h e => h ((u8_eq c k hk).1 e)
  unfold wr
  by_cases h10 : c.toNat = 10
  · rw [if_pos (show c = 10 from (u8_eq c 10 (by omega)).2 h10), h10]; exact written_10 _ _ _
  · rw [if_neg (show ¬ c = 10 from eq 10 (by omega) h10)]
    by_cases h9 : c.toNat = 9
    · rw [if_pos (show c = 9 from (u8_eq c 9 (by omega)).2 h9), h9]; exact written_9 _ _ _
    · rw [if_neg (show ¬ c = 9 from eq 9 (by omega) h9)]
      by_cases h13 : c.toNat = 13
      · rw [if_pos (show c = 13 from (u8_eq c 13 (by omega)).2 h13), h13]; exact written_13 _ _ _
      · rw [if_neg (show ¬ c = 13 from eq 13 (by omega) h13)]
        have e10 : ((c.toNat : Int) == 10) = false := by simp; omega
        have e9 : ((c.toNat : Int) == 9) = false := by simp; omega
        have e13 : ((c.toNat : Int) == 13) = false := by simp; omega
        by_cases hh : c.toNat < least ∨ 126 < c.toNat
        · rw [if_pos hh]
          exact written_hex c.toNat least _ _ _ w (by omega) e10 e9 e13 (by omega) (by omega) (by omega)
        · rw [if_neg hh]
          have := written_mark c.toNat least marks (decide (c ∈ marks)) w e10 e9 e13 (by omega) (by omega) (by rw [UInt8.ofNat_toNat]; exact decide_eq_decide.2 (index_mem marks c))
          rw [UInt8.ofNat_toNat] at this
          by_cases hm : c ∈ marks
          · rw [if_pos hm]; simpa [hm] using this
          · rw [if_neg hm]; simpa [hm] using this

theorem writtenT (c : UInt8) (w : World) : Calls Tryd.prog 22 #[.int .u8 (c.toNat : Int), .int .u8 33, .string { data := #[92, 91, 93, 45, 94, 38] }] w fun e w' => e = .returned (.string (st (wrT c))) ∧ Gr w w' := written_any c 33 marksT w
theorem wr_len (c : UInt8) (least : Nat) (marks : List UInt8) : (wr c least marks).length ≤ 4 := by
  unfold wr
  split
  · simp
  · split
    · simp
    · split
      · simp
      · split
        · simp
        · split <;> simp
theorem spanL_len (p : Sp) : (spanL p).length ≤ 9 := by
  unfold spanL
  have h1 := wr_len p.1 33 marksT
  have h2 := wr_len p.2 33 marksT
  unfold wrT
  simp only [List.length_append]
  split <;> split <;> simp <;> omega
theorem bodyL_len (l : List Sp) : (bodyL l).length ≤ 9 * l.length := by
  induction l with
  | nil => simp [bodyL]
  | cons p l ih => show (spanL p ++ bodyL l).length ≤ _; have := spanL_len p; rw [List.length_append, List.length_cons]; omega
theorem bodyL_snoc (l : List Sp) (p : Sp) : bodyL (l ++ [p]) = bodyL l ++ spanL p := by simp [bodyL]
theorem cats {P : Program} (a b : List UInt8) (h : (a.length : Int) + (b.length : Int) ≤ 9223372036854775807) : ∀ w : World, (Op.stringOp .add (st a) (st b)).run P w = .ok (.string (st (a ++ b))) w := fun w => run_cat w a b (by omega)
/-- The cells of an owned row of spans. -/
theorem span_cell {w : World} {B g cap : Nat} {r : List Sp} (h : w.ownsRow B 53 2 (.slice (some ⟨g, 0, none⟩) r.length cap) r.length (spsCells r)) (k : Nat) (p : Sp) (hp : r[k]? = some p) :
    w.cell? ⟨g, k * 2, none⟩ = some (vB p.1) ∧ w.cell? ⟨g, k * 2 + 1, none⟩ = some (vB p.2) := by
  have key : ∀ (r : List Sp) (k : Nat), r[k]? = some p → (spsCells r)[k * 2]? = some (vB p.1) ∧ (spsCells r)[k * 2 + 1]? = some (vB p.2) := by
    intro r
    induction r with
    | nil => intro k h; simp at h
    | cons q r ih =>
      intro k h
      have e : spsCells (q :: r) = vB q.1 :: vB q.2 :: spsCells r := rfl
      match k, h with
      | 0, h => simp at h; subst h; rw [e]; exact ⟨rfl, rfl⟩
      | k + 1, h =>
        have := ih k (by simpa using h)
        rw [e]
        have e1 : (k + 1) * 2 = k * 2 + 1 + 1 := by omega
        rw [e1]
        simpa using this
  exact ⟨owns_cell h _ _ (key r k hp).1, owns_cell h _ _ (key r k hp).2⟩

set_option maxRecDepth 100000 in
set_option maxHeartbeats 4000000 in
theorem text_any (s : BitVec 256) (w : World) : Calls Tryd.prog 8 #[.agg #[.int .u64 (wd s 0), .int .u64 (wd s 1), .int .u64 (wd s 2), .int .u64 (wd s 3)]] w fun e w' => ∃ r, Runs r (bytesOf s) ∧ e = .returned (.string (st (textL r))) ∧ Gr w w' := by
  go_enter Tryd.func8, Tryd.ntmps8
  go_wp2_with fail
  go_at_call 21
  refine (spans_any s _).mono ?_; rintro e w1 ⟨vs, r, rfl, hR, hs, hb, hnil⟩
  have hgw : Gr w w1 := (Gr.alloc _ _).trans hb
  have hrl : r.length ≤ 256 := Nat.le_trans hR.len (bytesTo_len s 256)
  have HR := Lib.hid hR
  obtain ⟨p0, c0, rfl⟩ := (Sl.of_owns hs).len
  have HS := Lib.hid hs
  clear hR hs hb hnil
  have hrI : (r.length : Int) ≤ 256 := by omega
  go_wp2_with fail
  go_loopw [3, 9] (fun b i wr => ∃ k : Nat, k ≤ r.length ∧ i = .int .i64 k ∧ b = .string (st (91 :: bodyL (r.take k))) ∧ Gr w1 wr) (fun _ i _ => r.length - (intOf i).toNat)
  case atStart => exact ⟨0, by omega, rfl, rfl, Gr.refl _⟩
  case round =>
    obtain ⟨k, hk, rfl, rfl, hg⟩ := hrel
    by_cases hlt : k < r.length
    · obtain ⟨g, cap, he, _, hgl, _⟩ := owns_block HS.out (by omega)
      simp only [Value.slice.injEq] at he
      obtain ⟨rfl, _, rfl⟩ := he
      obtain ⟨⟨a, b⟩, hp⟩ : ∃ x, r[k]? = some x := ⟨_, List.getElem?_eq_getElem hlt⟩
      obtain ⟨d1, d2⟩ := span_cell HS.out k _ hp
      have c1 := hg.cell d1
      have c2 := hg.cell d2
      have hgr : g < wr.heap.size := by have := hg.size; omega
      have hle : a.toNat ≤ b.toNat := (HR.out.mem _ (List.mem_of_getElem? hp)).1
      have ha := a.toNat_lt
      have hb := b.toNat_lt
      obtain ⟨acc, hacc⟩ : ∃ acc, 91 :: bodyL (r.take k) = acc := ⟨_, rfl⟩
      rw [hacc]
      have hal : acc.length ≤ 3000 := by
        rw [← hacc]
        have := bodyL_len (r.take k)
        rw [List.length_take] at this
        simp only [List.length_cons]; omega
      have hnext : 91 :: bodyL (r.take (k + 1)) = acc ++ spanL (a, b) := by
        rw [← hacc, List.take_add_one, hp]
        simp only [Option.toList_some, bodyL_snoc, List.cons_append]
      have hkI : (k : Int) < (r.length : Int) := by omega
      unfold vB at c1 c2 d1 d2
      simp only at c1 c2 d1 d2
      have es : IntKind.u8.wrap ((b.toNat : Int) - (a.toNat : Int)) = (b.toNat : Int) - (a.toNat : Int) := by rw [IntKind.wrap_u8]; omega
      have l1 := wr_len a 33 marksT
      have l2 := wr_len b 33 marksT
      have e1 := cats (P := Tryd.prog) acc (wrT a) (by unfold wrT; omega)
      have e2 := cat_is (P := Tryd.prog) (st (acc ++ wrT a)) { data := #[45] } (st (acc ++ wrT a ++ [45])) _ [45] rfl rfl rfl (by rw [List.length_append]; unfold wrT; simp; omega)
      have e3 := cats (P := Tryd.prog) (acc ++ wrT a ++ [45]) (wrT b) (by rw [List.length_append, List.length_append]; unfold wrT; simp; omega)
      have e4 := cats (P := Tryd.prog) (acc ++ wrT a) (wrT b) (by rw [List.length_append]; unfold wrT; omega)
      obtain ⟨x3, hx3⟩ : ∃ x, acc ++ wrT a ++ [45] ++ wrT b = x := ⟨_, rfl⟩
      rw [hx3] at e3
      obtain ⟨x2, hx2⟩ : ∃ x, acc ++ wrT a ++ [45] = x := ⟨_, rfl⟩
      rw [hx2] at e2 e3 hx3
      obtain ⟨x4, hx4⟩ : ∃ x, acc ++ wrT a ++ wrT b = x := ⟨_, rfl⟩
      rw [hx4] at e4
      obtain ⟨x1, hx1⟩ : ∃ x, acc ++ wrT a = x := ⟨_, rfl⟩
      rw [hx1] at e1 e2 e4 hx2 hx4
      have HX := Lib.hid (show acc ++ wrT a = x1 ∧ acc ++ (wrT a ++ ([45] ++ wrT b)) = x3 ∧ acc ++ (wrT a ++ wrT b) = x4 from ⟨hx1, by rw [← hx3, ← hx2, ← hx1]; simp, by rw [← hx4, ← hx1, List.append_assoc]⟩)
      clear hx1 hx2 hx3 hx4
      have HN := Lib.hid hnext
      have HLT := Lib.hid hlt
      have h3 : a.toNat + 1 < b.toNat ∨ a.toNat + 1 = b.toNat ∨ a.toNat = b.toNat := by omega
      have H3 := Lib.hid h3
      clear h3 hal hnext hacc hlt l1 l2 hp hrl
      go_wp2_with fail
      go_at_call 22
      refine name_calls (fun W hW => ?_)
      have xp : boxAt W wr.heap.size [.int .u8 (a.toNat : Int), .int .u8 (b.toNat : Int)] := boxAt.new _ _ hW
      have hgW : Gr wr W := by rw [hW]; exact Gr.alloc _ _
      clear hW
      refine (writtenT a W).mono ?_; rintro e w2 ⟨rfl, hq⟩
      replace xp := xp.later hq
      replace hgW := hgW.trans hq
      clear hq
      have c_p0 := xp.cell 0 _ rfl
      have c_p1 := xp.cell 1 _ rfl
      have m_p0 := xp.mark 0 _ rfl
      have m_p1 := xp.mark 1 _ rfl
      have l_p := xp.lt (Nat.succ_pos _)
      rcases H3.out with h3 | h3 | h3
      · have h4 : (1 : Int) < (b.toNat : Int) - (a.toNat : Int) := by omega
        have h5 : a.toNat < b.toNat := by omega
        have hsp : spanL (a, b) = wrT a ++ ([45] ++ wrT b) := by unfold spanL; simp only; rw [if_pos h3, if_pos h5]
        have HSP := Lib.hid hsp
        clear hsp h3 hle ha hb
        go_wp2_with (go_at_call 22; (with_reducible refine (writtenT _ _).mono ?_); rintro e w3 ⟨rfl, hq⟩)
        go_roundw
        case rel => exact ⟨k + 1, by have := HLT.out; omega, by go_num, by rw [HN.out, HSP.out, HX.out.2.1], (hg.trans hgW).trans hq⟩
        case measure => have := HLT.out; simp [intOf]; omega
      · have h4 : ¬ (1 : Int) < (b.toNat : Int) - (a.toNat : Int) := by omega
        have h5 : a.toNat < b.toNat := by omega
        have hsp : spanL (a, b) = wrT a ++ wrT b := by unfold spanL; simp only; rw [if_neg (by omega), if_pos h5]; rfl
        have HSP := Lib.hid hsp
        clear hsp h3 hle ha hb
        go_wp2_with (go_at_call 22; (with_reducible refine (writtenT _ _).mono ?_); rintro e w3 ⟨rfl, hq⟩)
        go_roundw
        case rel => exact ⟨k + 1, by have := HLT.out; omega, by go_num, by rw [HN.out, HSP.out, HX.out.2.2], (hg.trans hgW).trans hq⟩
        case measure => have := HLT.out; simp [intOf]; omega
      · obtain rfl : a = b := UInt8.toNat_inj.1 h3
        have hsp : spanL (a, a) = wrT a := by unfold spanL; simp
        have HSP := Lib.hid hsp
        clear hsp h3 hle ha hb
        go_wp2_with fail
        go_roundw
        case rel => exact ⟨k + 1, by have := HLT.out; omega, by go_num, by rw [HN.out, HSP.out, HX.out.1], hg.trans hgW⟩
        case measure => have := HLT.out; simp [intOf]; omega
    · have hkr : k = r.length := by omega
      have hfull : 91 :: bodyL (r.take k) = 91 :: bodyL r := by rw [hkr, List.take_length]
      rw [hfull]
      have hl := bodyL_len r
      have e1 := cat_is (P := Tryd.prog) (st (91 :: bodyL r)) { data := #[93] } (st (textL r)) (91 :: bodyL r) [93] rfl rfl rfl (by rw [List.length_cons, List.length_cons, List.length_nil]; omega)
      clear hfull hl hlt hk
      subst hkr
      go_wp2_with fail
      go_ret
      exact ⟨r, HR.out, rfl, hgw.trans hg⟩

theorem writtenQ (c : UInt8) (w : World) : Calls Tryd.prog 22 #[.int .u8 (c.toNat : Int), .int .u8 32, .string { data := #[34, 92] }] w fun e w' => e = .returned (.string (st (wrQ c))) ∧ Gr w w' := written_any c 32 marksQ w
theorem wrQs_len (l : List UInt8) : (l.flatMap wrQ).length ≤ 4 * l.length := by
  induction l with
  | nil => simp
  | cons c l ih => rw [List.flatMap_cons, List.length_append, List.length_cons]; have := wr_len c 32 marksQ; unfold wrQ at ih ⊢; omega
theorem wrQs_snoc (l : List UInt8) (k : Nat) (c : UInt8) (h : l[k]? = some c) : (l.take (k + 1)).flatMap wrQ = (l.take k).flatMap wrQ ++ wrQ c := by
  rw [List.take_add_one, h]; simp
/-- A builder that is just laid. -/
theorem builder_new (w : World) : BuilderIs w.heap.size w.heap.size [] (w.alloc (.cells #[.pointer none, .slice none 0 0] 58)) := by
  refine .inl ⟨Nat.le_refl _, .slice none 0 0, ?_, World.ownsRow_nil _ _ _ _, by simp [Value.ownBlock]⟩
  show (w.heap.push _)[w.heap.size]? = _
  simp
theorem BuilderIs.later {B b : Nat} {l : List UInt8} {w w' : World} (h : BuilderIs B b l w) (hG : Gr w w') : BuilderIs B b l w' := by
  have key : ∀ p, Lib.BuilderAt 58 5 B b p (Lib.byteCells l) w → Lib.BuilderAt 58 5 B b p (Lib.byteCells l) w' := fun p ⟨h1, v, h2, h3, h4⟩ =>
    ⟨h1, v, by rw [Below.block hG b (Array.getElem?_eq_some_iff.1 h2).1]; exact h2, owns_later h3 hG, h4⟩
  exact h.imp (key _) (key _)

set_option maxRecDepth 100000 in
set_option maxHeartbeats 4000000 in
theorem quote_any (l : List UInt8) (w : World) (hl : (l.length : Int) ≤ 1000000) : Calls Tryd.prog 10 #[.string (st l)] w fun e w' => e = .returned (.string (st (quoteL l))) ∧ Gr w w' := by
  have hsz := st_size l
  go_enter Tryd.func10, Tryd.ntmps10
  go_wp2_with fail
  go_at_call 25
  refine name_calls (fun W hW => ?_)
  have hB : BuilderIs w.heap.size w.heap.size [] W := by rw [hW]; exact builder_new w
  have hgW : Gr w W := by rw [hW]; exact Gr.alloc _ _
  clear hW
  refine (writeByte_any w.heap.size w.heap.size [] 34 W hB (by simp) hgW.size).mono ?_; rintro e w1 ⟨rfl, hB1, hb1⟩
  have hg1 : Gr w w1 := Below.trans hgW hb1
  have hB1' := Lib.hid hB1
  clear hB hb1 hgW hB1
  go_wp2_with fail
  go_loopw [8] (fun i wr => ∃ k : Nat, k ≤ l.length ∧ i = .int .i64 k ∧ BuilderIs w.heap.size w.heap.size (34 :: (l.take k).flatMap wrQ) wr ∧ Gr w wr) (fun i _ => l.length - (intOf i).toNat)
  case atStart => exact ⟨0, by omega, rfl, hB1'.out, hg1⟩
  case round =>
    obtain ⟨k, hk, rfl, hB, hg⟩ := hrel
    clear hB1' hg1
    by_cases hlt : k < l.length
    · obtain ⟨c, hc⟩ : ∃ x, l[k]? = some x := ⟨_, List.getElem?_eq_getElem hlt⟩
      have hix := fun w' => run_at (P := Tryd.prog) w' 9 l k c .i64 Tryd.underlying9 hc
      have hkI : (k : Int) < (l.length : Int) := by omega
      have hn := wrQs_snoc l k c hc
      have hlen : (34 :: (l.take k).flatMap wrQ).length + (wrQ c).length ≤ 140737488355328 := by
        have h1 := wrQs_len (l.take k)
        have h2 := wr_len c 32 marksQ
        rw [List.length_take] at h1
        unfold wrQ at h1 ⊢
        rw [List.length_cons]; omega
      obtain ⟨acc, hacc⟩ : ∃ x, 34 :: (l.take k).flatMap wrQ = x := ⟨_, rfl⟩
      have hn2 : 34 :: (l.take (k + 1)).flatMap wrQ = acc ++ wrQ c := by rw [hn, ← hacc]; rfl
      rw [hacc] at hB hlen
      have HN := Lib.hid hn2
      have HLT := Lib.hid hlt
      have HB := Lib.hid hB
      have HLEN := Lib.hid hlen
      clear hn hn2 hacc hc hB hlen hlt hk
      go_wp2_with fail
      go_at_call 22
      refine (writtenQ c wr).mono ?_; rintro e w2 ⟨rfl, hq⟩
      have hB2 := HB.out.later hq
      have hg2 := hg.trans hq
      have HB2 := Lib.hid hB2
      clear hB2 hq
      go_wp2_with fail
      go_at_call 26
      refine (writeString_any w.heap.size w.heap.size acc (wrQ c) w2 HB2.out HLEN.out hg2.size).mono ?_; rintro e w3 ⟨rfl, hB3, hb3⟩
      have HB3 := Lib.hid hB3
      have hg3 : Gr w w3 := Below.trans hg2 hb3
      clear hB3 hb3
      go_wp2_with fail
      go_roundw
      case rel => exact ⟨k + 1, by have := HLT.out; omega, by go_num, by rw [HN.out]; exact HB3.out, hg3⟩
      case measure => have := HLT.out; simp [intOf]; omega
    · have hkr : k = l.length := by omega
      rw [hkr, List.take_length] at hB
      have hlen : (34 :: l.flatMap wrQ).length + 1 ≤ 140737488355328 := by
        have h1 := wrQs_len l
        rw [List.length_cons]; omega
      have HB := Lib.hid hB
      have HLEN := Lib.hid hlen
      clear hB hlen hlt hk
      subst hkr
      go_wp2_with fail
      go_at_call 25
      refine (writeByte_any w.heap.size w.heap.size _ 34 wr HB.out HLEN.out hg.size).mono ?_; rintro e w2 ⟨rfl, hB2, hb2⟩
      have HB2 := Lib.hid hB2
      have hg2 : Gr w w2 := Below.trans hg hb2
      clear hB2 hb2
      go_wp2_with fail
      go_at_call 27
      refine (builderString_any w.heap.size w.heap.size _ w2 HB2.out (by simp)).mono ?_; rintro e w3 ⟨rfl, hb3⟩
      have hg3 : Gr w w3 := Below.trans hg2 hb3
      clear hb3
      go_wp2_with fail
      go_ret
      exact ⟨rfl, hg3⟩

end Go.Proofs.YtihjmeoklbmnmaaDoor

/- bolterref3: hex, plain, Byte. No condition. -/
namespace Go.Proofs.YtihjmeoklbmnmaaDoor
open Go Go.RowKit

set_option maxRecDepth 100000 in
set_option maxHeartbeats 4000000 in
theorem hex_any (n q r : Nat) (w : World) (hn : (n : Int) < 256) (hq : (n : Int) / 16 = (q : Int)) (hr : (n : Int) % 16 = (r : Int)) :
    Calls Tryd.prog 29 #[.int .u8 (n : Int)] w fun e w' => e = .returned (.string (st [92, 120, hexD q, hexD r])) ∧ Gr w w' := by
  have q16 : q < 16 := by omega
  have r16 : r < 16 := by omega
  have ix : ∀ (q : Nat) (w' : World), q < 16 → (Instr.index 9 (.string { data := #[48, 49, 50, 51, 52, 53, 54, 55, 56, 57, 97, 98, 99, 100, 101, 102] }) (.int .u8 (q : Int))).run Tryd.prog w' = .ok (.int .u8 ((hexD q).toNat : Int)) w' := fun q w' hq => by
    have hk : ∀ q : Fin 16, ([48, 49, 50, 51, 52, 53, 54, 55, 56, 57, 97, 98, 99, 100, 101, 102] : List UInt8)[q.1]? = some (hexD q.1) := by decide
    exact run_at (P := Tryd.prog) w' 9 [48, 49, 50, 51, 52, 53, 54, 55, 56, 57, 97, 98, 99, 100, 101, 102] q (hexD q) .u8 Tryd.underlying9 (hk ⟨q, hq⟩)
  have ixq := fun w' => ix q w' q16
  have ixr := fun w' => ix r w' r16
  have eq : (n : Int).tdiv 16 = (q : Int) := by rw [Int.tdiv_eq_ediv_of_nonneg (by omega)]; exact hq
  have er : (n : Int).tmod 16 = (r : Int) := by rw [Int.tmod_eq_emod_of_nonneg (by omega)]; exact hr
  have ewq : IntKind.u8.wrap (q : Int) = (q : Int) := by rw [IntKind.wrap_u8]; omega
  have ewr : IntKind.u8.wrap (r : Int) = (r : Int) := by rw [IntKind.wrap_u8]; omega
  have cv : ∀ w' : World, (convert 46 9 (.slice (some ⟨w'.heap.size, 0, none⟩) 4 4)).run Tryd.prog (w'.alloc (.cells #[.int .u8 92, .int .u8 120, .int .u8 ((hexD q).toNat : Int), .int .u8 ((hexD r).toNat : Int)] 5)).drew = .ok (.string (st [92, 120, hexD q, hexD r])) (w'.alloc (.cells #[.int .u8 92, .int .u8 120, .int .u8 ((hexD q).toNat : Int), .int .u8 ((hexD r).toNat : Int)] 5)).drew := fun w' =>
    conv_bytes (P := Tryd.prog) _ 46 9 5 ⟨w'.heap.size, 0, none⟩ 4 4 [92, 120, hexD q, hexD r] Tryd.underlying46 Tryd.underlying5 Tryd.underlying9 rfl (fun j v hj => by
      rw [addr_add0]
      match j, hj with
      | 0, hj => simp [vB] at hj; subst hj; simp
      | 1, hj => simp [vB] at hj; subst hj; simp
      | 2, hj => simp [vB] at hj; subst hj; simp
      | 3, hj => simp [vB] at hj; subst hj; simp)
  clear q16 r16 ix
  go_enter Tryd.func29, Tryd.ntmps29
  go_wp2_with fail
  go_region
  go_wp2
  go_ret
  exact ⟨rfl, (Gr.alloc _ _).trans (Gr.drew _)⟩

set_option maxRecDepth 100000 in
theorem plain_10 (w : World) : Calls Tryd.prog 28 #[.int .u8 10] w fun e w' => e = .returned (.tuple #[.string (st [92, 110]), .bool true]) ∧ Gr w w' := by
  go_enter Tryd.func28, Tryd.ntmps28
  go_wp2_with fail
  refine bodyPost_ret (v := .tuple #[.string (st [92, 110]), .bool true]) (by simp [results, Tryd.results28, go_sem]; rfl) rfl ⟨rfl, Gr.refl _⟩
set_option maxRecDepth 100000 in
theorem plain_9 (w : World) : Calls Tryd.prog 28 #[.int .u8 9] w fun e w' => e = .returned (.tuple #[.string (st [92, 116]), .bool true]) ∧ Gr w w' := by
  go_enter Tryd.func28, Tryd.ntmps28
  go_wp2_with fail
  refine bodyPost_ret (v := .tuple #[.string (st [92, 116]), .bool true]) (by simp [results, Tryd.results28, go_sem]; rfl) rfl ⟨rfl, Gr.refl _⟩
set_option maxRecDepth 100000 in
theorem plain_13 (w : World) : Calls Tryd.prog 28 #[.int .u8 13] w fun e w' => e = .returned (.tuple #[.string (st [92, 114]), .bool true]) ∧ Gr w w' := by
  go_enter Tryd.func28, Tryd.ntmps28
  go_wp2_with fail
  refine bodyPost_ret (v := .tuple #[.string (st [92, 114]), .bool true]) (by simp [results, Tryd.results28, go_sem]; rfl) rfl ⟨rfl, Gr.refl _⟩
set_option maxRecDepth 100000 in
theorem plain_no (n : Nat) (w : World) (e10 : ((n : Int) == 10) = false) (e9 : ((n : Int) == 9) = false) (e13 : ((n : Int) == 13) = false) : Calls Tryd.prog 28 #[.int .u8 (n : Int)] w fun e w' => e = .returned (.tuple #[.string { data := #[] }, .bool false]) ∧ Gr w w' := by
  go_enter Tryd.func28, Tryd.ntmps28
  go_wp2_with fail
  refine bodyPost_ret (v := .tuple #[.string { data := #[] }, .bool false]) (by simp [results, Tryd.results28, go_sem]) rfl ⟨rfl, Gr.refl _⟩
theorem conv_one {P : Program} (w : World) (src dst e : TypeId) (n : Nat) (hs : P.underlying src = some (.slice e)) (he : P.underlying e = some (.int .u8)) (hd : P.underlying dst = some .string) (hn : n < 256) :
    (convert src dst (.slice (some ⟨w.heap.size, 0, none⟩) 1 1)).run P (w.alloc (.cells #[.int .u8 (n : Int)] e)) = .ok (.string (st [UInt8.ofNat n])) (w.alloc (.cells #[.int .u8 (n : Int)] e)) :=
  conv_bytes (P := P) _ src dst e ⟨w.heap.size, 0, none⟩ 1 1 [UInt8.ofNat n] hs he hd rfl (fun j v hj => by
    rw [addr_add0]
    match j, hj with
    | 0, hj =>
      simp only [List.map_cons, List.map_nil, List.getElem?_cons_zero, Option.some.injEq] at hj; subst hj
      unfold vB; rw [UInt8.toNat_ofNat_of_lt' hn]; simp)

set_option maxRecDepth 100000 in
theorem byte_10 (w : World) : Calls Tryd.prog 24 #[.int .u8 10] w fun e w' => e = .returned (.string (st [92, 110])) ∧ Gr w w' := by
  go_enter Tryd.func24, Tryd.ntmps24
  go_wp2_with (go_at_call 28; (with_reducible refine (plain_10 _).mono ?_); rintro e w1 ⟨rfl, hb⟩)
  go_ret
  exact ⟨rfl, hb⟩
set_option maxRecDepth 100000 in
theorem byte_9 (w : World) : Calls Tryd.prog 24 #[.int .u8 9] w fun e w' => e = .returned (.string (st [92, 116])) ∧ Gr w w' := by
  go_enter Tryd.func24, Tryd.ntmps24
  go_wp2_with (go_at_call 28; (with_reducible refine (plain_9 _).mono ?_); rintro e w1 ⟨rfl, hb⟩)
  go_ret
  exact ⟨rfl, hb⟩
set_option maxRecDepth 100000 in
theorem byte_13 (w : World) : Calls Tryd.prog 24 #[.int .u8 13] w fun e w' => e = .returned (.string (st [92, 114])) ∧ Gr w w' := by
  go_enter Tryd.func24, Tryd.ntmps24
  go_wp2_with (go_at_call 28; (with_reducible refine (plain_13 _).mono ?_); rintro e w1 ⟨rfl, hb⟩)
  go_ret
  exact ⟨rfl, hb⟩
set_option maxRecDepth 100000 in
set_option maxHeartbeats 4000000 in
theorem byte_92 (w : World) : Calls Tryd.prog 24 #[.int .u8 92] w fun e w' => e = .returned (.string (st [92, 92])) ∧ Gr w w' := by
  have hp : ∀ w' : World, Calls Tryd.prog 28 #[.int .u8 92] w' fun e w'' => e = .returned (.tuple #[.string { data := #[] }, .bool false]) ∧ Gr w' w'' := fun w' => plain_no 92 w' (by decide) (by decide) (by decide)
  have hp := Lib.hid hp
  have cv : ∀ w' : World, (convert 46 9 (.slice (some ⟨w'.heap.size, 0, none⟩) 1 1)).run Tryd.prog (w'.alloc (.cells #[.int .u8 92] 5)) = .ok (.string (st [92])) (w'.alloc (.cells #[.int .u8 92] 5)) :=
    fun w' => conv_one (P := Tryd.prog) w' 46 9 5 92 Tryd.underlying46 Tryd.underlying5 Tryd.underlying9 (by decide)
  have c1 := cat_is (P := Tryd.prog) { data := #[92] } (st [92]) (st [92, 92]) [92] [92] rfl rfl rfl (by simp)
  go_enter Tryd.func24, Tryd.ntmps24
  go_wp2_with (go_at_call 28; (with_reducible refine (hp.out _).mono ?_); rintro e w1 ⟨rfl, hb⟩)
  go_ret
  exact ⟨rfl, hb.trans (Gr.alloc _ _)⟩
set_option maxRecDepth 100000 in
set_option maxHeartbeats 4000000 in
theorem byte_91 (w : World) : Calls Tryd.prog 24 #[.int .u8 91] w fun e w' => e = .returned (.string (st [92, 91])) ∧ Gr w w' := by
  have hp : ∀ w' : World, Calls Tryd.prog 28 #[.int .u8 91] w' fun e w'' => e = .returned (.tuple #[.string { data := #[] }, .bool false]) ∧ Gr w' w'' := fun w' => plain_no 91 w' (by decide) (by decide) (by decide)
  have hp := Lib.hid hp
  have cv : ∀ w' : World, (convert 46 9 (.slice (some ⟨w'.heap.size, 0, none⟩) 1 1)).run Tryd.prog (w'.alloc (.cells #[.int .u8 91] 5)) = .ok (.string (st [91])) (w'.alloc (.cells #[.int .u8 91] 5)) :=
    fun w' => conv_one (P := Tryd.prog) w' 46 9 5 91 Tryd.underlying46 Tryd.underlying5 Tryd.underlying9 (by decide)
  have c1 := cat_is (P := Tryd.prog) { data := #[92] } (st [91]) (st [92, 91]) [92] [91] rfl rfl rfl (by simp)
  go_enter Tryd.func24, Tryd.ntmps24
  go_wp2_with (go_at_call 28; (with_reducible refine (hp.out _).mono ?_); rintro e w1 ⟨rfl, hb⟩)
  go_ret
  exact ⟨rfl, hb.trans (Gr.alloc _ _)⟩
set_option maxRecDepth 100000 in
set_option maxHeartbeats 4000000 in
theorem byte_93 (w : World) : Calls Tryd.prog 24 #[.int .u8 93] w fun e w' => e = .returned (.string (st [92, 93])) ∧ Gr w w' := by
  have hp : ∀ w' : World, Calls Tryd.prog 28 #[.int .u8 93] w' fun e w'' => e = .returned (.tuple #[.string { data := #[] }, .bool false]) ∧ Gr w' w'' := fun w' => plain_no 93 w' (by decide) (by decide) (by decide)
  have hp := Lib.hid hp
  have cv : ∀ w' : World, (convert 46 9 (.slice (some ⟨w'.heap.size, 0, none⟩) 1 1)).run Tryd.prog (w'.alloc (.cells #[.int .u8 93] 5)) = .ok (.string (st [93])) (w'.alloc (.cells #[.int .u8 93] 5)) :=
    fun w' => conv_one (P := Tryd.prog) w' 46 9 5 93 Tryd.underlying46 Tryd.underlying5 Tryd.underlying9 (by decide)
  have c1 := cat_is (P := Tryd.prog) { data := #[92] } (st [93]) (st [92, 93]) [92] [93] rfl rfl rfl (by simp)
  go_enter Tryd.func24, Tryd.ntmps24
  go_wp2_with (go_at_call 28; (with_reducible refine (hp.out _).mono ?_); rintro e w1 ⟨rfl, hb⟩)
  go_ret
  exact ⟨rfl, hb.trans (Gr.alloc _ _)⟩
set_option maxRecDepth 100000 in
set_option maxHeartbeats 4000000 in
theorem byte_45 (w : World) : Calls Tryd.prog 24 #[.int .u8 45] w fun e w' => e = .returned (.string (st [92, 45])) ∧ Gr w w' := by
  have hp : ∀ w' : World, Calls Tryd.prog 28 #[.int .u8 45] w' fun e w'' => e = .returned (.tuple #[.string { data := #[] }, .bool false]) ∧ Gr w' w'' := fun w' => plain_no 45 w' (by decide) (by decide) (by decide)
  have hp := Lib.hid hp
  have cv : ∀ w' : World, (convert 46 9 (.slice (some ⟨w'.heap.size, 0, none⟩) 1 1)).run Tryd.prog (w'.alloc (.cells #[.int .u8 45] 5)) = .ok (.string (st [45])) (w'.alloc (.cells #[.int .u8 45] 5)) :=
    fun w' => conv_one (P := Tryd.prog) w' 46 9 5 45 Tryd.underlying46 Tryd.underlying5 Tryd.underlying9 (by decide)
  have c1 := cat_is (P := Tryd.prog) { data := #[92] } (st [45]) (st [92, 45]) [92] [45] rfl rfl rfl (by simp)
  go_enter Tryd.func24, Tryd.ntmps24
  go_wp2_with (go_at_call 28; (with_reducible refine (hp.out _).mono ?_); rintro e w1 ⟨rfl, hb⟩)
  go_ret
  exact ⟨rfl, hb.trans (Gr.alloc _ _)⟩
set_option maxRecDepth 100000 in
set_option maxHeartbeats 4000000 in
theorem byte_94 (w : World) : Calls Tryd.prog 24 #[.int .u8 94] w fun e w' => e = .returned (.string (st [92, 94])) ∧ Gr w w' := by
  have hp : ∀ w' : World, Calls Tryd.prog 28 #[.int .u8 94] w' fun e w'' => e = .returned (.tuple #[.string { data := #[] }, .bool false]) ∧ Gr w' w'' := fun w' => plain_no 94 w' (by decide) (by decide) (by decide)
  have hp := Lib.hid hp
  have cv : ∀ w' : World, (convert 46 9 (.slice (some ⟨w'.heap.size, 0, none⟩) 1 1)).run Tryd.prog (w'.alloc (.cells #[.int .u8 94] 5)) = .ok (.string (st [94])) (w'.alloc (.cells #[.int .u8 94] 5)) :=
    fun w' => conv_one (P := Tryd.prog) w' 46 9 5 94 Tryd.underlying46 Tryd.underlying5 Tryd.underlying9 (by decide)
  have c1 := cat_is (P := Tryd.prog) { data := #[92] } (st [94]) (st [92, 94]) [92] [94] rfl rfl rfl (by simp)
  go_enter Tryd.func24, Tryd.ntmps24
  go_wp2_with (go_at_call 28; (with_reducible refine (hp.out _).mono ?_); rintro e w1 ⟨rfl, hb⟩)
  go_ret
  exact ⟨rfl, hb.trans (Gr.alloc _ _)⟩
set_option maxRecDepth 100000 in
set_option maxHeartbeats 4000000 in
theorem byte_38 (w : World) : Calls Tryd.prog 24 #[.int .u8 38] w fun e w' => e = .returned (.string (st [92, 38])) ∧ Gr w w' := by
  have hp : ∀ w' : World, Calls Tryd.prog 28 #[.int .u8 38] w' fun e w'' => e = .returned (.tuple #[.string { data := #[] }, .bool false]) ∧ Gr w' w'' := fun w' => plain_no 38 w' (by decide) (by decide) (by decide)
  have hp := Lib.hid hp
  have cv : ∀ w' : World, (convert 46 9 (.slice (some ⟨w'.heap.size, 0, none⟩) 1 1)).run Tryd.prog (w'.alloc (.cells #[.int .u8 38] 5)) = .ok (.string (st [38])) (w'.alloc (.cells #[.int .u8 38] 5)) :=
    fun w' => conv_one (P := Tryd.prog) w' 46 9 5 38 Tryd.underlying46 Tryd.underlying5 Tryd.underlying9 (by decide)
  have c1 := cat_is (P := Tryd.prog) { data := #[92] } (st [38]) (st [92, 38]) [92] [38] rfl rfl rfl (by simp)
  go_enter Tryd.func24, Tryd.ntmps24
  go_wp2_with (go_at_call 28; (with_reducible refine (hp.out _).mono ?_); rintro e w1 ⟨rfl, hb⟩)
  go_ret
  exact ⟨rfl, hb.trans (Gr.alloc _ _)⟩
set_option maxRecDepth 100000 in
set_option maxHeartbeats 4000000 in
theorem byte_plain (n : Nat) (w : World) (h1 : 33 ≤ (n : Int)) (h2 : (n : Int) ≤ 126) (a1 : ((n : Int) == 92) = false) (a2 : ((n : Int) == 91) = false) (a3 : ((n : Int) == 93) = false) (a4 : ((n : Int) == 45) = false) (a5 : ((n : Int) == 94) = false) (a6 : ((n : Int) == 38) = false) :
    Calls Tryd.prog 24 #[.int .u8 (n : Int)] w fun e w' => e = .returned (.string (st [UInt8.ofNat n])) ∧ Gr w w' := by
  have hn : n < 256 := by omega
  have e10 : ((n : Int) == 10) = false := by simp; omega
  have e9 : ((n : Int) == 9) = false := by simp; omega
  have e13 : ((n : Int) == 13) = false := by simp; omega
  have hp := Lib.hid (fun w' => plain_no n w' e10 e9 e13)
  have cv := fun w' => conv_one (P := Tryd.prog) w' 46 9 5 n Tryd.underlying46 Tryd.underlying5 Tryd.underlying9 hn
  obtain ⟨x, hx⟩ : ∃ x, UInt8.ofNat n = x := ⟨_, rfl⟩
  rw [hx] at cv ⊢
  clear e10 e9 e13 hn hx
  go_enter Tryd.func24, Tryd.ntmps24
  go_wp2_with (go_at_call 28; (with_reducible refine (hp.out _).mono ?_); rintro e w1 ⟨rfl, hb⟩)
  go_ret
  exact ⟨rfl, hb.trans (Gr.alloc _ _)⟩
set_option maxRecDepth 100000 in
set_option maxHeartbeats 4000000 in
theorem byte_hex (n q r : Nat) (w : World) (hn : (n : Int) < 256) (h : ¬ 33 ≤ (n : Int) ∨ ¬ (n : Int) ≤ 126) (hq : (n : Int) / 16 = (q : Int)) (hr : (n : Int) % 16 = (r : Int)) (e10 : ((n : Int) == 10) = false) (e9 : ((n : Int) == 9) = false) (e13 : ((n : Int) == 13) = false) :
    Calls Tryd.prog 24 #[.int .u8 (n : Int)] w fun e w' => e = .returned (.string (st [92, 120, hexD q, hexD r])) ∧ Gr w w' := by
  have hp := Lib.hid (fun w' => plain_no n w' e10 e9 e13)
  have hh := Lib.hid (fun w' => hex_any n q r w' hn hq hr)
  have a1 : ((n : Int) == 92) = false := by simp; omega
  have a2 : ((n : Int) == 91) = false := by simp; omega
  have a3 : ((n : Int) == 93) = false := by simp; omega
  have a4 : ((n : Int) == 45) = false := by simp; omega
  have a5 : ((n : Int) == 94) = false := by simp; omega
  have a6 : ((n : Int) == 38) = false := by simp; omega
  clear e10 e9 e13 hq hr
  go_enter Tryd.func24, Tryd.ntmps24
  go_wp2_with (first | (go_at_call 28; (with_reducible refine (hp.out _).mono ?_); rintro e w1 ⟨rfl, hb⟩) | (go_at_call 29; (with_reducible refine (hh.out _).mono ?_); rintro e w2 ⟨rfl, hb2⟩))
  all_goals go_ret
  all_goals exact ⟨rfl, hb.trans hb2⟩
/-- A byte's text, by the document. -/
theorem byte_any (c : UInt8) (w : World) : Calls Tryd.prog 24 #[.int .u8 (c.toNat : Int)] w fun e w' => e = .returned (.string (st (wrT c))) ∧ Gr w w' := by
  have hc := c.toNat_lt
  have eq : ∀ k, k < 256 → ¬ c.toNat = k → ¬ c = UInt8.ofNat k := fun k hk h e => h ((u8_eq c k hk).1 e)
  unfold wrT wr
  by_cases h10 : c.toNat = 10
  · rw [if_pos (show c = 10 from (u8_eq c 10 (by omega)).2 h10), h10]; exact byte_10 _
  rw [if_neg (show ¬ c = 10 from eq 10 (by omega) h10)]
  by_cases h9 : c.toNat = 9
  · rw [if_pos (show c = 9 from (u8_eq c 9 (by omega)).2 h9), h9]; exact byte_9 _
  rw [if_neg (show ¬ c = 9 from eq 9 (by omega) h9)]
  by_cases h13 : c.toNat = 13
  · rw [if_pos (show c = 13 from (u8_eq c 13 (by omega)).2 h13), h13]; exact byte_13 _
  rw [if_neg (show ¬ c = 13 from eq 13 (by omega) h13)]
  by_cases hh : c.toNat < 33 ∨ 126 < c.toNat
  · rw [if_pos hh]
    exact byte_hex c.toNat _ _ w (by omega) (by omega) (by omega) (by omega) (by simp; omega) (by simp; omega) (by simp; omega)
  rw [if_neg hh]
  have hm : c ∈ marksT ↔ (c.toNat = 92 ∨ c.toNat = 91 ∨ c.toNat = 93 ∨ c.toNat = 45 ∨ c.toNat = 94 ∨ c.toNat = 38) := by
    simp only [marksT, List.mem_cons, List.not_mem_nil, or_false]
    rw [← u8_eq c 92 (by omega), ← u8_eq c 91 (by omega), ← u8_eq c 93 (by omega), ← u8_eq c 45 (by omega), ← u8_eq c 94 (by omega), ← u8_eq c 38 (by omega)]
    rfl
  by_cases h : c ∈ marksT
  · rw [if_pos h]
    have hc2 := hm.1 h
    rcases hc2 with h2 | h2 | h2 | h2 | h2 | h2
    · rw [h2, show c = 92 from (u8_eq c 92 (by omega)).2 h2]; exact byte_92 w
    · rw [h2, show c = 91 from (u8_eq c 91 (by omega)).2 h2]; exact byte_91 w
    · rw [h2, show c = 93 from (u8_eq c 93 (by omega)).2 h2]; exact byte_93 w
    · rw [h2, show c = 45 from (u8_eq c 45 (by omega)).2 h2]; exact byte_45 w
    · rw [h2, show c = 94 from (u8_eq c 94 (by omega)).2 h2]; exact byte_94 w
    · rw [h2, show c = 38 from (u8_eq c 38 (by omega)).2 h2]; exact byte_38 w
  · rw [if_neg h]
    have hm2 : ¬ (c.toNat = 92 ∨ c.toNat = 91 ∨ c.toNat = 93 ∨ c.toNat = 45 ∨ c.toNat = 94 ∨ c.toNat = 38) := fun h' => h (hm.2 h')
    simp only [not_or] at hm2
    have := byte_plain c.toNat w (by omega) (by omega) (by simp; omega) (by simp; omega) (by simp; omega) (by simp; omega) (by simp; omega) (by simp; omega)
    rw [UInt8.ofNat_toNat] at this; exact this

end Go.Proofs.YtihjmeoklbmnmaaDoor

/- bolterref1: Spans; the longest rows of neighbours are one. No condition. -/
namespace Go.Proofs.YtihjmeoklbmnmaaDoor
open Go Go.RowKit

theorem Runs.last {acc : List Sp} {l : List UInt8} (h : Runs acc l) : ∀ p, acc.getLast? = some p → l.getLast? = some p.2 := by
  cases h with
  | nil => intro p h; simp at h
  | new acc l b _ _ => intro p h; simp at h; subst h; simp
  | ext acc q l b _ _ => intro p h; simp at h; subst h; simp
theorem Runs.empty {acc : List Sp} {l : List UInt8} (h : Runs acc l) : acc = [] → l = [] := by
  cases h with
  | nil => intro _; rfl
  | new acc l b _ _ => intro h; simp at h
  | ext acc q l b _ _ => intro h; simp at h
theorem Runs.back {r : List Sp} {l : List UInt8} (h : Runs r l) : (l = [] ∧ r = []) ∨ (∃ acc l' b, l = l' ++ [b] ∧ r = acc ++ [(b, b)] ∧ Runs acc l' ∧ ∀ p, acc.getLast? = some p → p.2.toNat + 2 ≤ b.toNat) ∨
    (∃ acc p l' b, l = l' ++ [b] ∧ r = acc ++ [(p.1, b)] ∧ Runs (acc ++ [p]) l' ∧ p.2.toNat + 1 = b.toNat) := by
  cases h with
  | nil => exact .inl ⟨rfl, rfl⟩
  | new acc l b h1 h2 => exact .inr (.inl ⟨acc, l, b, rfl, rfl, h1, h2⟩)
  | ext acc q l b h1 h2 => exact .inr (.inr ⟨acc, q, l, b, rfl, rfl, h1, h2⟩)
theorem snoc_inj {α : Type} {a b : List α} {x y : α} (h : a ++ [x] = b ++ [y]) : a = b ∧ x = y := by
  have := List.append_inj' h rfl
  exact ⟨this.1, by simpa using this.2⟩
theorem Runs.one {r : List Sp} {l : List UInt8} (h : Runs r l) : ∀ r', Runs r' l → r = r' := by
  induction h with
  | nil => intro r' h'; rcases h'.back with ⟨_, h⟩ | ⟨acc, l', b, e, _⟩ | ⟨acc, p, l', b, e, _⟩
           · exact h.symm
           · simp at e
           · simp at e
  | new acc l b h1 h2 ih =>
    intro r' h'
    rcases h'.back with ⟨e, _⟩ | ⟨acc', l', b', e, rfl, h3, _⟩ | ⟨acc', p, l', b', e, rfl, h3, h4⟩
    · simp at e
    · obtain ⟨rfl, rfl⟩ := snoc_inj e
      rw [ih _ h3]
    · obtain ⟨rfl, rfl⟩ := snoc_inj e
      have := ih _ h3
      have h5 := h2 p (by rw [this]; simp)
      omega
  | ext acc q l b h1 h2 ih =>
    intro r' h'
    rcases h'.back with ⟨e, _⟩ | ⟨acc', l', b', e, rfl, h3, h4⟩ | ⟨acc', p, l', b', e, rfl, h3, h4⟩
    · simp at e
    · obtain ⟨rfl, rfl⟩ := snoc_inj e
      have := ih _ h3
      have h5 := h4 q (by rw [← this]; simp)
      omega
    · obtain ⟨rfl, rfl⟩ := snoc_inj e
      have := ih _ h3
      obtain ⟨rfl, rfl⟩ := snoc_inj this
      rfl

/-- What the last span says of the byte below. -/
theorem runs_yes (s : BitVec 256) (k : Nat) (hk : k < 256) (r : List Sp) (h : Runs r (bytesTo s (k + 1))) (hy : s.getLsbD k = true) : ∃ q p, r = q ++ [p] ∧ p.2.toNat = k := by
  have h0 : bytesTo s (k + 1) = bytesTo s k ++ [UInt8.ofNat k] := bytesTo_yes s k hy
  rcases List.eq_nil_or_concat r with rfl | ⟨q, p, rfl⟩
  · have := h.empty rfl; rw [h0] at this; simp at this
  · rw [List.concat_eq_append] at h ⊢
    refine ⟨q, p, rfl, ?_⟩
    have := h.last p (by simp)
    rw [h0] at this; simp at this
    rw [← this, toNat_ofNat8 k hk]
theorem runs_no (s : BitVec 256) (k : Nat) (hk : k < 256) (r : List Sp) (h : Runs r (bytesTo s k)) (hy : k = 0 ∨ ∃ j, k = j + 1 ∧ s.getLsbD j = false) : ∀ p, r.getLast? = some p → p.2.toNat + 2 ≤ k := by
  intro p hp
  have h1 := h.last p hp
  have h2 := (mem_bytesTo s k (by omega) p.2).1 (List.mem_of_getLast? h1)
  rcases hy with rfl | ⟨j, rfl, hj⟩
  · omega
  · rcases Nat.lt_or_ge p.2.toNat j with h3 | h3
    · omega
    · have : p.2.toNat = j := by omega
      rw [this, hj] at h2; exact absurd h2.2 (by simp)

set_option maxRecDepth 100000 in
set_option maxHeartbeats 4000000 in
theorem r1spans (s : BitVec 256) (w : World) : Calls Tryd.prog 23 #[.agg #[.int .u64 (wd s 0), .int .u64 (wd s 1), .int .u64 (wd s 2), .int .u64 (wd s 3)]] w (SomeSpans (bytesOf s) w) := by
  obtain ⟨i0, hi, hz0, hz1, hz2⟩ := info_parts info_span
  go_enter Tryd.func23, Tryd.ntmps23
  go_wp2_with fail
  go_loopw [3, 4] (fun v i wr => ∃ (k : Nat) (r : List Sp), k ≤ 256 ∧ i = .int .i64 (k : Int) ∧ Hid (Runs r (bytesTo s k)) ∧ wr.ownsRow (w.heap.size + 1) 53 2 v r.length (spsCells r) ∧ Gr w wr ∧ w.heap.size + 1 ≤ wr.heap.size ∧ boxAt wr w.heap.size [.int .u64 (wd s 0), .int .u64 (wd s 1), .int .u64 (wd s 2), .int .u64 (wd s 3)] ∧ (r = [] → v = .slice none 0 0)) (fun _ i _ => 256 - (intOf i).toNat)
  case atStart =>
    refine ⟨0, [], by omega, rfl, Lib.hid (by unfold bytesTo; exact .nil), World.ownsRow_nil _ _ _ _, Gr.alloc _ _, by simp, ?_, fun _ => rfl⟩
    exact boxAt.new [.int .u64 (wd s 0), .int .u64 (wd s 1), .int .u64 (wd s 2), .int .u64 (wd s 3)] 29 rfl
  case round =>
    obtain ⟨k, r, hk, rfl, HR, hown, hg, hz, xs, hnil⟩ := hrel
    by_cases hlt : k < 256
    · have hlI : (k : Int) < 256 := by omega
      have hl := bytesTo_len s k
      have hrl := HR.out.len
      have HL := Lib.hid hlt
      have HN := Lib.hid hnil
      obtain ⟨x, hx⟩ : ∃ x, s.getLsbD k = x := ⟨_, rfl⟩
      have HX := Lib.hid hx
      clear hlt hk hx hnil
      have c_s0 := xs.cell 0 _ rfl
      have c_s1 := xs.cell 1 _ rfl
      have c_s2 := xs.cell 2 _ rfl
      have c_s3 := xs.cell 3 _ rfl
      have m_s0 := xs.mark 0 _ rfl
      have m_s1 := xs.mark 1 _ rfl
      have m_s2 := xs.mark 2 _ rfl
      have m_s3 := xs.mark 3 _ rfl
      have l_s := xs.lt (Nat.succ_pos _)
      go_wp2_with fail
      clear c_s0 c_s1 c_s2 c_s3 m_s0 m_s1 m_s2 m_s3 l_s
      go_at_call 39
      refine (r1has s k x _ HL.out HX.out).mono ?_; rintro e w1 ⟨rfl, hb⟩
      replace xs := xs.later hb
      replace hown := owns_later hown hb
      have hs1 : w.heap.size + 1 ≤ w1.heap.size := by have := hb.size; omega
      replace hg := hg.trans hb
      clear hb hz
      cases x
      · have HB := Lib.hid (bytesTo_no s k HX.out)
        go_wp2_with fail
        go_roundw
        case rel => exact ⟨k + 1, r, by have := HL.out; omega, by go_num, by rw [HB.out]; exact HR, hown, hg, hs1, xs, HN.out⟩
        case measure => have := HL.out; simp [intOf]; omega
      · have HB := Lib.hid (bytesTo_yes s k HX.out)
        have c_s0 := xs.cell 0 _ rfl
        have c_s1 := xs.cell 1 _ rfl
        have c_s2 := xs.cell 2 _ rfl
        have c_s3 := xs.cell 3 _ rfl
        have m_s0 := xs.mark 0 _ rfl
        have m_s1 := xs.mark 1 _ rfl
        have m_s2 := xs.mark 2 _ rfl
        have m_s3 := xs.mark 3 _ rfl
        have l_s := xs.lt (Nat.succ_pos _)
        by_cases hk0 : k = 0
        · have hk0N : ¬ 0 < k := by omega
          have hk0I : ¬ (0 : Int) < (k : Int) := by omega
          have HK0 := Lib.hid hk0
          clear hk0
          go_wp2_with (at_builtin; refine wpList_append_own _ rfl (.tmp 29) (.tmp 35) 50 rfl (w.heap.size + 1) 53 i0 (.agg #[.int .u8 0, .int .u8 0]) 2 2 Tryd.underlying50 hi hz0 hz1 hz2 rfl (by decide) _ _ _ rfl (hown.alloc _) ⟨w1.heap.size, 0, none⟩ 1 1 [.int .u8 (k : Int), .int .u8 (k : Int)] rfl rfl ?c1 ?c2 ?c3 ?c4 ?c5 ?_)
          case c1 => exact new2_cells _ _ _ _
          case c2 => exact two_one _ _
          case c3 => unfold maxLen; omega
          case c4 => omega
          case c5 => simp; omega
          intro v' w3 hown2 hgrow _
          have hne : ∀ b, u3.ownBlock = some b → w.heap.size + 1 ≤ b := fun b hb => (World.ownsRow.lt hown b hb).1
          have R1 : Gr w w3 := Gr.grown (hg.trans (Gr.alloc _ _)) hgrow (fun b hb => by have := hne b hb; omega)
          have R2 := (xs.later (Gr.alloc w1 (.cells #[.int .u8 (k : Int), .int .u8 (k : Int)] 53))).grown hgrow (by simp) (fun e => by have := hne _ e; omega)
          have R3 := hgrow.size
          have R4 : w3.ownsRow (w.heap.size + 1) 53 2 v' (r ++ [(UInt8.ofNat k, UInt8.ofNat k)]).length (spsCells (r ++ [(UInt8.ofNat k, UInt8.ofNat k)])) := by
            rw [spsCells_snoc, List.length_append]
            have : vB (UInt8.ofNat k) = .int .u8 (k : Int) := by unfold vB; rw [UInt8.toNat_ofNat_of_lt' HL.out]
            rw [this]; exact hown2
          have R5 : w.heap.size + 1 ≤ w3.heap.size := by simp at R3; omega
          clear hown2 hgrow hown hne R3
          go_wp2_with fail
          go_roundw
          case rel =>
            refine ⟨k + 1, r ++ [(UInt8.ofNat k, UInt8.ofNat k)], by have := HL.out; omega, by go_num, ?_, R4, R1, R5, R2, fun h => by simp at h⟩
            rw [HB.out]
            refine Lib.hid (.new _ _ _ HR.out ?_)
            rw [toNat_ofNat8 k HL.out]
            exact runs_no s k HL.out r HR.out (.inl HK0.out)
          case measure => have := HL.out; simp [intOf]; omega
        · obtain ⟨j, hj⟩ : ∃ j, k = j + 1 := ⟨k - 1, by omega⟩
          have hk0N : 0 < k := by omega
          have hk0I : (0 : Int) < (k : Int) := by omega
          have HJ := Lib.hid hj
          have ek : IntKind.i64.wrap ((k : Int) - 1) = (j : Int) := by rw [IntWalk.i64_in _ (by omega)]; omega
          obtain ⟨y, hy⟩ : ∃ y, s.getLsbD j = y := ⟨_, rfl⟩
          have HY := Lib.hid hy
          clear hk0 hj hy
          go_wp2_with fail
          clear c_s0 c_s1 c_s2 c_s3 m_s0 m_s1 m_s2 m_s3 l_s
          go_at_call 39
          refine (r1has s j y _ (by have := HJ.out; have := HL.out; omega) HY.out).mono ?_; rintro e w2 ⟨rfl, hb⟩
          replace xs := xs.later hb
          replace hown := owns_later hown hb
          have hs2 : w.heap.size + 1 ≤ w2.heap.size := by have := hb.size; omega
          replace hg := hg.trans hb
          clear hb hs1 ek
          cases y
          · skip
            go_wp2_with (at_builtin; refine wpList_append_own _ rfl (.tmp 29) (.tmp 35) 50 rfl (w.heap.size + 1) 53 i0 (.agg #[.int .u8 0, .int .u8 0]) 2 2 Tryd.underlying50 hi hz0 hz1 hz2 rfl (by decide) _ _ _ rfl (hown.alloc _) ⟨w2.heap.size, 0, none⟩ 1 1 [.int .u8 (k : Int), .int .u8 (k : Int)] rfl rfl ?c1 ?c2 ?c3 ?c4 ?c5 ?_)
            case c1 => exact new2_cells _ _ _ _
            case c2 => exact two_one _ _
            case c3 => unfold maxLen; omega
            case c4 => omega
            case c5 => simp; omega
            intro v' w3 hown2 hgrow _
            have hne : ∀ b, u3.ownBlock = some b → w.heap.size + 1 ≤ b := fun b hb => (World.ownsRow.lt hown b hb).1
            have R1 : Gr w w3 := Gr.grown (hg.trans (Gr.alloc _ _)) hgrow (fun b hb => by have := hne b hb; omega)
            have R2 := (xs.later (Gr.alloc w2 (.cells #[.int .u8 (k : Int), .int .u8 (k : Int)] 53))).grown hgrow (by simp) (fun e => by have := hne _ e; omega)
            have R3 := hgrow.size
            have R4 : w3.ownsRow (w.heap.size + 1) 53 2 v' (r ++ [(UInt8.ofNat k, UInt8.ofNat k)]).length (spsCells (r ++ [(UInt8.ofNat k, UInt8.ofNat k)])) := by
              rw [spsCells_snoc, List.length_append]
              have : vB (UInt8.ofNat k) = .int .u8 (k : Int) := by unfold vB; rw [UInt8.toNat_ofNat_of_lt' HL.out]
              rw [this]; exact hown2
            have R5 : w.heap.size + 1 ≤ w3.heap.size := by simp at R3; omega
            clear hown2 hgrow hown hne R3
            go_wp2_with fail
            go_roundw
            case rel =>
              refine ⟨k + 1, r ++ [(UInt8.ofNat k, UInt8.ofNat k)], by have := HL.out; omega, by go_num, ?_, R4, R1, R5, R2, fun h => by simp at h⟩
              rw [HB.out]
              refine Lib.hid (.new _ _ _ HR.out ?_)
              rw [toNat_ofNat8 k HL.out]
              exact runs_no s k HL.out r HR.out (.inr ⟨j, HJ.out, HY.out⟩)
            case measure => have := HL.out; simp [intOf]; omega
          · obtain ⟨q, p, hrq, hpk⟩ := runs_yes s j (by have := HJ.out; have := HL.out; omega) r (by have := HR.out; rw [HJ.out] at this; exact this) HY.out
            subst hrq
            obtain ⟨g, cap, rfl, hBg, hgl, _⟩ := owns_block hown (by simp)
            have hl1 : (q ++ [p]).length = q.length + 1 := by simp
            rw [hl1] at hown hrl ⊢
            have c2 := owns_cell hown _ _ (spsCells_hi q p)
            have m2 := owns_mark hown (q.length * 2 + 1)
            obtain ⟨m, hm⟩ : ∃ m, q.length = m := ⟨_, rfl⟩
            have HO := Lib.hid hown
            have HM := Lib.hid hm
            have HP := Lib.hid hpk
            have HGB := Lib.hid hBg
            rw [hm] at c2 m2 hrl ⊢
            clear hown hm hpk hBg hl1
            unfold vB at c2
            have hmI : (m : Int) + 1 ≤ 256 := by have := HL.out; omega
            have em : IntKind.i64.wrap ((m : Int) + 1 - 1) = (m : Int) := by rw [IntWalk.i64_in _ (by omega)]; omega
            go_wp2_with fail
            go_roundw
            case rel =>
              refine ⟨k + 1, q ++ [(p.1, UInt8.ofNat k)], by have := HL.out; omega, by go_num, ?_, ?_, Below.setCell hg (by have := HGB.out; show _ ≤ g; omega) _, by simpa [World.setCell] using hs2, xs.far _ _ (by have := HGB.out; show g ≠ _; omega), fun h => by simp at h⟩
              · rw [HB.out]
                exact Lib.hid (.ext _ _ _ _ HR.out (by rw [toNat_ofNat8 k HL.out, HP.out, HJ.out]))
              · have := owns_set HO.out (q.length * 2 + 1) (by rw [spsCells_length, List.length_append, List.length_singleton]; omega) (vB (UInt8.ofNat k))
                rw [spsCells_setHi] at this
                rw [List.length_append, HM.out]
                unfold vB at this
                rw [toNat_ofNat8 k HL.out, HM.out] at this
                exact this
            case measure => have := HL.out; simp [intOf]; omega
    · obtain rfl : k = 256 := by omega
      have R := owns_base (B' := w.heap.size) hown (by omega)
      have HN := Lib.hid hnil
      clear hlt hown hnil
      go_wp2_with fail
      go_ret
      exact ⟨_, r, rfl, HR.out, R, hg, HN.out⟩

end Go.Proofs.YtihjmeoklbmnmaaDoor

/- bolterref3: Text. No condition. -/
namespace Go.Proofs.YtihjmeoklbmnmaaDoor
open Go Go.RowKit

set_option maxRecDepth 100000 in
set_option maxHeartbeats 4000000 in
theorem refText_any (s : BitVec 256) (w : World) : Calls Tryd.prog 9 #[.agg #[.int .u64 (wd s 0), .int .u64 (wd s 1), .int .u64 (wd s 2), .int .u64 (wd s 3)]] w fun e w' => ∃ r, Runs r (bytesOf s) ∧ e = .returned (.string (st (textL r))) ∧ Gr w w' := by
  go_enter Tryd.func9, Tryd.ntmps9
  go_wp2_with fail
  go_at_call 23
  refine (r1spans s _).mono ?_; rintro e w1 ⟨vs, r, rfl, hR, hs, hb, hnil⟩
  have hgw : Gr w w1 := (Gr.alloc _ _).trans hb
  have hrl : r.length ≤ 256 := Nat.le_trans hR.len (bytesTo_len s 256)
  have HR := Lib.hid hR
  obtain ⟨p0, c0, rfl⟩ := (Sl.of_owns hs).len
  have HS := Lib.hid hs
  clear hR hs hb hnil
  have hrI : (r.length : Int) ≤ 256 := by omega
  go_wp2_with fail
  go_loopw [3, 5] (fun b i wr => ∃ k : Nat, k ≤ r.length ∧ i = .int .i64 k ∧ b = .string (st (91 :: bodyL (r.take k))) ∧ Gr w1 wr) (fun _ i _ => r.length - (intOf i).toNat)
  case atStart => exact ⟨0, by omega, rfl, rfl, Gr.refl _⟩
  case round =>
    obtain ⟨k, hk, rfl, rfl, hg⟩ := hrel
    by_cases hlt : k < r.length
    · obtain ⟨g, cap, he, _, hgl, _⟩ := owns_block HS.out (by omega)
      simp only [Value.slice.injEq] at he
      obtain ⟨rfl, _, rfl⟩ := he
      obtain ⟨⟨a, b⟩, hp⟩ : ∃ x, r[k]? = some x := ⟨_, List.getElem?_eq_getElem hlt⟩
      obtain ⟨d1, d2⟩ := span_cell HS.out k _ hp
      have c1 := hg.cell d1
      have c2 := hg.cell d2
      have hgr : g < wr.heap.size := by have := hg.size; omega
      have hle : a.toNat ≤ b.toNat := (HR.out.mem _ (List.mem_of_getElem? hp)).1
      have ha := a.toNat_lt
      have hb := b.toNat_lt
      obtain ⟨acc, hacc⟩ : ∃ acc, 91 :: bodyL (r.take k) = acc := ⟨_, rfl⟩
      rw [hacc]
      have hal : acc.length ≤ 3000 := by
        rw [← hacc]
        have := bodyL_len (r.take k)
        rw [List.length_take] at this
        simp only [List.length_cons]; omega
      have hnext : 91 :: bodyL (r.take (k + 1)) = acc ++ spanL (a, b) := by
        rw [← hacc, List.take_add_one, hp]
        simp only [Option.toList_some, bodyL_snoc, List.cons_append]
      have hkI : (k : Int) < (r.length : Int) := by omega
      unfold vB at c1 c2 d1 d2
      simp only at c1 c2 d1 d2
      have ex : IntKind.i64.wrap (a.toNat : Int) = (a.toNat : Int) := IntWalk.i64_in _ (by omega)
      have ey : IntKind.i64.wrap (b.toNat : Int) = (b.toNat : Int) := IntWalk.i64_in _ (by omega)
      have ez : IntKind.i64.wrap ((a.toNat : Int) + 1) = (a.toNat : Int) + 1 := IntWalk.i64_in _ (by omega)
      have l1 := wr_len a 33 marksT
      have l2 := wr_len b 33 marksT
      have e1 := cats (P := Tryd.prog) acc (wrT a) (by unfold wrT; omega)
      have e2 := cat_is (P := Tryd.prog) (st (acc ++ wrT a)) { data := #[45] } (st (acc ++ wrT a ++ [45])) _ [45] rfl rfl rfl (by rw [List.length_append]; unfold wrT; simp; omega)
      have e3 := cats (P := Tryd.prog) (acc ++ wrT a ++ [45]) (wrT b) (by rw [List.length_append, List.length_append]; unfold wrT; simp; omega)
      have e4 := cats (P := Tryd.prog) (acc ++ wrT a) (wrT b) (by rw [List.length_append]; unfold wrT; omega)
      obtain ⟨x3, hx3⟩ : ∃ x, acc ++ wrT a ++ [45] ++ wrT b = x := ⟨_, rfl⟩
      rw [hx3] at e3
      obtain ⟨x2, hx2⟩ : ∃ x, acc ++ wrT a ++ [45] = x := ⟨_, rfl⟩
      rw [hx2] at e2 e3 hx3
      obtain ⟨x4, hx4⟩ : ∃ x, acc ++ wrT a ++ wrT b = x := ⟨_, rfl⟩
      rw [hx4] at e4
      obtain ⟨x1, hx1⟩ : ∃ x, acc ++ wrT a = x := ⟨_, rfl⟩
      rw [hx1] at e1 e2 e4 hx2 hx4
      have HX := Lib.hid (show acc ++ wrT a = x1 ∧ acc ++ (wrT a ++ ([45] ++ wrT b)) = x3 ∧ acc ++ (wrT a ++ wrT b) = x4 from ⟨hx1, by rw [← hx3, ← hx2, ← hx1]; simp, by rw [← hx4, ← hx1, List.append_assoc]⟩)
      clear hx1 hx2 hx3 hx4
      have HN := Lib.hid hnext
      have HLT := Lib.hid hlt
      have h3 : a.toNat + 1 < b.toNat ∨ a.toNat + 1 = b.toNat ∨ a.toNat = b.toNat := by omega
      have H3 := Lib.hid h3
      clear h3 hal hnext hacc hlt l1 l2 hp hrl
      go_wp2_with (go_at_call 24; (with_reducible refine (byte_any _ _).mono ?_); rintro e w2 ⟨rfl, hq⟩)
      have hg2 := hg.trans hq
      have f1 := hq.cell c1
      have f2 := hq.cell c2
      have hgr2 : g < w2.heap.size := by have := hq.size; omega
      rcases H3.out with h3 | h3 | h3
      · have h4 : (a.toNat : Int) + 1 < (b.toNat : Int) := by omega
        have h5 : (a.toNat : Int) < (b.toNat : Int) := by omega
        have h6 : a.toNat < b.toNat := by omega
        have hsp : spanL (a, b) = wrT a ++ ([45] ++ wrT b) := by unfold spanL; simp only; rw [if_pos h3, if_pos h6]
        have HSP := Lib.hid hsp
        clear hsp h3 hle ha hb
        refine wp_region_G (.take 0 (.take 1 (.take 2 (.take 3 (.take 4 (.take 5 (.take 6 (.take 7 (.take 8 (.take 9 (.take 10 (.take 11 (.take 12 (.take 13 .nil)))))))))))))) (by kernel_rfl) (by kernel_rfl) ?_
        simp only [pickOps, nthOp]
        intro wq hG
        repeat (first | (refine wpG_skip_take ?_ ?_; (focus rfl); try simp only [Act.put, List.setIfInBounds_toArray, List.set_cons_zero, List.set_cons_succ]) | (refine wpG_skip_run ?_ ?_; (focus rfl); try simp only [Act.put, List.setIfInBounds_toArray, List.set_cons_zero, List.set_cons_succ]) | (refine wpG_take ?_ ?_; (focus rfl); apply Exists.intro; refine ⟨fun w' hw' => ?_, ?_⟩; (focus (have hc := Gr.cells hw'; go_simp; (try rfl); done)); try simp only [Act.put, List.setIfInBounds_toArray, List.set_cons_zero, List.set_cons_succ]))
        refine wpG_done ?_
        have hg4 := hg2.trans hG
        have f3 := hG.cell f1
        have f4 := hG.cell f2
        have hgr4 : g < wq.heap.size := by have := hG.size; omega
        clear hG
        go_wp2_with fail
        refine wp_region_G (.take 0 (.take 1 (.take 2 (.take 3 (.take 4 (.take 5 (.take 6 (.take 7 (.take 8 (.take 9 (.take 10 .nil))))))))))) (by kernel_rfl) (by kernel_rfl) ?_
        simp only [pickOps, nthOp]
        intro wq hG
        repeat (first | (refine wpG_skip_take ?_ ?_; (focus rfl); try simp only [Act.put, List.setIfInBounds_toArray, List.set_cons_zero, List.set_cons_succ]) | (refine wpG_skip_run ?_ ?_; (focus rfl); try simp only [Act.put, List.setIfInBounds_toArray, List.set_cons_zero, List.set_cons_succ]) | (refine wpG_take ?_ ?_; (focus rfl); apply Exists.intro; refine ⟨fun w' hw' => ?_, ?_⟩; (focus (have hc := Gr.cells hw'; go_simp; (try rfl); done)); try simp only [Act.put, List.setIfInBounds_toArray, List.set_cons_zero, List.set_cons_succ]))
        refine wpG_done ?_
        have hg5 := hg4.trans hG
        have f5 := hG.cell f3
        have f6 := hG.cell f4
        have hgr5 : g < wq.heap.size := by have := hG.size; omega
        clear hG
        go_wp2_with (go_at_call 24; (with_reducible refine (byte_any _ _).mono ?_); rintro e w6 ⟨rfl, hq6⟩)
        go_roundw
        case rel => exact ⟨k + 1, by have := HLT.out; omega, by go_num, by rw [HN.out, HSP.out, HX.out.2.1], hg5.trans hq6⟩
        case measure => have := HLT.out; simp [intOf]; omega
      · have h4 : ¬ (a.toNat : Int) + 1 < (b.toNat : Int) := by omega
        have h5 : (a.toNat : Int) < (b.toNat : Int) := by omega
        have h6 : a.toNat < b.toNat := by omega
        have hsp : spanL (a, b) = wrT a ++ wrT b := by unfold spanL; simp only; rw [if_neg (by omega), if_pos h6]; rfl
        have HSP := Lib.hid hsp
        clear hsp h3 hle ha hb
        refine wp_region_G (.take 0 (.take 1 (.take 2 (.take 3 (.take 4 (.take 5 (.take 6 (.take 7 (.take 8 (.take 9 (.take 10 (.take 11 (.take 12 (.take 13 .nil)))))))))))))) (by kernel_rfl) (by kernel_rfl) ?_
        simp only [pickOps, nthOp]
        intro wq hG
        repeat (first | (refine wpG_skip_take ?_ ?_; (focus rfl); try simp only [Act.put, List.setIfInBounds_toArray, List.set_cons_zero, List.set_cons_succ]) | (refine wpG_skip_run ?_ ?_; (focus rfl); try simp only [Act.put, List.setIfInBounds_toArray, List.set_cons_zero, List.set_cons_succ]) | (refine wpG_take ?_ ?_; (focus rfl); apply Exists.intro; refine ⟨fun w' hw' => ?_, ?_⟩; (focus (have hc := Gr.cells hw'; go_simp; (try rfl); done)); try simp only [Act.put, List.setIfInBounds_toArray, List.set_cons_zero, List.set_cons_succ]))
        refine wpG_done ?_
        have hg4 := hg2.trans hG
        have f3 := hG.cell f1
        have f4 := hG.cell f2
        have hgr4 : g < wq.heap.size := by have := hG.size; omega
        clear hG
        go_wp2_with fail
        refine wp_region_G (.take 0 (.take 1 (.take 2 (.take 3 (.take 4 (.take 5 (.take 6 (.take 7 (.take 8 (.take 9 (.take 10 .nil))))))))))) (by kernel_rfl) (by kernel_rfl) ?_
        simp only [pickOps, nthOp]
        intro wq hG
        repeat (first | (refine wpG_skip_take ?_ ?_; (focus rfl); try simp only [Act.put, List.setIfInBounds_toArray, List.set_cons_zero, List.set_cons_succ]) | (refine wpG_skip_run ?_ ?_; (focus rfl); try simp only [Act.put, List.setIfInBounds_toArray, List.set_cons_zero, List.set_cons_succ]) | (refine wpG_take ?_ ?_; (focus rfl); apply Exists.intro; refine ⟨fun w' hw' => ?_, ?_⟩; (focus (have hc := Gr.cells hw'; go_simp; (try rfl); done)); try simp only [Act.put, List.setIfInBounds_toArray, List.set_cons_zero, List.set_cons_succ]))
        refine wpG_done ?_
        have hg5 := hg4.trans hG
        have f5 := hG.cell f3
        have f6 := hG.cell f4
        have hgr5 : g < wq.heap.size := by have := hG.size; omega
        clear hG
        go_wp2_with (go_at_call 24; (with_reducible refine (byte_any _ _).mono ?_); rintro e w6 ⟨rfl, hq6⟩)
        go_roundw
        case rel => exact ⟨k + 1, by have := HLT.out; omega, by go_num, by rw [HN.out, HSP.out, HX.out.2.2], hg5.trans hq6⟩
        case measure => have := HLT.out; simp [intOf]; omega
      · obtain rfl : a = b := UInt8.toNat_inj.1 h3
        have hsp : spanL (a, a) = wrT a := by unfold spanL; simp
        have HSP := Lib.hid hsp
        have h4 : ¬ (a.toNat : Int) + 1 < (a.toNat : Int) := by omega
        clear hsp h3 hle ha hb
        refine wp_region_G (.take 0 (.take 1 (.take 2 (.take 3 (.take 4 (.take 5 (.take 6 (.take 7 (.take 8 (.take 9 (.take 10 (.take 11 (.take 12 (.take 13 .nil)))))))))))))) (by kernel_rfl) (by kernel_rfl) ?_
        simp only [pickOps, nthOp]
        intro wq hG
        repeat (first | (refine wpG_skip_take ?_ ?_; (focus rfl); try simp only [Act.put, List.setIfInBounds_toArray, List.set_cons_zero, List.set_cons_succ]) | (refine wpG_skip_run ?_ ?_; (focus rfl); try simp only [Act.put, List.setIfInBounds_toArray, List.set_cons_zero, List.set_cons_succ]) | (refine wpG_take ?_ ?_; (focus rfl); apply Exists.intro; refine ⟨fun w' hw' => ?_, ?_⟩; (focus (have hc := Gr.cells hw'; go_simp; (try rfl); done)); try simp only [Act.put, List.setIfInBounds_toArray, List.set_cons_zero, List.set_cons_succ]))
        refine wpG_done ?_
        have hg4 := hg2.trans hG
        have f3 := hG.cell f1
        have f4 := hG.cell f2
        have hgr4 : g < wq.heap.size := by have := hG.size; omega
        clear hG
        go_wp2_with fail
        refine wp_region_G (.take 0 (.take 1 (.take 2 (.take 3 (.take 4 (.take 5 (.take 6 (.take 7 (.take 8 (.take 9 (.take 10 .nil))))))))))) (by kernel_rfl) (by kernel_rfl) ?_
        simp only [pickOps, nthOp]
        intro wq hG
        repeat (first | (refine wpG_skip_take ?_ ?_; (focus rfl); try simp only [Act.put, List.setIfInBounds_toArray, List.set_cons_zero, List.set_cons_succ]) | (refine wpG_skip_run ?_ ?_; (focus rfl); try simp only [Act.put, List.setIfInBounds_toArray, List.set_cons_zero, List.set_cons_succ]) | (refine wpG_take ?_ ?_; (focus rfl); apply Exists.intro; refine ⟨fun w' hw' => ?_, ?_⟩; (focus (have hc := Gr.cells hw'; go_simp; (try rfl); done)); try simp only [Act.put, List.setIfInBounds_toArray, List.set_cons_zero, List.set_cons_succ]))
        refine wpG_done ?_
        have hg5 := hg4.trans hG
        have f5 := hG.cell f3
        have f6 := hG.cell f4
        have hgr5 : g < wq.heap.size := by have := hG.size; omega
        clear hG
        go_wp2_with fail
        go_roundw
        case rel => exact ⟨k + 1, by have := HLT.out; omega, by go_num, by rw [HN.out, HSP.out, HX.out.1], hg5⟩
        case measure => have := HLT.out; simp [intOf]; omega
    · have hkr : k = r.length := by omega
      have hfull : 91 :: bodyL (r.take k) = 91 :: bodyL r := by rw [hkr, List.take_length]
      rw [hfull]
      have hl := bodyL_len r
      have e1 := cat_is (P := Tryd.prog) (st (91 :: bodyL r)) { data := #[93] } (st (textL r)) (91 :: bodyL r) [93] rfl rfl rfl (by rw [List.length_cons, List.length_cons, List.length_nil]; omega)
      clear hfull hl hlt hk
      subst hkr
      go_wp2_with fail
      go_ret
      exact ⟨r, HR.out, rfl, hgw.trans hg⟩

theorem slice_one {P : Program} (w : World) (t : TypeId) (l : List UInt8) (k : Nat) (c : UInt8) (ht : P.underlying t = some .string) (hc : l[k]? = some c) :
    (Instr.slice t (.string (st l)) (some (.int .i64 (k : Int))) (some (.int .i64 ((k : Int) + 1))) none).run P w = .ok (.string (st [c])) w := by
  obtain ⟨hl, rfl⟩ := List.getElem?_eq_some_iff.1 hc
  have h := run_slice_string (P := P) w t (st l) .i64 .i64 (k : Int) ((k : Int) + 1) ht (by omega) (by omega) (by rw [st_size]; omega)
  rw [show ((k : Int) + 1).toNat = k + 1 by omega, Int.toNat_natCast, st_extract, show k + 1 - k = 1 by omega] at h
  rw [h]
  congr 3
  rw [List.drop_eq_getElem_cons hl]; rfl

theorem wrQ_10 (c : UInt8) (h : c.toNat = 10) : wrQ c = [92, 110] := by rw [show c = 10 from (u8_eq c 10 (by omega)).2 h]; rfl
theorem wrQ_9 (c : UInt8) (h : c.toNat = 9) : wrQ c = [92, 116] := by rw [show c = 9 from (u8_eq c 9 (by omega)).2 h]; rfl
theorem wrQ_13 (c : UInt8) (h : c.toNat = 13) : wrQ c = [92, 114] := by rw [show c = 13 from (u8_eq c 13 (by omega)).2 h]; rfl
theorem wrQ_rest (c : UInt8) (h10 : ¬ c.toNat = 10) (h9 : ¬ c.toNat = 9) (h13 : ¬ c.toNat = 13) : wrQ c = if c.toNat < 32 ∨ 126 < c.toNat then [92, 120, hexD (c.toNat / 16), hexD (c.toNat % 16)] else if c.toNat = 34 ∨ c.toNat = 92 then [92, c] else [c] := by
  have eq : ∀ k, k < 256 → ¬ c.toNat = k → ¬ c = UInt8.ofNat k := fun k hk h e => h ((u8_eq c k hk).1 e)
  unfold wrQ wr
  rw [if_neg (show ¬ c = 10 from eq 10 (by omega) h10), if_neg (show ¬ c = 9 from eq 9 (by omega) h9), if_neg (show ¬ c = 13 from eq 13 (by omega) h13)]
  have hm : c ∈ marksQ ↔ (c.toNat = 34 ∨ c.toNat = 92) := by
    simp only [marksQ, List.mem_cons, List.not_mem_nil, or_false]
    rw [← u8_eq c 34 (by omega), ← u8_eq c 92 (by omega)]; rfl
  simp only [hm]
set_option maxRecDepth 100000 in
set_option maxHeartbeats 8000000 in
theorem refQuote_any (l : List UInt8) (w : World) (hl : (l.length : Int) ≤ 1000000) : Calls Tryd.prog 11 #[.string (st l)] w fun e w' => e = .returned (.string (st (quoteL l))) ∧ Gr w w' := by
  have hsz := st_size l
  go_enter Tryd.func11, Tryd.ntmps11
  go_wp2_with fail
  go_loopw [3, 4] (fun b i wr => ∃ k : Nat, k ≤ l.length ∧ i = .int .i64 k ∧ b = .string (st (34 :: (l.take k).flatMap wrQ)) ∧ Gr w wr) (fun _ i _ => l.length - (intOf i).toNat)
  case atStart => exact ⟨0, by omega, rfl, rfl, Gr.refl _⟩
  case round =>
    obtain ⟨k, hk, rfl, rfl, hg⟩ := hrel
    by_cases hlt : k < l.length
    · obtain ⟨c, hc⟩ : ∃ x, l[k]? = some x := ⟨_, List.getElem?_eq_getElem hlt⟩
      have hix := fun w' => run_at (P := Tryd.prog) w' 9 l k c .i64 Tryd.underlying9 hc
      have hsl := fun w' => slice_one (P := Tryd.prog) w' 9 l k c Tryd.underlying9 hc
      have hkI : (k : Int) < (l.length : Int) := by omega
      have hwk : IntKind.i64.wrap ((k : Int) + 1) = (k : Int) + 1 := IntWalk.i64_in _ (by omega)
      have hn := wrQs_snoc l k c hc
      obtain ⟨acc, hacc⟩ : ∃ x, 34 :: (l.take k).flatMap wrQ = x := ⟨_, rfl⟩
      have hal : acc.length ≤ 5000000 := by
        have h1 := wrQs_len (l.take k)
        rw [List.length_take] at h1
        rw [← hacc, List.length_cons]; omega
      have hn2 : 34 :: (l.take (k + 1)).flatMap wrQ = acc ++ wrQ c := by rw [hn, ← hacc]; rfl
      rw [hacc]
      have HN := Lib.hid hn2
      have HLT := Lib.hid hlt
      have hc256 := c.toNat_lt
      have eq : ∀ k, k < 256 → ¬ c.toNat = k → ¬ c = UInt8.ofNat k := fun k hk h e => h ((u8_eq c k hk).1 e)
      have e1 := cats (P := Tryd.prog) acc (wrQ c) (by have := wr_len c 32 marksQ; unfold wrQ; omega)
      obtain ⟨y, hy⟩ : ∃ y, acc ++ wrQ c = y := ⟨_, rfl⟩
      have HY := Lib.hid hy
      rw [hy] at e1
      clear hn hn2 hacc hc hlt
      have fin : ∀ w2, Gr wr w2 → ∃ k' : Nat, k' ≤ l.length ∧ Value.int .i64 ((k : Int) + 1) = .int .i64 (k' : Int) ∧ Value.string (st y) = .string (st (34 :: (l.take k').flatMap wrQ)) ∧ Gr w w2 := fun w2 h2 =>
        ⟨k + 1, by have := HLT.out; omega, by simp, by rw [HN.out, HY.out], hg.trans h2⟩
      have FIN := Lib.hid fin
      clear fin
      by_cases h10 : c.toNat = 10
      · have he := wrQ_10 c h10
        rw [he] at e1
        rw [h10] at hix
        clear he hal eq hc256
        go_wp2_with (go_at_call 28; (with_reducible refine (plain_10 _).mono ?_); rintro e w2 ⟨rfl, hq⟩)
        go_roundw
        case rel => exact FIN.out _ hq
        case measure => have := HLT.out; simp [intOf]; omega
      by_cases h9 : c.toNat = 9
      · have he := wrQ_9 c h9
        rw [he] at e1
        rw [h9] at hix
        clear he hal eq hc256
        go_wp2_with (go_at_call 28; (with_reducible refine (plain_9 _).mono ?_); rintro e w2 ⟨rfl, hq⟩)
        go_roundw
        case rel => exact FIN.out _ hq
        case measure => have := HLT.out; simp [intOf]; omega
      by_cases h13 : c.toNat = 13
      · have he := wrQ_13 c h13
        rw [he] at e1
        rw [h13] at hix
        clear he hal eq hc256
        go_wp2_with (go_at_call 28; (with_reducible refine (plain_13 _).mono ?_); rintro e w2 ⟨rfl, hq⟩)
        go_roundw
        case rel => exact FIN.out _ hq
        case measure => have := HLT.out; simp [intOf]; omega
      have he := wrQ_rest c h10 h9 h13
      rw [he] at e1 hy
      have e10 : ((c.toNat : Int) == 10) = false := by simp; omega
      have e9 : ((c.toNat : Int) == 9) = false := by simp; omega
      have e13 : ((c.toNat : Int) == 13) = false := by simp; omega
      have hp := Lib.hid (fun w' => plain_no c.toNat w' e10 e9 e13)
      clear e10 e9 e13 he h10 h9 h13 eq
      by_cases hh : c.toNat < 32 ∨ 126 < c.toNat
      · rw [if_pos hh] at e1
        have f1 : ((c.toNat : Int) == 34) = false := by simp; omega
        have f2 : ((c.toNat : Int) == 92) = false := by simp; omega
        have f3 : ¬ 32 ≤ (c.toNat : Int) ∨ ¬ (c.toNat : Int) ≤ 126 := by omega
        have hx := Lib.hid (fun w' => hex_any c.toNat (c.toNat / 16) (c.toNat % 16) w' (by omega) (by omega) (by omega))
        clear hh hal hc256 hy
        go_wp2_with (first | (go_at_call 28; (with_reducible refine (hp.out _).mono ?_); rintro e w2 ⟨rfl, hq⟩) | (go_at_call 29; (with_reducible refine (hx.out _).mono ?_); rintro e w3 ⟨rfl, hq3⟩))
        all_goals go_roundw
        all_goals first | exact FIN.out _ (hq.trans hq3) | (have := HLT.out; simp [intOf]; omega)
      · rw [if_neg hh] at e1 hy
        by_cases hm : c.toNat = 34 ∨ c.toNat = 92
        · rw [if_pos hm] at e1 hy
          have g1 := cat_is (P := Tryd.prog) (st acc) { data := #[92] } (st (acc ++ [92])) acc [92] rfl rfl rfl (by simp; omega)
          have g2 := cat_is (P := Tryd.prog) (st (acc ++ [92])) (st [c]) (st y) (acc ++ [92]) [c] rfl rfl (by rw [← hy]; simp) (by simp; omega)
          obtain ⟨z, hz⟩ : ∃ z, acc ++ [92] = z := ⟨_, rfl⟩
          rw [hz] at g1 g2
          clear hh hal hc256 hy hz e1
          rcases hm with hm | hm
          · rw [hm] at hix
            have hp0 : ∀ w' : World, Calls Tryd.prog 28 #[.int .u8 34] w' fun e w'' => e = .returned (.tuple #[.string { data := #[] }, .bool false]) ∧ Gr w' w'' := fun w' => plain_no 34 w' (by decide) (by decide) (by decide)
            have HP := Lib.hid hp0
            clear hp hp0
            go_wp2_with (go_at_call 28; (with_reducible refine (HP.out _).mono ?_); rintro e w2 ⟨rfl, hq⟩)
            go_roundw
            case rel => exact FIN.out _ hq
            case measure => have := HLT.out; simp [intOf]; omega
          · rw [hm] at hix
            have hp0 : ∀ w' : World, Calls Tryd.prog 28 #[.int .u8 92] w' fun e w'' => e = .returned (.tuple #[.string { data := #[] }, .bool false]) ∧ Gr w' w'' := fun w' => plain_no 92 w' (by decide) (by decide) (by decide)
            have HP := Lib.hid hp0
            clear hp hp0
            go_wp2_with (go_at_call 28; (with_reducible refine (HP.out _).mono ?_); rintro e w2 ⟨rfl, hq⟩)
            go_roundw
            case rel => exact FIN.out _ hq
            case measure => have := HLT.out; simp [intOf]; omega
        · rw [if_neg hm] at e1
          have f1 : ((c.toNat : Int) == 34) = false := by simp; omega
          have f2 : ((c.toNat : Int) == 92) = false := by simp; omega
          have f3 : 32 ≤ (c.toNat : Int) := by omega
          have f4 : (c.toNat : Int) ≤ 126 := by omega
          clear hh hal hc256 hy hm
          go_wp2_with (go_at_call 28; (with_reducible refine (hp.out _).mono ?_); rintro e w2 ⟨rfl, hq⟩)
          go_roundw
          case rel => exact FIN.out _ hq
          case measure => have := HLT.out; simp [intOf]; omega
    · have hkr : k = l.length := by omega
      rw [hkr, List.take_length]
      have h1 := wrQs_len l
      have e1 := cat_is (P := Tryd.prog) (st (34 :: l.flatMap wrQ)) { data := #[34] } (st (quoteL l)) (34 :: l.flatMap wrQ) [34] rfl rfl rfl (by rw [List.length_cons, List.length_cons, List.length_nil]; omega)
      clear h1 hlt hk
      subst hkr
      go_wp2_with fail
      go_ret
      exact ⟨rfl, hg⟩

end Go.Proofs.YtihjmeoklbmnmaaDoor
