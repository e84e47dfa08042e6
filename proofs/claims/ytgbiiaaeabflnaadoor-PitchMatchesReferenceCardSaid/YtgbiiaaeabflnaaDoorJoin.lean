/- The library's strings.Join at this program (written by the kit's tool for this program; the contracts that are used). -/
import Derived.Shelf.Strings.OnBuilder
import Derived.Shelf.LaysM
import Derived.Test.YtgbiiaaeabflnaaDoorProg
namespace Go.Proofs
open Go.Shelf
def Tryd.lays156_ren : Go.Shelf.Ren := ⟨fun | 156 => 44 | 165 => 68 | 166 => 69 | 169 => 70 | 240 => 91 | 241 => 92 | 276 => 107 | 277 => 108 | n => n, fun | 31 => 60 | 9 => 9 | 3 => 3 | 4 => 4 | 0 => 0 | 20 => 20 | 72 => 93 | 76 => 97 | 70 => 90 | 37 => 91 | 75 => 96 | 127 => 112 | 164 => 122 | 5 => 5 | 80 => 99 | n => n, fun | n => n⟩
theorem Tryd.lays156 : Go.Proofs.Lays.n156 Tryd.prog Tryd.lays156_ren := {
  mixed := by kernel_rfl
  f156 := Tryd.func44.trans (congrArg some (by kernel_rfl))
  f165 := Tryd.func68.trans (congrArg some (by kernel_rfl))
  f166 := Tryd.func69.trans (congrArg some (by kernel_rfl))
  f169 := Tryd.func70.trans (congrArg some (by kernel_rfl))
  f240 := Tryd.func91.trans (congrArg some (by kernel_rfl))
  f241 := Tryd.func92.trans (congrArg some (by kernel_rfl))
  f276 := Tryd.func107.trans (congrArg some (by kernel_rfl))
  f277 := Tryd.func108.trans (congrArg some (by kernel_rfl))
  t0 := Tryd.underlying0
  a0 := Tryd.isAgg0
  z0 := Tryd.sizeOf0
  v0 := Tryd.zeroValue0
  t3 := Tryd.underlying3
  a3 := Tryd.isAgg3
  z3 := Tryd.sizeOf3
  v3 := Tryd.zeroValue3
  t4 := Tryd.underlying4
  a4 := Tryd.isAgg4
  z4 := Tryd.sizeOf4
  v4 := Tryd.zeroValue4
  t9 := Tryd.underlying9
  a9 := Tryd.isAgg9
  z9 := Tryd.sizeOf9
  v9 := Tryd.zeroValue9
  t20 := Tryd.underlying20
  a20 := Tryd.isAgg20
  z20 := Tryd.sizeOf20
  v20 := Tryd.zeroValue20
  t31 := Tryd.underlying60
  a31 := Tryd.isAgg60
  z31 := Tryd.sizeOf60
  v31 := Tryd.zeroValue60
  t37 := Tryd.underlying91
  a37 := Tryd.isAgg91
  z37 := Tryd.sizeOf91
  v37 := Tryd.zeroValue91
  t70 := Tryd.underlying90
  a70 := Tryd.isAgg90
  z70 := Tryd.sizeOf90
  v70 := Tryd.zeroValue90
  t72 := Tryd.underlying93
  a72 := Tryd.isAgg93
  z72 := Tryd.sizeOf93
  v72 := Tryd.zeroValue93
  t75 := Tryd.underlying96
  a75 := Tryd.isAgg96
  z75 := Tryd.sizeOf96
  v75 := Tryd.zeroValue96
  t76 := Tryd.underlying97
  a76 := Tryd.isAgg97
  z76 := Tryd.sizeOf97
  v76 := Tryd.zeroValue97
  t127 := Tryd.underlying112
  a127 := Tryd.isAgg112
  z127 := Tryd.sizeOf112
  v127 := Tryd.zeroValue112
  t164 := Tryd.underlying122
  a164 := Tryd.isAgg122
  z164 := Tryd.sizeOf122
  v164 := Tryd.zeroValue122 }
theorem Tryd.Builder_Extra_156 : Builder.Extra Tryd.prog Tryd.lays156_ren := {
  sizeBuilder := by kernel_rfl
  liesBuilder := by kernel_rfl
  t5 := Tryd.underlying5
  a5 := Tryd.isAgg5
  z5 := Tryd.sizeOf5
  v5 := Tryd.zeroValue5
  infoByte := by kernel_rfl
  cellsByte := by kernel_rfl
  sizeByte := by kernel_rfl
  neB5 := by decide }
open Go.RowKit in
/-- No element: the empty string; the world is as it was. (Whatever the slice's address and capacity: a nil slice too.) (LAID: no walk: one application.) -/
theorem Tryd.strings_Join_none (a : Option Addr) (c : Nat) (sep : ByteArray) (w : World) :
    Calls Tryd.prog 44 #[.slice a 0 c, .string sep] w fun e w' => e = .returned (.string ⟨#[]⟩) ∧ w' = w := Any.strings_Join_none Tryd.lays156 Tryd.Builder_Extra_156 a c sep w
open Go.RowKit in
/-- strings.Join: "Join concatenates the elements of its first argument to create a single string. The separator string sep is placed between elements in the resulting string.": HOWEVER MANY ELEMENTS. Below the heap's end the world is as it was. (LAID: no walk: one application.) -/
theorem Tryd.strings_Join (bk o c : Nat) (xs : List ByteArray) (sep : ByteArray) (w : World) (hcells : ∀ (j : Nat) x, xs[j]? = some x → w.cell? ⟨bk, o + j, none⟩ = some (.string x)) (hbk : bk < w.heap.size) (hN : xs.length ≤ 140737488355328) (hcap : xs.length ≤ c) (hlen : (Lib.join (xs.map (·.data.toList)) sep.data.toList).length ≤ 140737488355328) :
    Calls Tryd.prog 44 #[.slice (some ⟨bk, o, none⟩) xs.length c, .string sep] w fun e w' => e = .returned (.string ⟨(Lib.join (xs.map (·.data.toList)) sep.data.toList).toArray⟩) ∧ Below w.heap.size w w' := Any.strings_Join Tryd.lays156 Tryd.Builder_Extra_156 bk o c xs sep w hcells hbk hN hcap hlen
end Go.Proofs
