/- Joined out of the texts Shelf, PSort. -/
import Derived.Shelf.Small.Strs
import Derived.Shelf.Strings.Search3
import Derived.Shelf.Strings.Prefix
import Derived.Shelf.Strings.Split
import Derived.Shelf.SlSortCmp.WholeK
import Derived.Shelf.SlSortCmp.NoneTotal
import Derived.Shelf.SlMaps.Clone
import Derived.Ground.SlsfProg
import Derived.Ground.SlmcProg
import Derived.Shelf.Small.Bits
import Derived.Test.YtolpcfhfcdkokaaGreatDoorProg
import Derived.Test.YtolpcfhfcdkokaaGreatDoorM16
/-
  Contracts of library functions, laid at this seat's numbers (printed by the shelf's tools, cut down by wip/tools/shelf.py).
-/
namespace Go.Proofs
open Go.Shelf
def Tryz.lays106_ren : Go.Shelf.Ren := ⟨fun | 106 => 132 | 213 => 148 | 265 => 166 | n => n, fun | 9 => 9 | 3 => 3 | n => n, fun | n => n⟩
theorem Tryz.lays106 : Go.Proofs.Lays.n106 Tryz.prog Tryz.lays106_ren := {
  mixed := by kernel_rfl
  f106 := Tryz.func132.trans (congrArg some (by kernel_rfl))
  f213 := Tryz.func148.trans (congrArg some (by kernel_rfl))
  f265 := Tryz.func166.trans (congrArg some (by kernel_rfl))
  t3 := Tryz.underlying3
  a3 := Tryz.isAgg3
  z3 := Tryz.sizeOf3
  v3 := Tryz.zeroValue3
  t9 := Tryz.underlying9
  a9 := Tryz.isAgg9
  z9 := Tryz.sizeOf9
  v9 := Tryz.zeroValue9 }
open Go.RowKit in
theorem Tryz.strings_Compare (a b : ByteArray) (w : World) :
    Calls Tryz.prog 132 #[.string a, .string b] w fun e w' => e = .returned (.int .i64 (Lib.compareBytes a.data.toList b.data.toList)) ∧ w' = w := Any.strings_Compare Tryz.lays106 a b w
def Tryz.lays144_ren : Go.Shelf.Ren := ⟨fun | 144 => 64 | 143 => 93 | 219 => 125 | 217 => 139 | 225 => 140 | 224 => 141 | 267 => 142 | 266 => 153 | 314 => 154 | n => n, fun | 9 => 9 | 4 => 4 | 3 => 3 | 5 => 5 | 46 => 145 | 146 => 216 | 51 => 215 | n => n, fun | 1 => 0 | n => n⟩
theorem Tryz.lays144 : Go.Proofs.Lays.n144 Tryz.prog Tryz.lays144_ren := {
  mixed := by kernel_rfl
  f143 := Tryz.func93.trans (congrArg some (by kernel_rfl))
  f144 := Tryz.func64.trans (congrArg some (by kernel_rfl))
  f217 := Tryz.func139.trans (congrArg some (by kernel_rfl))
  f219 := Tryz.func125.trans (congrArg some (by kernel_rfl))
  f224 := Tryz.func141.trans (congrArg some (by kernel_rfl))
  f225 := Tryz.func140.trans (congrArg some (by kernel_rfl))
  f266 := Tryz.func153.trans (congrArg some (by kernel_rfl))
  f267 := Tryz.func142.trans (congrArg some (by kernel_rfl))
  f314 := Tryz.func154.trans (congrArg some (by kernel_rfl))
  t3 := Tryz.underlying3
  a3 := Tryz.isAgg3
  z3 := Tryz.sizeOf3
  v3 := Tryz.zeroValue3
  t4 := Tryz.underlying4
  a4 := Tryz.isAgg4
  z4 := Tryz.sizeOf4
  v4 := Tryz.zeroValue4
  t5 := Tryz.underlying5
  a5 := Tryz.isAgg5
  z5 := Tryz.sizeOf5
  v5 := Tryz.zeroValue5
  t9 := Tryz.underlying9
  a9 := Tryz.isAgg9
  z9 := Tryz.sizeOf9
  v9 := Tryz.zeroValue9
  t46 := Tryz.underlying145
  a46 := Tryz.isAgg145
  z46 := Tryz.sizeOf145
  v46 := Tryz.zeroValue145
  t51 := Tryz.underlying215
  a51 := Tryz.isAgg215
  z51 := Tryz.sizeOf215
  v51 := Tryz.zeroValue215
  t146 := Tryz.underlying216
  a146 := Tryz.isAgg216
  z146 := Tryz.sizeOf216
  v146 := Tryz.zeroValue216
  g1 := by kernel_rfl }
open Go.RowKit Go.Lib in
theorem Tryz.strings_Contains (s sub : ByteArray) (m : Int) (w : World) (hs : s.size < 4294967281) (hm : w.cell? ⟨0, 0, none⟩ = some (.int .i64 m)) :
    Calls Tryz.prog 64 #[.string s, .string sub] w fun e w' => e = .returned (.bool (Lib.contains s.data.toList sub.data.toList)) ∧ w' = w := Any.strings_Contains Tryz.lays144 s sub m w hs hm
def Tryz.lays99_ren : Go.Shelf.Ren := ⟨fun | 99 => 62 | 206 => 91 | n => n, fun | 9 => 9 | 4 => 4 | 3 => 3 | n => n, fun | n => n⟩
theorem Tryz.lays99 : Go.Proofs.Lays.n99 Tryz.prog Tryz.lays99_ren := {
  mixed := by kernel_rfl
  f99 := Tryz.func62.trans (congrArg some (by kernel_rfl))
  f206 := Tryz.func91.trans (congrArg some (by kernel_rfl))
  t3 := Tryz.underlying3
  a3 := Tryz.isAgg3
  z3 := Tryz.sizeOf3
  v3 := Tryz.zeroValue3
  t4 := Tryz.underlying4
  a4 := Tryz.isAgg4
  z4 := Tryz.sizeOf4
  v4 := Tryz.zeroValue4
  t9 := Tryz.underlying9
  a9 := Tryz.isAgg9
  z9 := Tryz.sizeOf9
  v9 := Tryz.zeroValue9 }
open Go.RowKit Go.Lib in
theorem Tryz.strings_HasPrefix (s p : ByteArray) (w : World) :
    Calls Tryz.prog 62 #[.string s, .string p] w fun e w' => e = .returned (.bool (Lib.hasPrefix s.data.toList p.data.toList)) ∧ w' = w := Any.strings_HasPrefix Tryz.lays99 s p w
def Tryz.lays100_ren : Go.Shelf.Ren := ⟨fun | 100 => 63 | 207 => 92 | n => n, fun | 9 => 9 | 4 => 4 | 3 => 3 | n => n, fun | n => n⟩
theorem Tryz.lays100 : Go.Proofs.Lays.n100 Tryz.prog Tryz.lays100_ren := {
  mixed := by kernel_rfl
  f100 := Tryz.func63.trans (congrArg some (by kernel_rfl))
  f207 := Tryz.func92.trans (congrArg some (by kernel_rfl))
  t3 := Tryz.underlying3
  a3 := Tryz.isAgg3
  z3 := Tryz.sizeOf3
  v3 := Tryz.zeroValue3
  t4 := Tryz.underlying4
  a4 := Tryz.isAgg4
  z4 := Tryz.sizeOf4
  v4 := Tryz.zeroValue4
  t9 := Tryz.underlying9
  a9 := Tryz.isAgg9
  z9 := Tryz.sizeOf9
  v9 := Tryz.zeroValue9 }
open Go.RowKit Go.Lib in
theorem Tryz.strings_HasSuffix (s p : ByteArray) (w : World) (hs : s.size ≤ 9223372036854775807) :
    Calls Tryz.prog 63 #[.string s, .string p] w fun e w' => e = .returned (.bool (Lib.hasSuffix s.data.toList p.data.toList)) ∧ w' = w := Any.strings_HasSuffix Tryz.lays100 s p w hs
def Tryz.lays146_ren : Go.Shelf.Ren := ⟨fun | 146 => 65 | 221 => 94 | 268 => 126 | 138 => 127 | 143 => 93 | 195 => 143 | 197 => 144 | 218 => 145 | 219 => 125 | 260 => 155 | 217 => 139 | 225 => 140 | 224 => 141 | 267 => 142 | 266 => 153 | 314 => 154 | n => n, fun | 9 => 9 | 31 => 108 | 3 => 3 | 4 => 4 | 0 => 0 | 105 => 208 | 21 => 21 | 5 => 5 | 46 => 145 | 119 => 227 | 139 => 230 | 138 => 229 | 146 => 216 | 51 => 215 | n => n, fun | 1 => 0 | 3 => 1 | 4 => 2 | n => n⟩
theorem Tryz.lays146 : Go.Proofs.Lays.n146 Tryz.prog Tryz.lays146_ren := {
  mixed := by kernel_rfl
  f138 := Tryz.func127.trans (congrArg some (by kernel_rfl))
  f143 := Tryz.func93.trans (congrArg some (by kernel_rfl))
  f146 := Tryz.func65.trans (congrArg some (by kernel_rfl))
  f195 := Tryz.func143.trans (congrArg some (by kernel_rfl))
  f197 := Tryz.func144.trans (congrArg some (by kernel_rfl))
  f217 := Tryz.func139.trans (congrArg some (by kernel_rfl))
  f218 := Tryz.func145.trans (congrArg some (by kernel_rfl))
  f219 := Tryz.func125.trans (congrArg some (by kernel_rfl))
  f221 := Tryz.func94.trans (congrArg some (by kernel_rfl))
  f224 := Tryz.func141.trans (congrArg some (by kernel_rfl))
  f225 := Tryz.func140.trans (congrArg some (by kernel_rfl))
  f260 := Tryz.func155.trans (congrArg some (by kernel_rfl))
  f266 := Tryz.func153.trans (congrArg some (by kernel_rfl))
  f267 := Tryz.func142.trans (congrArg some (by kernel_rfl))
  f268 := Tryz.func126.trans (congrArg some (by kernel_rfl))
  f314 := Tryz.func154.trans (congrArg some (by kernel_rfl))
  t0 := Tryz.underlying0
  a0 := Tryz.isAgg0
  z0 := Tryz.sizeOf0
  v0 := Tryz.zeroValue0
  t3 := Tryz.underlying3
  a3 := Tryz.isAgg3
  z3 := Tryz.sizeOf3
  v3 := Tryz.zeroValue3
  t4 := Tryz.underlying4
  a4 := Tryz.isAgg4
  z4 := Tryz.sizeOf4
  v4 := Tryz.zeroValue4
  t5 := Tryz.underlying5
  a5 := Tryz.isAgg5
  z5 := Tryz.sizeOf5
  v5 := Tryz.zeroValue5
  t9 := Tryz.underlying9
  a9 := Tryz.isAgg9
  z9 := Tryz.sizeOf9
  v9 := Tryz.zeroValue9
  t21 := Tryz.underlying21
  a21 := Tryz.isAgg21
  z21 := Tryz.sizeOf21
  v21 := Tryz.zeroValue21
  t31 := Tryz.underlying108
  a31 := Tryz.isAgg108
  z31 := Tryz.sizeOf108
  v31 := Tryz.zeroValue108
  t46 := Tryz.underlying145
  a46 := Tryz.isAgg145
  z46 := Tryz.sizeOf145
  v46 := Tryz.zeroValue145
  t51 := Tryz.underlying215
  a51 := Tryz.isAgg215
  z51 := Tryz.sizeOf215
  v51 := Tryz.zeroValue215
  t105 := Tryz.underlying208
  a105 := Tryz.isAgg208
  z105 := Tryz.sizeOf208
  v105 := Tryz.zeroValue208
  t119 := Tryz.underlying227
  a119 := Tryz.isAgg227
  z119 := Tryz.sizeOf227
  t138 := Tryz.underlying229
  a138 := Tryz.isAgg229
  z138 := Tryz.sizeOf229
  v138 := Tryz.zeroValue229
  t139 := Tryz.underlying230
  a139 := Tryz.isAgg230
  z139 := Tryz.sizeOf230
  v139 := Tryz.zeroValue230
  t146 := Tryz.underlying216
  a146 := Tryz.isAgg216
  z146 := Tryz.sizeOf216
  v146 := Tryz.zeroValue216
  g1 := by kernel_rfl
  g3 := by kernel_rfl
  g4 := by kernel_rfl }
open Go.RowKit Go.Lib in
theorem Tryz.strings_Split (s sep : ByteArray) (m : Int) (w : World) (hs : s.size < 4294967281) (hm : w.cell? ⟨0, 0, none⟩ = some (.int .i64 m)) (h1 : 1 ≤ sep.size) :
    Calls Tryz.prog 65 #[.string s, .string sep] w fun e w' =>
      e = .returned (.slice (some ⟨w.heap.size, 0, none⟩) (Lib.countB s sep + 1) (Lib.countB s sep + 1)) ∧ w' = w.alloc (.cells ((Lib.splitB sep 0 (Lib.countB s sep) s).map Value.string).toArray 9) := Any.strings_Split Tryz.lays146 (by kernel_rfl) s sep m w hs hm h1
def Tryz.sortE_ren : Go.Shelf.Ren := ⟨fun | 6 => 130 | 15 => 147 | 14 => 146 | 28 => 164 | 29 => 165 | 20 => 156 | 21 => 157 | 22 => 158 | 23 => 159 | 24 => 160 | 25 => 161 | 26 => 162 | 27 => 163 | 46 => 167 | 47 => 168 | 48 => 169 | 49 => 170 | 50 => 171 | 57 => 172 | n => n, fun | 22 => 65 | 24 => 130 | 25 => 199 | 3 => 3 | 39 => 145 | 0 => 0 | 53 => 215 | 55 => 146 | 4 => 4 | 46 => 220 | 45 => 219 | 50 => 164 | 5 => 5 | 9 => 9 | 66 => 231 | 70 => 235 | 76 => 237 | 77 => 58 | n => n, fun | n => n⟩
theorem Tryz.sortE : Go.Proofs.SlLaysF0.n6 Tryz.prog Tryz.sortE_ren := {
  mixed := by kernel_rfl
  f6 := ⟨Tryz.f130.name, by decide, Tryz.func130.trans (congrArg some (by kernel_rfl))⟩
  f14 := ⟨Tryz.f146.name, by decide, Tryz.func146.trans (congrArg some (by kernel_rfl))⟩
  f15 := Tryz.func147.trans (congrArg some (by kernel_rfl))
  f20 := ⟨Tryz.f156.name, by decide, Tryz.func156.trans (congrArg some (by kernel_rfl))⟩
  f21 := ⟨Tryz.f157.name, by decide, Tryz.func157.trans (congrArg some (by kernel_rfl))⟩
  f22 := ⟨Tryz.f158.name, by decide, Tryz.func158.trans (congrArg some (by kernel_rfl))⟩
  f23 := ⟨Tryz.f159.name, by decide, Tryz.func159.trans (congrArg some (by kernel_rfl))⟩
  f24 := ⟨Tryz.f160.name, by decide, Tryz.func160.trans (congrArg some (by kernel_rfl))⟩
  f25 := ⟨Tryz.f161.name, by decide, Tryz.func161.trans (congrArg some (by kernel_rfl))⟩
  f26 := ⟨Tryz.f162.name, by decide, Tryz.func162.trans (congrArg some (by kernel_rfl))⟩
  f27 := ⟨Tryz.f163.name, by decide, Tryz.func163.trans (congrArg some (by kernel_rfl))⟩
  f28 := Tryz.func164.trans (congrArg some (by kernel_rfl))
  f29 := Tryz.func165.trans (congrArg some (by kernel_rfl))
  f46 := ⟨Tryz.f167.name, by decide, Tryz.func167.trans (congrArg some (by kernel_rfl))⟩
  f47 := Tryz.func168.trans (congrArg some (by kernel_rfl))
  f48 := Tryz.func169.trans (congrArg some (by kernel_rfl))
  f49 := ⟨Tryz.f170.name, by decide, Tryz.func170.trans (congrArg some (by kernel_rfl))⟩
  f50 := ⟨Tryz.f171.name, by decide, Tryz.func171.trans (congrArg some (by kernel_rfl))⟩
  f57 := ⟨Tryz.f172.name, by decide, Tryz.func172.trans (congrArg some (by kernel_rfl))⟩
  t0 := Tryz.underlying0
  a0 := Tryz.isAgg0
  z0 := Tryz.sizeOf0
  v0 := Tryz.zeroValue0
  t3 := Tryz.underlying3
  a3 := Tryz.isAgg3
  z3 := Tryz.sizeOf3
  v3 := Tryz.zeroValue3
  t4 := Tryz.underlying4
  a4 := Tryz.isAgg4
  z4 := Tryz.sizeOf4
  v4 := Tryz.zeroValue4
  t5 := Tryz.underlying5
  a5 := Tryz.isAgg5
  z5 := Tryz.sizeOf5
  v5 := Tryz.zeroValue5
  t9 := Tryz.underlying9
  a9 := Tryz.isAgg9
  z9 := Tryz.sizeOf9
  v9 := Tryz.zeroValue9
  t22 := Tryz.underlying65
  a22 := Tryz.isAgg65
  z22 := Tryz.sizeOf65
  v22 := Tryz.zeroValue65
  t25 := Tryz.underlying199
  a25 := Tryz.isAgg199
  z25 := Tryz.sizeOf199
  v25 := Tryz.zeroValue199
  t39 := Tryz.underlying145
  a39 := Tryz.isAgg145
  z39 := Tryz.sizeOf145
  v39 := Tryz.zeroValue145
  t45 := Tryz.underlying219
  a45 := Tryz.isAgg219
  z45 := Tryz.sizeOf219
  v45 := Tryz.zeroValue219
  t46 := Tryz.underlying220
  a46 := Tryz.isAgg220
  z46 := Tryz.sizeOf220
  v46 := Tryz.zeroValue220
  t50 := Tryz.underlying164
  a50 := Tryz.isAgg164
  z50 := Tryz.sizeOf164
  v50 := Tryz.zeroValue164
  t53 := Tryz.underlying215
  a53 := Tryz.isAgg215
  z53 := Tryz.sizeOf215
  v53 := Tryz.zeroValue215
  t55 := Tryz.underlying146
  a55 := Tryz.isAgg146
  z55 := Tryz.sizeOf146
  v55 := Tryz.zeroValue146
  t66 := Tryz.underlying231
  a66 := Tryz.isAgg231
  z66 := Tryz.sizeOf231
  v66 := Tryz.zeroValue231
  t70 := Tryz.underlying235
  a70 := Tryz.isAgg235
  z70 := Tryz.sizeOf235
  v70 := Tryz.zeroValue235
  t76 := Tryz.underlying237
  a76 := Tryz.isAgg237
  z76 := Tryz.sizeOf237
  v76 := Tryz.zeroValue237
  t77 := Tryz.underlying58
  a77 := Tryz.isAgg58
  z77 := Tryz.sizeOf58
  v77 := Tryz.zeroValue58 }
def Tryz.mclone_ren : Go.Shelf.Ren := ⟨fun | 5 => 133 | 7 => 149 | n => n, fun | 23 => 107 | 25 => 3 | 3 => 187 | 4 => 4 | 20 => 20 | n => n, fun | n => n⟩
theorem Tryz.mclone : Go.Proofs.SlLaysW.n5 Tryz.prog Tryz.mclone_ren := {
  mixed := by kernel_rfl
  f5 := ⟨Tryz.f133.name, by decide, Tryz.func133.trans (congrArg some (by kernel_rfl))⟩
  f7 := Tryz.func149.trans (congrArg some (by kernel_rfl))
  t4 := Tryz.underlying4
  a4 := Tryz.isAgg4
  z4 := Tryz.sizeOf4
  v4 := Tryz.zeroValue4
  t20 := Tryz.underlying20
  a20 := Tryz.isAgg20
  z20 := Tryz.sizeOf20
  v20 := Tryz.zeroValue20
  t23 := Tryz.underlying107
  a23 := Tryz.isAgg107
  z23 := Tryz.sizeOf107
  v23 := Tryz.zeroValue107 }
end Go.Proofs
/-
  Entries in a row, sorted by names.
-/
namespace Go.Proofs.YtolpcfhfcdkokaaGreatDoor
open Go.RowKit Go.Proofs
open Go.Maps (Keyed)

abbrev Ent := ByteArray × Nat × Int
instance : Inhabited ByteArray := ⟨⟨#[]⟩⟩
def entC (x : Ent) : List Value := [.string x.1, .int .i64 (x.2.1 : Int), .int .i64 x.2.2]
theorem entC_one (x : Ent) : ∀ v ∈ entC x, v.oneCell' = true := by
  intro v hv
  simp only [entC, List.mem_cons, List.not_mem_nil, or_false] at hv
  rcases hv with rfl | rfl | rfl <;> rfl
def entCf (x y : Ent) : Int := Lib.compareBytes x.1.data.toList y.1.data.toList
theorem cmp_before : ∀ a b : List UInt8, decide (Lib.compareBytes a b < 0) = bytesBefore a b
  | [], [] => rfl
  | [], _ :: _ => rfl
  | _ :: _, [] => rfl
  | a :: r, b :: s => by
    by_cases h1 : a < b
    · simp [Lib.compareBytes, bytesBefore, h1]
    · by_cases h2 : b < a
      · have hne : ¬ a = b := fun e => by subst e; exact h1 h2
        simp [Lib.compareBytes, bytesBefore, h1, h2, hne]
      · have he : a = b := by
          have h1' : ¬ a.toNat < b.toNat := fun h => h1 (UInt8.lt_iff_toNat_lt.2 h)
          have h2' : ¬ b.toNat < a.toNat := fun h => h2 (UInt8.lt_iff_toNat_lt.2 h)
          exact UInt8.toNat_inj.1 (by omega)
        have ih := cmp_before r s
        subst he
        simpa [Lib.compareBytes, bytesBefore, h1] using ih
theorem entLt (x y : Ent) : ltOf entCf x y = strK.lt x.1 y.1 := cmp_before _ _
theorem strK_trans3 {a b c : ByteArray} (h1 : strK.lt a b = false) (h2 : strK.lt b c = false) : strK.lt a c = false := by
  cases h : strK.lt a c with
  | false => rfl
  | true =>
    exfalso
    by_cases e : a = b
    · subst e; rw [h] at h2; cases h2
    · rcases strK_tot a b e with h' | h'
      · rw [h'] at h1; cases h1
      · rw [lt_trans' strK h' h] at h2; cases h2
theorem entSwo : Go.Sort.SWO (ltOf entCf) where
  irrefl x := by rw [entLt]; exact lt_irrefl' strK _
  trans x y z h1 h2 := by rw [entLt] at *; exact lt_trans' strK h1 h2
  ntrans x y z h1 h2 := by rw [entLt] at *; exact strK_trans3 h1 h2
set_option maxHeartbeats 1600000 in
set_option maxRecDepth 100000 in
/-- The closure that holds two entries against each other. -/
theorem entCmp (x y : Ent) (w : World) : Calls Tryz.prog 131 #[.agg (entC x).toArray, .agg (entC y).toArray] w fun e w' => e = .returned (.int .i64 (entCf x y)) ∧ ∃ q os', w' = Go.Sort.grow (w.drewN q) os' := by
  have hcon := fun W => Go.Proofs.Tryz.strings_Compare x.1 y.1 W
  have hr : ∃ r, Lib.compareBytes x.1.data.toList y.1.data.toList = r := ⟨_, rfl⟩
  obtain ⟨r, hr⟩ := hr
  have hrH := Lib.hid hr
  rw [hr] at hcon
  clear hr
  unfold entC
  go_enter Tryz.func131, Tryz.ntmps131
  go_wp2_with (go_at_call 132; refine (hcon _).mono ?_; rintro e w' ⟨rfl, rfl⟩)
  go_ret
  exact ⟨by unfold entCf; rw [hrH.out]; rfl, 0, _, by rw [Go.Sort.alloc_eq_grow, Go.Sort.alloc_eq_grow, Go.Sort.grow_grow]; rfl⟩
theorem isAggE : ∀ w, (isAgg 130).run Tryz.prog w = .ok true w := fun _ => by kernel_rfl
theorem sizeOfE : ∀ w, (Go.sizeOf 130).run Tryz.prog w = .ok 3 w := fun _ => by kernel_rfl
theorem sort_chg (w : World) (g n : Nat) (d : Array Ent) (os : Array Obj) : Chg (fun b => b = g) w (sortWorldK entC 3 w g 0 n d os) := by
  refine ⟨rfl, rfl, rfl, ?_, fun k hk hn => ?_⟩
  · simp [sortWorldK, Go.Sort.grow, Go.Sort.putRowK]
  · unfold sortWorldK Go.Sort.putRowK
    have h1 : (Go.Sort.putRow id (Go.Sort.ahead w n) g 0 (Go.Sort.flatK entC 3 d)).heap.size = w.heap.size := Go.Sort.size_putRow _ _ _ _ _
    rw [Go.Sort.heap_grow_old _ _ (by rw [h1]; exact hk)]
    unfold Go.Sort.putRow Go.Sort.mapBlock
    simp only [Array.getElem?_modify]
    rw [if_neg (fun e => hn e.symm)]
    rfl
theorem flat_entC (l : List Ent) (t : Nat) (h : t < l.length * 3) : (Go.Sort.flatK entC 3 l.toArray)[t]! = (l.flatMap entC)[t]! := by
  have hq : t / 3 < l.length := by omega
  have hr : t % 3 < 3 := Nat.mod_lt _ (by omega)
  rw [Go.Sort.get_flatK _ _ _ _ (by simpa using h)]
  have e : t / 3 * 3 + t % 3 = t := by omega
  have h2 := flat_get entC 3 l (fun _ _ => rfl) (t / 3) hq (t % 3) hr
  rw [e] at h2
  rw [List.getElem!_eq_getElem?_getD (l := l.flatMap entC), h2, List.getElem!_eq_getElem?_getD]
  simp [hq]
/-- What a sort leaves. -/
def Sorted3 (g n : Nat) (l : List Ent) (w w' : World) : Prop :=
  ∃ l' : List Ent, l'.Perm l ∧ l'.Pairwise (fun x y => strK.lt y.1 x.1 = false) ∧ Sees w' w'.heap.size 3 (some ⟨g, 0, none⟩) n (l'.flatMap entC) ∧ Chg (fun b => b = g) w w'
theorem sort_any (base g c : Nat) (l : List Ent) (w : World) (h : w.ownsRow base 130 3 (.slice (some ⟨g, 0, none⟩) l.length c) l.length (l.flatMap entC)) (hl : l.length ≤ 1000000) :
    Calls Tryz.prog 130 #[.slice (some ⟨g, 0, none⟩) l.length c, .func (.func 131) #[] #[]] w fun e w' => e = .returned (.tuple #[]) ∧ Sorted3 g l.length l w w' := by
  have eg : ∀ args w, (callFunc 131 args).run Tryz.prog w = .ok (.enter 131 args) w := enters_of Tryz.func131 (by kernel_rfl) rfl
  have hg : g < w.heap.size := (World.ownsRow.lt h g rfl).2
  have hH : Go.Sort.HoldsK entC 3 w g 0 l.toArray := by
    intro j hj
    rw [Go.Sort.size_flatK] at hj
    have hj' : j < l.length * 3 := by simpa using hj
    have hc := h.cellAt j (by simpa using hj')
    refine ⟨?_, by rw [Nat.zero_add]; exact h.frozenAt j⟩
    rw [Nat.zero_add, hc, flat_entC l j hj']
    have hlen := flat_len entC 3 l (fun _ _ => rfl)
    rw [List.getElem!_eq_getElem?_getD, List.getElem?_eq_getElem (by omega)]
    rfl
  have hcon := AnyQ.slices_SortFunc Go.Proofs.Tryz.sortE 3 isAggE sizeOfE entC (fun _ => rfl) entC_one entCf entSwo 131 #[] g 0 c l.toArray w eg (fun _ _ _ _ x y => entCmp x y _) hH hg (by simp; omega)
  have hsz : l.toArray.size = l.length := by simp
  rw [hsz] at hcon
  refine hcon.mono ?_
  rintro e w' ⟨he, d', n, os, hp, hs, rfl⟩
  refine ⟨he, d'.toList, ?_, ?_, ?_, sort_chg w g n d' os⟩
  · have := hp.2.2
    have hdz : d'.toList.length = l.length := by have := hp.1; simpa using this
    have e : (d'.extract 0 l.length).toList = d'.toList := by simp [← hdz]
    have e2 : (l.toArray.extract 0 l.length).toList = l := by simp
    rw [e, e2] at this
    exact this
  · rw [List.pairwise_iff_getElem]
    intro i j hi hj hij
    have hdz : d'.size = l.length := by rw [hp.1, hsz]
    have := hs i j (Nat.zero_le _) hij (by rw [← hdz]; simpa using hj)
    rw [entLt] at this
    rw [getElem!_pos d' j (by simpa using hj), getElem!_pos d' i (by simpa using hi)] at this
    simpa using this
  · have hdz : d'.size = l.length := by rw [hp.1, hsz]
    have hld : d'.toList.length = l.length := by simpa using hdz
    refine ⟨by rw [flat_len entC 3 _ (fun _ _ => rfl), hld], fun hn => ⟨g, 0, rfl, ?_, fun j u hu => ?_⟩⟩
    · exact Nat.lt_of_lt_of_le hg (sort_chg w g n d' os).size
    · have hj : j < d'.toList.length * 3 := by
        have := (List.getElem?_eq_some_iff.1 hu).1
        rwa [flat_len entC 3 _ (fun _ _ => rfl)] at this
      unfold sortWorldK Go.Sort.putRowK
      rw [Go.Sort.cell?_grow _ _ _ (by rw [Go.Sort.size_putRow]; exact hg)]
      rw [Go.Sort.cell?_putRow id (Go.Sort.ahead w n) g 0 (Go.Sort.flatK entC 3 l.toArray) (Go.Sort.flatK entC 3 d') hH (by simp [hdz]) j (by simpa using hj)]
      have e := flat_entC d'.toList j hj
      have e2 : d'.toList.toArray = d' := by simp
      rw [e2] at e
      show some ((Go.Sort.flatK entC 3 d')[j]!) = some u
      rw [e, List.getElem!_eq_getElem?_getD, hu]
      rfl
theorem sort_none (c : Nat) (w : World) : Calls Tryz.prog 130 #[.slice none 0 c, .func (.func 131) #[] #[]] w fun e w' => e = .returned (.tuple #[]) ∧ w' = w :=
  AnyF.slices_SortFunc_none Go.Proofs.Tryz.sortE none c _ w
#print axioms sort_any
end Go.Proofs.YtolpcfhfcdkokaaGreatDoor
