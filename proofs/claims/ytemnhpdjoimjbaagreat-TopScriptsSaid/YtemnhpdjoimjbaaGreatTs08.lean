import Derived.Shelf.Small.Bits
import Derived.Shelf.Strconv.Itoa0
import Derived.Shelf.Bits.Mul64
import Derived.Ground.SlbCloneProg
import Derived.Shelf.Bytes.SlClone
import Derived.Ground.SlgnProg
import Derived.Shelf.SlicesG.Reverse
import Derived.Shelf.SlicesG.Clone
import Derived.Shelf.SlicesG.Delete
import Derived.Shelf.SlicesG.SearchI
import Derived.Shelf.SlicesG.Cells
import Derived.Shelf.SlicesE.Clone
import Derived.Ground.SlgfProg
import Derived.Shelf.SlicesQ.IndexFunc
import Derived.Shelf.SlicesQ.Reverse
import Derived.Ground.SlsfProg
import Derived.Shelf.SlSortCmp.InsertionK
import Derived.Shelf.SlSortCmp.SiftDownK
import Derived.Shelf.SlSortCmp.HeapSortK
import Derived.Shelf.SlSortCmp.MedianK
import Derived.Shelf.SlSortCmp.PivotK
import Derived.Shelf.SlSortCmp.ReverseRangeK
import Derived.Shelf.SlSortCmp.PartialInsertionK
import Derived.Shelf.SlSortCmp.PartitionEqualK
import Derived.Shelf.SlSortCmp.PartitionK
import Derived.Shelf.SlSortCmp.PdqK
import Derived.Shelf.SlSortCmp.WholeK
import Derived.Test.YtemnhpdjoimjbaaGreatProg
namespace Go.Proofs
open Go.Shelf
def Tryz.lays128_ren : Go.Shelf.Ren := ⟨fun | 128 => 81 | n => n, fun | 51 => 178 | 3 => 3 | 4 => 4 | 46 => 91 | 5 => 5 | 9 => 9 | n => n, fun | n => n⟩
def Tryz.lays125_ren : Go.Shelf.Ren := ⟨fun | 125 => 53 | 128 => 81 | 129 => 82 | n => n, fun | 46 => 91 | 3 => 3 | 51 => 178 | 53 => 78 | 4 => 4 | 5 => 5 | 9 => 9 | n => n, fun | n => n⟩
theorem Tryz.lays125 : Go.Proofs.Lays.n125 Tryz.prog Tryz.lays125_ren := {
 mixed := by kernel_rfl
 f125 := Tryz.func53.trans (congrArg some (by kernel_rfl))
 f128 := Tryz.func81.trans (congrArg some (by kernel_rfl))
 f129 := Tryz.func82.trans (congrArg some (by kernel_rfl))
 t3 := Tryz.underlying3
 a3 := Tryz.isAgg3
 z3 := Tryz.sizeOf3
 v3 := Tryz.zeroValue3
 t4 := Tryz.underlying4
 a4 := Tryz.isAgg4
 z4 := Tryz.sizeOf4
 v4 := Tryz.zeroValue4
 t5 := Tryz.underlying5
 a5 := Tryz.isAgg5
 z5 := Tryz.sizeOf5
 v5 := Tryz.zeroValue5
 t9 := Tryz.underlying9
 a9 := Tryz.isAgg9
 z9 := Tryz.sizeOf9
 v9 := Tryz.zeroValue9
 t46 := Tryz.underlying91
 a46 := Tryz.isAgg91
 z46 := Tryz.sizeOf91
 v46 := Tryz.zeroValue91
 t51 := Tryz.underlying178
 a51 := Tryz.isAgg178
 z51 := Tryz.sizeOf178
 v51 := Tryz.zeroValue178
 t53 := Tryz.underlying78
 a53 := Tryz.isAgg78
 z53 := Tryz.sizeOf78
 v53 := Tryz.zeroValue78 }
/-- bits.Len: "Len returns the minimum number of bits required to represent x; the result is 0 for x == 0.": IT RETURNS 'Lib.bitLen x'; the world is as it was. (A uint has 64 bits in the model.) ITS CALLEE bits.Len64 IS MET BY ITS OWN CONTRACT OFF THE SHELF (lay that first). (LAID: no walk: one application.) -/
theorem Tryz.bits_Len (x : Int) (w : World) (h0 : 0 ≤ x) (h1 : x ≤ 18446744073709551615) :
   Calls Tryz.prog 53 #[.int .u64 x] w fun e w' => e = .returned (.int .i64 (Lib.bitLen x.toNat)) ∧ w' = w := Any.bits_Len Tryz.lays125 x w h0 h1
def Tryz.lays129_ren : Go.Shelf.Ren := ⟨fun | 129 => 82 | n => n, fun | 53 => 78 | 3 => 3 | 4 => 4 | 46 => 91 | 5 => 5 | 9 => 9 | n => n, fun | n => n⟩
def Tryz.lays264_ren : Go.Shelf.Ren := ⟨fun | 264 => 187 | n => n, fun | 53 => 78 | 46 => 91 | n => n, fun | n => n⟩
def Tryz.laysSlK4_ren : Go.Shelf.Ren := ⟨fun | 4 => 45 | n => n, fun | 22 => 23 | 4 => 4 | 5 => 5 | n => n, fun | n => n⟩
theorem Tryz.laysSlK4 : Go.Proofs.SlLaysK.n4 Tryz.prog Tryz.laysSlK4_ren := {
 mixed := by kernel_rfl
 f4 := Tryz.func45.trans (congrArg some (by kernel_rfl))
 t4 := Tryz.underlying4
 a4 := Tryz.isAgg4
 z4 := Tryz.sizeOf4
 v4 := Tryz.zeroValue4
 t22 := Tryz.underlying23
 a22 := Tryz.isAgg23
 z22 := Tryz.sizeOf23
 v22 := Tryz.zeroValue23
 t5 := Tryz.underlying5
 i5 := by kernel_rfl }
open Go.RowKit Go.Lib in
/-- bytes.Clone: "Clone returns a copy of b[:len(b)]. The result may have additional unused capacity.": OF A SLICE THAT IS NOT nil IT RETURNS A SLICE THAT IS NOT nil, OF THE SAME BYTES, IN MEMORY OF THE CALL's OWN: in the how-to's words (6f): 'w'.ownsRow B e 1 v' n cells' · 'Below B w w'', B the heap's size at the call. b AT WHATEVER ADDRESS, its cells as 'open_ints' hands them ('a.add i'; the numbers 'xs'). No byte: no cell is asked for. (LAID: no walk: one application.) -/
theorem Tryz.bytes_Clone_at (a : Addr) (n c : Nat) (xs : List Int) (w : World) (hx : xs.length = n) (hbig : n ≤ 140737488355328) (hc : ∀ i, i < n → w.cell? (a.add i) = some (.int .u8 (xs.getD i 0))) :
   Calls Tryz.prog 45 #[.slice (some a) n c] w fun e w' => ∃ v', e = .returned v' ∧ w'.ownsRow w.heap.size 5 1 v' n (xs.map (Value.int .u8)) ∧ v' ≠ .slice none 0 0 ∧ Below w.heap.size w w' := Any.bytes_Clone_at Tryz.laysSlK4 a n c xs w hx hbig hc
open Go.RowKit Go.Lib in
/-- "Clone(nil) returns nil.": the world is as it was. (LAID: no walk: one application.) -/
theorem Tryz.bytes_Clone_nil (n c : Nat) (w : World) :
   Calls Tryz.prog 45 #[.slice none n c] w fun e w' => e = .returned (.slice none 0 0) ∧ w' = w := Any.bytes_Clone_nil Tryz.laysSlK4 n c w
def Tryz.laysSlN35_f188_ren : Go.Shelf.Ren := ⟨fun | 35 => 188 | n => n, fun | 22 => 43 | 23 => 2 | 3 => 3 | 4 => 4 | 0 => 0 | n => n, fun | n => n⟩
def Tryz.laysSlN41_f51_ren : Go.Shelf.Ren := ⟨fun | 41 => 51 | n => n, fun | 22 => 43 | 23 => 2 | 4 => 4 | n => n, fun | n => n⟩
theorem Tryz.laysSlN41_f51 : Go.Proofs.SlLaysN.n41 Tryz.prog Tryz.laysSlN41_f51_ren := {
 mixed := by kernel_rfl
 f41 := ⟨Tryz.f51.name, by decide, Tryz.func51.trans (congrArg some (by kernel_rfl))⟩
 t4 := Tryz.underlying4
 a4 := Tryz.isAgg4
 z4 := Tryz.sizeOf4
 v4 := Tryz.zeroValue4
 t22 := Tryz.underlying43
 a22 := Tryz.isAgg43
 z22 := Tryz.sizeOf43
 v22 := Tryz.zeroValue43
 t23 := Tryz.underlying2
 a23 := Tryz.isAgg2
 z23 := Tryz.sizeOf2
 v23 := Tryz.zeroValue2
 i23 := by kernel_rfl }
open Go.RowKit Go.Lib in
/-- slices.Clone at []int: "Clone returns a copy of the slice. The elements are copied using assignment, so this is a shallow clone. The result may have additional unused capacity. The result preserves the nilness of s.": OF A SLICE THAT IS NOT nil IT RETURNS A SLICE THAT IS NOT nil, OF THE SAME ELEMENTS, IN MEMORY OF THE CALL's OWN: in the how-to's words (6f): 'w'.ownsRow B e 1 v' n cells': v' begins at the head of a row among the blocks from B on (B: the heap's size at the call), not frozen, whose first cells are the elements · 'Below B w w'': below B all is as it was. The capacity is whatever the run-time gives. 'zs': what the cells behind the slice's address hold; 'zs.take n': its elements. (LAID AT THE INSTANCE 'slices.Clone[[]int64,int64]': no walk: one application.) -/
theorem Tryz.slices_Clone_int (b off n c : Nat) (zs : List Int) (w : World) (hz : n ≤ zs.length) (hbig : n * 8 ≤ 140737488355328) (hc : ∀ j, j < zs.length → w.cell? ⟨b, off + j, none⟩ = some (.int .i64 (zs.getD j 0))) :
   Calls Tryz.prog 51 #[.slice (some ⟨b, off, none⟩) n c] w fun e w' => ∃ v', e = .returned v' ∧ w'.ownsRow w.heap.size 2 1 v' n ((zs.take n).map (Value.int .i64)) ∧ v' ≠ .slice none 0 0 ∧ Below w.heap.size w w' := AnyG.slices_Clone_int Tryz.laysSlN41_f51 b off n c zs w hz hbig hc
open Go.RowKit Go.Lib in
theorem Tryz.slices_Clone_int_nil (n c : Nat) (w : World) :
   Calls Tryz.prog 51 #[.slice none n c] w fun e w' => e = .returned (.slice none 0 0) ∧ w' = w := AnyG.slices_Clone_int_nil Tryz.laysSlN41_f51 n c w
open Go.RowKit Go.Lib in
theorem Tryz.slices_Clone_int_zero (a : Addr) (c : Nat) (w : World) :
   Calls Tryz.prog 51 #[.slice (some a) 0 c] w fun e w' => ∃ v', e = .returned v' ∧ w'.ownsRow w.heap.size 2 1 v' 0 [] ∧ v' ≠ .slice none 0 0 ∧ Below w.heap.size w w' := AnyG.slices_Clone_int_zero Tryz.laysSlN41_f51 a c w
def Tryz.laysSlN45_f168_ren : Go.Shelf.Ren := ⟨fun | 45 => 168 | n => n, fun | 22 => 43 | 23 => 2 | 3 => 3 | 4 => 4 | 0 => 0 | n => n, fun | n => n⟩
theorem Tryz.laysSlN45_f168 : Go.Proofs.SlLaysN.n45 Tryz.prog Tryz.laysSlN45_f168_ren := {
 mixed := by kernel_rfl
 f45 := ⟨Tryz.f168.name, by decide, Tryz.func168.trans (congrArg some (by kernel_rfl))⟩
 t0 := Tryz.underlying0
 a0 := Tryz.isAgg0
 z0 := Tryz.sizeOf0
 v0 := Tryz.zeroValue0
 t3 := Tryz.underlying3
 a3 := Tryz.isAgg3
 z3 := Tryz.sizeOf3
 v3 := Tryz.zeroValue3
 t4 := Tryz.underlying4
 a4 := Tryz.isAgg4
 z4 := Tryz.sizeOf4
 v4 := Tryz.zeroValue4
 t22 := Tryz.underlying43
 a22 := Tryz.isAgg43
 z22 := Tryz.sizeOf43
 v22 := Tryz.zeroValue43
 t23 := Tryz.underlying2
 a23 := Tryz.isAgg2
 z23 := Tryz.sizeOf2
 v23 := Tryz.zeroValue2
 i23 := by kernel_rfl }
def Tryz.laysSlN68_f182_ren : Go.Shelf.Ren := ⟨fun | 68 => 182 | n => n, fun | 23 => 2 | 4 => 4 | n => n, fun | n => n⟩
def Tryz.laysSlN60_f176_ren : Go.Shelf.Ren := ⟨fun | 60 => 176 | n => n, fun | 23 => 2 | 4 => 4 | n => n, fun | n => n⟩
def Tryz.laysSlN59_f175_ren : Go.Shelf.Ren := ⟨fun | 59 => 175 | 68 => 182 | n => n, fun | 23 => 2 | 4 => 4 | n => n, fun | n => n⟩
def Tryz.laysSlN49_f167_ren : Go.Shelf.Ren := ⟨fun | 49 => 167 | 59 => 175 | 60 => 176 | 68 => 182 | n => n, fun | 22 => 43 | 23 => 2 | 3 => 3 | 4 => 4 | 51 => 91 | 0 => 0 | n => n, fun | n => n⟩
theorem Tryz.laysSlN49_f167 : Go.Proofs.SlLaysN.n49 Tryz.prog Tryz.laysSlN49_f167_ren := {
 mixed := by kernel_rfl
 f49 := ⟨Tryz.f167.name, by decide, Tryz.func167.trans (congrArg some (by kernel_rfl))⟩
 f59 := ⟨Tryz.f175.name, by decide, Tryz.func175.trans (congrArg some (by kernel_rfl))⟩
 f60 := ⟨Tryz.f176.name, by decide, Tryz.func176.trans (congrArg some (by kernel_rfl))⟩
 f68 := ⟨Tryz.f182.name, by decide, Tryz.func182.trans (congrArg some (by kernel_rfl))⟩
 t0 := Tryz.underlying0
 a0 := Tryz.isAgg0
 z0 := Tryz.sizeOf0
 v0 := Tryz.zeroValue0
 t3 := Tryz.underlying3
 a3 := Tryz.isAgg3
 z3 := Tryz.sizeOf3
 v3 := Tryz.zeroValue3
 t4 := Tryz.underlying4
 a4 := Tryz.isAgg4
 z4 := Tryz.sizeOf4
 v4 := Tryz.zeroValue4
 t22 := Tryz.underlying43
 a22 := Tryz.isAgg43
 z22 := Tryz.sizeOf43
 v22 := Tryz.zeroValue43
 t23 := Tryz.underlying2
 a23 := Tryz.isAgg2
 z23 := Tryz.sizeOf2
 v23 := Tryz.zeroValue2
 t51 := Tryz.underlying91
 a51 := Tryz.isAgg91
 z51 := Tryz.sizeOf91
 v51 := Tryz.zeroValue91 }
open Go.RowKit Go.Lib in
/-- slices.BinarySearch at []int: "BinarySearch searches for target in a sorted slice and returns the earliest position where target is found, or the position where target would appear in the sort order; it also returns a bool saying whether the target is really found in the slice. The slice must be sorted in increasing order.": OF A SORTED SLICE IT RETURNS how many elements are less than the target, and whether the target is among the elements; the world is as it was but for the count of draws. 'zs': what the cells behind the slice's address hold; 'zs.take n': its elements. (Of a slice that is not sorted: no contract here.) (LAID AT THE INSTANCE 'slices.BinarySearch[[]int64,int64]': no walk: one application.) -/
theorem Tryz.slices_BinarySearch_int (b off n c : Nat) (zs : List Int) (x : Int) (w : World) (hz : n ≤ zs.length) (hbig : n < 4611686018427387904) (hc : ∀ j, j < zs.length → w.cell? ⟨b, off + j, none⟩ = some (.int .i64 (zs.getD j 0))) (hs : (zs.take n).Pairwise (· ≤ ·)) :
   Calls Tryz.prog 167 #[.slice (some ⟨b, off, none⟩) n c, .int .i64 x] w fun e w' => e = .returned (.tuple #[.int .i64 ((zs.take n).countP (· < x) : Nat), .bool ((zs.take n).contains x)]) ∧ ∃ q, w' = w.drewN q := AnyG.slices_BinarySearch_int Tryz.laysSlN49_f167 b off n c zs x w hz hbig hc hs
open Go.RowKit Go.Lib Go.Sort in
theorem Tryz.slices_Delete_int_cells (b off n c i j : Nat) (zs : List Int) (w : World) (hz : n ≤ zs.length) (hcap : n ≤ c) (hm : c ≤ 9223372036854775807) (hij : i ≤ j) (hj : j ≤ n) (hc : ∀ j, j < zs.length → w.cell? ⟨b, off + j, none⟩ = some (.int .i64 (zs.getD j 0))) (hf : ∀ j, j < n → w.frozen? ⟨b, off + j, none⟩ = false) :
   Calls Tryz.prog 168 #[.slice (some ⟨b, off, none⟩) n c, .int .i64 i, .int .i64 j] w fun e w' => e = .returned (.slice (some ⟨b, off, none⟩) (n - (j - i)) c) ∧ ∃ q, w' = (w.drewN q).setCells b off (((zs.take n).take i ++ (zs.take n).drop j ++ List.replicate (j - i) 0).map (Value.int .i64)) := AnyG.slices_Delete_int_cells Tryz.laysSlN45_f168 b off n c i j zs w hz hcap hm hij hj hc hf
def Tryz.laysSlE041_f18_ren : Go.Shelf.Ren := ⟨fun | 41 => 18 | n => n, fun | 22 => 28 | 23 => 77 | 4 => 4 | n => n, fun | n => n⟩
theorem Tryz.laysSlE041_f18 : Go.Proofs.SlLaysE0.n41 Tryz.prog Tryz.laysSlE041_f18_ren := {
 mixed := by kernel_rfl
 f41 := ⟨Tryz.f18.name, by decide, Tryz.func18.trans (congrArg some (by kernel_rfl))⟩
 t4 := Tryz.underlying4
 a4 := Tryz.isAgg4
 z4 := Tryz.sizeOf4
 v4 := Tryz.zeroValue4
 t22 := Tryz.underlying28
 a22 := Tryz.isAgg28
 z22 := Tryz.sizeOf28
 v22 := Tryz.zeroValue28 }
open Go.RowKit Go.Lib in
/-- slices.Clone: "Clone returns a copy of the slice. The elements are copied using assignment, so this is a shallow clone. The result may have additional unused capacity. The result preserves the nilness of s.": OF A SLICE THAT IS NOT nil IT RETURNS A SLICE THAT IS NOT nil, OF THE SAME CELLS, IN MEMORY OF THE CALL's OWN ('ownsRow': the how-to's 6f); below the heap's size at the call all is as it was. (LAID AT THE INSTANCE 'slices.Clone[[]api.Policy,api.Policy]': no walk: one application.) -/
theorem Tryz.slices_Clone_f18 (i0 : TypeInfo) (z : Value) (size bytes : Nat) (hi : Tryz.prog.info? 77 = some i0) (hz0 : i0.zero = some z) (hz1 : i0.size = size) (hz2 : i0.bytes = bytes) (hzs : z.cells.size = size) (hsz : 0 < size) (z23 : ∀ w, (Go.sizeOf 77).run Tryz.prog w = .ok size w) (b off n c : Nat) (news : List Value) (w : World) (hl : news.length = n * size) (hn : n ≤ maxLen) (hbig : n * bytes ≤ 140737488355328) (hc : ∀ j u, news[j]? = some u → w.cell? ⟨b, off + j, none⟩ = some u) (h1 : ∀ u ∈ news, u.oneCell' = true) :
   Calls Tryz.prog 18 #[.slice (some ⟨b, off, none⟩) n c] w fun e w' => ∃ v', e = .returned v' ∧ w'.ownsRow w.heap.size 77 size v' n news ∧ v' ≠ .slice none 0 0 ∧ Below w.heap.size w w' := AnyE.slices_Clone Tryz.laysSlE041_f18 i0 z size bytes hi hz0 hz1 hz2 hzs hsz z23 b off n c news w hl hn hbig hc h1
def Tryz.laysSlE041_f51_ren : Go.Shelf.Ren := ⟨fun | 41 => 51 | n => n, fun | 22 => 43 | 23 => 2 | 4 => 4 | n => n, fun | n => n⟩
def Tryz.laysSlE041_f102_ren : Go.Shelf.Ren := ⟨fun | 41 => 102 | n => n, fun | 22 => 40 | 23 => 45 | 4 => 4 | n => n, fun | n => n⟩
theorem Tryz.laysSlE041_f102 : Go.Proofs.SlLaysE0.n41 Tryz.prog Tryz.laysSlE041_f102_ren := {
 mixed := by kernel_rfl
 f41 := ⟨Tryz.f102.name, by decide, Tryz.func102.trans (congrArg some (by kernel_rfl))⟩
 t4 := Tryz.underlying4
 a4 := Tryz.isAgg4
 z4 := Tryz.sizeOf4
 v4 := Tryz.zeroValue4
 t22 := Tryz.underlying40
 a22 := Tryz.isAgg40
 z22 := Tryz.sizeOf40
 v22 := Tryz.zeroValue40 }
open Go.RowKit Go.Lib in
/-- slices.Clone: "Clone returns a copy of the slice. The elements are copied using assignment, so this is a shallow clone. The result may have additional unused capacity. The result preserves the nilness of s.": OF A SLICE THAT IS NOT nil IT RETURNS A SLICE THAT IS NOT nil, OF THE SAME CELLS, IN MEMORY OF THE CALL's OWN ('ownsRow': the how-to's 6f); below the heap's size at the call all is as it was. (LAID AT THE INSTANCE 'slices.Clone[[]api.Cell,api.Cell]': no walk: one application.) -/
theorem Tryz.slices_Clone_f102 (i0 : TypeInfo) (z : Value) (size bytes : Nat) (hi : Tryz.prog.info? 45 = some i0) (hz0 : i0.zero = some z) (hz1 : i0.size = size) (hz2 : i0.bytes = bytes) (hzs : z.cells.size = size) (hsz : 0 < size) (z23 : ∀ w, (Go.sizeOf 45).run Tryz.prog w = .ok size w) (b off n c : Nat) (news : List Value) (w : World) (hl : news.length = n * size) (hn : n ≤ maxLen) (hbig : n * bytes ≤ 140737488355328) (hc : ∀ j u, news[j]? = some u → w.cell? ⟨b, off + j, none⟩ = some u) (h1 : ∀ u ∈ news, u.oneCell' = true) :
   Calls Tryz.prog 102 #[.slice (some ⟨b, off, none⟩) n c] w fun e w' => ∃ v', e = .returned v' ∧ w'.ownsRow w.heap.size 45 size v' n news ∧ v' ≠ .slice none 0 0 ∧ Below w.heap.size w w' := AnyE.slices_Clone Tryz.laysSlE041_f102 i0 z size bytes hi hz0 hz1 hz2 hzs hsz z23 b off n c news w hl hn hbig hc h1
def Tryz.laysSlE041_f122_ren : Go.Shelf.Ren := ⟨fun | 41 => 122 | n => n, fun | 22 => 146 | 23 => 185 | 4 => 4 | n => n, fun | n => n⟩
theorem Tryz.laysSlE041_f122 : Go.Proofs.SlLaysE0.n41 Tryz.prog Tryz.laysSlE041_f122_ren := {
 mixed := by kernel_rfl
 f41 := ⟨Tryz.f122.name, by decide, Tryz.func122.trans (congrArg some (by kernel_rfl))⟩
 t4 := Tryz.underlying4
 a4 := Tryz.isAgg4
 z4 := Tryz.sizeOf4
 v4 := Tryz.zeroValue4
 t22 := Tryz.underlying146
 a22 := Tryz.isAgg146
 z22 := Tryz.sizeOf146
 v22 := Tryz.zeroValue146 }
open Go.RowKit Go.Lib in
/-- slices.Clone: "Clone returns a copy of the slice. The elements are copied using assignment, so this is a shallow clone. The result may have additional unused capacity. The result preserves the nilness of s.": OF A SLICE THAT IS NOT nil IT RETURNS A SLICE THAT IS NOT nil, OF THE SAME CELLS, IN MEMORY OF THE CALL's OWN ('ownsRow': the how-to's 6f); below the heap's size at the call all is as it was. (LAID AT THE INSTANCE 'slices.Clone[[]mach.Access,mach.Access]': no walk: one application.) -/
theorem Tryz.slices_Clone_f122 (i0 : TypeInfo) (z : Value) (size bytes : Nat) (hi : Tryz.prog.info? 185 = some i0) (hz0 : i0.zero = some z) (hz1 : i0.size = size) (hz2 : i0.bytes = bytes) (hzs : z.cells.size = size) (hsz : 0 < size) (z23 : ∀ w, (Go.sizeOf 185).run Tryz.prog w = .ok size w) (b off n c : Nat) (news : List Value) (w : World) (hl : news.length = n * size) (hn : n ≤ maxLen) (hbig : n * bytes ≤ 140737488355328) (hc : ∀ j u, news[j]? = some u → w.cell? ⟨b, off + j, none⟩ = some u) (h1 : ∀ u ∈ news, u.oneCell' = true) :
   Calls Tryz.prog 122 #[.slice (some ⟨b, off, none⟩) n c] w fun e w' => ∃ v', e = .returned v' ∧ w'.ownsRow w.heap.size 185 size v' n news ∧ v' ≠ .slice none 0 0 ∧ Below w.heap.size w w' := AnyE.slices_Clone Tryz.laysSlE041_f122 i0 z size bytes hi hz0 hz1 hz2 hzs hsz z23 b off n c news w hl hn hbig hc h1
open Go.RowKit Go.Lib in
theorem Tryz.slices_Clone_nil_f102 (n c : Nat) (w : World) :
   Calls Tryz.prog 102 #[.slice none n c] w fun e w' => e = .returned (.slice none 0 0) ∧ w' = w := AnyE.slices_Clone_nil Tryz.laysSlE041_f102 n c w
def Tryz.laysSlH06_f136_ren : Go.Shelf.Ren := ⟨fun | 6 => 136 | n => n, fun | 22 => 40 | 23 => 45 | 25 => 194 | 3 => 3 | 0 => 0 | 4 => 4 | n => n, fun | n => n⟩
def Tryz.laysSlE035_f186_ren : Go.Shelf.Ren := ⟨fun | 35 => 186 | n => n, fun | 22 => 40 | 23 => 45 | 3 => 3 | 4 => 4 | 0 => 0 | n => n, fun | n => n⟩
def Tryz.laysSlF020_f73_ren : Go.Shelf.Ren := ⟨fun | 20 => 73 | n => n, fun | 24 => 45 | 22 => 40 | 3 => 3 | 25 => 97 | 4 => 4 | 0 => 0 | n => n, fun | n => n⟩
def Tryz.laysSlF046_f116_ren : Go.Shelf.Ren := ⟨fun | 46 => 116 | n => n, fun | 24 => 45 | 22 => 40 | 3 => 3 | 25 => 97 | 4 => 4 | 0 => 0 | n => n, fun | n => n⟩
def Tryz.laysSlF021_f74_ren : Go.Shelf.Ren := ⟨fun | 21 => 74 | 46 => 116 | n => n, fun | 24 => 45 | 22 => 40 | 3 => 3 | 25 => 97 | 4 => 4 | 0 => 0 | n => n, fun | n => n⟩
def Tryz.laysSlF057_f154_ren : Go.Shelf.Ren := ⟨fun | 57 => 154 | n => n, fun | 24 => 45 | 22 => 40 | 3 => 3 | 70 => 211 | 25 => 97 | 0 => 0 | 4 => 4 | n => n, fun | n => n⟩
def Tryz.laysSlF050_f120_ren : Go.Shelf.Ren := ⟨fun | 50 => 120 | 57 => 154 | n => n, fun | 24 => 45 | 22 => 40 | 3 => 3 | 70 => 211 | 25 => 97 | 77 => 234 | 0 => 0 | 4 => 4 | n => n, fun | n => n⟩
def Tryz.laysSlF049_f119_ren : Go.Shelf.Ren := ⟨fun | 49 => 119 | 50 => 120 | 57 => 154 | n => n, fun | 24 => 45 | 22 => 40 | 3 => 3 | 70 => 211 | 25 => 97 | 77 => 234 | 0 => 0 | 4 => 4 | n => n, fun | n => n⟩
def Tryz.laysSlF023_f76_ren : Go.Shelf.Ren := ⟨fun | 23 => 76 | 49 => 119 | 50 => 120 | 57 => 154 | n => n, fun | 24 => 45 | 22 => 40 | 3 => 3 | 25 => 97 | 45 => 171 | 0 => 0 | 4 => 4 | 70 => 211 | 77 => 234 | n => n, fun | n => n⟩
def Tryz.laysSlF024_f77_ren : Go.Shelf.Ren := ⟨fun | 24 => 77 | n => n, fun | 24 => 45 | 22 => 40 | 3 => 3 | 25 => 97 | 4 => 4 | 0 => 0 | n => n, fun | n => n⟩
def Tryz.laysSlF025_f78_ren : Go.Shelf.Ren := ⟨fun | 25 => 78 | n => n, fun | 24 => 45 | 22 => 40 | 3 => 3 | 25 => 97 | 4 => 4 | 0 => 0 | n => n, fun | n => n⟩
def Tryz.laysSlF026_f79_ren : Go.Shelf.Ren := ⟨fun | 26 => 79 | n => n, fun | 24 => 45 | 22 => 40 | 3 => 3 | 25 => 97 | 0 => 0 | 4 => 4 | n => n, fun | n => n⟩
def Tryz.laysSlF027_f80_ren : Go.Shelf.Ren := ⟨fun | 27 => 80 | n => n, fun | 24 => 45 | 22 => 40 | 3 => 3 | 25 => 97 | 4 => 4 | 0 => 0 | n => n, fun | n => n⟩
def Tryz.laysSlF014_f52_ren : Go.Shelf.Ren := ⟨fun | 14 => 52 | 20 => 73 | 21 => 74 | 22 => 75 | 23 => 76 | 24 => 77 | 25 => 78 | 26 => 79 | 27 => 80 | 46 => 116 | 47 => 117 | 48 => 118 | 49 => 119 | 50 => 120 | 15 => 53 | 57 => 154 | 28 => 81 | 29 => 82 | n => n, fun | 24 => 45 | 22 => 40 | 3 => 3 | 25 => 97 | 4 => 4 | 0 => 0 | 46 => 172 | 45 => 171 | 50 => 137 | 66 => 207 | 39 => 91 | 55 => 78 | 70 => 211 | 76 => 233 | 77 => 234 | 53 => 178 | 5 => 5 | 9 => 9 | n => n, fun | n => n⟩
def Tryz.laysSlF06_f26_ren : Go.Shelf.Ren := ⟨fun | 6 => 26 | 15 => 53 | 14 => 52 | 28 => 81 | 29 => 82 | 20 => 73 | 21 => 74 | 22 => 75 | 23 => 76 | 24 => 77 | 25 => 78 | 26 => 79 | 27 => 80 | 46 => 116 | 47 => 117 | 48 => 118 | 49 => 119 | 50 => 120 | 57 => 154 | n => n, fun | 22 => 40 | 24 => 45 | 25 => 97 | 3 => 3 | 39 => 91 | 0 => 0 | 53 => 178 | 55 => 78 | 4 => 4 | 46 => 172 | 45 => 171 | 50 => 137 | 5 => 5 | 9 => 9 | 66 => 207 | 70 => 211 | 76 => 233 | 77 => 234 | n => n, fun | n => n⟩
theorem Tryz.laysSlF06_f26 : Go.Proofs.SlLaysF0.n6 Tryz.prog Tryz.laysSlF06_f26_ren := {
 mixed := by kernel_rfl
 f6 := ⟨Tryz.f26.name, by decide, Tryz.func26.trans (congrArg some (by kernel_rfl))⟩
 f14 := ⟨Tryz.f52.name, by decide, Tryz.func52.trans (congrArg some (by kernel_rfl))⟩
 f15 := Tryz.func53.trans (congrArg some (by kernel_rfl))
 f20 := ⟨Tryz.f73.name, by decide, Tryz.func73.trans (congrArg some (by kernel_rfl))⟩
 f21 := ⟨Tryz.f74.name, by decide, Tryz.func74.trans (congrArg some (by kernel_rfl))⟩
 f22 := ⟨Tryz.f75.name, by decide, Tryz.func75.trans (congrArg some (by kernel_rfl))⟩
 f23 := ⟨Tryz.f76.name, by decide, Tryz.func76.trans (congrArg some (by kernel_rfl))⟩
 f24 := ⟨Tryz.f77.name, by decide, Tryz.func77.trans (congrArg some (by kernel_rfl))⟩
 f25 := ⟨Tryz.f78.name, by decide, Tryz.func78.trans (congrArg some (by kernel_rfl))⟩
 f26 := ⟨Tryz.f79.name, by decide, Tryz.func79.trans (congrArg some (by kernel_rfl))⟩
 f27 := ⟨Tryz.f80.name, by decide, Tryz.func80.trans (congrArg some (by kernel_rfl))⟩
 f28 := Tryz.func81.trans (congrArg some (by kernel_rfl))
 f29 := Tryz.func82.trans (congrArg some (by kernel_rfl))
 f46 := ⟨Tryz.f116.name, by decide, Tryz.func116.trans (congrArg some (by kernel_rfl))⟩
 f47 := Tryz.func117.trans (congrArg some (by kernel_rfl))
 f48 := Tryz.func118.trans (congrArg some (by kernel_rfl))
 f49 := ⟨Tryz.f119.name, by decide, Tryz.func119.trans (congrArg some (by kernel_rfl))⟩
 f50 := ⟨Tryz.f120.name, by decide, Tryz.func120.trans (congrArg some (by kernel_rfl))⟩
 f57 := ⟨Tryz.f154.name, by decide, Tryz.func154.trans (congrArg some (by kernel_rfl))⟩
 t0 := Tryz.underlying0
 a0 := Tryz.isAgg0
 z0 := Tryz.sizeOf0
 v0 := Tryz.zeroValue0
 t3 := Tryz.underlying3
 a3 := Tryz.isAgg3
 z3 := Tryz.sizeOf3
 v3 := Tryz.zeroValue3
 t4 := Tryz.underlying4
 a4 := Tryz.isAgg4
 z4 := Tryz.sizeOf4
 v4 := Tryz.zeroValue4
 t5 := Tryz.underlying5
 a5 := Tryz.isAgg5
 z5 := Tryz.sizeOf5
 v5 := Tryz.zeroValue5
 t9 := Tryz.underlying9
 a9 := Tryz.isAgg9
 z9 := Tryz.sizeOf9
 v9 := Tryz.zeroValue9
 t22 := Tryz.underlying40
 a22 := Tryz.isAgg40
 z22 := Tryz.sizeOf40
 v22 := Tryz.zeroValue40
 t25 := Tryz.underlying97
 a25 := Tryz.isAgg97
 z25 := Tryz.sizeOf97
 v25 := Tryz.zeroValue97
 t39 := Tryz.underlying91
 a39 := Tryz.isAgg91
 z39 := Tryz.sizeOf91
 v39 := Tryz.zeroValue91
 t45 := Tryz.underlying171
 a45 := Tryz.isAgg171
 z45 := Tryz.sizeOf171
 v45 := Tryz.zeroValue171
 t46 := Tryz.underlying172
 a46 := Tryz.isAgg172
 z46 := Tryz.sizeOf172
 v46 := Tryz.zeroValue172
 t50 := Tryz.underlying137
 a50 := Tryz.isAgg137
 z50 := Tryz.sizeOf137
 v50 := Tryz.zeroValue137
 t53 := Tryz.underlying178
 a53 := Tryz.isAgg178
 z53 := Tryz.sizeOf178
 v53 := Tryz.zeroValue178
 t55 := Tryz.underlying78
 a55 := Tryz.isAgg78
 z55 := Tryz.sizeOf78
 v55 := Tryz.zeroValue78
 t66 := Tryz.underlying207
 a66 := Tryz.isAgg207
 z66 := Tryz.sizeOf207
 v66 := Tryz.zeroValue207
 t70 := Tryz.underlying211
 a70 := Tryz.isAgg211
 z70 := Tryz.sizeOf211
 v70 := Tryz.zeroValue211
 t76 := Tryz.underlying233
 a76 := Tryz.isAgg233
 z76 := Tryz.sizeOf233
 v76 := Tryz.zeroValue233
 t77 := Tryz.underlying234
 a77 := Tryz.isAgg234
 z77 := Tryz.sizeOf234
 v77 := Tryz.zeroValue234 }
open Go.RowKit Go.Lib Go.Sort in
/-- **slices.SortFunc, IN THE DOCUMENTATION's OWN TERMS: A PERMUTATION OF WHAT THE ROW HELD, SORTED BY 'cmp(a, b) < 0'.** Which of two equals comes first is left open ("The sort is not guaranteed to be stable"). (LAID AT THE INSTANCE 'slices.SortFunc[[]api.Cell,api.Cell]': no walk: one application.) -/
theorem Tryz.slices_SortFunc {α : Type} [Inhabited α] (k : Nat) (aE : ∀ w, (isAgg 45).run Tryz.prog w = .ok true w) (zE : ∀ w, (Go.sizeOf 45).run Tryz.prog w = .ok k w) (enc : α → List Value) (hk : ∀ x, (enc x).length = k) (h1 : ∀ x, ∀ v ∈ enc x, v.oneCell' = true) (cf : α → α → Int) (hO : SWO (ltOf cf)) (g : Nat) (cb : Array Value) (blk off cap : Nat) (d : Array α) (w : World) (eg : ∀ args w, (callFunc g args).run Tryz.prog w = .ok (.enter g args) w) (hcmp : CmpLays Tryz.prog g cb enc k cf blk off d.size w) (hH : HoldsK enc k w blk off d) (hblk : blk < w.heap.size) (hsz : d.size < 4611686018427387904) :
   Calls Tryz.prog 26 #[.slice (some ⟨blk, off, none⟩) d.size cap, .func (.func g) #[] cb] w fun e w' =>
     e = .returned (.tuple #[]) ∧ ∃ d' n os, PermIn 0 d.size d d' ∧ SortedIn (ltOf cf) 0 d.size d' ∧ w' = sortWorldK enc k w blk off n d' os := AnyQ.slices_SortFunc Tryz.laysSlF06_f26 k aE zE enc hk h1 cf hO g cb blk off cap d w eg hcmp hH hblk hsz
end Go.Proofs
