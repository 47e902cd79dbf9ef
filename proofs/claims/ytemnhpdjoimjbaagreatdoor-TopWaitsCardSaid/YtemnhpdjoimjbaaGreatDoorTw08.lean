import Derived.Shelf.Bits.Mul64
import Derived.Ground.SlbCloneProg
import Derived.Shelf.Bytes.SlClone
import Derived.Ground.SlgnProg
import Derived.Shelf.SlicesG.Reverse
import Derived.Shelf.SlicesG.Clone
import Derived.Shelf.SlicesG.Delete
import Derived.Shelf.SlicesG.SearchI
import Derived.Shelf.SlicesG.Cells
import Derived.Shelf.SlicesE.Clone
import Derived.Ground.SlgfProg
import Derived.Shelf.SlicesQ.IndexFunc
import Derived.Shelf.SlicesQ.Reverse
import Derived.Test.YtemnhpdjoimjbaaGreatDoorProg
import Derived.Test.YtemnhpdjoimjbaaGreatDoorTw07
import Derived.Deep.RegionHeld3
import Derived.Deep.AppendLies
section
namespace Go.Proofs
open Go.Shelf
def Tryz.lays264_ren :Go.Shelf.Ren:=⟨fun|264=>184|n=>n,fun|53=>61|46=>73|n=>n,fun|n=>n⟩
def Tryz.laysSlK4_ren :Go.Shelf.Ren:=⟨fun|4=>37|n=>n,fun|22=>29|4=>4|5=>5|n=>n,fun|n=>n⟩
theorem Tryz.laysSlK4 :Go.Proofs.SlLaysK.n4 Tryz.prog Tryz.laysSlK4_ren:={
 mixed:=by kernel_rfl
 f4:=Tryz.func37.trans (congrArg some (by kernel_rfl))
 t4:=Tryz.underlying4
 a4:=Tryz.isAgg4
 z4:=Tryz.sizeOf4
 v4:=Tryz.zeroValue4
 t22:=Tryz.underlying29
 a22:=Tryz.isAgg29
 z22:=Tryz.sizeOf29
 v22:=Tryz.zeroValue29
 t5:=Tryz.underlying5
 i5:=by kernel_rfl }
open Go.RowKit Go.Lib in
/-- bytes.Clone: "Clone returns a copy of b[:len(b)]. The result may have additional unused capacity.": OF A SLICE THAT IS NOT nil IT RETURNS A SLICE THAT IS NOT nil, OF THE SAME BYTES, IN MEMORY OF THE CALL's OWN: in the how-to's words (6f): 'w'.ownsRow B e 1 v' n cells' · 'Below B w w'', B the heap's size at the call. b AT WHATEVER ADDRESS, its cells as 'open_ints' hands them ('a.add i'; the numbers 'xs'). No byte: no cell is asked for. (LAID: no walk: one application.) -/
theorem Tryz.bytes_Clone_at (a:Addr) (n c:Nat) (xs:List Int) (w:World) (hx:xs.length=n) (hbig:n≤140737488355328) (hc: ∀i,i<n→w.cell? (a.add i)=some (.int .u8 (xs.getD i 0))):
   Calls Tryz.prog 37 #[.slice (some a) n c] w fun e w'=> ∃v',e= .returned v'∧w'.ownsRow w.heap.size 5 1 v' n (xs.map (Value.int .u8))∧v'≠ .slice none 0 0∧Below w.heap.size w w':=Any.bytes_Clone_at Tryz.laysSlK4 a n c xs w hx hbig hc
open Go.RowKit Go.Lib in
/-- "Clone(nil) returns nil.": the world is as it was. (LAID: no walk: one application.) -/
theorem Tryz.bytes_Clone_nil (n c:Nat) (w:World):
   Calls Tryz.prog 37 #[.slice none n c] w fun e w'=>e= .returned (.slice none 0 0)∧w'=w:=Any.bytes_Clone_nil Tryz.laysSlK4 n c w
def Tryz.laysSlN35_f185_ren :Go.Shelf.Ren:=⟨fun|35=>185|n=>n,fun|22=>98|23=>2|3=>3|4=>4|0=>0|n=>n,fun|n=>n⟩
def Tryz.laysSlN41_f163_ren :Go.Shelf.Ren:=⟨fun|41=>163|n=>n,fun|22=>98|23=>2|4=>4|n=>n,fun|n=>n⟩
theorem Tryz.laysSlN41_f163 :Go.Proofs.SlLaysN.n41 Tryz.prog Tryz.laysSlN41_f163_ren:={
 mixed:=by kernel_rfl
 f41:=⟨Tryz.f163.name,by decide,Tryz.func163.trans (congrArg some (by kernel_rfl))⟩
 t4:=Tryz.underlying4
 a4:=Tryz.isAgg4
 z4:=Tryz.sizeOf4
 v4:=Tryz.zeroValue4
 t22:=Tryz.underlying98
 a22:=Tryz.isAgg98
 z22:=Tryz.sizeOf98
 v22:=Tryz.zeroValue98
 t23:=Tryz.underlying2
 a23:=Tryz.isAgg2
 z23:=Tryz.sizeOf2
 v23:=Tryz.zeroValue2
 i23:=by kernel_rfl }
open Go.RowKit Go.Lib in
/-- slices.Clone at []int: "Clone returns a copy of the slice. The elements are copied using assignment, so this is a shallow clone. The result may have additional unused capacity. The result preserves the nilness of s.": OF A SLICE THAT IS NOT nil IT RETURNS A SLICE THAT IS NOT nil, OF THE SAME ELEMENTS, IN MEMORY OF THE CALL's OWN: in the how-to's words (6f): 'w'.ownsRow B e 1 v' n cells': v' begins at the head of a row among the blocks from B on (B: the heap's size at the call), not frozen, whose first cells are the elements · 'Below B w w'': below B all is as it was. The capacity is whatever the run-time gives. 'zs': what the cells behind the slice's address hold; 'zs.take n': its elements. (LAID AT THE INSTANCE 'slices.Clone[[]int64,int64]': no walk: one application.) -/
theorem Tryz.slices_Clone_int (b off n c:Nat) (zs:List Int) (w:World) (hz:n≤zs.length) (hbig:n*8≤140737488355328) (hc: ∀j,j<zs.length→w.cell? ⟨b,off+j,none⟩=some (.int .i64 (zs.getD j 0))):
   Calls Tryz.prog 163 #[.slice (some ⟨b,off,none⟩) n c] w fun e w'=> ∃v',e= .returned v'∧w'.ownsRow w.heap.size 2 1 v' n ((zs.take n).map (Value.int .i64))∧v'≠ .slice none 0 0∧Below w.heap.size w w':=AnyG.slices_Clone_int Tryz.laysSlN41_f163 b off n c zs w hz hbig hc
open Go.RowKit Go.Lib in
theorem Tryz.slices_Clone_int_nil (n c:Nat) (w:World):
   Calls Tryz.prog 163 #[.slice none n c] w fun e w'=>e= .returned (.slice none 0 0)∧w'=w:=AnyG.slices_Clone_int_nil Tryz.laysSlN41_f163 n c w
open Go.RowKit Go.Lib in
theorem Tryz.slices_Clone_int_zero (a:Addr) (c:Nat) (w:World):
   Calls Tryz.prog 163 #[.slice (some a) 0 c] w fun e w'=> ∃v',e= .returned v'∧w'.ownsRow w.heap.size 2 1 v' 0 []∧v'≠ .slice none 0 0∧Below w.heap.size w w':=AnyG.slices_Clone_int_zero Tryz.laysSlN41_f163 a c w
def Tryz.laysSlN45_f162_ren :Go.Shelf.Ren:=⟨fun|45=>162|n=>n,fun|22=>98|23=>2|3=>3|4=>4|0=>0|n=>n,fun|n=>n⟩
theorem Tryz.laysSlN45_f162 :Go.Proofs.SlLaysN.n45 Tryz.prog Tryz.laysSlN45_f162_ren:={
 mixed:=by kernel_rfl
 f45:=⟨Tryz.f162.name,by decide,Tryz.func162.trans (congrArg some (by kernel_rfl))⟩
 t0:=Tryz.underlying0
 a0:=Tryz.isAgg0
 z0:=Tryz.sizeOf0
 v0:=Tryz.zeroValue0
 t3:=Tryz.underlying3
 a3:=Tryz.isAgg3
 z3:=Tryz.sizeOf3
 v3:=Tryz.zeroValue3
 t4:=Tryz.underlying4
 a4:=Tryz.isAgg4
 z4:=Tryz.sizeOf4
 v4:=Tryz.zeroValue4
 t22:=Tryz.underlying98
 a22:=Tryz.isAgg98
 z22:=Tryz.sizeOf98
 v22:=Tryz.zeroValue98
 t23:=Tryz.underlying2
 a23:=Tryz.isAgg2
 z23:=Tryz.sizeOf2
 v23:=Tryz.zeroValue2
 i23:=by kernel_rfl }
def Tryz.laysSlN68_f179_ren :Go.Shelf.Ren:=⟨fun|68=>179|n=>n,fun|23=>2|4=>4|n=>n,fun|n=>n⟩
def Tryz.laysSlN60_f172_ren :Go.Shelf.Ren:=⟨fun|60=>172|n=>n,fun|23=>2|4=>4|n=>n,fun|n=>n⟩
def Tryz.laysSlN59_f171_ren :Go.Shelf.Ren:=⟨fun|59=>171|68=>179|n=>n,fun|23=>2|4=>4|n=>n,fun|n=>n⟩
def Tryz.laysSlN49_f161_ren :Go.Shelf.Ren:=⟨fun|49=>161|59=>171|60=>172|68=>179|n=>n,fun|22=>98|23=>2|3=>3|4=>4|51=>73|0=>0|n=>n,fun|n=>n⟩
theorem Tryz.laysSlN49_f161 :Go.Proofs.SlLaysN.n49 Tryz.prog Tryz.laysSlN49_f161_ren:={
 mixed:=by kernel_rfl
 f49:=⟨Tryz.f161.name,by decide,Tryz.func161.trans (congrArg some (by kernel_rfl))⟩
 f59:=⟨Tryz.f171.name,by decide,Tryz.func171.trans (congrArg some (by kernel_rfl))⟩
 f60:=⟨Tryz.f172.name,by decide,Tryz.func172.trans (congrArg some (by kernel_rfl))⟩
 f68:=⟨Tryz.f179.name,by decide,Tryz.func179.trans (congrArg some (by kernel_rfl))⟩
 t0:=Tryz.underlying0
 a0:=Tryz.isAgg0
 z0:=Tryz.sizeOf0
 v0:=Tryz.zeroValue0
 t3:=Tryz.underlying3
 a3:=Tryz.isAgg3
 z3:=Tryz.sizeOf3
 v3:=Tryz.zeroValue3
 t4:=Tryz.underlying4
 a4:=Tryz.isAgg4
 z4:=Tryz.sizeOf4
 v4:=Tryz.zeroValue4
 t22:=Tryz.underlying98
 a22:=Tryz.isAgg98
 z22:=Tryz.sizeOf98
 v22:=Tryz.zeroValue98
 t23:=Tryz.underlying2
 a23:=Tryz.isAgg2
 z23:=Tryz.sizeOf2
 v23:=Tryz.zeroValue2
 t51:=Tryz.underlying73
 a51:=Tryz.isAgg73
 z51:=Tryz.sizeOf73
 v51:=Tryz.zeroValue73 }
open Go.RowKit Go.Lib in
/-- slices.BinarySearch at []int: "BinarySearch searches for target in a sorted slice and returns the earliest position where target is found, or the position where target would appear in the sort order; it also returns a bool saying whether the target is really found in the slice. The slice must be sorted in increasing order.": OF A SORTED SLICE IT RETURNS how many elements are less than the target, and whether the target is among the elements; the world is as it was but for the count of draws. 'zs': what the cells behind the slice's address hold; 'zs.take n': its elements. (Of a slice that is not sorted: no contract here.) (LAID AT THE INSTANCE 'slices.BinarySearch[[]int64,int64]': no walk: one application.) -/
theorem Tryz.slices_BinarySearch_int (b off n c:Nat) (zs:List Int) (x:Int) (w:World) (hz:n≤zs.length) (hbig:n<4611686018427387904) (hc: ∀j,j<zs.length→w.cell? ⟨b,off+j,none⟩=some (.int .i64 (zs.getD j 0))) (hs:(zs.take n).Pairwise (· ≤ ·)):
   Calls Tryz.prog 161 #[.slice (some ⟨b,off,none⟩) n c,.int .i64 x] w fun e w'=>e= .returned (.tuple #[.int .i64 ((zs.take n).countP (· <x):Nat),.bool ((zs.take n).contains x)])∧ ∃q,w'=w.drewN q:=AnyG.slices_BinarySearch_int Tryz.laysSlN49_f161 b off n c zs x w hz hbig hc hs
open Go.RowKit Go.Lib Go.Sort in
theorem Tryz.slices_Delete_int_cells (b off n c i j:Nat) (zs:List Int) (w:World) (hz:n≤zs.length) (hcap:n≤c) (hm:c≤9223372036854775807) (hij:i≤j) (hj:j≤n) (hc: ∀j,j<zs.length→w.cell? ⟨b,off+j,none⟩=some (.int .i64 (zs.getD j 0))) (hf: ∀j,j<n→w.frozen? ⟨b,off+j,none⟩=false):
   Calls Tryz.prog 162 #[.slice (some ⟨b,off,none⟩) n c,.int .i64 i,.int .i64 j] w fun e w'=>e= .returned (.slice (some ⟨b,off,none⟩) (n-(j-i)) c)∧ ∃q,w'=(w.drewN q).setCells b off (((zs.take n).take i++(zs.take n).drop j++List.replicate (j-i) 0).map (Value.int .i64)):=AnyG.slices_Delete_int_cells Tryz.laysSlN45_f162 b off n c i j zs w hz hcap hm hij hj hc hf
def Tryz.laysSlE041_f16_ren :Go.Shelf.Ren:=⟨fun|41=>16|n=>n,fun|22=>27|23=>60|4=>4|n=>n,fun|n=>n⟩
theorem Tryz.laysSlE041_f16 :Go.Proofs.SlLaysE0.n41 Tryz.prog Tryz.laysSlE041_f16_ren:={
 mixed:=by kernel_rfl
 f41:=⟨Tryz.f16.name,by decide,Tryz.func16.trans (congrArg some (by kernel_rfl))⟩
 t4:=Tryz.underlying4
 a4:=Tryz.isAgg4
 z4:=Tryz.sizeOf4
 v4:=Tryz.zeroValue4
 t22:=Tryz.underlying27
 a22:=Tryz.isAgg27
 z22:=Tryz.sizeOf27
 v22:=Tryz.zeroValue27 }
open Go.RowKit Go.Lib in
/-- slices.Clone: "Clone returns a copy of the slice. The elements are copied using assignment, so this is a shallow clone. The result may have additional unused capacity. The result preserves the nilness of s.": OF A SLICE THAT IS NOT nil IT RETURNS A SLICE THAT IS NOT nil, OF THE SAME CELLS, IN MEMORY OF THE CALL's OWN ('ownsRow': the how-to's 6f); below the heap's size at the call all is as it was. (LAID AT THE INSTANCE 'slices.Clone[[]api.Policy,api.Policy]': no walk: one application.) -/
theorem Tryz.slices_Clone_f16 (i0:TypeInfo) (z:Value) (size bytes:Nat) (hi:Tryz.prog.info? 60=some i0) (hz0:i0.zero=some z) (hz1:i0.size=size) (hz2:i0.bytes=bytes) (hzs:z.cells.size=size) (hsz:0<size) (z23: ∀w,(Go.sizeOf 60).run Tryz.prog w= .ok size w) (b off n c:Nat) (news:List Value) (w:World) (hl:news.length=n*size) (hn:n≤maxLen) (hbig:n*bytes≤140737488355328) (hc: ∀j u,news[j]? =some u→w.cell? ⟨b,off+j,none⟩=some u) (h1: ∀u∈news,u.oneCell'=true):
   Calls Tryz.prog 16 #[.slice (some ⟨b,off,none⟩) n c] w fun e w'=> ∃v',e= .returned v'∧w'.ownsRow w.heap.size 60 size v' n news∧v'≠ .slice none 0 0∧Below w.heap.size w w':=AnyE.slices_Clone Tryz.laysSlE041_f16 i0 z size bytes hi hz0 hz1 hz2 hzs hsz z23 b off n c news w hl hn hbig hc h1
def Tryz.laysSlE041_f93_ren :Go.Shelf.Ren:=⟨fun|41=>93|n=>n,fun|22=>64|23=>100|4=>4|n=>n,fun|n=>n⟩
theorem Tryz.laysSlE041_f93 :Go.Proofs.SlLaysE0.n41 Tryz.prog Tryz.laysSlE041_f93_ren:={
 mixed:=by kernel_rfl
 f41:=⟨Tryz.f93.name,by decide,Tryz.func93.trans (congrArg some (by kernel_rfl))⟩
 t4:=Tryz.underlying4
 a4:=Tryz.isAgg4
 z4:=Tryz.sizeOf4
 v4:=Tryz.zeroValue4
 t22:=Tryz.underlying64
 a22:=Tryz.isAgg64
 z22:=Tryz.sizeOf64
 v22:=Tryz.zeroValue64 }
open Go.RowKit Go.Lib in
/-- slices.Clone: "Clone returns a copy of the slice. The elements are copied using assignment, so this is a shallow clone. The result may have additional unused capacity. The result preserves the nilness of s.": OF A SLICE THAT IS NOT nil IT RETURNS A SLICE THAT IS NOT nil, OF THE SAME CELLS, IN MEMORY OF THE CALL's OWN ('ownsRow': the how-to's 6f); below the heap's size at the call all is as it was. (LAID AT THE INSTANCE 'slices.Clone[[]api.Cell,api.Cell]': no walk: one application.) -/
theorem Tryz.slices_Clone_f93 (i0:TypeInfo) (z:Value) (size bytes:Nat) (hi:Tryz.prog.info? 100=some i0) (hz0:i0.zero=some z) (hz1:i0.size=size) (hz2:i0.bytes=bytes) (hzs:z.cells.size=size) (hsz:0<size) (z23: ∀w,(Go.sizeOf 100).run Tryz.prog w= .ok size w) (b off n c:Nat) (news:List Value) (w:World) (hl:news.length=n*size) (hn:n≤maxLen) (hbig:n*bytes≤140737488355328) (hc: ∀j u,news[j]? =some u→w.cell? ⟨b,off+j,none⟩=some u) (h1: ∀u∈news,u.oneCell'=true):
   Calls Tryz.prog 93 #[.slice (some ⟨b,off,none⟩) n c] w fun e w'=> ∃v',e= .returned v'∧w'.ownsRow w.heap.size 100 size v' n news∧v'≠ .slice none 0 0∧Below w.heap.size w w':=AnyE.slices_Clone Tryz.laysSlE041_f93 i0 z size bytes hi hz0 hz1 hz2 hzs hsz z23 b off n c news w hl hn hbig hc h1
def Tryz.laysSlE041_f115_ren :Go.Shelf.Ren:=⟨fun|41=>115|n=>n,fun|22=>119|23=>156|4=>4|n=>n,fun|n=>n⟩
theorem Tryz.laysSlE041_f115 :Go.Proofs.SlLaysE0.n41 Tryz.prog Tryz.laysSlE041_f115_ren:={
 mixed:=by kernel_rfl
 f41:=⟨Tryz.f115.name,by decide,Tryz.func115.trans (congrArg some (by kernel_rfl))⟩
 t4:=Tryz.underlying4
 a4:=Tryz.isAgg4
 z4:=Tryz.sizeOf4
 v4:=Tryz.zeroValue4
 t22:=Tryz.underlying119
 a22:=Tryz.isAgg119
 z22:=Tryz.sizeOf119
 v22:=Tryz.zeroValue119 }
open Go.RowKit Go.Lib in
/-- slices.Clone: "Clone returns a copy of the slice. The elements are copied using assignment, so this is a shallow clone. The result may have additional unused capacity. The result preserves the nilness of s.": OF A SLICE THAT IS NOT nil IT RETURNS A SLICE THAT IS NOT nil, OF THE SAME CELLS, IN MEMORY OF THE CALL's OWN ('ownsRow': the how-to's 6f); below the heap's size at the call all is as it was. (LAID AT THE INSTANCE 'slices.Clone[[]mach.Access,mach.Access]': no walk: one application.) -/
theorem Tryz.slices_Clone_f115 (i0:TypeInfo) (z:Value) (size bytes:Nat) (hi:Tryz.prog.info? 156=some i0) (hz0:i0.zero=some z) (hz1:i0.size=size) (hz2:i0.bytes=bytes) (hzs:z.cells.size=size) (hsz:0<size) (z23: ∀w,(Go.sizeOf 156).run Tryz.prog w= .ok size w) (b off n c:Nat) (news:List Value) (w:World) (hl:news.length=n*size) (hn:n≤maxLen) (hbig:n*bytes≤140737488355328) (hc: ∀j u,news[j]? =some u→w.cell? ⟨b,off+j,none⟩=some u) (h1: ∀u∈news,u.oneCell'=true):
   Calls Tryz.prog 115 #[.slice (some ⟨b,off,none⟩) n c] w fun e w'=> ∃v',e= .returned v'∧w'.ownsRow w.heap.size 156 size v' n news∧v'≠ .slice none 0 0∧Below w.heap.size w w':=AnyE.slices_Clone Tryz.laysSlE041_f115 i0 z size bytes hi hz0 hz1 hz2 hzs hsz z23 b off n c news w hl hn hbig hc h1
def Tryz.laysSlE041_f163_ren :Go.Shelf.Ren:=⟨fun|41=>163|n=>n,fun|22=>98|23=>2|4=>4|n=>n,fun|n=>n⟩
open Go.RowKit Go.Lib in
theorem Tryz.slices_Clone_nil_f93 (n c:Nat) (w:World):
   Calls Tryz.prog 93 #[.slice none n c] w fun e w'=>e= .returned (.slice none 0 0)∧w'=w:=AnyE.slices_Clone_nil Tryz.laysSlE041_f93 n c w
def Tryz.laysSlH06_f129_ren :Go.Shelf.Ren:=⟨fun|6=>129|n=>n,fun|22=>64|23=>100|25=>168|3=>3|0=>0|4=>4|n=>n,fun|n=>n⟩
def Tryz.laysSlE035_f183_ren :Go.Shelf.Ren:=⟨fun|35=>183|n=>n,fun|22=>64|23=>100|3=>3|4=>4|0=>0|n=>n,fun|n=>n⟩
end Go.Proofs
end
section
namespace Go.Proofs.YtemnhpdjoimjbaaGreatDoor
open Go.RowKit Top
set_option linter.unusedVariables false
structure Keeps (S:Nat→Prop) (w w':World):Prop where
 os:w'.os=w.os
 tape:w'.tape=w.tape
 output:w'.output=w.output
 size:w.heap.size≤w'.heap.size
 block: ∀k,k<w.heap.size→ ¬S k→w'.heap[k]? =w.heap[k]?
theorem Keeps.refl (S:Nat→Prop) (w:World):Keeps S w w:=⟨rfl,rfl,rfl,Nat.le_refl _,fun _ _ _=>rfl⟩
theorem Keeps.below {S:Nat→Prop} {a w w':World} (h:Keeps S a w) (k:Below w.heap.size w w'):Keeps S a w':=
 ⟨k.os.trans h.os,k.tape.trans h.tape,k.output.trans h.output,Nat.le_trans h.size k.size,fun i hi hs=>(k.block i (Nat.lt_of_lt_of_le hi h.size)).trans (h.block i hi hs)⟩
theorem Keeps.alloc {S:Nat→Prop} {a w:World} (h:Keeps S a w) (o:Obj):Keeps S a (w.alloc o):=h.below ((Below.refl _ _).alloc (Nat.le_refl _) o)
theorem Keeps.drew {S:Nat→Prop} {a w:World} (h:Keeps S a w):Keeps S a w.drew:=⟨h.os,h.tape,h.output,h.size,h.block⟩
theorem Keeps.setCell {S:Nat→Prop} {a w:World} (h:Keeps S a w) (p:Addr) (hp:S p.block∨a.heap.size≤p.block) (u:Value):Keeps S a (w.setCell p u):=
 ⟨h.os,h.tape,h.output,by simpa [World.setCell]using h.size,fun k hk hs=>by
   rw[Below.heap_setCell _ _ _ _ (by rintro rfl;rcases hp with hp|hp;exact hs hp;omega)]
   exact h.block k hk hs⟩
theorem Keeps.grown {S:Nat→Prop} {a w w':World} {row:Option Nat} (h:Keeps S a w) (hg:w.grownBy w' row) (hr: ∀g,row=some g→S g∨a.heap.size≤g):Keeps S a w':=
 ⟨hg.os.trans h.os,hg.tape.trans h.tape,hg.output.trans h.output,Nat.le_trans h.size hg.size,fun k hk hs=>by
   rw[hg.block k (Nat.lt_of_lt_of_le hk h.size) (fun e=>by rcases hr k e.symm with h'|h';exact hs h';omega)]
   exact h.block k hk hs⟩
def accV (who:Int) (kind:Int) (word:Int) (old new:Int) (done:Bool):Value:= .agg #[.int .i64 who,.int .u8 kind,.int .i64 word,.int .u64 old,.int .u64 new,.bool done]
def NoteRes (w:World) (B M W:Nat) (ck ct:Int) (last:Value) (e:Ending) (w':World):Prop:=
 e= .returned (.tuple #[])∧Keeps (fun k=>k=M∨lastRow last k) w w'∧ ∃last',Bx w' M 121 (machV W ck (ct+1) last')∧LastOk w' B last'
theorem info_access :(Tryz.prog.info? 156).map (fun i=>(i.zero,i.size,i.bytes))=some (some (.agg #[.int .i64 0,.int .u8 0,.int .i64 0,.int .u64 0,.int .u64 0,.bool false]),6,48):=by kernel_rfl
theorem info_parts {P:Program} {t:TypeId} {z:Value} {s b:Nat} (h:(P.info? t).map (fun i=>(i.zero,i.size,i.bytes))=some (some z,s,b)): ∃i0,P.info? t=some i0∧i0.zero=some z∧i0.size=s∧i0.bytes=b:=by
 obtain⟨i,hi,he⟩:=Option.map_eq_some_iff.1 h
 simp only[Prod.mk.injEq]at he
 exact⟨i,hi,he.1,he.2.1,he.2.2⟩
theorem wp_name {P:Program} {c:Code} {Q:Exit→Act→World→Prop} {a:Act} {w:World} (S:World→Prop) (hs:S w) (h: ∀u,S u→Code.wp P c Q a u):Code.wp P c Q a w:=h w hs
theorem own_ne {w:World} {base b:Nat} {e t:TypeId} {size n:Nat} {v:Value} {xs:List Value} {a:Array Value} (h:w.ownsRow base e size v n xs) (hb:Bx w b t a) (hn:t≠e):v.ownBlock≠some b:=by
 intro hv
 rcases h.2 with ⟨rfl,_⟩|⟨g,cap,cur,rfl,_,hg,_⟩
 · simp [Value.ownBlock]at hv
 · simp [Value.ownBlock]at hv
   subst hv
   unfold Bx at hb
   rw[hg]at hb
   cases hb
   exact hn rfl
theorem ownsRow_mono {w:World} {B B':Nat} {e:TypeId} {size n:Nat} {v:Value} {xs:List Value} (hB:B≤B') (h:w.ownsRow B' e size v n xs):w.ownsRow B e size v n xs:=by
 refine⟨h.1,?_⟩
 rcases h.2 with h2|⟨g,cap,cur,h3,h4,h5⟩
 · exact .inl h2
 · exact .inr ⟨g,cap,cur,h3,Nat.le_trans hB h4,h5⟩
theorem Bx.grown {w w':World} {row:Option Nat} {b:Nat} {t:TypeId} {a:Array Value} (h:Bx w b t a) (hg:w.grownBy w' row) (hn:row≠some b):Bx w' b t a:=
 (hg.block b h.lt (fun e=>hn e.symm)).trans h
def N1 (w:World) (B M W:Nat) (ck ct:Int) (last:Value) (n:Nat) (xs:List Value) (acc:Array Value) (u:World):Prop:=
 Bx u M 121 (machV W ck ct last)∧u.ownsRow B 156 6 last n xs∧Bx u w.heap.size 156 acc∧Keeps (fun k=>k=M∨lastRow last k) w u
def N2 (w:World) (B M W:Nat) (ck ct:Int) (last:Value) (n:Nat) (xs:List Value) (g cap:Nat) (u:World):Prop:=
 Bx u M 121 (machV W ck ct (.slice (some ⟨g,0,none⟩) n cap))∧u.ownsRow B 156 6 (.slice (some ⟨g,0,none⟩) n cap) n xs∧Keeps (fun k=>k=M∨lastRow last k) w u
theorem n1_start {w:World} {B M W:Nat} {ck ct:Int} {last:Value} {n:Nat} {xs:List Value} (acc:Array Value) (hm:Bx w M 121 (machV W ck ct last)) (ho:w.ownsRow B 156 6 last n xs):
   N1 w B M W ck (ct+1) last n xs acc ((w.setCell ⟨M,2,none⟩ (.int .i64 (ct+1))).alloc (.cells acc 156)):=by
 have hsz:(w.setCell ⟨M,2,none⟩ (.int .i64 (ct+1))).heap.size=w.heap.size:=by simp [World.setCell]
 refine⟨(hm.setCell 2 _).alloc _,(ownsRow_setCell_other ho (own_ne ho hm (by decide)) _).alloc _,?_,((Keeps.refl _ w).setCell _ (.inl (.inl rfl)) _).alloc _⟩
 have:=Bx.new (w.setCell ⟨M,2,none⟩ (.int .i64 (ct+1))) 156 acc
 rwa [hsz]at this
theorem n2_start {w u u0 u1:World} {B M W:Nat} {ck ct:Int} {last:Value} {n:Nat} {xs news:List Value} {acc:Array Value} {g cap:Nat} (hu:N1 w B M W ck ct last n xs acc u) (hB:B≤w.heap.size)
   (h0:Keeps (fun _=>False) u u0) (hown:u1.ownsRow B 156 6 (.slice (some ⟨g,0,none⟩) (n+1) cap) (n+1) (xs++news)) (hg:u0.grownBy u1 last.ownBlock):
   N2 w B M W ck ct last (n+1) (xs++news) g cap (u1.setCell ⟨M,3,none⟩ (.slice (some ⟨g,0,none⟩) (n+1) cap)):=by
 obtain⟨h1,h2,h3,h4⟩:=hu
 have b0:Bx u0 M 121 (machV W ck ct last):=(h0.block M h1.lt (fun h=>h)).trans h1
 have b1:Bx u1 M 121 (machV W ck ct last):=b0.grown hg (own_ne h2 h1 (by decide))
 have k0:Keeps (fun k=>k=M∨lastRow last k) w u0:=⟨h0.os.trans h4.os,h0.tape.trans h4.tape,h0.output.trans h4.output,Nat.le_trans h4.size h0.size,fun k hk hs=>(h0.block k (Nat.lt_of_lt_of_le hk h4.size) (fun h=>h)).trans (h4.block k hk hs)⟩
 have k1:Keeps (fun k=>k=M∨lastRow last k) w u1:=k0.grown hg (fun g hg=> .inl (.inr hg))
 exact⟨b1.setCell 3 _,ownsRow_setCell_other hown (own_ne hown b1 (by decide)) _,k1.setCell _ (.inl (.inl rfl)) _⟩
theorem grown_alloc_drew (w:World) (o:Obj):w.grownBy (w.alloc o).drew none:=
 have h:=World.grownBy_alloc w o none
 ⟨h.os,h.tape,h.output,h.size,h.block⟩
theorem n1_cells {u0 u1:World} {row:Option Nat} {M A:Nat} {last a0 a1 a2 a3 a4 a5:Value} (hg:u0.grownBy u1 row) (h1:row≠some M) (h2:row≠some A) (l1:M<u0.heap.size) (l2:A<u0.heap.size)
   (h:u0.cell? ⟨M,3,none⟩=some last∧u0.frozen? ⟨M,3,none⟩=false∧u0.cell? ⟨A,0,none⟩=some a0∧u0.cell? ⟨A,1,none⟩=some a1∧u0.cell? ⟨A,2,none⟩=some a2∧u0.cell? ⟨A,3,none⟩=some a3∧u0.cell? ⟨A,4,none⟩=some a4∧u0.cell? ⟨A,5,none⟩=some a5):
   u1.cell? ⟨M,3,none⟩=some last∧u1.frozen? ⟨M,3,none⟩=false∧u1.cell? ⟨A,0,none⟩=some a0∧u1.cell? ⟨A,1,none⟩=some a1∧u1.cell? ⟨A,2,none⟩=some a2∧u1.cell? ⟨A,3,none⟩=some a3∧u1.cell? ⟨A,4,none⟩=some a4∧u1.cell? ⟨A,5,none⟩=some a5:=
 ⟨(hg.cell_far _ l1 (Ne.symm h1)).trans h.1,(hg.frozen_far _ l1 (Ne.symm h1)).trans h.2.1,(hg.cell_far _ l2 (Ne.symm h2)).trans h.2.2.1,(hg.cell_far _ l2 (Ne.symm h2)).trans h.2.2.2.1,(hg.cell_far _ l2 (Ne.symm h2)).trans h.2.2.2.2.1,(hg.cell_far _ l2 (Ne.symm h2)).trans h.2.2.2.2.2.1,(hg.cell_far _ l2 (Ne.symm h2)).trans h.2.2.2.2.2.2.1,(hg.cell_far _ l2 (Ne.symm h2)).trans h.2.2.2.2.2.2.2⟩
theorem then_name {K:Act→World→Prop} {Q:Exit→Act→World→Prop} {a:Act} {w:World} (S:World→Prop) (hs:S w) (h: ∀u,S u→Exit.then K Q .normal a u):Exit.then K Q .normal a w:=h w hs
theorem keeps_drew (w:World) (o:Obj):Keeps (fun _=>False) w (w.alloc o).drew:=((Keeps.refl _ w).alloc o).drew
theorem clone_acc {B:Nat} (g cap:Nat) (xs:List Value) (w:World) (h:w.ownsRow B 156 6 (.slice (some ⟨g,0,none⟩) 129 cap) 129 xs) (h1: ∀u∈xs,u.oneCell'=true) (hcap:129≤cap):
   Calls Tryz.prog 115 #[.slice (some ⟨g,390,none⟩) 64 (cap-65)] w fun e w'=> ∃g' cap',e= .returned (.slice (some ⟨g',0,none⟩) 64 cap')∧w'.ownsRow w.heap.size 156 6 (.slice (some ⟨g',0,none⟩) 64 cap') 64 (xs.drop 390)∧Below w.heap.size w w':=by
 obtain⟨i0,hi,hz0,hz1,hz2⟩:=info_parts info_access
 have hlen:xs.length=129*6:=h.1
 refine(Tryz.slices_Clone_f115 i0 _ 6 48 hi hz0 hz1 hz2 rfl (by decide) Tryz.sizeOf156 g 390 64 (cap-65) (xs.drop 390) w (by rw[List.length_drop,hlen]) (by decide) (by decide) ?_ ?_).mono ?_
 · intro j u hj
   rw[List.getElem?_drop]at hj
   have:=h.cells (g:=g) rfl (390+j) u hj
   unfold Addr.add at this
   rw[if_neg (by omega)]at this
   simpa using this
 · intro u hu
   exact h1 u (List.mem_of_mem_drop hu)
 · rintro e w' ⟨v',rfl,h2,_,h3⟩
   obtain⟨g',cap',rfl,_,_⟩:=h2.form (by decide)
   exact⟨g',cap',rfl,h2,h3⟩
theorem acc_one (who kind word old new:Int) (done:Bool): ∀u∈[Value.int .i64 who,.int .u8 kind,.int .i64 word,.int .u64 old,.int .u64 new,.bool done],u.oneCell'=true:=by
 intro u hu
 simp at hu
 rcases hu with rfl|rfl|rfl|rfl|rfl|rfl<;>rfl
set_option maxHeartbeats 1000000 in
set_option maxRecDepth 100000 in
theorem note_any (B M W:Nat) (ck ct:Int) (last:Value) (who kind word old new:Int) (done:Bool) (w:World)
   (hm:Bx w M 121 (machV W ck ct last)) (hl:LastOk w B last) (hct:0≤ct∧ct<4611686018427387904) (hB:B≤w.heap.size):
   Calls Tryz.prog 80 #[.pointer (some ⟨M,0,none⟩),accV who kind word old new done] w (NoteRes w B M W ck ct last):=by
 obtain⟨n,xs,hown,hn,hone⟩:=hl
 have m2:w.cell? ⟨M,2,none⟩=some (.int .i64 ct):=hm.cell 2
 have m2f:w.frozen? ⟨M,2,none⟩=false:=hm.free 2
 have hMlt:M<w.heap.size:=hm.lt
 have Hm:=Lib.hid hm;have Hown:=Lib.hid hown;have Hn:=Lib.hid hn;have Hone:=Lib.hid hone;have HB:=Lib.hid hB
 clear hm hown hn hone hB
 obtain⟨i0,hi,hz0,hz1,hz2⟩:=info_parts info_access
 have Hi:=Lib.hid hi;have Hz0:=Lib.hid hz0;have Hz1:=Lib.hid hz1;have Hz2:=Lib.hid hz2
 clear hi hz0 hz1 hz2
 unfold accV
 go_enter Tryz.func80,Tryz.ntmps80
 go_wp2_with fail
 refine wp_name (N1 w B M W ck (ct+1) last n xs #[.int .i64 who,.int .u8 kind,.int .i64 word,.int .u64 old,.int .u64 new,.bool done]) (n1_start _ Hm.out Hown.out) ?_
 intro u hu
 have HU:=Lib.hid hu
 have m3:u.cell? ⟨M,3,none⟩=some last:=hu.1.cell 3
 have m3f:u.frozen? ⟨M,3,none⟩=false:=hu.1.free 3
 have a0:u.cell? ⟨w.heap.size,0,none⟩=some (.int .i64 who):=hu.2.2.1.cell 0
 have a1:u.cell? ⟨w.heap.size,1,none⟩=some (.int .u8 kind):=hu.2.2.1.cell 1
 have a2:u.cell? ⟨w.heap.size,2,none⟩=some (.int .i64 word):=hu.2.2.1.cell 2
 have a3:u.cell? ⟨w.heap.size,3,none⟩=some (.int .u64 old):=hu.2.2.1.cell 3
 have a4:u.cell? ⟨w.heap.size,4,none⟩=some (.int .u64 new):=hu.2.2.1.cell 4
 have a5:u.cell? ⟨w.heap.size,5,none⟩=some (.bool done):=hu.2.2.1.cell 5
 have H63:=Lib.hid (show n+1≤maxLen by have:=Hn.out;unfold maxLen;omega)
 have Hby:=Lib.hid (show (n+1)*48≤140737488355328 by have:=Hn.out;omega)
 have Hbu:=Lib.hid (show B≤u.heap.size by have:=HB.out;have:=hu.2.2.2.size;omega)
 have hMu:M<u.heap.size:=hu.1.lt
 have hwu:w.heap.size<u.heap.size:=hu.2.2.1.lt
 have HneM:=Lib.hid (show last.ownBlock≠some M from own_ne hu.2.1 hu.1 (by decide))
 have HneA:=Lib.hid (show last.ownBlock≠some w.heap.size from fun e=>by have:=(Hown.out.lt _ e).2;omega)
 have HMu:=Lib.hid hMu;have Hwu:=Lib.hid hwu
 have HS:=Lib.hid (And.intro m3 (And.intro m3f (And.intro a0 (And.intro a1 (And.intro a2 (And.intro a3 (And.intro a4 a5)))))))
 clear m2 m2f hu hMlt
 go_region_law ((refine step_append_lies _ (by rfl) _ _ _ (by rfl) B 156 i0 (.agg #[.int .i64 0,.int .u8 0,.int .i64 0,.int .u64 0,.int .u64 0,.bool false]) 6 48 Tryz.underlying119 Hi.out Hz0.out Hz1.out Hz2.out rfl (by decide) last n xs (by rfl) ((HU.out.2.1.alloc _)) ⟨u.heap.size,0,none⟩ 1 1 [.int .i64 who,.int .u8 kind,.int .i64 word,.int .u64 old,.int .u64 new,.bool done] (by rfl) rfl (World.news_of_block (heap_alloc_new _ _)) (acc_one _ _ _ _ _ _) (by decide) H63.out Hby.out (by have:=Hbu.out;simp;omega) (u.heap.size+1) (by simp) ?_;intro g cap w1 hown1 hgrow hat hlt;have hs1:=n1_cells hgrow HneM.out HneA.out (by have:=HMu.out;simp;omega) (by have:=Hwu.out;simp;omega) (n1_cells (row:=none) (grown_alloc_drew u _) (by simp) (by simp) HMu.out Hwu.out HS.out);have c1:=hs1.1;have f1:=hs1.2.1;have Hown1:=Lib.hid hown1;have Hgrow:=Lib.hid hgrow;clear hs1 hown1 hgrow hat hlt))
 all_goals
   refine then_name (N2 w B M W ck (ct+1) last (n+1) (xs++[.int .i64 who,.int .u8 kind,.int .i64 word,.int .u64 old,.int .u64 new,.bool done]) g cap) (n2_start HU.out HB.out (keeps_drew u _) Hown1.out Hgrow.out) ?_
   intro x hx
   have hone1: ∀u∈xs++[.int .i64 who,.int .u8 kind,.int .i64 word,.int .u64 old,.int .u64 new,.bool done],u.oneCell'=true:=by
     intro u hu
     rcases List.mem_append.1 hu with hu|hu
     · exact Hone.out u hu
     · exact acc_one _ _ _ _ _ _ u hu
   have Hone1:=Lib.hid hone1
   have HX:=Lib.hid hx
   have m3':x.cell? ⟨M,3,none⟩=some (.slice (some ⟨g,0,none⟩) (n+1) cap):=hx.1.cell 3
   have m3f':x.frozen? ⟨M,3,none⟩=false:=hx.1.free 3
   have hMx:M<x.heap.size:=hx.1.lt
   have hcap:n+1≤cap:=by
     rcases hx.2.1.2 with ⟨h,_⟩|⟨g',cap',cur,h,_,_,h4,_⟩
     · cases h
     · injection h with _ _ h;omega
   clear hone1 hx c1 f1 m3 m3f a0 a1 a2 a3 a4 a5 hMu hwu HMu Hwu HneM HneA HS HU H63 Hby Hbu Hown1 Hgrow Hm Hown Hone
   generalize xs++[.int .i64 who,.int .u8 kind,.int .i64 word,.int .u64 old,.int .u64 new,.bool done]=ys at*
   by_cases hb:n=128
   · subst hb
     have HXd:Hid (Bx x.drew M 121 (machV W ck (ct+1) (.slice (some ⟨g,0,none⟩) (128+1) cap))):=HX.out.1
     have hw65:IntKind.i64.wrap 65=65:=by decide
     have hc65: ¬cap=65:=by omega
     have Kc:=Lib.hid (clone_acc g cap ys x.drew HX.out.2.1 Hone1.out hcap)
     go_wp2_with fail
     go_region_law (first|(go_simp;go_at_call 115;(with_reducible refine Kc.out.mono ?_);rintro e w2 ⟨g',cap',rfl,ho2,hb2⟩;have c2:w2.cell? ⟨M,3,none⟩=some (.slice (some ⟨g,0,none⟩) (128+1) cap):=(HXd.out.below hb2 hMx).cell 3;have f2:w2.frozen? ⟨M,3,none⟩=false:=(HXd.out.below hb2 hMx).free 3;have Ho2:=Lib.hid ho2;have Hb2:=Lib.hid hb2;clear ho2 hb2))
     all_goals
       go_end0
       have hbx:=HXd.out.below Hb2.out hMx
       have hsz:=Hb2.out.size
       have hB1:=HB.out
       have hB2:=HX.out.2.2.size
       refine⟨rfl,?_,_,hbx.setCell 3 _,64,ys.drop 390,?_,by decide,fun u hu=>Hone1.out u (List.mem_of_mem_drop hu)⟩
       · have k:Keeps (fun k=>k=M∨lastRow last k) w x.drew:=HX.out.2.2.drew
         exact(k.below Hb2.out).setCell _ (.inl (.inl rfl)) _
       · exact ownsRow_setCell_other (ownsRow_mono (show B≤x.drew.heap.size from Nat.le_trans hB1 hB2) Ho2.out) (own_ne Ho2.out hbx (by decide)) _
   · have hlt:=Hn.out
     go_wp2_with fail
     go_end0
     exact⟨rfl,HX.out.2.2,_,HX.out.1,n+1,ys,HX.out.2.1,by omega,Hone1.out⟩
end Go.Proofs.YtemnhpdjoimjbaaGreatDoor
end
