import Derived.Test.YtoglcccmgnjchaaGreatTa04
import Derived.Laws.AppendOwn
import Derived.Shelf.Small.Bits
import Derived.Shelf.Strconv.Itoa0
import Derived.Shelf.Bits.Mul64
import Derived.Ground.SlbCloneProg
import Derived.Shelf.Bytes.SlClone
import Derived.Ground.SlgnProg
import Derived.Shelf.SlicesG.Reverse
import Derived.Shelf.SlicesG.Clone
import Derived.Shelf.SlicesG.Delete
import Derived.Shelf.SlicesG.SearchI
import Derived.Shelf.SlicesG.Cells
import Derived.Shelf.SlicesE.Clone
import Derived.Ground.SlgfProg
import Derived.Shelf.SlicesQ.IndexFunc
import Derived.Shelf.SlicesQ.Reverse
import Derived.Ground.SlsfProg
import Derived.Shelf.SlSortCmp.InsertionK
import Derived.Shelf.SlSortCmp.SiftDownK
import Derived.Shelf.SlSortCmp.HeapSortK
import Derived.Shelf.SlSortCmp.MedianK
import Derived.Shelf.SlSortCmp.PivotK
import Derived.Shelf.SlSortCmp.ReverseRangeK
import Derived.Shelf.SlSortCmp.PartialInsertionK
import Derived.Shelf.SlSortCmp.PartitionEqualK
import Derived.Shelf.SlSortCmp.PartitionK
import Derived.Shelf.SlSortCmp.PdqK
import Derived.Shelf.SlSortCmp.WholeK
import Derived.Test.YtoglcccmgnjchaaGreatProg
import Derived.Deep.RegionHeld3
import Derived.Deep.AppendLies
import Derived.Shelf.Spec.SlicesInsert
import Derived.Lib.AppendZerosOnto
import Derived.Laws.CopyRow
import Derived.Laws.CopyOwn
set_option linter.all false
set_option maxHeartbeats 8000000
set_option maxRecDepth 100000
namespace Go.Proofs.YtoglcccmgnjchaaGreat
open Go.Proofs.Tryz PL
section
open Go.RowKit ai
variable {B : Nat} {X:List Nat}
variable{w w':World}{v:Value}{L:List Cell}
theorem cb.by{L:List Nat}(k:cb w v L):fj w v L:=by obtain⟨g,h1,a,c,i,l,d,e⟩:=k;refine⟨g,a,c,i,l,d,fun hn=>?_⟩;obtain⟨b,off,arr,h,n,m⟩:=e hn;refine⟨b,off,h,fun j f=>?_⟩;rw[n.cell,m j<|.int .u8 (L.getD j 0:Nat)];rw[List.getElem?_map,eh,eG f];rfl
structure bV where
 c:Cell
 kv:Value
 av:Value
deriving Inhabited
def bV.enc(x:bV):List Value:=[x.c.pol,x.kv,x.c.aJ,x.av]
def bV.ok(w:World)(x:bV):Prop:=cb w x.kv x.c.key/\b' w x.av x.c.held
theorem bV.ok.keep(h:Fr B X w w'){x:bV}(k:x.ok w):x.ok w':=⟨k.1.keep h,k.2.keep h⟩
def fk(xs:List bV):List Value:=xs.flatMap bV.enc
theorem IM(x:bV)(xs:List bV):fk (x::xs)=x.enc++fk xs:=by simp[fk]
theorem Cg(xs ys:List bV):fk (xs++ys)=fk xs++fk ys:=by simp[fk]
theorem x0(xs:List bV):(fk xs).length=xs.length*4:=by induction xs with|nil=>rfl|cons x xs a=>rw[IM,gO,a];simp[bV.enc];omega
theorem Ga:∀(xs:List bV) (i k:Nat) (h:i<xs.length),k<4->(fk xs)[4*i+k]?=xs[i].enc[k]?
 |[],i,k,h,_=>by simp at h
 |x::xs,0,k,h,hk=>by rw[IM,Nat.mul_zero,iQ,tY<|by simpa[bV.enc]using hk];rfl
 |x::xs,i+1,k,h,hk=>by rw[IM,List.getElem?_append_right<|by simp[bV.enc];omega];(have e:4*(i+1)+k-x.enc.length=4*i+k:=by simp[bV.enc];omega);rw[e,Ga xs i k (by simpa using h) hk];simp
def cC(w:World)(v:Value)(L:List Cell):Prop:=∃xs:List bV,xs.map bV.c=L/\Row w 56 4 xs.length v (fk xs)/\(∀x∈xs,x.ok w)/\iA L
theorem cC.keep(h:Fr B X w w')(k:cC w v L):cC w' v L:=by obtain⟨xs,h1,b,c,a⟩:=k;exact⟨xs,h1,b.keep h<|by simp[nQ],fun x au=>(c x au).keep h,a⟩
theorem cC.wf(k:cC w v L):iA L:=k.choose_spec.2.2.2
theorem cC.nil(w:World):cC w () []:=⟨[],rfl,Row.nil w _ _ none 0 ax,fun x au=>(by cases au),iA.nil⟩
def o4(w:World)(B:Nat)(last:Value):Prop:=
 ∃n xs,w.ownsRow B 223 6 last n xs/\n<=128/\∀u∈xs,u.oneCell'=true
def xl(last:Value)(k:Nat):Prop:=last.ownBlock=some k
def nO(W:Nat)(aM a:Int)(last:Value):Array Value:=#[.slice (some W) 34 34,aM,a,last]
structure c6 where
 K:Nat
 eT:Nat
 kd:Nat
 hb:Nat
 aZ:Nat
 a_:Nat
 af:List aA
 ag:Nat
def mM(p:aA):List Value:=[.int .u8 (p.kind:Nat),p.T,p.tau,p.bl]
def hv(w:World)(v:Value)(L:List aA):Prop:=Row w 78 4 L.length v<|L.flatMap mM
theorem hv.keep(h:Fr B X w w'){L:List aA}(k:hv w v L):hv w' v L:=Row.keep h k (by simp[nQ])
def q_(w:World)(A:c6):Prop:=
 ∃arr az,aq w A.K 87 arr/\arr.size=67/\arr[0]?=some az/\arr[1]?=some (.int .u64 (A.ag:Nat))/\arr[2]?=some (.pointer<|some A.eT)/\hv w az A.af
theorem q_.keep{A:c6}(a:Fr B X w w')(g:A.K∉X)(h:q_ w A):q_ w' A:=by obtain⟨arr,az,h1,e,f,b,c,d⟩:=h;exact⟨arr,az,a.quiet _ _ _ _ h1<|.inr ⟨rfl,g⟩,e,f,b,c,d.keep a⟩
structure cX(w:World)(B:Nat)(A:c6)(m:Mem):Prop where
 eT:aq w A.eT 127 #[.pointer<|some A.kd,.func (.func 18) #[] #[]]
 kd:aq w A.kd 183 #[.pointer<|some A.hb,.slice (some A.a_) 34 34]
 hb:∃last,aq w A.hb 218 (nO A.aZ m.ca m.count last)/\o4 w B last
 aZ:aq w A.aZ 46 (m.aZ.map fun(x:Nat)=>Value.int .u64 x).toArray
 xp:m.aZ.length=34
 xD:∀i,m.ah i<18446744073709551616
 a_:∃aB:Array Value,aB.size=34/\aq w A.a_ 41 aB/\∀i,i<34->∃v,aB[i]?=some v/\cC w v (m.b4 i)
 yC:m.a_.length=34
 below:B<=A.hb/\B<=A.aZ/\B<=A.a_/\B<=w
 ca:0<=m.ca/\m.ca<=4611686018427387903
 count:0<=m.count
 core:q_ w A
end
end Go.Proofs.YtoglcccmgnjchaaGreat
namespace Go.Proofs
open Go.Shelf
def Tryz.lays125_ren:Go.Shelf.Ren:=⟨fun|125=>60|128=>101|129=>102|n=>n,fun|46=>93|3=>3|51=>207|53=>46|4=>4|5=>5|9=>9|n=>n,fun|n=>n⟩
theorem Tryz.lays125:Go.Proofs.Lays.n125 prog Tryz.lays125_ren:={
 mixed:=by kernel_rfl
 f125:=func60.trans<|congrArg some<|by kernel_rfl
 f128:=func101.trans<|congrArg some<|by kernel_rfl
 f129:=func102.trans<|congrArg some<|by kernel_rfl
 t3:=underlying3
 a3:=Tryz.isAgg3
 z3:=Tryz.sizeOf3
 v3:=Tryz.zeroValue3
 t4:=underlying4
 a4:=Tryz.isAgg4
 z4:=Tryz.sizeOf4
 v4:=Tryz.zeroValue4
 t5:=underlying5
 a5:=Tryz.isAgg5
 z5:=Tryz.sizeOf5
 v5:=Tryz.zeroValue5
 t9:=underlying9
 a9:=Tryz.isAgg9
 z9:=Tryz.sizeOf9
 v9:=Tryz.zeroValue9
 t46:=underlying93
 a46:=Tryz.isAgg93
 z46:=Tryz.sizeOf93
 v46:=Tryz.zeroValue93
 t51:=underlying207
 a51:=Tryz.isAgg207
 z51:=Tryz.sizeOf207
 v51:=Tryz.zeroValue207
 t53:=underlying46
 a53:=Tryz.isAgg46
 z53:=Tryz.sizeOf46
 v53:=Tryz.zeroValue46}
theorem Tryz.bits_Len(x:Int)(w:World)(a:0<=x)(h1:x<=18446744073709551615):
 Calls prog 60 #[.int .u64 x] w fun e w'=>e=.returned (.int .i64<|Lib.bitLen x.toNat)/\w'=w:=Any.bits_Len Tryz.lays125 x w a h1
def Tryz.laysSlK4_ren:Go.Shelf.Ren:=⟨fun|4=>57|n=>n,fun|22=>32|4=>4|5=>5|n=>n,fun|n=>n⟩
theorem Tryz.laysSlK4:Go.Proofs.SlLaysK.n4 prog Tryz.laysSlK4_ren:={
 mixed:=by kernel_rfl
 f4:=func57.trans<|congrArg some<|by kernel_rfl
 t4:=underlying4
 a4:=Tryz.isAgg4
 z4:=Tryz.sizeOf4
 v4:=Tryz.zeroValue4
 t22:=underlying32
 a22:=Tryz.isAgg32
 z22:=Tryz.sizeOf32
 v22:=Tryz.zeroValue32
 t5:=underlying5
 i5:=by kernel_rfl}
open Go.RowKit Go.Lib in
theorem Tryz.bytes_Clone_at (a:Addr) (n c:Nat) (xs:List Int) (w:World) (au:xs.length=n) (nG:n<=140737488355328) (hc:∀i,i<n->w.cell? (a.add i)=some (.int .u8<|xs.getD i 0)):
 Calls prog 57 #[.slice (some a) n c] w fun e w'=>∃v',e=.returned v'/\w'.ownsRow w.heap.size 5 1 v' n (xs.map<|Value.int .u8)/\v'≠.slice none 0 0/\Below w.heap.size w w':=Any.bytes_Clone_at Tryz.laysSlK4 a n c xs w au nG hc
open Go.RowKit Go.Lib in
theorem Tryz.bytes_Clone_nil (n c:Nat) (w:World):
 Calls prog 57 #[.slice none n c] w fun e w'=>e=.returned (.slice none 0 0)/\w'=w:=Any.bytes_Clone_nil Tryz.laysSlK4 n c w
def Tryz.laysSlN41_f58_ren:Go.Shelf.Ren:=⟨fun|41=>58|n=>n,fun|22=>54|23=>2|4=>4|n=>n,fun|n=>n⟩
theorem Tryz.laysSlN41_f58:Go.Proofs.SlLaysN.n41 prog Tryz.laysSlN41_f58_ren:={
 mixed:=by kernel_rfl
 f41:=⟨Tryz.f58.name,by decide,func58.trans<|congrArg some<|by kernel_rfl⟩
 t4:=underlying4
 a4:=Tryz.isAgg4
 z4:=Tryz.sizeOf4
 v4:=Tryz.zeroValue4
 t22:=underlying54
 a22:=Tryz.isAgg54
 z22:=Tryz.sizeOf54
 v22:=Tryz.zeroValue54
 t23:=underlying2
 a23:=Tryz.isAgg2
 z23:=Tryz.sizeOf2
 v23:=Tryz.zeroValue2
 i23:=by kernel_rfl}
open Go.RowKit Go.Lib in
theorem Tryz.slices_Clone_int (b off n c:Nat) (zs:List Int) (w:World) (bd:n<=zs.length) (nG:n*8<=140737488355328) (hc:∀j,j<zs.length->w.cell? ⟨b,off+j,none⟩=some (.int .i64<|zs.getD j 0)):
 Calls prog 58 #[.slice (some ⟨b,off,none⟩) n c] w fun e w'=>∃v',e=.returned v'/\w'.ownsRow w.heap.size 2 1 v' n ((zs.take n).map<|Value.int .i64)/\v'≠.slice none 0 0/\Below w.heap.size w w':=AnyG.slices_Clone_int Tryz.laysSlN41_f58 b off n c zs w bd nG hc
open Go.RowKit Go.Lib in
theorem Tryz.slices_Clone_int_nil (n c:Nat) (w:World):
 Calls prog 58 #[.slice none n c] w fun e w'=>e=.returned (.slice none 0 0)/\w'=w:=AnyG.slices_Clone_int_nil Tryz.laysSlN41_f58 n c w
open Go.RowKit Go.Lib in
theorem Tryz.slices_Clone_int_zero (a:Addr) (c:Nat) (w:World):
 Calls prog 58 #[.slice (some a) 0 c] w fun e w'=>∃v',e=.returned v'/\w'.ownsRow w.heap.size 2 1 v' 0 []/\v'≠.slice none 0 0/\Below w.heap.size w w':=AnyG.slices_Clone_int_zero Tryz.laysSlN41_f58 a c w
def Tryz.laysSlN45_f235_ren:Go.Shelf.Ren:=⟨fun|45=>235|n=>n,fun|22=>54|23=>2|3=>3|4=>4|0=>0|n=>n,fun|n=>n⟩
theorem Tryz.laysSlN45_f235:Go.Proofs.SlLaysN.n45 prog Tryz.laysSlN45_f235_ren:={
 mixed:=by kernel_rfl
 f45:=⟨Tryz.f235.name,by decide,func235.trans<|congrArg some<|by kernel_rfl⟩
 t0:=underlying0
 a0:=Tryz.isAgg0
 z0:=Tryz.sizeOf0
 v0:=Tryz.zeroValue0
 t3:=underlying3
 a3:=Tryz.isAgg3
 z3:=Tryz.sizeOf3
 v3:=Tryz.zeroValue3
 t4:=underlying4
 a4:=Tryz.isAgg4
 z4:=Tryz.sizeOf4
 v4:=Tryz.zeroValue4
 t22:=underlying54
 a22:=Tryz.isAgg54
 z22:=Tryz.sizeOf54
 v22:=Tryz.zeroValue54
 t23:=underlying2
 a23:=Tryz.isAgg2
 z23:=Tryz.sizeOf2
 v23:=Tryz.zeroValue2
 i23:=by kernel_rfl}
def Tryz.laysSlN49_f234_ren:Go.Shelf.Ren:=⟨fun|49=>234|59=>246|60=>247|68=>252|n=>n,fun|22=>54|23=>2|3=>3|4=>4|51=>93|0=>0|n=>n,fun|n=>n⟩
theorem Tryz.laysSlN49_f234:Go.Proofs.SlLaysN.n49 prog Tryz.laysSlN49_f234_ren:={
 mixed:=by kernel_rfl
 f49:=⟨Tryz.f234.name,by decide,func234.trans<|congrArg some<|by kernel_rfl⟩
 f59:=⟨Tryz.f246.name,by decide,func246.trans<|congrArg some<|by kernel_rfl⟩
 f60:=⟨Tryz.f247.name,by decide,func247.trans<|congrArg some<|by kernel_rfl⟩
 f68:=⟨Tryz.f252.name,by decide,func252.trans<|congrArg some<|by kernel_rfl⟩
 t0:=underlying0
 a0:=Tryz.isAgg0
 z0:=Tryz.sizeOf0
 v0:=Tryz.zeroValue0
 t3:=underlying3
 a3:=Tryz.isAgg3
 z3:=Tryz.sizeOf3
 v3:=Tryz.zeroValue3
 t4:=underlying4
 a4:=Tryz.isAgg4
 z4:=Tryz.sizeOf4
 v4:=Tryz.zeroValue4
 t22:=underlying54
 a22:=Tryz.isAgg54
 z22:=Tryz.sizeOf54
 v22:=Tryz.zeroValue54
 t23:=underlying2
 a23:=Tryz.isAgg2
 z23:=Tryz.sizeOf2
 v23:=Tryz.zeroValue2
 t51:=underlying93
 a51:=Tryz.isAgg93
 z51:=Tryz.sizeOf93
 v51:=Tryz.zeroValue93}
open Go.RowKit Go.Lib in
theorem Tryz.slices_BinarySearch_int (b off n c:Nat) (zs:List Int) (x:Int) (w:World) (bd:n<=zs.length) (nG:n<4611686018427387904) (hc:∀j,j<zs.length->w.cell? ⟨b,off+j,none⟩=some (.int .i64<|zs.getD j 0)) (aB:(zs.take n).Pairwise (·<=·)):
 Calls prog 234 #[.slice (some ⟨b,off,none⟩) n c,.int .i64 x] w fun e w'=>e=.returned (.tuple #[.int .i64 ((zs.take n).countP (·<x):Nat),.bool<|(zs.take n).contains x])/\∃q,w'=w.drewN q:=AnyG.slices_BinarySearch_int Tryz.laysSlN49_f234 b off n c zs x w bd nG hc aB
open Go.RowKit Go.Lib Go.Sort in
theorem Tryz.slices_Delete_int_cells (b off n c i j:Nat) (zs:List Int) (w:World) (bd:n<=zs.length) (pW:n<=c) (hm:c<=9223372036854775807) (qW:i<=j) (aL:j<=n) (hc:∀j,j<zs.length->w.cell? ⟨b,off+j,none⟩=some (.int .i64<|zs.getD j 0)) (ay:∀j,j<n->w.frozen? ⟨b,off+j,none⟩=false):
 Calls prog 235 #[.slice (some ⟨b,off,none⟩) n c,.int .i64 i,.int .i64 j] w fun e w'=>e=.returned (.slice (some ⟨b,off,none⟩) (n-(j-i)) c)/\∃q,w'=(w.drewN q).setCells b off (((zs.take n).take i++(zs.take n).drop j++List.replicate (j-i) 0).map<|Value.int .i64):=AnyG.slices_Delete_int_cells Tryz.laysSlN45_f235 b off n c i j zs w bd pW hm qW aL hc ay
def Tryz.laysSlE041_f16_ren:Go.Shelf.Ren:=⟨fun|41=>16|n=>n,fun|22=>27|23=>78|4=>4|n=>n,fun|n=>n⟩
theorem Tryz.laysSlE041_f16:Go.Proofs.SlLaysE0.n41 prog Tryz.laysSlE041_f16_ren:={
 mixed:=by kernel_rfl
 f41:=⟨Tryz.f16.name,by decide,func16.trans<|congrArg some<|by kernel_rfl⟩
 t4:=underlying4
 a4:=Tryz.isAgg4
 z4:=Tryz.sizeOf4
 v4:=Tryz.zeroValue4
 t22:=underlying27
 a22:=Tryz.isAgg27
 z22:=Tryz.sizeOf27
 v22:=Tryz.zeroValue27}
open Go.RowKit Go.Lib in
theorem Tryz.slices_Clone_f16 (i0:TypeInfo) (z:Value) (size bytes:Nat) (hi:prog.info? 78=some i0) (dH:i0.zero=some z) (c0:i0.size=size) (dx:i0.bytes=bytes) (A8:z.cells.size=size) (bR:0<size) (z23:∀w,(Go.sizeOf 78).run prog w=.ok size w) (b off n c:Nat) (news:List Value) (w:World) (aF:news.length=n*size) (hn:n<=maxLen) (nG:n*bytes<=140737488355328) (hc:∀j u,news[j]?=some u->w.cell? ⟨b,off+j,none⟩=some u) (h1:∀u∈news,u.oneCell'=true):
 Calls prog 16 #[.slice (some ⟨b,off,none⟩) n c] w fun e w'=>∃v',e=.returned v'/\w'.ownsRow w.heap.size 78 size v' n news/\v'≠.slice none 0 0/\Below w.heap.size w w':=AnyE.slices_Clone Tryz.laysSlE041_f16 i0 z size bytes hi dH c0 dx A8 bR z23 b off n c news w aF hn nG hc h1
def Tryz.laysSlE041_f144_ren:Go.Shelf.Ren:=⟨fun|41=>144|n=>n,fun|22=>216|23=>223|4=>4|n=>n,fun|n=>n⟩
theorem Tryz.laysSlE041_f144:Go.Proofs.SlLaysE0.n41 prog Tryz.laysSlE041_f144_ren:={
 mixed:=by kernel_rfl
 f41:=⟨Tryz.f144.name,by decide,func144.trans<|congrArg some<|by kernel_rfl⟩
 t4:=underlying4
 a4:=Tryz.isAgg4
 z4:=Tryz.sizeOf4
 v4:=Tryz.zeroValue4
 t22:=underlying216
 a22:=Tryz.isAgg216
 z22:=Tryz.sizeOf216
 v22:=Tryz.zeroValue216}
open Go.RowKit Go.Lib in
theorem Tryz.slices_Clone_f144 (i0:TypeInfo) (z:Value) (size bytes:Nat) (hi:prog.info? 223=some i0) (dH:i0.zero=some z) (c0:i0.size=size) (dx:i0.bytes=bytes) (A8:z.cells.size=size) (bR:0<size) (z23:∀w,(Go.sizeOf 223).run prog w=.ok size w) (b off n c:Nat) (news:List Value) (w:World) (aF:news.length=n*size) (hn:n<=maxLen) (nG:n*bytes<=140737488355328) (hc:∀j u,news[j]?=some u->w.cell? ⟨b,off+j,none⟩=some u) (h1:∀u∈news,u.oneCell'=true):
 Calls prog 144 #[.slice (some ⟨b,off,none⟩) n c] w fun e w'=>∃v',e=.returned v'/\w'.ownsRow w.heap.size 223 size v' n news/\v'≠.slice none 0 0/\Below w.heap.size w w':=AnyE.slices_Clone Tryz.laysSlE041_f144 i0 z size bytes hi dH c0 dx A8 bR z23 b off n c news w aF hn nG hc h1
def Tryz.laysSlE041_f156_ren:Go.Shelf.Ren:=⟨fun|41=>156|n=>n,fun|22=>41|23=>56|4=>4|n=>n,fun|n=>n⟩
theorem Tryz.laysSlE041_f156:Go.Proofs.SlLaysE0.n41 prog Tryz.laysSlE041_f156_ren:={
 mixed:=by kernel_rfl
 f41:=⟨Tryz.f156.name,by decide,func156.trans<|congrArg some<|by kernel_rfl⟩
 t4:=underlying4
 a4:=Tryz.isAgg4
 z4:=Tryz.sizeOf4
 v4:=Tryz.zeroValue4
 t22:=underlying41
 a22:=Tryz.isAgg41
 z22:=Tryz.sizeOf41
 v22:=Tryz.zeroValue41}
open Go.RowKit Go.Lib in
theorem Tryz.slices_Clone_f156 (i0:TypeInfo) (z:Value) (size bytes:Nat) (hi:prog.info? 56=some i0) (dH:i0.zero=some z) (c0:i0.size=size) (dx:i0.bytes=bytes) (A8:z.cells.size=size) (bR:0<size) (z23:∀w,(Go.sizeOf 56).run prog w=.ok size w) (b off n c:Nat) (news:List Value) (w:World) (aF:news.length=n*size) (hn:n<=maxLen) (nG:n*bytes<=140737488355328) (hc:∀j u,news[j]?=some u->w.cell? ⟨b,off+j,none⟩=some u) (h1:∀u∈news,u.oneCell'=true):
 Calls prog 156 #[.slice (some ⟨b,off,none⟩) n c] w fun e w'=>∃v',e=.returned v'/\w'.ownsRow w.heap.size 56 size v' n news/\v'≠.slice none 0 0/\Below w.heap.size w w':=AnyE.slices_Clone Tryz.laysSlE041_f156 i0 z size bytes hi dH c0 dx A8 bR z23 b off n c news w aF hn nG hc h1
open Go.RowKit Go.Lib in
theorem Tryz.slices_Clone_nil_f156 (n c:Nat) (w:World):
 Calls prog 156 #[.slice none n c] w fun e w'=>e=.returned (.slice none 0 0)/\w'=w:=AnyE.slices_Clone_nil Tryz.laysSlE041_f156 n c w
def Tryz.laysSlF06_f30_ren:Go.Shelf.Ren:=⟨fun|6=>30|15=>60|14=>59|28=>101|29=>102|20=>93|21=>94|22=>95|23=>96|24=>97|25=>98|26=>99|27=>100|46=>137|47=>138|48=>139|49=>140|50=>141|57=>184|n=>n,fun|22=>41|24=>56|25=>109|3=>3|39=>93|0=>0|53=>207|55=>46|4=>4|46=>201|45=>200|50=>150|5=>5|9=>9|66=>246|70=>250|76=>284|77=>285|n=>n,fun|n=>n⟩
theorem Tryz.laysSlF06_f30:Go.Proofs.SlLaysF0.n6 prog Tryz.laysSlF06_f30_ren:={
 mixed:=by kernel_rfl
 f6:=⟨Tryz.f30.name,by decide,func30.trans<|congrArg some<|by kernel_rfl⟩
 f14:=⟨Tryz.f59.name,by decide,func59.trans<|congrArg some<|by kernel_rfl⟩
 f15:=func60.trans<|congrArg some<|by kernel_rfl
 f20:=⟨Tryz.f93.name,by decide,func93.trans<|congrArg some<|by kernel_rfl⟩
 f21:=⟨Tryz.f94.name,by decide,func94.trans<|congrArg some<|by kernel_rfl⟩
 f22:=⟨Tryz.f95.name,by decide,func95.trans<|congrArg some<|by kernel_rfl⟩
 f23:=⟨Tryz.f96.name,by decide,func96.trans<|congrArg some<|by kernel_rfl⟩
 f24:=⟨Tryz.f97.name,by decide,func97.trans<|congrArg some<|by kernel_rfl⟩
 f25:=⟨Tryz.f98.name,by decide,func98.trans<|congrArg some<|by kernel_rfl⟩
 f26:=⟨Tryz.f99.name,by decide,func99.trans<|congrArg some<|by kernel_rfl⟩
 f27:=⟨Tryz.f100.name,by decide,func100.trans<|congrArg some<|by kernel_rfl⟩
 f28:=func101.trans<|congrArg some<|by kernel_rfl
 f29:=func102.trans<|congrArg some<|by kernel_rfl
 f46:=⟨Tryz.f137.name,by decide,func137.trans<|congrArg some<|by kernel_rfl⟩
 f47:=func138.trans<|congrArg some<|by kernel_rfl
 f48:=func139.trans<|congrArg some<|by kernel_rfl
 f49:=⟨Tryz.f140.name,by decide,func140.trans<|congrArg some<|by kernel_rfl⟩
 f50:=⟨Tryz.f141.name,by decide,func141.trans<|congrArg some<|by kernel_rfl⟩
 f57:=⟨Tryz.f184.name,by decide,func184.trans<|congrArg some<|by kernel_rfl⟩
 t0:=underlying0
 a0:=Tryz.isAgg0
 z0:=Tryz.sizeOf0
 v0:=Tryz.zeroValue0
 t3:=underlying3
 a3:=Tryz.isAgg3
 z3:=Tryz.sizeOf3
 v3:=Tryz.zeroValue3
 t4:=underlying4
 a4:=Tryz.isAgg4
 z4:=Tryz.sizeOf4
 v4:=Tryz.zeroValue4
 t5:=underlying5
 a5:=Tryz.isAgg5
 z5:=Tryz.sizeOf5
 v5:=Tryz.zeroValue5
 t9:=underlying9
 a9:=Tryz.isAgg9
 z9:=Tryz.sizeOf9
 v9:=Tryz.zeroValue9
 t22:=underlying41
 a22:=Tryz.isAgg41
 z22:=Tryz.sizeOf41
 v22:=Tryz.zeroValue41
 t25:=underlying109
 a25:=Tryz.isAgg109
 z25:=Tryz.sizeOf109
 v25:=Tryz.zeroValue109
 t39:=underlying93
 a39:=Tryz.isAgg93
 z39:=Tryz.sizeOf93
 v39:=Tryz.zeroValue93
 t45:=underlying200
 a45:=Tryz.isAgg200
 z45:=Tryz.sizeOf200
 v45:=Tryz.zeroValue200
 t46:=underlying201
 a46:=Tryz.isAgg201
 z46:=Tryz.sizeOf201
 v46:=Tryz.zeroValue201
 t50:=underlying150
 a50:=Tryz.isAgg150
 z50:=Tryz.sizeOf150
 v50:=Tryz.zeroValue150
 t53:=underlying207
 a53:=Tryz.isAgg207
 z53:=Tryz.sizeOf207
 v53:=Tryz.zeroValue207
 t55:=underlying46
 a55:=Tryz.isAgg46
 z55:=Tryz.sizeOf46
 v55:=Tryz.zeroValue46
 t66:=underlying246
 a66:=Tryz.isAgg246
 z66:=Tryz.sizeOf246
 v66:=Tryz.zeroValue246
 t70:=underlying250
 a70:=Tryz.isAgg250
 z70:=Tryz.sizeOf250
 v70:=Tryz.zeroValue250
 t76:=underlying284
 a76:=Tryz.isAgg284
 z76:=Tryz.sizeOf284
 v76:=Tryz.zeroValue284
 t77:=underlying285
 a77:=Tryz.isAgg285
 z77:=Tryz.sizeOf285
 v77:=Tryz.zeroValue285}
open Go.RowKit Go.Lib Go.Sort in
theorem Tryz.slices_SortFunc {α:Type} [Inhabited α] (k:Nat) (aew:∀w,(isAgg 56).run prog w=.ok true w) (apu:∀w,(Go.sizeOf 56).run prog w=.ok k w) (enc:α->List Value) (hk:∀x,(enc x).length=k) (h1:∀x,∀v∈enc x,v.oneCell'=true) (IH:α->α->Int) (mI:SWO (ltOf IH)) (g:Nat) (pQ:Array Value) (rj off cap:Nat) (d:Array α) (w:World) (agH:∀args w,(callFunc g args).run prog w=.ok (.enter g args) w) (r':CmpLays prog g pQ enc k IH rj off d.size w) (hH:HoldsK enc k w rj off d) (hblk:rj<w.heap.size) (bR:d.size<4611686018427387904):
 Calls prog 30 #[.slice (some ⟨rj,off,none⟩) d.size cap,.func (.func g) #[] pQ] w fun e w'=>
  e=.returned (.tuple #[])/\∃d' n os,PermIn 0 d.size d d'/\SortedIn (ltOf IH) 0 d.size d'/\w'=sortWorldK enc k w rj off n d' os:=AnyQ.slices_SortFunc Tryz.laysSlF06_f30 k aew apu enc hk h1 IH mI g pQ rj off cap d w agH r' hH hblk bR
end Go.Proofs
namespace Go.Proofs.YtoglcccmgnjchaaGreat
open Go.Proofs.Tryz PL
open Go.RowKit ai
variable{S:Nat->Prop}{a w w' u0 u1:World}{row:Option Nat}{t e:TypeId}{b n B M W:Nat}{Q:Exit->Act->World->Prop}{v last:Value}{xs:List Value}{aM eW:Int}
structure jU(S:Nat->Prop)(w w':World):Prop where
 os:w'.os=w.os
 tape:w'.tape=w.tape
 output:w'.output=w.output
 size:w.heap.size<=w'.heap.size
 block:∀k,k<w.heap.size->¬S k->w'.heap[k]?=w.heap[k]?
theorem jU.refl(S:Nat->Prop)(w:World):jU S w w:=⟨rfl,rfl,rfl,bG _,fun _ _ _=>rfl⟩
theorem jU.below(h:jU S a w)(k:Below w.heap.size w w'):jU S a w':=
 ⟨k.os.trans h.os,k.tape.trans h.tape,k.output.trans h.output,eB h.size k.size,fun i hi aB=>(k.block i<|nX hi h.size).trans<|h.block i hi aB⟩
theorem jU.alloc(h:jU S a w)(o:Obj):jU S a (w.alloc o):=h.below<|(b5 _ _).alloc (bG _) o
theorem jU.drew(h:jU S a w):jU S a w.drew:=⟨h.os,h.tape,h.output,h.size,h.block⟩
theorem jU.setCell(h:jU S a w)(p:Addr)(hp:S p.block\/a<=p.block)(u:Value):jU S a (w.setCell p u):=
 ⟨h.os,h.tape,h.output,by simpa[World.setCell]using h.size,fun k hk aB=>by
  rw[Below.heap_setCell _ _ _ _<|by rintro rfl;rcases hp with hp|hp;exact aB hp;omega]
  exact h.block k hk aB⟩
theorem jU.grown(h:jU S a w)(aS:w.grownBy w' row)(aE:∀g,row=some g->S g\/a<=g):jU S a w':=
 ⟨aS.os.trans h.os,aS.tape.trans h.tape,aS.output.trans h.output,eB h.size aS.size,fun k hk aB=>by
  rw[aS.block k (nX hk h.size) fun e=>by rcases aE k e.symm with c|c;exact aB c;omega]
  exact h.block k hk aB⟩
def VJ(ak:Int)(kind:Int)(ah:Int)(old new:Int)(done:Bool):Value:=.agg #[ak,.int .u8 kind,ah,.int .u64 old,.int .u64 new,done]
def PG(w:World)(B M W:Nat)(aM eW:Int)(last:Value)(e:Ending)(w':World):Prop:=
 e=.returned (.tuple #[])/\jU (fun k=>k=M\/xl last k) w w'/\∃c,aq w' M 218 (nO W aM (eW+1) c)/\o4 w' B c
theorem ZS:(prog.info? 223).map (fun i=>(i.zero,i.size,i.bytes))=some (some<|.agg #[bA,.int .u8 0,bA,.int .u64 0,.int .u64 0,false],6,48):=b!
theorem info_parts{P:Program}{z:Value}{s:Nat}(h:(P.info? t).map (fun i=>(i.zero,i.size,i.bytes))=some (some z,s,b)):∃i0,P.info? t=some i0/\i0.zero=some z/\i0.size=s/\i0.bytes=b:=by obtain⟨i,hi,he⟩:=Option.map_eq_some_iff.1 h;simp only[Prod.mk.injEq]at he;exact⟨i,hi,he.1,he.2.1,he.2.2⟩
theorem wp_name{P:Program}{c:Code}{a:Act}(S:World->Prop)(aB:S w)(h:∀u,S u->Code.wp P c Q a u):Code.wp P c Q a w:=h w aB
theorem uX{base:Nat}{size:Nat}{a:Array Value}(h:w.ownsRow base e size v n xs)(al:aq w b t a)(hn:t≠e):v.ownBlock≠some b:=by intro av;rcases h.2 with⟨rfl,_⟩|⟨g,cap,cur,rfl,_,aS,_⟩;{simp[Value.ownBlock]at av};simp[Value.ownBlock]at av;subst av;unfold aq at al;rw[aS]at al;cases al;exact hn rfl
theorem aah{c:Nat}{size:Nat}(br:B<=c)(h:w.ownsRow c e size v n xs):w.ownsRow B e size v n xs:=by refine⟨h.1,?_⟩;rcases h.2 with i|⟨g,cap,cur,j,d,f⟩;{exact .inl i};exact .inr ⟨g,cap,cur,j,eB br d,f⟩
theorem aq.grown{a:Array Value}(h:aq w b t a)(aS:w.grownBy w' row)(hn:row≠some b):aq w' b t a:=
 (aS.block b h.lt fun e=>hn e.symm).trans h
def xT(w:World)(B M W:Nat)(aM eW:Int)(last:Value)(n:Nat)(xs:List Value)(acc:Array Value)(u:World):Prop:=
 aq u M 218 (nO W aM eW last)/\u.ownsRow B 223 6 last n xs/\aq u w 223 acc/\jU (fun k=>k=M\/xl last k) w u
def Vx(w:World)(B M W:Nat)(aM eW:Int)(last:Value)(n:Nat)(xs:List Value)(g cap:Nat)(u:World):Prop:=
 aq u M 218 (nO W aM eW<|.slice (some g) n cap)/\u.ownsRow B 223 6 (.slice (some g) n cap) n xs/\jU (fun k=>k=M\/xl last k) w u
theorem ak2(acc:Array Value)(hm:aq w M 218 (nO W aM eW last))(a8:w.ownsRow B 223 6 last n xs):
 xT w B M W aM (eW+1) last n xs acc ((w.setCell ⟨M,2,none⟩<|.int .i64<|eW+1).alloc<|.cells acc 223):=by(have c:(w.setCell ⟨M,2,none⟩<|.int .i64<|eW+1).heap.size=w.heap.size:=by simp[World.setCell]);refine⟨(hm.setCell 2 _).alloc _,(ownsRow_setCell_other a8 (uX a8 hm ax) _).alloc _,?_,((jU.refl _ w).setCell _ (.inl<|.inl rfl) _).alloc _⟩;have:=aq.new (w.setCell ⟨M,2,none⟩<|.int .i64<|eW+1) 223 acc;rwa[c]at this
theorem ak3{u:World}{news:List Value}{acc:Array Value}{g cap:Nat}(hu:xT w B M W aM eW last n xs acc u)(br:B<=w)
 (d:jU (fun _=>False) u u0)(i:u1.ownsRow B 223 6 (.slice (some g) (n+1) cap) (n+1) (xs++news))(aS:u0.grownBy u1 last.ownBlock):
 Vx w B M W aM eW last (n+1) (xs++news) g cap (u1.setCell ⟨M,3,none⟩<|.slice (some g) (n+1) cap):=by obtain⟨h1,l,o,c⟩:=hu;have j:aq u0 M 218 (nO W aM eW last):=(d.block M h1.lt fun h=>h).trans h1;have f:=j.grown aS<|uX l h1 ax;have m:jU (fun k=>k=M\/xl last k) w u0:=⟨d.os.trans c.os,d.tape.trans c.tape,d.output.trans c.output,eB c.size d.size,fun k hk aB=>(d.block k (nX hk c.size) fun h=>h).trans<|c.block k hk aB⟩;have k1:=m.grown aS fun g aS=>.inl (.inr aS);exact⟨f.setCell 3 _,ownsRow_setCell_other i (uX i f ax) _,k1.setCell _ (.inl<|.inl rfl) _⟩
theorem ahx(w:World)(o:Obj):w.grownBy (w.alloc o).drew none:=
 have h:=World.grownBy_alloc w o none
 ⟨h.os,h.tape,h.output,h.size,h.block⟩
theorem ν{A:Nat}{a0 f a2 a3 a4 a5:Value}(aS:u0.grownBy u1 row)(h1:row≠some M)(c:row≠some A)(g:M<u0)(d:A<u0)
  (h:aG u0 M 3 last/\u0.frozen? ⟨M,3,none⟩=false/\aG u0 A 0 a0/\aG u0 A 1 f/\aG u0 A 2 a2/\aG u0 A 3 a3/\aG u0 A 4 a4/\aG u0 A 5 a5):
  aG u1 M 3 last/\u1.frozen? ⟨M,3,none⟩=false/\aG u1 A 0 a0/\aG u1 A 1 f/\aG u1 A 2 a2/\aG u1 A 3 a3/\aG u1 A 4 a4/\aG u1 A 5 a5:=
 ⟨(aS.cell_far _ g<|Ne.symm h1).trans h.1,(aS.frozen_far _ g<|Ne.symm h1).trans h.2.1,(aS.cell_far _ d<|Ne.symm c).trans h.2.2.1,(aS.cell_far _ d<|Ne.symm c).trans h.2.2.2.1,(aS.cell_far _ d<|Ne.symm c).trans h.2.2.2.2.1,(aS.cell_far _ d<|Ne.symm c).trans h.2.2.2.2.2.1,(aS.cell_far _ d<|Ne.symm c).trans h.2.2.2.2.2.2.1,(aS.cell_far _ d<|Ne.symm c).trans h.2.2.2.2.2.2.2⟩
theorem Hz{K:Act->World->Prop}{a:Act}(S:World->Prop)(aB:S w)(h:∀u,S u->Exit.then K Q .normal a u):Exit.then K Q .normal a w:=h w aB
theorem akj(w:World)(o:Obj):jU (fun _=>False) w (w.alloc o).drew:=((jU.refl _ w).alloc o).drew
theorem afG(g cap:Nat)(xs:List Value)(w:World)(h:w.ownsRow B 223 6 (.slice (some ⟨g,0,none⟩) 129 cap) 129 xs)(h1:∀u∈xs,u.oneCell'=true)(l:129<=cap):
 aR 144 #[.slice (some ⟨g,390,none⟩) 64<|cap-65] w fun e w'=>∃c d,e=.returned (.slice (some ⟨c,0,none⟩) 64 d)/\w'.ownsRow w.heap.size 223 6 (.slice (some ⟨c,0,none⟩) 64 d) 64 (xs.drop 390)/\Below w.heap.size w w':=by obtain⟨i0,hi,dH,c0,dx⟩:=info_parts ZS;have hlen:=h.1;refine(Tryz.slices_Clone_f144 i0 _ 6 48 hi dH c0 dx rfl ax Tryz.sizeOf223 g 390 64 (cap-65) (xs.drop 390) w (by rw[List.length_drop,hlen]) ax ax ?_ ?_).mono ?_;{intro j u f;rw[List.getElem?_drop]at f;have:=h.cells (g:=g) rfl (390+j) u f;unfold Addr.add at this;simpa using this};{intro u hu;exact h1 u (List.mem_of_mem_drop hu)};rintro e w' ⟨v',rfl,i,_,k⟩;obtain⟨c,d,rfl,_,_⟩:=i.form ax;exact⟨c,d,rfl,i,k⟩
theorem VK(ak kind ah old new:Int)(done:Bool):∀u∈[Value.int .i64 ak,.int .u8 kind,ah,.int .u64 old,.int .u64 new,done],u.oneCell'=true:=by intro u hu;simp at hu;rcases hu with rfl|rfl|rfl|rfl|rfl|rfl<;>rfl
theorem J?(B M W:Nat)(aM eW:Int)(last:Value)(ak kind ah old new:Int)(done:Bool)(w:World)
 (hm:aq w M 218 (nO W aM eW last))(Y:o4 w B last)(aqu:0<=eW/\eW<4611686018427387904)(br:B<=w):
 aR 113 #[.pointer<|some M,VJ ak kind ah old new done] w (PG w B M W aM eW last):=by obtain⟨n,xs,L,hn,R⟩:=Y;have m2:aG w M 2 eW:=hm.cell 2;have o:=hm.free 2;have m:=hm.lt;have kK:=ad hm;have p:=ad L;have z:=ad hn;have E:=ad R;have q:=ad br;clear hm L hn R br;obtain⟨i0,hi,dH,c0,dx⟩:=info_parts ZS;have Hi:=ad hi;have V:=ad dH;have uf:=ad c0;have X:=ad dx;clear hi dH c0 dx;unfold VJ;go_enter func113,ntmps113;go_wp2_with fail;refine wp_name (xT w B M W aM (eW+1) last n xs #[ak,.int .u8 kind,ah,.int .u64 old,.int .u64 new,.bool done]) (ak2 _ kK.out p.out) ?_;intro u hu;have s:=ad hu;have m3:aG u M 3 last:=hu.1.cell 3;have θ:u.frozen? ⟨M,3,none⟩=false:=hu.1.free 3;have a0:aG u w.heap.size 0 ak:=hu.2.2.1.cell 0;have N:aG u w.heap.size 1 (.int .u8 kind):=hu.2.2.1.cell 1;have a2:aG u w.heap.size 2 ah:=hu.2.2.1.cell 2;have a3:aG u w.heap.size 3 (.int .u64 old):=hu.2.2.1.cell 3;have a4:aG u w.heap.size 4 (.int .u64 new):=hu.2.2.1.cell 4;have a5:aG u w.heap.size 5 (.bool done):=hu.2.2.1.cell 5;have I:=ad (show n+1<=maxLen by have:=z.out;unfold maxLen;omega);have mV:=ad (show(n+1)*48<=140737488355328 by have:=z.out;omega);have U:=ad (show B<=u.heap.size by have:=q.out;have:=hu.2.2.2.size;omega);have J:M<u.heap.size:=hu.1.lt;have O:w.heap.size<u.heap.size:=hu.2.2.1.lt;have F:=ad (show last.ownBlock≠some M from uX hu.2.1 hu.1 ax);have G:=ad (show last.ownBlock≠some w.heap.size from fun e=>by have:=(p.out.lt _ e).2;omega);have d:=ad J;have y:=ad O;have K:=ad (bw m3<|bw θ<|bw a0<|bw N<|bw a2<|bw a3<|bw a4 a5);clear m2 o hu m;go_region_law ((refine step_append_lies _ (by rfl) _ _ _ (by rfl) B 223 i0 (.agg #[.int .i64 0,.int .u8 0,.int .i64 0,.int .u64 0,.int .u64 0,.bool false]) 6 48 underlying216 Hi.out V.out uf.out X.out rfl ax last n xs (by rfl) ((s.out.2.1.alloc _)) ⟨u.heap.size,0,none⟩ 1 1 [.int .i64 ak,.int .u8 kind,.int .i64 ah,.int .u64 old,.int .u64 new,.bool done] (by rfl) rfl (World.news_of_block<|heap_alloc_new _ _) (VK _ _ _ _ _ _) ax I.out mV.out (by have:=U.out;simp;omega) (u.heap.size+1) bI ?_;intro g cap w1 T r ho cc;have eE:=ν r F.out G.out (by have:=d.out;simp;omega) (by have:=y.out;simp;omega)<|ν (row:=none) (ahx u _) bI bI d.out y.out K.out;have c1:=eE.1;have f1:=eE.2.1;have C:=ad T;have H:=ad r;clear eE T r ho cc));all_goals refine Hz (Vx w B M W aM (eW+1) last (n+1) (xs++[.int .i64 ak,.int .u8 kind,.int .i64 ah,.int .u64 old,.int .u64 new,.bool done]) g cap) (ak3 s.out q.out (akj u _) C.out H.out) ?_;intro x au;(have D:∀u∈xs++[.int .i64 ak,.int .u8 kind,.int .i64 ah,.int .u64 old,.int .u64 new,.bool done],u.oneCell'=true:=by intro u hu;rcases List.mem_append.1 hu with hu|hu;{exact E.out u hu};exact VK _ _ _ _ _ _ u hu);have c:=ad D;have dp:=ad au;have asg:aG x M 3 (.slice (some ⟨g,0,none⟩) (n+1) cap):=au.1.cell 3;have ash:x.frozen? ⟨M,3,none⟩=false:=au.1.free 3;have i:M<x.heap.size:=au.1.lt;(have pW:n+1<=cap:=by rcases au.2.1.2 with⟨h,_⟩|⟨n9,vz,cur,h,_,_,aD,_⟩;{cases h};injection h with _ _ h;omega);clear D au c1 f1 m3 θ a0 N a2 a3 a4 a5 J O d y F G K s I mV U C H kK p E;generalize xs++[.int .i64 ak,.int .u8 kind,.int .i64 ah,.int .u64 old,.int .u64 new,.bool done]=ys at*;by_cases al:n=128;{subst al;have f:Hid (aq x.drew M 218<|nO W aM (eW+1)<|.slice (some ⟨g,0,none⟩) (128+1) cap):=dp.out.1;have arP:IntKind.i64.wrap 65=65:=ax;have Z:¬cap=65:=ae;have gB:=ad<|afG g cap ys x.drew dp.out.2.1 c.out pW;go_wp2_with fail;go_region_law (first|(go_simp;go_at_call 144;(with_reducible refine gB.out.mono ?_);rintro e aQ ⟨n9,vz,rfl,P,a7⟩;have cw:aG aQ M 3 (.slice (some ⟨g,0,none⟩) (128+1) cap):=(f.out.below a7 i).cell 3;have f2:aQ.frozen? ⟨M,3,none⟩=false:=(f.out.below a7 i).free 3;have A:=ad P;have cU:=ad a7;clear P a7));all_goals go_end0;have dv:=f.out.below cU.out i;have bR:=cU.out.size;have j:=q.out;have l:=dp.out.2.2.size;refine⟨rfl,?_,_,dv.setCell 3 _,64,ys.drop 390,?_,ax,fun u hu=>c.out u<|List.mem_of_mem_drop hu⟩;{have k:jU (fun k=>k=M\/xl last k) w x.drew:=dp.out.2.2.drew;exact(k.below cU.out).setCell _ (.inl<|.inl rfl) _};exact ownsRow_setCell_other (aah (show B<=x.drew.heap.size from eB j l) A.out) (uX A.out dv ax) _};have cc:=z.out;go_wp2_with fail;go_end0;exact⟨rfl,dp.out.2.2,_,dp.out.1,n+1,ys,dp.out.2.1,ae,c.out⟩
theorem E0:(prog.info? 56).map (fun i=>(i.zero,i.size,i.bytes))=some (some<|.agg #[bA,(),bA,()],4,64):=b!
theorem Row.cells{size:Nat}{a:Option Addr}{m c:Nat}(h:Row w t size n (.slice a m c) xs):m=n/\n<=c/\c<=maxLen/\(0<n->∃b off,a=some ⟨b,off,none⟩/\∀j u,xs[j]?=some u->w.cell? ⟨b,off+j,none⟩=some u):=by obtain⟨h1,o,bx,e,i,d,f⟩:=h;injection e with aO aU cr;subst aO aU cr;refine⟨rfl,i,d,fun hn=>?_⟩;obtain⟨b,off,arr,g,l,k⟩:=f hn;exact⟨b,off,g,fun j u hu=>by rw[l.cell];exact k j u hu⟩
theorem bV.one(x:bV)(w:World)(h:x.ok w):∀u∈x.enc,u.oneCell'=true:=by obtain⟨⟨_,_,bt,bq,aO,_⟩,_,ha,hc,aU,_⟩:=h;intro u hu;unfold bV.enc at hu;rw[aO,aU]at hu;simp at hu;rcases hu with rfl|rfl|rfl|rfl<;>rfl
theorem Qk{xs:List bV}(h:∀x∈xs,x.ok w):∀u∈fk xs,u.oneCell'=true:=by intro u hu;obtain⟨x,au,hu⟩:=List.mem_flatMap.1 hu;exact x.one w (h x au) u hu
theorem afH(a:Addr)(c:Nat)(w:World):
 aR 156 #[.slice (some a) 0 c] w fun e w'=>∃v',e=.returned v'/\w'.ownsRow w 56 4 v' 0 []/\Below w w w':=by obtain⟨i0,hi,dH,c0,dx⟩:=info_parts E0;have q:∀(w:World) (a:Option Addr) (n c d bx:Nat),(binOp .eql 41 (.slice a n c)<|.slice none d bx).run prog w=.ok a.isNone w:=fun w a n c d bx=>Lib.run_eql_slice_nil w _ _ a n c d bx underlying41;go_enter func156,ntmps156;go_wp2_with(at_builtin;refine wpList_append_own _ rfl _ _ 41 rfl w 56 i0 (.agg #[bA,(),bA,()]) 4 64 underlying41 hi dH c0 dx rfl ax _ _ _ rfl (World.ownsRow_made w #[] 0 (bG _) (fw _) rfl) a 0 c [] rfl rfl (by intro j u f;simp at f) (by intro u hu;cases hu) (by unfold maxLen;omega) ae bI ?_);intro v' w1 g h i;go_wp2;go_ret;exact⟨v',rfl,by simpa using g,((b5 _ w).alloc (bG _) _).grown h bI<|by intro k hk;simp[Value.ownBlock]at hk;omega⟩
theorem P8(v:Value)(xs:List bV)(w:World)(h:Row w 56 4 xs.length v (fk xs))(i:∀x∈xs,x.ok w)(l:xs.length<=1048576):
 aR 156 #[v] w fun e w'=>∃v',e=.returned v'/\w'.ownsRow w 56 4 v' xs.length (fk xs)/\Below w w w':=by obtain⟨i0,hi,dH,c0,dx⟩:=info_parts E0;obtain⟨a,c,rfl⟩:=e? h;obtain⟨_,dw,k,d⟩:=h.cells;by_cases bd:xs.length=0;{have au:xs=[]:=List.eq_nil_of_length_eq_zero bd;subst au;cases a with|none=>refine(Tryz.slices_Clone_nil_f156 0 c w).mono ?_;rintro e w' ⟨rfl,rfl⟩;exact⟨_,rfl,World.ownsRow_nil _ _ _ _,b5 _ _⟩|some a=>exact afH a c w};obtain⟨b,off,rfl,j⟩:=d ae;refine(Tryz.slices_Clone_f156 i0 _ 4 64 hi dH c0 dx rfl ax Tryz.sizeOf56 b off xs.length c (fk xs) w (x0 xs) ae ae j<|Qk i).mono ?_;rintro e w' ⟨v',rfl,f,_,g⟩;exact⟨v',rfl,f,g⟩
theorem C?{P:Program}(w:World)(m TE ty elem:TypeId)(k:Nat)(g o c f:Nat)(a:Addr)(d l:Nat)(cur:Array Value)(t:TypeId)(cs:List Value)
 (hu:P.underlying m=some (.slice elem))(aB:(P.info? elem).map (·.size)=some k)
 (aS:w.heap[g]?=some (.cells cur t (0,0)))(hn:cs.length=Nat.min d c*k)
 (h:∀j v,cs[j]?=some v->w.cell? (a.add j)=some v)(p:o+cs.length<=cur.size)(h1:∀v∈cs,v.oneCell'=true):
 (Builtin.copy_ #[m,TE] ty #[.slice (some ⟨g,o,none⟩) c f,.slice (some a) d l]).run P w=
  .ok (goInt<|Nat.min d c) (w.setRow g (splice cur.toList o cs).toArray):=by have q:=run_loadCells_list (P:=P) w a cs h;have r:=run_storeCells_at P g o t cs 0 cur w aS (by simpa using p) h1;cases a':P.info? elem with|none=>simp[a']at aB|some i=>(have hi:i.size=k:=by simpa[a']using aB);simp[Builtin.copy_,run_underlying hu,Builtin.lenOf,Builtin.firstCells,sizeOf,typeInfo,a',hi,<-hn,q,r,splice]
theorem abw{α:Type}(cur xs news:List α)(a k:Nat)(ha:a<=xs.length)(hk:news.length=k)(d:xs.length+k<=cur.length)(au:cur.take xs.length=xs):
 (splice (splice cur (a+k)<|xs.drop a) a news).take (xs.length+k)=xs.take a++(news++xs.drop a):=by(have c:∀b,b<=xs.length->cur.take b=xs.take b:=fun b al=>by(conv=>rhs;rw[<-au]);rw[List.take_take,Nat.min_eq_left al]);have aI:(xs.drop a).length=xs.length-a:=List.length_drop;(have aO:(splice cur (a+k)<|xs.drop a).take a=xs.take a:=by unfold splice;rw[List.take_append_of_le_length<|by rw[fG];omega,List.take_take,Nat.min_eq_left ae,c a ha]);(have aU:(splice cur (a+k)<|xs.drop a).drop (a+k)=xs.drop a++cur.drop (a+k+(xs.drop a).length):=by unfold splice;rw[List.drop_append,fG,Nat.min_eq_left ae,Nat.sub_self,List.drop_zero,List.drop_eq_nil_of_le<|by rw[fG];omega,List.nil_append]);show((splice cur (a+k)<|xs.drop a).take a++(news++(splice cur (a+k)<|xs.drop a).drop (a+news.length))).take (xs.length+k)=_;rw[aO,hk,aU,<-List.append_assoc,<-List.append_assoc,List.take_append_of_le_length<|by simp only[gO,fG,aI,hk];omega];rw[qG<|by simp only[gO,fG,aI,hk];omega,List.append_assoc]
theorem Sq:(prog.info? 56).map (fun i=>(i.zero,i.size,i.bytes))=some (some<|.agg #[bA,(),bA,()],4,64):=b!
theorem aka(base:Nat)(v:Value)(n:Nat)(xs:List Value)(f:Nat)(news:List Value)(w:World)(h:w.ownsRow base 56 4 v n xs)(av:∃a c,v=.slice a n c)(al:w.heap[f]?=some (.cells news.toArray 56 (0,0)))(F:∀g,v.ownBlock=some g->g≠f)(s:news.length=4)(h1:∀u∈news,u.oneCell'=true)(G:n<1048577)(br:base<=w.heap.size):
 aR 223 #[v,.int .i64 n,.slice (some ⟨f,0,none⟩) 1 1] w fun e w'=>∃a c,e=.returned (.slice a (n+1) c)/\w'.ownsRow base 56 4 (.slice a (n+1) c) (n+1) (xs++news)/\Below base w w'/\(∀k,k<w.heap.size->Value.ownBlock v≠some k->w'.heap[k]?=w.heap[k]?):=by obtain⟨i0,hi,dH,c0,dx⟩:=info_parts Sq;have H:=ad h;have C:=ad al;have y:=ad s;have H1:=ad h1;have q:=ad br;(have r:Hid (∀j u,news[j]?=some u->w.cell? (Addr.add f j)=some u):=fun j u x=>by rw[Addr.add_lit,iQ];show w.cell? _=_;have cc:=(qe.1 x).1;simp[World.cell?,C.out,x]);have D:Hid (∀g,v.ownBlock=some g->base<=g/\g<w):=h.lt;obtain⟨a,c,rfl⟩:=av;(have I:n<=c:=by rcases h.2 with⟨e,aU⟩|⟨g,cap,cur,e,_,_,E,_⟩;{injection e with _ cr eI;omega};injection e with _ _ eI;omega);(have bd:a=none->n=0/\c=0:=by rintro rfl;rcases h.2 with⟨e,aU⟩|⟨g,cap,cur,e,_⟩;{injection e with _ cr eI;exact⟨aU,eI⟩};injection e with eI;cases eI);(have ha:∀p,a=some p->∃g,p=⟨g,0,none⟩:=by rintro p rfl;rcases h.2 with⟨e,aU⟩|⟨g,cap,cur,e,_⟩;{injection e with cr;cases cr};injection e with cr;injection cr with cr;exact⟨g,cr⟩);clear h al s h1 br;go_enter func223,ntmps223;(have fin:∀v' w1,w1.ownsRow base 56 4 v' (n+1) (xs++news)->w.grownBy w1 (Value.slice a n c).ownBlock->∃l bx,v'=.slice l (n+1) bx/\w1.ownsRow base 56 4 (.slice l (n+1) bx) (n+1) (xs++news)/\Below base w w1/\(∀k,k<w.heap.size->Value.ownBlock (.slice a n c)≠some k->w1.heap[k]?=w.heap[k]?):=by intro v' w1 i d;have A:Below base w w1:=⟨d.os,d.tape,d.output,d.size,fun k hk=>d.block k (by have:=q.out;omega) fun e=>by have:=(D.out k e.symm).1;omega⟩;rcases id i.2 with ⟨e,aU⟩|⟨g,cap,cur,rfl,_⟩;{omega};exact⟨_,_,rfl,i,A,fun k hk bU=>d.block k hk fun e=>bU e.symm⟩);cases a with|none=>obtain⟨rfl,rfl⟩:=bd rfl;go_wp2_with(at_builtin;refine wpList_append_own _ rfl _ _ 41 rfl base 56 i0 (.agg #[bA,(),bA,()]) 4 64 underlying41 hi dH c0 dx rfl ax _ _ _ rfl H.out f 1 1 news rfl (by rw[y.out]) r.out H1.out (by unfold maxLen;omega) ae q.out ?_;intro v' w1 i d z;obtain⟨l,bx,rfl,m,o⟩:=fin v' w1 i d);go_ret;exact⟨l,bx,rfl,m,o⟩|some p=>obtain⟨g,rfl⟩:=ha p rfl;have hlen:n<=n:=bG n;go_wp2_with(at_builtin;refine wpList_append_own _ rfl _ _ 41 rfl base 56 i0 (.agg #[bA,(),bA,()]) 4 64 underlying41 hi dH c0 dx rfl ax _ _ _ rfl H.out f 1 1 news rfl (by rw[y.out]) r.out H1.out (by unfold maxLen;omega) ae q.out ?_;intro v' w1 i d z;obtain⟨l,bx,rfl,m,o⟩:=fin v' w1 i d);all_goals go_ret;exact⟨l,bx,rfl,m,o⟩
theorem alJ(w:World)(g c o bW d:Nat)(cur news:Array Value)(aS:w.heap[g]?=some (.cells cur 56 (0,0)))(av:w.heap[c]?=some (.cells news 56 (0,0)))(bU:c≠g)(f:cur.size≠0):
 (callFunc 244 #[.slice (some c) 1 1,.slice (some ⟨g,o,none⟩) bW d]).run prog w=.ok (.value false) w:=by rw[run_callFunc_extern func244 b! b! b! (e:=Extern.SlicesOverlaps.overlaps #[41,41] #[4]) b!,Lib.run_overlaps_apart w 41 4 56 underlying41 4 Tryz.sizeOf56 c ⟨g,o,none⟩ 1 1 bW d bU 56 56 news.size cur.size (by simp[World.shape?,av]) (by simp[World.shape?,aS]) f (by simp[World.frozen?,av]) (by simp[World.frozen?,av])];rfl
theorem akc(base g cap n i:Nat)(xs:List Value)(f:Nat)(news:List Value)(w:World)(h:w.ownsRow base 56 4 (.slice (some ⟨g,0,none⟩) n cap) n xs)(al:w.heap[f]?=some (.cells news.toArray 56 (0,0)))(F:f≠g)(q:news.length=4)(h1:∀u∈news,u.oneCell'=true)(s:∀u∈xs,u.oneCell'=true)(hi:i<n)(qu:n+1<=cap)(nG:n<1048577):
  aR 223 #[.slice (some ⟨g,0,none⟩) n cap,.int .i64 i,.slice (some ⟨f,0,none⟩) 1 1] w fun e w'=>∃a c,e=.returned (.slice a (n+1) c)/\w'.ownsRow base 56 4 (.slice a (n+1) c) (n+1) (xs.take (i*4)++(news++xs.drop (i*4)))/\Below base w w'/\(∀k,k<w.heap.size->Value.ownBlock (.slice (some ⟨g,0,none⟩) n cap)≠some k->w'.heap[k]?=w.heap[k]?):=by
 obtain⟨i0,U,dH,c0,dx⟩:=info_parts Sq;(have C:(prog.info? 56).map (·.size)=some 4:=by rw[U];simp[c0]);obtain⟨l,au⟩:=h;(have l:xs.length=n*4:=by simpa using l);(obtain⟨cur,E,aS,pW,I,p,J⟩:∃cur:Array Value,base<=g/\w.heap[g]?=some (.cells cur 56 (0,0))/\n<=cap/\cap<=maxLen/\cur.size=cap*4/\cur.toList.take (n*4)=xs:=by rcases au with⟨e,_⟩|⟨n9,vz,cur,e,h1,s,ar,aD,aK,aY⟩;{cases e};injection e with aO aU cr;injection aO with aO;injection aO with aO;subst aO cr;exact⟨cur,h1,s,ar,aD,by simpa using aK,by simpa using aY⟩);(have aie:cap<=9223372036854775807:=by unfold maxLen at I;omega);(have x:(xs.drop<|i*4).length=(n-i)*4:=by rw[List.length_drop,l]<;>omega);(have c8:IntKind.i64.wrap ((i:Int)+1)=(i:Int)+1:=by rw[IntKind.wrap_i64];omega);(have bK:IntKind.i64.wrap ((n:Int)+1)=(n:Int)+1:=by rw[IntKind.wrap_i64];omega);have bZ:(0:Int)<=(i:Int)+1:=ae;have qX:i<=n:=ae;have bd:¬((i:Int)=(n:Int)):=ae;have a7:¬(cap=i+1):=ae;have jt:¬(cap=i):=ae;have ju:(i:Int)<=(n:Int)+1:=ae;have JQ:((i:Int)+1).toNat=i+1:=ae;(have T:Nat.min (n+1-i) (n-i)=n-i:=by show min _ _=_;omega);have P:Nat.min 1 (n+1-i)=1:=by show min _ _=_;omega
 have A:∀W:World,W.heap[g]?=some (.cells cur 56 (0,0))->∀ty dc G,(Builtin.copy_ #[41,41] ty #[.slice (some ⟨g,(i+1)*4,none⟩) (n-i) dc,.slice (some ⟨g,i*4,none⟩) (n+1-i) G]).run prog W=.ok (goInt ((n-i:Nat):Int)) (W.setRow g (splice cur.toList ((i+1)*4)<|xs.drop<|i*4).toArray):=fun W aS ty dc G=>by
  have:=C? W 41 41 ty 56 4 g ((i+1)*4) (n-i) dc ⟨g,i*4,none⟩ (n+1-i) G cur 56 (xs.drop<|i*4) underlying41 C aS (by rw[x,T]<;>omega)
   (fun j v m=>by
    rw[Addr.add_lit,World.cell?,aS]
    rw[List.getElem?_drop,<-J,List.getElem?_take]at m
    split at m
    . simpa using m
    . cases m) (by rw[x,p];omega) (fun v av=>s v<|List.mem_of_mem_drop av)
  rw[this,T]
 have K:∀(W:World) (r:List Value),r.length=cap*4->W.heap[g]?=some (.cells r.toArray 56 (0,0))->W.heap[f]?=some (.cells news.toArray 56 (0,0))->∀ty dc,(Builtin.copy_ #[41,41] ty #[.slice (some ⟨g,i*4,none⟩) (n+1-i) dc,.slice (some f) 1 1]).run prog W=.ok (goInt 1) (W.setRow g (splice r (i*4) news).toArray):=fun W r eS aS av ty dc=>by
  have:=C? W 41 41 ty 56 4 g (i*4) (n+1-i) dc f 1 1 r.toArray 56 news underlying41 C aS (by rw[q,P]<;>omega)
   (fun j v m=>by
    rw[Addr.add_lit,World.cell?,av]
    simpa using m) (by rw[q];simp only[List.size_toArray];omega) h1
  rw[this,P];rfl
 (have eE:(splice cur.toList ((i+1)*4)<|xs.drop<|i*4).length=cap*4:=by rw[length_splice _ _ _<|by rw[x,Array.length_toList,p];omega,Array.length_toList,p]);have X:∀bW H o,(callFunc 244 #[.slice (some f) 1 1,.slice (some ⟨g,o,none⟩) bW H]).run prog w=.ok (.value false) w:=fun bW H o=>alJ w g f o bW H cur news.toArray aS al F (by rw[p];omega);obtain⟨d,z⟩:∃d,d=splice cur.toList ((i+1)*4) (xs.drop<|i*4):=⟨_,rfl⟩;rw[<-z]at A eE;(have gg:(splice d (i*4) news).take ((n+1)*4)=xs.take (i*4)++(news++xs.drop (i*4)):=by have:=abw cur.toList xs news (i*4) 4 (by rw[l];omega) q (by rw[l,Array.length_toList,p];omega) (by rw[l];exact J);rw[l,show i*4+4=(i+1)*4 by omega,show n*4+4=(n+1)*4 by omega,<-z]at this;exact this);(have D:(splice d (i*4) news).length=cap*4:=by rw[length_splice _ _ _<|by rw[eE,q];omega,eE]);have Sf:w.drew.heap[f]?=some (.cells news.toArray 56 (0,0)):=al;(have O:(w.drew.setRow g d.toArray).heap[f]?=some (.cells news.toArray 56 (0,0)):=by rw[setRow_other _ _ _ _ F];exact al);have V:(w.drew.setRow g d.toArray).heap[g]?=some (.cells d.toArray 56 (0,0)):=setRow_heap w.drew g cur _ 56 _ aS;have R:Hid (∀W:World,W.heap[g]?=some (.cells d.toArray 56 (0,0))->RowKit.Below base w W->(W.setRow g (splice d (i*4) news).toArray).ownsRow base 56 4 (.slice (some g) (n+1) cap) (n+1) (xs.take (i*4)++(news++xs.drop (i*4)))/\RowKit.Below base w (W.setRow g (splice d (i*4) news).toArray)):=fun W bQ n!=>⟨⟨by rw[<-gg,fG,D];omega,.inr ⟨g,cap,_,rfl,E,setRow_heap W g _ _ 56 _ bQ,qu,I,by rw[List.size_toArray,D]<;>omega,by simpa using gg⟩⟩,below_setRow n! E _⟩;have N:Hid (RowKit.Below base w<|w.drew.setRow g d.toArray):=below_setRow ((RowKit.Below.refl base w).drew) E _;have mixed:prog.follows Departure.mixedOrders=true:=b!;have Y:=ad<|A w.drew aS;have Z:=ad K;have oz:=ad eE;have y:=ad V;have ny:=ad O;clear A K gg D eE V O Sf z x l au J p aS al h1 s C dH c0 dx U q F I;go_enter func223,ntmps223;go_wp2_with(simp only[X]);go_region_law_o (refine step_copy_runI rfl _ _ 41 41 rfl (.slice (some ⟨g,(i+1)*4,none⟩) (n-i)<|cap-(i+1)) (.slice (some ⟨g,i*4,none⟩) (n+1-i)<|cap-i) (by simp[Act.eval,Act.put]) (by simp[Act.eval,Act.put]) (Y.out 3 (cap-(i+1))<|cap-i) ?_);have fB:=Z.out (w.drew.setRow g d.toArray) d oz.out y.out ny.out 3<|cap-i;go_wp2_with(simp only[fB]);go_ret
 exact⟨_,_,rfl,(R.out _ y.out N.out).1,(R.out _ y.out N.out).2,fun k _ bU=>by
  have L:k≠g:=fun e=>bU<|by rw[e];rfl
  rw[setRow_other _ _ _ _ L,setRow_other _ _ _ _ L]
  rfl⟩
theorem akb(base g cap n i:Nat)(xs:List Value)(y:Nat)(news:List Value)(w:World)(h:w.ownsRow base 56 4 (.slice (some ⟨g,0,none⟩) n cap) n xs)(al:w.heap[y]?=some (.cells news.toArray 56 (0,0)))(p:news.length=4)(h1:∀u∈news,u.oneCell'=true)(H:∀u∈xs,u.oneCell'=true)(hi:i<n)(qu:cap<n+1)(nG:n<1048577)(br:base<=w.heap.size):
  aR 223 #[.slice (some ⟨g,0,none⟩) n cap,.int .i64 i,.slice (some ⟨y,0,none⟩) 1 1] w fun e w'=>∃a c,e=.returned (.slice a (n+1) c)/\w'.ownsRow base 56 4 (.slice a (n+1) c) (n+1) (xs.take (i*4)++(news++xs.drop (i*4)))/\Below base w w'/\(∀k,k<w.heap.size->Value.ownBlock (.slice (some ⟨g,0,none⟩) n cap)≠some k->w'.heap[k]?=w.heap[k]?):=by
 obtain⟨i0,Z,dH,c0,dx⟩:=info_parts Sq;(have T:(prog.info? 56).map (·.size)=some 4:=by rw[Z];simp[c0]);obtain⟨o,au⟩:=h;(have o:xs.length=n*4:=by simpa using o);(obtain⟨cur,hR,aS,pW,sa,g_,sc⟩:∃cur:Array Value,base<=g/\w.heap[g]?=some (.cells cur 56 (0,0))/\n<=cap/\cap<=maxLen/\cur.size=cap*4/\cur.toList.take (n*4)=xs:=by rcases au with⟨e,_⟩|⟨n9,vz,cur,e,h1,H,ar,aD,aK,aY⟩;{cases e};injection e with aO aU cr;injection aO with aO;injection aO with aO;subst aO cr;exact⟨cur,h1,H,ar,aD,by simpa using aK,by simpa using aY⟩);(have uQ:∀j v,xs[j]?=some v->w.cell? ⟨g,j,none⟩=some v:=fun j v f=>by rw[World.cell?,aS];rw[<-sc,List.getElem?_take]at f;split at f;{simpa using f};cases f);have fE:g<w.heap.size:=lt_of_block aS;have CP:y<w.heap.size:=lt_of_block al;(have yf:IntKind.i64.wrap ((n:Int)+1-(i:Int))=((n+1-i:Nat):Int):=by rw[IntKind.wrap_i64];omega);have zr:i+(n+1-i)=n+1:=ae
 have b4:(Builtin.firstCells i0.size i<|.slice (some ⟨g,0,none⟩) i cap).run prog w.drew=.ok (xs.take<|i*4).toArray w.drew:=by
  rw[c0]
  exact run_firstCells_some w.drew 4 i ⟨g,0,none⟩ i cap (xs.take<|i*4) (by rw[fG,o]<;>omega) (fun j v f=>by
   rw[Addr.add_lit,iQ]
   rw[List.getElem?_take]at f
   split at f
   . exact uQ j v f
   . cases f)
 obtain⟨G,I⟩:∃G,G=grownCap w (n+1) cap 56:=⟨_,rfl⟩;obtain⟨m,z⟩:∃m,m=w.drew.alloc (.cells ((xs.take<|i*4).toArray++Builtin.zeroCells (.agg #[.int .i64 0,.slice none 0 0,.int .i64 0,.slice none 0 0]:Value).cells (n+1-i)++Builtin.zeroCells (.agg #[.int .i64 0,.slice none 0 0,.int .i64 0,.slice none 0 0]:Value).cells (G-(n+1))) 56):=⟨_,rfl⟩
 have C:(Builtin.append_ #[41,3] 41 #[.slice (some ⟨g,0,none⟩) i cap,.int .i64 ((n+1-i:Nat):Int)]).run prog w=
   .ok (.slice (some ⟨w.heap.size,0,none⟩) (n+1) G) m:=by
  have h:=Lib.run_append_grow_zeros w 41 3 41 56 i0 _ .i64 .i64 underlying41 underlying3 Z dH (some ⟨g,0,none⟩) i cap (xs.take<|i*4) b4 (n+1-i) ae (by rw[c0];decide) ae ae (by rw[dx];omega)<|by rw[dx,zr];exact growslice_fits qu ae
  rw[zr]at h
  rw[z,I]
  exact h
 (have QK:n+1<=G:=by rw[I];exact grownCap_ge w _ _ _);(have P:G<=maxLen:=by rw[I];exact grownCap_le_maxLen w _ _ _<|by unfold maxLen;omega);(have ahR:G<=9223372036854775807:=by unfold maxLen at P;omega);obtain⟨q,F⟩:∃q:List Value,q=xs.take (i*4)++((Builtin.zeroCells (.agg #[.int .i64 0,.slice none 0 0,.int .i64 0,.slice none 0 0]:Value).cells<|n+1-i).toList++(Builtin.zeroCells (.agg #[.int .i64 0,.slice none 0 0,.int .i64 0,.slice none 0 0]:Value).cells<|G-(n+1)).toList):=⟨_,rfl⟩;(have U:m.heap[w.heap.size]?=some (.cells q.toArray 56 (0,0)):=by rw[z,F];have:=heap_alloc_new w.drew<|.cells ((xs.take<|i*4).toArray++Builtin.zeroCells (.agg #[.int .i64 0,.slice none 0 0,.int .i64 0,.slice none 0 0]:Value).cells (n+1-i)++Builtin.zeroCells (.agg #[.int .i64 0,.slice none 0 0,.int .i64 0,.slice none 0 0]:Value).cells (G-(n+1))) 56;rw[show w.drew.heap.size=w.heap.size from rfl]at this;rw[this];congr 2;apply Array.ext';simp);(have x:q.length=G*4:=by rw[F];simp only[gO,fG,o,Array.length_toList,size_zeroCells];rw[show(.agg #[.int .i64 0,.slice none 0 0,.int .i64 0,.slice none 0 0]:Value).cells.size=4 from rfl];omega);(have I8:q.take (i*4)=xs.take (i*4):=by rw[F,List.take_append_of_le_length<|by rw[fG,o];omega,qG<|by rw[fG];omega]);(have K:∀k,k<w.heap.size->m.heap[k]?=w.heap[k]?:=fun k hk=>by rw[z];exact Below.heap_alloc w.drew _ k hk);(have I?:RowKit.Below base w m:=by rw[z];exact((RowKit.Below.refl base w).drew).alloc (show base<=w.drew.heap.size from br) _);(have r:(xs.drop (i*4)).length=(n-i)*4:=by rw[List.length_drop,o]<;>omega);have V:Nat.min 1 (n+1-i)=1:=by show min _ _=_;omega
 have s:(Builtin.copy_ #[41,41] 3 #[.slice (some ⟨w.heap.size,i*4,none⟩) (n+1-i) (G-i),.slice (some ⟨y,0,none⟩) 1 1]).run prog m=.ok (goInt 1) (m.setRow w.heap.size (splice q (i*4) news).toArray):=by
  have:=C? m 41 41 3 56 4 w.heap.size (i*4) (n+1-i) (G-i) ⟨y,0,none⟩ 1 1 q.toArray 56 news underlying41 T U (by rw[p,V]<;>omega)
   (fun j v f=>by
    rw[Addr.add_lit,World.cell?,K _ CP,al]
    simpa using f) (by rw[p,List.size_toArray,x];omega) h1
  rw[this,V];rfl
 obtain⟨l,D⟩:∃l,l=splice q (i*4) news:=⟨_,rfl⟩;rw[<-D]at s;(have E:l.length=G*4:=by rw[D,length_splice _ _ _<|by rw[x,p];omega,x]);obtain⟨d,A⟩:∃d,d=m.setRow w.heap.size l.toArray:=⟨_,rfl⟩;rw[<-A]at s;(have O:d.heap[w.heap.size]?=some (.cells l.toArray 56 (0,0)):=by rw[A];exact setRow_heap m _ _ _ 56 _ U);(have L:∀k,k<w.heap.size->d.heap[k]?=w.heap[k]?:=fun k hk=>by rw[A,setRow_other _ _ _ _ ae];exact K k hk);(have I!:RowKit.Below base w d:=by rw[A];exact below_setRow I? br _);have Y:Nat.min (n-i) (n-i)=n-i:=by show min _ _=_;omega
 have J:(Builtin.copy_ #[41,41] 3 #[.slice (some ⟨w.heap.size,(i+1)*4,none⟩) (n-i)<|G-(i+1),.slice (some ⟨g,i*4,none⟩) (n-i)<|cap-i]).run prog d.drew=.ok (goInt ((n-i:Nat):Int)) (d.drew.setRow w.heap.size (splice l ((i+1)*4)<|xs.drop<|i*4).toArray):=by
  have:=C? d.drew 41 41 3 56 4 w.heap.size ((i+1)*4) (n-i) (G-(i+1)) ⟨g,i*4,none⟩ (n-i) (cap-i) l.toArray 56 (xs.drop<|i*4) underlying41 T O (by rw[r,Y]<;>omega)
   (fun j v f=>by
    rw[List.getElem?_drop]at f
    rw[Addr.add_lit,World.cell?,show d.drew.heap=d.heap from rfl,L _ fE]
    have:=uQ _ v f
    rwa[World.cell?]at this) (by rw[r,List.size_toArray,E];omega) (fun v av=>H v (List.mem_of_mem_drop av))
  rw[this,Y]
 (have gg:(splice l ((i+1)*4) (xs.drop (i*4))).take ((n+1)*4)=xs.take (i*4)++(news++xs.drop (i*4)):=by(have aO:l.take ((i+1)*4)=xs.take (i*4)++news:=by rw[D];unfold splice;rw[<-List.append_assoc,List.take_append_of_le_length (by rw[gO,fG,x,p];omega),qG<|by rw[gO,fG,x,p];omega,I8]);unfold splice;rw[aO,List.append_assoc,<-List.append_assoc news,<-List.append_assoc (xs.take<|i*4),List.take_append_of_le_length<|by simp only[gO,fG,r,p,o];omega,qG<|by simp only[gO,fG,r,p,o];omega]);(have R:(splice l ((i+1)*4)<|xs.drop<|i*4).length=G*4:=by rw[length_splice _ _ _<|by rw[E,r];omega,E]);(have Ic:Hid (∀k,k<w.heap.size->(d.drew.setRow w.heap.size (splice l ((i+1)*4)<|xs.drop<|i*4).toArray).heap[k]?=w.heap[k]?):=fun k hk=>by rw[setRow_other _ _ _ _ ae];exact L k hk);have X:Hid ((d.drew.setRow w.heap.size (splice l ((i+1)*4)<|xs.drop<|i*4).toArray).ownsRow base 56 4 (.slice (some ⟨w.heap.size,0,none⟩) (n+1) G) (n+1) (xs.take (i*4)++(news++xs.drop (i*4)))/\RowKit.Below base w (d.drew.setRow w.heap.size (splice l ((i+1)*4)<|xs.drop<|i*4).toArray)):=⟨⟨by rw[<-gg,fG,R];omega,.inr ⟨w.heap.size,G,_,rfl,br,setRow_heap d.drew _ _ _ 56 _ O,QK,P,by rw[List.size_toArray,R]<;>omega,by simpa using gg⟩⟩,below_setRow I!.drew br _⟩;obtain⟨ID,I9⟩:∃ID,ID=d.drew.setRow w.heap.size (splice l ((i+1)*4)<|xs.drop<|i*4).toArray:=⟨_,rfl⟩;rw[<-I9]at X J Ic;have mixed:prog.follows Departure.mixedOrders=true:=b!;(have bK:IntKind.i64.wrap ((n:Int)+1)=(n:Int)+1:=by rw[IntKind.wrap_i64];omega);(have c8:IntKind.i64.wrap ((i:Int)+1)=(i:Int)+1:=by rw[IntKind.wrap_i64];omega);have ajU:¬((i:Int)=(n:Int)):=ae;have J3:(cap:Int)<(n:Int)+1:=ae;have qX:i<=n:=ae;have Q8:(0:Int)<=(i:Int)+1:=ae;have cW:(i:Int)<=(n:Int):=ae;have ju:(i:Int)<=(n:Int)+1:=ae;have JQ:((i:Int)+1).toNat=i+1:=ae;have ahS:¬(G=i):=ae;have ahT:¬(G=i+1):=ae;have X!:¬(cap=i):=ae;have DW:=ad C;have OC:=ad s;have H4:=ad J;clear U O K L I? I! z A I9 D F gg R E x I8 I b4 r Y V zr uQ au o sc g_ aS al h1 H T dH c0 dx Z p sa P C s J;generalize w.heap.size=N at*;go_enter func223,ntmps223;have C:=DW.out;have s:=OC.out;have J:=H4.out;go_wp2_with(first|(at_builtin;refine Lib.wpList_append_run _ rfl _ _ _ _ rfl _ _ rfl rfl _ _ C ?_)|simp only[s]);go_region_law_o (refine step_copy_runI rfl _ _ 41 41 rfl (.slice (some ⟨N,(i+1)*4,none⟩) (n-i)<|G-(i+1)) (.slice (some ⟨g,i*4,none⟩) (n-i)<|cap-i) (by simp[Act.eval,Act.put]) (by simp[Act.eval,Act.put]) H4.out ?_);go_wp2;go_ret;exact⟨_,_,rfl,X.out.1,X.out.2,fun k hk _=>Ic.out k hk⟩
theorem aj_(base:Nat)(v:Value)(n i:Nat)(xs:List Value)(d:Nat)(news:List Value)(w:World)(h:w.ownsRow base 56 4 v n xs)(al:w.heap[d]?=some (.cells news.toArray 56 (0,0)))(m:∀g,v.ownBlock=some g->g≠d)(f:news.length=4)(h1:∀u∈news,u.oneCell'=true)(l:∀u∈xs,u.oneCell'=true)(hi:i<=n)(j:n<1048577)(br:base<=w.heap.size):
 aR 223 #[v,.int .i64 i,.slice (some ⟨d,0,none⟩) 1 1] w fun e w'=>∃a c,e=.returned (.slice a (n+1) c)/\w'.ownsRow base 56 4 (.slice a (n+1) c) (n+1) (xs.take (i*4)++(news++xs.drop (i*4)))/\Below base w w'/\(∀k,k<w.heap.size->Value.ownBlock v≠some k->w'.heap[k]?=w.heap[k]?):=by(have p:xs.length=n*4:=by simpa using h.1);(have av:∃a c,v=.slice a n c:=by rcases h.2 with⟨rfl,rfl⟩|⟨g,cap,cur,rfl,_⟩;{exact⟨_,_,rfl⟩};exact⟨_,_,rfl⟩);by_cases o:i=n;{subst o;have k:=aka base v i xs d news w h av al m f h1 j br;rw[qG ae,List.drop_eq_nil_of_le ae,List.append_nil];exact k};rcases id h.2 with⟨rfl,rfl⟩|⟨g,cap,cur,rfl,_⟩;{omega};by_cases aE:n+1<=cap;{exact akc base g cap n i xs d news w h al (fun e=>m g rfl e.symm) f h1 l ae aE j};exact akb base g cap n i xs d news w h al f h1 l ae ae j br
theorem Sr:(prog.info? 2).map (fun i=>(i.zero,i.size,i.bytes))=some (some<|.int .i64 0,1,8):=b!
theorem ake(base:Nat)(v:Value)(n:Nat)(xs:List Value)(f:Nat)(news:List Value)(w:World)(h:w.ownsRow base 2 1 v n xs)(av:∃a c,v=.slice a n c)(al:w.heap[f]?=some (.cells news.toArray 2 (0,0)))(F:∀g,v.ownBlock=some g->g≠f)(s:news.length=1)(h1:∀u∈news,u.oneCell'=true)(G:n<1048577)(br:base<=w.heap.size):
 aR 243 #[v,.int .i64 n,.slice (some ⟨f,0,none⟩) 1 1] w fun e w'=>∃a c,e=.returned (.slice a (n+1) c)/\w'.ownsRow base 2 1 (.slice a (n+1) c) (n+1) (xs++news)/\Below base w w'/\(∀k,k<w.heap.size->Value.ownBlock v≠some k->w'.heap[k]?=w.heap[k]?):=by obtain⟨i0,hi,dH,c0,dx⟩:=info_parts Sr;have H:=ad h;have C:=ad al;have y:=ad s;have H1:=ad h1;have q:=ad br;(have r:Hid (∀j u,news[j]?=some u->w.cell? (Addr.add f j)=some u):=fun j u x=>by rw[Addr.add_lit,iQ];show w.cell? _=_;have cc:=(qe.1 x).1;simp[World.cell?,C.out,x]);have D:Hid (∀g,v.ownBlock=some g->base<=g/\g<w):=h.lt;obtain⟨a,c,rfl⟩:=av;(have I:n<=c:=by rcases h.2 with⟨e,aU⟩|⟨g,cap,cur,e,_,_,E,_⟩;{injection e with _ cr eI;omega};injection e with _ _ eI;omega);(have bd:a=none->n=0/\c=0:=by rintro rfl;rcases h.2 with⟨e,aU⟩|⟨g,cap,cur,e,_⟩;{injection e with _ cr eI;exact⟨aU,eI⟩};injection e with eI;cases eI);(have ha:∀p,a=some p->∃g,p=⟨g,0,none⟩:=by rintro p rfl;rcases h.2 with⟨e,aU⟩|⟨g,cap,cur,e,_⟩;{injection e with cr;cases cr};injection e with cr;injection cr with cr;exact⟨g,cr⟩);clear h al s h1 br;go_enter func243,ntmps243;(have fin:∀v' w1,w1.ownsRow base 2 1 v' (n+1) (xs++news)->w.grownBy w1 (Value.slice a n c).ownBlock->∃l bx,v'=.slice l (n+1) bx/\w1.ownsRow base 2 1 (.slice l (n+1) bx) (n+1) (xs++news)/\Below base w w1/\(∀k,k<w.heap.size->Value.ownBlock (.slice a n c)≠some k->w1.heap[k]?=w.heap[k]?):=by intro v' w1 i d;have A:Below base w w1:=⟨d.os,d.tape,d.output,d.size,fun k hk=>d.block k (by have:=q.out;omega) fun e=>by have:=(D.out k e.symm).1;omega⟩;rcases id i.2 with ⟨e,aU⟩|⟨g,cap,cur,rfl,_⟩;{omega};exact⟨_,_,rfl,i,A,fun k hk bU=>d.block k hk fun e=>bU e.symm⟩);cases a with|none=>obtain⟨rfl,rfl⟩:=bd rfl;go_wp2_with(at_builtin;refine wpList_append_own _ rfl _ _ 54 rfl base 2 i0 bA 1 8 underlying54 hi dH c0 dx rfl ax _ _ _ rfl H.out f 1 1 news rfl (by rw[y.out]) r.out H1.out (by unfold maxLen;omega) ae q.out ?_;intro v' w1 i d z;obtain⟨l,bx,rfl,m,o⟩:=fin v' w1 i d);go_ret;exact⟨l,bx,rfl,m,o⟩|some p=>obtain⟨g,rfl⟩:=ha p rfl;have hlen:n<=n:=bG n;go_wp2_with(at_builtin;refine wpList_append_own _ rfl _ _ 54 rfl base 2 i0 bA 1 8 underlying54 hi dH c0 dx rfl ax _ _ _ rfl H.out f 1 1 news rfl (by rw[y.out]) r.out H1.out (by unfold maxLen;omega) ae q.out ?_;intro v' w1 i d z;obtain⟨l,bx,rfl,m,o⟩:=fin v' w1 i d);all_goals go_ret;exact⟨l,bx,rfl,m,o⟩
theorem alK(w:World)(g c o bW d:Nat)(cur news:Array Value)(aS:w.heap[g]?=some (.cells cur 2 (0,0)))(av:w.heap[c]?=some (.cells news 2 (0,0)))(bU:c≠g)(f:cur.size≠0):
 (callFunc 249 #[.slice (some c) 1 1,.slice (some ⟨g,o,none⟩) bW d]).run prog w=.ok (.value false) w:=by rw[run_callFunc_extern func249 b! b! b! (e:=Extern.SlicesOverlaps.overlaps #[54,54] #[4]) b!,Lib.run_overlaps_apart w 54 4 2 underlying54 1 Tryz.sizeOf2 c ⟨g,o,none⟩ 1 1 bW d bU 2 2 news.size cur.size (by simp[World.shape?,av]) (by simp[World.shape?,aS]) f (by simp[World.frozen?,av]) (by simp[World.frozen?,av])];rfl
