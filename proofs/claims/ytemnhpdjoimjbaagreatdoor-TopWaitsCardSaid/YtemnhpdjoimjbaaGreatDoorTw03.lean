section
namespace Go.Proofs.YtemnhpdjoimjbaaGreatDoor.Top
set_option linter.unusedVariables false
def U64 :Nat:=18446744073709551616
def FRZ :Nat:=4611686018427387904
def MAXT :Int:=4611686018427387903
def NEVER :Nat:=18446744073709551615
structure Cell where
  pol:Int
  key:List Nat
  tat:Int
  held:List Int
deriving Inhabited, DecidableEq
structure Pol where
  kind:Nat
  T:Int
  tau:Int
  permits:Int
deriving Inhabited, DecidableEq
structure Reply where
  e:Int
  granted:Bool
  left:Int
  wait:Int
  serial:Int
  now:Int
deriving Inhabited, DecidableEq
def err (e:Int):Reply:=⟨e,false,0,0,0,0⟩
structure Call where
  op:Nat
  pol:Int
  key:List Nat
  n:Int
deriving Inhabited, DecidableEq
structure Mem where
  words:List Nat
  holds:List (List Cell)
  clock:Int
  count:Int
deriving Inhabited
def Mem.word (m:Mem) (i:Nat):Nat:=m.words.getD i 0
def Mem.hold (m:Mem) (i:Nat):List Cell:=m.holds.getD i []
def Mem.touch (m:Mem):Mem:={m with count:=m.count+1 }
def Mem.swap (m:Mem) (i old new:Nat) (h:List Cell):Bool×Mem:=
 if m.word i=old then(true,{m with words:=m.words.set i new,holds:=m.holds.set i h,count:=m.count+1 })else(false,m.touch)
def sumStep (h b:Nat):Nat:=(h ^^^ b)*1099511628211%U64
def sumB (l:List Nat):Nat:=l.foldl sumStep 14695981039346656037
def ident (pol:Int) (key:List Nat):List Nat:=pol.toNat%256::key
def cmpB :List Nat→List Nat→Int
 |[],[]=>0
 |[],_::_=> -1
 |_::_,[]=>1
 |a::as,b::bs=>if a<b then -1 else if b<a then 1 else cmpB as bs
def shardOf (c:Cell) (level:Nat):Nat:=sumB (ident c.pol c.key)%2^level
def cut (l:List Cell) (level shard:Nat):List Cell:=l.filter fun c=>shardOf c level==shard
def place (level shard:Nat):Nat:=2^level+shard%2^level
def findAt (l:List Cell) (pol:Int) (key:List Nat):Nat:=(l.takeWhile fun c=>cmpB (ident c.pol c.key) (ident pol key)<0).length
def findThere (l:List Cell) (pol:Int) (key:List Nat):Bool:=
 match l[findAt l pol key]? with
 |some c=>cmpB (ident c.pol c.key) (ident pol key)==0
 |none=>false
def findCell (l:List Cell) (pol:Int) (key:List Nat):Cell:=if findThere l pol key then l.getD (findAt l pol key) default else⟨pol,key,0,[]⟩
def withCell (l:List Cell) (at_:Nat) (there:Bool) (c:Cell):List Cell:=if there then l.set at_ c else l.take at_++[c]++l.drop at_
structure CellOk (c:Cell):Prop where
 pol0:0≤c.pol
 pol1:c.pol<32
 len:c.key.length≤255
 bytes: ∀b∈c.key,b<256
 tat0:0≤c.tat
 tat1:c.tat≤4611686018427387903
 held0: ∀n∈c.held,1≤n∧n≤4611686018427387903
 rises:c.held.Pairwise (· < ·)
 few:c.held.length≤64
def identLt (a b:Cell):Prop:=cmpB (ident a.pol a.key) (ident b.pol b.key)<0
structure WfL (L:List Cell):Prop where
 ok: ∀c∈L,CellOk c
 order:L.Pairwise identLt
 few:L.length≤1048576
theorem WfL.nil :WfL []:=⟨fun c h=>(by cases h),List.Pairwise.nil,by simp⟩
theorem WfL.filter {L:List Cell} (h:WfL L) (p:Cell→Bool):WfL (L.filter p):=⟨fun c hc=>h.ok c (List.mem_filter.1 hc).1,h.order.filter p,Nat.le_trans (List.length_filter_le _ _) h.few⟩
structure Below where
 decide : Pol → Int → Int → Int → Bool × Int × Int × Int   -- granted, tat, left, wait
 left:Pol→Int→Int→Int
 sub:Int→Int→Int
 take : Int → List Int → Int → Int × List Int               -- error, held
 give:Int→List Int→Int→Int×List Int
inductive Then where
 |call
 |evict (j shards:Nat) (gone:Int)
inductive FThen where
 |find (level sum:Nat) (t:Then)
 |move (level i:Nat)
inductive HThen where
 |find (sum:Nat) (t:Then)
 |one (level i:Nat) (holds:List Cell)
 |two (level i:Nat)
structure Found where
 word:Nat
 v:Nat
 cells:List Cell
structure PutOk (f:Found) (at_:Nat) (there:Bool) (c:Cell):Prop where
 cell:CellOk c
 place:at_=findAt f.cells c.pol c.key
 there_:there=findThere f.cells c.pol c.key
inductive BThen where
 |done (r:Reply)
 |evict (j shards:Nat) (gone:Int)
inductive WThen where
 |back (t:BThen)
 |room (f:Found) (at_:Nat) (there:Bool) (c:Cell) (r:Reply)
 |serial (f:Found) (at_:Nat) (there:Bool) (c:Cell)
inductive Kont where
 |find (sum:Nat) (t:Then)
 |enter (sum word:Nat) (t:Then)
 |freeze (word:Nat) (t:FThen)
 |freezeSwap (word v:Nat) (holds:List Cell) (t:FThen)
 |half (level shard:Nat) (holds:List Cell) (t:HThen)
 |halfSwap (level shard:Nat) (holds h:List Cell) (t:HThen)
 |split
 |splitSwap (d level:Nat)
 |moveEnd (level:Nat)
 |wordLoad (word by_ stop:Nat) (t:WThen)
 |wordSwap (word by_ stop v:Nat) (t:WThen)
 |put (f:Found) (at_:Nat) (there:Bool) (c:Cell) (r:Reply)
 |allow (f:Found) (at_:Nat) (there:Bool) (c:Cell)
 |peek (c:Cell)
 |evictStart
 |evictClock (j shards:Nat) (gone:Int) (word v:Nat) (cells:List Cell)
 |evictSwap (j shards:Nat) (gone:Int) (word v:Nat) (rest:List Cell) (n:Nat)
structure Live where
 call:Call
 sum:Nat
 reserved:Bool
 serial:Int
abbrev Out :=(Kont ⊕ Reply)×Live×Mem
section
variable (B : Below) (list:List Pol) (room:Nat)
def more (k:Kont) (x:Live) (m:Mem):Out:=(.inl k,x,m)
def fin (r:Reply) (x:Live) (m:Mem):Out:=(.inr r,x,m)
def COUNT :Nat:=32
def SERIAL :Nat:=33
def neg (n:Nat):Nat:=(U64-n%U64)%U64
def backK (n:Nat) (t:BThen):Kont:= .wordLoad COUNT (neg n) NEVER (.back t)
def leave (r:Reply) (x:Live) (m:Mem):Out:=if x.reserved then more (backK 1 (.done r)) x m else fin r x m
def putK (f:Found) (at_:Nat) (there:Bool) (c:Cell) (r:Reply) (x:Live):Kont:=
 if there||x.reserved then .put f at_ there c r else .wordLoad COUNT 1 room (.room f at_ there c r)
def polOf (x:Live):Pol:=list.getD x.call.pol.toNat default
def further (j shards:Nat) (gone:Int) (x:Live) (m:Mem):Out:=
 if j+1=shards then fin ⟨0,false,gone,0,0,0⟩ x m else more (.find (j+1) (.evict (j+1) shards gone)) x m
def takeF (p:Pol) (c:Cell) (serial:Int):Reply×Cell:=
 let s:=B.take p.permits c.held serial
 if s.1=0 then(⟨0,true,p.permits-s.2.length,0,serial,0⟩,{c with held:=s.2 })else(err s.1,c)
def giveF (p:Pol) (c:Cell) (serial:Int):Reply×Cell:=
 let s:=B.give p.permits c.held serial
 if s.1=0 then(⟨0,true,p.permits-s.2.length,0,0,0⟩,{c with held:=s.2 })else(err s.1,c)
def peekF (p:Pol) (c:Cell) (now:Int):Reply:=
 if p.kind=2 then⟨0,false,p.permits-c.held.length,0,0,0⟩else⟨0,false,B.left p c.tat now,B.sub c.tat now,0,now⟩
def idleF (c:Cell) (now:Int):Bool:=if(list.getD c.pol.toNat default).kind=2 then c.held.isEmpty else decide (c.tat≤now)
def acquireF (f:Found) (at_:Nat) (there:Bool) (c:Cell) (x:Live) (m:Mem):Out:=
 if(c.held.length:Int)=(polOf list x).permits then leave (err 9) x m
 else if 0<x.serial then more (putK room f at_ there (takeF B (polOf list x) c x.serial).2 (takeF B (polOf list x) c x.serial).1 x) x m
 else more (.wordLoad SERIAL 1 4611686018427387903 (.serial f at_ there c)) x m
def thenF (t:Then) (word v:Nat) (cells:List Cell) (x:Live) (m:Mem):Out:=
 match t with
 | .evict j shards gone=>if cells.isEmpty then further j shards gone x m else more (.evictClock j shards gone word v cells) x m
 | .call=>
   let f:Found:=⟨word,v,cells⟩
   let at_:=findAt cells x.call.pol x.call.key
   let there:=findThere cells x.call.pol x.call.key
   let c:=findCell cells x.call.pol x.call.key
   let p:=polOf list x
   if x.call.op=1 then more (.allow f at_ there c) x m
   else if x.call.op=2 then acquireF B list room f at_ there c x m
   else if x.call.op=3 then
     let rc:=giveF B p c x.call.n
     if rc.1.e≠0 then fin rc.1 x m else more (putK room f at_ there rc.2 rc.1 x) x m
   else if p.kind=2 then fin (peekF B p c 0) x m
   else more (.peek c) x m
def enteredF (sum word v:Nat) (h:List Cell) (t:Then) (x:Live) (m:Mem):Out:=
 if v=0∨FRZ≤v then more (.find sum t) x m else thenF B list room t word v h x m
def moveK (level i:Nat):Kont:=if i=2^level then .moveEnd level else .freeze (place level i) (.move level i)
def fthenF (t:FThen) (holds:List Cell):Kont:=
 match t with
 | .find level sum t=> .half (level+1) sum holds (.find sum t)
 | .move level i=> .half (level+1) i holds (.one level i holds)
def hthenF (t:HThen) (word v:Nat) (h:List Cell) (x:Live) (m:Mem):Out:=
 match t with
 | .find sum t=>if v=0 then more (.enter sum word t) x m else enteredF B list room sum word v h t x m
 | .one level i holds=>more (.half (level+1) (i+2^level) holds (.two level i)) x m
 | .two level i=>more (moveK level (i+1)) x m
def bthenF (t:BThen) (x:Live) (m:Mem):Out:=
 match t with
 | .done r=>fin r x m
 | .evict j shards gone=>further j shards gone x m
def wthenF (t:WThen) (now:Nat) (x:Live) (m:Mem):Out:=
 match t with
 | .back t=>bthenF t x m
 | .room f at_ there c r=>more (.put f at_ there c r) {x with reserved:=true } m
 | .serial f at_ there c=>
   let x':Live:={x with serial:=now }
   let rc:=takeF B (polOf list x) c now
   more (putK room f at_ there rc.2 rc.1 x') x' m
def stopF (t:WThen) (x:Live) (m:Mem):Out:=
 match t with
 | .back _=>fin (err 0) x m
 | .room .. =>fin (err 10) x m
 | .serial .. =>leave (err 5) x m
def stepF (k:Kont) (x:Live) (m:Mem):Out:=
 match k with
 | .find sum t=>
   let d:=m.word 0
   if d%2=0 then more (.enter sum (place (d/2) sum) t) x m.touch else more (.freeze (place (d/2) sum) (.find (d/2) sum t)) x m.touch
 | .enter sum word t=>enteredF B list room sum word (m.word word) (m.hold word) t x m.touch
 | .freeze word t=>if FRZ≤m.word word then more (fthenF t (m.hold word)) x m.touch else more (.freezeSwap word (m.word word) (m.hold word) t) x m.touch
 | .freezeSwap word v holds t=>
   let s:=m.swap word v (v+FRZ) holds
   if s.1 then more (fthenF t holds) x s.2 else more (.freeze word t) x s.2
 | .half level shard holds t=>
   let w:=place level shard
   if m.word w≠0 then hthenF B list room t w (m.word w) (m.hold w) x m.touch else more (.halfSwap level shard holds (m.hold w) t) x m.touch
 | .halfSwap level shard holds h t=>
   let w:=place level shard
   let s:=m.swap w 0 1 (cut holds level (w-2^level))
   hthenF B list room t w 0 h x s.2
 | .split=>
   let d:=m.word 0
   if d%2=1 then more (moveK (d/2) 0) x m.touch else if d/2=4 then fin (err 5) x m.touch else more (.splitSwap d (d/2)) x m.touch
 | .splitSwap d level=>
   let s:=m.swap 0 d (d+1) []
   if s.1 then more (moveK level 0) x s.2 else more .split x s.2
 | .moveEnd level=>fin (err 0) x (m.swap 0 (2*level+1) (2*level+2) []).2
 | .wordLoad word by_ stop t=>if m.word word=stop then stopF t x m.touch else more (.wordSwap word by_ stop (m.word word) t) x m.touch
 | .wordSwap word by_ stop v t=>
   let s:=m.swap word v ((v+by_)%U64) []
   if s.1 then wthenF B list room t ((v+by_)%U64) x s.2 else more (.wordLoad word by_ stop t) x s.2
 | .put f at_ there c r=>
   let s:=m.swap f.word f.v (f.v+1) (withCell f.cells at_ there c)
   if s.1 then(if there then leave r x s.2 else fin r x s.2)else more (.find x.sum .call) x s.2
 | .allow f at_ there c=>
   let d:=B.decide (polOf list x) c.tat m.clock x.call.n
   let r:Reply:=⟨0,d.1,d.2.2.1,d.2.2.2,0,m.clock⟩
   if d.1=false∨x.call.n=0 then leave r x m.touch else more (putK room f at_ there {c with tat:=d.2.1 } r x) x m.touch
 | .peek c=>fin (peekF B (polOf list x) c m.clock) x m.touch
 | .evictStart=>more (.find 0 (.evict 0 (2^((m.word 0+1)/2)) 0)) x m.touch
 | .evictClock j shards gone word v cells=>
   let rest:=cells.filter fun c=> !idleF list c m.clock
   if cells.length-rest.length=0 then further j shards gone x m.touch else more (.evictSwap j shards gone word v rest (cells.length-rest.length)) x m.touch
 | .evictSwap j shards gone word v rest n=>
   let s:=m.swap word v (v+1) rest
   if s.1 then more (backK n (.evict j shards (gone+n))) x s.2 else further j shards gone x s.2
def firstK (c:Call):Kont:=if c.op=6 then .split else if c.op=5 then .evictStart else .find (sumB (ident c.pol c.key)) .call
end
end Go.Proofs.YtemnhpdjoimjbaaGreatDoor.Top
end
section
namespace Go.Proofs.YtemnhpdjoimjbaaGreatDoor.Top
set_option linter.unusedVariables false
def Mem.put1 (m:Mem) (i v:Nat) (h:List Cell):Mem:={m with words:=m.words.set i v,holds:=m.holds.set i h,count:=m.count+1 }
theorem swap_hit {m:Mem} {i old new:Nat} {h:List Cell} (e:m.word i=old):m.swap i old new h=(true,m.put1 i new h):=by
 unfold Mem.swap
 rw[if_pos e]
 rfl
theorem swap_miss {m:Mem} {i old new:Nat} {h:List Cell} (e:m.word i≠old):m.swap i old new h=(false,m.touch):=by
 unfold Mem.swap
 rw[if_neg e]
theorem touch_word (m:Mem) (j:Nat):m.touch.word j=m.word j:=rfl
theorem put1_word {m:Mem} {i:Nat} (hi:i<m.words.length) {v:Nat} {h:List Cell} {j:Nat}:(m.put1 i v h).word j=if j=i then v else m.word j:=by
 unfold Mem.put1 Mem.word
 simp only[List.getD_eq_getElem?_getD,List.getElem?_set]
 by_cases e:i=j
 · subst e;simp [hi]
 · simp [e,Ne.symm e]
theorem put1_hold {m:Mem} {i:Nat} (hi:i<m.holds.length) {v:Nat} {h:List Cell} {j:Nat}:(m.put1 i v h).hold j=if j=i then h else m.hold j:=by
 unfold Mem.put1 Mem.hold
 simp only[List.getD_eq_getElem?_getD,List.getElem?_set]
 by_cases e:i=j
 · subst e;simp [hi]
 · simp [e,Ne.symm e]
def par (L i:Nat):Nat:=2^L+i%2^L
theorem two_pos (L:Nat):0<2^L:=Nat.two_pow_pos L
theorem two_succ (L:Nat):2^(L+1)=2*2^L:=by rw[Nat.pow_succ];omega
theorem two_succ2 (L:Nat):2^(L+2)=4*2^L:=by rw[Nat.pow_succ,Nat.pow_succ];omega
theorem par_lt (L i:Nat):2^L≤par L i∧par L i<2^(L+1):=by
 have:=Nat.mod_lt i (two_pos L)
 have:=two_succ L
 unfold par
 omega
theorem place_lt (L s:Nat):2^L≤place L s∧place L s<2^(L+1):=par_lt L s
theorem two_le {a b:Nat} (h:a≤b):2^a≤2^b:=Nat.pow_le_pow_right (by decide) h
theorem lvl_inj {a b i:Nat} (h1:2^a≤i) (h2:i<2^(a+1)) (h3:2^b≤i) (h4:i<2^(b+1)):a=b:=by
 rcases Nat.lt_trichotomy a b with h|h|h
 · have:=two_le (show a+1≤b by omega);omega
 · exact h
 · have:=two_le (show b+1≤a by omega);omega
theorem par_place (L s:Nat):par L (place (L+1) s)=place L s:=by
 unfold par place
 have h:2^(L+1)=2^L*2:=by rw[two_succ];omega
 rw[h,Nat.mul_add_mod,Nat.mod_mul_right_mod]
theorem place_self {L s:Nat} (h:s<2^L):place L s=2^L+s:=by unfold place;rw[Nat.mod_eq_of_lt h]
structure Dir (m:Mem):Prop where
 nw:m.words.length=34
 nh:m.holds.length=34
 d8:m.word 0≤8
 old: ∀i,1≤i→i<2^(m.word 0/2)→FRZ≤m.word i
 cur: ∀i,2^(m.word 0/2)≤i→i<2^(m.word 0/2+1)→1≤m.word i∧(m.word 0%2=0→m.word i<FRZ)
 nxt: ∀i,2^(m.word 0/2+1)≤i→i<32→m.word i<FRZ∧(m.word i≠0→m.word 0%2=1∧i<2^(m.word 0/2+2)∧FRZ≤m.word (par (m.word 0/2) i))
 small: ∀i,1≤i→i<32→(m.word i%FRZ:Nat)≤m.count∧m.word i<2*FRZ
 cnt0:1≤m.count
def Mem.live (m:Mem) (i:Nat):Prop:=1≤m.word i∧m.word i<FRZ
theorem Dir.lvl3 {m:Mem} (H:Dir m) (h:m.word 0%2=1):m.word 0/2≤3:=by have:=H.d8;omega
theorem Dir.lvl4 {m:Mem} (H:Dir m):m.word 0/2≤4:=by have:=H.d8;omega
theorem Dir.size {m:Mem} (H:Dir m):2^(m.word 0/2+1)≤32:=two_le (show m.word 0/2+1≤5 by have:=H.d8;omega)
theorem Dir.touch {m:Mem} (H:Dir m):Dir m.touch:=⟨H.nw,H.nh,H.d8,H.old,H.cur,H.nxt,fun i h1 h2=>⟨by have:=(H.small i h1 h2).1;show _≤m.count+1;exact Int.le_trans this (by omega),(H.small i h1 h2).2⟩,by have:=H.cnt0;show 1≤m.count+1;omega⟩
theorem Dir.live_at {m:Mem} (H:Dir m) {i:Nat} (h1:1≤i) (h2:i<32) (hl:m.live i):
   (2^(m.word 0/2)≤i∧i<2^(m.word 0/2+1))∨(m.word 0%2=1∧2^(m.word 0/2+1)≤i∧i<2^(m.word 0/2+2)∧FRZ≤m.word (par (m.word 0/2) i)):=by
 obtain⟨hl1,hl2⟩:=hl
 by_cases ha:i<2^(m.word 0/2)
 · have:=H.old i h1 ha;omega
 by_cases hb:i<2^(m.word 0/2+1)
 · exact .inl ⟨by omega,hb⟩
 · obtain⟨_,h⟩:=H.nxt i (by omega) h2
   obtain⟨h3,h4,h5⟩:=h (by omega)
   exact .inr ⟨h3,by omega,h4,h5⟩
theorem frz_pos :0<FRZ:=by decide
theorem put1_zero {m:Mem} (H:Dir m) {w:Nat} (hw1:1≤w) (hw2:w<32) (v:Nat) (h:List Cell):(m.put1 w v h).word 0=m.word 0:=by
 rw[put1_word (by rw[H.nw];omega),if_neg (by omega)]
theorem Dir.go {m:Mem} (H:Dir m) {w v:Nat} (h:List Cell) (hw1:1≤w) (hw2:w<32) (hl:m.live w) (hv1:1≤v) (hv2:v<FRZ) (hv3:(v:Int)≤m.count+1):Dir (m.put1 w v h):=by
 have hwl:w<m.words.length:=by rw[H.nw];omega
 have e0:=put1_zero H hw1 hw2 v h
 obtain⟨hl1,hl2⟩:=hl
 refine⟨by simpa [Mem.put1]using H.nw,by simpa [Mem.put1]using H.nh,by rw[e0];exact H.d8,?_,?_,?_,?_,?_⟩
 · rw[e0]
   intro i h1 h2
   have:=H.old i h1 h2
   rw[put1_word hwl,if_neg (by rintro rfl;omega)]
   exact this
 · rw[e0]
   intro i h1 h2
   have:=H.cur i h1 h2
   rw[put1_word hwl]
   split
   · exact⟨hv1,fun _=>hv2⟩
   · exact this
 · rw[e0]
   intro i h1 h2
   obtain⟨h3,h4⟩:=H.nxt i h1 h2
   rw[put1_word hwl]
   split
   · rename_i e
     subst e
     refine⟨hv2,fun _=> ?_⟩
     obtain⟨h5,h6,h7⟩:=h4 (by omega)
     refine⟨h5,h6,?_⟩
     rw[put1_word hwl,if_neg (by intro e;rw[e]at h7;omega)]
     exact h7
   · refine⟨h3,fun hne=> ?_⟩
     obtain⟨h5,h6,h7⟩:=h4 hne
     refine⟨h5,h6,?_⟩
     rw[put1_word hwl,if_neg (by intro e;rw[e]at h7;omega)]
     exact h7
 · intro i h1 h2
   rw[put1_word hwl]
   show _≤m.count+1∧_
   have:=H.small i h1 h2
   split
   · rw[Nat.mod_eq_of_lt hv2];exact⟨hv3,by omega⟩
   · exact⟨by omega,this.2⟩
 · have:=H.cnt0;show 1≤m.count+1;omega
theorem Dir.freeze {m:Mem} (H:Dir m) {w:Nat} (h:List Cell) (hd:m.word 0%2=1) (hw1:2^(m.word 0/2)≤w) (hw2:w<2^(m.word 0/2+1)) (hl:m.live w):Dir (m.put1 w (m.word w+FRZ) h):=by
 have h32:=H.size
 have hp:=two_pos (m.word 0/2)
 have h01:=two_succ (m.word 0/2)
 have hwl:w<m.words.length:=by rw[H.nw];omega
 have e0:=put1_zero H (show 1≤w by omega) (by omega) (m.word w+FRZ) h
 obtain⟨hl1,hl2⟩:=hl
 refine⟨by simpa [Mem.put1]using H.nw,by simpa [Mem.put1]using H.nh,by rw[e0];exact H.d8,?_,?_,?_,?_,?_⟩
 · rw[e0]
   intro i h1 h2
   rw[put1_word hwl,if_neg (by omega)]
   exact H.old i h1 h2
 · rw[e0]
   intro i h1 h2
   have:=H.cur i h1 h2
   rw[put1_word hwl]
   split
   · exact⟨by omega,fun e=>absurd e (by omega)⟩
   · exact this
 · rw[e0]
   intro i h1 h2
   obtain⟨h3,h4⟩:=H.nxt i h1 h2
   rw[put1_word hwl,if_neg (by omega)]
   refine⟨h3,fun hne=> ?_⟩
   obtain⟨h5,h6,h7⟩:=h4 hne
   refine⟨h5,h6,?_⟩
   rw[put1_word hwl]
   split
   · omega
   · exact h7
 · intro i h1 h2
   rw[put1_word hwl]
   show _≤m.count+1∧_
   have:=H.small i h1 h2
   split
   · rename_i e
     subst e
     rw[Nat.add_mod_right]
     exact⟨by omega,by omega⟩
   · exact⟨by omega,this.2⟩
 · have:=H.cnt0;show 1≤m.count+1;omega
theorem Dir.lay {m:Mem} (H:Dir m) {w:Nat} (h:List Cell) (hd:m.word 0%2=1) (hw1:2^(m.word 0/2+1)≤w) (hw2:w<2^(m.word 0/2+2)) (hp:FRZ≤m.word (par (m.word 0/2) w)) (hz:m.word w=0):Dir (m.put1 w 1 h):=by
 have h3:=H.lvl3 hd
 have h32:2^(m.word 0/2+2)≤32:=two_le (show m.word 0/2+2≤5 by omega)
 have hp0:=two_pos (m.word 0/2)
 have hs:=two_succ (m.word 0/2)
 have hpl:=par_lt (m.word 0/2) w
 have hwl:w<m.words.length:=by rw[H.nw];omega
 have e0:=put1_zero H (show 1≤w by omega) (by omega) 1 h
 refine⟨by simpa [Mem.put1]using H.nw,by simpa [Mem.put1]using H.nh,by rw[e0];exact H.d8,?_,?_,?_,?_,?_⟩
 · rw[e0]
   intro i h1 h2
   rw[put1_word hwl,if_neg (by omega)]
   exact H.old i h1 h2
 · rw[e0]
   intro i h1 h2
   rw[put1_word hwl,if_neg (by omega)]
   exact H.cur i h1 h2
 · rw[e0]
   intro i h1 h2
   obtain⟨h3,h4⟩:=H.nxt i h1 h2
   have hpi:=par_lt (m.word 0/2) i
   rw[put1_word hwl]
   split
   · rename_i e
     subst e
     refine⟨by decide,fun _=>⟨hd,hw2,?_⟩⟩
     rw[put1_word hwl,if_neg (by omega)]
     exact hp
   · refine⟨h3,fun hne=> ?_⟩
     obtain⟨h5,h6,h7⟩:=h4 hne
     refine⟨h5,h6,?_⟩
     rw[put1_word hwl,if_neg (by omega)]
     exact h7
 · intro i h1 h2
   rw[put1_word hwl]
   show _≤m.count+1∧_
   have:=H.small i h1 h2
   have:=H.cnt0
   split
   · exact⟨by rw[show (1:Nat)%FRZ=1 from by decide];omega,by decide⟩
   · exact⟨by omega,by omega⟩
 · have:=H.cnt0;show 1≤m.count+1;omega
theorem Dir.split {m:Mem} (H:Dir m) (h:List Cell) (hd:m.word 0%2=0) (h4:m.word 0/2≠4):Dir (m.put1 0 (m.word 0+1) h):=by
 have hwl:0<m.words.length:=by rw[H.nw];omega
 have e0:(m.put1 0 (m.word 0+1) h).word 0=m.word 0+1:=by rw[put1_word hwl,if_pos rfl]
 have eh:(m.word 0+1)/2=m.word 0/2:=by omega
 have hp:=two_pos (m.word 0/2)
 have hs:=two_succ (m.word 0/2)
 have hd8:=H.d8
 refine⟨by simpa [Mem.put1]using H.nw,by simpa [Mem.put1]using H.nh,by rw[e0];omega,?_,?_,?_,?_,?_⟩
 · rw[e0,eh]
   intro i h1 h2
   rw[put1_word hwl,if_neg (by omega)]
   exact H.old i h1 h2
 · rw[e0,eh]
   intro i h1 h2
   rw[put1_word hwl,if_neg (by omega)]
   exact⟨(H.cur i h1 h2).1,fun e=>absurd e (by omega)⟩
 · rw[e0,eh]
   intro i h1 h2
   rw[put1_word hwl,if_neg (by omega)]
   obtain⟨h3,h4⟩:=H.nxt i h1 h2
   exact⟨h3,fun hne=>absurd (h4 hne).1 (by omega)⟩
 · intro i h1 h2
   rw[put1_word hwl,if_neg (by omega)]
   show _≤m.count+1∧_
   have:=H.small i h1 h2
   exact⟨by omega,this.2⟩
 · have:=H.cnt0;show 1≤m.count+1;omega
theorem Dir.moved {m:Mem} (H:Dir m) (h:List Cell) (hd:m.word 0%2=1) (hf: ∀i,2^(m.word 0/2)≤i→i<2^(m.word 0/2+1)→FRZ≤m.word i) (hn: ∀i,2^(m.word 0/2+1)≤i→i<2^(m.word 0/2+2)→m.word i≠0):Dir (m.put1 0 (m.word 0+1) h):=by
 have hwl:0<m.words.length:=by rw[H.nw];omega
 have e0:(m.put1 0 (m.word 0+1) h).word 0=m.word 0+1:=by rw[put1_word hwl,if_pos rfl]
 have eh:(m.word 0+1)/2=m.word 0/2+1:=by omega
 have hp:=two_pos (m.word 0/2)
 have hs:=two_succ (m.word 0/2)
 have hs2:=two_succ2 (m.word 0/2)
 have hd8:=H.d8
 have h3:=H.lvl3 hd
 have h32:2^(m.word 0/2+2)≤32:=two_le (show m.word 0/2+2≤5 by omega)
 refine⟨by simpa [Mem.put1]using H.nw,by simpa [Mem.put1]using H.nh,by rw[e0];omega,?_,?_,?_,?_,?_⟩
 · rw[e0,eh]
   intro i h1 h2
   rw[put1_word hwl,if_neg (by omega)]
   by_cases hb:i<2^(m.word 0/2)
   · exact H.old i h1 hb
   · exact hf i (by omega) h2
 · rw[e0,eh]
   intro i h1 h2
   rw[put1_word hwl,if_neg (by omega)]
   have h2':i<2^(m.word 0/2+2):=h2
   have:=hn i h1 h2'
   have:=(H.nxt i h1 (by omega)).1
   exact⟨by omega,fun _=>this⟩
 · rw[e0,eh]
   intro i h1 h2
   have h1':2^(m.word 0/2+2)≤i:=h1
   rw[put1_word hwl,if_neg (by omega)]
   obtain⟨h3,h4⟩:=H.nxt i (by omega) h2
   exact⟨h3,fun hne=>absurd (h4 hne).2.1 (by omega)⟩
 · intro i h1 h2
   rw[put1_word hwl,if_neg (by omega)]
   show _≤m.count+1∧_
   have:=H.small i h1 h2
   exact⟨by omega,this.2⟩
 · have:=H.cnt0;show 1≤m.count+1;omega
theorem Dir.num {m:Mem} (H:Dir m) {w:Nat} (v:Nat) (h:List Cell) (hw1:32≤w) (hw2:w<34):Dir (m.put1 w v h):=by
 have hwl:w<m.words.length:=by rw[H.nw];omega
 have e: ∀i,i<32→(m.put1 w v h).word i=m.word i:=fun i hi=>by rw[put1_word hwl,if_neg (by omega)]
 have e0:=e 0 (by omega)
 have h32:=H.size
 refine⟨by simpa [Mem.put1]using H.nw,by simpa [Mem.put1]using H.nh,by rw[e0];exact H.d8,?_,?_,?_,?_,?_⟩
 · rw[e0]
   intro i h1 h2
   have:=two_succ (m.word 0/2)
   rw[e i (by omega)]
   exact H.old i h1 h2
 · rw[e0]
   intro i h1 h2
   rw[e i (by omega)]
   exact H.cur i h1 h2
 · rw[e0]
   intro i h1 h2
   obtain⟨h3,h4⟩:=H.nxt i h1 h2
   rw[e i h2]
   refine⟨h3,fun hne=> ?_⟩
   obtain⟨h5,h6,h7⟩:=h4 hne
   have:=par_lt (m.word 0/2) i
   rw[e _ (by omega)]
   exact⟨h5,h6,h7⟩
 · intro i h1 h2
   rw[e i h2]
   show _≤m.count+1∧_
   have:=H.small i h1 h2
   exact⟨by omega,this.2⟩
 · have:=H.cnt0;show 1≤m.count+1;omega
def curWord (m:Mem) (sum:Nat):Nat:=if m.word 0%2=1∧FRZ≤m.word (place (m.word 0/2) sum)then place (m.word 0/2+1) sum else place (m.word 0/2) sum
def curHold (m:Mem) (sum:Nat):List Cell:=if m.word (curWord m sum)=0 then cut (m.hold (place (m.word 0/2) sum)) (m.word 0/2+1) (sum%2^(m.word 0/2+1))else m.hold (curWord m sum)
def idSum (c:Cell):Nat:=sumB (ident c.pol c.key)
def Has (m:Mem) (c:Cell):Prop:=c∈curHold m (idSum c)
theorem curWord_lt {m:Mem} (H:Dir m) (sum:Nat):1≤curWord m sum∧curWord m sum<32:=by
 have h0:=two_pos (m.word 0/2)
 have h1:=two_succ (m.word 0/2)
 have h32:=H.size
 unfold curWord
 split
 · rename_i h
   have h3:=H.lvl3 h.1
   have h32:2^(m.word 0/2+1+1)≤32:=two_le (show m.word 0/2+1+1≤5 by omega)
   have:=place_lt (m.word 0/2+1) sum
   omega
 · have:=place_lt (m.word 0/2) sum
   omega
theorem curWord_live {m:Mem} (H:Dir m) {level sum:Nat} (hlev:level≤4) (hl:m.live (place level sum)):curWord m sum=place level sum:=by
 have h0:=place_lt level sum
 have h0':=two_pos level
 have h32:2^(level+1)≤32:=two_le (show level+1≤5 by omega)
 unfold curWord
 rcases H.live_at (by omega) (by omega) hl with ⟨h1,h2⟩|⟨h1,h2,h3,h4⟩
 · have e:=lvl_inj h1 h2 h0.1 h0.2
   rw[e]
   rw[if_neg (by rintro⟨_,h⟩;have:=hl.2;omega)]
 · have h3':place level sum<2^(m.word 0/2+1+1):=h3
   have e:=lvl_inj h2 h3' h0.1 h0.2
   subst e
   rw[par_place]at h4
   rw[if_pos ⟨h1,h4⟩]
theorem curHold_live {m:Mem} (H:Dir m) {level sum:Nat} (hlev:level≤4) (hl:m.live (place level sum)):curHold m sum=m.hold (place level sum):=by
 unfold curHold
 rw[curWord_live H hlev hl,if_neg (by have:=hl.1;omega)]
end Go.Proofs.YtemnhpdjoimjbaaGreatDoor.Top
end
