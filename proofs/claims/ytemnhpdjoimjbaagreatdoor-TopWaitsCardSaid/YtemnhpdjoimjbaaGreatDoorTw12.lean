import Derived.Test.YtemnhpdjoimjbaaGreatDoorTw11
import Derived.StillTailTactics
namespace Go.Proofs.YtemnhpdjoimjbaaGreatDoor
section
open Go.RowKit Top
set_option linter.unusedVariables false
abbrev P (b:Nat):Value:= .pointer (some ⟨b,0,none⟩)
structure Env where
 A:Adr
 who:Int
 x:Nat
 pol:Pol
abbrev polA (p:Pol):Array Value:= #[.int .u8 (p.kind:Nat),.int .i64 p.T,.int .i64 p.tau,.int .i64 p.permits]
abbrev replyA (r:Reply):Array Value:= #[.int .i64 r.e,.bool r.granted,.int .i64 r.left,.int .i64 r.wait,.int .i64 r.serial,.int .i64 r.now]
abbrev resA (d:Bool) (r:Reply):Array Value:= #[.bool d,.int .i64 r.e,.bool r.granted,.int .i64 r.left,.int .i64 r.wait,.int .i64 r.serial,.int .i64 r.now]
abbrev cellA (c:Cell) (k h:Value):Array Value:= #[.int .i64 c.pol,k,.int .i64 c.tat,h]
def FurtherAt (w:World) (E:Env) (v:Value) (j shards:Nat):Prop:= ∃(b0:Nat) (b1:Nat) (b2:Nat),v= .func (.func 86) #[] #[P b0,P b1,P b2]∧Bx w b0 3 #[.int .i64 (j:Nat)]∧Bx w b1 3 #[.int .i64 (shards:Nat)]∧Bx w b2 107 #[P E.x]
theorem FurtherAt.keep {B:Nat} {X:List Nat} {w w':World} {E:Env} {v:Value} (hf:Fr B X w w') {j s:Nat}:FurtherAt w E v j s→FurtherAt w' E v j s
 |⟨b0,b1,b2,ev,g0,g1,g2⟩=>⟨b0,b1,b2,ev,g0.keep hf rfl,g1.keep hf rfl,g2.keep hf rfl⟩
def ThenAt (w:World) (E:Env) (v:Value):Then→Prop
 | .call=> ∃(b0:Nat) (b1:Nat),v= .func (.func 99) #[] #[P b0,P b1]∧Bx w b0 107 #[P E.x]∧Bx w b1 60 (polA E.pol)
 | .evict j shards gone=> ∃(b0:Nat) (v0:Value) (b1:Nat) (b2:Nat),v= .func (.func 89) #[] #[P b0,P b1,P b2]∧Bx w b0 162 #[v0]∧FurtherAt w E v0 j shards∧Bx w b1 2 #[.int .i64 (gone)]∧Bx w b2 107 #[P E.x]
theorem ThenAt.keep {B:Nat} {X:List Nat} {w w':World} {E:Env} {v:Value} (hf:Fr B X w w'): ∀ {t:Then},ThenAt w E v t→ThenAt w' E v t
 | .call,⟨b0,b1,ev,g0,g1⟩=>⟨b0,b1,ev,g0.keep hf rfl,g1.keep hf rfl⟩
 | .evict j shards gone,⟨b0,v0,b1,b2,ev,g0,k0,g1,g2⟩=>⟨b0,v0,b1,b2,ev,g0.keep hf rfl,k0.keep hf,g1.keep hf rfl,g2.keep hf rfl⟩
def FThenAt (w:World) (E:Env) (v:Value):FThen→Prop
 | .find level sum t=> ∃(b0:Nat) (b1:Nat) (b2:Nat) (b3:Nat) (b4:Nat) (v4:Value) (b5:Nat),v= .func (.func 125) #[] #[P b0,P b1,P b2,P b3,P b4,P b5]∧Bx w b0 62 #[P E.A.lanes]∧Bx w b1 3 #[.int .i64 E.who]∧Bx w b2 3 #[.int .i64 (level:Nat)]∧Bx w b3 61 #[.int .u64 (sum:Nat)]∧Bx w b4 192 #[v4]∧ThenAt w E v4 t∧Bx w b5 37 (resA false (err 0))
 | .move level i=> ∃(b0:Nat) (b1:Nat) (b2:Nat) (b3:Nat) (b4:Nat) (b5:Nat),v= .func (.func 119) #[] #[P b0,P b1,P b2,P b3,P b4,P b5]∧Bx w b0 62 #[P E.A.lanes]∧Bx w b1 3 #[.int .i64 E.who]∧Bx w b2 3 #[.int .i64 (level:Nat)]∧Bx w b3 3 #[.int .i64 (i:Nat)]∧Bx w b4 141 #[.func (.func 60) #[] #[]]∧Bx w b5 37 (resA false (err 0))
theorem FThenAt.keep {B:Nat} {X:List Nat} {w w':World} {E:Env} {v:Value} (hf:Fr B X w w'): ∀ {t:FThen},FThenAt w E v t→FThenAt w' E v t
 | .find level sum t,⟨b0,b1,b2,b3,b4,v4,b5,ev,g0,g1,g2,g3,g4,k4,g5⟩=>⟨b0,b1,b2,b3,b4,v4,b5,ev,g0.keep hf rfl,g1.keep hf rfl,g2.keep hf rfl,g3.keep hf rfl,g4.keep hf rfl,k4.keep hf,g5.keep hf rfl⟩
 | .move level i,⟨b0,b1,b2,b3,b4,b5,ev,g0,g1,g2,g3,g4,g5⟩=>⟨b0,b1,b2,b3,b4,b5,ev,g0.keep hf rfl,g1.keep hf rfl,g2.keep hf rfl,g3.keep hf rfl,g4.keep hf rfl,g5.keep hf rfl⟩
def HThenAt (w:World) (E:Env) (v:Value):HThen→Prop
 | .find sum t=> ∃(b0:Nat) (b1:Nat) (b2:Nat) (b3:Nat) (v3:Value) (b4:Nat),v= .func (.func 126) #[] #[P b0,P b1,P b2,P b3,P b4]∧Bx w b0 62 #[P E.A.lanes]∧Bx w b1 3 #[.int .i64 E.who]∧Bx w b2 61 #[.int .u64 (sum:Nat)]∧Bx w b3 192 #[v3]∧ThenAt w E v3 t∧Bx w b4 37 (resA false (err 0))
 | .one level i holds=> ∃(b0:Nat) (b1:Nat) (b2:Nat) (b3:Nat) (b4:Nat) (v4:Value) (b5:Nat) (b6:Nat),v= .func (.func 121) #[] #[P b0,P b1,P b2,P b3,P b4,P b5,P b6]∧Bx w b0 62 #[P E.A.lanes]∧Bx w b1 3 #[.int .i64 E.who]∧Bx w b2 3 #[.int .i64 (level:Nat)]∧Bx w b3 3 #[.int .i64 (i:Nat)]∧Bx w b4 64 #[v4]∧CellsAt w v4 holds∧Bx w b5 141 #[.func (.func 60) #[] #[]]∧Bx w b6 37 (resA false (err 0))
 | .two level i=> ∃(b0:Nat) (b1:Nat) (b2:Nat) (b3:Nat) (b4:Nat) (b5:Nat),v= .func (.func 122) #[] #[P b0,P b1,P b2,P b3,P b4,P b5]∧Bx w b0 62 #[P E.A.lanes]∧Bx w b1 3 #[.int .i64 E.who]∧Bx w b2 3 #[.int .i64 (level:Nat)]∧Bx w b3 3 #[.int .i64 (i:Nat)]∧Bx w b4 141 #[.func (.func 60) #[] #[]]∧Bx w b5 37 (resA false (err 0))
theorem HThenAt.keep {B:Nat} {X:List Nat} {w w':World} {E:Env} {v:Value} (hf:Fr B X w w'): ∀ {t:HThen},HThenAt w E v t→HThenAt w' E v t
 | .find sum t,⟨b0,b1,b2,b3,v3,b4,ev,g0,g1,g2,g3,k3,g4⟩=>⟨b0,b1,b2,b3,v3,b4,ev,g0.keep hf rfl,g1.keep hf rfl,g2.keep hf rfl,g3.keep hf rfl,k3.keep hf,g4.keep hf rfl⟩
 | .one level i holds,⟨b0,b1,b2,b3,b4,v4,b5,b6,ev,g0,g1,g2,g3,g4,k4,g5,g6⟩=>⟨b0,b1,b2,b3,b4,v4,b5,b6,ev,g0.keep hf rfl,g1.keep hf rfl,g2.keep hf rfl,g3.keep hf rfl,g4.keep hf rfl,k4.keep hf,g5.keep hf rfl,g6.keep hf rfl⟩
 | .two level i,⟨b0,b1,b2,b3,b4,b5,ev,g0,g1,g2,g3,g4,g5⟩=>⟨b0,b1,b2,b3,b4,b5,ev,g0.keep hf rfl,g1.keep hf rfl,g2.keep hf rfl,g3.keep hf rfl,g4.keep hf rfl,g5.keep hf rfl⟩
def PutAt (w:World) (E:Env) (v:Value) (f:Top.Found) (at_:Nat) (there:Bool) (c:Cell) (r:Reply):Prop:= ∃(b0:Nat) (b1:Nat) (v1:Value) (b2:Nat) (b3:Nat) (b4:Nat) (v4:Value) (h4:Value) (b5:Nat),v= .func (.func 142) #[] #[P b0,P b1,P b2,P b3,P b4,P b5]∧Bx w b0 107 #[P E.x]∧Bx w b1 172 #[.int .i64 (f.word:Nat),.int .u64 (f.v:Nat),v1]∧CellsAt w v1 f.cells∧Bx w b2 3 #[.int .i64 (at_:Nat)]∧Bx w b3 4 #[.bool there]∧Bx w b4 100 (cellA c v4 h4)∧KeyAt w v4 c.key∧HeldAt w h4 c.held∧Bx w b5 35 (replyA r)∧PutOk f at_ there c
theorem PutAt.keep {B:Nat} {X:List Nat} {w w':World} {E:Env} {v:Value} (hf:Fr B X w w') {f:Top.Found} {at_:Nat} {there:Bool} {c:Cell} {r:Reply}:PutAt w E v f at_ there c r→PutAt w' E v f at_ there c r
 |⟨b0,b1,v1,b2,b3,b4,v4,h4,b5,ev,g0,g1,k1,g2,g3,g4,k4,l4,g5,ex⟩=>⟨b0,b1,v1,b2,b3,b4,v4,h4,b5,ev,g0.keep hf rfl,g1.keep hf rfl,k1.keep hf,g2.keep hf rfl,g3.keep hf rfl,g4.keep hf rfl,k4.keep hf,l4.keep hf,g5.keep hf rfl,ex⟩
def TakeAt (w:World) (E:Env) (v:Value) (f:Top.Found) (at_:Nat) (there:Bool) (c:Cell):Prop:= ∃(b0:Nat) (b1:Nat) (v1:Value) (h1:Value) (b2:Nat) (b3:Nat) (v3:Value) (b4:Nat) (b5:Nat),v= .func (.func 137) #[] #[P b0,P b1,P b2,P b3,P b4,P b5]∧Bx w b0 60 (polA E.pol)∧Bx w b1 100 (cellA c v1 h1)∧KeyAt w v1 c.key∧HeldAt w h1 c.held∧Bx w b2 107 #[P E.x]∧Bx w b3 172 #[.int .i64 (f.word:Nat),.int .u64 (f.v:Nat),v3]∧CellsAt w v3 f.cells∧Bx w b4 3 #[.int .i64 (at_:Nat)]∧Bx w b5 4 #[.bool there]∧PutOk f at_ there c
theorem TakeAt.keep {B:Nat} {X:List Nat} {w w':World} {E:Env} {v:Value} (hf:Fr B X w w') {f:Top.Found} {at_:Nat} {there:Bool} {c:Cell}:TakeAt w E v f at_ there c→TakeAt w' E v f at_ there c
 |⟨b0,b1,v1,h1,b2,b3,v3,b4,b5,ev,g0,g1,k1,l1,g2,g3,k3,g4,g5,ex⟩=>⟨b0,b1,v1,h1,b2,b3,v3,b4,b5,ev,g0.keep hf rfl,g1.keep hf rfl,k1.keep hf,l1.keep hf,g2.keep hf rfl,g3.keep hf rfl,k3.keep hf,g4.keep hf rfl,g5.keep hf rfl,ex⟩
def BThenAt (w:World) (E:Env) (v:Value):BThen→Prop
 | .done r=> ∃(b0:Nat),v= .func (.func 158) #[] #[P b0]∧Bx w b0 35 (replyA r)
 | .evict j shards gone=> ∃(a0:Int) (n:Nat),gone=a0+n∧ ∃(b0:Nat) (v0:Value) (b1:Nat) (b2:Nat),v= .func (.func 98) #[] #[P b0,P b1,P b2]∧Bx w b0 162 #[v0]∧FurtherAt w E v0 j shards∧Bx w b1 2 #[.int .i64 (a0)]∧Bx w b2 3 #[.int .i64 (n:Nat)]
theorem BThenAt.keep {B:Nat} {X:List Nat} {w w':World} {E:Env} {v:Value} (hf:Fr B X w w'): ∀ {t:BThen},BThenAt w E v t→BThenAt w' E v t
 | .done r,⟨b0,ev,g0⟩=>⟨b0,ev,g0.keep hf rfl⟩
 | .evict j shards gone,⟨a0,n,e,b0,v0,b1,b2,ev,g0,k0,g1,g2⟩=>⟨a0,n,e,b0,v0,b1,b2,ev,g0.keep hf rfl,k0.keep hf,g1.keep hf rfl,g2.keep hf rfl⟩
def WThenAt (w:World) (E:Env) (v:Value):WThen→Prop
 | .back t=> ∃(b0:Nat) (v0:Value),v= .func (.func 131) #[] #[P b0]∧Bx w b0 66 #[v0]∧BThenAt w E v0 t
 | .room f at_ there c r=> ∃(b0:Nat) (b1:Nat) (v1:Value),v= .func (.func 145) #[] #[P b0,P b1]∧Bx w b0 107 #[P E.x]∧Bx w b1 66 #[v1]∧PutAt w E v1 f at_ there c r
 | .serial f at_ there c=> ∃(b0:Nat) (b1:Nat) (v1:Value),v= .func (.func 140) #[] #[P b0,P b1]∧Bx w b0 107 #[P E.x]∧Bx w b1 111 #[v1]∧TakeAt w E v1 f at_ there c
theorem WThenAt.keep {B:Nat} {X:List Nat} {w w':World} {E:Env} {v:Value} (hf:Fr B X w w'): ∀ {t:WThen},WThenAt w E v t→WThenAt w' E v t
 | .back t,⟨b0,v0,ev,g0,k0⟩=>⟨b0,v0,ev,g0.keep hf rfl,k0.keep hf⟩
 | .room f at_ there c r,⟨b0,b1,v1,ev,g0,g1,k1⟩=>⟨b0,b1,v1,ev,g0.keep hf rfl,g1.keep hf rfl,k1.keep hf⟩
 | .serial f at_ there c,⟨b0,b1,v1,ev,g0,g1,k1⟩=>⟨b0,b1,v1,ev,g0.keep hf rfl,g1.keep hf rfl,k1.keep hf⟩
def StopAt (w:World) (E:Env) (v:Value):WThen→Prop
 | .back _=>v= .nilFunc
 | .room .. =>v= .func (.func 144) #[] #[]
 | .serial .. => ∃(b0:Nat),v= .func (.func 139) #[] #[P b0]∧Bx w b0 107 #[P E.x]
theorem StopAt.keep {B:Nat} {X:List Nat} {w w':World} {E:Env} {v:Value} (hf:Fr B X w w'): ∀ {t:WThen},StopAt w E v t→StopAt w' E v t
 | .back _,h=>h
 | .room ..,h=>h
 | .serial ..,⟨b0,ev,g0⟩=>⟨b0,ev,g0.keep hf rfl⟩
def KontAt (w:World) (E:Env) (v:Value):Kont→Prop
 | .find sum t=> ∃(b0:Nat) (b1:Nat) (b2:Nat) (b3:Nat) (v3:Value),v= .func (.func 123) #[] #[P b0,P b1,P b2,P b3]∧Bx w b0 62 #[P E.A.lanes]∧Bx w b1 3 #[.int .i64 E.who]∧Bx w b2 61 #[.int .u64 (sum:Nat)]∧Bx w b3 192 #[v3]∧ThenAt w E v3 t
 | .enter sum word t=> ∃(b0:Nat) (b1:Nat) (b2:Nat) (b3:Nat) (b4:Nat) (v4:Value),v= .func (.func 152) #[] #[P b0,P b1,P b2,P b3,P b4]∧Bx w b0 62 #[P E.A.lanes]∧Bx w b1 3 #[.int .i64 E.who]∧Bx w b2 3 #[.int .i64 (word:Nat)]∧Bx w b3 61 #[.int .u64 (sum:Nat)]∧Bx w b4 192 #[v4]∧ThenAt w E v4 t
 | .freeze word t=> ∃(b0:Nat) (b1:Nat) (b2:Nat) (b3:Nat) (v3:Value),v= .func (.func 148) #[] #[P b0,P b1,P b2,P b3]∧Bx w b0 62 #[P E.A.lanes]∧Bx w b1 3 #[.int .i64 E.who]∧Bx w b2 3 #[.int .i64 (word:Nat)]∧Bx w b3 191 #[v3]∧FThenAt w E v3 t
 | .freezeSwap word u holds t=> ∃(b0:Nat) (b1:Nat) (b2:Nat) (b3:Nat) (b4:Nat) (v4:Value) (b5:Nat) (v5:Value) (b6:Nat),v= .func (.func 149) #[] #[P b0,P b1,P b2,P b3,P b4,P b5,P b6]∧Bx w b0 62 #[P E.A.lanes]∧Bx w b1 3 #[.int .i64 E.who]∧Bx w b2 3 #[.int .i64 (word:Nat)]∧Bx w b3 61 #[.int .u64 (u:Nat)]∧Bx w b4 64 #[v4]∧CellsAt w v4 holds∧Bx w b5 191 #[v5]∧FThenAt w E v5 t∧Bx w b6 37 (resA false (err 0))
 | .half level shard holds t=> ∃(b0:Nat) (b1:Nat) (b2:Nat) (b3:Nat) (v3:Value) (b4:Nat) (v4:Value) (b5:Nat),v= .func (.func 150) #[] #[P b0,P b1,P b2,P b3,P b4,P b5]∧Bx w b0 62 #[P E.A.lanes]∧Bx w b1 3 #[.int .i64 E.who]∧Bx w b2 3 #[.int .i64 (place level shard:Nat)]∧Bx w b3 192 #[v3]∧HThenAt w E v3 t∧Bx w b4 64 #[v4]∧CellsAt w v4 holds∧Bx w b5 3 #[.int .i64 (level:Nat)]
 | .halfSwap level shard holds h t=> ∃(b0:Nat) (b1:Nat) (b2:Nat) (b3:Nat) (v3:Value) (b4:Nat) (b5:Nat) (v5:Value) (b6:Nat) (v6:Value),v= .func (.func 151) #[] #[P b0,P b1,P b2,P b3,P b4,P b5,P b6]∧Bx w b0 62 #[P E.A.lanes]∧Bx w b1 3 #[.int .i64 E.who]∧Bx w b2 3 #[.int .i64 (place level shard:Nat)]∧Bx w b3 64 #[v3]∧CellsAt w v3 holds∧Bx w b4 3 #[.int .i64 (level:Nat)]∧Bx w b5 192 #[v5]∧HThenAt w E v5 t∧Bx w b6 64 #[v6]∧CellsAt w v6 h
 | .split=> ∃(b0:Nat) (b1:Nat) (b2:Nat),v= .func (.func 82) #[] #[P b0,P b1,P b2]∧Bx w b0 62 #[P E.A.lanes]∧Bx w b1 3 #[.int .i64 E.who]∧Bx w b2 141 #[.func (.func 60) #[] #[]]
 | .splitSwap d level=> ∃(b0:Nat) (b1:Nat) (b2:Nat) (b3:Nat) (b4:Nat) (b5:Nat),v= .func (.func 85) #[] #[P b0,P b1,P b2,P b3,P b4,P b5]∧Bx w b0 62 #[P E.A.lanes]∧Bx w b1 3 #[.int .i64 E.who]∧Bx w b2 61 #[.int .u64 (d:Nat)]∧Bx w b3 141 #[.func (.func 60) #[] #[]]∧Bx w b4 37 (resA false (err 0))∧Bx w b5 3 #[.int .i64 (level:Nat)]
 | .moveEnd level=> ∃(b0:Nat) (b1:Nat) (b2:Nat) (b3:Nat),v= .func (.func 117) #[] #[P b0,P b1,P b2,P b3]∧Bx w b0 62 #[P E.A.lanes]∧Bx w b1 3 #[.int .i64 E.who]∧Bx w b2 3 #[.int .i64 (level:Nat)]∧Bx w b3 141 #[.func (.func 60) #[] #[]]
 | .wordLoad word by_ stop t=> ∃(b0:Nat) (b1:Nat) (b2:Nat) (b3:Nat) (v3:Value) (b4:Nat) (b5:Nat) (v5:Value),v= .func (.func 153) #[] #[P b0,P b1,P b2,P b3,P b4,P b5]∧Bx w b0 107 #[P E.x]∧Bx w b1 3 #[.int .i64 (word:Nat)]∧Bx w b2 61 #[.int .u64 (stop:Nat)]∧Bx w b3 66 #[v3]∧StopAt w E v3 t∧Bx w b4 61 #[.int .u64 (by_:Nat)]∧Bx w b5 198 #[v5]∧WThenAt w E v5 t
 | .wordSwap word by_ stop u t=> ∃(b0:Nat) (b1:Nat) (b2:Nat) (b3:Nat) (b4:Nat) (b5:Nat) (v5:Value) (b6:Nat) (v6:Value),v= .func (.func 154) #[] #[P b0,P b1,P b2,P b3,P b4,P b5,P b6]∧Bx w b0 107 #[P E.x]∧Bx w b1 3 #[.int .i64 (word:Nat)]∧Bx w b2 61 #[.int .u64 (u:Nat)]∧Bx w b3 61 #[.int .u64 (by_:Nat)]∧Bx w b4 61 #[.int .u64 (stop:Nat)]∧Bx w b5 66 #[v5]∧StopAt w E v5 t∧Bx w b6 198 #[v6]∧WThenAt w E v6 t
 | .put f at_ there c r=> ∃(b0:Nat) (b1:Nat) (v1:Value) (b2:Nat) (b3:Nat) (b4:Nat) (v4:Value) (h4:Value) (b5:Nat),v= .func (.func 142) #[] #[P b0,P b1,P b2,P b3,P b4,P b5]∧Bx w b0 107 #[P E.x]∧Bx w b1 172 #[.int .i64 (f.word:Nat),.int .u64 (f.v:Nat),v1]∧CellsAt w v1 f.cells∧Bx w b2 3 #[.int .i64 (at_:Nat)]∧Bx w b3 4 #[.bool there]∧Bx w b4 100 (cellA c v4 h4)∧KeyAt w v4 c.key∧HeldAt w h4 c.held∧Bx w b5 35 (replyA r)∧PutOk f at_ there c
 | .allow f at_ there c=> ∃(b0:Nat) (b1:Nat) (v1:Value) (h1:Value) (b2:Nat) (b3:Nat) (v3:Value) (b4:Nat) (b5:Nat),v= .func (.func 134) #[] #[P b0,P b1,P b2,P b3,P b4,P b5]∧Bx w b0 60 (polA E.pol)∧Bx w b1 100 (cellA c v1 h1)∧KeyAt w v1 c.key∧HeldAt w h1 c.held∧Bx w b2 107 #[P E.x]∧Bx w b3 172 #[.int .i64 (f.word:Nat),.int .u64 (f.v:Nat),v3]∧CellsAt w v3 f.cells∧Bx w b4 3 #[.int .i64 (at_:Nat)]∧Bx w b5 4 #[.bool there]∧PutOk f at_ there c
 | .peek c=> ∃(b0:Nat) (b1:Nat) (v1:Value) (h1:Value) (b2:Nat),v= .func (.func 106) #[] #[P b0,P b1,P b2]∧Bx w b0 60 (polA E.pol)∧Bx w b1 100 (cellA c v1 h1)∧KeyAt w v1 c.key∧HeldAt w h1 c.held∧Bx w b2 107 #[P E.x]∧CellOk c
 | .evictStart=> ∃(b0:Nat),v= .func (.func 61) #[] #[P b0]∧Bx w b0 107 #[P E.x]
 | .evictClock j shards gone word u cs=> ∃(b0:Nat) (b1:Nat) (v1:Value) (b2:Nat) (v2:Value) (b3:Nat) (b4:Nat) (b5:Nat),v= .func (.func 90) #[] #[P b0,P b1,P b2,P b3,P b4,P b5]∧Bx w b0 107 #[P E.x]∧Bx w b1 64 #[v1]∧CellsAt w v1 cs∧Bx w b2 162 #[v2]∧FurtherAt w E v2 j shards∧Bx w b3 2 #[.int .i64 (gone)]∧Bx w b4 3 #[.int .i64 (word:Nat)]∧Bx w b5 61 #[.int .u64 (u:Nat)]
 | .evictSwap j shards gone word u rest n=> ∃(b0:Nat) (b1:Nat) (b2:Nat) (b3:Nat) (v3:Value) (b4:Nat) (v4:Value) (b5:Nat) (b6:Nat),v= .func (.func 96) #[] #[P b0,P b1,P b2,P b3,P b4,P b5,P b6]∧Bx w b0 107 #[P E.x]∧Bx w b1 3 #[.int .i64 (word:Nat)]∧Bx w b2 61 #[.int .u64 (u:Nat)]∧Bx w b3 64 #[v3]∧CellsAt w v3 rest∧Bx w b4 162 #[v4]∧FurtherAt w E v4 j shards∧Bx w b5 2 #[.int .i64 (gone)]∧Bx w b6 3 #[.int .i64 (n:Nat)]
theorem KontAt.keep {B:Nat} {X:List Nat} {w w':World} {E:Env} {v:Value} (hf:Fr B X w w'): ∀ {t:Kont},KontAt w E v t→KontAt w' E v t
 | .find sum t,⟨b0,b1,b2,b3,v3,ev,g0,g1,g2,g3,k3⟩=>⟨b0,b1,b2,b3,v3,ev,g0.keep hf rfl,g1.keep hf rfl,g2.keep hf rfl,g3.keep hf rfl,k3.keep hf⟩
 | .enter sum word t,⟨b0,b1,b2,b3,b4,v4,ev,g0,g1,g2,g3,g4,k4⟩=>⟨b0,b1,b2,b3,b4,v4,ev,g0.keep hf rfl,g1.keep hf rfl,g2.keep hf rfl,g3.keep hf rfl,g4.keep hf rfl,k4.keep hf⟩
 | .freeze word t,⟨b0,b1,b2,b3,v3,ev,g0,g1,g2,g3,k3⟩=>⟨b0,b1,b2,b3,v3,ev,g0.keep hf rfl,g1.keep hf rfl,g2.keep hf rfl,g3.keep hf rfl,k3.keep hf⟩
 | .freezeSwap word u holds t,⟨b0,b1,b2,b3,b4,v4,b5,v5,b6,ev,g0,g1,g2,g3,g4,k4,g5,k5,g6⟩=>⟨b0,b1,b2,b3,b4,v4,b5,v5,b6,ev,g0.keep hf rfl,g1.keep hf rfl,g2.keep hf rfl,g3.keep hf rfl,g4.keep hf rfl,k4.keep hf,g5.keep hf rfl,k5.keep hf,g6.keep hf rfl⟩
 | .half level shard holds t,⟨b0,b1,b2,b3,v3,b4,v4,b5,ev,g0,g1,g2,g3,k3,g4,k4,g5⟩=>⟨b0,b1,b2,b3,v3,b4,v4,b5,ev,g0.keep hf rfl,g1.keep hf rfl,g2.keep hf rfl,g3.keep hf rfl,k3.keep hf,g4.keep hf rfl,k4.keep hf,g5.keep hf rfl⟩
 | .halfSwap level shard holds h t,⟨b0,b1,b2,b3,v3,b4,b5,v5,b6,v6,ev,g0,g1,g2,g3,k3,g4,g5,k5,g6,k6⟩=>⟨b0,b1,b2,b3,v3,b4,b5,v5,b6,v6,ev,g0.keep hf rfl,g1.keep hf rfl,g2.keep hf rfl,g3.keep hf rfl,k3.keep hf,g4.keep hf rfl,g5.keep hf rfl,k5.keep hf,g6.keep hf rfl,k6.keep hf⟩
 | .split,⟨b0,b1,b2,ev,g0,g1,g2⟩=>⟨b0,b1,b2,ev,g0.keep hf rfl,g1.keep hf rfl,g2.keep hf rfl⟩
 | .splitSwap d level,⟨b0,b1,b2,b3,b4,b5,ev,g0,g1,g2,g3,g4,g5⟩=>⟨b0,b1,b2,b3,b4,b5,ev,g0.keep hf rfl,g1.keep hf rfl,g2.keep hf rfl,g3.keep hf rfl,g4.keep hf rfl,g5.keep hf rfl⟩
 | .moveEnd level,⟨b0,b1,b2,b3,ev,g0,g1,g2,g3⟩=>⟨b0,b1,b2,b3,ev,g0.keep hf rfl,g1.keep hf rfl,g2.keep hf rfl,g3.keep hf rfl⟩
 | .wordLoad word by_ stop t,⟨b0,b1,b2,b3,v3,b4,b5,v5,ev,g0,g1,g2,g3,k3,g4,g5,k5⟩=>⟨b0,b1,b2,b3,v3,b4,b5,v5,ev,g0.keep hf rfl,g1.keep hf rfl,g2.keep hf rfl,g3.keep hf rfl,k3.keep hf,g4.keep hf rfl,g5.keep hf rfl,k5.keep hf⟩
 | .wordSwap word by_ stop u t,⟨b0,b1,b2,b3,b4,b5,v5,b6,v6,ev,g0,g1,g2,g3,g4,g5,k5,g6,k6⟩=>⟨b0,b1,b2,b3,b4,b5,v5,b6,v6,ev,g0.keep hf rfl,g1.keep hf rfl,g2.keep hf rfl,g3.keep hf rfl,g4.keep hf rfl,g5.keep hf rfl,k5.keep hf,g6.keep hf rfl,k6.keep hf⟩
 | .put f at_ there c r,⟨b0,b1,v1,b2,b3,b4,v4,h4,b5,ev,g0,g1,k1,g2,g3,g4,k4,l4,g5,ex⟩=>⟨b0,b1,v1,b2,b3,b4,v4,h4,b5,ev,g0.keep hf rfl,g1.keep hf rfl,k1.keep hf,g2.keep hf rfl,g3.keep hf rfl,g4.keep hf rfl,k4.keep hf,l4.keep hf,g5.keep hf rfl,ex⟩
 | .allow f at_ there c,⟨b0,b1,v1,h1,b2,b3,v3,b4,b5,ev,g0,g1,k1,l1,g2,g3,k3,g4,g5,ex⟩=>⟨b0,b1,v1,h1,b2,b3,v3,b4,b5,ev,g0.keep hf rfl,g1.keep hf rfl,k1.keep hf,l1.keep hf,g2.keep hf rfl,g3.keep hf rfl,k3.keep hf,g4.keep hf rfl,g5.keep hf rfl,ex⟩
 | .peek c,⟨b0,b1,v1,h1,b2,ev,g0,g1,k1,l1,g2,ex⟩=>⟨b0,b1,v1,h1,b2,ev,g0.keep hf rfl,g1.keep hf rfl,k1.keep hf,l1.keep hf,g2.keep hf rfl,ex⟩
 | .evictStart,⟨b0,ev,g0⟩=>⟨b0,ev,g0.keep hf rfl⟩
 | .evictClock j shards gone word u cs,⟨b0,b1,v1,b2,v2,b3,b4,b5,ev,g0,g1,k1,g2,k2,g3,g4,g5⟩=>⟨b0,b1,v1,b2,v2,b3,b4,b5,ev,g0.keep hf rfl,g1.keep hf rfl,k1.keep hf,g2.keep hf rfl,k2.keep hf,g3.keep hf rfl,g4.keep hf rfl,g5.keep hf rfl⟩
 | .evictSwap j shards gone word u rest n,⟨b0,b1,b2,b3,v3,b4,v4,b5,b6,ev,g0,g1,g2,g3,k3,g4,k4,g5,g6⟩=>⟨b0,b1,b2,b3,v3,b4,v4,b5,b6,ev,g0.keep hf rfl,g1.keep hf rfl,g2.keep hf rfl,g3.keep hf rfl,k3.keep hf,g4.keep hf rfl,k4.keep hf,g5.keep hf rfl,g6.keep hf rfl⟩
def callA (E:Env) (x:Live) (key:Value):Array Value:= #[.int .u8 (x.call.op:Nat),.int .i64 x.call.pol,key,.int .i64 x.call.n,P E.A.K,.int .i64 E.who,.int .u64 (x.sum:Nat),.bool x.reserved,.int .i64 x.serial]
def CallAt (w:World) (E:Env) (x:Live):Prop:= ∃key,Bx w E.x 110 (callA E x key)∧KeyAt w key x.call.key
theorem CallAt.keep {B:Nat} {X:List Nat} {w w':World} {E:Env} {x:Live} (hf:Fr B X w w') (hx:E.x∉X) (h:CallAt w E x):CallAt w' E x:=by
 obtain⟨key,h1,h2⟩:=h
 exact⟨key,hf.quiet _ _ _ _ h1 (.inr ⟨rfl,hx⟩),h2.keep hf⟩
def KRes (w:World) (E:Env) (k:Kont) (e:Ending) (w':World):Prop:= ∃v,e= .returned v∧KontAt w' E v k∧Below w.heap.size w w'
def OutAt (w:World) (E:Env) (v:Value) (d:Bool) (a:Reply):Kont ⊕ Reply→Prop
 | .inl k=>KontAt w E v k∧d=false∧a=err 0
 | .inr r=>v= .nilFunc∧d=true∧a=r
def ORes (w:World) (B:Nat) (E:Env) (o:Out) (e:Ending) (w':World):Prop:= ∃v d a,e= .returned (.tuple #[v,.agg (resA d a)])∧OutAt w' E v d a o.1∧CallAt w' E o.2.1∧St w' B E.A o.2.2∧Fr B [E.x] w w'
end
section
open Go.RowKit Top
set_option linter.unusedVariables false
theorem heap_alloc (w:World) (o:Obj):(w.alloc o).heap=w.heap.push o:=rfl
def Func1 (v:Value):Prop:= ∃f ps,v= .func f #[] ps
theorem ThenAt.func {w:World} {E:Env} {v:Value}: ∀ {t:Then},ThenAt w E v t→Func1 v
 | .call,⟨_,_,h,_⟩=>⟨_,_,h⟩
 | .evict ..,⟨_,_,_,_,h,_⟩=>⟨_,_,h⟩
theorem FThenAt.func {w:World} {E:Env} {v:Value}: ∀ {t:FThen},FThenAt w E v t→Func1 v
 | .find ..,⟨_,_,_,_,_,_,_,h,_⟩=>⟨_,_,h⟩
 | .move ..,⟨_,_,_,_,_,_,h,_⟩=>⟨_,_,h⟩
theorem HThenAt.func {w:World} {E:Env} {v:Value}: ∀ {t:HThen},HThenAt w E v t→Func1 v
 | .find ..,⟨_,_,_,_,_,_,h,_⟩=>⟨_,_,h⟩
 | .one ..,⟨_,_,_,_,_,_,_,_,h,_⟩=>⟨_,_,h⟩
 | .two ..,⟨_,_,_,_,_,_,h,_⟩=>⟨_,_,h⟩
theorem CellsAt.slice {w:World} {v:Value} {L:List Cell} (h:CellsAt w v L): ∃a n c,v= .slice a n c:=by
 obtain⟨xs,_,⟨_,a,c,rfl,_⟩,_⟩:=h
 exact⟨_,_,_,rfl⟩
theorem fr0 {w w':World} (h:Below w.heap.size w w'):Fr 0 [] w w':=Fr.of_below (Nat.zero_le _) h
def allocs (w:World):List Obj→World
 |[]=>w
 |o::l=>allocs (w.alloc o) l
theorem below_allocs : ∀(l:List Obj) (w:World),Below w.heap.size w (allocs w l)
 |[],w=>Below.refl _ _
 |o::l,w=>by
   have h:=(Below.refl w.heap.size w).alloc (Nat.le_refl _) o
   exact h.trans ((below_allocs l (w.alloc o)).mono h.size)
theorem heap_allocs : ∀(l:List Obj) (w:World) (i:Nat) (o:Obj),l[i]? =some o→(allocs w l).heap[w.heap.size+i]? =some o
 |[],w,i,o,h=>by simp at h
 |a::l,w,0,o,h=>by
   simp at h
   subst h
   exact((below_allocs l (w.alloc a)).block w.heap.size (by simp)).trans (heap_alloc_new w a)
 |a::l,w,i+1,o,h=>by
   have:=heap_allocs l (w.alloc a) i o (by simpa using h)
   rw[show w.heap.size+(i+1)=(w.alloc a).heap.size+i by simp;omega]
   exact this
theorem bx_allocs (w:World) (l:List Obj) (i:Nat) {t:TypeId} {a:Array Value} (h:l[i]? =some (.cells a t (0,0))):Bx (allocs w l) (w.heap.size+i) t a:=heap_allocs l w i _ h
theorem Bx.dN {w:World} {b q:Nat} {t:TypeId} {a:Array Value} (h:Bx w b t a):Bx (w.drewN q) b t a:=h
theorem _root_.Go.RowKit.Below.dN {B q:Nat} {w w':World} (h:Below B w w'):Below B w (w'.drewN q):=⟨h.os,h.tape,h.output,h.size,h.block⟩
theorem find_any (E:Env) (sum:Nat) (t:Then) (v:Value) (w:World) (h:ThenAt w E v t):
   Calls Tryz.prog 88 #[P E.A.lanes,.int .i64 E.who,.int .u64 sum,v] w (KRes w E (.find sum t)):=by
 obtain⟨f,ps,rfl⟩:=h.func
 have H:=Lib.hid h
 clear h
 go_enter Tryz.func88,Tryz.ntmps88
 go_wp2_with fail
 go_ret
 exact⟨_,rfl,⟨w.heap.size,w.heap.size+1,w.heap.size+2,w.heap.size+3,_,rfl,bx_allocs w [_,_,_,_] 0 rfl,bx_allocs w [_,_,_,_] 1 rfl,bx_allocs w [_,_,_,_] 2 rfl,bx_allocs w [_,_,_,_] 3 rfl,H.out.keep (fr0 (below_allocs [_,_,_,_] w))⟩,below_allocs [_,_,_,_] w⟩
theorem enter_any (E:Env) (sum word:Nat) (t:Then) (v:Value) (w:World) (h:ThenAt w E v t):
   Calls Tryz.prog 124 #[P E.A.lanes,.int .i64 E.who,.int .u64 sum,.int .i64 word,v] w (KRes w E (.enter sum word t)):=by
 obtain⟨f,ps,rfl⟩:=h.func
 have H:=Lib.hid h
 clear h
 go_enter Tryz.func124,Tryz.ntmps124
 go_wp2_with fail
 go_ret
 exact⟨_,rfl,⟨w.heap.size,w.heap.size+1,w.heap.size+3,w.heap.size+2,w.heap.size+4,_,rfl,bx_allocs w [_,_,_,_,_] 0 rfl,bx_allocs w [_,_,_,_,_] 1 rfl,bx_allocs w [_,_,_,_,_] 3 rfl,bx_allocs w [_,_,_,_,_] 2 rfl,bx_allocs w [_,_,_,_,_] 4 rfl,H.out.keep (fr0 (below_allocs [_,_,_,_,_] w))⟩,below_allocs [_,_,_,_,_] w⟩
theorem freeze_any (E:Env) (word:Nat) (t:FThen) (v:Value) (w:World) (h:FThenAt w E v t):
   Calls Tryz.prog 118 #[P E.A.lanes,.int .i64 E.who,.int .i64 word,v] w (KRes w E (.freeze word t)):=by
 obtain⟨f,ps,rfl⟩:=h.func
 have H:=Lib.hid h
 clear h
 go_enter Tryz.func118,Tryz.ntmps118
 go_wp2_with fail
 go_ret
 exact⟨_,rfl,⟨w.heap.size,w.heap.size+1,w.heap.size+2,w.heap.size+3,_,rfl,bx_allocs w [_,_,_,_] 0 rfl,bx_allocs w [_,_,_,_] 1 rfl,bx_allocs w [_,_,_,_] 2 rfl,bx_allocs w [_,_,_,_] 3 rfl,H.out.keep (fr0 (below_allocs [_,_,_,_] w))⟩,below_allocs [_,_,_,_] w⟩
theorem split_any (E:Env) (w:World):
   Calls Tryz.prog 59 #[P E.A.lanes,.int .i64 E.who,.func (.func 60) #[] #[]] w (KRes w E .split):=by
 go_enter Tryz.func59,Tryz.ntmps59
 go_wp2_with fail
 go_ret
 exact⟨_,rfl,⟨w.heap.size,w.heap.size+1,w.heap.size+2,rfl,bx_allocs w [_,_,_] 0 rfl,bx_allocs w [_,_,_] 1 rfl,bx_allocs w [_,_,_] 2 rfl⟩,below_allocs [_,_,_] w⟩
theorem half_any (E:Env) (level shard:Nat) (L:List Cell) (t:HThen) (v cv:Value) (w:World) (h:HThenAt w E v t) (hc:CellsAt w cv L) (hl:level≤5):
   Calls Tryz.prog 120 #[P E.A.lanes,.int .i64 E.who,.int .i64 level,.int .u64 shard,cv,v] w (KRes w E (.half level shard L t)):=by
 obtain⟨f,ps,rfl⟩:=h.func
 obtain⟨a,n,c,rfl⟩:=hc.slice
 have H:=Lib.hid h;have Hc:=Lib.hid hc
 have Kp:=Lib.hid (fun W=>place_any level shard W hl)
 clear h hc hl
 go_enter Tryz.func120,Tryz.ntmps120
 go_wp2_with (go_at_call 33;(with_reducible refine(Kp.out _).mono ?_);rintro e w1 ⟨rfl,rfl⟩)
 go_ret
 exact⟨_,rfl,⟨w.heap.size,w.heap.size+1,w.heap.size+5,w.heap.size+4,_,w.heap.size+3,_,w.heap.size+2,rfl,bx_allocs w [_,_,_,_,_,_] 0 rfl,bx_allocs w [_,_,_,_,_,_] 1 rfl,bx_allocs w [_,_,_,_,_,_] 5 rfl,bx_allocs w [_,_,_,_,_,_] 4 rfl,H.out.keep (fr0 (below_allocs [_,_,_,_,_,_] w)),bx_allocs w [_,_,_,_,_,_] 3 rfl,Hc.out.keep (fr0 (below_allocs [_,_,_,_,_,_] w)),bx_allocs w [_,_,_,_,_,_] 2 rfl⟩,below_allocs [_,_,_,_,_,_] w⟩
theorem shl1 (level:Nat) (h:level≤5):IntKind.i64.wrap (2^level:Int)=(2^level:Nat):=by
 have h:level=0∨level=1∨level=2∨level=3∨level=4∨level=5:=by omega
 rcases h with rfl|rfl|rfl|rfl|rfl|rfl<;>decide
theorem move_end (E:Env) (level:Nat) (w:World) (hl:level≤4):
   Calls Tryz.prog 84 #[P E.A.lanes,.int .i64 E.who,.int .i64 level,.int .i64 (2^level:Nat),.func (.func 60) #[] #[]] w (KRes w E (.moveEnd level)):=by
 have h:level=0∨level=1∨level=2∨level=3∨level=4:=by omega
 clear hl
 rcases h with rfl|rfl|rfl|rfl|rfl
 all_goals
   go_enter Tryz.func84,Tryz.ntmps84
   go_wp2_with fail
   go_quiet (fail)
   go_wp2_with fail
   go_ret
   exact⟨_,rfl,⟨w.heap.size,w.heap.size+1,w.heap.size+2,w.heap.size+4,rfl,(bx_allocs w [_,_,_,_,_,_] 0 rfl).dN,(bx_allocs w [_,_,_,_,_,_] 1 rfl).dN,(bx_allocs w [_,_,_,_,_,_] 2 rfl).dN,(bx_allocs w [_,_,_,_,_,_] 4 rfl).dN⟩,(below_allocs [_,_,_,_,_,_] w).dN⟩
set_option maxHeartbeats 1000000 in
set_option maxRecDepth 100000 in
theorem move_on (E:Env) (level i:Nat) (w:World) (hl:level≤4) (hi:i<2^level):
   Calls Tryz.prog 84 #[P E.A.lanes,.int .i64 E.who,.int .i64 level,.int .i64 i,.func (.func 60) #[] #[]] w (KRes w E (.freeze (place level i) (.move level i))):=by
 have hs:IntKind.i64.wrap (2^level:Int)=(2^level:Nat):=shl1 level (by omega)
 have hu:IntKind.u64.wrap (i:Int)=(i:Int):=by
   have:(2:Nat)^level≤2^4:=Nat.pow_le_pow_right (by decide) hl
   rw[IntKind.wrap_u64];omega
 have hne: ¬(i:Int)=(2:Int)^level:=by
   have e:((2^level:Nat):Int)=(2:Int)^level:=by rw[Int.natCast_pow];rfl
   omega
 have Kp:=Lib.hid (fun W=>place_any level i W (by omega))
 have Kf:=Lib.hid (fun v W h=>freeze_any E (place level i) (.move level i) v W h)
 have hl0:(0:Int)≤level:=by omega
 have hl1:(level:Int)<64:=by omega
 clear hl hi
 go_enter Tryz.func84,Tryz.ntmps84
 go_wp2_with fail
 go_quiet (fail)
 go_wp2_with fail
 refine wp_name (fun u=>Bx u w.heap.size 62 #[P E.A.lanes]∧Bx u (w.heap.size+1) 3 #[.int .i64 E.who]∧Bx u (w.heap.size+2) 3 #[.int .i64 level]∧Bx u (w.heap.size+3) 3 #[.int .i64 i]∧Bx u (w.heap.size+4) 141 #[.func (.func 60) #[] #[]]∧Bx u (w.heap.size+5) 37 (resA false (err 0))∧Below w.heap.size w u) ⟨(bx_allocs w [_,_,_,_,_,_] 0 rfl).dN,(bx_allocs w [_,_,_,_,_,_] 1 rfl).dN,(bx_allocs w [_,_,_,_,_,_] 2 rfl).dN,(bx_allocs w [_,_,_,_,_,_] 3 rfl).dN,(bx_allocs w [_,_,_,_,_,_] 4 rfl).dN,(bx_allocs w [_,_,_,_,_,_] 5 rfl).dN,(below_allocs [_,_,_,_,_,_] w).dN⟩ ?_
 rintro u ⟨h0,h1,h2,h3,h4,h5,hb⟩
 have c0:=h0.at0;have c1:=h1.at0;have c2:=h2.at0;have c3:=h3.at0
 have HF:Hid (FThenAt u.drew E (.func (.func 119) #[] #[P w.heap.size,P (w.heap.size+1),P (w.heap.size+2),P (w.heap.size+3),P (w.heap.size+4),P (w.heap.size+5)]) (.move level i)):=⟨_,_,_,_,_,_,rfl,h0,h1,h2,h3,h4,h5⟩
 have Hb:=Lib.hid hb
 clear h0 h1 h2 h3 h4 h5 hb
 refine wp_region_still_tail 7 (by kernel_rfl) (by kernel_rfl) ?_
 simp only[List.take_succ_cons,List.take_zero,List.drop_succ_cons,List.drop_zero]
 show wpStill _ _ u.drew (fun a'=>wpList _ _ _ _ a' u.drew) _ _
 repeat(first|still_step|still_call ((Kp.out _).mono fun _ _ h=>And.intro h.1 h.2.symm))
 try refine wpStill_nil ?_
 change wpList _ _ _ _ _ u.drew
 go_wp2_with (go_at_call 118;(refine (Kf.out _ _ HF.out).mono ?_);rintro e w1 ⟨v,rfl,hk,hb⟩;have Hk:=Lib.hid hk;have Hb1:=Lib.hid hb;clear hk hb)
 go_ret
 exact⟨v,rfl,Hk.out,Hb.out.drew.trans (Hb1.out.mono Hb.out.size)⟩
end
end Go.Proofs.YtemnhpdjoimjbaaGreatDoor
