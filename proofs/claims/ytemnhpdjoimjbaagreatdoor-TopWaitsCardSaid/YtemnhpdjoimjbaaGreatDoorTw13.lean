import Derived.Test.YtemnhpdjoimjbaaGreatDoorTw12
namespace Go.Proofs.YtemnhpdjoimjbaaGreatDoor
section
open Go.RowKit Top
set_option linter.unusedVariables false
def Liv (w:World) (B:Nat) (E:Env) (x:Live) (m:Mem):Prop:=St w B E.A m∧CallAt w E x
structure Was (w:World) (B:Nat) (E:Env) (x:Live) (m:Mem) (u:World):Prop where
 st:St u B E.A m
 call:CallAt u E x
 fr:Fr B [E.x] w u
theorem Was.later {w u u':World} {B:Nat} {E:Env} {x:Live} {m:Mem} (h:Was w B E x m u) (k:Below u.heap.size u u'):Was w B E x m u':=
 ⟨h.st.later k,h.call.keep (fr0 k) (by simp),h.fr.below h.st.below.2.2.2 k⟩
theorem Was.acc {w u u':World} {B:Nat} {E:Env} {x:Live} {m m':Mem} (h:Was w B E x m u) (k:Acc u B E.A m' u'):Was w B E x m' u':=
 ⟨k.1,h.call.keep k.2 (by simp),h.fr.trans (k.2.mono (Nat.le_refl _) (by simp))⟩
theorem Was.drew {w u:World} {B:Nat} {E:Env} {x:Live} {m:Mem} (h:Was w B E x m u):Was w B E x m u.drew:=h.later (Below.refl _ _).drew
theorem Was.noted {w u u':World} {B:Nat} {E:Env} {x:Live} {m:Mem} (h:Was w B E x m u) (n:Noted u B E.A m u'):Was w B E x m.touch u':=h.acc (n.acc h.st)
theorem Was.start {w:World} {B:Nat} {E:Env} {x:Live} {m:Mem} (h1:St w B E.A m) (h2:CallAt w E x):Was w B E x m w:=⟨h1,h2,Fr.refl _ _ _⟩
structure Env.Ok (E:Env) (m:Mem):Prop where
 who0:0≤E.who
 who1:E.who<64
 count:m.count<4611686018427387904
theorem cell_ne {w:World} {b r i j:Nat} {v:Value} (h:b≠r):(w.setCell ⟨r,i,none⟩ v).cell? ⟨b,j,none⟩=w.cell? ⟨b,j,none⟩:=World.cell?_setCell_other _ _ _ _ (by intro e;injection e with e1;exact h e1.symm)
theorem Bx.dr {w:World} {b:Nat} {t:TypeId} {a:Array Value} (h:Bx w b t a):Bx w.drew b t a:=h
theorem belAlloc {B:Nat} {a w:World} {o:Obj} (hB:B≤w.heap.size) (h:RowKit.Below B a w):RowKit.Below B a (w.alloc o):=h.alloc hB o
theorem belSet {B q i:Nat} {a w:World} {v:Value} (hq:B≤q) (h:RowKit.Below B a w):RowKit.Below B a (w.setCell ⟨q,i,none⟩ v):=h.setCell hq v
theorem Bx.newq' {w:World} {q:Nat} {t:TypeId} {a:Array Value} (hq:q=w.heap.size):Bx (w.alloc (.cells a t (0,0))) q t a:=by subst hq;exact Bx.new w t a
theorem Bx.sne {w:World} {b q i:Nat} {t:TypeId} {a:Array Value} {v:Value} (hn:b≠q) (h:Bx w b t a):Bx (w.setCell ⟨q,i,none⟩ v) b t a:=h.setCell_ne ⟨q,i,none⟩ v hn
theorem Bx.alc {w:World} {b:Nat} {t:TypeId} {a:Array Value} {o:Obj} (h:Bx w b t a):Bx (w.alloc o) b t a:=h.alloc o
theorem Noted.sv {w w':World} {B:Nat} {A:Adr} {m:Mem} {q i:Nat} {v:Value} (t:TypeId) (a:Array Value) (hq:w.heap.size≤q) (h1:t≠121) (h2:t≠156) (hb:Bx w' q t a) (n:Noted w B A m w'):Noted w B A m (w'.setCell ⟨q,i,none⟩ v):=n.setVar hq hb h1 h2 v
theorem Noted.sv_u64 {w w':World} {B:Nat} {A:Adr} {m:Mem} {q i:Nat} {v:Value} {a:Array Value} (hq:w.heap.size≤q) (hb:Bx w' q 61 a) (n:Noted w B A m w'):Noted w B A m (w'.setCell ⟨q,i,none⟩ v):=n.setVar hq hb (by decide) (by decide) v
theorem Noted.sv_cells {w w':World} {B:Nat} {A:Adr} {m:Mem} {q i:Nat} {v:Value} {a:Array Value} (hq:w.heap.size≤q) (hb:Bx w' q 64 a) (n:Noted w B A m w'):Noted w B A m (w'.setCell ⟨q,i,none⟩ v):=n.setVar hq hb (by decide) (by decide) v
theorem cells4 {w:World} {r:Nat} {t:TypeId} {v0 v1 v2 v3:Value} (h:Bx w r t #[v0,v1,v2,v3]):w.cell? ⟨r,0,none⟩=some v0∧w.cell? ⟨r,1,none⟩=some v1∧w.cell? ⟨r,2,none⟩=some v2∧w.cell? ⟨r,3,none⟩=some v3:=⟨h.cell 0,h.cell 1,h.cell 2,h.cell 3⟩
theorem free4 {w:World} {r:Nat} {t:TypeId} {a:Array Value} (h:Bx w r t a):w.frozen? ⟨r,0,none⟩=false∧w.frozen? ⟨r,1,none⟩=false∧w.frozen? ⟨r,2,none⟩=false∧w.frozen? ⟨r,3,none⟩=false:=⟨h.free 0,h.free 1,h.free 2,h.free 3⟩
theorem cells6 {w:World} {r:Nat} {t:TypeId} {v0 v1 v2 v3 v4 v5:Value} (h:Bx w r t #[v0,v1,v2,v3,v4,v5]):w.cell? ⟨r,0,none⟩=some v0∧w.cell? ⟨r,1,none⟩=some v1∧w.cell? ⟨r,2,none⟩=some v2∧w.cell? ⟨r,3,none⟩=some v3∧w.cell? ⟨r,4,none⟩=some v4∧w.cell? ⟨r,5,none⟩=some v5:=⟨h.cell 0,h.cell 1,h.cell 2,h.cell 3,h.cell 4,h.cell 5⟩
theorem free6 {w:World} {r:Nat} {t:TypeId} {a:Array Value} (h:Bx w r t a):w.frozen? ⟨r,0,none⟩=false∧w.frozen? ⟨r,1,none⟩=false∧w.frozen? ⟨r,2,none⟩=false∧w.frozen? ⟨r,3,none⟩=false∧w.frozen? ⟨r,4,none⟩=false∧w.frozen? ⟨r,5,none⟩=false:=⟨h.free 0,h.free 1,h.free 2,h.free 3,h.free 4,h.free 5⟩
theorem Bx.set4 {w:World} {b:Nat} {t:TypeId} {u0 u1 u2 u3 v0 v1 v2 v3:Value} (h:Bx w b t #[u0,u1,u2,u3]):Bx ((((w.setCell ⟨b,0,none⟩ v0).setCell ⟨b,1,none⟩ v1).setCell ⟨b,2,none⟩ v2).setCell ⟨b,3,none⟩ v3) b t #[v0,v1,v2,v3]:=(((h.setCell 0 v0).setCell 1 v1).setCell 2 v2).setCell 3 v3
theorem Bx.set6 {w:World} {b:Nat} {t:TypeId} {u0 u1 u2 u3 u4 u5 v0 v1 v2 v3 v4 v5:Value} (h:Bx w b t #[u0,u1,u2,u3,u4,u5]):Bx ((((((w.setCell ⟨b,0,none⟩ v0).setCell ⟨b,1,none⟩ v1).setCell ⟨b,2,none⟩ v2).setCell ⟨b,3,none⟩ v3).setCell ⟨b,4,none⟩ v4).setCell ⟨b,5,none⟩ v5) b t #[v0,v1,v2,v3,v4,v5]:=(((((h.setCell 0 v0).setCell 1 v1).setCell 2 v2).setCell 3 v3).setCell 4 v4).setCell 5 v5
theorem Noted.sv4_cell {w w':World} {B:Nat} {A:Adr} {m:Mem} {q:Nat} {v0 v1 v2 v3:Value} {a:Array Value} (hq:w.heap.size≤q) (hb:Bx w' q 100 a) (n:Noted w B A m w'):Noted w B A m ((((w'.setCell ⟨q,0,none⟩ v0).setCell ⟨q,1,none⟩ v1).setCell ⟨q,2,none⟩ v2).setCell ⟨q,3,none⟩ v3):=
 (((n.setVar hq hb (by decide) (by decide) v0).setVar hq (hb.setCell 0 v0) (by decide) (by decide) v1).setVar hq ((hb.setCell 0 v0).setCell 1 v1) (by decide) (by decide) v2).setVar hq (((hb.setCell 0 v0).setCell 1 v1).setCell 2 v2) (by decide) (by decide) v3
theorem Noted.sv6_reply {w w':World} {B:Nat} {A:Adr} {m:Mem} {q:Nat} {v0 v1 v2 v3 v4 v5:Value} {a:Array Value} (hq:w.heap.size≤q) (hb:Bx w' q 35 a) (n:Noted w B A m w'):Noted w B A m ((((((w'.setCell ⟨q,0,none⟩ v0).setCell ⟨q,1,none⟩ v1).setCell ⟨q,2,none⟩ v2).setCell ⟨q,3,none⟩ v3).setCell ⟨q,4,none⟩ v4).setCell ⟨q,5,none⟩ v5):=
 (((((n.setVar hq hb (by decide) (by decide) v0).setVar hq (hb.setCell 0 v0) (by decide) (by decide) v1).setVar hq ((hb.setCell 0 v0).setCell 1 v1) (by decide) (by decide) v2).setVar hq (((hb.setCell 0 v0).setCell 1 v1).setCell 2 v2) (by decide) (by decide) v3).setVar hq ((((hb.setCell 0 v0).setCell 1 v1).setCell 2 v2).setCell 3 v3) (by decide) (by decide) v4).setVar hq (((((hb.setCell 0 v0).setCell 1 v1).setCell 2 v2).setCell 3 v3).setCell 4 v4) (by decide) (by decide) v5
theorem Noted.alc {w w':World} {B:Nat} {A:Adr} {m:Mem} {o:Obj} (n:Noted w B A m w'):Noted w B A m (w'.alloc o):=n.alloc o
theorem cell_lt {u W:World} {b i:Nat} {v:Value} {N:Nat} (hb:b<N) (k:RowKit.Below N u W) (h:u.cell? ⟨b,i,none⟩=some v):W.cell? ⟨b,i,none⟩=some v:=(k.cell (p:=⟨b,i,none⟩) hb).trans h
theorem belOfN {B:Nat} {A:Adr} {m:Mem} {u W w2:World} (hn:Noted W B A m w2) (h:RowKit.Below u.heap.size u W):RowKit.Below u.heap.size u W:=h
theorem belOfA {B:Nat} {A:Adr} {m:Mem} {u W w2:World} (hn:Acc W B A m w2) (h:RowKit.Below u.heap.size u W):RowKit.Below u.heap.size u W:=h
theorem belOfB {u W w2:World} (hb:RowKit.Below W.heap.size W w2) (h:RowKit.Below u.heap.size u W):RowKit.Below u.heap.size u W:=h
theorem Bx.newq {w:World} {q:Nat} (t:TypeId) (a:Array Value) (hq:q=w.heap.size):Bx (w.alloc (.cells a t (0,0))) q t a:=by subst hq;exact Bx.new w t a
theorem Bx.sc0 {w:World} {b:Nat} {t:TypeId} {v u:Value} (h:Bx w b t #[u]):Bx (w.setCell ⟨b,0,none⟩ v) b t #[v]:=h.setCell 0 v
abbrev res0 :Array Value:= #[.bool false,.int .i64 0,.bool false,.int .i64 0,.int .i64 0,.int .i64 0,.int .i64 0]
theorem res_cells {u:World} {r:Nat} {v0 v1 v2 v3 v4 v5 v6:Value} (h:Bx u r 37 #[v0,v1,v2,v3,v4,v5,v6]):
   u.cell? ⟨r,0,none⟩=some v0∧u.cell? ⟨r,1,none⟩=some v1∧u.cell? ⟨r,2,none⟩=some v2∧u.cell? ⟨r,3,none⟩=some v3∧u.cell? ⟨r,4,none⟩=some v4∧u.cell? ⟨r,5,none⟩=some v5∧u.cell? ⟨r,6,none⟩=some v6:=
 ⟨h.cell 0,h.cell 1,h.cell 2,h.cell 3,h.cell 4,h.cell 5,h.cell 6⟩
theorem res_free {u:World} {r:Nat} {t:TypeId} {a:Array Value} (h:Bx u r t a):
   u.frozen? ⟨r,0,none⟩=false∧u.frozen? ⟨r,1,none⟩=false∧u.frozen? ⟨r,2,none⟩=false∧u.frozen? ⟨r,3,none⟩=false∧u.frozen? ⟨r,4,none⟩=false∧u.frozen? ⟨r,5,none⟩=false∧u.frozen? ⟨r,6,none⟩=false:=
 ⟨h.free 0,h.free 1,h.free 2,h.free 3,h.free 4,h.free 5,h.free 6⟩
theorem setCell_same {w:World} {b i:Nat} {t:TypeId} {a:Array Value} (h:Bx w b t a) {v:Value} (hv:a[i]? =some v):w.setCell ⟨b,i,none⟩ v=w:=by
 have e:a.setIfInBounds i v=a:=by
   apply Array.ext_getElem?
   intro j
   rw[Array.getElem?_setIfInBounds]
   split
   · rename_i e
     subst e
     split
     · exact hv.symm
     · rename_i hn
       rw[Array.getElem?_eq_none (by omega)]at hv
       cases hv
   · rfl
 have eh:(w.setCell ⟨b,i,none⟩ v).heap=w.heap:=by
   apply Array.ext_getElem?
   intro j
   by_cases e':j=b
   · subst e'
     have h1:=h.setCell i v
     rw[e]at h1
     exact h1.trans h.symm
   · exact Below.heap_setCell w ⟨b,i,none⟩ v j e'
 show({w with heap:=(w.setCell ⟨b,i,none⟩ v).heap }:World)=w
 rw[eh]
theorem set7_same {w:World} {r:Nat} {v0 v1 v2 v3 v4 v5 v6:Value} (h:Bx w r 37 #[v0,v1,v2,v3,v4,v5,v6]):
   (((((((w.setCell ⟨r,0,none⟩ v0).setCell ⟨r,1,none⟩ v1).setCell ⟨r,2,none⟩ v2).setCell ⟨r,3,none⟩ v3).setCell ⟨r,4,none⟩ v4).setCell ⟨r,5,none⟩ v5).setCell ⟨r,6,none⟩ v6)=w:=by
 have e0:w.setCell ⟨r,0,none⟩ v0=w:=setCell_same h rfl
 have e1:w.setCell ⟨r,1,none⟩ v1=w:=setCell_same h rfl
 have e2:w.setCell ⟨r,2,none⟩ v2=w:=setCell_same h rfl
 have e3:w.setCell ⟨r,3,none⟩ v3=w:=setCell_same h rfl
 have e4:w.setCell ⟨r,4,none⟩ v4=w:=setCell_same h rfl
 have e5:w.setCell ⟨r,5,none⟩ v5=w:=setCell_same h rfl
 have e6:w.setCell ⟨r,6,none⟩ v6=w:=setCell_same h rfl
 rw[e0,e1,e2,e3,e4,e5,e6]
end
section
open Go.RowKit Top
set_option linter.unusedVariables false
def Enters (f:Nat):Prop:= ∀(args:Array Value) (w:World),(callFunc f args).run Tryz.prog w= .ok (.enter f args) w
def levelOf :FThen→Nat
 | .find level _ _=>level
 | .move level _=>level
set_option maxHeartbeats 1000000 in
set_option maxRecDepth 100000 in
theorem fthen_any (E:Env) (t:FThen) (v cv:Value) (L:List Cell) (w:World) (h:FThenAt w E v t) (hc:CellsAt w cv L) (hl:levelOf t≤4) (hi: ∀level i,t= .move level i→i<32):
   ∃f ps,v= .func (.func f) #[] ps∧Enters f∧Calls Tryz.prog f (#[cv]++ps) w (KRes w E (fthenF t L)):=by
 obtain⟨a,n,c,rfl⟩:=hc.slice
 have HC:=Lib.hid hc
 clear hc
 cases t with
 |find level sum t=>
   obtain⟨b0,b1,b2,b3,b4,tv,b5,rfl,h0,h1,h2,h3,h4,ht,h5⟩:=h
   refine⟨_,_,rfl,enters_of Tryz.func125 (by kernel_rfl) rfl,?_⟩
   show Calls _ _ #[.slice a n c,P b0,P b1,P b2,P b3,P b4,P b5] _ _
   obtain⟨tf,tps,rfl⟩:=ht.func
   have c0:=h0.at0;have c1:=h1.at0;have c2:=h2.at0;have c3:=h3.at0
   have hl':level≤4:=hl
   have hs:IntKind.i64.wrap ((level:Int)+1)=((level+1:Nat):Int):=by rw[IntKind.wrap_i64];omega
   have HH:Hid (HThenAt w E (.func (.func 126) #[] #[P b0,P b1,P b3,P b4,P b5]) (.find sum t)):=⟨_,_,_,_,_,_,rfl,h0,h1,h3,h4,ht,h5⟩
   have Kh:=Lib.hid (half_any E (level+1) sum L (.find sum t) _ _ w HH.out HC.out (by omega))
   clear h0 h1 h2 h3 h4 ht h5 hl hl' hi
   go_enter Tryz.func125,Tryz.ntmps125
   go_wp2_with (go_at_call 120;(refine Kh.out.mono ?_);rintro e w2 ⟨v,rfl,hk,hb⟩;have Hk:=Lib.hid hk;have Hb:=Lib.hid hb;clear hk hb)
   go_ret
   exact⟨v,rfl,Hk.out,Hb.out⟩
 |move level i=>
   obtain⟨b0,b1,b2,b3,b4,b5,rfl,h0,h1,h2,h3,h4,h5⟩:=h
   refine⟨_,_,rfl,enters_of Tryz.func119 (by kernel_rfl) rfl,?_⟩
   show Calls _ _ #[.slice a n c,P b0,P b1,P b2,P b3,P b4,P b5] _ _
   have c0:=h0.at0;have c1:=h1.at0;have c2:=h2.at0;have c3:=h3.at0
   have l0:=h0.lt;have l1:=h1.lt;have l2:=h2.lt;have l3:=h3.lt
   have hl':level≤4:=hl
   have hs:IntKind.i64.wrap ((level:Int)+1)=((level+1:Nat):Int):=by rw[IntKind.wrap_i64];omega
   have hi':=hi level i rfl
   have hu:IntKind.u64.wrap (i:Int)=(i:Int):=by rw[IntKind.wrap_u64];omega
   have H:=Lib.hid (And.intro h0 (And.intro h1 (And.intro h2 (And.intro h3 (And.intro h4 h5)))))
   have Kh:=Lib.hid (fun v W h hc=>half_any E (level+1) i L (.one level i L) v (.slice a n c) W h hc (by omega))
   clear h0 h1 h2 h3 h4 h5 hl hl' hi hi'
   go_enter Tryz.func119,Tryz.ntmps119
   have hb0:=below_allocs [.cells #[.slice a n c] 64] w
   have hf0:=fr0 hb0
   have HH:Hid (HThenAt (w.alloc (.cells #[.slice a n c] 64)) E (.func (.func 121) #[] #[P b0,P b1,P b2,P b3,P w.heap.size,P b4,P b5]) (.one level i L)):=⟨_,_,_,_,_,_,_,_,rfl,H.out.1.keep hf0 rfl,H.out.2.1.keep hf0 rfl,H.out.2.2.1.keep hf0 rfl,H.out.2.2.2.1.keep hf0 rfl,bx_allocs w [_] 0 rfl,HC.out.keep hf0,H.out.2.2.2.2.1.keep hf0 rfl,H.out.2.2.2.2.2.keep hf0 rfl⟩
   have Hb0:=Lib.hid hb0;have Hc0:=Lib.hid (HC.out.keep hf0)
   clear hb0 hf0
   go_wp2_with (go_at_call 120;(refine (Kh.out _ _ HH.out Hc0.out).mono ?_);rintro e w2 ⟨v,rfl,hk,hb⟩;have Hk:=Lib.hid hk;have Hb:=Lib.hid hb;clear hk hb)
   go_ret
   exact⟨v,rfl,Hk.out,Hb0.out.trans (Hb.out.mono Hb0.out.size)⟩
theorem Row.setRes {w:World} {t:TypeId} {size n:Nat} {v:Value} {xs:List Value} (h:Row w t size n v xs) {r i:Nat} {c:Array Value} (hr:Bx w r 37 c) (ht:t≠37) (u:Value):Row (w.setCell ⟨r,i,none⟩ u) t size n v xs:=by
 obtain⟨h1,a,cc,h2,h3,h4,h5⟩:=h
 refine⟨h1,a,cc,h2,h3,h4,fun hn=> ?_⟩
 obtain⟨b,off,arr,h6,h7,h8⟩:=h5 hn
 exact⟨b,off,arr,h6,h7.sne (h7.ne hr ht),h8⟩
theorem CellsAt.setRes {w:World} {v:Value} {L:List Cell} (h:CellsAt w v L) {r i:Nat} {c:Array Value} (hr:Bx w r 37 c) (u:Value):CellsAt (w.setCell ⟨r,i,none⟩ u) v L:=by
 obtain⟨xs,h1,h2,h3,h4⟩:=h
 exact⟨xs,h1,h2.setRes hr (by decide) u,fun x hx=>⟨⟨(h3 x hx).1.1,(h3 x hx).1.2.setRes hr (by decide) u⟩,Row.setRes (h3 x hx).2 hr (by decide) u⟩,h4⟩
theorem CoreAt.setRes {w:World} {A:Adr} (h:CoreAt w A) {r i:Nat} {c:Array Value} (hr:Bx w r 37 c) (u:Value):CoreAt (w.setCell ⟨r,i,none⟩ u) A:=by
 obtain⟨arr,lv,h1,h2,h3,h4,h5,h6⟩:=h
 exact⟨arr,lv,h1.sne (h1.ne hr (by decide)),h2,h3,h4,h5,Row.setRes h6 hr (by decide) u⟩
theorem CallAt.setRes {w:World} {E:Env} {x:Live} (h:CallAt w E x) {r i:Nat} {c:Array Value} (hr:Bx w r 37 c) (u:Value):CallAt (w.setCell ⟨r,i,none⟩ u) E x:=by
 obtain⟨key,h1,h2⟩:=h
 exact⟨key,h1.sne (h1.ne hr (by decide)),h2.1,h2.2.setRes hr (by decide) u⟩
theorem St.setRes {w:World} {B:Nat} {A:Adr} {m:Mem} (h:St w B A m) {r i:Nat} {c:Array Value} (hr:Bx w r 37 c) (u:Value):St (w.setCell ⟨r,i,none⟩ u) B A m:=by
 obtain⟨last,hm,n,xs,ho,hn,h1⟩:=h.mach
 obtain⟨hs,h2,h3,h4⟩:=h.holds
 refine⟨h.lanes.sne (h.lanes.ne hr (by decide)),h.board.sne (h.board.ne hr (by decide)),⟨last,hm.sne (hm.ne hr (by decide)),n,xs,ownsRow_setCell_other ho (own_ne ho hr (by decide)) _,hn,h1⟩,h.words.sne (h.words.ne hr (by decide)),h.nwords,h.wordlt,⟨hs,h2,h3.sne (h3.ne hr (by decide)),fun i hi=> ?_⟩,h.nholds,⟨h.below.1,h.below.2.1,h.below.2.2.1,by simpa [World.setCell]using h.below.2.2.2⟩,h.clock,h.count,h.core.setRes hr u⟩
 obtain⟨v,h5,h6⟩:=h4 i hi
 exact⟨v,h5,h6.setRes hr u⟩
theorem outKont {w2:World} {r:Nat} {E:Env} {v:Value} {k:Kont} (hr:Bx w2 r 37 res0) (hk:KontAt w2 E v k):KontAt (((((((w2.setCell ⟨r,0,none⟩ (.bool false)).setCell ⟨r,1,none⟩ (.int .i64 0)).setCell ⟨r,2,none⟩ (.bool false)).setCell ⟨r,3,none⟩ (.int .i64 0)).setCell ⟨r,4,none⟩ (.int .i64 0)).setCell ⟨r,5,none⟩ (.int .i64 0)).setCell ⟨r,6,none⟩ (.int .i64 0)) E v k:=by
 have e:=set7_same hr
 exact Eq.mpr (congrArg (fun W=>KontAt W E v k) e) hk
theorem Out.store {w w2:World} {B r:Nat} {E:Env} {o:Out} {v:Value} {d:Bool} {a:Reply} (hr:Bx w2 r 37 res0) (hnew:w.heap.size≤r) (hB:B≤w.heap.size) (ho:OutAt w2 E v d a o.1) (hc:CallAt w2 E o.2.1) (hs:St w2 B E.A o.2.2) (hf:Fr B [E.x] w w2):
   ∃W,W=(((((((w2.setCell ⟨r,0,none⟩ (.bool d)).setCell ⟨r,1,none⟩ (.int .i64 a.e)).setCell ⟨r,2,none⟩ (.bool a.granted)).setCell ⟨r,3,none⟩ (.int .i64 a.left)).setCell ⟨r,4,none⟩ (.int .i64 a.wait)).setCell ⟨r,5,none⟩ (.int .i64 a.serial)).setCell ⟨r,6,none⟩ (.int .i64 a.now))∧Bx W r 37 (resA d a)∧OutAt W E v d a o.1∧CallAt W E o.2.1∧St W B E.A o.2.2∧Fr B [E.x] w W:=by
 have b0:=hr.setCell 0 (.bool d)
 have b1:=b0.setCell 1 (.int .i64 a.e)
 have b2:=b1.setCell 2 (.bool a.granted)
 have b3:=b2.setCell 3 (.int .i64 a.left)
 have b4:=b3.setCell 4 (.int .i64 a.wait)
 have b5:=b4.setCell 5 (.int .i64 a.serial)
 have b6:=b5.setCell 6 (.int .i64 a.now)
 refine⟨_,rfl,b6,?_,((((((hc.setRes hr _).setRes b0 _).setRes b1 _).setRes b2 _).setRes b3 _).setRes b4 _).setRes b5 _,((((((hs.setRes hr _).setRes b0 _).setRes b1 _).setRes b2 _).setRes b3 _).setRes b4 _).setRes b5 _,?_⟩
 · rcases h:o.1 with k|r'
   · rw[h]at ho
     obtain⟨hk,rfl,rfl⟩:=ho
     exact⟨outKont hr hk,rfl,rfl⟩
   · rw[h]at ho
     obtain⟨e1,e2,e3⟩:=ho
     exact⟨e1,e2,e3⟩
 · have hb:B≤r:=Nat.le_trans hB hnew
   exact((((((hf.setNew (p:=⟨r,0,none⟩) hb hnew _).setNew (p:=⟨r,1,none⟩) hb hnew _).setNew (p:=⟨r,2,none⟩) hb hnew _).setNew (p:=⟨r,3,none⟩) hb hnew _).setNew (p:=⟨r,4,none⟩) hb hnew _).setNew (p:=⟨r,5,none⟩) hb hnew _).setNew (p:=⟨r,6,none⟩) hb hnew _
end
section
open Go.RowKit Top
set_option linter.unusedVariables false
theorem WThenAt.func {w:World} {E:Env} {v:Value}: ∀ {t:WThen},WThenAt w E v t→Func1 v
 | .back _,⟨_,_,h,_⟩=>⟨_,_,h⟩
 | .room ..,⟨_,_,_,h,_⟩=>⟨_,_,h⟩
 | .serial ..,⟨_,_,_,h,_⟩=>⟨_,_,h⟩
theorem StopAt.func {w:World} {E:Env} {v:Value}: ∀ {t:WThen},StopAt w E v t→v= .nilFunc∨Func1 v
 | .back _,h=> .inl h
 | .room ..,h=> .inr ⟨_,_,h⟩
 | .serial ..,⟨_,h,_⟩=> .inr ⟨_,_,h⟩
theorem BThenAt.func {w:World} {E:Env} {v:Value}: ∀ {t:BThen},BThenAt w E v t→Func1 v
 | .done _,⟨_,h,_⟩=>⟨_,_,h⟩
 | .evict ..,⟨_,_,_,_,_,_,_,h,_⟩=>⟨_,_,h⟩
theorem cmove_any (E:Env) (word by_ stop:Nat) (t:WThen) (sv tv:Value) (w:World) (hs:StopAt w E sv t) (h:WThenAt w E tv t):
   Calls Tryz.prog 130 #[P E.x,.int .i64 word,.int .u64 by_,.int .u64 stop,sv,tv] w (KRes w E (.wordLoad word by_ stop t)):=by
 obtain⟨f,ps,rfl⟩:=h.func
 have hsf:=hs.func
 have H:=Lib.hid h;have HS:=Lib.hid hs
 clear h hs
 rcases hsf with rfl|⟨f',ps',rfl⟩
 all_goals
   go_enter Tryz.func130,Tryz.ntmps130
   go_wp2_with fail
   go_ret
   exact⟨_,rfl,⟨w.heap.size,w.heap.size+1,w.heap.size+3,w.heap.size+4,_,w.heap.size+2,w.heap.size+5,_,rfl,bx_allocs w [_,_,_,_,_,_] 0 rfl,bx_allocs w [_,_,_,_,_,_] 1 rfl,bx_allocs w [_,_,_,_,_,_] 3 rfl,bx_allocs w [_,_,_,_,_,_] 4 rfl,HS.out.keep (fr0 (below_allocs [_,_,_,_,_,_] w)),bx_allocs w [_,_,_,_,_,_] 2 rfl,bx_allocs w [_,_,_,_,_,_] 5 rfl,H.out.keep (fr0 (below_allocs [_,_,_,_,_,_] w))⟩,below_allocs [_,_,_,_,_,_] w⟩
theorem back_any (E:Env) (n:Nat) (t:BThen) (v:Value) (w:World) (h:BThenAt w E v t):
   Calls Tryz.prog 97 #[P E.x,.int .u64 n,v] w (KRes w E (backK n t)):=by
 obtain⟨f,ps,rfl⟩:=h.func
 have hn:IntKind.u64.wrap (-(n:Int))=((neg n:Nat):Int):=by rw[IntKind.wrap_u64];unfold neg U64;omega
 have hb0:=below_allocs [.cells #[.func f #[] ps] 66] w
 have HT:Hid (WThenAt (w.alloc (.cells #[.func f #[] ps] 66)) E (.func (.func 131) #[] #[P w.heap.size]) (.back t)):=⟨_,_,rfl,bx_allocs w [_] 0 rfl,h.keep (fr0 hb0)⟩
 have Hb0:=Lib.hid hb0
 have K: ∀W sv tv,StopAt W E sv (.back t)→WThenAt W E tv (.back t)→Calls Tryz.prog 130 #[P E.x,.int .i64 32,.int .u64 (neg n:Nat),.int .u64 18446744073709551615,sv,tv] W (KRes W E (backK n t)):=fun W sv tv hs ht=>cmove_any E 32 (neg n) 18446744073709551615 (.back t) sv tv W hs ht
 have Kk:=Lib.hid K
 clear h hb0 K
 go_enter Tryz.func97,Tryz.ntmps97
 go_wp2_with (go_at_call 130;(refine (Kk.out _ _ _ rfl HT.out).mono ?_);rintro e w2 ⟨v,rfl,hk,hb⟩;have Hk:=Lib.hid hk;have Hb:=Lib.hid hb;clear hk hb)
 go_ret
 exact⟨v,rfl,Hk.out,Hb0.out.trans (Hb.out.mono Hb0.out.size)⟩
theorem allow_any (E:Env) (f:Top.Found) (at_:Nat) (there:Bool) (c:Cell) (fa:Option Addr) (fn fc:Nat) (kv hv:Value) (w:World) (hf:CellsAt w (.slice fa fn fc) f.cells) (hk:KeyAt w kv c.key) (hh:HeldAt w hv c.held) (ok:PutOk f at_ there c):
   Calls Tryz.prog 101 #[P E.x,.agg (polA E.pol),.agg #[.int .i64 (f.word:Nat),.int .u64 (f.v:Nat),.slice fa fn fc],.int .i64 at_,.bool there,.agg (cellA c kv hv)] w (KRes w E (.allow f at_ there c)):=by
 obtain⟨ka,kc,rfl⟩: ∃a c',kv= .slice a c.key.length c':=by obtain⟨_,_,a,c',e,_⟩:=hk;exact⟨a,c',e⟩
 obtain⟨ha,hc,rfl⟩: ∃a c',hv= .slice a c.held.length c':=by obtain⟨_,a,c',e,_⟩:=hh;exact⟨a,c',e⟩
 have Hf:=Lib.hid hf;have Hk:=Lib.hid hk;have Hh:=Lib.hid hh;have Ok:=Lib.hid ok
 clear hf hk hh ok
 go_enter Tryz.func101,Tryz.ntmps101
 go_wp2_with fail
 go_ret
 exact⟨_,rfl,⟨w.heap.size+1,w.heap.size+5,_,_,w.heap.size,w.heap.size+2,_,w.heap.size+3,w.heap.size+4,rfl,bx_allocs w [_,_,_,_,_,_] 1 rfl,bx_allocs w [_,_,_,_,_,_] 5 rfl,Hk.out.keep (fr0 (below_allocs [_,_,_,_,_,_] w)),Hh.out.keep (fr0 (below_allocs [_,_,_,_,_,_] w)),bx_allocs w [_,_,_,_,_,_] 0 rfl,bx_allocs w [_,_,_,_,_,_] 2 rfl,Hf.out.keep (fr0 (below_allocs [_,_,_,_,_,_] w)),bx_allocs w [_,_,_,_,_,_] 3 rfl,bx_allocs w [_,_,_,_,_,_] 4 rfl,Ok.out⟩,below_allocs [_,_,_,_,_,_] w⟩
structure Ans (w:World) (B:Nat) (E:Env) (o:Out) (v:Value) (d:Bool) (a:Reply) (w':World):Prop where
 out:OutAt w' E v d a o.1
 call:CallAt w' E o.2.1
 st:St w' B E.A o.2.2
 fr:Fr B [E.x] w w'
theorem Ans.of {w w':World} {B:Nat} {E:Env} {o:Out} {e:Ending} (h:ORes w B E o e w'): ∃v d a,e= .returned (.tuple #[v,.agg (resA d a)])∧Ans w B E o v d a w':=by
 obtain⟨v,d,a,h1,h2,h3,h4,h5⟩:=h
 exact⟨v,d,a,h1,h2,h3,h4,h5⟩
theorem OutAt.keep {B:Nat} {X:List Nat} {w w':World} {E:Env} {v:Value} {d:Bool} {a:Reply} (hf:Fr B X w w'): ∀ {o:Kont ⊕ Reply},OutAt w E v d a o→OutAt w' E v d a o
 | .inl k,⟨h,h1,h2⟩=>⟨h.keep hf,h1,h2⟩
 | .inr r,h=>h
theorem Ans.later {w w' w'':World} {B:Nat} {E:Env} {o:Out} {v:Value} {d:Bool} {a:Reply} (h:Ans w B E o v d a w') (k:Below w'.heap.size w' w''):Ans w B E o v d a w'':=
 ⟨h.out.keep (fr0 k),h.call.keep (fr0 k) (by simp),h.st.later k,h.fr.below h.st.below.2.2.2 k⟩
theorem Ans.pre {w u w':World} {B:Nat} {E:Env} {o:Out} {v:Value} {d:Bool} {a:Reply} (hf:Fr B [E.x] w u) (h:Ans u B E o v d a w'):Ans w B E o v d a w':=⟨h.out,h.call,h.st,hf.trans h.fr⟩
theorem Ans.more {w w':World} {B:Nat} {E:Env} {x:Live} {m:Mem} {k:Kont} {v:Value} (h:Was w B E x m w') (hk:KontAt w' E v k):Ans w B E (more k x m) v false (err 0) w':=⟨⟨hk,rfl,rfl⟩,h.call,h.st,h.fr⟩
theorem Ans.fin {w w':World} {B:Nat} {E:Env} {x:Live} {m:Mem} {r:Reply} (h:Was w B E x m w'):Ans w B E (fin r x m) .nilFunc true r w':=⟨⟨rfl,rfl,rfl⟩,h.call,h.st,h.fr⟩
theorem Ans.store {w w2:World} {B r:Nat} {E:Env} {o:Out} {v:Value} {d:Bool} {a:Reply} (h:Ans w B E o v d a w2) (hr:Bx w2 r 37 res0) (hnew:w.heap.size≤r) (hB:B≤w.heap.size):
   Ans w B E o v d a (((((((w2.setCell ⟨r,0,none⟩ (.bool d)).setCell ⟨r,1,none⟩ (.int .i64 a.e)).setCell ⟨r,2,none⟩ (.bool a.granted)).setCell ⟨r,3,none⟩ (.int .i64 a.left)).setCell ⟨r,4,none⟩ (.int .i64 a.wait)).setCell ⟨r,5,none⟩ (.int .i64 a.serial)).setCell ⟨r,6,none⟩ (.int .i64 a.now)):=by
 obtain⟨W,rfl,_,h2,h3,h4,h5⟩:=Out.store hr hnew hB h.out h.call h.st h.fr
 exact⟨h2,h3,h4,h5⟩
theorem Ans.ores {w w':World} {B:Nat} {E:Env} {o:Out} {v:Value} {d:Bool} {a:Reply} (h:Ans w B E o v d a w'):ORes w B E o (.returned (.tuple #[v,.agg (resA d a)])) w':=⟨v,d,a,rfl,h.out,h.call,h.st,h.fr⟩
theorem cend_any (r:Reply) (w:World):Calls Tryz.prog 87 #[.agg (replyA r)] w fun e w'=>e= .returned (.tuple #[.nilFunc,.agg (resA true r)])∧Below w.heap.size w w':=end_any r w
theorem con_any (v:Value) (w:World):Calls Tryz.prog 63 #[v] w fun e w'=>e= .returned (.tuple #[v,.agg (resA false (err 0))])∧Below w.heap.size w w':=on_any v w
set_option maxHeartbeats 1000000 in
set_option maxRecDepth 100000 in
theorem leave_any (B:Nat) (E:Env) (x:Live) (m:Mem) (r:Reply) (w:World) (hs:St w B E.A m) (hc:CallAt w E x):
   Calls Tryz.prog 136 #[P E.x,.agg (replyA r)] w (ORes w B E (leave r x m)):=by
 obtain⟨key,hx,_⟩:=id hc
 have x7:w.cell? ⟨E.x,7,none⟩=some (.bool x.reserved):=hx.cell 7
 have lx:=hx.lt
 have W0:=Lib.hid (Was.start hs hc)
 clear hx hc hs
 cases hres:x.reserved with
 |false=>
   rw[hres]at x7
   have hx:leave r x m=fin r x m:=by unfold leave;rw[hres];rfl
   have Hx:=Lib.hid hx
   clear hx hres
   go_enter Tryz.func136,Tryz.ntmps136
   go_wp2_with (go_at_call 87;(with_reducible refine(cend_any r _).mono ?_);rintro e w2 ⟨rfl,hb⟩;have hr2:Bx w2 (w.heap.size+1) 37 res0:=(bx_allocs w [_,_] 1 rfl).below hb (by simp);have hw2:=(W0.out.later (below_allocs [_,_] w)).later hb;obtain⟨r0,r1,r2,r3,r4,r5,r6⟩:=res_cells hr2;obtain⟨f0,f1,f2,f3,f4,f5,f6⟩:=res_free hr2;have Hr2:=Lib.hid hr2;have HW2:=Lib.hid hw2;clear hr2 hw2 hb)
   rw[Hx.out]
   exact bodyPost_ret (v:= .tuple #[.nilFunc,.agg (resA true r)]) (by simp [results,Tryz.results136,go_sem,r0,r1,r2,r3,r4,r5,r6]) rfl ((Ans.fin HW2.out).store Hr2.out (by simp) W0.out.st.below.2.2.2).ores
 |true=>
   rw[hres]at x7
   have hx:leave r x m=more (backK 1 (.done r)) x m:=by unfold leave;rw[hres];rfl
   have Hx:=Lib.hid hx
   have hb0:=below_allocs [.cells (replyA r) 35,.cells res0 37] w
   have HT:Hid (BThenAt ((w.alloc (.cells (replyA r) 35)).alloc (.cells res0 37)) E (.func (.func 158) #[] #[P w.heap.size]) (.done r)):=⟨_,rfl,bx_allocs w [_,_] 0 rfl⟩
   have Kb:=Lib.hid (fun W v h=>back_any E 1 (.done r) v W h)
   clear hx hres hb0
   go_enter Tryz.func136,Tryz.ntmps136
   go_wp2_with (first|(go_at_call 97;(refine (Kb.out _ _ HT.out).mono ?_);rintro e w2 ⟨v,rfl,hk,hb⟩;have hr2:Bx w2 (w.heap.size+1) 37 res0:=(bx_allocs w [_,_] 1 rfl).below hb (by simp);have hw2:=(W0.out.later (below_allocs [_,_] w)).later hb;have Hk:=Lib.hid hk;have Hr2:=Lib.hid hr2;have HW2:=Lib.hid hw2;clear hk hr2 hw2 hb)|(go_at_call 63;(refine (con_any _ _).mono ?_);rintro e w3 ⟨rfl,hb⟩;have hr3:=Hr2.out.keep (fr0 hb) rfl;have hw3:=HW2.out.later hb;have hk3:=Hk.out.keep (fr0 hb);obtain⟨r0,r1,r2,r3,r4,r5,r6⟩:=res_cells hr3;obtain⟨f0,f1,f2,f3,f4,f5,f6⟩:=res_free hr3;have Hr3:=Lib.hid hr3;have HW3:=Lib.hid hw3;have Hk3:=Lib.hid hk3;clear hr3 hw3 hk3 hb))
   rw[Hx.out]
   exact bodyPost_ret (v:= .tuple #[v,.agg (resA false (err 0))]) (by simp [results,Tryz.results136,go_sem,r0,r1,r2,r3,r4,r5,r6]) rfl ((Ans.more HW3.out Hk3.out).store Hr3.out (by simp) W0.out.st.below.2.2.2).ores
end
end Go.Proofs.YtemnhpdjoimjbaaGreatDoor
