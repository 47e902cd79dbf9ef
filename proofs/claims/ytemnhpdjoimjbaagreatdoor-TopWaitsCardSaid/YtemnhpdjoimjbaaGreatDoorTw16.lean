import Derived.Test.YtemnhpdjoimjbaaGreatDoorTw10
import Derived.Test.YtemnhpdjoimjbaaGreatDoorTw15
import Derived.Test.YtemnhpdjoimjbaaGreatDoorTw06
import Derived.Lib.BytesEntry
import Derived.Lib.AppendZeros
import Derived.Deep.AppendSrc
namespace Go.Proofs.YtemnhpdjoimjbaaGreatDoor
section
open Go.RowKit Top
set_option linter.unusedVariables false
theorem bclone_any (kv:Value) (k:List Nat) (w:World) (h:KeyAt w kv k) (hk:k.length≤255):
   Calls Tryz.prog 37 #[kv] w fun e w'=> ∃v',e= .returned v'∧KeyAt w' v' k∧Below w.heap.size w w':=by
 have hb:=h.by
 obtain⟨h0,a,c,rfl,h2,h3,h4⟩:=hb
 cases a with
 |none=>
   have hk0:k=[]:=by
     cases k with
     |nil=>rfl
     |cons x k=>obtain⟨b,off,e,_⟩:=h4 (by simp);cases e
   subst hk0
   refine(Tryz.bytes_Clone_nil 0 c w).mono ?_
   rintro e w' ⟨rfl,rfl⟩
   exact⟨_,rfl,⟨h0,Row.nil _ _ _ none 0 (by decide)⟩,Below.refl _ _⟩
 |some a=>
   refine(Tryz.bytes_Clone_at a k.length c (k.map fun(x:Nat)=>(x:Int)) w (by simp) (by omega) ?_).mono ?_
   · intro i hi
     obtain⟨b,off,e,h5⟩:=h4 (by omega)
     injection e with e
     subst e
     rw[Addr.add_lit,h5 i hi]
     congr 2
     simp [List.getD_eq_getElem?_getD,List.getElem?_eq_getElem hi]
   · rintro e w' ⟨v',rfl,h5,_,h6⟩
     refine⟨v',rfl,⟨h0,?_⟩,h6⟩
     have:=Row.own h5
     rw[List.map_map]at this
     exact this
theorem row_set (xs:List CV) (i:Nat) (y:CV) (cur:Array Value) (cap:Nat) (hi:i<xs.length) (hcap:xs.length≤cap) (hs:cur.size=cap*4) (ht:cur.toList.take (xs.length*4)=encs xs) (a0 a1 a2 a3:Value) (hy:y.enc=[a0,a1,a2,a3]):
   ∀j u,(encs (xs.set i y))[j]? =some u→((((cur.setIfInBounds (i*4) a0).setIfInBounds (i*4+1) a1).setIfInBounds (i*4+2) a2).setIfInBounds (i*4+3) a3)[0+j]? =some u:=by
 intro j u hj
 have hlt:=(List.getElem?_eq_some_iff.1 hj).1
 rw[encs_length,List.length_set]at hlt
 have hk:j/4<xs.length:=by omega
 have hr:j%4<4:=by omega
 have e:4*(j/4)+j%4=j:=by omega
 have h1:=encs_get (xs.set i y) (j/4) (j%4) (by simpa using hk) hr
 have h2:=encs_get xs (j/4) (j%4) hk hr
 rw[e]at h1 h2
 rw[hj,List.getElem_set]at h1
 rw[Nat.zero_add]
 simp only[Array.getElem?_setIfInBounds,Array.size_setIfInBounds]
 by_cases hik:i=j/4
 · rw[if_pos hik,hy]at h1
   have hsz:i*4+3<cur.size:=by omega
   have h4:j%4=0∨j%4=1∨j%4=2∨j%4=3:=by omega
   rcases h4 with h4|h4|h4|h4<;>rw[h4]at h1<;>simp at h1<;>subst h1
   · rw[if_neg (by omega),if_neg (by omega),if_neg (by omega),if_pos (by omega),if_pos (by omega)]
   · rw[if_neg (by omega),if_neg (by omega),if_pos (by omega),if_pos (by omega)]
   · rw[if_neg (by omega),if_pos (by omega),if_pos (by omega)]
   · rw[if_pos (by omega),if_pos (by omega)]
 · rw[if_neg hik]at h1
   rw[if_neg (by omega),if_neg (by omega),if_neg (by omega),if_neg (by omega)]
   rw[← h1,←Array.getElem?_toList]at*
   rw[← ht,List.getElem?_take,if_pos (by omega)]at h2
   exact h2.trans h1.symm
theorem lt_alloc (w:World) (o:Obj):w.heap.size<(w.alloc o).heap.size:=(Array.getElem?_eq_some_iff.1 (heap_alloc_new w o)).1
theorem row_cells4 {w:World} {g cap i:Nat} {cur:Array Value} (h:w.heap[g]? =some (.cells cur 100 (0,0))) (hs:cur.size=cap*4) (hi:i<cap):
   ∃u0 u1 u2 u3,w.cell? ⟨g,i*4,none⟩=some u0∧w.cell? ⟨g,i*4+1,none⟩=some u1∧w.cell? ⟨g,i*4+2,none⟩=some u2∧w.cell? ⟨g,i*4+3,none⟩=some u3:=by
 have hb:Bx w g 100 cur:=h
 exact⟨_,_,_,_,(hb.cell _).trans (Array.getElem?_eq_getElem (show i*4<cur.size by omega)),(hb.cell _).trans (Array.getElem?_eq_getElem (show i*4+1<cur.size by omega)),(hb.cell _).trans (Array.getElem?_eq_getElem (show i*4+2<cur.size by omega)),(hb.cell _).trans (Array.getElem?_eq_getElem (show i*4+3<cur.size by omega))⟩
set_option maxHeartbeats 4000000 in
set_option maxRecDepth 100000 in
theorem with_there (L:List Cell) (at_:Nat) (c:Cell) (xs:List CV) (v kv hv:Value) (w:World) (hx:Row w 100 4 xs.length v (encs xs)) (hxo: ∀x∈xs,x.ok w) (hfew:xs.length<1048576) (hk:KeyAt w kv c.key) (hh:HeldAt w hv c.held) (hat:at_<xs.length):
   Calls Tryz.prog 143 #[v,.int .i64 at_,.bool true,.agg (cellA c kv hv)] w fun e w'=> ∃a n c',e= .returned (.slice a n c')∧Row w' 100 4 xs.length (.slice a n c') (encs (xs.set at_ ⟨c,kv,hv⟩))∧Below w.heap.size w w':=by
 obtain⟨ka,kc,rfl⟩: ∃a c',kv= .slice a c.key.length c':=by obtain⟨_,_,a,c',e,_⟩:=hk;exact⟨a,c',e⟩
 obtain⟨ha,hc,rfl⟩: ∃a c',hv= .slice a c.held.length c':=by obtain⟨_,a,c',e,_⟩:=hh;exact⟨a,c',e⟩
 obtain⟨va,vc,rfl⟩: ∃a c,v= .slice a xs.length c:=by obtain⟨_,a,c,e,_⟩:=hx;exact⟨a,c,e⟩
 have Hx:=Lib.hid hx;have Hxo:=Lib.hid hxo
 have Kc:Hid (∀W:World,Below w.heap.size w W→Calls Tryz.prog 93 #[.slice va xs.length vc] W fun e w'=> ∃v',e= .returned v'∧w'.ownsRow W.heap.size 100 4 v' xs.length (encs xs)∧Below W.heap.size W w'):=fun W hb=>clone_cells _ xs W (Hx.out.keep (fr0 hb) (by simp [okT])) (fun x hx=>(Hxo.out x hx).keep (fr0 hb)) (by omega)
 clear hx hxo hk hh
 go_enter Tryz.func143,Tryz.ntmps143
 go_wp2_with (go_at_call 93;go_loud ((refine (Kc.out _ (below_allocs [_] w)).mono ?_);rintro e w1 ⟨v',rfl,hown,hb1⟩;obtain⟨g,cap,cur,rfl,hg1,hg2,hg3,hg4,hg5,hg6⟩:=hown.2.resolve_left (by rintro⟨_,e⟩;omega);have hbx:=(Bx.new w 100 (cellA c (.slice ka c.key.length kc) (.slice ha c.held.length hc))).below hb1 (lt_alloc w _);have c0:=hbx.cell 0;have c1:=hbx.cell 1;have c2:=hbx.cell 2;have c3:=hbx.cell 3;obtain⟨u0,u1,u2,u3,d0,d1,d2,d3⟩:=row_cells4 hg2 hg5 (show at_<cap by omega);have hgb:Bx w1 g 100 cur:=hg2;have f0:=hgb.free (at_*4);have f1:=hgb.free (at_*4+1);have f2:=hgb.free (at_*4+2);have f3:=hgb.free (at_*4+3);have Hg:=Lib.hid (And.intro hg1 (And.intro hg2 (And.intro hg3 (And.intro hg4 (And.intro hg5 (And.intro hg6 hb1))))));clear hg1 hg2 hg3 hg4 hg5 hg6 hb1 hown hbx hgb))
 have hgb:Bx w1 g 100 cur:=Hg.out.2.1
 refine bodyPost_ret (v:= .slice (some ⟨g,0,none⟩) xs.length cap) (by simp [results,Tryz.results143,go_sem]) rfl ⟨_,_,_,rfl,⟨by rw[encs_length,List.length_set],_,_,rfl,Hg.out.2.2.1,Hg.out.2.2.2.1,fun _=>⟨g,0,_,rfl,(((hgb.setCell _ _).setCell _ _).setCell _ _).setCell _ _,row_set xs at_ _ cur cap hat Hg.out.2.2.1 Hg.out.2.2.2.2.1 Hg.out.2.2.2.2.2.1 _ _ _ _ rfl⟩⟩,?_⟩
 have hg1:=Hg.out.1
 have hsz:=lt_alloc w (.cells (cellA c (.slice ka c.key.length kc) (.slice ha c.held.length hc)) 100)
 have hgg:w.heap.size≤g:=Nat.le_trans (below_allocs [_] w).size hg1
 exact(((((below_allocs [_] w).trans (Hg.out.2.2.2.2.2.2.mono (Nat.le_of_lt hsz))).setCell hgg _).setCell hgg _).setCell hgg _).setCell hgg _
theorem own_slice {w:World} {base:Nat} {t:TypeId} {size n:Nat} {v:Value} {xs:List Value} (h:w.ownsRow base t size v n xs): ∃a c,v= .slice a n c:=by
 rcases h.2 with ⟨rfl,rfl⟩|⟨g,cap,cur,rfl,_⟩
 · exact⟨_,_,rfl⟩
 · exact⟨_,_,rfl⟩
theorem calls_name {P:Program} {f:FuncId} {args:Array Value} {Q:Ending→World→Prop} {w:World} (S:World→Prop) (hs:S w) (h: ∀u,S u→Calls P f args u Q):Calls P f args w Q:=h w hs
theorem ownsRow_below {w w':World} {base:Nat} {t:TypeId} {size n:Nat} {v:Value} {xs:List Value} (h:w.ownsRow base t size v n xs) (hb:Below w.heap.size w w'):w'.ownsRow base t size v n xs:=by
 refine⟨h.1,?_⟩
 rcases h.2 with h|⟨g,cap,cur,h1,h2,h3,h4⟩
 · exact .inl h
 · exact .inr ⟨g,cap,cur,h1,h2,(hb.block g (lt_of_block h3)).trans h3,h4⟩
theorem encs_insert (xs:List CV) (i:Nat) (y:CV):(encs xs).take (i*4)++(y.enc++(encs xs).drop (i*4))=encs (xs.take i++[y]++xs.drop i):=by
 have h: ∀(i:Nat) (xs:List CV),(encs xs).take (i*4)=encs (xs.take i)∧(encs xs).drop (i*4)=encs (xs.drop i):=by
   intro i
   induction i with
   |zero=>intro xs;simp [encs]
   |succ i ih=>
     intro xs
     cases xs with
     |nil=>simp [encs]
     |cons x xs=>
       have hx:x.enc.length=4:=rfl
       rw[encs_cons,List.take_append,List.drop_append,hx,List.take_of_length_le (by rw[hx];omega),List.drop_eq_nil_of_le (by rw[hx];omega),show(i+1)*4-4=i*4 by omega,(ih xs).1,(ih xs).2,List.take_succ_cons,List.drop_succ_cons,encs_cons]
       exact⟨rfl,rfl⟩
 rw[(h i xs).1,(h i xs).2,encs_append,encs_append]
 simp [encs]
theorem Row.same {w w':World} {t:TypeId} {size n:Nat} {v:Value} {xs:List Value} (h:Row w t size n v xs) (hs: ∀b arr,Bx w b t arr→Bx w' b t arr):Row w' t size n v xs:=by
 obtain⟨h1,a,c,h2,h3,h4,h5⟩:=h
 refine⟨h1,a,c,h2,h3,h4,fun hn=> ?_⟩
 obtain⟨b,off,arr,h6,h7,h8⟩:=h5 hn
 exact⟨b,off,arr,h6,hs b arr h7,h8⟩
theorem insert_at_with (at_:Nat) (c:Cell) (xs:List CV) (ka2:Option Addr) (kc2:Nat) (ha:Option Addr) (hc:Nat) (ga:Option Addr) (gc:Nat) (w W0 w1 w2:World) (h0:Below w.heap.size w W0) (h0':w.heap.size<W0.heap.size) (hown:w1.ownsRow W0.heap.size 100 4 (.slice ga xs.length gc) xs.length (encs xs)) (hb1:Below W0.heap.size W0 w1) (hb2:Below w1.heap.size w1 w2) (hk:KeyAt w2 (.slice ka2 c.key.length kc2) c.key) {ba:Array Value} (hbx:Bx w2 w.heap.size 100 ba) (h1: ∀u∈encs xs,u.oneCell'=true) (hat:at_≤xs.length) (hfew:xs.length<1048576):
   Calls Tryz.prog 164 #[.slice ga xs.length gc,.int .i64 at_,.slice (some ⟨w2.heap.size,0,none⟩) 1 1] ((w2.setCell ⟨w.heap.size,1,none⟩ (.slice ka2 c.key.length kc2)).alloc (.cells #[.int .i64 c.pol,.slice ka2 c.key.length kc2,.int .i64 c.tat,.slice ha c.held.length hc] 100)) fun e w'=> ∃a c',e= .returned (.slice a (xs.length+1) c')∧Row w' 100 4 (xs.length+1) (.slice a (xs.length+1) c') (encs (xs.take at_++[⟨c,.slice ka2 c.key.length kc2,.slice ha c.held.length hc⟩]++xs.drop at_))∧KeyAt w' (.slice ka2 c.key.length kc2) c.key∧Below w.heap.size w w':=by
 have ho:=hown.lt
 have o2:=ownsRow_below hown hb2
 have s1:=hb1.size
 have s2:=hb2.size
 have hsz:(w2.setCell ⟨w.heap.size,1,none⟩ (.slice ka2 c.key.length kc2)).heap.size=w2.heap.size:=by simp [World.setCell]
 have o3:=World.ownsRow.alloc (ownsRow_setCell_other (a:=⟨w.heap.size,1,none⟩) o2 (fun e=>by have:W0.heap.size≤w.heap.size:=(ho _ e).1;omega) (.slice ka2 c.key.length kc2)) (.cells #[.int .i64 c.pol,.slice ka2 c.key.length kc2,.int .i64 c.tat,.slice ha c.held.length hc] 100)
 have hw:Below w.heap.size w ((w2.setCell ⟨w.heap.size,1,none⟩ (.slice ka2 c.key.length kc2)).alloc (.cells #[.int .i64 c.pol,.slice ka2 c.key.length kc2,.int .i64 c.tat,.slice ha c.held.length hc] 100)):=((((h0.trans (hb1.mono (by omega))).trans (hb2.mono (by omega))).setCell (Nat.le_refl _) _).alloc (by rw[hsz];omega) _)
 have hnew:=heap_alloc_new (w2.setCell ⟨w.heap.size,1,none⟩ (.slice ka2 c.key.length kc2)) (.cells #[.int .i64 c.pol,.slice ka2 c.key.length kc2,.int .i64 c.tat,.slice ha c.held.length hc] 100)
 rw[hsz]at hnew
 refine(insert_cell_any W0.heap.size (.slice ga xs.length gc) xs.length at_ (encs xs) w2.heap.size [.int .i64 c.pol,.slice ka2 c.key.length kc2,.int .i64 c.tat,.slice ha c.held.length hc] _ o3 hnew (fun g hg=>by have:=(ho g hg).2;omega) rfl ?_ h1 hat (by omega) ?_).mono ?_
 · intro u hu;simp at hu;rcases hu with rfl|rfl|rfl|rfl<;>rfl
 · have:=lt_alloc (w2.setCell ⟨w.heap.size,1,none⟩ (.slice ka2 c.key.length kc2)) (.cells #[.int .i64 c.pol,.slice ka2 c.key.length kc2,.int .i64 c.tat,.slice ha c.held.length hc] 100)
   omega
 · rintro e w' ⟨a,c',rfl,hr,hb,hkeep⟩
   refine⟨a,c',rfl,?_,⟨hk.1,hk.2.same fun b arr h=> ?_⟩,hw.trans (hb.mono (by omega))⟩
   · have:=Row.own hr
     rwa [← encs_insert]
   · have h3:=(h.setCell_ne ⟨w.heap.size,1,none⟩ (.slice ka2 c.key.length kc2) (h.ne hbx (by decide))).alloc (.cells #[.int .i64 c.pol,.slice ka2 c.key.length kc2,.int .i64 c.tat,.slice ha c.held.length hc] 100)
     exact(hkeep b h3.lt (own_ne o3 h3 (by decide))).trans h3
set_option maxHeartbeats 4000000 in
set_option maxRecDepth 100000 in
theorem with_new (at_:Nat) (c:Cell) (xs:List CV) (v kv hv:Value) (w:World) (hx:Row w 100 4 xs.length v (encs xs)) (hxo: ∀x∈xs,x.ok w) (hfew:xs.length<1048576) (hk:KeyAt w kv c.key) (hh:HeldAt w hv c.held) (hat:at_≤xs.length) (hkl:c.key.length≤255):
   Calls Tryz.prog 143 #[v,.int .i64 at_,.bool false,.agg (cellA c kv hv)] w fun e w'=> ∃a c' kv',e= .returned (.slice a (xs.length+1) c')∧Row w' 100 4 (xs.length+1) (.slice a (xs.length+1) c') (encs (xs.take at_++[⟨c,kv',hv⟩]++xs.drop at_))∧KeyAt w' kv' c.key∧Below w.heap.size w w':=by
 obtain⟨ka,kc,rfl⟩: ∃a c',kv= .slice a c.key.length c':=by obtain⟨_,_,a,c',e,_⟩:=hk;exact⟨a,c',e⟩
 obtain⟨ha,hc,rfl⟩: ∃a c',hv= .slice a c.held.length c':=by obtain⟨_,a,c',e,_⟩:=hh;exact⟨a,c',e⟩
 obtain⟨va,vc,rfl⟩: ∃a c,v= .slice a xs.length c:=by obtain⟨_,a,c,e,_⟩:=hx;exact⟨a,c,e⟩
 have Hx:=Lib.hid hx;have Hxo:=Lib.hid hxo;have Hk:=Lib.hid hk
 have H1:=Lib.hid (encs_one hxo)
 have Kc:Hid (∀W:World,Below w.heap.size w W→Calls Tryz.prog 93 #[.slice va xs.length vc] W fun e w'=> ∃v',e= .returned v'∧w'.ownsRow W.heap.size 100 4 v' xs.length (encs xs)∧Below W.heap.size W w'):=fun W hb=>clone_cells _ xs W (Hx.out.keep (fr0 hb) (by simp [okT])) (fun x hx=>(Hxo.out x hx).keep (fr0 hb)) (by omega)
 have Kb:Hid (∀W:World,Below w.heap.size w W→Calls Tryz.prog 37 #[.slice ka c.key.length kc] W fun e w'=> ∃v',e= .returned v'∧KeyAt w' v' c.key∧Below W.heap.size W w'):=fun W hb=>bclone_any _ _ W (Hk.out.keep (fr0 hb)) hkl
 clear hx hxo hk hh
 go_enter Tryz.func143,Tryz.ntmps143
 go_wp2_with fail
 refine calls_name (fun u=>Below w.heap.size w u∧w.heap.size<u.heap.size∧Bx u w.heap.size 100 (cellA c (.slice ka c.key.length kc) (.slice ha c.held.length hc))) ⟨below_allocs [_] w,lt_alloc w _,Bx.new w _ _⟩ ?_
 intro W0 h0
 have H0:=Lib.hid h0
 clear h0
 go_wp2_with (first
   |(go_at_call 93;(refine (Kc.out _ H0.out.1).mono ?_);rintro e w1 ⟨v',rfl,hown,hb1⟩;obtain⟨ga,gc,rfl⟩:=own_slice hown;have hbx:=H0.out.2.2.below hb1 H0.out.2.1;have c1:=hbx.cell 1;have f1:=hbx.free 1;have Hbx:=Lib.hid hbx;have Hown:=Lib.hid hown;have Hb1:=Lib.hid hb1;clear hown hb1 hbx)
   |(go_at_call 37;(refine (Kb.out _ (H0.out.1.trans (Hb1.out.mono (Nat.le_of_lt H0.out.2.1)))).mono ?_);rintro e w2 ⟨kv',rfl,hkv,hb2⟩;obtain⟨_,_,ka2,kc2,rfl,_⟩:=id hkv;have hlt:=Hbx.out.lt;have hbx2:=Hbx.out.below hb2 hlt;have g0:=hbx2.cell 0;have g1:=hbx2.cell 1;have g2:=hbx2.cell 2;have g3:=hbx2.cell 3;have f1:=hbx2.free 1;have Hbx2:=Lib.hid hbx2;have Hkv:=Lib.hid hkv;have Hb2:=Lib.hid hb2;clear hkv hb2 hbx2 hlt)
   |(go_at_call 164;(with_reducible refine(insert_at_with at_ c xs ka2 kc2 ha hc ga gc w W0 w1 w2 H0.out.1 H0.out.2.1 Hown.out Hb1.out Hb2.out Hkv.out Hbx2.out H1.out hat hfew).mono ?_);rintro e w3 ⟨ra,rc,rfl,hr,hk,hb3⟩;have Hr:=Lib.hid hr;have Hk3:=Lib.hid hk;have Hb3:=Lib.hid hb3;clear hr hk hb3))
 exact bodyPost_ret (v:= .slice ra (xs.length+1) rc) (by simp [results,Tryz.results143,go_sem]) rfl ⟨_,_,_,rfl,Hr.out,Hk3.out,Hb3.out⟩
theorem with_any (L:List Cell) (at_:Nat) (there:Bool) (c:Cell) (fa:Option Addr) (fn fc:Nat) (kv hv:Value) (w:World) (hL:CellsAt w (.slice fa fn fc) L) (hk:KeyAt w kv c.key) (hh:HeldAt w hv c.held) (hok:CellOk c) (hat:at_=findAt L c.pol c.key) (hth:there=findThere L c.pol c.key) (hfew:L.length<1048576):
   Calls Tryz.prog 143 #[.slice fa fn fc,.int .i64 at_,.bool there,.agg (cellA c kv hv)] w fun e w'=> ∃a n c',e= .returned (.slice a n c')∧CellsAt w' (.slice a n c') (withCell L at_ there c)∧Below w.heap.size w w':=by
 have hwf:=hL.wf
 have hres:=withCell_ok hwf hok hfew
 rw[← hat,←hth]at hres
 obtain⟨xs,hxs,hr,hxo,_⟩:=hL
 have hlen:xs.length=L.length:=by rw[← hxs,List.length_map]
 have hle:=findAt_le L c.pol c.key
 rw[← hat]at hle
 cases there with
 |true=>
   obtain⟨c0,hg,_⟩:=there_get hth.symm
   have hlt:at_<xs.length:=by rw[hat,hlen];exact(List.getElem?_eq_some_iff.1 hg).1
   refine(with_there L at_ c xs _ kv hv w hr hxo (by omega) hk hh hlt).mono ?_
   rintro e w' ⟨a,n,c',rfl,h1,h2⟩
   refine⟨a,n,c',rfl,⟨xs.set at_ ⟨c,kv,hv⟩,?_,by rw[List.length_set];exact h1,fun x hx=> ?_,hres⟩,h2⟩
   · rw[List.map_set,hxs];rfl
   · rcases List.mem_or_eq_of_mem_set hx with hx|rfl
     · exact(hxo x hx).keep (fr0 h2)
     · exact⟨hk.keep (fr0 h2),hh.keep (fr0 h2)⟩
 |false=>
   refine(with_new at_ c xs _ kv hv w hr hxo (by omega) hk hh (by omega) hok.len).mono ?_
   rintro e w' ⟨a,c',kv',rfl,h1,h1k,h2⟩
   refine⟨a,xs.length+1,c',rfl,⟨xs.take at_++[⟨c,kv',hv⟩]++xs.drop at_,?_,?_,fun x hx=> ?_,hres⟩,h2⟩
   · rw[List.map_append,List.map_append,List.map_take,List.map_drop,hxs]
     rfl
   · have e:(xs.take at_++[(⟨c,kv',hv⟩:CV)]++xs.drop at_).length=xs.length+1:=by simp;omega
     rw[e]
     exact h1
   · simp only[List.append_assoc,List.mem_append,List.mem_singleton]at hx
     rcases hx with hx|rfl|hx
     · exact(hxo x (List.mem_of_mem_take hx)).keep (fr0 h2)
     · exact⟨h1k,hh.keep (fr0 h2)⟩
     · exact(hxo x (List.mem_of_mem_drop hx)).keep (fr0 h2)
end
section
open Go.RowKit Top
set_option linter.unusedVariables false
theorem cmp_bytes : ∀(a b:List Nat),(∀x∈a,x<256)→(∀x∈b,x<256)→Lib.compareBytes (Lib.bytesOf (a.map fun(x:Nat)=>(x:Int))) (Lib.bytesOf (b.map fun(x:Nat)=>(x:Int)))=cmpB a b
 |[],[],_,_=>rfl
 |[],_::_,_,_=>rfl
 |_::_,[],_,_=>rfl
 |a::ra,b::rb,ha,hb=>by
   have ih:=cmp_bytes ra rb (fun x hx=>ha x (List.mem_cons_of_mem _ hx)) (fun x hx=>hb x (List.mem_cons_of_mem _ hx))
   have h1:=ha a (List.mem_cons_self ..)
   have h2:=hb b (List.mem_cons_self ..)
   have e1:((a:Int).toNat.toUInt8).toNat=a:=by simp;omega
   have e2:((b:Int).toNat.toUInt8).toNat=b:=by simp;omega
   have k1:((a:Int).toNat.toUInt8<(b:Int).toNat.toUInt8)↔a<b:=by rw[UInt8.lt_iff_toNat_lt,e1,e2]
   have k2:((b:Int).toNat.toUInt8<(a:Int).toNat.toUInt8)↔b<a:=by rw[UInt8.lt_iff_toNat_lt,e1,e2]
   show(if (a:Int).toNat.toUInt8<(b:Int).toNat.toUInt8 then -1 else if(b:Int).toNat.toUInt8<(a:Int).toNat.toUInt8 then 1 else Lib.compareBytes (Lib.bytesOf (ra.map fun(x:Nat)=>(x:Int))) (Lib.bytesOf (rb.map fun(x:Nat)=>(x:Int))))=cmpB (a::ra) (b::rb)
   unfold cmpB
   rw[ih]
   simp only[k1,k2]
theorem bytes_run {P:Program} {w:World} {v:Value} {L:List Nat} (h:ByAt w v L):(Extern.Bytes.bytesOf v).run P w= .ok ⟨(Lib.bytesOf (L.map fun(x:Nat)=>(x:Int))).toArray⟩ w:=by
 obtain⟨h0,a,c,rfl,h2,h3,h4⟩:=h
 cases a with
 |none=>
   have hk0:L=[]:=by
     cases L with
     |nil=>rfl
     |cons x k=>obtain⟨b,off,e,_⟩:=h4 (by simp);cases e
   subst hk0
   rfl
 |some a=>
   have hl:=Lib.run_loadBytesX (P:=P) w (L.map fun(x:Nat)=>(x:Int)) a .empty (fun j x hj=>by
     have hjl:j<L.length:=by simpa using(List.getElem?_eq_some_iff.1 hj).1
     obtain⟨b,off,e,h5⟩:=h4 (by omega)
     injection e with e
     subst e
     rw[Addr.add_lit,h5 j hjl]
     rw[List.getElem?_map,List.getElem?_eq_getElem hjl]at hj
     simp only[Option.map_some,Option.some.injEq]at hj
     rw[← hj,List.getD_eq_getElem?_getD,List.getElem?_eq_getElem hjl]
     rfl)
   rw[List.length_map]at hl
   have he:(⟨ByteArray.empty.data++(Lib.bytesOf (L.map fun(x:Nat)=>(x:Int))).toArray⟩:ByteArray)=⟨(Lib.bytesOf (L.map fun(x:Nat)=>(x:Int))).toArray⟩:=by
     apply ByteArray.ext
     show(#[]:Array UInt8)++(Lib.bytesOf (L.map fun(x:Nat)=>(x:Int))).toArray=_
     simp
   rw[he]at hl
   exact hl
theorem run_compare {P:Program} {w:World} {v u:Value} {L M:List Nat} (h:ByAt w v L) (k:ByAt w u M):(Extern.BytealgCompare.compare #[v,u]).run P w= .ok (.int .i64 (cmpB L M)) w:=by
 change Sem.run P (do pure (goInt (Extern.BytealgCompare.cmp (← Extern.Bytes.bytesOf v) (← Extern.Bytes.bytesOf u)))) w=_
 simp only[Sem.run_bind,Sem.run_pure,bytes_run h,bytes_run k,Result.andThen]
 rw[Lib.cmp_eq]
 show Result.ok (goInt (Lib.compareBytes (Lib.bytesOf (L.map fun(x:Nat)=>(x:Int))) (Lib.bytesOf (M.map fun(x:Nat)=>(x:Int))))) w=_
 rw[cmp_bytes L M h.1 k.1]
 rfl
theorem compare_any (v u:Value) (L M:List Nat) (w:World) (h:ByAt w v L) (k:ByAt w u M):
   Calls Tryz.prog 167 #[v,u] w fun e w'=>e= .returned (.int .i64 (cmpB L M))∧w=w':=by
 have hc:(callFunc 175 #[v,u]).run Tryz.prog w= .ok (.value (.int .i64 (cmpB L M))) w:=by
   rw[run_callFunc_extern Tryz.func175 (by kernel_rfl) (by kernel_rfl) (by kernel_rfl) (e:=Extern.BytealgCompare.compare) (by kernel_rfl),run_compare h k]
   rfl
 clear h k
 go_enter Tryz.func167,Tryz.ntmps167
 go_wp2_with (simp only[hc])
 go_ret
 exact⟨rfl,rfl⟩
theorem horder_any (v u:Value) (L M:List Nat) (w:World) (h:ByAt w v L) (k:ByAt w u M):
   Calls Tryz.prog 156 #[v,u] w fun e w'=>e= .returned (.int .i64 (cmpB L M))∧w=w':=by
 have Kc:Hid (Calls Tryz.prog 167 #[v,u] w fun e w'=>e= .returned (.int .i64 (cmpB L M))∧w=w'):=compare_any v u L M w h k
 clear h k
 go_enter Tryz.func156,Tryz.ntmps156
 go_wp2_with (go_at_call 167;(with_reducible refine Kc.out.mono ?_);rintro e w1 ⟨rfl,rfl⟩)
 go_ret
 exact⟨rfl,rfl⟩
theorem info_u8 :(Tryz.prog.info? 5).map (fun i=>(i.zero,i.size,i.bytes))=some (some (.int .u8 0),1,1):=by kernel_rfl
set_option maxHeartbeats 2000000 in
set_option maxRecDepth 100000 in
theorem ident_any (pol:Int) (kv:Value) (k:List Nat) (w:World) (h:KeyAt w kv k) (hk:k.length≤255) (h0:0≤pol) (h1:pol<32):
   Calls Tryz.prog 34 #[.int .i64 pol,kv] w fun e w'=> ∃a c,e= .returned (.tuple #[.slice a (k.length+1) c,.int .i64 0])∧ByAt w' (.slice a (k.length+1) c) (ident pol k)∧Below w.heap.size w w':=by
 obtain⟨i0,hi,hz0,hz1,hz2⟩:=info_parts info_u8
 have hb:=h.by
 obtain⟨hkb,a,c,rfl,h2,h3,h4⟩:=hb
 have hw:IntKind.u8.wrap pol=pol:=by rw[IntKind.wrap_u8];omega
 have hp:pol=((pol.toNat%256:Nat):Int):=by omega
 have hz: ¬pol<0:=by omega
 have hz2': ¬(32:Int)≤pol:=by omega
 have hz3: ¬(255:Int)<(k.length:Int):=by omega
 have Hc:Hid (∀ad,a=some ad→ ∀j u,(k.map fun(x:Nat)=>Value.int .u8 x)[j]? =some u→w.cell? (ad.add j)=some u):=by
   intro ad e j u hj
   have hjl:j<k.length:=by simpa using(List.getElem?_eq_some_iff.1 hj).1
   obtain⟨b,off,e2,h5⟩:=h4 (by omega)
   rw[e]at e2
   injection e2 with e2
   subst e2
   rw[Addr.add_lit,h5 j hjl]
   rw[List.getElem?_map,List.getElem?_eq_getElem hjl]at hj
   simp only[Option.map_some,Option.some.injEq]at hj
   rw[← hj,List.getD_eq_getElem?_getD,List.getElem?_eq_getElem hjl]
   rfl
 have Hn:Hid (a=none→k=[]):=by
   rintro rfl
   cases k with
   |nil=>rfl
   |cons x k=>obtain⟨b,off,e,_⟩:=h4 (by simp);cases e
 have Hkb:=Lib.hid hkb;have Hp:=Lib.hid hp
 have fin: ∀v' w1,w1.ownsRow w.heap.size 5 1 v' (1+k.length) ([.int .u8 pol]++k.map fun(x:Nat)=>Value.int .u8 x)→ ∃a c,v'= .slice a (k.length+1) c∧ByAt w1 (.slice a (k.length+1) c) (ident pol k):=by
   intro v' w1 hown
   obtain⟨a,c,rfl⟩:=own_slice hown
   rw[Nat.add_comm]at hown ⊢
   have hr:=Row.own hown
   refine⟨a,c,rfl,KeyAt.by ⟨?_,?_⟩⟩
   · intro x hx
     unfold ident at hx
     rcases List.mem_cons.1 hx with rfl|hx
     · omega
     · exact Hkb.out x hx
   · have e:(ident pol k).map (fun (x:Nat)=>Value.int .u8 x)=[.int .u8 pol]++k.map fun(x:Nat)=>Value.int .u8 x:=by
       unfold ident
       rw[List.map_cons,←Hp.out]
       rfl
     rw[e]
     exact hr
 have hsz:=lt_alloc w (.cells #[.int .u8 pol] 5)
 have hown0:(w.alloc (.cells #[.int .u8 pol] 5)).ownsRow w.heap.size 5 1 (.slice (some ⟨w.heap.size,0,none⟩) 1 1) 1 [.int .u8 pol]:=⟨rfl,.inr ⟨w.heap.size,1,#[.int .u8 pol],rfl,Nat.le_refl _,heap_alloc_new w _,Nat.le_refl _,by decide,rfl,rfl⟩⟩
 have Hown0:=Lib.hid hown0
 clear h2 h3 h4 hkb hown0 hp h
 go_enter Tryz.func34,Tryz.ntmps34
 cases a with
 |none=>
   have hkn:=Hn.out rfl
   subst hkn
   have hrun: ∀ty,(Builtin.append_ #[29,29] ty #[.slice (some ⟨w.heap.size,0,none⟩) 1 1,.slice none 0 c]).run Tryz.prog (w.alloc (.cells #[.int .u8 pol] 5))= .ok (.slice (some ⟨w.heap.size,0,none⟩) 1 1) (w.alloc (.cells #[.int .u8 pol] 5)):=fun ty=>
     run_append_room_src (w.alloc (.cells #[.int .u8 pol] 5)) 29 29 ty 5 i0 Tryz.underlying29 hi w.heap.size 0 1 1 (.slice none 0 c) 0 [] (Src.ofNil _ Tryz.underlying29 c) (by decide) (by intro j hj;simp at hj) (by intro j hj;simp at hj)
   obtain⟨a',c',e,hby⟩:=fin _ _ Hown0.out
   have Hby:=Lib.hid hby;have He:=Lib.hid e
   clear hby e fin
   go_wp2_with (at_builtin;refine Lib.wpList_append_run _ rfl _ _ _ _ rfl _ _ rfl rfl _ _ (hrun _) ?_)
   exact bodyPost_ret (v:= .tuple #[.slice (some ⟨w.heap.size,0,none⟩) 1 1,.int .i64 0]) (by simp [results,Tryz.results34,go_sem]) rfl ⟨a',c',by rw[He.out];rfl,Hby.out,below_allocs [_] w⟩
 |some ad=>
   go_wp2_with (at_builtin;refine wpList_append_own _ rfl _ _ 29 rfl w.heap.size 5 i0 (.int .u8 0) 1 1 Tryz.underlying29 hi hz0 hz1 hz2 rfl (by decide) _ 1 [.int .u8 pol] rfl Hown0.out ad k.length c (k.map fun(x:Nat)=>Value.int .u8 x) rfl (by simp) (fun j u hj=>Lib.cell?_alloc_some _ (Hc.out ad rfl j u hj)) (by intro u hu;obtain⟨x,_,rfl⟩:=List.mem_map.1 hu;rfl) (by unfold maxLen;omega) (by omega) (by omega) ?_;intro v' w1 hown hgrow hnil;obtain⟨a',c',rfl,hby⟩:=fin v' w1 hown)
   exact bodyPost_ret (v:= .tuple #[.slice a' (k.length+1) c',.int .i64 0]) (by simp [results,Tryz.results34,go_sem]) rfl ⟨_,_,rfl,hby,((Below.refl _ w).alloc (Nat.le_refl _) _).grown hgrow (by omega) (by intro q hq;have h:some w.heap.size=some q:=hq;injection h with h;omega)⟩
end
end Go.Proofs.YtemnhpdjoimjbaaGreatDoor
