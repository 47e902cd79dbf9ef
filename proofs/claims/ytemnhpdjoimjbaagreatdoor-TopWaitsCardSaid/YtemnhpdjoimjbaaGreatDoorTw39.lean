import Derived.Test.YtemnhpdjoimjbaaGreatDoorTw38
import Derived.Test.YtemnhpdjoimjbaaGreatDoorTw36
import Derived.Laws.EntriesVeiled
namespace Go.Proofs.YtemnhpdjoimjbaaGreatDoor
section
open Go.RowKit Top
set_option linter.unusedVariables false
structure CallGood (L:List Pol) (c:Top.Call):Prop where
 ok:CallOk L c
 kb: ∀b∈c.key,b<256
 n64: -9223372036854775808≤c.n∧c.n≤9223372036854775807
theorem CallGood.in_ {L:List Pol} {c:Top.Call} (h:CallGood L c):CallIn L c:=by
 obtain⟨p,h4,h5⟩:=h.ok.pol
 refine⟨h.ok.op0,h.ok.op1,fun _=>⟨p,h4,h5⟩,fun _=>h.ok.klen,h.kb,h.ok.n,h.n64,fun e=> ?_,fun e=> ?_⟩
 · have:=h.ok.kind (by omega)
   rw[e]at this
   exact this (by decide)
 · rcases e with e|e
   · have:=h.ok.kind (by omega)
     rw[e]at this
     exact this (by decide)
   · have:=h.ok.kind (by omega)
     rw[e]at this
     exact this (by decide)
theorem Row.sto {w:World} {t t':TypeId} {size n:Nat} {v:Value} {xs:List Value} (h:Row w t size n v xs) {r i:Nat} {c:Array Value} (hr:Bx w r t' c) (ht:t≠t') (u:Value):Row (w.setCell ⟨r,i,none⟩ u) t size n v xs:=by
 obtain⟨h1,a,c',h2,h3,h4,h5⟩:=h
 refine⟨h1,a,c',h2,h3,h4,fun hn=> ?_⟩
 obtain⟨b,off,arr,h6,h7,h8⟩:=h5 hn
 exact⟨b,off,arr,h6,h7.sne (h7.ne hr ht),h8⟩
theorem KeyAt.sto {w:World} {v:Value} {L:List Nat} (h:KeyAt w v L) {r i:Nat} {t':TypeId} {c:Array Value} (hr:Bx w r t' c) (ht:5≠t') (u:Value):KeyAt (w.setCell ⟨r,i,none⟩ u) v L:=⟨h.1,Row.sto h.2 hr ht u⟩
theorem sys_put {w:World} {B:Nat} {A:Adr} {m:Mem} {pd:Nat→Option (Live×Kont)} {who:Nat} {arr:Array Value} (hs:St w B A m) (hK:Bx w A.K 71 arr) (hsz:arr.size=67) (hKB:B≤A.K) (hp: ∀j,j<64→j≠who→ ∃v,arr[3+j]? =some v∧PendAt w B A j v (pd j)) (hw:who<64) (v:Value) (o:Option (Live×Kont)) (hv:PendAt w B A who v o):
   SysAt (w.setCell ⟨A.K,3+who,none⟩ v) B A m (setP pd who o)∧Fr B [A.K] w (w.setCell ⟨A.K,3+who,none⟩ v):=by
 have h1:=hs.setPend hK hKB (3+who) (by omega) v
 have hne: ∀(j:Nat) (x:Live) (k:Kont) (xb:Nat) (pol:Pol) (q:Option (Live×Kont)),q=some (x,k)→CallAt w ⟨A,(j:Int),xb,pol⟩ x→xb∉[A.K]:=fun j x k xb pol q _ hc=>by
   obtain⟨_,hx,_⟩:=hc
   simpa using hx.ne hK (by decide)
 refine⟨⟨h1.1,⟨_,hK.setCell (3+who) v,by simpa using hsz,fun j hj=> ?_⟩,hKB⟩,h1.2⟩
 by_cases e:j=who
 · subst e
   refine⟨v,Array.getElem?_setIfInBounds_self_of_lt (by omega),?_⟩
   rw[setP_self]
   exact hv.keep h1.2 (fun x k xb pol=>hne j x k xb pol _)
 · obtain⟨u,h2,h3⟩:=hp j hj e
   refine⟨u,by rw[Array.getElem?_setIfInBounds_ne (by omega)];exact h2,?_⟩
   rw[setP_ne pd o e]
   exact h3.keep h1.2 (fun x k xb pol=>hne j x k xb pol _)
theorem bclone_by (kv:Value) (k:List Nat) (w:World) (h:ByAt w kv k) (hk:k.length≤255):
   Calls Tryz.prog 37 #[kv] w fun e w'=> ∃v',e= .returned v'∧KeyAt w' v' k∧Below w.heap.size w w':=by
 have hb:=h
 obtain⟨h0,a,c,rfl,h2,h3,h4⟩:=hb
 cases a with
 |none=>
   have hk0:k=[]:=by
     cases k with
     |nil=>rfl
     |cons x k=>obtain⟨b,off,e,_⟩:=h4 (by simp);cases e
   subst hk0
   refine(Tryz.bytes_Clone_nil 0 c w).mono ?_
   rintro e w' ⟨rfl,rfl⟩
   exact⟨_,rfl,⟨h0,Row.nil _ _ _ none 0 (by decide)⟩,Below.refl _ _⟩
 |some a=>
   refine(Tryz.bytes_Clone_at a k.length c (k.map fun(x:Nat)=>(x:Int)) w (by simp) (by omega) ?_).mono ?_
   · intro i hi
     obtain⟨b,off,e,h5⟩:=h4 (by omega)
     injection e with e
     subst e
     rw[Addr.add_lit,h5 i hi]
     congr 2
     simp [List.getD_eq_getElem?_getD,List.getElem?_eq_getElem hi]
   · rintro e w' ⟨v',rfl,h5,_,h6⟩
     refine⟨v',rfl,⟨h0,?_⟩,h6⟩
     have:=Row.own h5
     rw[List.map_map]at this
     exact this
theorem first_env (A:Adr) (who:Nat) (c:Top.Call) (kv:Value) (B:Nat) (m:Mem) (w W:World) (hs:St w B A m) (hc:CallGood A.list c) (hb:Below w.heap.size w W) (hk:KeyAt W kv c.key):
   Calls Tryz.prog 39 #[P W.heap.size] (W.alloc (.cells #[.int .u8 (c.op:Nat),.int .i64 c.pol,kv,.int .i64 c.n,P A.K,.int .i64 who,.int .u64 (sumB (ident c.pol c.key):Nat),.bool false,.int .i64 0] 110))
     fun e w'=> ∃v,e= .returned v∧Below W.heap.size W w'∧KontAt w' ⟨A,who,W.heap.size,A.list.getD c.pol.toNat default⟩ v (firstK c)∧CallAt w' ⟨A,who,W.heap.size,A.list.getD c.pol.toNat default⟩ (liveOf c):=by
 have hb1:=below_allocs [.cells #[.int .u8 (c.op:Nat),.int .i64 c.pol,kv,.int .i64 c.n,P A.K,.int .i64 who,.int .u64 (sumB (ident c.pol c.key):Nat),.bool false,.int .i64 0] 110] W
 have hcl:CallAt (W.alloc (.cells #[.int .u8 (c.op:Nat),.int .i64 c.pol,kv,.int .i64 c.n,P A.K,.int .i64 who,.int .u64 (sumB (ident c.pol c.key):Nat),.bool false,.int .i64 0] 110)) ⟨A,who,W.heap.size,A.list.getD c.pol.toNat default⟩ (liveOf c):=⟨kv,Bx.new W _ _,hk.keep (fr0 hb1)⟩
 obtain⟨p,h4,h5⟩:=hc.ok.pol
 refine(first_any B ⟨A,who,W.heap.size,A.list.getD c.pol.toNat default⟩ (liveOf c) m _ ((hs.later hb).later hb1) hcl (fun _=>⟨p,h4,?_⟩) rfl hc.ok.op1).mono ?_
 · show A.list[p]? =some (A.list.getD c.pol.toNat default)
   rw[h4,Int.toNat_natCast,List.getD_eq_getElem?_getD,List.getElem?_eq_getElem h5]
   rfl
 · rintro e w' ⟨v,rfl,hk',hb'⟩
   exact⟨v,rfl,hb1.trans (hb'.mono hb1.size),hk',hcl.keep (fr0 hb') (by simp)⟩
set_option maxHeartbeats 2000000 in
set_option maxRecDepth 100000 in
theorem start_any (B:Nat) (A:Adr) (m:Mem) (pd:Nat→Option (Live×Kont)) (who:Nat) (c:Top.Call) (kv:Value) (w:World) (hs:SysAt w B A m pd) (T:TabOk A.list A.room) (hp:pd who=none) (hw:who<64) (hc:CallGood A.list c) (hk:ByAt w kv c.key):
   Calls Tryz.prog 19 #[P A.K,.int .i64 who,.agg #[.int .u8 (c.op:Nat),.int .i64 c.pol,kv,.int .i64 c.n]] w fun e w'=>e= .returned (.int .i64 0)∧SysAt w' B A m (setP pd who (some (liveOf c,firstK c)))∧Fr B [A.K] w w'∧ ∃arr v,Bx w A.K 71 arr∧Bx w' A.K 71 (arr.setIfInBounds (3+who) v):=by
 obtain⟨arr,hK,ha,hpd⟩:=hs.pend
 obtain⟨v,hv,hpv⟩:=hpd who hw
 rw[hp]at hpv
 have hpv:v= .nilFunc:=hpv
 subst hpv
 obtain⟨arr',lv,c1,c2,c3,c4,c5,c6⟩:=hs.st.core
 have ea:arr'=arr:=by
   unfold Bx at c1 hK
   rw[c1]at hK
   injection hK with hK
   injection hK
 subst ea
 have hlen:=hc.ok.klen
 have hpol:=hc.ok.pol
 have hpol2:0≤c.pol∧c.pol<32:=by obtain⟨p,h4,h5⟩:=hpol;have:=T.few;omega
 have Kc:Hid (∀W,Below w.heap.size w W→Calls Tryz.prog 36 #[lv,.agg #[.int .u8 (c.op:Nat),.int .i64 c.pol,kv,.int .i64 c.n]] W fun e w'=>e= .returned (.int .i64 0)∧Below W.heap.size W w'):=fun W hb=>check_good A.list lv c kv W (c6.keep (fr0 hb)) T.few T.good hc.ok (by obtain⟨_,a,n,e,_⟩:=hk;exact⟨a,n,e⟩)
 have Kb:Hid (∀W,Below w.heap.size w W→Calls Tryz.prog 37 #[kv] W fun e w'=> ∃v',e= .returned v'∧KeyAt w' v' c.key∧Below W.heap.size W w'):=fun W hb=>bclone_by kv c.key W (hk.below hb) hlen
 have Ks:Hid (∀(v':Value) W,KeyAt W v' c.key→Calls Tryz.prog 38 #[.int .i64 c.pol,v'] W fun e w'=>e= .returned (.int .u64 (sumB (ident c.pol c.key):Nat))∧Below W.heap.size W w'):=fun v' W h=>csum_any c.pol v' c.key W h hlen hpol2.1 hpol2.2
 have Kf:=Lib.hid (fun (v':Value) W (hb:Below w.heap.size w W) (h:KeyAt W v' c.key)=>first_env A who c v' B m w W hs.st hc hb h)
 have HK:=Lib.hid hK
 have HS:=Lib.hid hs
 have HV:=Lib.hid hv
 have HC:=Lib.hid hc
 have HA:=Lib.hid ha
 have cK0:w.cell? ⟨A.K,0,none⟩=some lv:=by rw[hK.cell];exact c3
 have cKw:w.cell? ⟨A.K,3+who,none⟩=some .nilFunc:=by rw[hK.cell];exact hv
 have hKl:=hK.lt
 have e2:=neq_nil
 obtain⟨la,lc,rfl⟩: ∃a c',lv= .slice a A.list.length c':=by obtain⟨_,a,c',e,_⟩:=c6;exact⟨a,c',e⟩
 obtain⟨ka,kc,rfl⟩: ∃a c',kv= .slice a c.key.length c':=by obtain⟨_,a,c',e,_⟩:=hk;exact⟨a,c',e⟩
 have hwi:(who:Int)<64:=by omega
 clear c1 c2 c3 c4 c5 c6 hs hpd hp hc hk hK hv ha T hpol hlen hpol2
 generalize hsm:sumB (ident c.pol c.key)=sm at*
 go_enter Tryz.func19,Tryz.ntmps19
 go_upto_region 1 with (fail)
 refine wp_name (fun u=>Below w.heap.size w u∧Bx u w.heap.size 31 #[.int .u8 (c.op:Nat),.int .i64 c.pol,.slice ka c.key.length kc,.int .i64 c.n]) ⟨below_allocs [_] w,bx_allocs w [_] 0 rfl⟩ ?_
 rintro u ⟨hb,hx⟩
 have hx0:=hx.cell 0;have hx1:=hx.cell 1;have hx2:=hx.cell 2;have hx3:=hx.cell 3
 have uK0:=cell_later hb cK0;have uKw:=cell_later hb cKw
 have Hb:=Lib.hid hb;have Hx:=Lib.hid hx;have Hc0:=Lib.hid cK0;have Hcw:=Lib.hid cKw
 clear hb hx cK0 cKw
 go_wp2_with (first
   |(go_at_call 20;(with_reducible refine(is_any who u (by omega) (by omega)).mono ?_);rintro e w1 ⟨rfl,rfl⟩)
   |(go_at_call 36;(with_reducible refine(Kc.out _ Hb.out).mono ?_);rintro e w2 ⟨rfl,hb2⟩;have hbu:=below_then Hb.out hb2;have hx2:=Hx.out.below hb2 Hx.out.lt;have z0:=cell_later hbu Hc0.out;have zw:=cell_later hbu Hcw.out;have y0:=hx2.cell 0;have y1:=hx2.cell 1;have y2:=hx2.cell 2;have y3:=hx2.cell 3;have Hb2:=Lib.hid hbu;have Hx2:=Lib.hid hx2;clear hb2 hbu hx2)
   |(go_at_call 37;(with_reducible refine(Kb.out _ Hb2.out).mono ?_);rintro e w3 ⟨kv',rfl,hk',hb3⟩;have hbu:=below_then Hb2.out hb3;have hx3:=Hx2.out.below hb3 Hx2.out.lt;obtain⟨qa,qc,rfl⟩: ∃a c',kv'= .slice a c.key.length c':=(by obtain⟨_,_,a,c',e,_⟩:=hk';exact⟨a,c',e⟩);have zf:=hx3.free 2;have zo:w3.cell? ⟨w.heap.size,2,none⟩=some (.slice ka c.key.length kc):=hx3.cell 2;have Hk3:=Lib.hid hk';have Hb3:=Lib.hid hbu;have Hx3:=Lib.hid hx3;clear hk' hb3 hbu hx3))
 have kL:5≠31:=by decide
 refine wp_name (fun u=>Below w.heap.size w u∧Bx u w.heap.size 31 #[.int .u8 (c.op:Nat),.int .i64 c.pol,.slice qa c.key.length qc,.int .i64 c.n]∧KeyAt u (.slice qa c.key.length qc) c.key) ⟨Hb3.out.setCell (Nat.le_refl _) _,Hx3.out.setCell 2 _,Hk3.out.sto Hx3.out kL _⟩ ?_
 rintro y ⟨hby,hxy,hky⟩
 have HY:=Lib.hid (And.intro hby (And.intro hxy hky))
 have yk:=cell_later hby Hcw.out
 have HSa:Hid (∀W:World,Below y.heap.size y W→W.cell? ⟨w.heap.size,0,none⟩=some (.int .u8 (c.op:Nat))∧W.cell? ⟨w.heap.size,1,none⟩=some (.int .i64 c.pol)∧W.cell? ⟨w.heap.size,2,none⟩=some (.slice qa c.key.length qc)∧W.cell? ⟨w.heap.size,3,none⟩=some (.int .i64 c.n)):=fun W hb=>by
   have hx:=HY.out.2.1.below hb HY.out.2.1.lt
   exact⟨hx.cell 0,hx.cell 1,hx.cell 2,hx.cell 3⟩
 have hyl:w.heap.size<y.heap.size:=hxy.lt
 clear hby hxy hky kL zf zo y0 y1 y2 y3 z0 zw hx0 hx1 hx2 hx3 uK0 uKw
 have Ksy:Hid (∀W,Below y.heap.size y W→Calls Tryz.prog 38 #[.int .i64 c.pol,.slice qa c.key.length qc] W fun e w'=>e= .returned (.int .u64 (sm:Nat))∧Below W.heap.size W w'):=fun W hb=>Ks.out _ W (HY.out.2.2.keep (fr0 hb))
 have Kfy:=Lib.hid (fun W (hb:Below y.heap.size y W)=>Kf.out _ W (below_then HY.out.1 hb) (HY.out.2.2.keep (fr0 hb)))
 have HKy:Hid (∀W,Below y.heap.size y W→Bx W A.K 71 arr'):=fun W hb=>HK.out.below (below_then HY.out.1 hb) HK.out.lt
 have nbK:w.heap.size≠A.K:=by have:=HK.out.lt;omega
 go_region_held3 (fun W=>W.cell? ⟨w.heap.size,0,none⟩=some (.int .u8 (c.op:Nat))∧W.cell? ⟨w.heap.size,1,none⟩=some (.int .i64 c.pol)∧W.cell? ⟨w.heap.size,2,none⟩=some (.slice qa c.key.length qc)∧W.cell? ⟨w.heap.size,3,none⟩=some (.int .i64 c.n)) (first|(refine HSa.out _ ?_;(repeat (first|(with_reducible first|exact RowKit.Below.refl _ _|assumption|refine RowKit.Below.drew ?_)|((with_reducible refine belAlloc ?_ ?_);(first|simp<;>omega|omega))));done)|(simp only[cell_ne,nbK,ne_eq,not_false_eq_true];with_reducible exact hsk)) (first
   |(go_at_call 38;(with_reducible refine(Ksy.out _ (by (repeat (first|(with_reducible first|exact RowKit.Below.refl _ _|assumption|refine RowKit.Below.drew ?_)|((with_reducible refine belAlloc ?_ ?_);(first|simp<;>omega|omega)))))).mono ?_);rintro e w2 ⟨rfl,hb2⟩;have hz2:=below_then (w:=y) (by (repeat (first|(with_reducible first|exact RowKit.Below.refl _ _|assumption|refine RowKit.Below.drew ?_)|((with_reducible refine belAlloc ?_ ?_);(first|simp<;>omega|omega))))) hb2;have hsz:=hz2.size;clear hb2)
   |(go_at_call 39;(refine (Kfy.out _ (by (repeat (first|(with_reducible first|exact RowKit.Below.refl _ _|assumption|refine RowKit.Below.drew ?_)|((with_reducible refine belAlloc ?_ ?_);(first|simp<;>omega|omega)))))).mono ?_);rintro e w4 ⟨v4,rfl,hb4,hk4,hc4⟩;have hz4:=below_then (w:=y) (by (repeat (first|(with_reducible first|exact RowKit.Below.refl _ _|assumption|refine RowKit.Below.drew ?_)|((with_reducible refine belAlloc ?_ ?_);(first|simp<;>omega|omega))))) hb4;have hk5:=HKy.out _ hz4;have hsk:=HSa.out _ hz4;obtain⟨q1,q2,rfl⟩:=kont_fn hk4;have p1:w4.frozen? ⟨A.K,3+who,none⟩=false:=hk5.free _;have p2:w4.cell? ⟨A.K,3+who,none⟩=some .nilFunc:=cell_later hz4 yk;have HZ:=Lib.hid (And.intro hb4 (And.intro hk4 (And.intro hc4 hz4)));clear hb4 hk4 hc4 hk5))
 all_goals
   go_wp2_with fail
   have hbz:=below_then HY.out.1 HZ.out.2.2.2
   have hsy:=HS.out.keep hbz
   obtain⟨arr2,k1,k2,k3⟩:=hsy.pend
   have hput:=sys_put hsy.st k1 k2 hsy.kb (fun j hj _=>k3 j hj) hw (.func (.func q1) #[] q2) (some (liveOf c,firstK c)) ⟨w2.heap.size,A.list.getD c.pol.toNat default,HZ.out.2.1,HZ.out.2.2.1,⟨by show(0:Int)≤(who:Int);omega,by show(who:Int)<64;omega,fun _=> ?_⟩,by have:=hsy.st.below.2.2.2;have:=HS.out.st.below.2.2.2;have:=HY.out.1.size;show B≤w2.heap.size;omega⟩
   · exact bodyPost_ret (v:= .int .i64 0) (by simp [results,Tryz.results19,go_sem]) rfl ⟨rfl,hput.1,(Fr.of_below HS.out.st.below.2.2.2 hbz).trans hput.2,arr',_,HK.out,(HK.out.below hbz HK.out.lt).setCell _ _⟩
   · obtain⟨p,h4,h5⟩:=HC.out.ok.pol
     show A.list[c.pol.toNat]? =some (A.list.getD c.pol.toNat default)
     rw[h4,Int.toNat_natCast,List.getD_eq_getElem?_getD,List.getElem?_eq_getElem h5]
     rfl
end
section
open Go.RowKit Top
set_option linter.unusedVariables false
def Fz (B:Nat) (w w':World):Prop:= ∃X,Fr B X w w'
theorem Fz.refl (B:Nat) (w:World):Fz B w w:=⟨[],Fr.refl _ _ _⟩
theorem Fz.trans {B:Nat} {a b c:World} (h:Fz B a b) (k:Fz B b c):Fz B a c:=by
 obtain⟨X,h⟩:=h
 obtain⟨Y,k⟩:=k
 exact⟨X++Y,(h.mono (Nat.le_refl _) (fun x hx=>List.mem_append_left _ hx)).trans (k.mono (Nat.le_refl _) (fun x hx=>List.mem_append_right _ hx))⟩
theorem Fz.of_below {B:Nat} {w w':World} (hB:B≤w.heap.size) (k:Below w.heap.size w w'):Fz B w w':=⟨[],Fr.of_below hB k⟩
theorem Fz.below {B:Nat} {a w w':World} (h:Fz B a w) (hB:B≤w.heap.size) (k:Below w.heap.size w w'):Fz B a w':=h.trans (Fz.of_below hB k)
theorem Fz.bel {B:Nat} {w w':World} (h:Fz B w w'):Below B w w':=by
 obtain⟨X,h⟩:=h
 exact⟨h.os,h.tape,h.output,h.size,h.block⟩
theorem Bx.kz {B:Nat} {w w':World} (h:Fz B w w') {b:Nat} {t:TypeId} {a:Array Value} (hb:Bx w b t a) (ht:okT t a.size=true):Bx w' b t a:=by
 obtain⟨X,h⟩:=h
 exact hb.keep h ht
theorem bx_inj {w:World} {b:Nat} {t:TypeId} {a a':Array Value} (h:Bx w b t a) (h':Bx w b t a'):a=a':=by
 unfold Bx at h h'
 rw[h]at h'
 injection h' with h'
 injection h'
theorem pend_none {w:World} {B:Nat} {A:Adr} {who:Nat} {v:Value} (h:PendAt w B A who v none):v= .nilFunc:=h
theorem none_pend {w:World} {B:Nat} {A:Adr} {who:Nat} {v:Value} (h:v= .nilFunc):PendAt w B A who v none:=h
theorem PendAt.trans' {w:World} {B:Nat} {A:Adr} {who:Nat} {v:Value} {o o':Option (Live×Kont)} (h:PendAt w B A who v o) (e:o=o'):PendAt w B A who v o':=e▸h
structure StepRes (w:World) (B:Nat) (A:Adr) (s:Top.Sys) (who:Nat) (r:Top.Sys×(Bool×Reply)) (w':World):Prop where
 st:St w' B A r.1.m
 core: ∃arr v,Bx w A.K 71 arr∧Bx w' A.K 71 (arr.setIfInBounds (3+who) v)∧PendAt w' B A who v (r.1.pd who)
 oth: ∀j,j≠who→r.1.pd j=s.pd j
 fr: ∃X,Fr B X w w'∧ ∀(j:Nat) (x:Live) (k:Kont) (xb:Nat) (pol:Pol),j≠who→s.pd j=some (x,k)→CallAt w ⟨A,(j:Int),xb,pol⟩ x→xb∉X
 res:(r.2.1=false∧r.2.2=err 0)∨(r.2.1=true∧r.1.pd who=none)
theorem StepRes.fz {w:World} {B:Nat} {A:Adr} {s:Top.Sys} {who:Nat} {r:Top.Sys×(Bool×Reply)} {w':World} (h:StepRes w B A s who r w'):Fz B w w':=by
 obtain⟨X,h1,_⟩:=h.fr
 exact⟨X,h1⟩
theorem StepRes.sys {w:World} {B:Nat} {A:Adr} {s:Top.Sys} {who:Nat} {r:Top.Sys×(Bool×Reply)} {w':World} (h:StepRes w B A s who r w') (hs:SysAt w B A s.m s.pd) (hw:who<64):SysAt w' B A r.1.m r.1.pd:=by
 obtain⟨arr,v,k1,k2,k3⟩:=h.core
 obtain⟨arr0,l1,l2,l3⟩:=hs.pend
 have ea:arr0=arr:=by
   exact bx_inj l1 k1
 subst ea
 obtain⟨X,h1,h2⟩:=h.fr
 refine⟨h.st,⟨_,k2,by simpa using l2,fun j hj=> ?_⟩,hs.kb⟩
 by_cases e:j=who
 · subst e
   exact⟨v,Array.getElem?_setIfInBounds_self_of_lt (by omega),k3⟩
 · obtain⟨u,h3,h4⟩:=l3 j hj
   refine⟨u,by rw[Array.getElem?_setIfInBounds_ne (by omega)];exact h3,?_⟩
   rw[h.oth j e]
   exact h4.keep h1 fun x k xb pol ep hc=>h2 j x k xb pol e ep hc
theorem StepRes.pre {w w1 w2:World} {B:Nat} {A:Adr} {s:Top.Sys} {who:Nat} {r:Top.Sys×(Bool×Reply)} (hb:Below w.heap.size w w1) (hs:SysAt w B A s.m s.pd) (h:StepRes w1 B A s who r w2):StepRes w B A s who r w2:=by
 obtain⟨X,h1,h2⟩:=h.fr
 obtain⟨arr,v,k1,k2,k3⟩:=h.core
 obtain⟨arr0,l1,_⟩:=hs.pend
 have e:=(l1.below hb l1.lt)
 have ea:arr0=arr:=by
   exact bx_inj e k1
 subst ea
 exact⟨h.st,⟨_,v,l1,k2,k3⟩,h.oth,⟨X,(Fr.of_below hs.st.below.2.2.2 hb).trans h1,fun j x k xb pol h3 h4 h5=>h2 j x k xb pol h3 h4 (h5.keep (fr0 hb) (by simp))⟩,h.res⟩
theorem pendSet {w w2:World} {r0:Nat} (d:Bool) (a:Reply) (hr:Bx w2 r0 37 res0):Bx (((((((w2.setCell ⟨r0,0,none⟩ (.bool d)).setCell ⟨r0,1,none⟩ (.int .i64 a.e)).setCell ⟨r0,2,none⟩ (.bool a.granted)).setCell ⟨r0,3,none⟩ (.int .i64 a.left)).setCell ⟨r0,4,none⟩ (.int .i64 a.wait)).setCell ⟨r0,5,none⟩ (.int .i64 a.serial)).setCell ⟨r0,6,none⟩ (.int .i64 a.now)) r0 37 (resA d a):=
 ((((((hr.setCell 0 _).setCell 1 _).setCell 2 _).setCell 3 _).setCell 4 _).setCell 5 _).setCell 6 _
def storeR (w:World) (r0:Nat) (d:Bool) (a:Reply):World:=(((((((w.setCell ⟨r0,0,none⟩ (.bool d)).setCell ⟨r0,1,none⟩ (.int .i64 a.e)).setCell ⟨r0,2,none⟩ (.bool a.granted)).setCell ⟨r0,3,none⟩ (.int .i64 a.left)).setCell ⟨r0,4,none⟩ (.int .i64 a.wait)).setCell ⟨r0,5,none⟩ (.int .i64 a.serial)).setCell ⟨r0,6,none⟩ (.int .i64 a.now))
theorem storeR_bx {w:World} {r0:Nat} {d:Bool} {a:Reply} (hr:Bx w r0 37 res0):Bx (storeR w r0 d a) r0 37 (resA d a):=pendSet (w:=w) d a hr
theorem storeR_ne {w:World} {r0:Nat} {d:Bool} {a:Reply} {b:Nat} {t:TypeId} {c:Array Value} (hn:b≠r0) (hb:Bx w b t c):Bx (storeR w r0 d a) b t c:=by
 unfold storeR
 exact((((((hb.sne hn).sne hn).sne hn).sne hn).sne hn).sne hn).sne hn
theorem storeR_st {w:World} {r0:Nat} {d:Bool} {a:Reply} {B:Nat} {A:Adr} {m:Mem} (hr:Bx w r0 37 res0) (hs:St w B A m):St (storeR w r0 d a) B A m:=by
 have b0:=hr.setCell 0 (.bool d)
 have b1:=b0.setCell 1 (.int .i64 a.e)
 have b2:=b1.setCell 2 (.bool a.granted)
 have b3:=b2.setCell 3 (.int .i64 a.left)
 have b4:=b3.setCell 4 (.int .i64 a.wait)
 have b5:=b4.setCell 5 (.int .i64 a.serial)
 unfold storeR
 exact((((((hs.setRes hr _).setRes b0 _).setRes b1 _).setRes b2 _).setRes b3 _).setRes b4 _).setRes b5 _
theorem storeR_fr {w0 w:World} {r0:Nat} {d:Bool} {a:Reply} {B:Nat} {X:List Nat} (hb:B≤r0) (hnew:w0.heap.size≤r0) (h:Fr B X w0 w):Fr B X w0 (storeR w r0 d a):=by
 unfold storeR
 exact((((((h.setNew (p:=⟨r0,0,none⟩) hb hnew _).setNew (p:=⟨r0,1,none⟩) hb hnew _).setNew (p:=⟨r0,2,none⟩) hb hnew _).setNew (p:=⟨r0,3,none⟩) hb hnew _).setNew (p:=⟨r0,4,none⟩) hb hnew _).setNew (p:=⟨r0,5,none⟩) hb hnew _).setNew (p:=⟨r0,6,none⟩) hb hnew _
theorem storeR_zero {w:World} {r0:Nat} (hr:Bx w r0 37 res0):storeR w r0 false (err 0)=w:=set7_same hr
theorem StepRes.store {w w2:World} {B:Nat} {A:Adr} {s:Top.Sys} {who:Nat} {r:Top.Sys×(Bool×Reply)} {r0:Nat} (hs:SysAt w B A s.m s.pd) (h:StepRes w B A s who r w2) (hr:Bx w2 r0 37 res0) (hnew:w.heap.size≤r0):
   StepRes w B A s who r (storeR w2 r0 r.2.1 r.2.2):=by
 obtain⟨s1,d,a⟩:=r
 have hb:B≤r0:=Nat.le_trans hs.st.below.2.2.2 hnew
 obtain⟨X,h1,h2⟩:=h.fr
 obtain⟨arr,v,k1,k2,k3⟩:=h.core
 have hne:A.K≠r0:=k2.ne hr (by decide)
 rcases h.res with ⟨hd,ha⟩|⟨hd,hpd⟩
 · have hd:d=false:=hd
   have ha:a=err 0:=ha
   have e:storeR w2 r0 d a=w2:=by rw[hd,ha];exact storeR_zero hr
   exact Eq.mpr (congrArg (fun W=>StepRes w B A s who (s1,d,a) W) e) h
 · have hv:v= .nilFunc:=pend_none (k3.trans' hpd)
   refine⟨storeR_st hr h.st,⟨arr,v,k1,storeR_ne hne k2,?_⟩,h.oth,⟨X,storeR_fr hb hnew h1,h2⟩,h.res⟩
   exact(none_pend hv).trans' hpd.symm
theorem calls_step_sys (B:Nat) (A:Adr) (s:Top.Sys) (n who:Nat) (x:Live) (k:Kont) (w:World) (hs:SysAt w B A s.m s.pd) (T:TabOk A.list A.room) (hok:SysOk A.list A.room s n) (hn:n<4611686018427387900) (hw:who<64) (hp:s.pd who=some (x,k)):
   Calls Tryz.prog 21 #[.pointer (some ⟨A.K,3,none⟩),.int .i64 who] w fun e w'=>e= .returned (.agg (resA (stepS A.list A.room BlV s who).2.1 (stepS A.list A.room BlV s who).2.2))∧StepRes w B A s who (stepS A.list A.room BlV s who) w':=by
 obtain⟨arr,hK,hsz,hpd⟩:=hs.pend
 obtain⟨v,hv,hpv⟩:=hpd who hw
 rw[hp]at hpv
 obtain⟨xb,pol,p1,p2,p3,p4⟩:=hpv
 have hi:=hok.inv
 rw[tot_rest s.pd hw,hp]at hi
 have hl:=hok.live who x k hw hp
 have hf:=hok.few
 have ho:=hok.out sound_V T hw hp hn
 have es:stepS A.list A.room BlV s who=stepO who s (stepF BlV A.list A.room k x s.m):=by unfold stepS;rw[hp]
 rw[es]
 refine(calls_step B ⟨A,who,xb,pol⟩ who x s.m k _ v arr w rfl hw T hi hl.1 hl.2 p3 (by omega) p4 p1 hs.st p2 hK hs.kb hv).mono ?_
 rintro e w' ⟨v',d,a,rfl,q1,q2,q3,q4,q5⟩
 have hcall:=ho.call
 generalize stepF BlV A.list A.room k x s.m=o at*
 obtain⟨o1,x1,m1⟩:=o
 have hfr: ∃X,Fr B X w w'∧ ∀(j:Nat) (x:Live) (k:Kont) (xb:Nat) (pol:Pol),j≠who→s.pd j=some (x,k)→CallAt w ⟨A,(j:Int),xb,pol⟩ x→xb∉X:=by
   refine⟨_,q5,fun j x' k' xb' pol' hne e hc=> ?_⟩
   have h4:=call_ne hc p2 (by omega)
   obtain⟨_,hx,_⟩:=hc
   have h5:=hx.ne hK (by decide)
   simp only[List.mem_cons,List.not_mem_nil,or_false,not_or]
   exact⟨h4,h5⟩
 cases o1 with
 |inl k1=>
   obtain⟨r1,rfl,rfl⟩:=q1
   refine⟨rfl,⟨q3,⟨arr,v',hK,q4,?_⟩,fun j hj=>setP_ne _ _ hj,hfr,.inl ⟨rfl,rfl⟩⟩⟩
   show PendAt w' B A who v' (setP s.pd who (some (x1,k1)) who)
   rw[setP_self]
   exact⟨xb,pol,r1,q2,⟨p3.who0,p3.who1,by intro h;have:=p3.pol;dsimp only at hcall;rw[hcall]at h ⊢;exact this h⟩,p4⟩
 |inr r=>
   obtain⟨rfl,rfl,rfl⟩:=q1
   refine⟨rfl,⟨q3,⟨arr,_,hK,q4,?_⟩,fun j hj=>setP_ne _ _ hj,hfr,.inr ⟨rfl,setP_self _ _ _⟩⟩⟩
   show PendAt w' B A who _ (setP s.pd who none who)
   rw[setP_self]
   rfl
theorem pend_val {w:World} {B:Nat} {A:Adr} {who:Nat} {v:Value} {o:Option (Live×Kont)} (h:PendAt w B A who v o):(v= .nilFunc∨Func1 v)∧isOn v=o.isSome:=by
 cases o with
 |none=>
   have h:v= .nilFunc:=h
   subst h
   exact⟨.inl rfl,rfl⟩
 |some q=>
   obtain⟨x,k⟩:=q
   obtain⟨xb,pol,h1,_⟩:=h
   obtain⟨f,ps,rfl⟩:=kont_fn h1
   exact⟨.inr ⟨_,ps,rfl⟩,rfl⟩
theorem pending_sys (B:Nat) (A:Adr) (m:Mem) (pd:Nat→Option (Live×Kont)) (who:Nat) (w:World) (hs:SysAt w B A m pd) (hw:who<64):
   Calls Tryz.prog 8 #[P A.K,.int .i64 who] w fun e w'=>e= .returned (.bool (pd who).isSome)∧w=w':=by
 obtain⟨arr,hK,hsz,hpd⟩:=hs.pend
 obtain⟨v,hv,hpv⟩:=hpd who hw
 have h:=pend_val hpv
 rw[← h.2]
 exact pending_any A.K who v w hw (by rw[hK.cell];exact hv) h.1
set_option maxHeartbeats 2000000 in
set_option maxRecDepth 100000 in
theorem core_step (B:Nat) (A:Adr) (s:Top.Sys) (n who:Nat) (x:Live) (k:Kont) (w:World) (hs:SysAt w B A s.m s.pd) (T:TabOk A.list A.room) (hok:SysOk A.list A.room s n) (hn:n<4611686018427387900) (hw:who<64) (hp:s.pd who=some (x,k)):
   Calls Tryz.prog 9 #[P A.K,.int .i64 who] w fun e w'=>e= .returned (.tuple #[.agg (resA (stepS A.list A.room BlV s who).2.1 (stepS A.list A.room BlV s who).2.2),.int .i64 0])∧StepRes w B A s who (stepS A.list A.room BlV s who) w':=by
 have Kc:Hid (∀W,Below w.heap.size w W→Calls Tryz.prog 21 #[.pointer (some ⟨A.K,3,none⟩),.int .i64 who] W fun e w'=>e= .returned (.agg (resA (stepS A.list A.room BlV s who).2.1 (stepS A.list A.room BlV s who).2.2))∧StepRes W B A s who (stepS A.list A.room BlV s who) w'):=fun W hb=>calls_step_sys B A s n who x k W (hs.keep hb) T hok hn hw hp
 have Kp:Hid (∀W,Below w.heap.size w W→Calls Tryz.prog 8 #[P A.K,.int .i64 who] W fun e w'=>e= .returned (.bool true)∧W=w'):=fun W hb=>by
   have:=pending_sys B A s.m s.pd who W (hs.keep hb) hw
   rwa [hp]at this
 have HS:=Lib.hid hs
 have lK:A.K<w.heap.size:=by obtain⟨arr,hK,_⟩:=hs.pend;exact hK.lt
 clear hs hok T hp hn
 generalize stepS A.list A.room BlV s who=r at*
 obtain⟨s1,d,a⟩:=r
 go_enter Tryz.func9,Tryz.ntmps9
 go_upto_region 1 with (fail)
 refine wp_name (fun u=>Below w.heap.size w u∧Bx u w.heap.size 37 res0) ⟨below_allocs [_] w,bx_allocs w [_] 0 rfl⟩ ?_
 rintro u ⟨hb,hx⟩
 have Hb:=Lib.hid hb;have Hx:=Lib.hid hx
 clear hb hx
 go_wp2_with (first
   |(go_at_call 20;(with_reducible refine(is_any who u (by omega) (by omega)).mono ?_);rintro e w1 ⟨rfl,rfl⟩)
   |(go_at_call 8;(with_reducible refine(Kp.out _ Hb.out).mono ?_);rintro e w1 ⟨rfl,rfl⟩)
   |(go_at_call 21;(with_reducible refine(Kc.out _ Hb.out).mono ?_);rintro e w2 ⟨rfl,hr⟩;obtain⟨X,hX,_⟩:=hr.fr;have hr0:=Hx.out.keep hX rfl;obtain⟨r0,r1,r2,r3,r4,r5,r6⟩:=res_cells hr0;obtain⟨f0,f1,f2,f3,f4,f5,f6⟩:=res_free hr0;have Hr:=Lib.hid hr;have Hr0:=Lib.hid hr0;clear hr hX hr0))
 have hbx:=storeR_bx (d:=d) (a:=a) Hr0.out
 obtain⟨u0,u1,u2,u3,u4,u5,u6⟩:=(⟨hbx.cell 0,hbx.cell 1,hbx.cell 2,hbx.cell 3,hbx.cell 4,hbx.cell 5,hbx.cell 6⟩:(storeR w2 w.heap.size d a).cell? ⟨w.heap.size,0,none⟩=some (.bool d)∧(storeR w2 w.heap.size d a).cell? ⟨w.heap.size,1,none⟩=some (.int .i64 a.e)∧(storeR w2 w.heap.size d a).cell? ⟨w.heap.size,2,none⟩=some (.bool a.granted)∧(storeR w2 w.heap.size d a).cell? ⟨w.heap.size,3,none⟩=some (.int .i64 a.left)∧(storeR w2 w.heap.size d a).cell? ⟨w.heap.size,4,none⟩=some (.int .i64 a.wait)∧(storeR w2 w.heap.size d a).cell? ⟨w.heap.size,5,none⟩=some (.int .i64 a.serial)∧(storeR w2 w.heap.size d a).cell? ⟨w.heap.size,6,none⟩=some (.int .i64 a.now))
 show bodyPost _ _ _ _ _ (storeR w2 w.heap.size d a)
 exact bodyPost_ret (v:= .tuple #[.agg (resA d a),.int .i64 0]) (by simp [results,Tryz.results9,go_sem,u0,u1,u2,u3,u4,u5,u6]) rfl ⟨rfl,StepRes.store HS.out (StepRes.pre Hb.out HS.out Hr.out) Hr0.out (Nat.le_refl _)⟩
set_option maxHeartbeats 2000000 in
set_option maxRecDepth 100000 in
theorem core_step_none (B:Nat) (A:Adr) (m:Mem) (pd:Nat→Option (Live×Kont)) (who:Nat) (w:World) (hs:SysAt w B A m pd) (hw:who<64) (hp:pd who=none):
   Calls Tryz.prog 9 #[P A.K,.int .i64 who] w fun e w'=>e= .returned (.tuple #[.agg res0,.int .i64 7])∧Below w.heap.size w w':=by
 have Kp:Hid (∀W,Below w.heap.size w W→Calls Tryz.prog 8 #[P A.K,.int .i64 who] W fun e w'=>e= .returned (.bool false)∧W=w'):=fun W hb=>by
   have:=pending_sys B A m pd who W (hs.keep hb) hw
   rwa [hp]at this
 have lK:A.K<w.heap.size:=by obtain⟨arr,hK,_⟩:=hs.pend;exact hK.lt
 clear hs hp
 go_enter Tryz.func9,Tryz.ntmps9
 go_upto_region 1 with (fail)
 refine wp_name (fun u=>Below w.heap.size w u∧Bx u w.heap.size 37 res0) ⟨below_allocs [_] w,bx_allocs w [_] 0 rfl⟩ ?_
 rintro u ⟨hb,hx⟩
 obtain⟨r0,r1,r2,r3,r4,r5,r6⟩:=res_cells hx
 obtain⟨f0,f1,f2,f3,f4,f5,f6⟩:=res_free hx
 have Hb:=Lib.hid hb;have Hx:=Lib.hid hx
 clear hb hx
 go_wp2_with (first
   |(go_at_call 20;(with_reducible refine(is_any who u (by omega) (by omega)).mono ?_);rintro e w1 ⟨rfl,rfl⟩)
   |(go_at_call 8;(with_reducible refine(Kp.out _ Hb.out).mono ?_);rintro e w1 ⟨rfl,rfl⟩))
 rw[set7_same Hx.out]
 exact bodyPost_ret (v:= .tuple #[.agg res0,.int .i64 7]) (by simp [results,Tryz.results9,go_sem,r0,r1,r2,r3,r4,r5,r6]) rfl ⟨rfl,Hb.out⟩
end
end Go.Proofs.YtemnhpdjoimjbaaGreatDoor
