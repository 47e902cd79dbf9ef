import Derived.Test.YtemnhpdjoimjbaaGreatDoorTw20
import Derived.WalkSmall
import Derived.StillTailTactics
namespace Go.Proofs.YtemnhpdjoimjbaaGreatDoor
section
open Go.RowKit Top
set_option linter.unusedVariables false
theorem filter_snoc (xs:List CV) (p:CV→Bool) (k:Nat) (h:k<xs.length):(xs.take (k+1)).filter p=(xs.take k).filter p++if p xs[k]then[xs[k]]else[]:=by
 rw[List.take_succ_eq_append_getElem h,List.filter_append]
 congr 1
 simp only[List.filter_cons,List.filter_nil]
theorem cell_at {w:World} {xs:List CV} {b off:Nat} (hc: ∀j u,(encs xs)[j]? =some u→w.cell? ⟨b,off+j,none⟩=some u) (k:Nat) (h:k<xs.length):
   w.cell? ⟨b,off+k*4,none⟩=some (.int .i64 xs[k].c.pol)∧w.cell? ⟨b,off+k*4+1,none⟩=some xs[k].kv∧w.cell? ⟨b,off+k*4+2,none⟩=some (.int .i64 xs[k].c.tat)∧w.cell? ⟨b,off+k*4+3,none⟩=some xs[k].hv:=by
 have e:=fun r hr=>encs_get xs k r h hr
 refine⟨?_,?_,?_,?_⟩
 · have:=hc (4*k+0) _ (e 0 (by decide));rwa [show off+(4*k+0)=off+k*4 by omega]at this
 · have:=hc (4*k+1) _ (e 1 (by decide));rwa [show off+(4*k+1)=off+k*4+1 by omega]at this
 · have:=hc (4*k+2) _ (e 2 (by decide));rwa [show off+(4*k+2)=off+k*4+2 by omega]at this
 · have:=hc (4*k+3) _ (e 3 (by decide));rwa [show off+(4*k+3)=off+k*4+3 by omega]at this
set_option maxHeartbeats 4000000 in
set_option maxRecDepth 100000 in
theorem cut_any :CutSpec:=by
 intro cv L level kk w hL hlev
 have hwf:=hL.wf
 obtain⟨xs,hxs,hr,hxo,_⟩:=hL
 obtain⟨i0,hi,hz0,hz1,hz2⟩:=info_parts info_cellT
 have hfew:xs.length≤1048576:=by have:=hwf.few;rw[← hxs,List.length_map]at this;exact this
 obtain⟨ca,cc,rfl⟩: ∃a c,cv= .slice a xs.length c:=by obtain⟨_,a,c,e,_⟩:=hr;exact⟨a,c,e⟩
 obtain⟨_,hc1,hc2,hcell⟩:=hr.cells
 have Hcell:=Lib.hid hcell;have Hxo:=Lib.hid hxo
 have Hok:Hid (∀x∈xs,CellOk x.c):=fun x hx=>hwf.ok x.c (by rw[← hxs];exact List.mem_map_of_mem hx)
 obtain⟨p,hp⟩: ∃p:CV→Bool,p=fun x=>shardOf x.c level==kk:=⟨_,rfl⟩
 have Hp:=Lib.hid hp
 have Hres:Hid (∀(w':World) (v:Value),w'.ownsRow w.heap.size 100 4 v (xs.filter p).length (encs (xs.filter p))→Below w.heap.size w w'→CellsAt w' v (cut L level kk)):=fun w' v ho hb=>by
   refine⟨xs.filter p,?_,Row.own ho,fun x hx=>(Hxo.out x (List.mem_filter.1 hx).1).keep (fr0 hb),hwf.filter _⟩
   rw[← hxs,hp]
   unfold cut
   rw[List.filter_map]
   rfl
 have Ki:Hid (∀(k:Nat) (h:k<xs.length) (W:World),Below w.heap.size w W→Calls Tryz.prog 34 #[.int .i64 xs[k].c.pol,xs[k].kv] W fun e w'=> ∃a c',e= .returned (.tuple #[.slice a (xs[k].c.key.length+1) c',.int .i64 0])∧ByAt w' (.slice a (xs[k].c.key.length+1) c') (ident xs[k].c.pol xs[k].c.key)∧Below W.heap.size W w'):=fun k h W hb=>
   have ok:=Hok.out xs[k] (List.getElem_mem h)
   ident_any _ _ _ W ((Hxo.out xs[k] (List.getElem_mem h)).1.keep (fr0 hb)) ok.len ok.pol0 ok.pol1
 clear hxs hr hxo hwf hcell hp hc1
 unfold maxLen at hc2
 go_enter Tryz.func18,Tryz.ntmps18
 go_wp2
 go_loopw [7,9,10,11,12,13,16] (fun ov _ _ _ _ _ i wr=> ∃k:Nat,i= .int .i64 k∧k≤xs.length∧wr.ownsRow w.heap.size 100 4 ov ((xs.take k).filter p).length (encs ((xs.take k).filter p))∧Below w.heap.size w wr) (fun _ _ _ _ _ _ i _=>xs.length-(intOf i).toNat)
 case atStart=>exact⟨0,rfl,Nat.zero_le _,World.ownsRow_nil _ _ _ _,Below.refl _ _⟩
 case round=>
   obtain⟨k,rfl,hk,hown,hbel⟩:=hrel
   have Hown:=Lib.hid hown;have Hbel:=Lib.hid hbel
   clear hown hbel
   by_cases hA:k<xs.length
   · obtain⟨b,off,rfl,hcell⟩:=Hcell.out (by omega)
     obtain⟨x0,x1,x2,x3⟩:=cell_at hcell k hA
     have y0:=cell_later Hbel.out x0;have y1:=cell_later Hbel.out x1;have y2:=cell_later Hbel.out x2;have y3:=cell_later Hbel.out x3
     have Hx:=Lib.hid (Hxo.out xs[k] (List.getElem_mem hA))
     have HK:=Lib.hid (Ki.out k hA)
     have Hsn:=Lib.hid (filter_snoc xs p k hA)
     have hpx:p xs[k]=decide (sumB (ident xs[k].c.pol xs[k].c.key)%2^level=kk):=by rw[Hp.out];rfl
     have Hpx:=Lib.hid hpx
     clear hcell x0 x1 x2 x3 hpx
     generalize xs[k]=x at*
     obtain⟨⟨pol,key,tat,held⟩,kv,hv⟩:=x
     obtain⟨⟨_,_,ka,kc,e1,_⟩,_,ha,hc,e2,_⟩:=id Hx.out
     dsimp only at e1 e2 y0 y1 y2 y3 HK Hpx
     subst e1 e2
     have hkl:((xs.take k).filter p).length≤xs.length:=Nat.le_trans (List.length_filter_le _ _) (by rw[List.length_take];omega)
     have Hkl:=Lib.hid hkl
     clear hkl
     generalize hys:(xs.take k).filter p=ys at*
     clear hys
     have Hs:Hid (∀(W:World) (v:Value),ByAt W v (ident pol key)→Calls Tryz.prog 35 #[v,.int .i64 level] W fun e w'=>e= .returned (.tuple #[.int .i64 (sumB (ident pol key)%2^level:Nat),.int .i64 0])∧ ∃q,w'=W.drewN q):=fun W v h=>shard_any level v _ W h hlev
     generalize sumB (ident pol key)%2^level=sh at*
     have hw0:w.heap.size≤wr.heap.size:=Hbel.out.size
     have Hb0:Hid (Below w.heap.size w (wr.alloc (.cells #[.int .i64 pol,.slice ka key.length kc,.int .i64 tat,.slice ha held.length hc] 100))):=Hbel.out.alloc hw0 _
     have Hbx:Hid (Bx (wr.alloc (.cells #[.int .i64 pol,.slice ka key.length kc,.int .i64 tat,.slice ha held.length hc] 100)) wr.heap.size 100 #[.int .i64 pol,.slice ka key.length kc,.int .i64 tat,.slice ha held.length hc]):=Bx.new _ _ _
     have Ho0:Hid ((wr.alloc (.cells #[.int .i64 pol,.slice ka key.length kc,.int .i64 tat,.slice ha held.length hc] 100)).ownsRow w.heap.size 100 4 u7 ys.length (encs ys)):=Hown.out.alloc _
     go_wp2_with fail
     refine calls_name (fun u=>u=wr.alloc (.cells #[.int .i64 pol,.slice ka key.length kc,.int .i64 tat,.slice ha held.length hc] 100)) rfl ?_
     intro W0 hW0
     rw[← hW0]at Hb0 Hbx Ho0
     clear hW0
     (refine (HK.out W0 Hb0.out).mono ?_)
     rintro e w1 ⟨ia,ic,rfl,hi1,hb1⟩
     have hbx:=Hbx.out.below hb1 Hbx.out.lt
     have c0:=hbx.cell 0;have c1:=hbx.cell 1;have c2:=hbx.cell 2;have c3:=hbx.cell 3
     have Hi1:=Lib.hid hi1
     have Hown1:=Lib.hid (ownsRow_below Ho0.out hb1)
     have Hb1:=Lib.hid (Hb0.out.trans (hb1.mono Hb0.out.size))
     clear hi1 hb1 hbx Hown Hbel Ho0 hw0
     have hw1:w.heap.size≤w1.heap.size:=Hb1.out.size
     by_cases hq:sh=kk
     · subst hq
       go_wp2_with (first
         |(go_at_call 35;(refine (Hs.out _ _ Hi1.out).mono ?_);rintro e w2 ⟨rfl,q,rfl⟩)
         |(at_builtin;refine wpList_append_own _ rfl _ _ 64 rfl w.heap.size 100 i0 (.agg #[.int .i64 0,.slice none 0 0,.int .i64 0,.slice none 0 0]) 4 64 Tryz.underlying64 hi hz0 hz1 hz2 rfl (by decide) u7 ys.length (encs ys) rfl ((show (w1.drewN q).ownsRow w.heap.size 100 4 u7 ys.length (encs ys)from Hown1.out).alloc _) ⟨w1.heap.size,0,none⟩ 1 1 [.int .i64 pol,.slice ka key.length kc,.int .i64 tat,.slice ha held.length hc] rfl rfl (World.news_of_block (heap_alloc_new (w1.drewN q) _)) (by intro u hu;simp at hu;rcases hu with rfl|rfl|rfl|rfl<;>rfl) (by have:=Hkl.out;unfold maxLen;omega) (by have:=Hkl.out;omega) (by have:=lt_alloc (w1.drewN q) (.cells #[.int .i64 pol,.slice ka key.length kc,.int .i64 tat,.slice ha held.length hc] 100);have:(w1.drewN q).heap.size=w1.heap.size:=rfl;omega) ?_;intro v' w3 hown3 hgrow3 hnil3))
       refine⟨⟨k+1,by go_num,by omega,?_,?_⟩,by simp [intOf];omega⟩
       · rw[Hsn.out,Hpx.out]
         simp only[decide_true,if_true,List.length_append,List.length_singleton]
         rw[encs_append]
         exact hown3
       · exact((below_drewN Hb1.out q).alloc (by exact hw1) _).grown hgrow3 (by have:=lt_alloc (w1.drewN q) (.cells #[.int .i64 pol,.slice ka key.length kc,.int .i64 tat,.slice ha held.length hc] 100);have:(w1.drewN q).heap.size=w1.heap.size:=rfl;omega) (fun g hg=>(Hown1.out.lt g hg).1)
     · have hq': ¬(sh:Int)=(kk:Int):=by omega
       go_wp2_with (first
         |(go_at_call 35;(refine (Hs.out _ _ Hi1.out).mono ?_);rintro e w2 ⟨rfl,q,rfl⟩))
       go_roundw
       case rel=>exact⟨k+1,by go_num,by omega,by rw[Hsn.out,Hpx.out,decide_eq_false hq];simp only[Bool.false_eq_true,if_false,List.append_nil];exact Hown1.out,below_drewN Hb1.out q⟩
       case measure=>simp [intOf];omega
   · obtain rfl:k=xs.length:=by omega
     have hown:=Hown.out
     rw[List.take_length]at hown
     obtain⟨oa,oc,rfl⟩:=own_slice hown
     have Hr:=Lib.hid (Hres.out _ _ hown Hbel.out)
     clear hown
     go_wp2
     go_ret
     exact⟨_,_,_,rfl,Hr.out,Hbel.out⟩
end
section
open Go.RowKit Top
set_option linter.unusedVariables false
theorem at_lt {L:List Cell} (hw:WfL L) (pol:Int) (key:List Nat) (h:Nat) (hh:h<L.length):cmpB (cid L[h]) (ident pol key)<0↔h<findAt L pol key:=by
 constructor
 · intro hlt
   refine Classical.byContradiction fun hn=> ?_
   refine find_ge L (ident pol key) hw.order L[h] ?_ hlt
   rw[List.mem_iff_getElem]
   have hle:findAt L pol key≤h:=by omega
   rw[findAt_eq]at hle
   exact⟨h-(L.takeWhile fun c=>cmpB (cid c) (ident pol key)<0).length,by rw[List.length_drop];omega,by rw[List.getElem_drop];congr 1;omega⟩
 · intro hlt
   refine find_lt L (ident pol key) L[h] ?_
   rw[List.mem_iff_getElem]
   rw[findAt_eq]at hlt
   exact⟨h,by rw[List.length_take];omega,by rw[List.getElem_take]⟩
theorem there_iff {L:List Cell} (pol:Int) (key:List Nat) (h:findAt L pol key<L.length):findThere L pol key=decide (cmpB (cid L[findAt L pol key]) (ident pol key)=0):=by
 unfold findThere
 rw[List.getElem?_eq_getElem h]
 show(cmpB (cid _) _==0)=_
 rfl
set_option maxHeartbeats 4000000 in
set_option maxRecDepth 100000 in
theorem bsearch_any (L:List Cell) (v kv hv:Value) (t:Cell) (w:World) (hL:CellsAt w v L) (hk:KeyAt w kv t.key) (hh: ∃a n c,hv= .slice a n c) (okt:CellOk t):
   Calls Tryz.prog 132 #[v,.agg (cellA t kv hv),.func (.func 133) #[] #[]] w fun e w'=>e= .returned (.tuple #[.int .i64 (findAt L t.pol t.key:Nat),.bool (findThere L t.pol t.key)])∧Below w.heap.size w w':=by
 have hwf:=hL.wf
 obtain⟨ka,kc,rfl⟩: ∃a c',kv= .slice a t.key.length c':=by obtain⟨_,_,a,c',e,_⟩:=hk;exact⟨a,c',e⟩
 obtain⟨ha,hn,hcc,rfl⟩:=hh
 obtain⟨xs,hxs,hr,hxo,_⟩:=hL
 have hfew:xs.length≤1048576:=by have:=hwf.few;rw[← hxs,List.length_map]at this;exact this
 obtain⟨ca,cc,rfl⟩: ∃a c,v= .slice a xs.length c:=by obtain⟨_,a,c,e,_⟩:=hr;exact⟨a,c,e⟩
 obtain⟨_,hc1,hc2,hcell⟩:=hr.cells
 have Hcell:=Lib.hid hcell;have Hxo:=Lib.hid hxo
 have hlen:xs.length=L.length:=by rw[← hxs,List.length_map]
 have hgk: ∀k (h:k<xs.length),L[k]'(by omega)=xs[k].c:=by
   intro k h
   simp only[← hxs,List.getElem_map]
 have hF:findAt L t.pol t.key≤xs.length:=by rw[hlen];exact findAt_le _ _ _
 have Hlt:Hid (∀k (h:k<xs.length),cmpB (cid xs[k].c) (cid t)<0↔k<findAt L t.pol t.key):=fun k h=>by
   have:=at_lt hwf t.pol t.key k (by omega)
   rwa [hgk k h]at this
 have Hth:Hid (∀(h:findAt L t.pol t.key<xs.length),findThere L t.pol t.key=decide (cmpB (cid xs[findAt L t.pol t.key].c) (cid t)=0)):=fun h=>by
   have:=there_iff (L:=L) t.pol t.key (by omega)
   rwa [hgk _ h]at this
 have Hno:Hid (findAt L t.pol t.key=xs.length→findThere L t.pol t.key=false):=fun h=>by
   unfold findThere
   rw[List.getElem?_eq_none (by omega)]
 have Ko:Hid (∀(k:Nat) (h:k<xs.length) (W:World),Below w.heap.size w W→Calls Tryz.prog 133 #[.agg (cellA xs[k].c xs[k].kv xs[k].hv),.agg (cellA t (.slice ka t.key.length kc) (.slice ha hn hcc))] W fun e w'=>e= .returned (.int .i64 (cmpB (cid xs[k].c) (cid t)))∧Below W.heap.size W w'):=fun k h W hb=>
   order_any xs[k].c t _ _ _ _ W ((Hxo.out xs[k] (List.getElem_mem h)).1.keep (fr0 hb)) (hk.keep (fr0 hb)) (hwf.ok _ (by rw[← hxs];exact List.mem_map_of_mem (List.getElem_mem h))) okt (by obtain⟨_,a,c,e,_⟩:=(Hxo.out xs[k] (List.getElem_mem h)).2;exact⟨a,_,c,e⟩) ⟨ha,hn,hcc,rfl⟩
 have Hsl:Hid (∀k (h:k<xs.length),(∃a n c,xs[k].kv= .slice a n c)∧(∃a n c,xs[k].hv= .slice a n c)):=fun k h=>by
   obtain⟨⟨_,_,a,c,e,_⟩,_,a',c',e',_⟩:=Hxo.out xs[k] (List.getElem_mem h)
   exact⟨⟨a,_,c,e⟩,⟨a',_,c',e'⟩⟩
 clear hr hxo hwf hcell hc1 hk okt hgk hlen hxs
 unfold maxLen at hc2
 generalize findThere L t.pol t.key=TH at*
 generalize findAt L t.pol t.key=F at*
 go_enter Tryz.func132,Tryz.ntmps132
 go_wp2
 go_loopw [9,10,11] (fun i j _ wr=> ∃a b:Nat,i= .int .i64 a∧j= .int .i64 b∧a≤F∧F≤b∧b≤xs.length∧Below w.heap.size w wr∧Bx wr w.heap.size 100 (cellA t (.slice ka t.key.length kc) (.slice ha hn hcc))) (fun i j _ _=>(intOf j).toNat-(intOf i).toNat)
 case atStart=>exact⟨0,xs.length,rfl,rfl,Nat.zero_le _,hF,Nat.le_refl _,below_allocs [_] w,Bx.new _ _ _⟩
 case round=>
   obtain⟨a,b,rfl,rfl,haF,hFb,hb,hbel,hbx⟩:=hrel
   have t0:=hbx.cell 0;have t1:=hbx.cell 1;have t2:=hbx.cell 2;have t3:=hbx.cell 3
   have Hbel:=Lib.hid hbel;have Hbx:=Lib.hid hbx
   clear hbel hbx
   by_cases hab:a<b
   · have hw1:wrap64 ((a:Int)+(b:Int))=(a:Int)+b:=by unfold wrap64;omega
     have hw2:IntKind.u64.wrap ((a:Int)+(b:Int))=(a:Int)+b:=by rw[IntKind.wrap_u64];omega
     obtain⟨h,hh⟩: ∃h:Nat,h=(a+b)/2:=⟨_,rfl⟩
     have hz:((a:Int)+(b:Int))/2=(h:Int):=by omega
     have hhl:h<xs.length:=by omega
     obtain⟨bb,off,rfl,hcell⟩:=Hcell.out (by omega)
     obtain⟨x0,x1,x2,x3⟩:=cell_at hcell h hhl
     have y0:=cell_later Hbel.out x0;have y1:=cell_later Hbel.out x1;have y2:=cell_later Hbel.out x2;have y3:=cell_later Hbel.out x3
     have KO:=Lib.hid (Ko.out h hhl)
     have hlt:=Hlt.out h hhl
     obtain⟨⟨qa,qn,qc,e1⟩,qa',qn',qc',e2⟩:=Hsl.out h hhl
     have Hh:=Lib.hid hh
     clear hcell x0 x1 x2 x3 hh
     generalize xs[h]=x at*
     obtain⟨⟨pol,key,tat,held⟩,kv,hv⟩:=x
     dsimp only at e1 e2 y0 y1 y2 y3 KO hlt
     subst e1 e2
     have Hfin:Hid (∀w2,Below wr.heap.size wr.drew w2→Below w.heap.size w w2∧Bx w2 w.heap.size 100 (cellA t (.slice ka t.key.length kc) (.slice ha hn hcc))):=fun w2 hb2=>⟨(Hbel.out.drew).trans (hb2.mono Hbel.out.size),Hbx.out.below (w:=wr) (w':=w2) (S:=wr.heap.size) ⟨hb2.os,hb2.tape,hb2.output,hb2.size,hb2.block⟩ Hbx.out.lt⟩
     by_cases hF':h<F
     · have hneg:=hlt.2 hF'
       go_wp2_with fail
       go_still_tail 6,(by kernel_rfl)
       change wpList _ _ _ _ _ wr.drew
       go_wp2_with (go_at_call 133;(refine (KO.out _ (Hbel.out.drew)).mono ?_);rintro e w2 ⟨rfl,hb2⟩;have Hb2:=Lib.hid (Hfin.out _ hb2);clear hb2)
       all_goals
         go_roundw
         case rel=>exact⟨h+1,b,by go_num,rfl,by omega,hFb,hb,Hb2.out.1,Hb2.out.2⟩
         case measure=>simp [intOf];have:=Hh.out;omega
     · have hneg: ¬cmpB (cid ⟨pol,key,tat,held⟩) (cid t)<0:=fun e=>hF' (hlt.1 e)
       go_wp2_with fail
       go_still_tail 6,(by kernel_rfl)
       change wpList _ _ _ _ _ wr.drew
       go_wp2_with (go_at_call 133;(refine (KO.out _ (Hbel.out.drew)).mono ?_);rintro e w2 ⟨rfl,hb2⟩;have Hb2:=Lib.hid (Hfin.out _ hb2);clear hb2)
       all_goals
         go_roundw
         case rel=>exact⟨a,h,rfl,by go_num,haF,by omega,by omega,Hb2.out.1,Hb2.out.2⟩
         case measure=>simp [intOf];have:=Hh.out;omega
   · obtain rfl:a=F:=by omega
     obtain rfl:b=a:=by omega
     have Hb2:Hid (∀w2,Below wr.heap.size wr.drew w2→Below w.heap.size w w2):=fun w2 hb2=>(Hbel.out.drew).trans (hb2.mono Hbel.out.size)
     by_cases hbl:b<xs.length
     · obtain⟨bb,off,rfl,hcell⟩:=Hcell.out (by omega)
       obtain⟨x0,x1,x2,x3⟩:=cell_at hcell b hbl
       have y0:=cell_later Hbel.out x0;have y1:=cell_later Hbel.out x1;have y2:=cell_later Hbel.out x2;have y3:=cell_later Hbel.out x3
       have KO:=Lib.hid (Ko.out b hbl)
       have HT:=Lib.hid (Hth.out hbl)
       obtain⟨⟨qa,qn,qc,e1⟩,qa',qn',qc',e2⟩:=Hsl.out b hbl
       clear hcell x0 x1 x2 x3
       generalize xs[b]=x at*
       obtain⟨⟨pol,key,tat,held⟩,kv,hv⟩:=x
       dsimp only at e1 e2 y0 y1 y2 y3 KO HT
       subst e1 e2
       have HSa:Hid (∀w':World,Below wr.heap.size wr w'→w'.cell? ⟨bb,off+b*4,none⟩=some (.int .i64 pol)∧w'.cell? ⟨bb,off+b*4+1,none⟩=some (.slice qa qn qc)∧w'.cell? ⟨bb,off+b*4+2,none⟩=some (.int .i64 tat)∧w'.cell? ⟨bb,off+b*4+3,none⟩=some (.slice qa' qn' qc')∧w'.cell? ⟨w.heap.size,0,none⟩=some (.int .i64 t.pol)∧w'.cell? ⟨w.heap.size,1,none⟩=some (.slice ka t.key.length kc)∧w'.cell? ⟨w.heap.size,2,none⟩=some (.int .i64 t.tat)∧w'.cell? ⟨w.heap.size,3,none⟩=some (.slice ha hn hcc)):=fun w' hb=>⟨cell_later hb y0,cell_later hb y1,cell_later hb y2,cell_later hb y3,cell_later hb t0,cell_later hb t1,cell_later hb t2,cell_later hb t3⟩
       clear y0 y1 y2 y3 t0 t1 t2 t3
       have hd:decide ((b:Int)<(xs.length:Int))=true:=decide_eq_true (by omega)
       go_wp2_with fail
       go_region_held3 (fun w'=>w'.cell? ⟨bb,off+b*4,none⟩=some (.int .i64 pol)∧w'.cell? ⟨bb,off+b*4+1,none⟩=some (.slice qa qn qc)∧w'.cell? ⟨bb,off+b*4+2,none⟩=some (.int .i64 tat)∧w'.cell? ⟨bb,off+b*4+3,none⟩=some (.slice qa' qn' qc')∧w'.cell? ⟨w.heap.size,0,none⟩=some (.int .i64 t.pol)∧w'.cell? ⟨w.heap.size,1,none⟩=some (.slice ka t.key.length kc)∧w'.cell? ⟨w.heap.size,2,none⟩=some (.int .i64 t.tat)∧w'.cell? ⟨w.heap.size,3,none⟩=some (.slice ha hn hcc)) ((refine HSa.out _ ?_;(repeat (first|(with_reducible first|exact RowKit.Below.refl _ _|assumption|refine RowKit.Below.drew ?_)));done)) ((go_at_call 133;(refine (KO.out _ (Hbel.out.trans (RowKit.Below.mono (B:=wr.heap.size) (by (repeat (first|(with_reducible first|exact RowKit.Below.refl _ _|assumption|refine RowKit.Below.drew ?_)))) Hbel.out.size))).mono ?_);rintro e w2 ⟨rfl,hb2⟩;have hbw:=RowKit.Below.trans (B:=wr.heap.size) (a:=wr) (by (repeat (first|(with_reducible first|exact RowKit.Below.refl _ _|assumption|refine RowKit.Below.drew ?_)))) (hb2.mono (RowKit.Below.size (B:=wr.heap.size) (w:=wr) (by (repeat (first|(with_reducible first|exact RowKit.Below.refl _ _|assumption|refine RowKit.Below.drew ?_))))));have Hbw:=Lib.hid hbw;clear hb2))
       all_goals
         have HB2:=Lib.hid (Hbel.out.trans (Hbw.out.mono Hbel.out.size))
         go_wp2_with fail
         exact bodyPost_ret (v:= .tuple #[.int .i64 (b:Nat),.bool TH]) (by rw[HT.out];simp [results,Tryz.results132,go_sem];rfl) rfl ⟨rfl,HB2.out⟩
     · have HT:=Lib.hid (Hno.out (by omega))
       have hd:decide ((b:Int)<(xs.length:Int))=false:=decide_eq_false (by omega)
       go_wp2_with fail
       go_quiet (fail)
       go_wp2_with fail
       exact bodyPost_ret (v:= .tuple #[.int .i64 (b:Nat),.bool TH]) (by rw[HT.out];simp [results,Tryz.results132,go_sem]) rfl ⟨rfl,below_drewN Hbel.out _⟩
end
section
open Go.RowKit Top
set_option linter.unusedVariables false
set_option maxHeartbeats 4000000 in
set_option maxRecDepth 100000 in
theorem find_book (L:List Cell) (cv kv:Value) (pol:Int) (key:List Nat) (w:World) (hL:CellsAt w cv L) (hk:KeyAt w kv key) (hkl:key.length≤255) (h0:0≤pol) (h1:pol<32):
   Calls Tryz.prog 100 #[cv,.int .i64 pol,kv] w fun e w'=> ∃ka kn kc ha hn hc,e= .returned (.tuple #[.int .i64 (findAt L pol key:Nat),.bool (findThere L pol key),.agg (cellA (findCell L pol key) (.slice ka kn kc) (.slice ha hn hc))])∧KeyAt w (.slice ka kn kc) (findCell L pol key).key∧HeldAt w (.slice ha hn hc) (findCell L pol key).held∧CellOk (findCell L pol key)∧Below w.heap.size w w':=by
 have hwf:=hL.wf
 have hcok:=findCell_ok hwf h0 h1 hkl hk.1
 have hnt:=fun h=>(not_there hwf (pol:=pol) (key:=key) h).1
 have hyt:=fun h=>there_get (L:=L) (pol:=pol) (key:=key) h
 have okt:CellOk ⟨pol,key,0,[]⟩:=⟨h0,h1,hkl,hk.1,Int.le_refl 0,(by decide:(0:Int)≤4611686018427387903),fun n hn=>by simp at hn,List.Pairwise.nil,by simp⟩
 obtain⟨ka,kc,rfl⟩: ∃a c',kv= .slice a key.length c':=by obtain⟨_,_,a,c',e,_⟩:=hk;exact⟨a,c',e⟩
 have Kb:Hid (∀W:World,Below w.heap.size w W→Calls Tryz.prog 132 #[cv,.agg #[.int .i64 pol,.slice ka key.length kc,.int .i64 0,.slice none 0 0],.func (.func 133) #[] #[]] W fun e w'=>e= .returned (.tuple #[.int .i64 (findAt L pol key:Nat),.bool (findThere L pol key)])∧Below W.heap.size W w'):=fun W hb=>
   bsearch_any L cv _ (.slice none 0 0) ⟨pol,key,0,[]⟩ W (hL.keep (fr0 hb)) (hk.keep (fr0 hb)) ⟨_,_,_,rfl⟩ okt
 obtain⟨xs,hxs,hr,hxo,_⟩:=hL
 obtain⟨ca,cc,rfl⟩: ∃a c,cv= .slice a xs.length c:=by obtain⟨_,a,c,e,_⟩:=hr;exact⟨a,c,e⟩
 obtain⟨_,hc1,hc2,hcell⟩:=hr.cells
 have Hk:=Lib.hid hk;have Hok:=Lib.hid hcok
 cases ht:findThere L pol key with
 |true=>
   obtain⟨c,hg,hid,hfc,hmem⟩:=hyt ht
   have hel:xs.length=L.length:=by rw[← hxs,List.length_map]
   have hF:findAt L pol key<xs.length:=by have h:=(List.getElem?_eq_some_iff.1 hg).1;omega
   have hxc:xs[findAt L pol key].c=findCell L pol key:=by
     rw[hfc]
     have h2:(xs.map CV.c)[findAt L pol key]? =some c:=by rw[hxs];exact hg
     rw[List.getElem?_map,List.getElem?_eq_getElem hF]at h2
     simpa using h2
   have Hx:=Lib.hid (hxo _ (List.getElem_mem hF))
   obtain⟨bb,off,rfl,hcl⟩:=hcell (by omega)
   obtain⟨x0,x1,x2,x3⟩:=cell_at hcl (findAt L pol key) hF
   rw[hxc]at x0 x2
   have Hxc:=Lib.hid hxc
   rw[ht]at Kb
   clear hcl hcell hxo hr hk hcok hnt hyt okt hwf hg hid hfc hmem hxs ht hc1 hxc hel
   unfold maxLen at hc2
   generalize xs[findAt L pol key]=x at*
   obtain⟨c',kv',hv'⟩:=x
   dsimp only at x1 x3 Hxc
   obtain⟨⟨_,_,qa,qc,e1,_⟩,_,qa',qc',e2,_⟩:=id Hx.out
   dsimp only at e1 e2
   subst e1 e2
   have hXc:=Hxc.out
   subst hXc
   generalize hC:findCell L pol key=C at*
   generalize findAt L pol key=F at*
   obtain⟨cp,ck,ctat,ch⟩:=C
   go_enter Tryz.func100,Tryz.ntmps100
   go_wp2_with fail
   refine calls_name (fun u=>Below w.heap.size w u∧Bx u w.heap.size 100 #[.int .i64 0,.slice none 0 0,.int .i64 0,.slice none 0 0]∧Bx u (w.heap.size+1) 100 #[.int .i64 pol,.slice ka key.length kc,.int .i64 0,.slice none 0 0]) ⟨below_allocs [_,_] w,bx_allocs w [_,_] 0 rfl,bx_allocs w [_,_] 1 rfl⟩ ?_
   rintro W0 ⟨h0',hr0,hc0⟩
   (with_reducible refine(Kb.out W0 h0').mono ?_)
   rintro e w1 ⟨rfl,hb1⟩
   have hr1:=hr0.below hb1 hr0.lt
   have hc1:=hc0.below hb1 hc0.lt
   have hbw:=h0'.trans (hb1.mono h0'.size)
   have y0:=cell_later hbw x0;have y1:=cell_later hbw x1;have y2:=cell_later hbw x2;have y3:=cell_later hbw x3
   have d0:=hc1.cell 0;have d1:=hc1.cell 1;have d2:=hc1.cell 2;have d3:=hc1.cell 3
   have f0:=hc1.free 0;have f1:=hc1.free 1;have f2:=hc1.free 2;have f3:=hc1.free 3
   have Hr1:=Lib.hid hr1;have Hc1:=Lib.hid hc1;have Hbw:=Lib.hid hbw
   clear h0' hr0 hc0 hb1 hr1 hc1 hbw x0 x1 x2 x3
   go_wp2_with fail
   refine wp_name (fun u=>Below w.heap.size w u∧Bx u w.heap.size 100 #[.int .i64 0,.slice none 0 0,.int .i64 0,.slice none 0 0]∧Bx u (w.heap.size+1) 100 #[.int .i64 cp,.slice qa ck.length qc,.int .i64 ctat,.slice qa' ch.length qc']) ⟨(((Hbw.out.setCell (p:=⟨w.heap.size+1,0,none⟩) (Nat.le_succ _) _).setCell (p:=⟨w.heap.size+1,1,none⟩) (Nat.le_succ _) _).setCell (p:=⟨w.heap.size+1,2,none⟩) (Nat.le_succ _) _).setCell (p:=⟨w.heap.size+1,3,none⟩) (Nat.le_succ _) _,(((Hr1.out.setCell_ne ⟨w.heap.size+1,0,none⟩ _ (Nat.ne_of_lt (Nat.lt_succ_self _))).setCell_ne ⟨w.heap.size+1,1,none⟩ _ (Nat.ne_of_lt (Nat.lt_succ_self _))).setCell_ne ⟨w.heap.size+1,2,none⟩ _ (Nat.ne_of_lt (Nat.lt_succ_self _))).setCell_ne ⟨w.heap.size+1,3,none⟩ _ (Nat.ne_of_lt (Nat.lt_succ_self _)),Hc1.out.set4⟩ ?_
   clear y0 y1 y2 y3 d0 d1 d2 d3 f0 f1 f2 f3 Hr1 Hc1 Hbw
   rintro u ⟨hbu,hru,hcu⟩
   have d0:=hcu.cell 0;have d1:=hcu.cell 1;have d2:=hcu.cell 2;have d3:=hcu.cell 3
   have r0:=hru.cell 0;have r1:=hru.cell 1;have r2:=hru.cell 2;have r3:=hru.cell 3
   have g0:=hru.free 0;have g1:=hru.free 1;have g2:=hru.free 2;have g3:=hru.free 3
   have Hbu:=Lib.hid hbu
   clear hbu hru hcu
   go_region
   all_goals
     go_wp2_with fail
     exact bodyPost_ret (v:= .tuple #[.int .i64 (F:Nat),.bool true,.agg (cellA ⟨cp,ck,ctat,ch⟩ (.slice qa ck.length qc) (.slice qa' ch.length qc'))]) (by simp [results,Tryz.results100,go_sem,r0,r1,r2,r3]) rfl ⟨_,_,_,_,_,_,rfl,Hx.out.1,Hx.out.2,Hok.out,(((Hbu.out.drew.setCell (p:=⟨w.heap.size,0,none⟩) (Nat.le_refl _) _).setCell (p:=⟨w.heap.size,1,none⟩) (Nat.le_refl _) _).setCell (p:=⟨w.heap.size,2,none⟩) (Nat.le_refl _) _).setCell (p:=⟨w.heap.size,3,none⟩) (Nat.le_refl _) _⟩
 |false=>
   have hn:=hnt ht
   rw[ht]at Kb
   have Hn:=Lib.hid hn
   clear hcell hxo hr hk hcok hnt hyt okt hwf hxs ht hc1 hn
   generalize hC:findCell L pol key=C at*
   have hC':=Hn.out
   subst hC'
   generalize findAt L pol key=F at*
   clear hC
   go_enter Tryz.func100,Tryz.ntmps100
   go_wp2_with fail
   refine calls_name (fun u=>Below w.heap.size w u∧Bx u w.heap.size 100 #[.int .i64 0,.slice none 0 0,.int .i64 0,.slice none 0 0]∧Bx u (w.heap.size+1) 100 #[.int .i64 pol,.slice ka key.length kc,.int .i64 0,.slice none 0 0]) ⟨below_allocs [_,_] w,bx_allocs w [_,_] 0 rfl,bx_allocs w [_,_] 1 rfl⟩ ?_
   rintro W0 ⟨h0',hr0,hc0⟩
   (with_reducible refine(Kb.out W0 h0').mono ?_)
   rintro e w1 ⟨rfl,hb1⟩
   have hr1:=hr0.below hb1 hr0.lt
   have hc1:=hc0.below hb1 hc0.lt
   have hbw:=h0'.trans (hb1.mono h0'.size)
   clear h0' hr0 hc0 hb1
   go_wp2_with fail
   refine wp_name (fun u=>Below w.heap.size w u∧Bx u w.heap.size 100 #[.int .i64 0,.slice none 0 0,.int .i64 0,.slice none 0 0]∧Bx u (w.heap.size+1) 100 #[.int .i64 pol,.slice ka key.length kc,.int .i64 0,.slice none 0 0]) ⟨hbw,hr1,hc1⟩ ?_
   clear hbw hr1 hc1
   rintro u ⟨hbu,hru,hcu⟩
   have d0:=hcu.cell 0;have d1:=hcu.cell 1;have d2:=hcu.cell 2;have d3:=hcu.cell 3
   have r0:=hru.cell 0;have r1:=hru.cell 1;have r2:=hru.cell 2;have r3:=hru.cell 3
   have g0:=hru.free 0;have g1:=hru.free 1;have g2:=hru.free 2;have g3:=hru.free 3
   have Hbu:=Lib.hid hbu
   clear hbu hru hcu
   go_region
   all_goals
     go_wp2_with fail
     exact bodyPost_ret (v:= .tuple #[.int .i64 (F:Nat),.bool false,.agg (cellA ⟨pol,key,0,[]⟩ (.slice ka key.length kc) (.slice none 0 0))]) (by simp [results,Tryz.results100,go_sem,r0,r1,r2,r3]) rfl ⟨_,_,_,_,_,_,rfl,Hk.out,Row.nil _ _ _ none 0 (by decide),Hok.out,(((Hbu.out.drew.setCell (p:=⟨w.heap.size,0,none⟩) (Nat.le_refl _) _).setCell (p:=⟨w.heap.size,1,none⟩) (Nat.le_refl _) _).setCell (p:=⟨w.heap.size,2,none⟩) (Nat.le_refl _) _).setCell (p:=⟨w.heap.size,3,none⟩) (Nat.le_refl _) _⟩
end
end Go.Proofs.YtemnhpdjoimjbaaGreatDoor
