import Derived.Test.YtemnhpdjoimjbaaGreatDoorTw09
import Derived.Shelf.Spec.SlicesInsert
import Derived.Lib.AppendZerosOnto
import Derived.Laws.CopyRow
import Derived.Laws.CopyOwn
namespace Go.Proofs.YtemnhpdjoimjbaaGreatDoor
open Go.RowKit Top
set_option linter.unusedVariables false
theorem run_copy_rowK {P:Program} (w:World) (dT sT ty elem:TypeId) (k:Nat) (g o dLen dCap:Nat) (a:Addr) (sLen sCap:Nat) (cur:Array Value) (t:TypeId) (cs:List Value)
   (hu:P.underlying dT=some (.slice elem)) (hs:(P.info? elem).map (·.size)=some k)
   (hg:w.heap[g]? =some (.cells cur t (0,0))) (hn:cs.length=Nat.min sLen dLen*k)
   (hsrc: ∀j v,cs[j]? =some v→w.cell? (a.add j)=some v) (hfit:o+cs.length≤cur.size) (h1: ∀v∈cs,v.oneCell'=true):
   (Builtin.copy_ #[dT,sT] ty #[.slice (some ⟨g,o,none⟩) dLen dCap,.slice (some a) sLen sCap]).run P w=
     .ok (goInt (Nat.min sLen dLen)) (w.setRow g (splice cur.toList o cs).toArray):=by
 have hl:=run_loadCells_list (P:=P) w a cs hsrc
 have hst:=run_storeCells_at P g o t cs 0 cur w hg (by simpa using hfit) h1
 cases hq:P.info? elem with
 |none=>simp [hq]at hs
 |some i=>
   have hi:i.size=k:=by simpa [hq]using hs
   simp [Builtin.copy_,run_underlying hu,Builtin.lenOf,Builtin.firstCells,sizeOf,typeInfo,hq,hi,←hn,hl,hst,splice]
theorem splice_insert {α:Type} (cur xs news:List α) (a k:Nat) (ha:a≤xs.length) (hk:news.length=k) (hfit:xs.length+k≤cur.length) (hx:cur.take xs.length=xs):
   (splice (splice cur (a+k) (xs.drop a)) a news).take (xs.length+k)=xs.take a++(news++xs.drop a):=by
 have hx1: ∀b,b≤xs.length→cur.take b=xs.take b:=fun b hb=>by
   conv=>rhs;rw[← hx]
   rw[List.take_take,Nat.min_eq_left hb]
 have hd:(xs.drop a).length=xs.length-a:=List.length_drop
 have e1:(splice cur (a+k) (xs.drop a)).take a=xs.take a:=by
   unfold splice
   rw[List.take_append_of_le_length (by rw[List.length_take];omega),List.take_take,Nat.min_eq_left (by omega),hx1 a ha]
 have e2:(splice cur (a+k) (xs.drop a)).drop (a+k)=xs.drop a++cur.drop (a+k+(xs.drop a).length):=by
   unfold splice
   rw[List.drop_append,List.length_take,Nat.min_eq_left (by omega),Nat.sub_self,List.drop_zero,List.drop_eq_nil_of_le (by rw[List.length_take];omega),List.nil_append]
 show((splice cur (a+k) (xs.drop a)).take a++(news++(splice cur (a+k) (xs.drop a)).drop (a+news.length))).take (xs.length+k)=_
 rw[e1,hk,e2,←List.append_assoc,←List.append_assoc,List.take_append_of_le_length (by simp only[List.length_append,List.length_take,hd,hk];omega)]
 rw[List.take_of_length_le (by simp only[List.length_append,List.length_take,hd,hk];omega),List.append_assoc]
theorem info_cell :(Tryz.prog.info? 100).map (fun i=>(i.zero,i.size,i.bytes))=some (some (.agg #[.int .i64 0,.slice none 0 0,.int .i64 0,.slice none 0 0]),4,64):=by kernel_rfl
set_option maxHeartbeats 4000000 in
set_option maxRecDepth 100000 in
theorem insert_cell_end (base:Nat) (v:Value) (n:Nat) (xs:List Value) (vb:Nat) (news:List Value) (w:World) (h:w.ownsRow base 100 4 v n xs) (hv: ∃a c,v= .slice a n c) (hb:w.heap[vb]? =some (.cells news.toArray 100 (0,0))) (hnb: ∀g,v.ownBlock=some g→g≠vb) (hl:news.length=4) (h1: ∀u∈news,u.oneCell'=true) (hbig:n<1048577) (hB:base≤w.heap.size):
   Calls Tryz.prog 164 #[v,.int .i64 n,.slice (some ⟨vb,0,none⟩) 1 1] w fun e w'=> ∃a c,e= .returned (.slice a (n+1) c)∧w'.ownsRow base 100 4 (.slice a (n+1) c) (n+1) (xs++news)∧Below base w w'∧(∀k,k<w.heap.size→Value.ownBlock v≠some k→w'.heap[k]? =w.heap[k]?):=by
 obtain⟨i0,hi,hz0,hz1,hz2⟩:=info_parts info_cell
 have H:=Lib.hid h;have Hb:=Lib.hid hb;have Hl:=Lib.hid hl;have H1:=Lib.hid h1;have HB:=Lib.hid hB
 have Hsrc:Hid (∀j u,news[j]? =some u→w.cell? (Addr.add ⟨vb,0,none⟩ j)=some u):=fun j u hj=>by
   rw[Addr.add_lit,Nat.zero_add]
   show w.cell? _=_
   have hlt:=(List.getElem?_eq_some_iff.1 hj).1
   simp [World.cell?,Hb.out,hj]
 have Hlt:Hid (∀g,v.ownBlock=some g→base≤g∧g<w.heap.size):=h.lt
 obtain⟨a,c,rfl⟩:=hv
 have hcap:n≤c:=by
   rcases h.2 with ⟨e,e2⟩|⟨g,cap,cur,e,_,_,h3,_⟩
   · injection e with _ e3 e4;omega
   · injection e with _ _ e4;omega
 have hz:a=none→n=0∧c=0:=by
   rintro rfl
   rcases h.2 with ⟨e,e2⟩|⟨g,cap,cur,e,_⟩
   · injection e with _ e3 e4;exact⟨e2,e4⟩
   · injection e with e4;cases e4
 have ha: ∀p,a=some p→ ∃g,p=⟨g,0,none⟩:=by
   rintro p rfl
   rcases h.2 with ⟨e,e2⟩|⟨g,cap,cur,e,_⟩
   · injection e with e3;cases e3
   · injection e with e3;injection e3 with e3;exact⟨g,e3⟩
 clear h hb hl h1 hB
 go_enter Tryz.func164,Tryz.ntmps164
 have fin: ∀v' w1,w1.ownsRow base 100 4 v' (n+1) (xs++news)→w.grownBy w1 (Value.slice a n c).ownBlock→ ∃a' c',v'= .slice a' (n+1) c'∧w1.ownsRow base 100 4 (.slice a' (n+1) c') (n+1) (xs++news)∧Below base w w1∧(∀k,k<w.heap.size→Value.ownBlock (.slice a n c)≠some k→w1.heap[k]? =w.heap[k]?):=by
   intro v' w1 hown hgrow
   have hbel:Below base w w1:=⟨hgrow.os,hgrow.tape,hgrow.output,hgrow.size,fun k hk=>hgrow.block k (by have:=HB.out;omega) (fun e=>by have:=(Hlt.out k e.symm).1;omega)⟩
   rcases id hown.2 with ⟨e,e2⟩|⟨g,cap,cur,rfl,_⟩
   · omega
   · exact⟨_,_,rfl,hown,hbel,fun k hk hne=>hgrow.block k hk (fun e=>hne e.symm)⟩
 cases a with
 |none=>
   obtain⟨rfl,rfl⟩:=hz rfl
   go_wp2_with (at_builtin;refine wpList_append_own _ rfl _ _ 64 rfl base 100 i0 (.agg #[.int .i64 0,.slice none 0 0,.int .i64 0,.slice none 0 0]) 4 64 Tryz.underlying64 hi hz0 hz1 hz2 rfl (by decide) _ _ _ rfl H.out ⟨vb,0,none⟩ 1 1 news rfl (by rw[Hl.out]) Hsrc.out H1.out (by unfold maxLen;omega) (by omega) HB.out ?_;intro v' w1 hown hgrow hnil;obtain⟨a',c',rfl,h5,h6⟩:=fin v' w1 hown hgrow)
   go_ret
   exact⟨a',c',rfl,h5,h6⟩
 |some p=>
   obtain⟨g,rfl⟩:=ha p rfl
   have hlen:n≤n:=Nat.le_refl n
   go_wp2_with (at_builtin;refine wpList_append_own _ rfl _ _ 64 rfl base 100 i0 (.agg #[.int .i64 0,.slice none 0 0,.int .i64 0,.slice none 0 0]) 4 64 Tryz.underlying64 hi hz0 hz1 hz2 rfl (by decide) _ _ _ rfl H.out ⟨vb,0,none⟩ 1 1 news rfl (by rw[Hl.out]) Hsrc.out H1.out (by unfold maxLen;omega) (by omega) HB.out ?_;intro v' w1 hown hgrow hnil;obtain⟨a',c',rfl,h5,h6⟩:=fin v' w1 hown hgrow)
   all_goals
     go_ret
     exact⟨a',c',rfl,h5,h6⟩
theorem overlaps_cell_ (w:World) (g vb o lb cb:Nat) (cur news:Array Value) (hg:w.heap[g]? =some (.cells cur 100 (0,0))) (hv:w.heap[vb]? =some (.cells news 100 (0,0))) (hne:vb≠g) (h0:cur.size≠0):
   (callFunc 173 #[.slice (some ⟨vb,0,none⟩) 1 1,.slice (some ⟨g,o,none⟩) lb cb]).run Tryz.prog w= .ok (.value (.bool false)) w:=by
 rw[run_callFunc_extern Tryz.func173 (by kernel_rfl) (by kernel_rfl) (by kernel_rfl) (e:=Extern.SlicesOverlaps.overlaps #[64,64] #[4]) (by kernel_rfl),
   Lib.run_overlaps_apart w 64 4 100 Tryz.underlying64 4 Tryz.sizeOf100 ⟨vb,0,none⟩ ⟨g,o,none⟩ 1 1 lb cb hne 100 100 news.size cur.size (by simp [World.shape?,hv]) (by simp [World.shape?,hg]) h0 (by simp [World.frozen?,hv]) (by simp [World.frozen?,hv])]
 rfl
set_option maxHeartbeats 4000000 in
set_option maxRecDepth 100000 in
theorem insert_cell_shift (base g cap n i:Nat) (xs:List Value) (vb:Nat) (news:List Value) (w:World) (h:w.ownsRow base 100 4 (.slice (some ⟨g,0,none⟩) n cap) n xs) (hb:w.heap[vb]? =some (.cells news.toArray 100 (0,0))) (hnb:vb≠g) (hl:news.length=4) (h1: ∀u∈news,u.oneCell'=true) (h2: ∀u∈xs,u.oneCell'=true) (hi:i<n) (hroom:n+1≤cap) (hbig:n<1048577):
   Calls Tryz.prog 164 #[.slice (some ⟨g,0,none⟩) n cap,.int .i64 i,.slice (some ⟨vb,0,none⟩) 1 1] w fun e w'=> ∃a c,e= .returned (.slice a (n+1) c)∧w'.ownsRow base 100 4 (.slice a (n+1) c) (n+1) (xs.take (i*4)++(news++xs.drop (i*4)))∧Below base w w'∧(∀k,k<w.heap.size→Value.ownBlock (.slice (some ⟨g,0,none⟩) n cap)≠some k→w'.heap[k]? =w.heap[k]?):=by
 obtain⟨i0,hi0,hz0,hz1,hz2⟩:=info_parts info_cell
 have hsz:(Tryz.prog.info? 100).map (·.size)=some 4:=by rw[hi0];simp [hz1]
 obtain⟨hxl,hx⟩:=h
 have hxl:xs.length=n*4:=by simpa using hxl
 obtain⟨cur,hbg,hg,hcap,hmax,hcs,htake⟩: ∃cur:Array Value,base≤g∧w.heap[g]? =some (.cells cur 100 (0,0))∧n≤cap∧cap≤maxLen∧cur.size=cap*4∧cur.toList.take (n*4)=xs:=by
   rcases hx with ⟨e,_⟩|⟨g',cap',cur,e,h1,h2,h3,h4,h5,h6⟩
   · cases e
   · injection e with e1 e2 e3
     injection e1 with e1
     injection e1 with e1
     subst e1 e3
     exact⟨cur,h1,h2,h3,h4,by simpa using h5,by simpa using h6⟩
 have hc63:cap≤9223372036854775807:=by unfold maxLen at hmax;omega
 have hdl:(xs.drop (i*4)).length=(n-i)*4:=by rw[List.length_drop,hxl]<;>omega
 have hw1:IntKind.i64.wrap ((i:Int)+1)=(i:Int)+1:=by rw[IntKind.wrap_i64];omega
 have hw2:IntKind.i64.wrap ((n:Int)+1)=(n:Int)+1:=by rw[IntKind.wrap_i64];omega
 have hb1:(0:Int)≤(i:Int)+1:=by omega
 have hin:i≤n:=by omega
 have hz: ¬((i:Int)=(n:Int)):=by omega
 have hb2: ¬(cap=i+1):=by omega
 have hb4: ¬(cap=i):=by omega
 have hb5:(i:Int)≤(n:Int)+1:=by omega
 have htn:((i:Int)+1).toNat=i+1:=by omega
 have hm1:Nat.min (n+1-i) (n-i)=n-i:=by show min _ _=_;omega
 have hm2:Nat.min 1 (n+1-i)=1:=by show min _ _=_;omega
 have hcp1: ∀W:World,W.heap[g]? =some (.cells cur 100 (0,0))→ ∀ty dc sc,(Builtin.copy_ #[64,64] ty #[.slice (some ⟨g,(i+1)*4,none⟩) (n-i) dc,.slice (some ⟨g,i*4,none⟩) (n+1-i) sc]).run Tryz.prog W= .ok (goInt ((n-i:Nat):Int)) (W.setRow g (splice cur.toList ((i+1)*4) (xs.drop (i*4))).toArray):=fun W hg ty dc sc=>by
   have:=run_copy_rowK W 64 64 ty 100 4 g ((i+1)*4) (n-i) dc ⟨g,i*4,none⟩ (n+1-i) sc cur 100 (xs.drop (i*4)) Tryz.underlying64 hsz hg (by rw[hdl,hm1]<;>omega)
     (fun j v hj=>by
       rw[Addr.add_lit,World.cell?,hg]
       rw[List.getElem?_drop,←htake,List.getElem?_take]at hj
       split at hj
       · simpa using hj
       · cases hj) (by rw[hdl,hcs];omega) (fun v hv=>h2 v (List.mem_of_mem_drop hv))
   rw[this,hm1]
 have hcp2: ∀(W:World) (cur1:List Value),cur1.length=cap*4→W.heap[g]? =some (.cells cur1.toArray 100 (0,0))→W.heap[vb]? =some (.cells news.toArray 100 (0,0))→ ∀ty dc,(Builtin.copy_ #[64,64] ty #[.slice (some ⟨g,i*4,none⟩) (n+1-i) dc,.slice (some ⟨vb,0,none⟩) 1 1]).run Tryz.prog W= .ok (goInt 1) (W.setRow g (splice cur1 (i*4) news).toArray):=fun W cur1 hl1 hg hv ty dc=>by
   have:=run_copy_rowK W 64 64 ty 100 4 g (i*4) (n+1-i) dc ⟨vb,0,none⟩ 1 1 cur1.toArray 100 news Tryz.underlying64 hsz hg (by rw[hl,hm2]<;>omega)
     (fun j v hj=>by
       rw[Addr.add_lit,World.cell?,hv]
       simpa using hj) (by rw[hl];simp only[List.size_toArray];omega) h1
   rw[this,hm2]
   rfl
 have hs1:(splice cur.toList ((i+1)*4) (xs.drop (i*4))).length=cap*4:=by rw[length_splice _ _ _ (by rw[hdl,Array.length_toList,hcs];omega),Array.length_toList,hcs]
 have hov: ∀lb cb o,(callFunc 173 #[.slice (some ⟨vb,0,none⟩) 1 1,.slice (some ⟨g,o,none⟩) lb cb]).run Tryz.prog w= .ok (.value (.bool false)) w:=fun lb cb o=>overlaps_cell_ w g vb o lb cb cur news.toArray hg hb hnb (by rw[hcs];omega)
 obtain⟨R1,hR1⟩: ∃R1,R1=splice cur.toList ((i+1)*4) (xs.drop (i*4)):=⟨_,rfl⟩
 rw[← hR1]at hcp1 hs1
 have hfin:(splice R1 (i*4) news).take ((n+1)*4)=xs.take (i*4)++(news++xs.drop (i*4)):=by
   have:=splice_insert cur.toList xs news (i*4) 4 (by rw[hxl];omega) hl (by rw[hxl,Array.length_toList,hcs];omega) (by rw[hxl];exact htake)
   rw[hxl,show i*4+4=(i+1)*4 by omega,show n*4+4=(n+1)*4 by omega,←hR1]at this
   exact this
 have hl2:(splice R1 (i*4) news).length=cap*4:=by rw[length_splice _ _ _ (by rw[hs1,hl];omega),hs1]
 have hvd:w.drew.heap[vb]? =some (.cells news.toArray 100 (0,0)):=hb
 have hv1:(w.drew.setRow g R1.toArray).heap[vb]? =some (.cells news.toArray 100 (0,0)):=by rw[setRow_other _ _ _ _ hnb];exact hb
 have hg1:(w.drew.setRow g R1.toArray).heap[g]? =some (.cells R1.toArray 100 (0,0)):=setRow_heap w.drew g cur _ 100 _ hg
 have Hfin:Hid (∀W:World,W.heap[g]? =some (.cells R1.toArray 100 (0,0))→RowKit.Below base w W→(W.setRow g (splice R1 (i*4) news).toArray).ownsRow base 100 4 (.slice (some ⟨g,0,none⟩) (n+1) cap) (n+1) (xs.take (i*4)++(news++xs.drop (i*4)))∧RowKit.Below base w (W.setRow g (splice R1 (i*4) news).toArray)):=fun W hW hbl=>
   ⟨⟨by rw[← hfin,List.length_take,hl2];omega,.inr ⟨g,cap,_,rfl,hbg,setRow_heap W g _ _ 100 _ hW,hroom,hmax,by rw[List.size_toArray,hl2]<;>omega,by simpa using hfin⟩⟩,below_setRow hbl hbg _⟩
 have Hb1:Hid (RowKit.Below base w (w.drew.setRow g R1.toArray)):=below_setRow ((RowKit.Below.refl base w).drew) hbg _
 have mixed:Tryz.prog.follows Departure.mixedOrders=true:=by kernel_rfl
 have Hcp1:=Lib.hid (hcp1 w.drew hg);have Hcp2:=Lib.hid hcp2
 have Hs1:=Lib.hid hs1;have Hg1:=Lib.hid hg1;have Hv1:=Lib.hid hv1
 clear hcp1 hcp2 hfin hl2 hs1 hg1 hv1 hvd hR1 hdl hxl hx htake hcs hg hb h1 h2 hsz hz0 hz1 hz2 hi0 hl hnb hmax
 go_enter Tryz.func164,Tryz.ntmps164
 go_wp2_with (simp only[hov])
 go_region_law_o (refine step_copy_runI rfl _ _ 64 64 rfl (.slice (some ⟨g,(i+1)*4,none⟩) (n-i) (cap-(i+1))) (.slice (some ⟨g,i*4,none⟩) (n+1-i) (cap-i)) (by simp [Act.eval,Act.put]) (by simp [Act.eval,Act.put]) (Hcp1.out 3 (cap-(i+1)) (cap-i)) ?_)
 have hc2:=Hcp2.out (w.drew.setRow g R1.toArray) R1 Hs1.out Hg1.out Hv1.out 3 (cap-i)
 go_wp2_with (simp only[hc2])
 go_ret
 exact⟨_,_,rfl,(Hfin.out _ Hg1.out Hb1.out).1,(Hfin.out _ Hg1.out Hb1.out).2,fun k _ hne=>by
   have hkg:k≠g:=fun e=>hne (by rw[e];rfl)
   rw[setRow_other _ _ _ _ hkg,setRow_other _ _ _ _ hkg]
   rfl⟩
set_option maxHeartbeats 4000000 in
set_option maxRecDepth 100000 in
theorem insert_cell_grow (base g cap n i:Nat) (xs:List Value) (vb:Nat) (news:List Value) (w:World) (h:w.ownsRow base 100 4 (.slice (some ⟨g,0,none⟩) n cap) n xs) (hb:w.heap[vb]? =some (.cells news.toArray 100 (0,0))) (hl:news.length=4) (h1: ∀u∈news,u.oneCell'=true) (h2: ∀u∈xs,u.oneCell'=true) (hi:i<n) (hroom:cap<n+1) (hbig:n<1048577) (hB:base≤w.heap.size):
   Calls Tryz.prog 164 #[.slice (some ⟨g,0,none⟩) n cap,.int .i64 i,.slice (some ⟨vb,0,none⟩) 1 1] w fun e w'=> ∃a c,e= .returned (.slice a (n+1) c)∧w'.ownsRow base 100 4 (.slice a (n+1) c) (n+1) (xs.take (i*4)++(news++xs.drop (i*4)))∧Below base w w'∧(∀k,k<w.heap.size→Value.ownBlock (.slice (some ⟨g,0,none⟩) n cap)≠some k→w'.heap[k]? =w.heap[k]?):=by
 obtain⟨i0,hi0,hz0,hz1,hz2⟩:=info_parts info_cell
 have hsz:(Tryz.prog.info? 100).map (·.size)=some 4:=by rw[hi0];simp [hz1]
 obtain⟨hxl,hx⟩:=h
 have hxl:xs.length=n*4:=by simpa using hxl
 obtain⟨cur,hbg,hg,hcap,hmax,hcs,htake⟩: ∃cur:Array Value,base≤g∧w.heap[g]? =some (.cells cur 100 (0,0))∧n≤cap∧cap≤maxLen∧cur.size=cap*4∧cur.toList.take (n*4)=xs:=by
   rcases hx with ⟨e,_⟩|⟨g',cap',cur,e,h1,h2,h3,h4,h5,h6⟩
   · cases e
   · injection e with e1 e2 e3
     injection e1 with e1
     injection e1 with e1
     subst e1 e3
     exact⟨cur,h1,h2,h3,h4,by simpa using h5,by simpa using h6⟩
 have hxc: ∀j v,xs[j]? =some v→w.cell? ⟨g,j,none⟩=some v:=fun j v hj=>by
   rw[World.cell?,hg]
   rw[← htake,List.getElem?_take]at hj
   split at hj
   · simpa using hj
   · cases hj
 have hbw:g<w.heap.size:=lt_of_block hg
 have hvw:vb<w.heap.size:=lt_of_block hb
 have hkk:IntKind.i64.wrap ((n:Int)+1-(i:Int))=((n+1-i:Nat):Int):=by rw[IntKind.wrap_i64];omega
 have hik:i+(n+1-i)=n+1:=by omega
 have hold:(Builtin.firstCells i0.size i (.slice (some ⟨g,0,none⟩) i cap)).run Tryz.prog w.drew= .ok (xs.take (i*4)).toArray w.drew:=by
   rw[hz1]
   exact run_firstCells_some w.drew 4 i ⟨g,0,none⟩ i cap (xs.take (i*4)) (by rw[List.length_take,hxl]<;>omega) (fun j v hj=>by
     rw[Addr.add_lit,Nat.zero_add]
     rw[List.getElem?_take]at hj
     split at hj
     · exact hxc j v hj
     · cases hj)
 obtain⟨G,hG⟩: ∃G,G=grownCap w (n+1) cap 100:=⟨_,rfl⟩
 obtain⟨W1,hW1⟩: ∃W1,W1=w.drew.alloc (.cells ((xs.take (i*4)).toArray++Builtin.zeroCells (.agg #[.int .i64 0,.slice none 0 0,.int .i64 0,.slice none 0 0]:Value).cells (n+1-i)++Builtin.zeroCells (.agg #[.int .i64 0,.slice none 0 0,.int .i64 0,.slice none 0 0]:Value).cells (G-(n+1))) 100):=⟨_,rfl⟩
 have hrz:(Builtin.append_ #[64,3] 64 #[.slice (some ⟨g,0,none⟩) i cap,.int .i64 ((n+1-i:Nat):Int)]).run Tryz.prog w=
     .ok (.slice (some ⟨w.heap.size,0,none⟩) (n+1) G) W1:=by
   have h:=Lib.run_append_grow_zeros w 64 3 64 100 i0 _ .i64 .i64 Tryz.underlying64 Tryz.underlying3 hi0 hz0 (some ⟨g,0,none⟩) i cap (xs.take (i*4)) hold (n+1-i) (by omega) (by rw[hz1];decide) (by omega) (by omega) (by rw[hz2];omega) (by rw[hz2,hik];exact growslice_fits hroom (by omega))
   rw[hik]at h
   rw[hW1,hG]
   exact h
 have hGn:n+1≤G:=by rw[hG];exact grownCap_ge w _ _ _
 have hGm:G≤maxLen:=by rw[hG];exact grownCap_le_maxLen w _ _ _ (by unfold maxLen;omega)
 have hG63:G≤9223372036854775807:=by unfold maxLen at hGm;omega
 obtain⟨ROW,hROW⟩: ∃ROW:List Value,ROW=xs.take (i*4)++((Builtin.zeroCells (.agg #[.int .i64 0,.slice none 0 0,.int .i64 0,.slice none 0 0]:Value).cells (n+1-i)).toList++(Builtin.zeroCells (.agg #[.int .i64 0,.slice none 0 0,.int .i64 0,.slice none 0 0]:Value).cells (G-(n+1))).toList):=⟨_,rfl⟩
 have hrow:W1.heap[w.heap.size]? =some (.cells ROW.toArray 100 (0,0)):=by
   rw[hW1,hROW]
   have:=heap_alloc_new w.drew (.cells ((xs.take (i*4)).toArray++Builtin.zeroCells (.agg #[.int .i64 0,.slice none 0 0,.int .i64 0,.slice none 0 0]:Value).cells (n+1-i)++Builtin.zeroCells (.agg #[.int .i64 0,.slice none 0 0,.int .i64 0,.slice none 0 0]:Value).cells (G-(n+1))) 100)
   rw[show w.drew.heap.size=w.heap.size from rfl]at this
   rw[this]
   congr 2
   apply Array.ext'
   simp
 have hRl:ROW.length=G*4:=by
   rw[hROW]
   simp only[List.length_append,List.length_take,hxl,Array.length_toList,size_zeroCells]
   rw[show (.agg #[.int .i64 0,.slice none 0 0,.int .i64 0,.slice none 0 0]:Value).cells.size=4 from rfl]
   omega
 have hRt:ROW.take (i*4)=xs.take (i*4):=by
   rw[hROW,List.take_append_of_le_length (by rw[List.length_take,hxl];omega),List.take_of_length_le (by rw[List.length_take];omega)]
 have hold1: ∀k,k<w.heap.size→W1.heap[k]? =w.heap[k]? :=fun k hk=>by rw[hW1];exact Below.heap_alloc w.drew _ k hk
 have hb1w:RowKit.Below base w W1:=by rw[hW1];exact((RowKit.Below.refl base w).drew).alloc (show base≤w.drew.heap.size from hB) _
 have hdl:(xs.drop (i*4)).length=(n-i)*4:=by rw[List.length_drop,hxl]<;>omega
 have hm2:Nat.min 1 (n+1-i)=1:=by show min _ _=_;omega
 have hcA:(Builtin.copy_ #[64,64] 3 #[.slice (some ⟨w.heap.size,i*4,none⟩) (n+1-i) (G-i),.slice (some ⟨vb,0,none⟩) 1 1]).run Tryz.prog W1= .ok (goInt 1) (W1.setRow w.heap.size (splice ROW (i*4) news).toArray):=by
   have:=run_copy_rowK W1 64 64 3 100 4 w.heap.size (i*4) (n+1-i) (G-i) ⟨vb,0,none⟩ 1 1 ROW.toArray 100 news Tryz.underlying64 hsz hrow (by rw[hl,hm2]<;>omega)
     (fun j v hj=>by
       rw[Addr.add_lit,World.cell?,hold1 _ hvw,hb]
       simpa using hj) (by rw[hl,List.size_toArray,hRl];omega) h1
   rw[this,hm2]
   rfl
 obtain⟨R2,hR2⟩: ∃R2,R2=splice ROW (i*4) news:=⟨_,rfl⟩
 rw[← hR2]at hcA
 have hR2l:R2.length=G*4:=by rw[hR2,length_splice _ _ _ (by rw[hRl,hl];omega),hRl]
 obtain⟨W2,hW2⟩: ∃W2,W2=W1.setRow w.heap.size R2.toArray:=⟨_,rfl⟩
 rw[← hW2]at hcA
 have hrow2:W2.heap[w.heap.size]? =some (.cells R2.toArray 100 (0,0)):=by rw[hW2];exact setRow_heap W1 _ _ _ 100 _ hrow
 have hold2: ∀k,k<w.heap.size→W2.heap[k]? =w.heap[k]? :=fun k hk=>by rw[hW2,setRow_other _ _ _ _ (by omega)];exact hold1 k hk
 have hb2w:RowKit.Below base w W2:=by rw[hW2];exact below_setRow hb1w hB _
 have hm1:Nat.min (n-i) (n-i)=n-i:=by show min _ _=_;omega
 have hcB:(Builtin.copy_ #[64,64] 3 #[.slice (some ⟨w.heap.size,(i+1)*4,none⟩) (n-i) (G-(i+1)),.slice (some ⟨g,i*4,none⟩) (n-i) (cap-i)]).run Tryz.prog W2.drew= .ok (goInt ((n-i:Nat):Int)) (W2.drew.setRow w.heap.size (splice R2 ((i+1)*4) (xs.drop (i*4))).toArray):=by
   have:=run_copy_rowK W2.drew 64 64 3 100 4 w.heap.size ((i+1)*4) (n-i) (G-(i+1)) ⟨g,i*4,none⟩ (n-i) (cap-i) R2.toArray 100 (xs.drop (i*4)) Tryz.underlying64 hsz hrow2 (by rw[hdl,hm1]<;>omega)
     (fun j v hj=>by
       rw[List.getElem?_drop]at hj
       rw[Addr.add_lit,World.cell?,show W2.drew.heap=W2.heap from rfl,hold2 _ hbw]
       have:=hxc _ v hj
       rwa [World.cell?]at this) (by rw[hdl,List.size_toArray,hR2l];omega) (fun v hv=>h2 v (List.mem_of_mem_drop hv))
   rw[this,hm1]
 have hfin:(splice R2 ((i+1)*4) (xs.drop (i*4))).take ((n+1)*4)=xs.take (i*4)++(news++xs.drop (i*4)):=by
   have e1:R2.take ((i+1)*4)=xs.take (i*4)++news:=by
     rw[hR2]
     unfold splice
     rw[← List.append_assoc,List.take_append_of_le_length (by rw[List.length_append,List.length_take,hRl,hl];omega),List.take_of_length_le (by rw[List.length_append,List.length_take,hRl,hl];omega),hRt]
   unfold splice
   rw[e1,List.append_assoc,←List.append_assoc news,←List.append_assoc (xs.take (i*4)),List.take_append_of_le_length (by simp only[List.length_append,List.length_take,hdl,hl,hxl];omega),List.take_of_length_le (by simp only[List.length_append,List.length_take,hdl,hl,hxl];omega)]
 have hR3l:(splice R2 ((i+1)*4) (xs.drop (i*4))).length=G*4:=by rw[length_splice _ _ _ (by rw[hR2l,hdl];omega),hR2l]
 have Hold:Hid (∀k,k<w.heap.size→(W2.drew.setRow w.heap.size (splice R2 ((i+1)*4) (xs.drop (i*4))).toArray).heap[k]? =w.heap[k]?):=fun k hk=>by rw[setRow_other _ _ _ _ (by omega)];exact hold2 k hk
 have Hfin:Hid ((W2.drew.setRow w.heap.size (splice R2 ((i+1)*4) (xs.drop (i*4))).toArray).ownsRow base 100 4 (.slice (some ⟨w.heap.size,0,none⟩) (n+1) G) (n+1) (xs.take (i*4)++(news++xs.drop (i*4)))∧RowKit.Below base w (W2.drew.setRow w.heap.size (splice R2 ((i+1)*4) (xs.drop (i*4))).toArray)):=
   ⟨⟨by rw[← hfin,List.length_take,hR3l];omega,.inr ⟨w.heap.size,G,_,rfl,hB,setRow_heap W2.drew _ _ _ 100 _ hrow2,hGn,hGm,by rw[List.size_toArray,hR3l]<;>omega,by simpa using hfin⟩⟩,below_setRow hb2w.drew hB _⟩
 obtain⟨W3,hW3⟩: ∃W3,W3=W2.drew.setRow w.heap.size (splice R2 ((i+1)*4) (xs.drop (i*4))).toArray:=⟨_,rfl⟩
 rw[← hW3]at Hfin hcB Hold
 have mixed:Tryz.prog.follows Departure.mixedOrders=true:=by kernel_rfl
 have hw2:IntKind.i64.wrap ((n:Int)+1)=(n:Int)+1:=by rw[IntKind.wrap_i64];omega
 have hw1:IntKind.i64.wrap ((i:Int)+1)=(i:Int)+1:=by rw[IntKind.wrap_i64];omega
 have hzz: ¬((i:Int)=(n:Int)):=by omega
 have hz3:(cap:Int)<(n:Int)+1:=by omega
 have hin:i≤n:=by omega
 have hb1':(0:Int)≤(i:Int)+1:=by omega
 have hb3:(i:Int)≤(n:Int):=by omega
 have hb5:(i:Int)≤(n:Int)+1:=by omega
 have htn:((i:Int)+1).toNat=i+1:=by omega
 have hGi: ¬(G=i):=by omega
 have hGim: ¬(G=i+1):=by omega
 have hci: ¬(cap=i):=by omega
 have Hrz:=Lib.hid hrz;have HcA:=Lib.hid hcA;have HcB:=Lib.hid hcB
 clear hrow hrow2 hold1 hold2 hb1w hb2w hW1 hW2 hW3 hR2 hROW hfin hR3l hR2l hRl hRt hG hold hdl hm1 hm2 hik hxc hx hxl htake hcs hg hb h1 h2 hsz hz0 hz1 hz2 hi0 hl hmax hGm hrz hcA hcB
 generalize w.heap.size=N at*
 go_enter Tryz.func164,Tryz.ntmps164
 have hrz:=Hrz.out;have hcA:=HcA.out;have hcB:=HcB.out
 go_wp2_with (first|(at_builtin;refine Lib.wpList_append_run _ rfl _ _ _ _ rfl _ _ rfl rfl _ _ hrz ?_)|simp only[hcA])
 go_region_law_o (refine step_copy_runI rfl _ _ 64 64 rfl (.slice (some ⟨N,(i+1)*4,none⟩) (n-i) (G-(i+1))) (.slice (some ⟨g,i*4,none⟩) (n-i) (cap-i)) (by simp [Act.eval,Act.put]) (by simp [Act.eval,Act.put]) HcB.out ?_)
 go_wp2
 go_ret
 exact⟨_,_,rfl,Hfin.out.1,Hfin.out.2,fun k hk _=>Hold.out k hk⟩
theorem insert_cell_any (base:Nat) (v:Value) (n i:Nat) (xs:List Value) (vb:Nat) (news:List Value) (w:World) (h:w.ownsRow base 100 4 v n xs) (hb:w.heap[vb]? =some (.cells news.toArray 100 (0,0))) (hnb: ∀g,v.ownBlock=some g→g≠vb) (hl:news.length=4) (h1: ∀u∈news,u.oneCell'=true) (h2: ∀u∈xs,u.oneCell'=true) (hi:i≤n) (hbig:n<1048577) (hB:base≤w.heap.size):
   Calls Tryz.prog 164 #[v,.int .i64 i,.slice (some ⟨vb,0,none⟩) 1 1] w fun e w'=> ∃a c,e= .returned (.slice a (n+1) c)∧w'.ownsRow base 100 4 (.slice a (n+1) c) (n+1) (xs.take (i*4)++(news++xs.drop (i*4)))∧Below base w w'∧(∀k,k<w.heap.size→Value.ownBlock v≠some k→w'.heap[k]? =w.heap[k]?):=by
 have hxl:xs.length=n*4:=by simpa using h.1
 have hv: ∃a c,v= .slice a n c:=by
   rcases h.2 with ⟨rfl,rfl⟩|⟨g,cap,cur,rfl,_⟩
   · exact⟨_,_,rfl⟩
   · exact⟨_,_,rfl⟩
 by_cases hin:i=n
 · subst hin
   have k:=insert_cell_end base v i xs vb news w h hv hb hnb hl h1 hbig hB
   rw[List.take_of_length_le (by omega),List.drop_eq_nil_of_le (by omega),List.append_nil]
   exact k
 · rcases id h.2 with ⟨rfl,rfl⟩|⟨g,cap,cur,rfl,_⟩
   · omega
   · by_cases hr:n+1≤cap
     · exact insert_cell_shift base g cap n i xs vb news w h hb (fun e=>hnb g rfl e.symm) hl h1 h2 (by omega) hr hbig
     · exact insert_cell_grow base g cap n i xs vb news w h hb hl h1 h2 (by omega) (by omega) hbig hB
theorem info_held :(Tryz.prog.info? 2).map (fun i=>(i.zero,i.size,i.bytes))=some (some (.int .i64 0),1,8):=by kernel_rfl
set_option maxHeartbeats 4000000 in
set_option maxRecDepth 100000 in
theorem insert_held_end (base:Nat) (v:Value) (n:Nat) (xs:List Value) (vb:Nat) (news:List Value) (w:World) (h:w.ownsRow base 2 1 v n xs) (hv: ∃a c,v= .slice a n c) (hb:w.heap[vb]? =some (.cells news.toArray 2 (0,0))) (hnb: ∀g,v.ownBlock=some g→g≠vb) (hl:news.length=1) (h1: ∀u∈news,u.oneCell'=true) (hbig:n<1048577) (hB:base≤w.heap.size):
   Calls Tryz.prog 170 #[v,.int .i64 n,.slice (some ⟨vb,0,none⟩) 1 1] w fun e w'=> ∃a c,e= .returned (.slice a (n+1) c)∧w'.ownsRow base 2 1 (.slice a (n+1) c) (n+1) (xs++news)∧Below base w w'∧(∀k,k<w.heap.size→Value.ownBlock v≠some k→w'.heap[k]? =w.heap[k]?):=by
 obtain⟨i0,hi,hz0,hz1,hz2⟩:=info_parts info_held
 have H:=Lib.hid h;have Hb:=Lib.hid hb;have Hl:=Lib.hid hl;have H1:=Lib.hid h1;have HB:=Lib.hid hB
 have Hsrc:Hid (∀j u,news[j]? =some u→w.cell? (Addr.add ⟨vb,0,none⟩ j)=some u):=fun j u hj=>by
   rw[Addr.add_lit,Nat.zero_add]
   show w.cell? _=_
   have hlt:=(List.getElem?_eq_some_iff.1 hj).1
   simp [World.cell?,Hb.out,hj]
 have Hlt:Hid (∀g,v.ownBlock=some g→base≤g∧g<w.heap.size):=h.lt
 obtain⟨a,c,rfl⟩:=hv
 have hcap:n≤c:=by
   rcases h.2 with ⟨e,e2⟩|⟨g,cap,cur,e,_,_,h3,_⟩
   · injection e with _ e3 e4;omega
   · injection e with _ _ e4;omega
 have hz:a=none→n=0∧c=0:=by
   rintro rfl
   rcases h.2 with ⟨e,e2⟩|⟨g,cap,cur,e,_⟩
   · injection e with _ e3 e4;exact⟨e2,e4⟩
   · injection e with e4;cases e4
 have ha: ∀p,a=some p→ ∃g,p=⟨g,0,none⟩:=by
   rintro p rfl
   rcases h.2 with ⟨e,e2⟩|⟨g,cap,cur,e,_⟩
   · injection e with e3;cases e3
   · injection e with e3;injection e3 with e3;exact⟨g,e3⟩
 clear h hb hl h1 hB
 go_enter Tryz.func170,Tryz.ntmps170
 have fin: ∀v' w1,w1.ownsRow base 2 1 v' (n+1) (xs++news)→w.grownBy w1 (Value.slice a n c).ownBlock→ ∃a' c',v'= .slice a' (n+1) c'∧w1.ownsRow base 2 1 (.slice a' (n+1) c') (n+1) (xs++news)∧Below base w w1∧(∀k,k<w.heap.size→Value.ownBlock (.slice a n c)≠some k→w1.heap[k]? =w.heap[k]?):=by
   intro v' w1 hown hgrow
   have hbel:Below base w w1:=⟨hgrow.os,hgrow.tape,hgrow.output,hgrow.size,fun k hk=>hgrow.block k (by have:=HB.out;omega) (fun e=>by have:=(Hlt.out k e.symm).1;omega)⟩
   rcases id hown.2 with ⟨e,e2⟩|⟨g,cap,cur,rfl,_⟩
   · omega
   · exact⟨_,_,rfl,hown,hbel,fun k hk hne=>hgrow.block k hk (fun e=>hne e.symm)⟩
 cases a with
 |none=>
   obtain⟨rfl,rfl⟩:=hz rfl
   go_wp2_with (at_builtin;refine wpList_append_own _ rfl _ _ 98 rfl base 2 i0 (.int .i64 0) 1 8 Tryz.underlying98 hi hz0 hz1 hz2 rfl (by decide) _ _ _ rfl H.out ⟨vb,0,none⟩ 1 1 news rfl (by rw[Hl.out]) Hsrc.out H1.out (by unfold maxLen;omega) (by omega) HB.out ?_;intro v' w1 hown hgrow hnil;obtain⟨a',c',rfl,h5,h6⟩:=fin v' w1 hown hgrow)
   go_ret
   exact⟨a',c',rfl,h5,h6⟩
 |some p=>
   obtain⟨g,rfl⟩:=ha p rfl
   have hlen:n≤n:=Nat.le_refl n
   go_wp2_with (at_builtin;refine wpList_append_own _ rfl _ _ 98 rfl base 2 i0 (.int .i64 0) 1 8 Tryz.underlying98 hi hz0 hz1 hz2 rfl (by decide) _ _ _ rfl H.out ⟨vb,0,none⟩ 1 1 news rfl (by rw[Hl.out]) Hsrc.out H1.out (by unfold maxLen;omega) (by omega) HB.out ?_;intro v' w1 hown hgrow hnil;obtain⟨a',c',rfl,h5,h6⟩:=fin v' w1 hown hgrow)
   all_goals
     go_ret
     exact⟨a',c',rfl,h5,h6⟩
theorem overlaps_held_ (w:World) (g vb o lb cb:Nat) (cur news:Array Value) (hg:w.heap[g]? =some (.cells cur 2 (0,0))) (hv:w.heap[vb]? =some (.cells news 2 (0,0))) (hne:vb≠g) (h0:cur.size≠0):
   (callFunc 177 #[.slice (some ⟨vb,0,none⟩) 1 1,.slice (some ⟨g,o,none⟩) lb cb]).run Tryz.prog w= .ok (.value (.bool false)) w:=by
 rw[run_callFunc_extern Tryz.func177 (by kernel_rfl) (by kernel_rfl) (by kernel_rfl) (e:=Extern.SlicesOverlaps.overlaps #[98,98] #[4]) (by kernel_rfl),
   Lib.run_overlaps_apart w 98 4 2 Tryz.underlying98 1 Tryz.sizeOf2 ⟨vb,0,none⟩ ⟨g,o,none⟩ 1 1 lb cb hne 2 2 news.size cur.size (by simp [World.shape?,hv]) (by simp [World.shape?,hg]) h0 (by simp [World.frozen?,hv]) (by simp [World.frozen?,hv])]
 rfl
set_option maxHeartbeats 4000000 in
set_option maxRecDepth 100000 in
theorem insert_held_shift (base g cap n i:Nat) (xs:List Value) (vb:Nat) (news:List Value) (w:World) (h:w.ownsRow base 2 1 (.slice (some ⟨g,0,none⟩) n cap) n xs) (hb:w.heap[vb]? =some (.cells news.toArray 2 (0,0))) (hnb:vb≠g) (hl:news.length=1) (h1: ∀u∈news,u.oneCell'=true) (h2: ∀u∈xs,u.oneCell'=true) (hi:i<n) (hroom:n+1≤cap) (hbig:n<1048577):
   Calls Tryz.prog 170 #[.slice (some ⟨g,0,none⟩) n cap,.int .i64 i,.slice (some ⟨vb,0,none⟩) 1 1] w fun e w'=> ∃a c,e= .returned (.slice a (n+1) c)∧w'.ownsRow base 2 1 (.slice a (n+1) c) (n+1) (xs.take (i)++(news++xs.drop (i)))∧Below base w w'∧(∀k,k<w.heap.size→Value.ownBlock (.slice (some ⟨g,0,none⟩) n cap)≠some k→w'.heap[k]? =w.heap[k]?):=by
 obtain⟨i0,hi0,hz0,hz1,hz2⟩:=info_parts info_held
 have hsz:(Tryz.prog.info? 2).map (·.size)=some 1:=by rw[hi0];simp [hz1]
 obtain⟨hxl,hx⟩:=h
 have hxl:xs.length=n:=by simpa using hxl
 obtain⟨cur,hbg,hg,hcap,hmax,hcs,htake⟩: ∃cur:Array Value,base≤g∧w.heap[g]? =some (.cells cur 2 (0,0))∧n≤cap∧cap≤maxLen∧cur.size=cap∧cur.toList.take (n)=xs:=by
   rcases hx with ⟨e,_⟩|⟨g',cap',cur,e,h1,h2,h3,h4,h5,h6⟩
   · cases e
   · injection e with e1 e2 e3
     injection e1 with e1
     injection e1 with e1
     subst e1 e3
     exact⟨cur,h1,h2,h3,h4,by simpa using h5,by simpa using h6⟩
 have hc63:cap≤9223372036854775807:=by unfold maxLen at hmax;omega
 have hdl:(xs.drop (i)).length=(n-i):=by rw[List.length_drop,hxl]<;>omega
 have hw1:IntKind.i64.wrap ((i:Int)+1)=(i:Int)+1:=by rw[IntKind.wrap_i64];omega
 have hw2:IntKind.i64.wrap ((n:Int)+1)=(n:Int)+1:=by rw[IntKind.wrap_i64];omega
 have hb1:(0:Int)≤(i:Int)+1:=by omega
 have hin:i≤n:=by omega
 have hz: ¬((i:Int)=(n:Int)):=by omega
 have hb2: ¬(cap=i+1):=by omega
 have hb4: ¬(cap=i):=by omega
 have hb5:(i:Int)≤(n:Int)+1:=by omega
 have htn:((i:Int)+1).toNat=i+1:=by omega
 have hm1:Nat.min (n+1-i) (n-i)=n-i:=by show min _ _=_;omega
 have hm2:Nat.min 1 (n+1-i)=1:=by show min _ _=_;omega
 have hcp1: ∀W:World,W.heap[g]? =some (.cells cur 2 (0,0))→ ∀ty dc sc,(Builtin.copy_ #[98,98] ty #[.slice (some ⟨g,(i+1),none⟩) (n-i) dc,.slice (some ⟨g,i,none⟩) (n+1-i) sc]).run Tryz.prog W= .ok (goInt ((n-i:Nat):Int)) (W.setRow g (splice cur.toList ((i+1)) (xs.drop (i))).toArray):=fun W hg ty dc sc=>by
   have:=run_copy_rowK W 98 98 ty 2 1 g ((i+1)) (n-i) dc ⟨g,i,none⟩ (n+1-i) sc cur 2 (xs.drop (i)) Tryz.underlying98 hsz hg (by rw[hdl,hm1]<;>omega)
     (fun j v hj=>by
       rw[Addr.add_lit,World.cell?,hg]
       rw[List.getElem?_drop,←htake,List.getElem?_take]at hj
       split at hj
       · simpa using hj
       · cases hj) (by rw[hdl,hcs];omega) (fun v hv=>h2 v (List.mem_of_mem_drop hv))
   rw[this,hm1]
 have hcp2: ∀(W:World) (cur1:List Value),cur1.length=cap→W.heap[g]? =some (.cells cur1.toArray 2 (0,0))→W.heap[vb]? =some (.cells news.toArray 2 (0,0))→ ∀ty dc,(Builtin.copy_ #[98,98] ty #[.slice (some ⟨g,i,none⟩) (n+1-i) dc,.slice (some ⟨vb,0,none⟩) 1 1]).run Tryz.prog W= .ok (goInt 1) (W.setRow g (splice cur1 (i) news).toArray):=fun W cur1 hl1 hg hv ty dc=>by
   have:=run_copy_rowK W 98 98 ty 2 1 g (i) (n+1-i) dc ⟨vb,0,none⟩ 1 1 cur1.toArray 2 news Tryz.underlying98 hsz hg (by rw[hl,hm2]<;>omega)
     (fun j v hj=>by
       rw[Addr.add_lit,World.cell?,hv]
       simpa using hj) (by rw[hl];simp only[List.size_toArray];omega) h1
   rw[this,hm2]
   rfl
 have hs1:(splice cur.toList ((i+1)) (xs.drop (i))).length=cap:=by rw[length_splice _ _ _ (by rw[hdl,Array.length_toList,hcs];omega),Array.length_toList,hcs]
 have hov: ∀lb cb o,(callFunc 177 #[.slice (some ⟨vb,0,none⟩) 1 1,.slice (some ⟨g,o,none⟩) lb cb]).run Tryz.prog w= .ok (.value (.bool false)) w:=fun lb cb o=>overlaps_held_ w g vb o lb cb cur news.toArray hg hb hnb (by rw[hcs];omega)
 obtain⟨R1,hR1⟩: ∃R1,R1=splice cur.toList ((i+1)) (xs.drop (i)):=⟨_,rfl⟩
 rw[← hR1]at hcp1 hs1
 have hfin:(splice R1 (i) news).take ((n+1))=xs.take (i)++(news++xs.drop (i)):=by
   have:=splice_insert cur.toList xs news (i) 1 (by rw[hxl];omega) hl (by rw[hxl,Array.length_toList,hcs];omega) (by rw[hxl];exact htake)
   rw[hxl,show i+1=(i+1)by omega,show n+1=(n+1)by omega,←hR1]at this
   exact this
 have hl2:(splice R1 (i) news).length=cap:=by rw[length_splice _ _ _ (by rw[hs1,hl];omega),hs1]
 have hvd:w.drew.heap[vb]? =some (.cells news.toArray 2 (0,0)):=hb
 have hv1:(w.drew.setRow g R1.toArray).heap[vb]? =some (.cells news.toArray 2 (0,0)):=by rw[setRow_other _ _ _ _ hnb];exact hb
 have hg1:(w.drew.setRow g R1.toArray).heap[g]? =some (.cells R1.toArray 2 (0,0)):=setRow_heap w.drew g cur _ 2 _ hg
 have Hfin:Hid (∀W:World,W.heap[g]? =some (.cells R1.toArray 2 (0,0))→RowKit.Below base w W→(W.setRow g (splice R1 (i) news).toArray).ownsRow base 2 1 (.slice (some ⟨g,0,none⟩) (n+1) cap) (n+1) (xs.take (i)++(news++xs.drop (i)))∧RowKit.Below base w (W.setRow g (splice R1 (i) news).toArray)):=fun W hW hbl=>
   ⟨⟨by rw[← hfin,List.length_take,hl2];omega,.inr ⟨g,cap,_,rfl,hbg,setRow_heap W g _ _ 2 _ hW,hroom,hmax,by rw[List.size_toArray,hl2]<;>omega,by simpa using hfin⟩⟩,below_setRow hbl hbg _⟩
 have Hb1:Hid (RowKit.Below base w (w.drew.setRow g R1.toArray)):=below_setRow ((RowKit.Below.refl base w).drew) hbg _
 have mixed:Tryz.prog.follows Departure.mixedOrders=true:=by kernel_rfl
 have Hcp1:=Lib.hid (hcp1 w.drew hg);have Hcp2:=Lib.hid hcp2
 have Hs1:=Lib.hid hs1;have Hg1:=Lib.hid hg1;have Hv1:=Lib.hid hv1
 clear hcp1 hcp2 hfin hl2 hs1 hg1 hv1 hvd hR1 hdl hxl hx htake hcs hg hb h1 h2 hsz hz0 hz1 hz2 hi0 hl hnb hmax
 go_enter Tryz.func170,Tryz.ntmps170
 go_wp2_with (simp only[hov])
 go_region_law_o (refine step_copy_runI rfl _ _ 98 98 rfl (.slice (some ⟨g,(i+1),none⟩) (n-i) (cap-(i+1))) (.slice (some ⟨g,i,none⟩) (n+1-i) (cap-i)) (by simp [Act.eval,Act.put]) (by simp [Act.eval,Act.put]) (Hcp1.out 3 (cap-(i+1)) (cap-i)) ?_)
 have hc2:=Hcp2.out (w.drew.setRow g R1.toArray) R1 Hs1.out Hg1.out Hv1.out 3 (cap-i)
 go_wp2_with (simp only[hc2])
 go_ret
 exact⟨_,_,rfl,(Hfin.out _ Hg1.out Hb1.out).1,(Hfin.out _ Hg1.out Hb1.out).2,fun k _ hne=>by
   have hkg:k≠g:=fun e=>hne (by rw[e];rfl)
   rw[setRow_other _ _ _ _ hkg,setRow_other _ _ _ _ hkg]
   rfl⟩
set_option maxHeartbeats 4000000 in
set_option maxRecDepth 100000 in
theorem insert_held_grow (base g cap n i:Nat) (xs:List Value) (vb:Nat) (news:List Value) (w:World) (h:w.ownsRow base 2 1 (.slice (some ⟨g,0,none⟩) n cap) n xs) (hb:w.heap[vb]? =some (.cells news.toArray 2 (0,0))) (hl:news.length=1) (h1: ∀u∈news,u.oneCell'=true) (h2: ∀u∈xs,u.oneCell'=true) (hi:i<n) (hroom:cap<n+1) (hbig:n<1048577) (hB:base≤w.heap.size):
   Calls Tryz.prog 170 #[.slice (some ⟨g,0,none⟩) n cap,.int .i64 i,.slice (some ⟨vb,0,none⟩) 1 1] w fun e w'=> ∃a c,e= .returned (.slice a (n+1) c)∧w'.ownsRow base 2 1 (.slice a (n+1) c) (n+1) (xs.take (i)++(news++xs.drop (i)))∧Below base w w'∧(∀k,k<w.heap.size→Value.ownBlock (.slice (some ⟨g,0,none⟩) n cap)≠some k→w'.heap[k]? =w.heap[k]?):=by
 obtain⟨i0,hi0,hz0,hz1,hz2⟩:=info_parts info_held
 have hsz:(Tryz.prog.info? 2).map (·.size)=some 1:=by rw[hi0];simp [hz1]
 obtain⟨hxl,hx⟩:=h
 have hxl:xs.length=n:=by simpa using hxl
 obtain⟨cur,hbg,hg,hcap,hmax,hcs,htake⟩: ∃cur:Array Value,base≤g∧w.heap[g]? =some (.cells cur 2 (0,0))∧n≤cap∧cap≤maxLen∧cur.size=cap∧cur.toList.take (n)=xs:=by
   rcases hx with ⟨e,_⟩|⟨g',cap',cur,e,h1,h2,h3,h4,h5,h6⟩
   · cases e
   · injection e with e1 e2 e3
     injection e1 with e1
     injection e1 with e1
     subst e1 e3
     exact⟨cur,h1,h2,h3,h4,by simpa using h5,by simpa using h6⟩
 have hxc: ∀j v,xs[j]? =some v→w.cell? ⟨g,j,none⟩=some v:=fun j v hj=>by
   rw[World.cell?,hg]
   rw[← htake,List.getElem?_take]at hj
   split at hj
   · simpa using hj
   · cases hj
 have hbw:g<w.heap.size:=lt_of_block hg
 have hvw:vb<w.heap.size:=lt_of_block hb
 have hkk:IntKind.i64.wrap ((n:Int)+1-(i:Int))=((n+1-i:Nat):Int):=by rw[IntKind.wrap_i64];omega
 have hik:i+(n+1-i)=n+1:=by omega
 have hold:(Builtin.firstCells i0.size i (.slice (some ⟨g,0,none⟩) i cap)).run Tryz.prog w.drew= .ok (xs.take (i)).toArray w.drew:=by
   rw[hz1]
   exact run_firstCells_some w.drew 1 i ⟨g,0,none⟩ i cap (xs.take (i)) (by rw[List.length_take,hxl]<;>omega) (fun j v hj=>by
     rw[Addr.add_lit,Nat.zero_add]
     rw[List.getElem?_take]at hj
     split at hj
     · exact hxc j v hj
     · cases hj)
 obtain⟨G,hG⟩: ∃G,G=grownCap w (n+1) cap 2:=⟨_,rfl⟩
 obtain⟨W1,hW1⟩: ∃W1,W1=w.drew.alloc (.cells ((xs.take (i)).toArray++Builtin.zeroCells (.int .i64 0:Value).cells (n+1-i)++Builtin.zeroCells (.int .i64 0:Value).cells (G-(n+1))) 2):=⟨_,rfl⟩
 have hrz:(Builtin.append_ #[98,3] 98 #[.slice (some ⟨g,0,none⟩) i cap,.int .i64 ((n+1-i:Nat):Int)]).run Tryz.prog w=
     .ok (.slice (some ⟨w.heap.size,0,none⟩) (n+1) G) W1:=by
   have h:=Lib.run_append_grow_zeros w 98 3 98 2 i0 _ .i64 .i64 Tryz.underlying98 Tryz.underlying3 hi0 hz0 (some ⟨g,0,none⟩) i cap (xs.take (i)) hold (n+1-i) (by omega) (by rw[hz1];decide) (by omega) (by omega) (by rw[hz2];omega) (by rw[hz2,hik];exact growslice_fits hroom (by omega))
   rw[hik]at h
   rw[hW1,hG]
   exact h
 have hGn:n+1≤G:=by rw[hG];exact grownCap_ge w _ _ _
 have hGm:G≤maxLen:=by rw[hG];exact grownCap_le_maxLen w _ _ _ (by unfold maxLen;omega)
 have hG63:G≤9223372036854775807:=by unfold maxLen at hGm;omega
 obtain⟨ROW,hROW⟩: ∃ROW:List Value,ROW=xs.take (i)++((Builtin.zeroCells (.int .i64 0:Value).cells (n+1-i)).toList++(Builtin.zeroCells (.int .i64 0:Value).cells (G-(n+1))).toList):=⟨_,rfl⟩
 have hrow:W1.heap[w.heap.size]? =some (.cells ROW.toArray 2 (0,0)):=by
   rw[hW1,hROW]
   have:=heap_alloc_new w.drew (.cells ((xs.take (i)).toArray++Builtin.zeroCells (.int .i64 0:Value).cells (n+1-i)++Builtin.zeroCells (.int .i64 0:Value).cells (G-(n+1))) 2)
   rw[show w.drew.heap.size=w.heap.size from rfl]at this
   rw[this]
   congr 2
   apply Array.ext'
   simp
 have hRl:ROW.length=G:=by
   rw[hROW]
   simp only[List.length_append,List.length_take,hxl,Array.length_toList,size_zeroCells]
   rw[show (.int .i64 0:Value).cells.size=1 from rfl]
   omega
 have hRt:ROW.take (i)=xs.take (i):=by
   rw[hROW,List.take_append_of_le_length (by rw[List.length_take,hxl];omega),List.take_of_length_le (by rw[List.length_take];omega)]
 have hold1: ∀k,k<w.heap.size→W1.heap[k]? =w.heap[k]? :=fun k hk=>by rw[hW1];exact Below.heap_alloc w.drew _ k hk
 have hb1w:RowKit.Below base w W1:=by rw[hW1];exact((RowKit.Below.refl base w).drew).alloc (show base≤w.drew.heap.size from hB) _
 have hdl:(xs.drop (i)).length=(n-i):=by rw[List.length_drop,hxl]<;>omega
 have hm2:Nat.min 1 (n+1-i)=1:=by show min _ _=_;omega
 have hcA:(Builtin.copy_ #[98,98] 3 #[.slice (some ⟨w.heap.size,i,none⟩) (n+1-i) (G-i),.slice (some ⟨vb,0,none⟩) 1 1]).run Tryz.prog W1= .ok (goInt 1) (W1.setRow w.heap.size (splice ROW (i) news).toArray):=by
   have:=run_copy_rowK W1 98 98 3 2 1 w.heap.size (i) (n+1-i) (G-i) ⟨vb,0,none⟩ 1 1 ROW.toArray 2 news Tryz.underlying98 hsz hrow (by rw[hl,hm2]<;>omega)
     (fun j v hj=>by
       rw[Addr.add_lit,World.cell?,hold1 _ hvw,hb]
       simpa using hj) (by rw[hl,List.size_toArray,hRl];omega) h1
   rw[this,hm2]
   rfl
 obtain⟨R2,hR2⟩: ∃R2,R2=splice ROW (i) news:=⟨_,rfl⟩
 rw[← hR2]at hcA
 have hR2l:R2.length=G:=by rw[hR2,length_splice _ _ _ (by rw[hRl,hl];omega),hRl]
 obtain⟨W2,hW2⟩: ∃W2,W2=W1.setRow w.heap.size R2.toArray:=⟨_,rfl⟩
 rw[← hW2]at hcA
 have hrow2:W2.heap[w.heap.size]? =some (.cells R2.toArray 2 (0,0)):=by rw[hW2];exact setRow_heap W1 _ _ _ 2 _ hrow
 have hold2: ∀k,k<w.heap.size→W2.heap[k]? =w.heap[k]? :=fun k hk=>by rw[hW2,setRow_other _ _ _ _ (by omega)];exact hold1 k hk
 have hb2w:RowKit.Below base w W2:=by rw[hW2];exact below_setRow hb1w hB _
 have hm1:Nat.min (n-i) (n-i)=n-i:=by show min _ _=_;omega
 have hcB:(Builtin.copy_ #[98,98] 3 #[.slice (some ⟨w.heap.size,(i+1),none⟩) (n-i) (G-(i+1)),.slice (some ⟨g,i,none⟩) (n-i) (cap-i)]).run Tryz.prog W2.drew= .ok (goInt ((n-i:Nat):Int)) (W2.drew.setRow w.heap.size (splice R2 ((i+1)) (xs.drop (i))).toArray):=by
   have:=run_copy_rowK W2.drew 98 98 3 2 1 w.heap.size ((i+1)) (n-i) (G-(i+1)) ⟨g,i,none⟩ (n-i) (cap-i) R2.toArray 2 (xs.drop (i)) Tryz.underlying98 hsz hrow2 (by rw[hdl,hm1]<;>omega)
     (fun j v hj=>by
       rw[List.getElem?_drop]at hj
       rw[Addr.add_lit,World.cell?,show W2.drew.heap=W2.heap from rfl,hold2 _ hbw]
       have:=hxc _ v hj
       rwa [World.cell?]at this) (by rw[hdl,List.size_toArray,hR2l];omega) (fun v hv=>h2 v (List.mem_of_mem_drop hv))
   rw[this,hm1]
 have hfin:(splice R2 ((i+1)) (xs.drop (i))).take ((n+1))=xs.take (i)++(news++xs.drop (i)):=by
   have e1:R2.take ((i+1))=xs.take (i)++news:=by
     rw[hR2]
     unfold splice
     rw[← List.append_assoc,List.take_append_of_le_length (by rw[List.length_append,List.length_take,hRl,hl];omega),List.take_of_length_le (by rw[List.length_append,List.length_take,hRl,hl];omega),hRt]
   unfold splice
   rw[e1,List.append_assoc,←List.append_assoc news,←List.append_assoc (xs.take (i)),List.take_append_of_le_length (by simp only[List.length_append,List.length_take,hdl,hl,hxl];omega),List.take_of_length_le (by simp only[List.length_append,List.length_take,hdl,hl,hxl];omega)]
 have hR3l:(splice R2 ((i+1)) (xs.drop (i))).length=G:=by rw[length_splice _ _ _ (by rw[hR2l,hdl];omega),hR2l]
 have Hold:Hid (∀k,k<w.heap.size→(W2.drew.setRow w.heap.size (splice R2 ((i+1)) (xs.drop (i))).toArray).heap[k]? =w.heap[k]?):=fun k hk=>by rw[setRow_other _ _ _ _ (by omega)];exact hold2 k hk
 have Hfin:Hid ((W2.drew.setRow w.heap.size (splice R2 ((i+1)) (xs.drop (i))).toArray).ownsRow base 2 1 (.slice (some ⟨w.heap.size,0,none⟩) (n+1) G) (n+1) (xs.take (i)++(news++xs.drop (i)))∧RowKit.Below base w (W2.drew.setRow w.heap.size (splice R2 ((i+1)) (xs.drop (i))).toArray)):=
   ⟨⟨by rw[← hfin,List.length_take,hR3l];omega,.inr ⟨w.heap.size,G,_,rfl,hB,setRow_heap W2.drew _ _ _ 2 _ hrow2,hGn,hGm,by rw[List.size_toArray,hR3l]<;>omega,by simpa using hfin⟩⟩,below_setRow hb2w.drew hB _⟩
 obtain⟨W3,hW3⟩: ∃W3,W3=W2.drew.setRow w.heap.size (splice R2 ((i+1)) (xs.drop (i))).toArray:=⟨_,rfl⟩
 rw[← hW3]at Hfin hcB Hold
 have mixed:Tryz.prog.follows Departure.mixedOrders=true:=by kernel_rfl
 have hw2:IntKind.i64.wrap ((n:Int)+1)=(n:Int)+1:=by rw[IntKind.wrap_i64];omega
 have hw1:IntKind.i64.wrap ((i:Int)+1)=(i:Int)+1:=by rw[IntKind.wrap_i64];omega
 have hzz: ¬((i:Int)=(n:Int)):=by omega
 have hz3:(cap:Int)<(n:Int)+1:=by omega
 have hin:i≤n:=by omega
 have hb1':(0:Int)≤(i:Int)+1:=by omega
 have hb3:(i:Int)≤(n:Int):=by omega
 have hb5:(i:Int)≤(n:Int)+1:=by omega
 have htn:((i:Int)+1).toNat=i+1:=by omega
 have hGi: ¬(G=i):=by omega
 have hGim: ¬(G=i+1):=by omega
 have hci: ¬(cap=i):=by omega
 have Hrz:=Lib.hid hrz;have HcA:=Lib.hid hcA;have HcB:=Lib.hid hcB
 clear hrow hrow2 hold1 hold2 hb1w hb2w hW1 hW2 hW3 hR2 hROW hfin hR3l hR2l hRl hRt hG hold hdl hm1 hm2 hik hxc hx hxl htake hcs hg hb h1 h2 hsz hz0 hz1 hz2 hi0 hl hmax hGm hrz hcA hcB
 generalize w.heap.size=N at*
 go_enter Tryz.func170,Tryz.ntmps170
 have hrz:=Hrz.out;have hcA:=HcA.out;have hcB:=HcB.out
 go_wp2_with (first|(at_builtin;refine Lib.wpList_append_run _ rfl _ _ _ _ rfl _ _ rfl rfl _ _ hrz ?_)|simp only[hcA])
 go_region_law_o (refine step_copy_runI rfl _ _ 98 98 rfl (.slice (some ⟨N,(i+1),none⟩) (n-i) (G-(i+1))) (.slice (some ⟨g,i,none⟩) (n-i) (cap-i)) (by simp [Act.eval,Act.put]) (by simp [Act.eval,Act.put]) HcB.out ?_)
 go_wp2
 go_ret
 exact⟨_,_,rfl,Hfin.out.1,Hfin.out.2,fun k hk _=>Hold.out k hk⟩
theorem insert_held_any (base:Nat) (v:Value) (n i:Nat) (xs:List Value) (vb:Nat) (news:List Value) (w:World) (h:w.ownsRow base 2 1 v n xs) (hb:w.heap[vb]? =some (.cells news.toArray 2 (0,0))) (hnb: ∀g,v.ownBlock=some g→g≠vb) (hl:news.length=1) (h1: ∀u∈news,u.oneCell'=true) (h2: ∀u∈xs,u.oneCell'=true) (hi:i≤n) (hbig:n<1048577) (hB:base≤w.heap.size):
   Calls Tryz.prog 170 #[v,.int .i64 i,.slice (some ⟨vb,0,none⟩) 1 1] w fun e w'=> ∃a c,e= .returned (.slice a (n+1) c)∧w'.ownsRow base 2 1 (.slice a (n+1) c) (n+1) (xs.take (i)++(news++xs.drop (i)))∧Below base w w'∧(∀k,k<w.heap.size→Value.ownBlock v≠some k→w'.heap[k]? =w.heap[k]?):=by
 have hxl:xs.length=n:=by simpa using h.1
 have hv: ∃a c,v= .slice a n c:=by
   rcases h.2 with ⟨rfl,rfl⟩|⟨g,cap,cur,rfl,_⟩
   · exact⟨_,_,rfl⟩
   · exact⟨_,_,rfl⟩
 by_cases hin:i=n
 · subst hin
   have k:=insert_held_end base v i xs vb news w h hv hb hnb hl h1 hbig hB
   rw[List.take_of_length_le (by omega),List.drop_eq_nil_of_le (by omega),List.append_nil]
   exact k
 · rcases id h.2 with ⟨rfl,rfl⟩|⟨g,cap,cur,rfl,_⟩
   · omega
   · by_cases hr:n+1≤cap
     · exact insert_held_shift base g cap n i xs vb news w h hb (fun e=>hnb g rfl e.symm) hl h1 h2 (by omega) hr hbig
     · exact insert_held_grow base g cap n i xs vb news w h hb hl h1 h2 (by omega) (by omega) hbig hB
end Go.Proofs.YtemnhpdjoimjbaaGreatDoor
