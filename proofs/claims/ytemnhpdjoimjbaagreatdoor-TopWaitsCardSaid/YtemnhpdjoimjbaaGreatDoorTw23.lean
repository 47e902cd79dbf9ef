import Derived.Test.YtemnhpdjoimjbaaGreatDoorTw22
namespace Go.Proofs.YtemnhpdjoimjbaaGreatDoor
open Go.RowKit Top
set_option linter.unusedVariables false
def SemaRes (w:World) (code permits:Int) (L:List Int) (e:Ending) (w':World):Prop:= ∃ha hn hc,e= .returned (.tuple #[.agg #[.int .i64 (if code=0 then permits else 0),.slice ha hn hc],.int .i64 code])∧HeldAt w' (.slice ha hn hc) L∧Below w.heap.size w w'
theorem HeldAt.nil0 (w:World):HeldAt w (.slice none 0 0) []:=Row.nil w _ _ none 0 (by decide)
theorem sema_set {w0 w:World} {N:Nat} {v0 v1 u0 u1:Value} (hb:Below N w0 w) (hN:N≤N+1):Below N w0 ((w.setCell ⟨N+1,0,none⟩ v0).setCell ⟨N+1,1,none⟩ v1):=(hb.setCell (p:=⟨N+1,0,none⟩) hN v0).setCell (p:=⟨N+1,1,none⟩) hN v1
theorem held_set {w:World} {N:Nat} {v0 v1:Value} {arr:Array Value} {v:Value} {L:List Int} (h:HeldAt w v L) (hb:Bx w N 204 arr):HeldAt ((w.setCell ⟨N,0,none⟩ v0).setCell ⟨N,1,none⟩ v1) v L:=
 Row.same h fun b arr' hx=>(hx.setCell_ne ⟨N,0,none⟩ v0 (hx.ne hb (by decide))).setCell_ne ⟨N,1,none⟩ v1 (by exact(hx.ne hb (by decide)))
theorem delete_at (base:Nat) {base':Nat} (v:Value) (L:List Int) (i:Nat) (w:World) (h:w.ownsRow base' 2 1 v L.length (L.map fun(x:Int)=>Value.int .i64 x)) (hb:base≤base') (hi:i<L.length) (hf:L.length≤64):
   Calls Tryz.prog 162 #[v,.int .i64 i,.int .i64 (i+1:Nat)] w fun e w'=> ∃a n c,e= .returned (.slice a n c)∧HeldAt w' (.slice a n c) (L.take i++L.drop (i+1))∧Below base w w':=
 (delete_own base' v L i w h hi hf).mono fun _ _ ⟨a,n,c,h1,h2,h3⟩=>⟨a,n,c,h1,h2,h3.mono hb⟩
set_option maxHeartbeats 2000000 in
set_option maxRecDepth 100000 in
theorem give_any (permits:Int) (hv:Value) (L:List Int) (n:Int) (w:World) (h:HeldAt w hv L) (hr:L.Pairwise (· < ·)) (h0: ∀x∈L,1≤x∧x≤4611686018427387903) (p0:1≤permits) (p1:permits≤64) (hf:L.length≤64):
   Calls Tryz.prog 141 #[.agg #[.int .i64 permits,hv],.int .i64 n] w (SemaRes w (giveB permits L n).1 permits (giveB permits L n).2):=by
 obtain⟨a,c,rfl⟩: ∃a c',hv= .slice a L.length c':=by obtain⟨_,a,c',e,_⟩:=h;exact⟨a,c',e⟩
 have Kc:Hid (∀W:World,Below w.heap.size w W→Calls Tryz.prog 160 #[.agg #[.int .i64 permits,.slice a L.length c]] W fun e w'=>e= .returned (.int .i64 (if permits<L.length then 3 else 0))∧Below W.heap.size W w'):=fun W hb=>check_any permits _ L W (h.keep (fr0 hb)) hr h0 p0 p1
 have Kb:Hid (∀W:World,Below w.heap.size w W→Calls Tryz.prog 161 #[.slice a L.length c,.int .i64 n] W fun e w'=>e= .returned (.tuple #[.int .i64 (L.countP (· <n):Nat),.bool (L.contains n)])∧ ∃q,w'=W.drewN q):=fun W hb=>bsearch_int _ L n W (h.keep (fr0 hb)) hr hf
 have Kl:Hid (∀W:World,Below w.heap.size w W→Calls Tryz.prog 163 #[.slice a L.length c] W fun e w'=> ∃v',e= .returned v'∧w'.ownsRow W.heap.size 2 1 v' L.length (L.map fun(x:Int)=>Value.int .i64 x)∧Below W.heap.size W w'):=fun W hb=>clone_held _ L W (h.keep (fr0 hb)) hf
 have Hr:=Lib.hid hr
 clear h hr h0 p0 p1
 by_cases hlen:permits<L.length
 · have hg:giveB permits L n=(3,[]):=by unfold giveB;rw[if_pos hlen]
   rw[hg]
   rw[if_pos hlen]at Kc
   clear hg
   go_enter Tryz.func141,Tryz.ntmps141
   go_wp2_with fail
   refine calls_name (fun u=>Below w.heap.size w u∧Bx u w.heap.size 204 #[.int .i64 permits,.slice a L.length c]∧Bx u (w.heap.size+1) 204 #[.int .i64 0,.slice none 0 0]) ⟨below_allocs [_,_] w,bx_allocs w [_,_] 0 rfl,bx_allocs w [_,_] 1 rfl⟩ ?_
   rintro W0 ⟨hb0,hx0,hr0⟩
   (with_reducible refine(Kc.out W0 hb0).mono ?_)
   rintro e w1 ⟨rfl,hb1⟩
   have hx1:=hx0.below hb1 hx0.lt
   have hr1:=hr0.below hb1 hr0.lt
   have hbw:=hb0.trans (hb1.mono hb0.size)
   have c0:=hx1.cell 0;have c1:=hx1.cell 1
   have r0:=hr1.cell 0;have r1:=hr1.cell 1
   have f0:=hr1.free 0;have f1:=hr1.free 1
   have Hbw:=Lib.hid hbw;have Hr1:=Lib.hid hr1;have Hx1:=Lib.hid hx1
   clear hb0 hx0 hr0 hb1 hx1 hr1 hbw
   go_wp2_with fail
   exact bodyPost_ret (v:= .tuple #[.agg #[.int .i64 0,.slice none 0 0],.int .i64 3]) (by simp [results,Tryz.results141,go_sem,r0,r1]) rfl ⟨_,_,_,rfl,HeldAt.nil0 _,sema_set (u0:= .nilFunc) (u1:= .nilFunc) Hbw.out (Nat.le_succ _)⟩
 · rw[if_neg hlen]at Kc
   cases hc:L.contains n with
   |false=>
     have hg:giveB permits L n=(11,[]):=by unfold giveB;rw[if_neg hlen,hc];rfl
     rw[hg]
     rw[hc]at Kb
     clear hg hc
     go_enter Tryz.func141,Tryz.ntmps141
     go_wp2_with fail
     refine calls_name (fun u=>Below w.heap.size w u∧Bx u w.heap.size 204 #[.int .i64 permits,.slice a L.length c]∧Bx u (w.heap.size+1) 204 #[.int .i64 0,.slice none 0 0]) ⟨below_allocs [_,_] w,bx_allocs w [_,_] 0 rfl,bx_allocs w [_,_] 1 rfl⟩ ?_
     rintro W0 ⟨hb0,hx0,hr0⟩
     (with_reducible refine(Kc.out W0 hb0).mono ?_)
     rintro e w1 ⟨rfl,hb1⟩
     have hx1:=hx0.below hb1 hx0.lt
     have hr1:=hr0.below hb1 hr0.lt
     have hbw:=hb0.trans (hb1.mono hb0.size)
     have c0:=hx1.cell 0;have c1:=hx1.cell 1
     have r0:=hr1.cell 0;have r1:=hr1.cell 1
     have f0:=hr1.free 0;have f1:=hr1.free 1
     have Hbw:=Lib.hid hbw;have Hr1:=Lib.hid hr1;have Hx1:=Lib.hid hx1
     clear hb0 hx0 hr0 hb1 hx1 hr1 hbw
     go_wp2_with (go_at_call 161;(with_reducible refine(Kb.out _ Hbw.out).mono ?_);rintro e w2 ⟨rfl,q,rfl⟩)
     exact bodyPost_ret (v:= .tuple #[.agg #[.int .i64 0,.slice none 0 0],.int .i64 11]) (by simp [results,Tryz.results141,go_sem,r0,r1]) rfl ⟨_,_,_,rfl,HeldAt.nil0 _,sema_set (u0:= .nilFunc) (u1:= .nilFunc) (below_drewN Hbw.out q) (Nat.le_succ _)⟩
   |true=>
     have hg:giveB permits L n=(0,L.take (L.countP (· <n))++L.drop (L.countP (· <n)+1)):=by unfold giveB;rw[if_neg hlen,hc];rfl
     rw[hg]
     rw[hc]at Kb
     have hi:L.countP (· <n)<L.length:=by
       refine Nat.lt_of_le_of_ne (count_le L n) fun e=> ?_
       have hm:n∈L:=by simpa using hc
       have hlt:=rise_lt Hr.out (n:=n) n (by rw[e,List.take_length];exact hm)
       omega
     clear hg hc
     generalize L.countP (· <n)=i at*
     have hwi:IntKind.i64.wrap ((i:Int)+1)=((i+1:Nat):Int):=by rw[IntKind.wrap_i64];omega
     have Hi:=Lib.hid hi;have Hf:=Lib.hid hf
     go_enter Tryz.func141,Tryz.ntmps141
     go_wp2_with fail
     refine calls_name (fun u=>Below w.heap.size w u∧Bx u w.heap.size 204 #[.int .i64 permits,.slice a L.length c]∧Bx u (w.heap.size+1) 204 #[.int .i64 0,.slice none 0 0]) ⟨below_allocs [_,_] w,bx_allocs w [_,_] 0 rfl,bx_allocs w [_,_] 1 rfl⟩ ?_
     rintro W0 ⟨hb0,hx0,hr0⟩
     (with_reducible refine(Kc.out W0 hb0).mono ?_)
     rintro e w1 ⟨rfl,hb1⟩
     have hx1:=hx0.below hb1 hx0.lt
     have hr1:=hr0.below hb1 hr0.lt
     have hbw:=hb0.trans (hb1.mono hb0.size)
     have c0:=hx1.cell 0;have c1:=hx1.cell 1
     have r0:=hr1.cell 0;have r1:=hr1.cell 1
     have f0:=hr1.free 0;have f1:=hr1.free 1
     have Hbw:=Lib.hid hbw;have Hr1:=Lib.hid hr1;have Hx1:=Lib.hid hx1
     clear hb0 hx0 hr0 hb1 hx1 hr1 hbw
     go_wp2_with (go_at_call 161;(with_reducible refine(Kb.out _ Hbw.out).mono ?_);rintro e w2 ⟨rfl,q,rfl⟩)
     refine wp_name (fun u=>Below w.heap.size w u∧Bx u w.heap.size 204 #[.int .i64 permits,.slice a L.length c]∧Bx u (w.heap.size+1) 204 #[.int .i64 0,.slice none 0 0]) ⟨below_drewN Hbw.out _,Hx1.out,Hr1.out⟩ ?_
     rintro y ⟨hby,hxy,hry⟩
     have HSa:Hid (∀W:World,Below y.heap.size y W→W.cell? ⟨w.heap.size,0,none⟩=some (.int .i64 permits)∧W.cell? ⟨w.heap.size,1,none⟩=some (.slice a L.length c)∧W.cell? ⟨w.heap.size+1,0,none⟩=some (.int .i64 0)∧W.cell? ⟨w.heap.size+1,1,none⟩=some (.slice none 0 0)∧W.frozen? ⟨w.heap.size+1,0,none⟩=false∧W.frozen? ⟨w.heap.size+1,1,none⟩=false):=fun W hb=>⟨(hxy.below hb hxy.lt).cell 0,(hxy.below hb hxy.lt).cell 1,(hry.below hb hry.lt).cell 0,(hry.below hb hry.lt).cell 1,(hry.below hb hry.lt).free 0,(hry.below hb hry.lt).free 1⟩
     have HSb:Hid (∀W:World,Below y.heap.size y W→W.cell? ⟨w.heap.size,0,none⟩=some (.int .i64 permits)∧W.cell? ⟨w.heap.size,1,none⟩=some (.slice a L.length c)):=fun W hb=>⟨(HSa.out W hb).1,(HSa.out W hb).2.1⟩
     have Hby:=Lib.hid hby;have Hry:=Lib.hid hry
     have Hup:Hid (∀W,Below y.heap.size y W→Below w.heap.size w W):=fun W hb=>hby.trans (hb.mono hby.size)
     clear hby hxy hry c0 c1 r0 r1 f0 f1 Hbw Hr1 Hx1
     go_region_held3 (fun W=>W.cell? ⟨w.heap.size,0,none⟩=some (.int .i64 permits)∧W.cell? ⟨w.heap.size,1,none⟩=some (.slice a L.length c)) ((first|(refine HSb.out _ ?_;(repeat (first|(with_reducible first|exact RowKit.Below.refl _ _|assumption|refine RowKit.Below.drew ?_)|((with_reducible refine belAlloc ?_ ?_);(first|simp<;>omega|omega))));done)|exact⟨by simp [go_sem,hsk.1],by simp [go_sem,hsk.2.1]⟩)) ((first|(go_at_call 163;(with_reducible refine(Kl.out _ (Hup.out _ (by (repeat (first|(with_reducible first|exact RowKit.Below.refl _ _|assumption|refine RowKit.Below.drew ?_)|((with_reducible refine belAlloc ?_ ?_);(first|simp<;>omega|omega))))))).mono ?_);rintro e w3 ⟨v',rfl,hown,hb3⟩;obtain⟨ga,gc,rfl⟩:=own_slice hown;have hbw:=RowKit.Below.trans (B:=y.heap.size) (a:=y) (by (repeat (first|(with_reducible first|exact RowKit.Below.refl _ _|assumption|refine RowKit.Below.drew ?_)|((with_reducible refine belAlloc ?_ ?_);(first|simp<;>omega|omega))))) (hb3.mono (RowKit.Below.size (B:=y.heap.size) (w:=y) (by (repeat (first|(with_reducible first|exact RowKit.Below.refl _ _|assumption|refine RowKit.Below.drew ?_)|((with_reducible refine belAlloc ?_ ?_);(first|simp<;>omega|omega)))))));have Hown:=Lib.hid hown;have hsk:=HSa.out _ hbw;clear hown hb3)|(go_at_call 162;(refine (delete_at y.heap.size _ L i _ (ownsRow_below Hown.out (by (repeat (first|(with_reducible first|exact RowKit.Below.refl _ _|assumption|refine RowKit.Below.drew ?_)|((with_reducible refine belAlloc ?_ ?_);(first|simp<;>omega|omega)))))) (RowKit.Below.size (B:=y.heap.size) (w:=y) (by (repeat (first|(with_reducible first|exact RowKit.Below.refl _ _|assumption|refine RowKit.Below.drew ?_)|((with_reducible refine belAlloc ?_ ?_);(first|simp<;>omega|omega)))))) Hi.out Hf.out).mono ?_);rintro e w4 ⟨xa,xn,xc,rfl,hh,hb4⟩;have hb5:=RowKit.Below.trans (B:=y.heap.size) (a:=y) (by (repeat (first|(with_reducible first|exact RowKit.Below.refl _ _|assumption|refine RowKit.Below.drew ?_)|((with_reducible refine belAlloc ?_ ?_);(first|simp<;>omega|omega))))) hb4;have HB5:=Lib.hid hb5;have Hh:=Lib.hid hh;have hsk:=HSa.out _ HB5.out;have q0:=hsk.2.2.1;have q1:=hsk.2.2.2.1;have z0:=hsk.2.2.2.2.1;have z1:=hsk.2.2.2.2.2;clear hh hb4)))
     all_goals
       have Hrz:=Lib.hid (Hry.out.below HB5.out Hry.out.lt)
       go_wp2_with fail
       exact bodyPost_ret (v:= .tuple #[.agg #[.int .i64 permits,.slice xa xn xc],.int .i64 0]) (by simp [results,Tryz.results141,go_sem,q0,q1]) rfl ⟨xa,xn,xc,rfl,held_set Hh.out Hrz.out,sema_set (u0:= .nilFunc) (u1:= .nilFunc) (Hup.out _ HB5.out) (Nat.le_succ _)⟩
theorem ins_any (base:Nat) {base':Nat} (v:Value) (L:List Int) (i vb:Nat) (n:Int) (w:World) (h:w.ownsRow base' 2 1 v L.length (L.map fun(x:Int)=>Value.int .i64 x)) (hvb:w.heap[vb]? =some (.cells #[.int .i64 n] 2 (0,0))) (hne: ∀g,v.ownBlock=some g→g≠vb) (hb:base≤base') (hB:base'≤w.heap.size) (hi:i≤L.length) (hf:L.length≤64):
   Calls Tryz.prog 170 #[v,.int .i64 i,.slice (some ⟨vb,0,none⟩) 1 1] w fun e w'=> ∃a m c,e= .returned (.slice a m c)∧HeldAt w' (.slice a m c) (L.take i++([n]++L.drop i))∧Below base w w':=by
 refine(insert_held_any base' v L.length i (L.map fun(x:Int)=>Value.int .i64 x) vb [.int .i64 n] w h hvb hne rfl (by intro u hu;simp at hu;subst hu;rfl) (by intro u hu;obtain⟨x,_,rfl⟩:=List.mem_map.1 hu;rfl) hi (by omega) hB).mono ?_
 rintro e w' ⟨a,c,rfl,h1,h2,_⟩
 refine⟨a,L.length+1,c,rfl,?_,h2.mono hb⟩
 have hr:=Row.own h1
 have e1:(L.take i++([n]++L.drop i)).length=L.length+1:=by simp only[List.length_append,List.length_take,List.length_drop,List.length_singleton];omega
 unfold HeldAt
 rw[e1]
 rw[List.map_append,List.map_append,List.map_take,List.map_drop]
 simpa using hr
theorem ins_after (base:Nat) {base':Nat} (v:Value) (L:List Int) (i:Nat) (n:Int) (w:World) (h:w.ownsRow base' 2 1 v L.length (L.map fun(x:Int)=>Value.int .i64 x)) (hb:base≤base') (hB:base'≤w.heap.size) (hi:i≤L.length) (hf:L.length≤64):
   Calls Tryz.prog 170 #[v,.int .i64 i,.slice (some ⟨w.heap.size,0,none⟩) 1 1] (w.alloc (.cells #[.int .i64 n] 2)) fun e w'=> ∃a m c,e= .returned (.slice a m c)∧HeldAt w' (.slice a m c) (L.take i++([n]++L.drop i))∧Below base (w.alloc (.cells #[.int .i64 n] 2)) w':=
 ins_any base v L i w.heap.size n _ (h.alloc _) (heap_alloc_new w _) (fun g hg=>by have:=(h.lt g hg).2;omega) hb (by have:=lt_alloc w (.cells #[.int .i64 n] 2);omega) hi hf
theorem ins_before (base:Nat) {u w:World} (v:Value) (L:List Int) (i:Nat) (n:Int) (h:w.ownsRow (u.alloc (.cells #[.int .i64 n] 2)).heap.size 2 1 v L.length (L.map fun(x:Int)=>Value.int .i64 x)) (hk:Below (u.alloc (.cells #[.int .i64 n] 2)).heap.size (u.alloc (.cells #[.int .i64 n] 2)) w) (hb:base≤u.heap.size) (hi:i≤L.length) (hf:L.length≤64):
   Calls Tryz.prog 170 #[v,.int .i64 i,.slice (some ⟨u.heap.size,0,none⟩) 1 1] w fun e w'=> ∃a m c,e= .returned (.slice a m c)∧HeldAt w' (.slice a m c) (L.take i++([n]++L.drop i))∧Below base w w':=
 have hlt:=lt_alloc u (.cells #[.int .i64 n] 2)
 ins_any base v L i u.heap.size n w h ((hk.block _ hlt).trans (heap_alloc_new u _)) (fun g hg=>by have:=(h.lt g hg).1;omega) (by omega) hk.size hi hf
theorem ins_before2 (base:Nat) {u w:World} (v:Value) (L:List Int) (i:Nat) (n:Int) (h:w.ownsRow (u.alloc (.cells #[.int .i64 n] 2)).drew.heap.size 2 1 v L.length (L.map fun(x:Int)=>Value.int .i64 x)) (hk:Below (u.alloc (.cells #[.int .i64 n] 2)).drew.heap.size (u.alloc (.cells #[.int .i64 n] 2)).drew w) (hb:base≤u.heap.size) (hi:i≤L.length) (hf:L.length≤64):
   Calls Tryz.prog 170 #[v,.int .i64 i,.slice (some ⟨u.heap.size,0,none⟩) 1 1] w fun e w'=> ∃a m c,e= .returned (.slice a m c)∧HeldAt w' (.slice a m c) (L.take i++([n]++L.drop i))∧Below base w w':=
 ins_before base v L i n h ⟨hk.os,hk.tape,hk.output,hk.size,hk.block⟩ hb hi hf
set_option maxHeartbeats 2000000 in
set_option maxRecDepth 100000 in
theorem take_any (permits:Int) (hv:Value) (L:List Int) (n:Int) (w:World) (h:HeldAt w hv L) (hr:L.Pairwise (· < ·)) (h0: ∀x∈L,1≤x∧x≤4611686018427387903) (p0:1≤permits) (p1:permits≤64) (hf:L.length≤64):
   Calls Tryz.prog 159 #[.agg #[.int .i64 permits,hv],.int .i64 n] w (SemaRes w (takeB permits L n).1 permits (takeB permits L n).2):=by
 obtain⟨a,c,rfl⟩: ∃a c',hv= .slice a L.length c':=by obtain⟨_,a,c',e,_⟩:=h;exact⟨a,c',e⟩
 have Kc:Hid (∀W:World,Below w.heap.size w W→Calls Tryz.prog 160 #[.agg #[.int .i64 permits,.slice a L.length c]] W fun e w'=>e= .returned (.int .i64 (if permits<L.length then 3 else 0))∧Below W.heap.size W w'):=fun W hb=>check_any permits _ L W (h.keep (fr0 hb)) hr h0 p0 p1
 have Kb:Hid (∀W:World,Below w.heap.size w W→Calls Tryz.prog 161 #[.slice a L.length c,.int .i64 n] W fun e w'=>e= .returned (.tuple #[.int .i64 (L.countP (· <n):Nat),.bool (L.contains n)])∧ ∃q,w'=W.drewN q):=fun W hb=>bsearch_int _ L n W (h.keep (fr0 hb)) hr hf
 have Kl:Hid (∀W:World,Below w.heap.size w W→Calls Tryz.prog 163 #[.slice a L.length c] W fun e w'=> ∃v',e= .returned v'∧w'.ownsRow W.heap.size 2 1 v' L.length (L.map fun(x:Int)=>Value.int .i64 x)∧Below W.heap.size W w'):=fun W hb=>clone_held _ L W (h.keep (fr0 hb)) hf
 have Hr:=Lib.hid hr
 have Ks:Hid (∀(b:Bool),((1≤n∧n≤4611686018427387903)↔b=true)→ ∀W:World,Calls Tryz.prog 169 #[.int .i64 n] W fun e w'=>e= .returned (.bool b)∧W=w'):=fun b hb W=>serial_b n b hb W
 clear h hr h0 p0 p1
 by_cases hse:n<1∨4611686018427387903<n
 · have hg:takeB permits L n=(1,[]):=by unfold takeB;rw[if_pos hse]
   rw[hg]
   have KS:=Lib.hid (Ks.out false ⟨fun h=>by omega,fun h=>by cases h⟩)
   clear hg Ks
   go_enter Tryz.func159,Tryz.ntmps159
   go_wp2_with fail
   refine calls_name (fun u=>Below w.heap.size w u∧Bx u w.heap.size 204 #[.int .i64 permits,.slice a L.length c]∧Bx u (w.heap.size+1) 204 #[.int .i64 0,.slice none 0 0]) ⟨below_allocs [_,_] w,bx_allocs w [_,_] 0 rfl,bx_allocs w [_,_] 1 rfl⟩ ?_
   rintro W0 ⟨hb0,hx0,hr0⟩
   (with_reducible refine(KS.out W0).mono ?_)
   rintro e ws ⟨rfl,rfl⟩
   have r0:=hr0.cell 0;have r1:=hr0.cell 1
   have f0:=hr0.free 0;have f1:=hr0.free 1
   have Hb0:=Lib.hid hb0
   clear hb0 hx0 hr0
   go_wp2_with fail
   exact bodyPost_ret (v:= .tuple #[.agg #[.int .i64 0,.slice none 0 0],.int .i64 1]) (by simp [results,Tryz.results159,go_sem,r0,r1]) rfl ⟨_,_,_,rfl,HeldAt.nil0 _,sema_set (u0:= .nilFunc) (u1:= .nilFunc) Hb0.out (Nat.le_succ _)⟩
 · have KS:=Lib.hid (Ks.out true ⟨fun _=>rfl,fun _=>by omega⟩)
   clear Ks
   by_cases hlen:permits<L.length
   · have hg:takeB permits L n=(3,[]):=by unfold takeB;rw[if_neg hse,if_pos hlen]
     rw[hg]
     rw[if_pos hlen]at Kc
     clear hg hse
     go_enter Tryz.func159,Tryz.ntmps159
     go_wp2_with fail
     refine calls_name (fun u=>Below w.heap.size w u∧Bx u w.heap.size 204 #[.int .i64 permits,.slice a L.length c]∧Bx u (w.heap.size+1) 204 #[.int .i64 0,.slice none 0 0]) ⟨below_allocs [_,_] w,bx_allocs w [_,_] 0 rfl,bx_allocs w [_,_] 1 rfl⟩ ?_
     rintro W0 ⟨hb0,hx0,hr0⟩
     (with_reducible refine(KS.out W0).mono ?_)
     rintro e ws ⟨rfl,rfl⟩
     have c0:=hx0.cell 0;have c1:=hx0.cell 1
     go_wp2_with (go_at_call 160;(with_reducible refine(Kc.out W0 hb0).mono ?_);rintro e w1 ⟨rfl,hb1⟩;have hx1:=hx0.below hb1 hx0.lt;have hr1:=hr0.below hb1 hr0.lt;have hbw:=hb0.trans (hb1.mono hb0.size);have k0:=hx1.cell 0;have k1:=hx1.cell 1;have r0:=hr1.cell 0;have r1:=hr1.cell 1;have f0:=hr1.free 0;have f1:=hr1.free 1;have Hbw:=Lib.hid hbw;have Hr1:=Lib.hid hr1;have Hx1:=Lib.hid hx1;clear hb0 hx0 hr0 hb1 hx1 hr1 hbw)
     exact bodyPost_ret (v:= .tuple #[.agg #[.int .i64 0,.slice none 0 0],.int .i64 3]) (by simp [results,Tryz.results159,go_sem,r0,r1]) rfl ⟨_,_,_,rfl,HeldAt.nil0 _,sema_set (u0:= .nilFunc) (u1:= .nilFunc) Hbw.out (Nat.le_succ _)⟩
   · rw[if_neg hlen]at Kc
     cases hc:L.contains n with
     |true=>
       have hg:takeB permits L n=(8,[]):=by unfold takeB;rw[if_neg hse,if_neg hlen,hc];rfl
       rw[hg]
       rw[hc]at Kb
       clear hg hc hse
       go_enter Tryz.func159,Tryz.ntmps159
       go_wp2_with fail
       refine calls_name (fun u=>Below w.heap.size w u∧Bx u w.heap.size 204 #[.int .i64 permits,.slice a L.length c]∧Bx u (w.heap.size+1) 204 #[.int .i64 0,.slice none 0 0]) ⟨below_allocs [_,_] w,bx_allocs w [_,_] 0 rfl,bx_allocs w [_,_] 1 rfl⟩ ?_
       rintro W0 ⟨hb0,hx0,hr0⟩
       (with_reducible refine(KS.out W0).mono ?_)
       rintro e ws ⟨rfl,rfl⟩
       have c0:=hx0.cell 0;have c1:=hx0.cell 1
       go_wp2_with (first|(go_at_call 160;(with_reducible refine(Kc.out W0 hb0).mono ?_);rintro e w1 ⟨rfl,hb1⟩;have hx1:=hx0.below hb1 hx0.lt;have hr1:=hr0.below hb1 hr0.lt;have hbw:=hb0.trans (hb1.mono hb0.size);have k0:=hx1.cell 0;have k1:=hx1.cell 1;have r0:=hr1.cell 0;have r1:=hr1.cell 1;have f0:=hr1.free 0;have f1:=hr1.free 1;have Hbw:=Lib.hid hbw;have Hr1:=Lib.hid hr1;have Hx1:=Lib.hid hx1;clear hb0 hx0 hr0 hb1 hx1 hr1 hbw)|(go_at_call 161;(with_reducible refine(Kb.out _ Hbw.out).mono ?_);rintro e w2 ⟨rfl,q,rfl⟩))
       exact bodyPost_ret (v:= .tuple #[.agg #[.int .i64 0,.slice none 0 0],.int .i64 8]) (by simp [results,Tryz.results159,go_sem,r0,r1]) rfl ⟨_,_,_,rfl,HeldAt.nil0 _,sema_set (u0:= .nilFunc) (u1:= .nilFunc) (below_drewN Hbw.out q) (Nat.le_succ _)⟩
     |false=>
       rw[hc]at Kb
       by_cases hfu:(L.length:Int)=permits
       · have hg:takeB permits L n=(9,[]):=by unfold takeB;rw[if_neg hse,if_neg hlen,hc,if_pos hfu];rfl
         rw[hg]
         subst hfu
         clear hg hc hse hlen
         go_enter Tryz.func159,Tryz.ntmps159
         go_wp2_with fail
         refine calls_name (fun u=>Below w.heap.size w u∧Bx u w.heap.size 204 #[.int .i64 (L.length:Nat),.slice a L.length c]∧Bx u (w.heap.size+1) 204 #[.int .i64 0,.slice none 0 0]) ⟨below_allocs [_,_] w,bx_allocs w [_,_] 0 rfl,bx_allocs w [_,_] 1 rfl⟩ ?_
         rintro W0 ⟨hb0,hx0,hr0⟩
         (with_reducible refine(KS.out W0).mono ?_)
         rintro e ws ⟨rfl,rfl⟩
         have c0:=hx0.cell 0;have c1:=hx0.cell 1
         go_wp2_with (first|(go_at_call 160;(with_reducible refine(Kc.out W0 hb0).mono ?_);rintro e w1 ⟨rfl,hb1⟩;have hx1:=hx0.below hb1 hx0.lt;have hr1:=hr0.below hb1 hr0.lt;have hbw:=hb0.trans (hb1.mono hb0.size);have k0:=hx1.cell 0;have k1:=hx1.cell 1;have r0:=hr1.cell 0;have r1:=hr1.cell 1;have f0:=hr1.free 0;have f1:=hr1.free 1;have Hbw:=Lib.hid hbw;have Hr1:=Lib.hid hr1;have Hx1:=Lib.hid hx1;clear hb0 hx0 hr0 hb1 hx1 hr1 hbw)|(go_at_call 161;(with_reducible refine(Kb.out _ Hbw.out).mono ?_);rintro e w2 ⟨rfl,q,rfl⟩))
         exact bodyPost_ret (v:= .tuple #[.agg #[.int .i64 0,.slice none 0 0],.int .i64 9]) (by simp [results,Tryz.results159,go_sem,r0,r1]) rfl ⟨_,_,_,rfl,HeldAt.nil0 _,sema_set (u0:= .nilFunc) (u1:= .nilFunc) (below_drewN Hbw.out q) (Nat.le_succ _)⟩
       · have hg:takeB permits L n=(0,L.take (L.countP (· <n))++([n]++L.drop (L.countP (· <n)))):=by unfold takeB;rw[if_neg hse,if_neg hlen,hc,if_neg hfu];rfl
         rw[hg]
         have hi:=count_le L n
         clear hg hc hse
         generalize L.countP (· <n)=i at*
         have Hi:=Lib.hid hi;have Hf:=Lib.hid hf
         go_enter Tryz.func159,Tryz.ntmps159
         go_wp2_with fail
         refine calls_name (fun u=>Below w.heap.size w u∧Bx u w.heap.size 204 #[.int .i64 permits,.slice a L.length c]∧Bx u (w.heap.size+1) 204 #[.int .i64 0,.slice none 0 0]) ⟨below_allocs [_,_] w,bx_allocs w [_,_] 0 rfl,bx_allocs w [_,_] 1 rfl⟩ ?_
         rintro W0 ⟨hb0,hx0,hr0⟩
         (with_reducible refine(KS.out W0).mono ?_)
         rintro e ws ⟨rfl,rfl⟩
         have c0:=hx0.cell 0;have c1:=hx0.cell 1
         go_wp2_with (first|(go_at_call 160;(with_reducible refine(Kc.out W0 hb0).mono ?_);rintro e w1 ⟨rfl,hb1⟩;have hx1:=hx0.below hb1 hx0.lt;have hr1:=hr0.below hb1 hr0.lt;have hbw:=hb0.trans (hb1.mono hb0.size);have k0:=hx1.cell 0;have k1:=hx1.cell 1;have r0:=hr1.cell 0;have r1:=hr1.cell 1;have f0:=hr1.free 0;have f1:=hr1.free 1;have Hbw:=Lib.hid hbw;have Hr1:=Lib.hid hr1;have Hx1:=Lib.hid hx1;clear hb0 hx0 hr0 hb1 hx1 hr1 hbw)|(go_at_call 161;(with_reducible refine(Kb.out _ Hbw.out).mono ?_);rintro e w2 ⟨rfl,q,rfl⟩))
         refine wp_name (fun u=>Below w.heap.size w u∧Bx u w.heap.size 204 #[.int .i64 permits,.slice a L.length c]∧Bx u (w.heap.size+1) 204 #[.int .i64 0,.slice none 0 0]) ⟨below_drewN Hbw.out _,Hx1.out,Hr1.out⟩ ?_
         rintro y ⟨hby,hxy,hry⟩
         have HSa:Hid (∀W:World,Below y.heap.size y W→W.cell? ⟨w.heap.size,0,none⟩=some (.int .i64 permits)∧W.cell? ⟨w.heap.size,1,none⟩=some (.slice a L.length c)∧W.cell? ⟨w.heap.size+1,0,none⟩=some (.int .i64 0)∧W.cell? ⟨w.heap.size+1,1,none⟩=some (.slice none 0 0)∧W.frozen? ⟨w.heap.size+1,0,none⟩=false∧W.frozen? ⟨w.heap.size+1,1,none⟩=false):=fun W hb=>⟨(hxy.below hb hxy.lt).cell 0,(hxy.below hb hxy.lt).cell 1,(hry.below hb hry.lt).cell 0,(hry.below hb hry.lt).cell 1,(hry.below hb hry.lt).free 0,(hry.below hb hry.lt).free 1⟩
         have HSb:Hid (∀W:World,Below y.heap.size y W→W.cell? ⟨w.heap.size,0,none⟩=some (.int .i64 permits)∧W.cell? ⟨w.heap.size,1,none⟩=some (.slice a L.length c)):=fun W hb=>⟨(HSa.out W hb).1,(HSa.out W hb).2.1⟩
         have Hby:=Lib.hid hby;have Hry:=Lib.hid hry
         have Hup:Hid (∀W,Below y.heap.size y W→Below w.heap.size w W):=fun W hb=>hby.trans (hb.mono hby.size)
         clear hby hxy hry k0 k1 r0 r1 f0 f1 Hbw Hr1 Hx1
         go_region_held3 (fun W=>W.cell? ⟨w.heap.size,0,none⟩=some (.int .i64 permits)∧W.cell? ⟨w.heap.size,1,none⟩=some (.slice a L.length c)) ((first|(refine HSb.out _ ?_;(repeat (first|(with_reducible first|exact RowKit.Below.refl _ _|assumption|refine RowKit.Below.drew ?_)|((with_reducible refine belAlloc ?_ ?_);(first|simp<;>omega|omega))));done)|exact⟨by simp [go_sem,hsk.1],by simp [go_sem,hsk.2.1]⟩)) ((first|(go_at_call 163;(with_reducible refine(Kl.out _ (Hup.out _ (by (repeat (first|(with_reducible first|exact RowKit.Below.refl _ _|assumption|refine RowKit.Below.drew ?_)|((with_reducible refine belAlloc ?_ ?_);(first|simp<;>omega|omega))))))).mono ?_);rintro e w3 ⟨v',rfl,hown,hb3⟩;obtain⟨ga,gc,rfl⟩:=own_slice hown;have hbw:=RowKit.Below.trans (B:=y.heap.size) (a:=y) (by (repeat (first|(with_reducible first|exact RowKit.Below.refl _ _|assumption|refine RowKit.Below.drew ?_)|((with_reducible refine belAlloc ?_ ?_);(first|simp<;>omega|omega))))) (hb3.mono (RowKit.Below.size (B:=y.heap.size) (w:=y) (by (repeat (first|(with_reducible first|exact RowKit.Below.refl _ _|assumption|refine RowKit.Below.drew ?_)|((with_reducible refine belAlloc ?_ ?_);(first|simp<;>omega|omega)))))));have Hown:=Lib.hid hown;have hsk:=HSa.out _ hbw;have hs3:y.heap.size≤w3.heap.size:=RowKit.Below.size hbw;have HbS:=Lib.hid hb3.size;have Hb3:=Lib.hid hb3;clear hown hb3)|(go_at_call 170;(first|(with_reducible refine(ins_after y.heap.size _ L i n _ Hown.out (RowKit.Below.size (B:=y.heap.size) (w:=y) (by (repeat (first|(with_reducible first|exact RowKit.Below.refl _ _|assumption|refine RowKit.Below.drew ?_)|((with_reducible refine belAlloc ?_ ?_);(first|simp<;>omega|omega)))))) HbS.out Hi.out Hf.out).mono ?_)|(with_reducible refine(ins_before y.heap.size _ L i n Hown.out Hb3.out (RowKit.Below.size (B:=y.heap.size) (w:=y) (by (repeat (first|(with_reducible first|exact RowKit.Below.refl _ _|assumption|refine RowKit.Below.drew ?_)|((with_reducible refine belAlloc ?_ ?_);(first|simp<;>omega|omega)))))) Hi.out Hf.out).mono ?_)|(with_reducible refine(ins_before2 y.heap.size _ L i n Hown.out Hb3.out (RowKit.Below.size (B:=y.heap.size) (w:=y) (by (repeat (first|(with_reducible first|exact RowKit.Below.refl _ _|assumption|refine RowKit.Below.drew ?_)|((with_reducible refine belAlloc ?_ ?_);(first|simp<;>omega|omega)))))) Hi.out Hf.out).mono ?_));rintro e w4 ⟨xa,xn,xc,rfl,hh,hb4⟩;have hb5:=RowKit.Below.trans (B:=y.heap.size) (a:=y) (by (repeat (first|(with_reducible first|exact RowKit.Below.refl _ _|assumption|refine RowKit.Below.drew ?_)|((with_reducible refine belAlloc ?_ ?_);(first|simp<;>omega|omega))))) hb4;have HB5:=Lib.hid hb5;have Hh:=Lib.hid hh;have hsk:=HSa.out _ HB5.out;have q0:=hsk.2.2.1;have q1:=hsk.2.2.2.1;have z0:=hsk.2.2.2.2.1;have z1:=hsk.2.2.2.2.2;clear hh hb4)))
         all_goals
           have Hrz:=Lib.hid (Hry.out.below HB5.out Hry.out.lt)
           go_wp2_with fail
           exact bodyPost_ret (v:= .tuple #[.agg #[.int .i64 permits,.slice xa xn xc],.int .i64 0]) (by simp [results,Tryz.results159,go_sem,q0,q1]) rfl ⟨xa,xn,xc,rfl,held_set Hh.out Hrz.out,sema_set (u0:= .nilFunc) (u1:= .nilFunc) (Hup.out _ HB5.out) (Nat.le_succ _)⟩
end Go.Proofs.YtemnhpdjoimjbaaGreatDoor
