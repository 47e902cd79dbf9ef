import Derived.Test.YtemnhpdjoimjbaaGreatDoorTw36
namespace Go.Proofs.YtemnhpdjoimjbaaGreatDoor
section
open Go.RowKit Top
set_option linter.unusedVariables false
def words1 :Array Value:=zeros34.setIfInBounds 1 (.int .u64 1)
theorem last_nil (w:World) (B:Nat):LastOk w B (.slice none 0 0):=⟨0,[],World.ownsRow_nil _ _ _ _,by omega,by simp⟩
structure Raw (w:World) (B W M H:Nat):Prop where
 words:Bx w W 61 words1
 mach: ∃last,Bx w M 121 (machV W 0 1 last)∧LastOk w B last
 holds:Bx w H 64 nils34
set_option maxHeartbeats 1000000 in
set_option maxRecDepth 100000 in
theorem mswap0 (B M W:Nat) (w:World) (hm:Bx w M 121 (machV W 0 0 (.slice none 0 0))) (hw:Bx w W 61 zeros34) (hB:B≤w.heap.size):
   Calls Tryz.prog 56 #[.pointer (some ⟨M,0,none⟩),.int .i64 0,.int .i64 1,.int .u64 0,.int .u64 1] w fun e w'=>e= .returned (.tuple #[.bool true,.int .i64 0])∧Keeps (fun k=>k=M∨k=W) w w'∧(∃last,Bx w' M 121 (machV W 0 1 last)∧LastOk w' B last)∧Bx w' W 61 words1:=by
 have c0:w.cell? ⟨M,0,none⟩=some (.slice (some ⟨W,0,none⟩) 34 34):=hm.cell 0
 have cw:w.cell? ⟨W,1,none⟩=some (.int .u64 0):=hw.cell 1
 have fw:w.frozen? ⟨W,1,none⟩=false:=hw.free 1
 have Ks:=Lib.hid (size_any M (.slice none 0 0) (.slice none 0 0) W 34 34 0 0 w hm)
 have Kw:=Lib.hid (worker_ok 0 1 34 w (by decide) (by decide) (by omega) (by omega))
 have hm1:Bx (w.setCell ⟨W,1,none⟩ (.int .u64 1)) M 121 (machV W 0 0 (.slice none 0 0)):=hm.sne (hm.ne hw (by decide))
 have hw1:Bx (w.setCell ⟨W,1,none⟩ (.int .u64 1)) W 61 words1:=hw.setCell 1 _
 have Kn:=Lib.hid (fun a b c d=>note_any B M W 0 0 (.slice none 0 0) 0 a b c d true (w.setCell ⟨W,1,none⟩ (.int .u64 1)) hm1 (last_nil _ _) ⟨by decide,by decide⟩ (by simpa [World.setCell]using hB))
 have Hm:=Lib.hid hm;have Hw:=Lib.hid hw;have Hm1:=Lib.hid hm1;have Hw1:=Lib.hid hw1
 clear hm hw hm1 hw1 hB
 go_enter Tryz.func56,Tryz.ntmps56
 go_wp2_with (first|(go_at_call 79;(with_reducible refine Ks.out.mono ?_);rintro e w1 ⟨rfl,rfl⟩)|(go_at_call 78;(with_reducible refine Kw.out.mono ?_);rintro e w1 ⟨rfl,rfl⟩)|(go_at_call 80;(refine (Kn.out 2 1 _ _).mono ?_);rintro e w1 hr;obtain rfl:=hr.1;have Hr:=Lib.hid hr;clear hr))
 refine bodyPost_ret (v:= .tuple #[.bool true,.int .i64 0]) (by simp [results,Tryz.results56,go_sem]) rfl ?_
 have hk:=Hr.out.2.1
 refine⟨rfl,⟨hk.os,hk.tape,hk.output,by have:=hk.size;simpa [World.setCell]using this,fun k hkl hs=> ?_⟩,?_,hk.bx (last_nil _ B) Hm1.out Hw1.out (by decide) (by decide)⟩
 · rw[hk.block k (by simpa [World.setCell]using hkl) (fun h=> ?_),Below.heap_setCell _ _ _ _ (fun e=>hs (.inr e))]
   rcases h with h|h
   · exact hs (.inl h)
   · simp [lastRow,Value.ownBlock]at h
 · obtain⟨last,h1,h2⟩:=Hr.out.2.2
   exact⟨last,h1,h2⟩
set_option maxHeartbeats 1000000 in
set_option maxRecDepth 100000 in
theorem bswap0 (B bd M W H:Nat) (w:World) (hb:Bx w bd 81 #[P M,.slice (some ⟨H,0,none⟩) 34 34]) (hm:Bx w M 121 (machV W 0 0 (.slice none 0 0))) (hw:Bx w W 61 zeros34) (hh:Bx w H 64 nils34) (hB:B≤w.heap.size):
   Calls Tryz.prog 32 #[P bd,.int .i64 0,.int .i64 1,.int .u64 0,.int .u64 1,.slice none 0 0] w fun e w'=>e= .returned (.bool true)∧Keeps (fun k=>k=M∨k=W∨k=H) w w'∧Raw w' B W M H:=by
 have c0:w.cell? ⟨bd,0,none⟩=some (P M):=hb.cell 0
 have Kl:=Lib.hid (mswap0 B M W w hm hw hB)
 have Hb:=Lib.hid hb;have Hh:=Lib.hid hh;have Hm:=Lib.hid hm;have Hw:=Lib.hid hw
 clear hb hh hm hw hB
 go_enter Tryz.func32,Tryz.ntmps32
 go_wp2_with (go_at_call 56;(with_reducible refine Kl.out.mono ?_);rintro e w1 ⟨rfl,hk,hm1,hw1⟩;have b1:Bx w1 bd 81 #[P M,.slice (some ⟨H,0,none⟩) 34 34]:=(hk.block bd Hb.out.lt (fun h=>h.elim (Hb.out.ne Hm.out (by decide)) (Hb.out.ne Hw.out (by decide)))).trans Hb.out;have h1:Bx w1 H 64 nils34:=(hk.block H Hh.out.lt (fun h=>h.elim (Hh.out.ne Hm.out (by decide)) (Hh.out.ne Hw.out (by decide)))).trans Hh.out;have k1:=b1.cell 1;have f1:=h1.free 1;have z1:w1.cell? ⟨H,1,none⟩=some (.slice none 0 0):=h1.cell 1;have Hk:=Lib.hid hk;have Hm1:=Lib.hid hm1;have Hw1:=Lib.hid hw1;have Hh1:=Lib.hid h1;clear hk hm1 hw1 b1 h1)
 go_ret
 obtain⟨last,hm1,hl1⟩:=Hm1.out
 have hh2:Bx (w1.setCell ⟨H,1,none⟩ (.slice none 0 0)) H 64 nils34:=Hh1.out.setCell 1 _
 have hm2:Bx (w1.setCell ⟨H,1,none⟩ (.slice none 0 0)) M 121 (machV W 0 1 last):=hm1.sne (hm1.ne Hh1.out (by decide))
 have hw2:Bx (w1.setCell ⟨H,1,none⟩ (.slice none 0 0)) W 61 words1:=Hw1.out.sne (Hw1.out.ne Hh1.out (by decide))
 have hk:=Hk.out
 refine⟨rfl,⟨hk.os,hk.tape,hk.output,by have:=hk.size;simpa [World.setCell]using this,fun k hkl hs=> ?_⟩,hw2,⟨last,hm2,?_⟩,hh2⟩
 · rw[Below.heap_setCell _ _ _ _ (fun e=>hs (.inr (.inr e)))]
   exact hk.block k hkl (fun h=>hs (h.imp id .inl))
 · obtain⟨nn,xs,ho,hn,h1⟩:=hl1
   exact⟨nn,xs,ownsRow_setCell_other ho (own_ne ho Hh1.out (by decide)) _,hn,h1⟩
end
section
open Go.RowKit Top
set_option linter.unusedVariables false
structure Parts (w:World) (B lb bd M W H:Nat):Prop where
 raw:Raw w B W M H
 lanes:Bx w lb 84 #[P bd,.func (.func 18) #[] #[]]
 board:Bx w bd 81 #[P M,.slice (some ⟨H,0,none⟩) 34 34]
 ge:B≤lb∧B≤bd∧B≤M∧B≤W∧B≤H
theorem Keeps.belowBase {S:Nat→Prop} {a w w':World} {n:Nat} (h:Below n a w) (k:Keeps S w w') (hn:n≤w.heap.size) (hS: ∀i,S i→n≤i):Below n a w':=
 ⟨k.os.trans h.os,k.tape.trans h.tape,k.output.trans h.output,Nat.le_trans h.size k.size,fun i hi=>(k.block i (by omega) (fun hs=>by have:=hS i hs;omega)).trans (h.block i hi)⟩
set_option maxHeartbeats 1000000 in
set_option maxRecDepth 100000 in
theorem lnew_any (w:World):
   Calls Tryz.prog 17 #[.int .i64 2,.slice none 0 0,.func (.func 18) #[] #[]] w fun e w'=> ∃lb bd M W H,e= .returned (P lb)∧Parts w' w.heap.size lb bd M W H∧Below w.heap.size w w':=by
 have Kp:Hid (∀W,Calls Tryz.prog 33 #[.int .i64 0,.int .u64 0] W fun e w'=>e= .returned (.int .i64 1)∧W=w'):=fun W=>place_any 0 0 W (by decide)
 go_enter Tryz.func17,Tryz.ntmps17
 go_wp2_with (go_at_call 31;(with_reducible refine(bnew_34 _).mono ?_);rintro e w1 ⟨bd,rfl,hb,hsz,hbd,h1,h2,h3,h4⟩;have Hb:=Lib.hid hb;have Hs:=Lib.hid (And.intro hsz hbd);have H1:=Lib.hid h1;have H2:=Lib.hid h2;have H3:=Lib.hid h3;have H4:=Lib.hid h4;clear hb h1 h2 h3 h4)
 refine wp_name (fun u=>Below w.heap.size w u∧w.heap.size+4<u.heap.size∧Bx u w.heap.size 61 zeros34∧Bx u (w.heap.size+1) 121 (machV w.heap.size 0 0 (.slice none 0 0))∧Bx u (w.heap.size+2) 64 nils34∧Bx u (w.heap.size+3) 81 #[P (w.heap.size+1),.slice (some ⟨w.heap.size+2,0,none⟩) 34 34]∧Bx u (w.heap.size+4) 84 #[P (w.heap.size+3),.func (.func 18) #[] #[]]) ⟨Hb.out.alloc Hb.out.size _,by simp [hsz],H1.out.alloc _,H2.out.alloc _,H3.out.alloc _,H4.out.alloc _,by have:=Bx.new w1 84 #[P (w.heap.size+3),.func (.func 18) #[] #[]];rw[hsz]at this;exact this⟩ ?_
 rintro y ⟨g0,g1,g2,g3,g4,g5,g6⟩
 have G0:=Lib.hid g0
 have Hc:Hid (∀W,Below y.heap.size y W→W.cell? ⟨w.heap.size+4,0,none⟩=some (P (w.heap.size+3))):=fun W hb=>cell_later hb (g6.cell 0)
 have KS:Hid (∀W,Below y.heap.size y W→Calls Tryz.prog 32 #[P (w.heap.size+3),.int .i64 0,.int .i64 1,.int .u64 0,.int .u64 1,.slice none 0 0] W fun e w'=> ∃b,e= .returned (.bool b)∧Parts w' w.heap.size (w.heap.size+4) (w.heap.size+3) (w.heap.size+1) w.heap.size (w.heap.size+2)∧Below w.heap.size w w'):=fun W hb=>by
   have f2:=g2.below hb g2.lt;have f3:=g3.below hb g3.lt;have f4:=g4.below hb g4.lt;have f5:=g5.below hb g5.lt;have f6:=g6.below hb g6.lt
   have hW:=g0.trans (hb.mono g0.size)
   refine(bswap0 w.heap.size _ _ _ _ W f5 f3 f2 f4 hW.size).mono ?_
   rintro e w' ⟨rfl,hk,hr⟩
   refine⟨true,rfl,⟨hr,(hk.block _ f6.lt ?_).trans f6,(hk.block _ f5.lt ?_).trans f5,by omega,by omega,by omega,by omega,by omega⟩,Keeps.belowBase hW hk hW.size ?_⟩
   · rintro(h|h|h)<;>omega
   · rintro(h|h|h)<;>omega
   · rintro i (h|h|h)<;>omega
 have hlt:w.heap.size+4<y.heap.size:=g1
 have gc:=g6.cell 0
 have gc':y.drew.cell? ⟨w.heap.size+4,0,none⟩=some (P (w.heap.size+3)):=gc
 clear g0 g1 g2 g3 g4 g5 g6 hsz hbd Hs Hb H1 H2 H3 H4
 go_region_with (first|(go_at_call 33;(with_reducible refine(Kp.out _).mono ?_);rintro e w2 ⟨rfl,rfl⟩)|(go_at_call 32;(with_reducible refine(KS.out _ (Below.refl _ _).drew).mono ?_);rintro e w2 ⟨ans,rfl,hp,hb⟩;have Hp:=Lib.hid hp;have Hb:=Lib.hid hb;clear hp hb))
 all_goals
   go_wp2_with fail
   go_ret
   exact⟨_,_,_,_,_,rfl,Hp.out,Hb.out⟩
end
section
open Go.RowKit Top
set_option linter.unusedVariables false
set_option maxHeartbeats 1000000 in
theorem book_new (L:List Pol) (lv:Value) (room:Nat) (w:World) (hl:PolsAt w lv L) (h0:0<L.length) (hn:L.length≤32) (hg: ∀p∈L,PolGood p) (r0:1≤room) (r1:room≤4096):
   Calls Tryz.prog 15 #[lv,.int .i64 room] w fun e w'=> ∃v,e= .returned (.tuple #[v,.int .i64 0])∧Below w.heap.size w w':=by
 have Kp:=Lib.hid (policies_good L lv w hl hn hg)
 have Kc:Hid (∀W,Below w.heap.size w W→Calls Tryz.prog 16 #[lv] W fun e w'=> ∃v',e= .returned v'∧PolsAt w' v' L∧(∃a c,v'= .slice a L.length c)∧Below W.heap.size W w'):=fun W hb=>pols_clone lv L W (hl.keep (fr0 hb)) h0 hn
 obtain⟨la,lc,rfl⟩: ∃a c',lv= .slice a L.length c':=by obtain⟨_,a,c',e,_⟩:=hl;exact⟨a,c',e⟩
 clear hl hg h0 hn
 generalize L.length=ln at*
 have d1: ¬((room:Int)<1):=by omega
 have d2: ¬((room:Int)>4096):=by omega
 go_enter Tryz.func15,Tryz.ntmps15
 go_wp2_with (first
   |(go_at_call 30;(with_reducible refine Kp.out.mono ?_);rintro e w1 ⟨rfl,hb⟩;have Hb:=Lib.hid hb;clear hb)
   |(go_at_call 16;(with_reducible refine(Kc.out _ Hb.out).mono ?_);rintro e w2 ⟨v',rfl,hp,⟨a2,c2,rfl⟩,hb2⟩;have Hb2:=Lib.hid (Hb.out.trans (hb2.mono Hb.out.size));clear hp hb2))
 exact bodyPost_ret (v:= .tuple #[P w2.heap.size,.int .i64 0]) (by simp [results,Tryz.results15,go_sem]) rfl ⟨_,rfl,Hb2.out.alloc Hb2.out.size _⟩
noncomputable def coreArr (lv:Value) (room lb:Nat):Array Value:=((Tryz.zeroCells71.setIfInBounds 0 lv).setIfInBounds 1 (.int .u64 room)).setIfInBounds 2 (P lb)
def m0 :Mem:=⟨[0,1,0,0,0,0,0,0,0,0,0,0,0,0,0,0,0,0,0,0,0,0,0,0,0,0,0,0,0,0,0,0,0,0],List.replicate 34 [],0,1⟩
set_option maxHeartbeats 2000000 in
set_option maxRecDepth 100000 in
theorem core_new (L:List Pol) (lv:Value) (room:Nat) (w:World) (hl:PolsAt w lv L) (h0:0<L.length) (hn:L.length≤32) (hg: ∀p∈L,PolGood p) (r0:1≤room) (r1:room≤4096):
   Calls Tryz.prog 4 #[lv,.int .i64 room] w fun e w'=> ∃K lb bd M W H lv',e= .returned (.tuple #[P K,.int .i64 0])∧Parts w' w.heap.size lb bd M W H∧Bx w' K 71 (coreArr lv' room lb)∧PolsAt w' lv' L∧w.heap.size≤K∧Below w.heap.size w w':=by
 have Kp:=Lib.hid (book_new L lv room w hl h0 hn hg r0 r1)
 have Kc:Hid (∀W,Below w.heap.size w W→Calls Tryz.prog 16 #[lv] W fun e w'=> ∃v',e= .returned v'∧PolsAt w' v' L∧(∃a c,v'= .slice a L.length c)∧Below W.heap.size W w'):=fun W hb=>pols_clone lv L W (hl.keep (fr0 hb)) h0 hn
 obtain⟨la,lc,rfl⟩: ∃a c',lv= .slice a L.length c':=by obtain⟨_,a,c',e,_⟩:=hl;exact⟨a,c',e⟩
 clear hl hg h0 hn
 generalize hln:L.length=ln at*
 have Hln:=Lib.hid hln
 clear hln
 have hr64:wrap64 (room:Int)=room:=by unfold wrap64;omega
 go_enter Tryz.func4,Tryz.ntmps4
 go_wp2_with (first
   |(go_at_call 15;(with_reducible refine Kp.out.mono ?_);rintro e w1 ⟨v,rfl,hb⟩;have Hb:=Lib.hid hb;clear hb)
   |(go_at_call 16;(with_reducible refine(Kc.out _ Hb.out).mono ?_);rintro e w2 ⟨v',rfl,hp,⟨a2,c2,rfl⟩,hb2⟩;have Hp:=Lib.hid hp;have Hb2:=Lib.hid (Hb.out.trans (hb2.mono Hb.out.size));clear hp hb2)
   |(go_at_call 17;(with_reducible refine(lnew_any _).mono ?_);rintro e w3 ⟨lb,bd,M,W,H,rfl,hpa,hb3⟩;have Hpa:=Lib.hid hpa;have Hb3:=Lib.hid hb3;clear hpa hb3))
 have hb23:Below w.heap.size w w3:=Hb2.out.trans (Hb3.out.mono Hb2.out.size)
 have hp:=Hpa.out
 have hz:=Hb2.out.size
 have hc:=Bx.new w3 71 (coreArr (.slice a2 ln c2) room lb)
 refine bodyPost_ret (v:= .tuple #[P w3.heap.size,.int .i64 0]) (by simp [results,Tryz.results4,go_sem]) rfl ⟨w3.heap.size,lb,bd,M,W,H,.slice a2 ln c2,rfl,⟨⟨hp.raw.words.alloc _,?_,hp.raw.holds.alloc _⟩,hp.lanes.alloc _,hp.board.alloc _,by have:=hp.ge;omega⟩,hc,?_,hb23.size,hb23.alloc hb23.size _⟩
 · obtain⟨last,h1,h2⟩:=hp.raw.mach
   obtain⟨nn,xs,ho,h3,h4⟩:=h2
   exact⟨last,h1.alloc _,nn,xs,(ownsRow_mono (by omega) ho).alloc _,h3,h4⟩
 · exact Hp.out.keep (fr0 (Hb3.out.alloc Hb3.out.size _))
end
section
open Go.RowKit Top
set_option linter.unusedVariables false
def PendAt (w:World) (B:Nat) (A:Adr) (who:Nat) (v:Value):Option (Live×Kont)→Prop
 |none=>v= .nilFunc
 |some (x,k)=> ∃xb pol,KontAt w ⟨A,(who:Int),xb,pol⟩ v k∧CallAt w ⟨A,(who:Int),xb,pol⟩ x∧EOk ⟨A,(who:Int),xb,pol⟩ x∧B≤xb
structure SysAt (w:World) (B:Nat) (A:Adr) (m:Mem) (pd:Nat→Option (Live×Kont)):Prop where
 st:St w B A m
 pend: ∃arr,Bx w A.K 71 arr∧arr.size=67∧ ∀who,who<64→ ∃v,arr[3+who]? =some v∧PendAt w B A who v (pd who)
 kb:B≤A.K
theorem zero87 :Tryz.zeroCells71= #[.slice none 0 0,.int .u64 0,.pointer none]++Array.replicate 64 .nilFunc:=by kernel_rfl
theorem coreArr_size (lv:Value) (room lb:Nat):(coreArr lv room lb).size=67:=by unfold coreArr;rw[zero87];simp
theorem coreArr_nil (lv:Value) (room lb:Nat) (i:Nat) (hi:i<64):(coreArr lv room lb)[3+i]? =some .nilFunc:=by
 unfold coreArr
 rw[zero87,Array.getElem?_setIfInBounds_ne (by omega),Array.getElem?_setIfInBounds_ne (by omega),Array.getElem?_setIfInBounds_ne (by omega),Array.getElem?_append_right (by simp)]
 simp [hi]
theorem words1_eq :words1=(m0.words.map fun(x:Nat)=>Value.int .u64 x).toArray:=by rfl
theorem m0_lt (i:Nat):m0.word i<18446744073709551616:=by
 have h: ∀x∈m0.words,x<18446744073709551616:=by decide
 unfold Mem.word
 rw[List.getD_eq_getElem?_getD]
 cases e:m0.words[i]? with
 |none=>simp
 |some x=>exact h x (List.mem_of_getElem? e)
theorem m0_hold (i:Nat):m0.hold i=[]:=by
 have h: ∀x∈m0.holds,x=[]:=by decide
 unfold Mem.hold
 rw[List.getD_eq_getElem?_getD]
 cases e:m0.holds[i]? with
 |none=>rfl
 |some x=>exact h x (List.mem_of_getElem? e)
theorem sys_new {w:World} {B K lb bd M W H room:Nat} {lv:Value} {L:List Pol} (hp:Parts w B lb bd M W H) (hc:Bx w K 71 (coreArr lv room lb)) (hl:PolsAt w lv L) (hK:B≤K) (hB:B≤w.heap.size):SysAt w B ⟨K,lb,bd,M,W,H,L,room⟩ m0 fun _=>none:=by
 refine⟨⟨hp.lanes,hp.board,hp.raw.mach,by rw[← words1_eq];exact hp.raw.words,rfl,m0_lt,⟨nils34,by simp [nils34],hp.raw.holds,fun i hi=>⟨.slice none 0 0,by simp [nils34,hi],?_⟩⟩,rfl,⟨hp.ge.2.2.1,hp.ge.2.2.2.1,hp.ge.2.2.2.2,hB⟩,by decide,by decide,⟨_,lv,hc,coreArr_size _ _ _,?_,?_,?_,hl⟩⟩,⟨_,hc,coreArr_size _ _ _,fun who hw=>⟨_,coreArr_nil _ _ _ _ hw,rfl⟩⟩,hK⟩
 · rw[m0_hold]
   exact CellsAt.nil w
 · unfold coreArr;rw[zero87];simp
 · unfold coreArr;rw[zero87];simp
 · unfold coreArr;rw[zero87];simp
end
section
open Go.RowKit Top
set_option linter.unusedVariables false
theorem call_ne {w:World} {A:Adr} {who who':Int} {xb xb':Nat} {p p':Pol} {x x':Live} (h:CallAt w ⟨A,who,xb,p⟩ x) (h':CallAt w ⟨A,who',xb',p'⟩ x') (hn:who≠who'):xb≠xb':=by
 rintro rfl
 obtain⟨k1,h1,_⟩:=h
 obtain⟨k2,h2,_⟩:=h'
 have e1:=h1.cell 5
 have e2:=h2.cell 5
 dsimp only at e1 e2
 rw[e1]at e2
 simp [callA]at e2
 exact hn e2
theorem PendAt.keep {w w':World} {B B':Nat} {X:List Nat} {A:Adr} {who:Nat} {v:Value} (hf:Fr B' X w w'): ∀ {o:Option (Live×Kont)},(∀x k xb pol,o=some (x,k)→CallAt w ⟨A,(who:Int),xb,pol⟩ x→xb∉X)→PendAt w B A who v o→PendAt w' B A who v o
 |none,_,h=>h
 |some (x,k),hx,⟨xb,pol,h1,h2,h3,h4⟩=>⟨xb,pol,h1.keep hf,h2.keep hf (hx x k xb pol rfl h2),h3,h4⟩
theorem SysAt.keep {w w':World} {B:Nat} {A:Adr} {m:Mem} {pd:Nat→Option (Live×Kont)} (h:SysAt w B A m pd) (k:Below w.heap.size w w'):SysAt w' B A m pd:=by
 obtain⟨arr,h1,h2,h3⟩:=h.pend
 refine⟨h.st.later k,⟨arr,h1.below k h1.lt,h2,fun who hw=> ?_⟩,h.kb⟩
 obtain⟨v,h4,h5⟩:=h3 who hw
 exact⟨v,h4,h5.keep (fr0 k) (fun _ _ _ _ _ _=>by simp)⟩
theorem St.setPend {w:World} {B:Nat} {A:Adr} {m:Mem} (h:St w B A m) {arr:Array Value} (hK:Bx w A.K 71 arr) (hB:B≤A.K) (i:Nat) (hi:3≤i) (v:Value):St (w.setCell ⟨A.K,i,none⟩ v) B A m∧Fr B [A.K] w (w.setCell ⟨A.K,i,none⟩ v):=by
 have hf:Fr B [A.K] w (w.setCell ⟨A.K,i,none⟩ v):=(Fr.refl B [A.K] w).setCell (p:=⟨A.K,i,none⟩) hK hB rfl (fun _=>by simp) _
 obtain⟨last,hm,hl⟩:=h.mach
 obtain⟨nn,xs,ho,hn,h1⟩:=hl
 obtain⟨hs,h2,h3,h4⟩:=h.holds
 obtain⟨arr',lv,c1,c2,c3,c4,c5,c6⟩:=h.core
 have ea:arr'=arr:=by
   unfold Bx at c1 hK
   rw[c1]at hK
   injection hK with hK
   injection hK
 subst ea
 refine⟨⟨h.lanes.keep hf rfl,h.board.keep hf rfl,⟨last,hm.sne (hm.ne hK (by decide)),nn,xs,ownsRow_setCell_other ho (own_ne ho hK (by decide)) _,hn,h1⟩,h.words.sne (h.words.ne hK (by decide)),h.nwords,h.wordlt,⟨hs,h2,h3.sne (h3.ne hK (by decide)),fun j hj=> ?_⟩,h.nholds,⟨h.below.1,h.below.2.1,h.below.2.2.1,by have:=h.below.2.2.2;simpa [World.setCell]using this⟩,h.clock,h.count,⟨_,lv,hK.setCell i v,by simpa using c2,?_,?_,?_,c6.keep hf⟩⟩,hf⟩
 · obtain⟨u,h5,h6⟩:=h4 j hj
   exact⟨u,h5,h6.keep hf⟩
 · rw[Array.getElem?_setIfInBounds_ne (by omega)];exact c3
 · rw[Array.getElem?_setIfInBounds_ne (by omega)];exact c4
 · rw[Array.getElem?_setIfInBounds_ne (by omega)];exact c5
end
end Go.Proofs.YtemnhpdjoimjbaaGreatDoor
