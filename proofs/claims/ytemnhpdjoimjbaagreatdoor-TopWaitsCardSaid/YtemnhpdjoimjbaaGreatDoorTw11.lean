import Derived.Test.YtemnhpdjoimjbaaGreatDoorTw08
namespace Go.Proofs.YtemnhpdjoimjbaaGreatDoor
section
open Go.RowKit Top
set_option linter.unusedVariables false
theorem LastOk.row_ge {w:World} {B:Nat} {last:Value} (h:LastOk w B last) {k:Nat} (hk:lastRow last k):B≤k:=by
 obtain⟨n,xs,h,_⟩:=h
 exact(h.lt k hk).1
theorem LastOk.row_bx {w:World} {B:Nat} {last:Value} (h:LastOk w B last) {k:Nat} (hk:lastRow last k): ∃a,Bx w k 156 a:=by
 obtain⟨n,xs,h,_⟩:=h
 unfold lastRow at hk
 rcases h.2 with ⟨rfl,_⟩|⟨g,cap,cur,rfl,_,hg,_⟩
 · simp [Value.ownBlock]at hk
 · simp [Value.ownBlock]at hk
   subst hk
   exact⟨cur,hg⟩
theorem Keeps.fr {w w':World} {B M:Nat} {last:Value} {a:Array Value} (h:Keeps (fun k=>k=M∨lastRow last k) w w') (hl:LastOk w B last) (hm:Bx w M 121 a) (hB:B≤M) (hBw:B≤w.heap.size) (X:List Nat):Fr B X w w' where
 os:=h.os
 tape:=h.tape
 output:=h.output
 size:=h.size
 block:=fun k hk=>h.block k (by omega) (by
   rintro(rfl|hr)
   · omega
   · have:=hl.row_ge hr;omega)
 quiet:=fun k c t f hk ho=>by
   rw[h.block k (lt_of_block hk)]
   · exact hk
   · rintro(rfl|hr)
     · unfold Bx at hm
       rw[hk]at hm
       cases hm
       rcases ho with ho|⟨ho,_⟩
       · simp [okT]at ho
       · simp [ownT]at ho
     · obtain⟨a',hb⟩:=hl.row_bx hr
       unfold Bx at hb
       rw[hk]at hb
       cases hb
       rcases ho with ho|⟨ho,_⟩
       · simp [okT]at ho
       · simp [ownT]at ho
theorem Keeps.bx {w w':World} {B M:Nat} {last:Value} (h:Keeps (fun k=>k=M∨lastRow last k) w w') (hl:LastOk w B last) {am:Array Value} (hm:Bx w M 121 am) {b:Nat} {t:TypeId} {a:Array Value} (hb:Bx w b t a) (h1:t≠121) (h2:t≠156):Bx w' b t a:=
 (h.block b hb.lt (by
   rintro(rfl|hr)
   · exact hb.ne hm h1 rfl
   · obtain⟨a',hb'⟩:=hl.row_bx hr
     exact hb.ne hb' h2 rfl)).trans hb
theorem LastOk.later {w w':World} {B:Nat} {last:Value} (h:LastOk w B last) (k:Below w.heap.size w w'):LastOk w' B last:=by
 obtain⟨n,xs,h1,h2,h3⟩:=h
 refine⟨n,xs,⟨h1.1,?_⟩,h2,h3⟩
 rcases h1.2 with h4|⟨g,cap,cur,h4,h5,h6,h7⟩
 · exact .inl h4
 · exact .inr ⟨g,cap,cur,h4,h5,(k.block g (lt_of_block h6)).trans h6,h7⟩
theorem St.later {w w':World} {B:Nat} {A:Adr} {m:Mem} (h:St w B A m) (k:Below w.heap.size w w'):St w' B A m:=by
 have hf:Fr B [] w w':=Fr.of_below h.below.2.2.2 k
 obtain⟨last,hm,hl⟩:=h.mach
 refine⟨h.lanes.keep hf rfl,h.board.keep hf rfl,⟨last,hm.below k hm.lt,hl.later k⟩,h.words.below k h.words.lt,h.nwords,h.wordlt,?_,h.nholds,⟨h.below.1,h.below.2.1,h.below.2.2.1,Nat.le_trans h.below.2.2.2 k.size⟩,h.clock,h.count,h.core.keep hf (by simp)⟩
 obtain⟨hs,h1,h2,h3⟩:=h.holds
 refine⟨hs,h1,h2.below k h2.lt,fun i hi=> ?_⟩
 obtain⟨v,h4,h5⟩:=h3 i hi
 exact⟨v,h4,h5.keep hf⟩
theorem St.drew {w:World} {B:Nat} {A:Adr} {m:Mem} (h:St w B A m):St w.drew B A m:=h.later (Below.refl _ _).drew
theorem St.note {w w':World} {B:Nat} {A:Adr} {m:Mem} (h:St w B A m) {last:Value} {e:Ending} (hm:Bx w A.mach 121 (machV A.words m.clock m.count last)) (hl:LastOk w B last)
   (hr:NoteRes w B A.mach A.words m.clock m.count last e w') (X:List Nat):St w' B A m.touch∧Fr B X w w':=by
 obtain⟨_,hk,last',hm',hl'⟩:=hr
 have hf:=fun X=>hk.fr hl hm h.below.1 h.below.2.2.2 X
 refine⟨⟨h.lanes.keep (hf []) rfl,h.board.keep (hf []) rfl,⟨last',hm',hl'⟩,hk.bx hl hm h.words (by decide) (by decide),h.nwords,h.wordlt,?_,h.nholds,⟨h.below.1,h.below.2.1,h.below.2.2.1,Nat.le_trans h.below.2.2.2 hk.size⟩,h.clock,by have:=h.count;show 0≤m.count+1;omega,h.core.keep (hf []) (by simp)⟩,hf X⟩
 obtain⟨hs,h1,h2,h3⟩:=h.holds
 refine⟨hs,h1,hk.bx hl hm h2 (by decide) (by decide),fun i hi=> ?_⟩
 obtain⟨v,h4,h5⟩:=h3 i hi
 exact⟨v,h4,h5.keep (hf [])⟩
theorem word_cell {w:World} {B:Nat} {A:Adr} {m:Mem} (h:St w B A m) {i:Nat} (hi:i<34):w.cell? ⟨A.words,i,none⟩=some (.int .u64 (m.word i:Nat)):=by
 rw[h.words.cell]
 have hl:=h.nwords
 rw[List.getElem?_toArray,List.getElem?_map,List.getElem?_eq_getElem (by omega)]
 unfold Mem.word
 rw[List.getD_eq_getElem?_getD,List.getElem?_eq_getElem (by omega)]
 rfl
def Acc (w:World) (B:Nat) (A:Adr) (m:Mem) (w':World):Prop:=St w' B A m∧Fr B [] w w'
theorem Acc.later {w w1 w':World} {B:Nat} {A:Adr} {m:Mem} (h:Acc w B A m w1) (k:Below w1.heap.size w1 w'):Acc w B A m w':=⟨h.1.later k,h.2.below h.1.below.2.2.2 k⟩
theorem Acc.drew {w w1:World} {B:Nat} {A:Adr} {m:Mem} (h:Acc w B A m w1):Acc w B A m w1.drew:=h.later (Below.refl _ _).drew
theorem Acc.alloc {w w1:World} {B:Nat} {A:Adr} {m:Mem} (h:Acc w B A m w1) (o:Obj):Acc w B A m (w1.alloc o):=h.later ((Below.refl _ _).alloc (Nat.le_refl _) o)
theorem Acc.trans {a b c:World} {B:Nat} {A:Adr} {m m':Mem} (h:Acc a B A m b) (k:Acc b B A m' c):Acc a B A m' c:=⟨k.1,h.2.trans k.2⟩
theorem Acc.start {w:World} {B:Nat} {A:Adr} {m:Mem} (h:St w B A m):Acc w B A m w:=⟨h,Fr.refl _ _ _⟩
def Noted (w:World) (B:Nat) (A:Adr) (m:Mem) (w':World):Prop:=
 ∃last,Bx w A.mach 121 (machV A.words m.clock m.count last)∧LastOk w B last∧Keeps (fun k=>k=A.mach∨lastRow last k) w w'∧ ∃last',Bx w' A.mach 121 (machV A.words m.clock (m.count+1) last')∧LastOk w' B last'
theorem Noted.mk' {w w':World} {B:Nat} {A:Adr} {m:Mem} {last:Value} {e:Ending} (hm:Bx w A.mach 121 (machV A.words m.clock m.count last)) (hl:LastOk w B last) (hr:NoteRes w B A.mach A.words m.clock m.count last e w'):Noted w B A m w':=⟨last,hm,hl,hr.2.1,hr.2.2⟩
theorem Noted.acc {w w':World} {B:Nat} {A:Adr} {m:Mem} (n:Noted w B A m w') (h:St w B A m):Acc w B A m.touch w':=by
 obtain⟨last,hm,hl,hk,hr⟩:=n
 exact h.note (e:= .returned (.tuple #[])) hm hl ⟨rfl,hk,hr⟩ []
theorem Noted.later {w w' w'':World} {B:Nat} {A:Adr} {m:Mem} (n:Noted w B A m w') (k:Below w'.heap.size w' w''):Noted w B A m w'':=by
 obtain⟨last,hm,hl,hk,last',hm',hl'⟩:=n
 exact⟨last,hm,hl,hk.below k,last',hm'.below k hm'.lt,hl'.later k⟩
theorem Noted.drew {w w':World} {B:Nat} {A:Adr} {m:Mem} (n:Noted w B A m w'):Noted w B A m w'.drew:=n.later (Below.refl _ _).drew
theorem Noted.alloc {w w':World} {B:Nat} {A:Adr} {m:Mem} (n:Noted w B A m w') (o:Obj):Noted w B A m (w'.alloc o):=n.later ((Below.refl _ _).alloc (Nat.le_refl _) o)
theorem LastOk.of_below {u w:World} {B:Nat} {last:Value} (hl:LastOk u B last) (k:Below u.heap.size u w):LastOk w B last:=hl.later k
theorem Noted.pre {u w w':World} {B:Nat} {A:Adr} {m:Mem} (h:St u B A m) (k:Below u.heap.size u w) (n:Noted w B A m w'):Noted u B A m w':=by
 obtain⟨last,hm,hl,hk,hr⟩:=n
 obtain⟨last2,hm2,hl2⟩:=h.mach
 have e:last2=last:=by
   have h1:=hm2.below k hm2.lt
   unfold Bx at h1 hm
   rw[h1]at hm
   simp [machV]at hm
   exact hm
 subst e
 exact⟨last2,hm2,hl2,⟨hk.os.trans k.os,hk.tape.trans k.tape,hk.output.trans k.output,Nat.le_trans k.size hk.size,fun i hi hs=>(hk.block i (Nat.lt_of_lt_of_le hi k.size) hs).trans (k.block i hi)⟩,hr⟩
theorem Noted.setVar {w w':World} {B:Nat} {A:Adr} {m:Mem} (n:Noted w B A m w') {q i:Nat} {t:TypeId} {a:Array Value} (hq:w.heap.size≤q) (hb:Bx w' q t a) (h1:t≠121) (h2:t≠156) (v:Value):Noted w B A m (w'.setCell ⟨q,i,none⟩ v):=by
 obtain⟨last,hm,hl,hk,last',hm',n',xs,ho,hn,ho1⟩:=n
 exact⟨last,hm,hl,hk.setCell ⟨q,i,none⟩ (.inr hq) v,last',hm'.setCell_ne _ _ (fun e=>hm'.ne hb (fun e=>h1 e.symm) e),n',xs,ownsRow_setCell_other ho (own_ne ho hb h2) _,hn,ho1⟩
set_option maxHeartbeats 1000000 in
set_option maxRecDepth 100000 in
theorem mload_any (B:Nat) (A:Adr) (m:Mem) (who:Int) (i:Nat) (w:World) (h:St w B A m) (h0:0≤who) (h1:who<64) (hi:i<34) (hc:m.count<4611686018427387904):
   Calls Tryz.prog 116 #[.pointer (some ⟨A.mach,0,none⟩),.int .i64 who,.int .i64 i] w fun e w'=>e= .returned (.tuple #[.int .u64 (m.word i:Nat),.int .i64 0])∧Noted w B A m w':=by
 obtain⟨last,hm,hl⟩:=h.mach
 have c0:w.cell? ⟨A.mach,0,none⟩=some (.slice (some ⟨A.words,0,none⟩) 34 34):=hm.cell 0
 have cw:=word_cell h hi
 have Ks:=Lib.hid (size_any A.mach last last A.words 34 34 m.clock m.count w hm)
 have Kw:=Lib.hid (worker_ok who i 34 w h0 h1 (by omega) (by omega))
 have Kn:=Lib.hid (fun a b c=>note_any B A.mach A.words m.clock m.count last who a b c 0 true w hm hl ⟨h.count,hc⟩ h.below.2.2.2)
 have H:=Lib.hid h;have Hm:=Lib.hid hm;have Hl:=Lib.hid hl
 clear h hm hl hc h0 h1
 have hi':(i:Int)<34:=by omega
 go_enter Tryz.func116,Tryz.ntmps116
 go_wp2_with (first|(go_at_call 79;(with_reducible refine Ks.out.mono ?_);rintro e w1 ⟨rfl,rfl⟩)|(go_at_call 78;(with_reducible refine Kw.out.mono ?_);rintro e w1 ⟨rfl,rfl⟩)|(go_at_call 80;(refine (Kn.out 1 i (m.word i)).mono ?_);rintro e w1 hr;obtain rfl:=hr.1;have Hr:=Lib.hid hr;clear hr))
 exact bodyPost_ret (v:= .tuple #[.int .u64 (m.word i:Nat),.int .i64 0]) (by simp [results,Tryz.results116,go_sem]) rfl ⟨rfl,Noted.mk' Hm.out Hl.out Hr.out⟩
set_option maxHeartbeats 1000000 in
set_option maxRecDepth 100000 in
theorem mclock_any (B:Nat) (A:Adr) (m:Mem) (who:Int) (w:World) (h:St w B A m) (h0:0≤who) (h1:who<64) (hc:m.count<4611686018427387904):
   Calls Tryz.prog 128 #[.pointer (some ⟨A.mach,0,none⟩),.int .i64 who] w fun e w'=>e= .returned (.tuple #[.int .i64 m.clock,.int .i64 0])∧Noted w B A m w':=by
 obtain⟨last,hm,hl⟩:=h.mach
 have c1:w.cell? ⟨A.mach,1,none⟩=some (.int .i64 m.clock):=hm.cell 1
 have Kw:=Lib.hid (worker_ok who 0 1 w h0 h1 (by omega) (by omega))
 have Kn:=Lib.hid (fun a b c d=>note_any B A.mach A.words m.clock m.count last who a d b c true w hm hl ⟨h.count,hc⟩ h.below.2.2.2)
 have H:=Lib.hid h;have Hm:=Lib.hid hm;have Hl:=Lib.hid hl
 clear h hm hl hc h0 h1
 go_enter Tryz.func128,Tryz.ntmps128
 go_wp2_with (first|(go_at_call 78;(with_reducible refine Kw.out.mono ?_);rintro e w1 ⟨rfl,rfl⟩)|(go_at_call 80;(refine (Kn.out 3 _ _ 0).mono ?_);rintro e w1 hr;obtain rfl:=hr.1;have k1:w1.cell? ⟨A.mach,1,none⟩=some (.int .i64 m.clock):=(hr.2.2.choose_spec.1).cell 1;have Hr:=Lib.hid hr;clear hr))
 exact bodyPost_ret (v:= .tuple #[.int .i64 m.clock,.int .i64 0]) (by simp [results,Tryz.results128,go_sem]) rfl ⟨rfl,Noted.mk' Hm.out Hl.out Hr.out⟩
end
section
open Go.RowKit Top
set_option linter.unusedVariables false
theorem arr_set (l:List Nat) (i x:Nat):(l.map fun(x:Nat)=>Value.int .u64 x).toArray.setIfInBounds i (.int .u64 (x:Nat))=((l.set i x).map fun(x:Nat)=>Value.int .u64 x).toArray:=by
 simp [List.map_set]
theorem getD_set {α} (l:List α) (i j:Nat) (x d:α) (hi:i<l.length):(l.set i x).getD j d=if j=i then x else l.getD j d:=by
 simp only[List.getD_eq_getElem?_getD,List.getElem?_set]
 by_cases h:j=i
 · subst h;simp [hi]
 · have h': ¬i=j:=fun e=>h e.symm
   simp [h,h']
def Mem.setWord (m:Mem) (i x:Nat):Mem:={m with words:=m.words.set i x }
def Mem.setHold (m:Mem) (i:Nat) (h:List Cell):Mem:={m with holds:=m.holds.set i h }
theorem St.fr_words {w:World} {B:Nat} {A:Adr} {m:Mem} (h:St w B A m) (i:Nat) (u:Value) (X:List Nat):Fr B X w (w.setCell ⟨A.words,i,none⟩ u):=by
 have hw:=h.words
 unfold Bx at hw
 refine(Fr.refl B X w).setCell (p:=⟨A.words,i,none⟩) hw h.below.2.1 ?_ (by intro ho;simp [ownT]at ho) u
 have:=h.nwords
 simp [okT,this]
theorem St.setWord {w:World} {B:Nat} {A:Adr} {m:Mem} (h:St w B A m) {i x:Nat} (hi:i<34) (hx:x<18446744073709551616):St (w.setCell ⟨A.words,i,none⟩ (.int .u64 (x:Nat))) B A (Mem.setWord m i x):=by
 have hf:=h.fr_words i (.int .u64 (x:Nat)) []
 have hsz:(w.setCell ⟨A.words,i,none⟩ (.int .u64 (x:Nat))).heap.size=w.heap.size:=by simp [World.setCell]
 obtain⟨last,hm,hl⟩:=h.mach
 refine⟨h.lanes.keep hf rfl,h.board.keep hf rfl,⟨last,hm.setCell_ne _ _ (hm.ne h.words (by decide)),?_⟩,?_,by simpa [Mem.setWord]using h.nwords,fun j=> ?_,?_,h.nholds,⟨h.below.1,h.below.2.1,h.below.2.2.1,by rw[hsz];exact h.below.2.2.2⟩,h.clock,h.count,h.core.keep hf (by simp)⟩
 · obtain⟨n,xs,ho,hn,h1⟩:=hl
   exact⟨n,xs,ownsRow_setCell_other ho (own_ne ho h.words (by decide)) _,hn,h1⟩
 · have:=h.words.setCell i (.int .u64 (x:Nat))
   rw[arr_set]at this
   exact this
 · show(m.words.set i x).getD j 0<_
   rw[getD_set _ _ _ _ _ (by rw[h.nwords];exact hi)]
   split
   · exact hx
   · exact h.wordlt j
 · obtain⟨hs,h1,h2,h3⟩:=h.holds
   refine⟨hs,h1,h2.setCell_ne _ _ (h2.ne h.words (by decide)),fun i hi=> ?_⟩
   obtain⟨v,h4,h5⟩:=h3 i hi
   exact⟨v,h4,h5.keep hf⟩
theorem St.fr_holds {w:World} {B:Nat} {A:Adr} {m:Mem} (h:St w B A m) (i:Nat) (u:Value) (X:List Nat):Fr B X w (w.setCell ⟨A.holds,i,none⟩ u):=by
 obtain⟨hs,h1,h2,h3⟩:=h.holds
 unfold Bx at h2
 refine(Fr.refl B X w).setCell (p:=⟨A.holds,i,none⟩) h2 h.below.2.2.1 ?_ (by intro ho;simp [ownT]at ho) u
 simp [okT,h1]
theorem St.setHold {w:World} {B:Nat} {A:Adr} {m:Mem} (h:St w B A m) {i:Nat} {v:Value} {L:List Cell} (hi:i<34) (hv:CellsAt w v L):St (w.setCell ⟨A.holds,i,none⟩ v) B A (Mem.setHold m i L):=by
 have hf:=h.fr_holds i v []
 have hsz:(w.setCell ⟨A.holds,i,none⟩ v).heap.size=w.heap.size:=by simp [World.setCell]
 obtain⟨last,hm,hl⟩:=h.mach
 obtain⟨hs,h1,h2,h3⟩:=h.holds
 refine⟨h.lanes.keep hf rfl,h.board.keep hf rfl,⟨last,hm.setCell_ne _ _ (hm.ne h2 (by decide)),?_⟩,h.words.setCell_ne _ _ (h.words.ne h2 (by decide)),h.nwords,h.wordlt,⟨hs.setIfInBounds i v,by simpa using h1,h2.setCell i v,fun j hj=> ?_⟩,by simpa [Mem.setHold]using h.nholds,⟨h.below.1,h.below.2.1,h.below.2.2.1,by rw[hsz];exact h.below.2.2.2⟩,h.clock,h.count,h.core.keep hf (by simp)⟩
 · obtain⟨n,xs,ho,hn,h1⟩:=hl
   exact⟨n,xs,ownsRow_setCell_other ho (own_ne ho h2 (by decide)) _,hn,h1⟩
 · by_cases e:j=i
   · subst e
     refine⟨v,by simp [h1,hj],?_⟩
     show CellsAt _ v ((m.holds.set j L).getD j [])
     rw[getD_set _ _ _ _ _ (by rw[h.nholds];exact hj),if_pos rfl]
     exact hv.keep hf
   · obtain⟨v',h4,h5⟩:=h3 j hj
     refine⟨v',by rw[Array.getElem?_setIfInBounds,if_neg (fun e'=>e e'.symm)];exact h4,?_⟩
     show CellsAt _ v' ((m.holds.set i L).getD j [])
     rw[getD_set _ _ _ _ _ (by rw[h.nholds];exact hi),if_neg e]
     exact h5.keep hf
def swapW (m:Mem) (i old new:Nat):Mem:=if m.word i=old then(Mem.setWord m i new).touch else m.touch
set_option maxHeartbeats 1000000 in
set_option maxRecDepth 100000 in
theorem mswap_any (B:Nat) (A:Adr) (m:Mem) (who:Int) (i old new:Nat) (w:World) (h:St w B A m) (h0:0≤who) (h1:who<64) (hi:i<34) (hn:new<18446744073709551616) (hc:m.count<4611686018427387904):
   Calls Tryz.prog 56 #[.pointer (some ⟨A.mach,0,none⟩),.int .i64 who,.int .i64 i,.int .u64 old,.int .u64 new] w fun e w'=>e= .returned (.tuple #[.bool (decide (m.word i=old)),.int .i64 0])∧Acc w B A (swapW m i old new) w':=by
 obtain⟨last,hm,hl⟩:=h.mach
 have c0:w.cell? ⟨A.mach,0,none⟩=some (.slice (some ⟨A.words,0,none⟩) 34 34):=hm.cell 0
 have cw:=word_cell h hi
 have fw:w.frozen? ⟨A.words,i,none⟩=false:=h.words.free i
 have Ks:=Lib.hid (size_any A.mach last last A.words 34 34 m.clock m.count w hm)
 have Kw:=Lib.hid (worker_ok who i 34 w h0 h1 (by omega) (by omega))
 have hi':(i:Int)<34:=by omega
 have hlt:=h.wordlt i
 by_cases hd:m.word i=old
 · have h2:=h.setWord (x:=new) hi hn
   obtain⟨last2,hm2,hl2⟩:=h2.mach
   have Kn:=Lib.hid (fun a b c d=>note_any B A.mach A.words m.clock m.count last2 who a b c d true (w.setCell ⟨A.words,i,none⟩ (.int .u64 (new:Nat))) hm2 hl2 ⟨h.count,hc⟩ h2.below.2.2.2)
   have H:=Lib.hid h;have H2:=Lib.hid h2;have Hm:=Lib.hid hm2;have Hl:=Lib.hid hl2
   have hsw:swapW m i old new=(Mem.setWord m i new).touch:=by unfold swapW;rw[if_pos hd]
   have Hsw:=Lib.hid hsw
   subst hd
   clear h h2 hm hl hm2 hl2 hc h0 h1 hsw
   go_enter Tryz.func56,Tryz.ntmps56
   go_wp2_with (first|(go_at_call 79;(with_reducible refine Ks.out.mono ?_);rintro e w1 ⟨rfl,rfl⟩)|(go_at_call 78;(with_reducible refine Kw.out.mono ?_);rintro e w1 ⟨rfl,rfl⟩)|(go_at_call 80;(refine (Kn.out 2 i _ _).mono ?_);rintro e w1 hr;obtain rfl:=hr.1;have Hr:=Lib.hid hr;clear hr))
   refine bodyPost_ret (v:= .tuple #[.bool true,.int .i64 0]) (by simp [results,Tryz.results56,go_sem]) rfl ⟨by simp,?_⟩
   rw[Hsw.out]
   have k:=H2.out.note Hm.out Hl.out Hr.out []
   exact⟨k.1,(H.out.fr_words i _ []).trans k.2⟩
 · have Kn:=Lib.hid (fun a b c d=>note_any B A.mach A.words m.clock m.count last who a b c d false w hm hl ⟨h.count,hc⟩ h.below.2.2.2)
   have H:=Lib.hid h;have Hm:=Lib.hid hm;have Hl:=Lib.hid hl
   have hsw:swapW m i old new=m.touch:=by unfold swapW;rw[if_neg hd]
   have Hsw:=Lib.hid hsw
   have hd': ¬((m.word i:Nat):Int)=(old:Int):=by omega
   have hde:decide (m.word i=old)=false:=decide_eq_false hd
   have Hde:=Lib.hid hde
   clear h hm hl hc h0 h1 hsw hde hd
   go_enter Tryz.func56,Tryz.ntmps56
   go_wp2_with (first|(go_at_call 79;(with_reducible refine Ks.out.mono ?_);rintro e w1 ⟨rfl,rfl⟩)|(go_at_call 78;(with_reducible refine Kw.out.mono ?_);rintro e w1 ⟨rfl,rfl⟩)|(go_at_call 80;(refine (Kn.out 2 i _ _).mono ?_);rintro e w1 hr;obtain rfl:=hr.1;have Hr:=Lib.hid hr;clear hr))
   rw[Hde.out,Hsw.out]
   exact bodyPost_ret (v:= .tuple #[.bool false,.int .i64 0]) (by simp [results,Tryz.results56,go_sem]) rfl ⟨rfl,H.out.note Hm.out Hl.out Hr.out []⟩
theorem hold_cell {w:World} {B:Nat} {A:Adr} {m:Mem} (h:St w B A m) {i:Nat} (hi:i<34): ∃a n c,w.cell? ⟨A.holds,i,none⟩=some (.slice a n c)∧CellsAt w (.slice a n c) (m.hold i):=by
 obtain⟨hs,h1,h2,h3⟩:=h.holds
 obtain⟨v,h4,h5⟩:=h3 i hi
 have h6:=h5
 obtain⟨xs,_,⟨_,a,c,rfl,_⟩,_⟩:=h6
 exact⟨a,xs.length,c,(h2.cell i).trans h4,h5⟩
theorem Noted.hold {w w':World} {B:Nat} {A:Adr} {m:Mem} (n:Noted w B A m w') (h:St w B A m) {i:Nat} {v:Value} (hv:w.cell? ⟨A.holds,i,none⟩=some v):w'.cell? ⟨A.holds,i,none⟩=some v:=by
 obtain⟨last,hm,hl,hk,_⟩:=n
 obtain⟨hs,h1,h2,h3⟩:=h.holds
 have hb:=hk.bx hl hm h2 (by decide) (by decide)
 rw[hb.cell,←h2.cell]
 exact hv
set_option maxHeartbeats 1000000 in
set_option maxRecDepth 100000 in
theorem bload_at (B:Nat) (A:Adr) (m:Mem) (who:Int) (i:Nat) (a:Option Addr) (n c:Nat) (w:World) (h:St w B A m) (h0:0≤who) (h1:who<64) (hi:i<34) (hc:m.count<4611686018427387904) (hh:w.cell? ⟨A.holds,i,none⟩=some (.slice a n c)):
   Calls Tryz.prog 83 #[.pointer (some ⟨A.board,0,none⟩),.int .i64 who,.int .i64 i] w fun e w'=>e= .returned (.tuple #[.int .u64 (m.word i:Nat),.slice a n c])∧Noted w B A m w':=by
 have c0:w.cell? ⟨A.board,0,none⟩=some (.pointer (some ⟨A.mach,0,none⟩)):=h.board.cell 0
 have Kl:=Lib.hid (mload_any B A m who i w h h0 h1 hi hc)
 have hi':(i:Int)<34:=by omega
 have H:=Lib.hid h
 have Hh:=Lib.hid hh
 clear h hc h0 h1 hh
 go_enter Tryz.func83,Tryz.ntmps83
 go_wp2_with (go_at_call 116;(with_reducible refine Kl.out.mono ?_);rintro e w1 ⟨rfl,hno⟩;have hs:=hno.acc H.out;have hh:=hno.hold H.out Hh.out;have k1:w1.cell? ⟨A.board,1,none⟩=some (.slice (some ⟨A.holds,0,none⟩) 34 34):=hs.1.board.cell 1;have Hs:=Lib.hid hno;clear hs hno)
 go_region
 go_wp2
 exact bodyPost_ret (v:= .tuple #[.int .u64 (m.word i:Nat),.slice a n c]) (by simp [results,Tryz.results83,go_sem]) rfl ⟨rfl,Hs.out.drew⟩
def swapM (m:Mem) (i old new:Nat) (L:List Cell):Mem:=(m.swap i old new L).2
set_option maxHeartbeats 1000000 in
set_option maxRecDepth 100000 in
theorem bswap_any (B:Nat) (A:Adr) (m:Mem) (who:Int) (i old new:Nat) (v:Value) (L:List Cell) (w:World) (h:St w B A m) (h0:0≤who) (h1:who<64) (hi:i<34) (hn:new<18446744073709551616) (hv:CellsAt w v L) (hc:m.count<4611686018427387904):
   Calls Tryz.prog 32 #[.pointer (some ⟨A.board,0,none⟩),.int .i64 who,.int .i64 i,.int .u64 old,.int .u64 new,v] w fun e w'=>e= .returned (.bool (m.swap i old new L).1)∧Acc w B A (m.swap i old new L).2 w':=by
 have c0:w.cell? ⟨A.board,0,none⟩=some (.pointer (some ⟨A.mach,0,none⟩)):=h.board.cell 0
 have Kl:=Lib.hid (mswap_any B A m who i old new w h h0 h1 hi hn hc)
 have hi':(i:Int)<34:=by omega
 have hv':=hv
 obtain⟨xs,_,⟨_,va,vc,rfl,_⟩,_⟩:=hv'
 have H:=Lib.hid h;have Hv:=Lib.hid hv
 clear h hv hc h0 h1
 by_cases hd:m.word i=old
 · have hsw:swapW m i old new=(Mem.setWord m i new).touch:=by unfold swapW;rw[if_pos hd]
   have hs2:m.swap i old new L=(true,Mem.setHold (Mem.setWord m i new).touch i L):=by unfold Mem.swap;rw[if_pos hd];rfl
   have Hs2:=Lib.hid hs2;have Hsw:=Lib.hid hsw
   have hde:decide (m.word i=old)=true:=decide_eq_true hd
   rw[hde,hsw]at Kl
   clear hs2 hsw hde hd
   go_enter Tryz.func32,Tryz.ntmps32
   go_wp2_with (go_at_call 56;(with_reducible refine Kl.out.mono ?_);rintro e w1 ⟨rfl,hs⟩;obtain⟨a,n,c,hh,hk⟩:=hold_cell hs.1 hi;have f1:w1.frozen? ⟨A.holds,i,none⟩=false:=hs.1.holds.choose_spec.2.1.free i;have k1:w1.cell? ⟨A.board,1,none⟩=some (.slice (some ⟨A.holds,0,none⟩) 34 34):=hs.1.board.cell 1;have Hs:=Lib.hid hs;clear hs hk)
   go_ret
   rw[Hs2.out]
   have k:=Hs.out
   exact⟨rfl,k.1.setHold hi (Hv.out.keep k.2),k.2.trans (k.1.fr_holds i _ [])⟩
 · have hsw:swapW m i old new=m.touch:=by unfold swapW;rw[if_neg hd]
   have hs2:m.swap i old new L=(false,m.touch):=by unfold Mem.swap;rw[if_neg hd]
   have Hs2:=Lib.hid hs2;have Hsw:=Lib.hid hsw
   have hde:decide (m.word i=old)=false:=decide_eq_false hd
   rw[hde,hsw]at Kl
   clear hs2 hsw hde hd
   go_enter Tryz.func32,Tryz.ntmps32
   go_wp2_with (go_at_call 56;(with_reducible refine Kl.out.mono ?_);rintro e w1 ⟨rfl,hs⟩;have Hs:=Lib.hid hs;clear hs)
   go_ret
   rw[Hs2.out]
   exact⟨rfl,Hs.out⟩
end
end Go.Proofs.YtemnhpdjoimjbaaGreatDoor
