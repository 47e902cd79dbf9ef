import Derived.Test.YtemnhpdjoimjbaaGreatDoorTw13
import Derived.Deep.DeepCutAuto
import Derived.Laws.EntriesVeiled
namespace Go.Proofs.YtemnhpdjoimjbaaGreatDoor
open Go.RowKit Top
set_option linter.unusedVariables false
section
variable {w : World} {E:Env} {x:Live}
theorem CallAt.c0 (h:CallAt w E x):w.cell? ⟨E.x,0,none⟩=some (.int .u8 (x.call.op:Nat)):=by obtain⟨k,h,_⟩:=h;exact h.cell 0
theorem CallAt.c1 (h:CallAt w E x):w.cell? ⟨E.x,1,none⟩=some (.int .i64 x.call.pol):=by obtain⟨k,h,_⟩:=h;exact h.cell 1
theorem CallAt.c3 (h:CallAt w E x):w.cell? ⟨E.x,3,none⟩=some (.int .i64 x.call.n):=by obtain⟨k,h,_⟩:=h;exact h.cell 3
theorem CallAt.c4 (h:CallAt w E x):w.cell? ⟨E.x,4,none⟩=some (P E.A.K):=by obtain⟨k,h,_⟩:=h;exact h.cell 4
theorem CallAt.c5 (h:CallAt w E x):w.cell? ⟨E.x,5,none⟩=some (.int .i64 E.who):=by obtain⟨k,h,_⟩:=h;exact h.cell 5
theorem CallAt.c6 (h:CallAt w E x):w.cell? ⟨E.x,6,none⟩=some (.int .u64 (x.sum:Nat)):=by obtain⟨k,h,_⟩:=h;exact h.cell 6
theorem CallAt.c7 (h:CallAt w E x):w.cell? ⟨E.x,7,none⟩=some (.bool x.reserved):=by obtain⟨k,h,_⟩:=h;exact h.cell 7
theorem CallAt.c8 (h:CallAt w E x):w.cell? ⟨E.x,8,none⟩=some (.int .i64 x.serial):=by obtain⟨k,h,_⟩:=h;exact h.cell 8
theorem CallAt.lt (h:CallAt w E x):E.x<w.heap.size:=by obtain⟨k,h,_⟩:=h;exact h.lt
theorem CoreAt.c1 {A:Adr} (h:CoreAt w A):w.cell? ⟨A.K,1,none⟩=some (.int .u64 (A.room:Nat)):=by obtain⟨arr,lv,h1,h2,h3,h4,h5,h6⟩:=h;exact(h1.cell 1).trans h4
theorem CoreAt.c2 {A:Adr} (h:CoreAt w A):w.cell? ⟨A.K,2,none⟩=some (P A.lanes):=by obtain⟨arr,lv,h1,h2,h3,h4,h5,h6⟩:=h;exact(h1.cell 2).trans h5
theorem CoreAt.lt {A:Adr} (h:CoreAt w A):A.K<w.heap.size:=by obtain⟨arr,lv,h1,_⟩:=h;exact h1.lt
end
set_option maxHeartbeats 1000000 in
set_option maxRecDepth 100000 in
theorem put_any (B:Nat) (E:Env) (x:Live) (m:Mem) (f:Top.Found) (at_:Nat) (there:Bool) (c:Cell) (r:Reply) (fa:Option Addr) (fn fc:Nat) (kv hv:Value) (w:World) (hs:St w B E.A m) (hcl:CallAt w E x) (hf:CellsAt w (.slice fa fn fc) f.cells) (hk:KeyAt w kv c.key) (hh:HeldAt w hv c.held) (ok:PutOk f at_ there c):
   Calls Tryz.prog 104 #[P E.x,.agg #[.int .i64 (f.word:Nat),.int .u64 (f.v:Nat),.slice fa fn fc],.int .i64 at_,.bool there,.agg (cellA c kv hv),.agg (replyA r)] w (KRes w E (putK E.A.room f at_ there c r x)):=by
 obtain⟨ka,kc,rfl⟩: ∃a c',kv= .slice a c.key.length c':=by obtain⟨_,_,a,c',e,_⟩:=hk;exact⟨a,c',e⟩
 obtain⟨ha,hc,rfl⟩: ∃a c',hv= .slice a c.held.length c':=by obtain⟨_,a,c',e,_⟩:=hh;exact⟨a,c',e⟩
 have hb0:=below_allocs [.cells #[P E.x] 107,.cells #[.int .i64 (f.word:Nat),.int .u64 (f.v:Nat),.slice fa fn fc] 172,.cells #[.int .i64 at_] 3,.cells #[.bool there] 4,.cells (cellA c (.slice ka c.key.length kc) (.slice ha c.held.length hc)) 100,.cells (replyA r) 35,.cells #[.func (.func 142) #[] #[P w.heap.size,P (w.heap.size+1),P (w.heap.size+2),P (w.heap.size+3),P (w.heap.size+4),P (w.heap.size+5)]] 66] w
 have hP:PutAt (allocs w [.cells #[P E.x] 107,.cells #[.int .i64 (f.word:Nat),.int .u64 (f.v:Nat),.slice fa fn fc] 172,.cells #[.int .i64 at_] 3,.cells #[.bool there] 4,.cells (cellA c (.slice ka c.key.length kc) (.slice ha c.held.length hc)) 100,.cells (replyA r) 35,.cells #[.func (.func 142) #[] #[P w.heap.size,P (w.heap.size+1),P (w.heap.size+2),P (w.heap.size+3),P (w.heap.size+4),P (w.heap.size+5)]] 66]) E (.func (.func 142) #[] #[P w.heap.size,P (w.heap.size+1),P (w.heap.size+2),P (w.heap.size+3),P (w.heap.size+4),P (w.heap.size+5)]) f at_ there c r:=⟨_,_,_,_,_,_,_,_,_,rfl,bx_allocs w [_,_,_,_,_,_,_] 0 rfl,bx_allocs w [_,_,_,_,_,_,_] 1 rfl,hf.keep (fr0 hb0),bx_allocs w [_,_,_,_,_,_,_] 2 rfl,bx_allocs w [_,_,_,_,_,_,_] 3 rfl,bx_allocs w [_,_,_,_,_,_,_] 4 rfl,hk.keep (fr0 hb0),hh.keep (fr0 hb0),bx_allocs w [_,_,_,_,_,_,_] 5 rfl,ok⟩
 have HP:=Lib.hid hP;have Hb0:=Lib.hid hb0
 have x7:=hcl.c7
 have lx:=hcl.lt
 have lx1:E.x<w.heap.size+1:=by omega
 have lx2:E.x<w.heap.size+1+1:=by omega
 have lx3:E.x<w.heap.size+1+1+1:=by omega
 have lx4:E.x<w.heap.size+1+1+1+1:=by omega
 have lx5:E.x<w.heap.size+1+1+1+1+1:=by omega
 have lx6:E.x<w.heap.size+1+1+1+1+1+1:=by omega
 have W0:=Lib.hid ((Was.start hs hcl).later hb0)
 clear hP hb0 hs hcl hf hk hh ok
 by_cases h1:there=true∨x.reserved=true
 · have hx:putK E.A.room f at_ there c r x= .put f at_ there c r:=by
     unfold putK
     rcases h1 with h|h<;>simp [h]
   have Hx:=Lib.hid hx
   clear hx
   cases there with
   |true=>
     go_enter Tryz.func104,Tryz.ntmps104
     go_wp2_with fail
     go_ret
     rw[Hx.out]
     exact⟨_,rfl,HP.out,Hb0.out⟩
   |false=>
     have hr:x.reserved=true:=by simpa using h1
     rw[hr]at x7
     go_enter Tryz.func104,Tryz.ntmps104
     go_wp2_with fail
     go_ret
     rw[Hx.out]
     exact⟨_,rfl,HP.out,Hb0.out⟩
 · obtain⟨rfl,hr⟩:there=false∧x.reserved=false:=by
     cases there<;>cases hq:x.reserved<;>simp_all
   rw[hr]at x7
   have hx:putK E.A.room f at_ false c r x= .wordLoad COUNT 1 E.A.room (.room f at_ false c r):=by
     unfold putK
     rw[hr]
     rfl
   have Hx:=Lib.hid hx
   clear hx h1
   go_enter Tryz.func104,Tryz.ntmps104
   go_wp2_with fail
   refine wp_name (fun u=>Was w B E x m u∧Bx u w.heap.size 107 #[P E.x]∧Bx u (w.heap.size+6) 66 #[.func (.func 142) #[] #[P w.heap.size,P (w.heap.size+1),P (w.heap.size+2),P (w.heap.size+3),P (w.heap.size+4),P (w.heap.size+5)]]∧PutAt u E (.func (.func 142) #[] #[P w.heap.size,P (w.heap.size+1),P (w.heap.size+2),P (w.heap.size+3),P (w.heap.size+4),P (w.heap.size+5)]) f at_ false c r∧Below w.heap.size w u) ⟨W0.out,bx_allocs w [_,_,_,_,_,_,_] 0 rfl,bx_allocs w [_,_,_,_,_,_,_] 6 rfl,HP.out,Hb0.out⟩ ?_
   rintro u ⟨hw,hl0,hl1,hp,hbu0⟩
   have HP2:=Lib.hid hp;have HBu:=Lib.hid hbu0
   clear hp hbu0 x7 lx lx1 lx2 lx3 lx4 lx5 lx6 hr
   have Kk:Hid (∀W sv tv,StopAt W E sv (.room f at_ false c r)→WThenAt W E tv (.room f at_ false c r)→Calls Tryz.prog 130 #[P E.x,.int .i64 32,.int .u64 1,.int .u64 (E.A.room:Nat),sv,tv] W (KRes W E (.wordLoad COUNT 1 E.A.room (.room f at_ false c r)))):=fun W sv tv hs ht=>cmove_any E 32 1 E.A.room (.room f at_ false c r) sv tv W hs ht
   have HW:=Lib.hid hw
   have HL0:=Lib.hid hl0
   have HL1:=Lib.hid hl1
   have HS:Hid (∀(mm:Mem) (W:World),Was w B E x mm W→Fr B [] u W→W.cell? ⟨w.heap.size,0,none⟩=some (P E.x)∧W.cell? ⟨E.x,4,none⟩=some (P E.A.K)∧W.cell? ⟨E.A.K,1,none⟩=some (.int .u64 (E.A.room:Nat))):=fun mm W hw hf=>⟨(HL0.out.keep hf rfl).cell 0,hw.call.c4,hw.st.core.c1⟩
   have HSa:Hid (∀W:World,Below u.heap.size u W→W.cell? ⟨w.heap.size,0,none⟩=some (P E.x)∧W.cell? ⟨E.x,4,none⟩=some (P E.A.K)∧W.cell? ⟨E.A.K,1,none⟩=some (.int .u64 (E.A.room:Nat))):=fun W hb=>HS.out _ W (HW.out.later hb) (Fr.of_below HW.out.st.below.2.2.2 hb)
   have HLt:Hid (w.heap.size<u.heap.size∧E.x<u.heap.size∧E.A.K<u.heap.size):=⟨HL0.out.lt,HW.out.call.lt,HW.out.st.core.lt⟩
   clear hw hl0 hl1
   have HT:Hid (∀W,Below u.heap.size u W→WThenAt W E (.func (.func 145) #[] #[P w.heap.size,P (w.heap.size+6)]) (.room f at_ false c r)):=fun W hbb=>⟨_,_,_,rfl,HL0.out.keep (fr0 hbb) rfl,HL1.out.keep (fr0 hbb) rfl,HP2.out.keep (fr0 hbb)⟩
   go_region_held3 (fun w'=>w'.cell? ⟨w.heap.size,0,none⟩=some (P E.x)∧w'.cell? ⟨E.x,4,none⟩=some (P E.A.K)∧w'.cell? ⟨E.A.K,1,none⟩=some (.int .u64 (E.A.room:Nat))) (first|(refine HSa.out _ ?_;(repeat (first|(with_reducible first|exact RowKit.Below.refl _ _|assumption|refine RowKit.Below.drew ?_)|((with_reducible first|refine belAlloc ?_ ?_|refine belSet ?_ ?_);(first|simp<;>omega|omega))));done)|(refine hSb _ ?_;(repeat (first|(with_reducible first|exact RowKit.Below.refl _ _|assumption|refine RowKit.Below.drew ?_)|((with_reducible first|refine belAlloc ?_ ?_|refine belSet ?_ ?_);(first|simp<;>omega|omega))));done)) ((first|(go_at_call 130;(refine (Kk.out _ _ _ rfl (HT.out _ (by (repeat (first|(with_reducible first|exact RowKit.Below.refl _ _|assumption|refine RowKit.Below.drew ?_)|((with_reducible first|refine belAlloc ?_ ?_|refine belSet ?_ ?_);(first|simp<;>omega|omega))))))).mono ?_);rintro e w2 ⟨v,rfl,hk,hb⟩;have hbW:=belOfB (u:=u) hb (by (repeat (first|(with_reducible first|exact RowKit.Below.refl _ _|assumption|refine RowKit.Below.drew ?_)|((with_reducible first|refine belAlloc ?_ ?_|refine belSet ?_ ?_);(first|simp<;>omega|omega)))));have hbu:=hbW.trans (hb.mono hbW.size);have hw2:=HW.out.later hbu;have hf:Fr B [] u w2:=Fr.of_below HW.out.st.below.2.2.2 hbu;have hfW:Fr B [] _ w2:=Fr.of_below (Nat.le_trans HW.out.st.below.2.2.2 hbW.size) hb;have Hk:=Lib.hid hk;have HB2:=Lib.hid hbu;clear hk;have hs2:=HS.out _ w2 hw2 hf;have hSb: ∀W:World,Below u.heap.size w2 W→W.cell? ⟨w.heap.size,0,none⟩=some (P E.x)∧W.cell? ⟨E.x,4,none⟩=some (P E.A.K)∧W.cell? ⟨E.A.K,1,none⟩=some (.int .u64 (E.A.room:Nat)):=fun W hb=>⟨cell_lt HLt.out.1 hb hs2.1,cell_lt HLt.out.2.1 hb hs2.2.1,cell_lt HLt.out.2.2 hb hs2.2.2⟩;have hsz:=hf.size;have hl02:=HL0.out.keep hf rfl;have hl12:=HL1.out.keep hf rfl;have HW2:=Lib.hid hw2;have Hf:=Lib.hid hf;have HLb0:=Lib.hid hl02;have HLb1:=Lib.hid hl12;clear hw2 hf hfW hbW hs2 hb hbu hl02 hl12)))
   go_wp2_with fail
   go_ret
   rw[Hx.out]
   exact⟨v,rfl,Hk.out,HBu.out.trans (HB2.out.mono HBu.out.size)⟩
theorem pols_at {w:World} {v:Value} {L:List Pol} (h:PolsAt w v L) {p:Nat} {q:Pol} (hq:L[p]? =some q):p<L.length∧ ∃b off c,v= .slice (some ⟨b,off,none⟩) L.length c∧b<w.heap.size∧w.cell? ⟨b,off+p*4,none⟩=some (.int .u8 (q.kind:Nat))∧w.cell? ⟨b,off+p*4+1,none⟩=some (.int .i64 q.T)∧w.cell? ⟨b,off+p*4+2,none⟩=some (.int .i64 q.tau)∧w.cell? ⟨b,off+p*4+3,none⟩=some (.int .i64 q.permits):=by
 obtain⟨hp,hq⟩:=List.getElem?_eq_some_iff.1 hq
 subst hq
 obtain⟨h1,a,c,rfl,h3,h4,h5⟩:=h
 obtain⟨b,off,arr,rfl,h6,h7⟩:=h5 (by omega)
 have key: ∀(l:List Pol) (p k:Nat) (hp:p<l.length),k<4→(l.flatMap polEnc)[p*4+k]? =(polEnc l[p])[k]? :=by
   intro l
   induction l with
   |nil=>intro p k hp;simp at hp
   |cons q l ih=>
     intro p k hp hk
     cases p with
     |zero=>rw[List.flatMap_cons,List.getElem?_append_left (by simp [polEnc];omega)];simp
     |succ p=>
       rw[List.flatMap_cons,List.getElem?_append_right (by simp [polEnc];omega)]
       have e:(p+1)*4+k-(polEnc q).length=p*4+k:=by simp [polEnc];omega
       rw[e,ih p k (by simpa using hp) hk]
       simp
 refine⟨hp,b,off,c,rfl,h6.lt,?_,?_,?_,?_⟩
 · rw[h6.cell];exact h7 (p*4) _ (by have:=key L p 0 hp (by decide);simpa [polEnc]using this)
 · rw[h6.cell,Nat.add_assoc];exact h7 (p*4+1) _ (by have:=key L p 1 hp (by decide);simpa [polEnc]using this)
 · rw[h6.cell,Nat.add_assoc];exact h7 (p*4+2) _ (by have:=key L p 2 hp (by decide);simpa [polEnc]using this)
 · rw[h6.cell,Nat.add_assoc];exact h7 (p*4+3) _ (by have:=key L p 3 hp (by decide);simpa [polEnc]using this)
set_option maxHeartbeats 1000000 in
set_option maxRecDepth 100000 in
theorem begin_any (B:Nat) (E:Env) (x:Live) (m:Mem) (p:Nat) (w:World) (hs:St w B E.A m) (hcl:CallAt w E x) (hpol:x.call.pol=(p:Int)) (hE:E.A.list[p]? =some E.pol):
   Calls Tryz.prog 65 #[P E.x] w (KRes w E (.find x.sum .call)):=by
 have hb0:=below_allocs [.cells #[P E.x] 107] w
 have W0:=Lib.hid (Was.start hs hcl)
 have Hpol:=Lib.hid hpol;have HE:=Lib.hid hE
 clear hs hcl hpol hE
 go_enter Tryz.func65,Tryz.ntmps65
 go_wp2_with fail
 refine wp_name (fun u=>Was w B E x (m) u∧Below w.heap.size w u∧Bx u w.heap.size 107 #[P E.x]) ⟨W0.out.later hb0,hb0,bx_allocs w [_] 0 rfl⟩ ?_
 rintro u ⟨hw,hbu0,hl0⟩
 have HBu:=Lib.hid hbu0
 obtain⟨arr,lv,k1,k2,k3,k4,k5,k6⟩:=id hw.st.core
 obtain⟨hp,lb,lo,lc,rfl,llt,q0,q1,q2,q3⟩:=pols_at k6 HE.out
 have kc0:u.cell? ⟨E.A.K,0,none⟩=some (.slice (some ⟨lb,lo,none⟩) E.A.list.length lc):=(k1.cell 0).trans k3
 have e1:=hw.call.c4
 have e2:=hw.call.c1
 rw[Hpol.out]at e2
 have d0:=hl0.at0
 have lx:=hw.call.lt;have lk:=k1.lt
 have hpl:(p:Int)<E.A.list.length:=by omega
 have Hp:=Lib.hid hp;clear hp
 have HW:=Lib.hid hw;have HL0:=Lib.hid hl0
 clear hbu0 k1 k2 k3 k4 k5 k6 hw hl0 hb0
 go_region_held3 (fun w'=>w'.cell? ⟨w.heap.size,0,none⟩=some (P E.x)∧w'.cell? ⟨E.x,4,none⟩=some (P E.A.K)∧w'.cell? ⟨E.x,1,none⟩=some (.int .i64 (p:Nat))∧w'.cell? ⟨E.A.K,0,none⟩=some (.slice (some ⟨lb,lo,none⟩) E.A.list.length lc)∧w'.cell? ⟨lb,lo+p*4,none⟩=some (.int .u8 (E.pol.kind:Nat))∧w'.cell? ⟨lb,lo+p*4+1,none⟩=some (.int .i64 E.pol.T)∧w'.cell? ⟨lb,lo+p*4+2,none⟩=some (.int .i64 E.pol.tau)∧w'.cell? ⟨lb,lo+p*4+3,none⟩=some (.int .i64 E.pol.permits)) (first|exact⟨d0,e1,e2,kc0,q0,q1,q2,q3⟩|go_keep) (fail)
 refine then_name (fun u2=>Was w B E x m u2∧Below w.heap.size w u2∧Bx u2 w.heap.size 107 #[P E.x]∧Bx u2 u.heap.size 60 (polA E.pol)) ⟨HW.out.later ((Below.refl _ _).alloc (Nat.le_refl _) _).drew,((HBu.out.alloc HBu.out.size _).drew:Below w.heap.size w _),(HL0.out.alloc _).dr,(bx_allocs u [_] 0 rfl:Bx _ u.heap.size _ _).dr⟩ ?_
 rintro u2 ⟨hw,hbu0,hl0,hl1⟩
 have HBu2:=Lib.hid hbu0
 clear hbu0 kc0 e1 e2 d0 lx lk hpl q0 q1 q2 q3 HBu HW HL0 llt Hp
 have Kf:Hid (∀W v,ThenAt W E v .call→Calls Tryz.prog 88 #[P E.A.lanes,.int .i64 E.who,.int .u64 (x.sum:Nat),v] W (KRes W E (.find x.sum .call))):=fun W v h=>find_any E x.sum .call v W h
 go_wp2_with fail
 have HW:=Lib.hid hw
 have HL0:=Lib.hid hl0
 have HL1:=Lib.hid hl1
 have HS:Hid (∀(mm:Mem) (W:World),Was w B E x mm W→Fr B [] u2 W→W.cell? ⟨w.heap.size,0,none⟩=some (P E.x)∧W.cell? ⟨E.x,4,none⟩=some (P E.A.K)∧W.cell? ⟨E.A.K,2,none⟩=some (P E.A.lanes)∧W.cell? ⟨E.x,5,none⟩=some (.int .i64 E.who)∧W.cell? ⟨E.x,6,none⟩=some (.int .u64 (x.sum:Nat))):=fun mm W hw hf=>⟨(HL0.out.keep hf rfl).cell 0,hw.call.c4,hw.st.core.c2,hw.call.c5,hw.call.c6⟩
 have HSa:Hid (∀W:World,Below u2.heap.size u2 W→W.cell? ⟨w.heap.size,0,none⟩=some (P E.x)∧W.cell? ⟨E.x,4,none⟩=some (P E.A.K)∧W.cell? ⟨E.A.K,2,none⟩=some (P E.A.lanes)∧W.cell? ⟨E.x,5,none⟩=some (.int .i64 E.who)∧W.cell? ⟨E.x,6,none⟩=some (.int .u64 (x.sum:Nat))):=fun W hb=>HS.out _ W (HW.out.later hb) (Fr.of_below HW.out.st.below.2.2.2 hb)
 have HLt:Hid (w.heap.size<u2.heap.size∧E.x<u2.heap.size∧E.A.K<u2.heap.size∧E.x<u2.heap.size∧E.x<u2.heap.size):=⟨HL0.out.lt,HW.out.call.lt,HW.out.st.core.lt,HW.out.call.lt,HW.out.call.lt⟩
 clear hw hl0 hl1
 have HT:Hid (∀W,Below u2.heap.size u2 W→ThenAt W E (.func (.func 99) #[] #[P w.heap.size,P u.heap.size]) .call):=fun W hbb=>⟨_,_,rfl,HL0.out.keep (fr0 hbb) rfl,HL1.out.keep (fr0 hbb) rfl⟩
 go_region_held3 (fun w'=>w'.cell? ⟨w.heap.size,0,none⟩=some (P E.x)∧w'.cell? ⟨E.x,4,none⟩=some (P E.A.K)∧w'.cell? ⟨E.A.K,2,none⟩=some (P E.A.lanes)∧w'.cell? ⟨E.x,5,none⟩=some (.int .i64 E.who)∧w'.cell? ⟨E.x,6,none⟩=some (.int .u64 (x.sum:Nat))) (first|(refine HSa.out _ ?_;(repeat (first|(with_reducible first|exact RowKit.Below.refl _ _|assumption|refine RowKit.Below.drew ?_)|((with_reducible first|refine belAlloc ?_ ?_|refine belSet ?_ ?_);(first|simp<;>omega|omega))));done)|(refine hSb _ ?_;(repeat (first|(with_reducible first|exact RowKit.Below.refl _ _|assumption|refine RowKit.Below.drew ?_)|((with_reducible first|refine belAlloc ?_ ?_|refine belSet ?_ ?_);(first|simp<;>omega|omega))));done)) ((first|(go_at_call 88;(refine (Kf.out _ _ (HT.out _ (by (repeat (first|(with_reducible first|exact RowKit.Below.refl _ _|assumption|refine RowKit.Below.drew ?_)|((with_reducible first|refine belAlloc ?_ ?_|refine belSet ?_ ?_);(first|simp<;>omega|omega))))))).mono ?_);rintro e w2 ⟨v,rfl,hk,hb⟩;have hbW:=belOfB (u:=u2) hb (by (repeat (first|(with_reducible first|exact RowKit.Below.refl _ _|assumption|refine RowKit.Below.drew ?_)|((with_reducible first|refine belAlloc ?_ ?_|refine belSet ?_ ?_);(first|simp<;>omega|omega)))));have hbu:=hbW.trans (hb.mono hbW.size);have hw2:=HW.out.later hbu;have hf:Fr B [] u2 w2:=Fr.of_below HW.out.st.below.2.2.2 hbu;have hfW:Fr B [] _ w2:=Fr.of_below (Nat.le_trans HW.out.st.below.2.2.2 hbW.size) hb;have Hk:=Lib.hid hk;have HB2:=Lib.hid hbu;clear hk;have hs2:=HS.out _ w2 hw2 hf;have hSb: ∀W:World,Below u2.heap.size w2 W→W.cell? ⟨w.heap.size,0,none⟩=some (P E.x)∧W.cell? ⟨E.x,4,none⟩=some (P E.A.K)∧W.cell? ⟨E.A.K,2,none⟩=some (P E.A.lanes)∧W.cell? ⟨E.x,5,none⟩=some (.int .i64 E.who)∧W.cell? ⟨E.x,6,none⟩=some (.int .u64 (x.sum:Nat)):=fun W hb=>⟨cell_lt HLt.out.1 hb hs2.1,cell_lt HLt.out.2.1 hb hs2.2.1,cell_lt HLt.out.2.2.1 hb hs2.2.2.1,cell_lt HLt.out.2.2.2.1 hb hs2.2.2.2.1,cell_lt HLt.out.2.2.2.2 hb hs2.2.2.2.2⟩;have hsz:=hf.size;have hl02:=HL0.out.keep hf rfl;have hl12:=HL1.out.keep hf rfl;have HW2:=Lib.hid hw2;have Hf:=Lib.hid hf;have HLb0:=Lib.hid hl02;have HLb1:=Lib.hid hl12;clear hw2 hf hfW hbW hs2 hb hbu hl02 hl12)))
 go_wp2_with fail
 go_ret
 exact⟨v,rfl,Hk.out,HBu2.out.trans (HB2.out.mono HBu2.out.size)⟩
end Go.Proofs.YtemnhpdjoimjbaaGreatDoor
