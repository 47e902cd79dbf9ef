import Derived.Test.YtemnhpdjoimjbaaGreatDoorTw49
import Derived.Test.YtemnhpdjoimjbaaGreatDoorTw50
import Derived.Test.YtemnhpdjoimjbaaGreatDoorTw46
import Derived.Test.YtemnhpdjoimjbaaGreatDoorTw01
namespace Go.Proofs.YtemnhpdjoimjbaaGreatDoor
section
open Go.RowKit
def NearRes (w:World) (na nb:Nat) (e:Ending) (w':World):Prop:= ∃r,e= .returned (.float .f64 r)∧RatNat na nb r∧Below w.heap.size w w'
def NearRel (P Y N e y d r:Nat):Prop:=0<d∧N=y*d+r∧r<d∧P*d=N*(Y*pw e)∧9007199254740992≤y∧y<36028797018963968∧900≤e∧e≤1200
end
section
open Go.RowKit
set_option maxHeartbeats 4000000 in
set_option maxRecDepth 100000 in
theorem ratio_down_walk (a b:Int) (w:World) (ha1: -9223372036854775808≤a) (ha2:a≤9223372036854775807) (hb1: -9223372036854775808≤b) (hb2:b≤9223372036854775807) (ha:a≠0) (hb:b≠0)
   (hS:bitLen a.natAbs=63+bitLen b.natAbs):
   Calls Tryz.prog 25 #[.int .i64 a,.int .i64 b] w (RatRes w a b):=by
 have Ka:=Lib.hid (fun v=>rsize_any a v ha1 ha2)
 have Kb:=Lib.hid (fun v=>rsize_any b v hb1 hb2)
 have h0a:(a==0)=false:=by simpa using ha
 have h0b:(b==0)=false:=by simpa using hb
 have hna:0<a.natAbs:=by omega
 have hnb:0<b.natAbs:=by omega
 have hna2:a.natAbs≤9223372036854775808:=by omega
 have hnb2:b.natAbs≤9223372036854775808:=by omega
 unfold RatRes
 generalize a.natAbs=x at*
 generalize b.natAbs=y at*
 have hbx:=bit_le hna2
 have hby:=bit_le hnb2
 obtain⟨-,-,hpx⟩:=bit_range hna
 obtain⟨q1,q2,q3⟩:=quot_down hna hnb hS
 obtain⟨t1,t2⟩:=stick_le63 q1 q2
 obtain⟨R,f1,f2,f3,f4⟩:=float_whole (stick x (y*2^1)) 1074 rfl t1 t2
 obtain⟨r,hr1,hr2⟩:=rat_down rfl hnb f3 f4 f2
 have Hr1:=Lib.hid hr1;have Hr2:=Lib.hid hr2
 have Kof:=Lib.hid (fun n v h=>pof_any n v h)
 have Kbx:=Lib.hid (fun u v (h:IsN v u x)=>pbits_pw u x v h (le_pw (word_pw hna2) (by decide)))
 have Kby:=Lib.hid (fun u v (h:IsN v u y)=>pbits_pw u y v h (le_pw (word_pw hnb2) (by decide)))
 have Kleft:Hid (∀u v,IsN v u y→Calls Tryz.prog 47 #[u,.int .i64 1] v (NatRes v (y*2^1))):=Lib.hid (fun u v (h:IsN v u y)=>pleft_pw u y 1 v h (le_pw (word_pw hnb2) (by decide)) (by decide))
 have Kq:=Lib.hid (fun u u' v (h:IsN v u x) (h':IsN v u' (y*2^1))=>pquo_pw u u' x _ v h h' (by omega) (le_pw (word_pw hna2) (by decide)) (shift_pw hnb2 (by decide)) q3 (by omega))
 have Kl:=Lib.hid (fun v=>ldexp_any R 2 1 1 v (by omega) (by omega) (by omega) (by omega) (by omega))
 have hun:=neg_unary (show r<9223372036854775808 by have:=hr1.2.2;omega)
 have hstick:stick x (y*2^1)=if 0<x%(y*2^1)∧x/(y*2^1)%2=0 then x/(y*2^1)+1 else x/(y*2^1):=rfl
 have hSi:(62:Int)-(bitLen x:Int)+(bitLen y:Int)= -1:=by omega
 generalize stick x (y*2^1)=st at*
 generalize x/(y*2^1)=Q at*
 generalize hrem:x%(y*2^1)=rem at*
 have hor:=u64_or_nat Q 1 (by omega) (by decide)
 rw[or_one]at hor
 have Hor:Hid (0<rem→bits .or .u64 (Q:Int) 1=(st:Int)):=Lib.hid fun h=>by
   rw[hstick]
   by_cases ho:Q%2=0
   · rw[if_pos ⟨h,ho⟩];rw[if_pos ho]at hor;exact hor
   · rw[if_neg (fun h'=>ho h'.2)];rw[if_neg ho]at hor;exact hor
 have Hor2:Hid (rem=0→Q=st):=Lib.hid fun h=>by rw[hstick,if_neg (by omega)]
 generalize bitLen x=px at*
 generalize bitLen y=py at*
 have Hna2:=Lib.hid hna2;have Hnb2:=Lib.hid hnb2
 clear ha hb hr1 hr2 hor hstick hrem f2 f3 f4 q1 q3 hS hpx hna hnb
 have hxw:x<18446744073709551616:=by omega
 have hyw:y<18446744073709551616:=by omega
 by_cases hrem:0<rem
 · have hor1:=Hor.out hrem
   by_cases sa:a<0
   · by_cases sb:b<0
     · have Hsg:=Lib.hid (show (decide (a<0) != decide (b<0))=false by rw[decide_eq_true sa,decide_eq_true sb];rfl)
       have da:decide (a<0)=true:=decide_eq_true sa
       have db:decide (b<0)=true:=decide_eq_true sb
       go_enter Tryz.func25,Tryz.ntmps25
       go_wp2_with fail
       with_reducible refine(Ka.out _).mono ?_
       rintro e w' ⟨rfl,rfl⟩
       go_wp2_with fail
       with_reducible refine(Kof.out x _ hxw).mono ?_
       rintro e w1 ⟨n1,rfl,hn1,hb1⟩
       have Hn1:=Lib.hid hn1;have Hb1:=Lib.hid hb1
       clear hn1 hb1
       go_wp2_with fail
       with_reducible refine(Kb.out _).mono ?_
       rintro e w' ⟨rfl,rfl⟩
       go_wp2_with fail
       with_reducible refine(Kof.out y _ hyw).mono ?_
       rintro e w2 ⟨n2,rfl,hn2,hb2⟩
       have Hn2:=Lib.hid hn2;have Hn1':=Lib.hid (Hn1.out.later hb2);have Hb2:=Lib.hid (Hb1.out.trans (hb2.mono Hb1.out.size))
       clear hn2 hb2 Hn1 Hb1
       go_wp2_with fail
       with_reducible refine(Kbx.out _ _ Hn1'.out).mono ?_
       rintro e w' ⟨rfl,rfl⟩
       go_wp2_with fail
       with_reducible refine(Kby.out _ _ Hn2.out).mono ?_
       rintro e w' ⟨rfl,rfl⟩
       go_wp2_with fail
       with_reducible refine(Kleft.out _ _ Hn2.out).mono ?_
       rintro e w3 ⟨n3,rfl,hn3,hb3⟩
       have Hn3:=Lib.hid hn3;have Hn2':=Lib.hid (Hn1'.out.later hb3);have Hb3:=Lib.hid (Hb2.out.trans (hb3.mono Hb2.out.size))
       clear hn3 hb3 Hn2 Hb2 Hn1'
       go_wp2_with fail
       with_reducible refine(Kq.out _ _ _ Hn2'.out Hn3.out).mono ?_
       rintro e w4 ⟨v4,rfl,hv4,hb4⟩
       have Hb4:=Lib.hid (Hb3.out.trans (hb4.mono Hb3.out.size))
       clear hb4 Hn3 Hn2' Hb3
       have hlen0:=hv4
       obtain⟨l,⟨ar,cr,rfl,hl,hc,hr⟩,hn,hval⟩:=hv4
       have hlen:=isN_len hlen0
       have hlb:l.length≤9223372036854775807:=by unfold maxLen at hc;omega
       clear hl hc hr hn hval hlen0
       generalize l.length=L at*
       have hL:0<L:=by first|(rw [decide_eq_true hrem]at hlen;simpa using hlen)|(rw [decide_eq_false hrem]at hlen;simpa using hlen)
       clear hlen hrem
       go_wp2_with fail
       with_reducible refine(Kl.out _).mono ?_
       rintro e w5 ⟨u,rfl,hu,rfl⟩
       have hur:=Hr2.out u hu
       rw[hur]
       clear hu hur
       go_wp2
       go_ret2
       exact⟨r,by rw[Hsg.out];rfl,Hr1.out,Hb4.out⟩
     · have Hsg:=Lib.hid (show (decide (a<0) != decide (b<0))=true by rw[decide_eq_true sa,decide_eq_false sb];rfl)
       have da:decide (a<0)=true:=decide_eq_true sa
       have db:decide (b<0)=false:=decide_eq_false sb
       go_enter Tryz.func25,Tryz.ntmps25
       go_wp2_with fail
       with_reducible refine(Ka.out _).mono ?_
       rintro e w' ⟨rfl,rfl⟩
       go_wp2_with fail
       with_reducible refine(Kof.out x _ hxw).mono ?_
       rintro e w1 ⟨n1,rfl,hn1,hb1⟩
       have Hn1:=Lib.hid hn1;have Hb1:=Lib.hid hb1
       clear hn1 hb1
       go_wp2_with fail
       with_reducible refine(Kb.out _).mono ?_
       rintro e w' ⟨rfl,rfl⟩
       go_wp2_with fail
       with_reducible refine(Kof.out y _ hyw).mono ?_
       rintro e w2 ⟨n2,rfl,hn2,hb2⟩
       have Hn2:=Lib.hid hn2;have Hn1':=Lib.hid (Hn1.out.later hb2);have Hb2:=Lib.hid (Hb1.out.trans (hb2.mono Hb1.out.size))
       clear hn2 hb2 Hn1 Hb1
       go_wp2_with fail
       with_reducible refine(Kbx.out _ _ Hn1'.out).mono ?_
       rintro e w' ⟨rfl,rfl⟩
       go_wp2_with fail
       with_reducible refine(Kby.out _ _ Hn2.out).mono ?_
       rintro e w' ⟨rfl,rfl⟩
       go_wp2_with fail
       with_reducible refine(Kleft.out _ _ Hn2.out).mono ?_
       rintro e w3 ⟨n3,rfl,hn3,hb3⟩
       have Hn3:=Lib.hid hn3;have Hn2':=Lib.hid (Hn1'.out.later hb3);have Hb3:=Lib.hid (Hb2.out.trans (hb3.mono Hb2.out.size))
       clear hn3 hb3 Hn2 Hb2 Hn1'
       go_wp2_with fail
       with_reducible refine(Kq.out _ _ _ Hn2'.out Hn3.out).mono ?_
       rintro e w4 ⟨v4,rfl,hv4,hb4⟩
       have Hb4:=Lib.hid (Hb3.out.trans (hb4.mono Hb3.out.size))
       clear hb4 Hn3 Hn2' Hb3
       have hlen0:=hv4
       obtain⟨l,⟨ar,cr,rfl,hl,hc,hr⟩,hn,hval⟩:=hv4
       have hlen:=isN_len hlen0
       have hlb:l.length≤9223372036854775807:=by unfold maxLen at hc;omega
       clear hl hc hr hn hval hlen0
       generalize l.length=L at*
       have hL:0<L:=by first|(rw [decide_eq_true hrem]at hlen;simpa using hlen)|(rw [decide_eq_false hrem]at hlen;simpa using hlen)
       clear hlen hrem
       go_wp2_with fail
       with_reducible refine(Kl.out _).mono ?_
       rintro e w5 ⟨u,rfl,hu,rfl⟩
       have hur:=Hr2.out u hu
       rw[hur]
       clear hu hur
       go_wp2
       go_ret2
       exact⟨r,by rw[Hsg.out];rfl,Hr1.out,Hb4.out⟩
   · by_cases sb:b<0
     · have Hsg:=Lib.hid (show (decide (a<0) != decide (b<0))=true by rw[decide_eq_false sa,decide_eq_true sb];rfl)
       have da:decide (a<0)=false:=decide_eq_false sa
       have db:decide (b<0)=true:=decide_eq_true sb
       go_enter Tryz.func25,Tryz.ntmps25
       go_wp2_with fail
       with_reducible refine(Ka.out _).mono ?_
       rintro e w' ⟨rfl,rfl⟩
       go_wp2_with fail
       with_reducible refine(Kof.out x _ hxw).mono ?_
       rintro e w1 ⟨n1,rfl,hn1,hb1⟩
       have Hn1:=Lib.hid hn1;have Hb1:=Lib.hid hb1
       clear hn1 hb1
       go_wp2_with fail
       with_reducible refine(Kb.out _).mono ?_
       rintro e w' ⟨rfl,rfl⟩
       go_wp2_with fail
       with_reducible refine(Kof.out y _ hyw).mono ?_
       rintro e w2 ⟨n2,rfl,hn2,hb2⟩
       have Hn2:=Lib.hid hn2;have Hn1':=Lib.hid (Hn1.out.later hb2);have Hb2:=Lib.hid (Hb1.out.trans (hb2.mono Hb1.out.size))
       clear hn2 hb2 Hn1 Hb1
       go_wp2_with fail
       with_reducible refine(Kbx.out _ _ Hn1'.out).mono ?_
       rintro e w' ⟨rfl,rfl⟩
       go_wp2_with fail
       with_reducible refine(Kby.out _ _ Hn2.out).mono ?_
       rintro e w' ⟨rfl,rfl⟩
       go_wp2_with fail
       with_reducible refine(Kleft.out _ _ Hn2.out).mono ?_
       rintro e w3 ⟨n3,rfl,hn3,hb3⟩
       have Hn3:=Lib.hid hn3;have Hn2':=Lib.hid (Hn1'.out.later hb3);have Hb3:=Lib.hid (Hb2.out.trans (hb3.mono Hb2.out.size))
       clear hn3 hb3 Hn2 Hb2 Hn1'
       go_wp2_with fail
       with_reducible refine(Kq.out _ _ _ Hn2'.out Hn3.out).mono ?_
       rintro e w4 ⟨v4,rfl,hv4,hb4⟩
       have Hb4:=Lib.hid (Hb3.out.trans (hb4.mono Hb3.out.size))
       clear hb4 Hn3 Hn2' Hb3
       have hlen0:=hv4
       obtain⟨l,⟨ar,cr,rfl,hl,hc,hr⟩,hn,hval⟩:=hv4
       have hlen:=isN_len hlen0
       have hlb:l.length≤9223372036854775807:=by unfold maxLen at hc;omega
       clear hl hc hr hn hval hlen0
       generalize l.length=L at*
       have hL:0<L:=by first|(rw [decide_eq_true hrem]at hlen;simpa using hlen)|(rw [decide_eq_false hrem]at hlen;simpa using hlen)
       clear hlen hrem
       go_wp2_with fail
       with_reducible refine(Kl.out _).mono ?_
       rintro e w5 ⟨u,rfl,hu,rfl⟩
       have hur:=Hr2.out u hu
       rw[hur]
       clear hu hur
       go_wp2
       go_ret2
       exact⟨r,by rw[Hsg.out];rfl,Hr1.out,Hb4.out⟩
     · have Hsg:=Lib.hid (show (decide (a<0) != decide (b<0))=false by rw[decide_eq_false sa,decide_eq_false sb];rfl)
       have da:decide (a<0)=false:=decide_eq_false sa
       have db:decide (b<0)=false:=decide_eq_false sb
       go_enter Tryz.func25,Tryz.ntmps25
       go_wp2_with fail
       with_reducible refine(Ka.out _).mono ?_
       rintro e w' ⟨rfl,rfl⟩
       go_wp2_with fail
       with_reducible refine(Kof.out x _ hxw).mono ?_
       rintro e w1 ⟨n1,rfl,hn1,hb1⟩
       have Hn1:=Lib.hid hn1;have Hb1:=Lib.hid hb1
       clear hn1 hb1
       go_wp2_with fail
       with_reducible refine(Kb.out _).mono ?_
       rintro e w' ⟨rfl,rfl⟩
       go_wp2_with fail
       with_reducible refine(Kof.out y _ hyw).mono ?_
       rintro e w2 ⟨n2,rfl,hn2,hb2⟩
       have Hn2:=Lib.hid hn2;have Hn1':=Lib.hid (Hn1.out.later hb2);have Hb2:=Lib.hid (Hb1.out.trans (hb2.mono Hb1.out.size))
       clear hn2 hb2 Hn1 Hb1
       go_wp2_with fail
       with_reducible refine(Kbx.out _ _ Hn1'.out).mono ?_
       rintro e w' ⟨rfl,rfl⟩
       go_wp2_with fail
       with_reducible refine(Kby.out _ _ Hn2.out).mono ?_
       rintro e w' ⟨rfl,rfl⟩
       go_wp2_with fail
       with_reducible refine(Kleft.out _ _ Hn2.out).mono ?_
       rintro e w3 ⟨n3,rfl,hn3,hb3⟩
       have Hn3:=Lib.hid hn3;have Hn2':=Lib.hid (Hn1'.out.later hb3);have Hb3:=Lib.hid (Hb2.out.trans (hb3.mono Hb2.out.size))
       clear hn3 hb3 Hn2 Hb2 Hn1'
       go_wp2_with fail
       with_reducible refine(Kq.out _ _ _ Hn2'.out Hn3.out).mono ?_
       rintro e w4 ⟨v4,rfl,hv4,hb4⟩
       have Hb4:=Lib.hid (Hb3.out.trans (hb4.mono Hb3.out.size))
       clear hb4 Hn3 Hn2' Hb3
       have hlen0:=hv4
       obtain⟨l,⟨ar,cr,rfl,hl,hc,hr⟩,hn,hval⟩:=hv4
       have hlen:=isN_len hlen0
       have hlb:l.length≤9223372036854775807:=by unfold maxLen at hc;omega
       clear hl hc hr hn hval hlen0
       generalize l.length=L at*
       have hL:0<L:=by first|(rw [decide_eq_true hrem]at hlen;simpa using hlen)|(rw [decide_eq_false hrem]at hlen;simpa using hlen)
       clear hlen hrem
       go_wp2_with fail
       with_reducible refine(Kl.out _).mono ?_
       rintro e w5 ⟨u,rfl,hu,rfl⟩
       have hur:=Hr2.out u hu
       rw[hur]
       clear hu hur
       go_wp2
       go_ret2
       exact⟨r,by rw[Hsg.out];rfl,Hr1.out,Hb4.out⟩
 · have hst:=Hor2.out (by omega)
   subst hst
   by_cases sa:a<0
   · by_cases sb:b<0
     · have Hsg:=Lib.hid (show (decide (a<0) != decide (b<0))=false by rw[decide_eq_true sa,decide_eq_true sb];rfl)
       have da:decide (a<0)=true:=decide_eq_true sa
       have db:decide (b<0)=true:=decide_eq_true sb
       go_enter Tryz.func25,Tryz.ntmps25
       go_wp2_with fail
       with_reducible refine(Ka.out _).mono ?_
       rintro e w' ⟨rfl,rfl⟩
       go_wp2_with fail
       with_reducible refine(Kof.out x _ hxw).mono ?_
       rintro e w1 ⟨n1,rfl,hn1,hb1⟩
       have Hn1:=Lib.hid hn1;have Hb1:=Lib.hid hb1
       clear hn1 hb1
       go_wp2_with fail
       with_reducible refine(Kb.out _).mono ?_
       rintro e w' ⟨rfl,rfl⟩
       go_wp2_with fail
       with_reducible refine(Kof.out y _ hyw).mono ?_
       rintro e w2 ⟨n2,rfl,hn2,hb2⟩
       have Hn2:=Lib.hid hn2;have Hn1':=Lib.hid (Hn1.out.later hb2);have Hb2:=Lib.hid (Hb1.out.trans (hb2.mono Hb1.out.size))
       clear hn2 hb2 Hn1 Hb1
       go_wp2_with fail
       with_reducible refine(Kbx.out _ _ Hn1'.out).mono ?_
       rintro e w' ⟨rfl,rfl⟩
       go_wp2_with fail
       with_reducible refine(Kby.out _ _ Hn2.out).mono ?_
       rintro e w' ⟨rfl,rfl⟩
       go_wp2_with fail
       with_reducible refine(Kleft.out _ _ Hn2.out).mono ?_
       rintro e w3 ⟨n3,rfl,hn3,hb3⟩
       have Hn3:=Lib.hid hn3;have Hn2':=Lib.hid (Hn1'.out.later hb3);have Hb3:=Lib.hid (Hb2.out.trans (hb3.mono Hb2.out.size))
       clear hn3 hb3 Hn2 Hb2 Hn1'
       go_wp2_with fail
       with_reducible refine(Kq.out _ _ _ Hn2'.out Hn3.out).mono ?_
       rintro e w4 ⟨v4,rfl,hv4,hb4⟩
       have Hb4:=Lib.hid (Hb3.out.trans (hb4.mono Hb3.out.size))
       clear hb4 Hn3 Hn2' Hb3
       have hlen0:=hv4
       obtain⟨l,⟨ar,cr,rfl,hl,hc,hr⟩,hn,hval⟩:=hv4
       have hlen:=isN_len hlen0
       have hlb:l.length≤9223372036854775807:=by unfold maxLen at hc;omega
       clear hl hc hr hn hval hlen0
       generalize l.length=L at*
       have hL:L=0:=by first|(rw [decide_eq_true hrem]at hlen;simpa using hlen)|(rw [decide_eq_false hrem]at hlen;simpa using hlen)
       clear hlen hrem
       subst hL
       go_wp2_with fail
       with_reducible refine(Kl.out _).mono ?_
       rintro e w5 ⟨u,rfl,hu,rfl⟩
       have hur:=Hr2.out u hu
       rw[hur]
       clear hu hur
       go_wp2
       go_ret2
       exact⟨r,by rw[Hsg.out];rfl,Hr1.out,Hb4.out⟩
     · have Hsg:=Lib.hid (show (decide (a<0) != decide (b<0))=true by rw[decide_eq_true sa,decide_eq_false sb];rfl)
       have da:decide (a<0)=true:=decide_eq_true sa
       have db:decide (b<0)=false:=decide_eq_false sb
       go_enter Tryz.func25,Tryz.ntmps25
       go_wp2_with fail
       with_reducible refine(Ka.out _).mono ?_
       rintro e w' ⟨rfl,rfl⟩
       go_wp2_with fail
       with_reducible refine(Kof.out x _ hxw).mono ?_
       rintro e w1 ⟨n1,rfl,hn1,hb1⟩
       have Hn1:=Lib.hid hn1;have Hb1:=Lib.hid hb1
       clear hn1 hb1
       go_wp2_with fail
       with_reducible refine(Kb.out _).mono ?_
       rintro e w' ⟨rfl,rfl⟩
       go_wp2_with fail
       with_reducible refine(Kof.out y _ hyw).mono ?_
       rintro e w2 ⟨n2,rfl,hn2,hb2⟩
       have Hn2:=Lib.hid hn2;have Hn1':=Lib.hid (Hn1.out.later hb2);have Hb2:=Lib.hid (Hb1.out.trans (hb2.mono Hb1.out.size))
       clear hn2 hb2 Hn1 Hb1
       go_wp2_with fail
       with_reducible refine(Kbx.out _ _ Hn1'.out).mono ?_
       rintro e w' ⟨rfl,rfl⟩
       go_wp2_with fail
       with_reducible refine(Kby.out _ _ Hn2.out).mono ?_
       rintro e w' ⟨rfl,rfl⟩
       go_wp2_with fail
       with_reducible refine(Kleft.out _ _ Hn2.out).mono ?_
       rintro e w3 ⟨n3,rfl,hn3,hb3⟩
       have Hn3:=Lib.hid hn3;have Hn2':=Lib.hid (Hn1'.out.later hb3);have Hb3:=Lib.hid (Hb2.out.trans (hb3.mono Hb2.out.size))
       clear hn3 hb3 Hn2 Hb2 Hn1'
       go_wp2_with fail
       with_reducible refine(Kq.out _ _ _ Hn2'.out Hn3.out).mono ?_
       rintro e w4 ⟨v4,rfl,hv4,hb4⟩
       have Hb4:=Lib.hid (Hb3.out.trans (hb4.mono Hb3.out.size))
       clear hb4 Hn3 Hn2' Hb3
       have hlen0:=hv4
       obtain⟨l,⟨ar,cr,rfl,hl,hc,hr⟩,hn,hval⟩:=hv4
       have hlen:=isN_len hlen0
       have hlb:l.length≤9223372036854775807:=by unfold maxLen at hc;omega
       clear hl hc hr hn hval hlen0
       generalize l.length=L at*
       have hL:L=0:=by first|(rw [decide_eq_true hrem]at hlen;simpa using hlen)|(rw [decide_eq_false hrem]at hlen;simpa using hlen)
       clear hlen hrem
       subst hL
       go_wp2_with fail
       with_reducible refine(Kl.out _).mono ?_
       rintro e w5 ⟨u,rfl,hu,rfl⟩
       have hur:=Hr2.out u hu
       rw[hur]
       clear hu hur
       go_wp2
       go_ret2
       exact⟨r,by rw[Hsg.out];rfl,Hr1.out,Hb4.out⟩
   · by_cases sb:b<0
     · have Hsg:=Lib.hid (show (decide (a<0) != decide (b<0))=true by rw[decide_eq_false sa,decide_eq_true sb];rfl)
       have da:decide (a<0)=false:=decide_eq_false sa
       have db:decide (b<0)=true:=decide_eq_true sb
       go_enter Tryz.func25,Tryz.ntmps25
       go_wp2_with fail
       with_reducible refine(Ka.out _).mono ?_
       rintro e w' ⟨rfl,rfl⟩
       go_wp2_with fail
       with_reducible refine(Kof.out x _ hxw).mono ?_
       rintro e w1 ⟨n1,rfl,hn1,hb1⟩
       have Hn1:=Lib.hid hn1;have Hb1:=Lib.hid hb1
       clear hn1 hb1
       go_wp2_with fail
       with_reducible refine(Kb.out _).mono ?_
       rintro e w' ⟨rfl,rfl⟩
       go_wp2_with fail
       with_reducible refine(Kof.out y _ hyw).mono ?_
       rintro e w2 ⟨n2,rfl,hn2,hb2⟩
       have Hn2:=Lib.hid hn2;have Hn1':=Lib.hid (Hn1.out.later hb2);have Hb2:=Lib.hid (Hb1.out.trans (hb2.mono Hb1.out.size))
       clear hn2 hb2 Hn1 Hb1
       go_wp2_with fail
       with_reducible refine(Kbx.out _ _ Hn1'.out).mono ?_
       rintro e w' ⟨rfl,rfl⟩
       go_wp2_with fail
       with_reducible refine(Kby.out _ _ Hn2.out).mono ?_
       rintro e w' ⟨rfl,rfl⟩
       go_wp2_with fail
       with_reducible refine(Kleft.out _ _ Hn2.out).mono ?_
       rintro e w3 ⟨n3,rfl,hn3,hb3⟩
       have Hn3:=Lib.hid hn3;have Hn2':=Lib.hid (Hn1'.out.later hb3);have Hb3:=Lib.hid (Hb2.out.trans (hb3.mono Hb2.out.size))
       clear hn3 hb3 Hn2 Hb2 Hn1'
       go_wp2_with fail
       with_reducible refine(Kq.out _ _ _ Hn2'.out Hn3.out).mono ?_
       rintro e w4 ⟨v4,rfl,hv4,hb4⟩
       have Hb4:=Lib.hid (Hb3.out.trans (hb4.mono Hb3.out.size))
       clear hb4 Hn3 Hn2' Hb3
       have hlen0:=hv4
       obtain⟨l,⟨ar,cr,rfl,hl,hc,hr⟩,hn,hval⟩:=hv4
       have hlen:=isN_len hlen0
       have hlb:l.length≤9223372036854775807:=by unfold maxLen at hc;omega
       clear hl hc hr hn hval hlen0
       generalize l.length=L at*
       have hL:L=0:=by first|(rw [decide_eq_true hrem]at hlen;simpa using hlen)|(rw [decide_eq_false hrem]at hlen;simpa using hlen)
       clear hlen hrem
       subst hL
       go_wp2_with fail
       with_reducible refine(Kl.out _).mono ?_
       rintro e w5 ⟨u,rfl,hu,rfl⟩
       have hur:=Hr2.out u hu
       rw[hur]
       clear hu hur
       go_wp2
       go_ret2
       exact⟨r,by rw[Hsg.out];rfl,Hr1.out,Hb4.out⟩
     · have Hsg:=Lib.hid (show (decide (a<0) != decide (b<0))=false by rw[decide_eq_false sa,decide_eq_false sb];rfl)
       have da:decide (a<0)=false:=decide_eq_false sa
       have db:decide (b<0)=false:=decide_eq_false sb
       go_enter Tryz.func25,Tryz.ntmps25
       go_wp2_with fail
       with_reducible refine(Ka.out _).mono ?_
       rintro e w' ⟨rfl,rfl⟩
       go_wp2_with fail
       with_reducible refine(Kof.out x _ hxw).mono ?_
       rintro e w1 ⟨n1,rfl,hn1,hb1⟩
       have Hn1:=Lib.hid hn1;have Hb1:=Lib.hid hb1
       clear hn1 hb1
       go_wp2_with fail
       with_reducible refine(Kb.out _).mono ?_
       rintro e w' ⟨rfl,rfl⟩
       go_wp2_with fail
       with_reducible refine(Kof.out y _ hyw).mono ?_
       rintro e w2 ⟨n2,rfl,hn2,hb2⟩
       have Hn2:=Lib.hid hn2;have Hn1':=Lib.hid (Hn1.out.later hb2);have Hb2:=Lib.hid (Hb1.out.trans (hb2.mono Hb1.out.size))
       clear hn2 hb2 Hn1 Hb1
       go_wp2_with fail
       with_reducible refine(Kbx.out _ _ Hn1'.out).mono ?_
       rintro e w' ⟨rfl,rfl⟩
       go_wp2_with fail
       with_reducible refine(Kby.out _ _ Hn2.out).mono ?_
       rintro e w' ⟨rfl,rfl⟩
       go_wp2_with fail
       with_reducible refine(Kleft.out _ _ Hn2.out).mono ?_
       rintro e w3 ⟨n3,rfl,hn3,hb3⟩
       have Hn3:=Lib.hid hn3;have Hn2':=Lib.hid (Hn1'.out.later hb3);have Hb3:=Lib.hid (Hb2.out.trans (hb3.mono Hb2.out.size))
       clear hn3 hb3 Hn2 Hb2 Hn1'
       go_wp2_with fail
       with_reducible refine(Kq.out _ _ _ Hn2'.out Hn3.out).mono ?_
       rintro e w4 ⟨v4,rfl,hv4,hb4⟩
       have Hb4:=Lib.hid (Hb3.out.trans (hb4.mono Hb3.out.size))
       clear hb4 Hn3 Hn2' Hb3
       have hlen0:=hv4
       obtain⟨l,⟨ar,cr,rfl,hl,hc,hr⟩,hn,hval⟩:=hv4
       have hlen:=isN_len hlen0
       have hlb:l.length≤9223372036854775807:=by unfold maxLen at hc;omega
       clear hl hc hr hn hval hlen0
       generalize l.length=L at*
       have hL:L=0:=by first|(rw [decide_eq_true hrem]at hlen;simpa using hlen)|(rw [decide_eq_false hrem]at hlen;simpa using hlen)
       clear hlen hrem
       subst hL
       go_wp2_with fail
       with_reducible refine(Kl.out _).mono ?_
       rintro e w5 ⟨u,rfl,hu,rfl⟩
       have hur:=Hr2.out u hu
       rw[hur]
       clear hu hur
       go_wp2
       go_ret2
       exact⟨r,by rw[Hsg.out];rfl,Hr1.out,Hb4.out⟩
theorem ratio_some (a b:Int) (w:World) (ha1: -9223372036854775808≤a) (ha2:a≤9223372036854775807) (hb1: -9223372036854775808≤b) (hb2:b≤9223372036854775807) (ha:a≠0) (hb:b≠0):
   Calls Tryz.prog 25 #[.int .i64 a,.int .i64 b] w (RatRes w a b):=by
 have hbx:=bit_le (n:=a.natAbs) (by omega)
 have hby:=bit_le (n:=b.natAbs) (by omega)
 obtain⟨-,-,hpy⟩:=bit_range (n:=b.natAbs) (by omega)
 by_cases h:bitLen a.natAbs≤62+bitLen b.natAbs
 · exact ratio_up_walk a b (62+bitLen b.natAbs-bitLen a.natAbs) w ha1 ha2 hb1 hb2 ha hb (by omega)
 · exact ratio_down_walk a b w ha1 ha2 hb1 hb2 ha hb (by omega)
end
section
open Go.RowKit
def rk (b:Nat):Int:=if 9218868437227405312<rg b then 9223372036854775807 else if sgn b then -1-(rg b:Int)else(rg b:Int)
def ix (b:Nat):Int:=if 9218868437227405312<rg b then 18437736874454810626 else if sgn b then 9218868437227405312-(rg b:Int)else 9218868437227405313+(rg b:Int)
def cmpZ (a b:Int):Int:=if a<b then -1 else if b<a then 1 else 0
def leastW (x y:Nat):Nat:=if rk x≤rk y then x else y
def mostW (x y:Nat):Nat:=if rg y≤9218868437227405312∧(9218868437227405312<rg x∨rk x<rk y)then y else x
def mostR (x y:Nat):Nat:=if 9218868437227405312<rg x then y else if 9218868437227405312<rg y∨rk y<rk x then x else y
end
section
open Go.RowKit
def secB (t hz:Int):Bool:=decide (0≤t∧t≤4611686018427387903∧1≤hz∧hz≤1000000000)
theorem secB_yes {t hz:Int} (h:secB t hz=true):0≤t∧t≤4611686018427387903∧1≤hz∧hz≤1000000000:=by simpa [secB]using h
theorem secB_no {t hz:Int} (h:secB t hz=false):t<0∨4611686018427387903<t∨hz<1∨1000000000<hz:=by
 unfold secB at h
 have:=of_decide_eq_false h
 omega
theorem seconds_no (t hz:Int) (w:World) (h:secB t hz=false):
   Calls Tryz.prog 13 #[.int .i64 t,.int .i64 hz] w fun e w'=>e= .returned (.tuple #[.float .f64 0,.int .i64 1])∧w=w':=by
 have hno:=secB_no h
 clear h
 by_cases c1:t<0
 · go_enter Tryz.func13,Tryz.ntmps13
   go_wp2
   go_ret2
   exact⟨rfl,rfl⟩
 · by_cases c2:4611686018427387903<t
   · go_enter Tryz.func13,Tryz.ntmps13
     go_wp2
     go_ret2
     exact⟨rfl,rfl⟩
   · by_cases c3:hz<1
     · go_enter Tryz.func13,Tryz.ntmps13
       go_wp2
       go_ret2
       exact⟨rfl,rfl⟩
     · have c4:1000000000<hz:=by omega
       clear hno
       go_enter Tryz.func13,Tryz.ntmps13
       go_wp2
       go_ret2
       exact⟨rfl,rfl⟩
theorem seconds_zero (hz:Int) (w:World) (h:secB 0 hz=true):
   Calls Tryz.prog 13 #[.int .i64 0,.int .i64 hz] w fun e w'=>e= .returned (.tuple #[.float .f64 0,.int .i64 0])∧w=w':=by
 obtain⟨-,-,h3,h4⟩:=secB_yes h
 have K:=Lib.hid (fun v=>ratio_none hz v (by omega))
 clear h
 go_enter Tryz.func13,Tryz.ntmps13
 go_wp2_with (go_at_call 25;(with_reducible refine(K.out _).mono ?_);rintro e w' ⟨rfl,rfl⟩)
 go_ret2
 exact⟨rfl,rfl⟩
def SecRes (w:World) (a b:Nat) (e:Ending) (w':World):Prop:= ∃r,e= .returned (.tuple #[.float .f64 r,.int .i64 0])∧RatNat a b r∧Below w.heap.size w w'
theorem seconds_some (t hz:Int) (w:World) (h:secB t hz=true) (h0:0<t):
   Calls Tryz.prog 13 #[.int .i64 t,.int .i64 hz] w (SecRes w t.natAbs hz.natAbs):=by
 obtain⟨h1,h2,h3,h4⟩:=secB_yes h
 have K:=Lib.hid (fun v=>ratio_some t hz v (by omega) (by omega) (by omega) (by omega) (by omega) (by omega))
 have Hs:=Lib.hid (show (decide (t<0) != decide (hz<0))=false by rw[decide_eq_false (by omega),decide_eq_false (by omega)];rfl)
 clear h
 go_enter Tryz.func13,Tryz.ntmps13
 go_wp2_with fail
 with_reducible refine(K.out _).mono ?_
 rintro e w1 ⟨r,rfl,hr,hb⟩
 have Hr:=Lib.hid hr;have Hb:=Lib.hid hb
 clear hr hb
 rw[Hs.out]
 go_wp2
 go_ret2
 exact⟨r,rfl,Hr.out,Hb.out⟩
end
section
open Go.RowKit
def RatResF (w:World) (a b:Int) (e:Ending) (w':World):Prop:= ∃r,e= .returned (.float .f64 (mkW (decide (a<0) != decide (b<0)) r))∧RatNat a.natAbs b.natAbs r∧Below w.heap.size w w'
end
section
open Go.RowKit
theorem rat_exists {na nb:Nat} (ha:0<na) (hb:0<nb) (ha2:na≤9223372036854775808) (hb2:nb≤9223372036854775808): ∃r,RatNat na nb r:=by
 have hbx:=bit_le ha2
 have hby:=bit_le hb2
 obtain⟨-,-,hpx⟩:=bit_range ha
 obtain⟨-,-,hpy⟩:=bit_range hb
 by_cases h:bitLen na≤62+bitLen nb
 · obtain⟨S,hS⟩: ∃S,bitLen na+S=62+bitLen nb:=⟨62+bitLen nb-bitLen na,by omega⟩
   obtain⟨q1,q2,-⟩:=quot_up ha hb hS
   obtain⟨t1,t2⟩:=stick_le63 q1 q2
   obtain⟨R,-,f2,f3,f4⟩:=float_whole (stick (na*2^S) nb) 1074 rfl t1 t2
   obtain⟨r,hr,-⟩:=rat_up rfl hb (by omega) f3 f4 f2
   exact⟨r,hr⟩
 · obtain⟨q1,q2,-⟩:=quot_down ha hb (show bitLen na=63+bitLen nb by omega)
   obtain⟨t1,t2⟩:=stick_le63 q1 q2
   obtain⟨R,-,f2,f3,f4⟩:=float_whole (stick na (nb*2^1)) 1074 rfl t1 t2
   obtain⟨r,hr,-⟩:=rat_down rfl hb f3 f4 f2
   exact⟨r,hr⟩
theorem rat_unique {na nb r r':Nat} (hb:0<nb) (h:RatNat na nb r) (h':RatNat na nb r'):r=r':=near_same hb hb h.1 h'.1 rfl
def FE (w:World) (x f:Nat) (e:Ending) (w':World):Prop:=e= .returned (.tuple #[.float .f64 x,.int .i64 f])∧Below w.heap.size w w'
def RatW (a b:Int) (x f:Nat):Prop:=(b=0∧x=0∧f=5)∨(b≠0∧a=0∧x=0∧f=0)∨(b≠0∧a≠0∧f=0∧ ∃r,RatNat a.natAbs b.natAbs r∧x=mkW (decide (a<0) != decide (b<0)) r)
def SecW (t hz:Int) (x f:Nat):Prop:=(secB t hz=false∧x=0∧f=1)∨(secB t hz=true∧t=0∧x=0∧f=0)∨(secB t hz=true∧0<t∧f=0∧RatNat t.natAbs hz.natAbs x)
theorem secw_lt {t hz:Int} {x f:Nat} (h:SecW t hz x f):x<9218868437227405312∧f≤5:=by
 rcases h with ⟨-,rfl,rfl⟩|⟨-,-,rfl,rfl⟩|⟨-,-,rfl,hr⟩
 · exact⟨by decide,by decide⟩
 · exact⟨by decide,by decide⟩
 · exact⟨hr.2.2,by decide⟩
theorem secw_exists (t hz:Int): ∃x f,SecW t hz x f:=by
 cases h:secB t hz with
 |false=>exact⟨_,_,Or.inl ⟨h,rfl,rfl⟩⟩
 | true =>
   obtain⟨h1,h2,h3,h4⟩:=secB_yes h
   by_cases h0:t=0
   · exact⟨_,_,Or.inr (Or.inl ⟨h,h0,rfl,rfl⟩)⟩
   · obtain⟨r,hr⟩:=rat_exists (na:=t.natAbs) (nb:=hz.natAbs) (by omega) (by omega) (by omega) (by omega)
     exact⟨_,_,Or.inr (Or.inr ⟨h,by omega,rfl,hr⟩)⟩
theorem seconds_w {t hz:Int} {x f:Nat} (h:SecW t hz x f) (w:World):
   Calls Tryz.prog 13 #[.int .i64 t,.int .i64 hz] w (FE w x f):=by
 rcases h with ⟨hB,rfl,rfl⟩|⟨hB,rfl,rfl,rfl⟩|⟨hB,h0,rfl,hr⟩
 · exact(seconds_no t hz w hB).mono fun e w' ⟨he,hw⟩=>⟨he,by subst hw;exact Below.refl _ _⟩
 · exact(seconds_zero hz w hB).mono fun e w' ⟨he,hw⟩=>⟨he,by subst hw;exact Below.refl _ _⟩
 · have hb:=secB_yes hB
   exact(seconds_some t hz w hB h0).mono fun e w' ⟨r',he,hr',hw⟩=>⟨by rw[he,rat_unique (by omega) hr' hr];rfl,hw⟩
end
end Go.Proofs.YtemnhpdjoimjbaaGreatDoor
