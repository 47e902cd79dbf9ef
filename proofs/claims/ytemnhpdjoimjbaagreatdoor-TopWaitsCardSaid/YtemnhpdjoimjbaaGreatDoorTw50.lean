import Derived.Test.YtemnhpdjoimjbaaGreatDoorTw49
import Derived.Test.YtemnhpdjoimjbaaGreatDoorTw47
namespace Go.Proofs.YtemnhpdjoimjbaaGreatDoor
section
theorem quot_bits {n d m k:Nat} (hd1:2^k≤2*d) (hd2:d<2^k) (hn1:2^(m+k)≤2*n) (hn2:n<2^(m+k)) (hm:m=62):2305843009213693952≤n/d∧n/d<9223372036854775808:=by
 subst hm
 rw[Nat.pow_add]at hn1 hn2
 have h2:(2:Nat)^62=4611686018427387904:=by decide
 rw[h2]at hn1 hn2
 generalize 2^k=K at*
 have hd:0<d:=by omega
 rw[Nat.le_div_iff_mul_le hd,Nat.div_lt_iff_lt_mul hd]
 omega
theorem near_between {t k R:Nat} (h1:2305843009213693952≤t) (h2:t≤9223372036854775808) (h:IsNear (t*2^k) 1 R):(k+10)*4503599627370496≤R∧R≤(k+12)*4503599627370496:=by
 have e1:V ((k+9)*4503599627370496+4503599627370496)*1=2305843009213693952*2^k:=by
   rw[V_at (by omega) (Or.inr (by omega)),Nat.pow_add,Nat.mul_comm (2^k),←Nat.mul_assoc,Nat.mul_one]
 have e2:V ((k+11)*4503599627370496+4503599627370496)*1=9223372036854775808*2^k:=by
   rw[V_at (by omega) (Or.inr (by omega)),Nat.pow_add,Nat.mul_comm (2^k),←Nat.mul_assoc,Nat.mul_one]
 have m1:=near_mono (by decide) (by decide) (near_exact (q:=1) (by decide) e1) h (Nat.mul_le_mul_right 1 (Nat.mul_le_mul_right (2^k) h1))
 have m2:=near_mono (by decide) (by decide) h (near_exact (q:=1) (by decide) e2) (Nat.mul_le_mul_right 1 (Nat.mul_le_mul_right (2^k) h2))
 omega
theorem ratio_up {na nb S k R:Nat} (hb:0<nb) (hR1:(k+10)*4503599627370496≤R) (hS:S+5≤k) (h:IsNear (stick (na*2^S) nb*2^k) 1 R):
   IsNear (na*2^k) nb (R-S*4503599627370496)∧V (R-S*4503599627370496)*2^(S+2)=V R*2^2:=by
 have h1:=near_stick hb (by omega) h
 obtain⟨r,rfl⟩: ∃r,R=r+S*4503599627370496:=⟨R-S*4503599627370496,by omega⟩
 rw[Nat.add_sub_cancel]
 have hr:4503599627370496<r:=by omega
 refine⟨?_,?_⟩
 · rw[show na*2^S*2^k=na*2^k*2^S by rw[Nat.mul_assoc,Nat.mul_comm (2^S),←Nat.mul_assoc]]at h1
   exact(near_scale (2^S) (Nat.two_pow_pos S)).1 ((near_shift S hr).2 h1)
 · rw[V_shift (by omega),Nat.pow_add,Nat.mul_assoc]
theorem ratio_down {na nb k R:Nat} (hb:0<nb) (hR1:(k+10)*4503599627370496≤R) (h:IsNear (stick na (nb*2^1)*2^k) 1 R):
   IsNear (na*2^k) nb (R+1*4503599627370496)∧V (R+1*4503599627370496)*2^1=V R*2^2:=by
 have h1:=near_stick (Nat.mul_pos hb (by decide)) (by omega) h
 refine⟨(near_shift 1 (by omega)).1 h1,?_⟩
 rw[V_shift (by omega),Nat.mul_assoc]
theorem bit_range {n:Nat} (h0:0<n):2^bitLen n≤2*n∧n<2^bitLen n∧0<bitLen n:=by
 obtain⟨h1,h2⟩:=bitLen_spec n
 have h3:=h2 (by omega)
 have hp:0<bitLen n:=by
   rcases Nat.eq_zero_or_pos (bitLen n)with h|h
   · rw[h]at h1;simp at h1;omega
   · exact h
 refine⟨?_,h1,hp⟩
 rw[show bitLen n=bitLen n-1+1 by omega,Nat.pow_succ]
 omega
theorem bit_le {n:Nat} (h:n≤9223372036854775808):bitLen n≤64:=bitLen_lt (n:=n) (m:=64) (by rw[show (2:Nat)^64=18446744073709551616 from by decide];omega)
theorem quot_up {na nb S:Nat} (ha:0<na) (hb:0<nb) (hS:bitLen na+S=62+bitLen nb):2305843009213693952≤na*2^S/nb∧na*2^S/nb<9223372036854775808∧bitLen (na*2^S)≤bitLen nb+63:=by
 obtain⟨a1,a2,-⟩:=bit_range ha
 obtain⟨b1,b2,-⟩:=bit_range hb
 have n1:2^(62+bitLen nb)≤2*(na*2^S):=by
   rw[← hS,Nat.pow_add,←Nat.mul_assoc];exact Nat.mul_le_mul_right _ a1
 have n2:na*2^S<2^(62+bitLen nb):=by
   rw[← hS,Nat.pow_add];exact Nat.mul_lt_mul_of_pos_right a2 (Nat.two_pow_pos _)
 obtain⟨q1,q2⟩:=quot_bits (d:=nb) b1 b2 n1 n2 rfl
 have:=bitLen_lt n2
 exact⟨q1,q2,by omega⟩
theorem quot_down {na nb:Nat} (ha:0<na) (hb:0<nb) (hS:bitLen na=63+bitLen nb):2305843009213693952≤na/(nb*2^1)∧na/(nb*2^1)<9223372036854775808∧bitLen na≤bitLen (nb*2^1)+63:=by
 obtain⟨a1,a2,-⟩:=bit_range ha
 obtain⟨b1,b2,-⟩:=bit_range hb
 rw[hS,show 63+bitLen nb=62+(bitLen nb+1)by omega]at a1 a2
 have d1:2^(bitLen nb+1)≤2*(nb*2^1):=by rw[Nat.pow_succ];omega
 have d2:nb*2^1<2^(bitLen nb+1):=by rw[Nat.pow_succ];omega
 obtain⟨q1,q2⟩:=quot_bits d1 d2 a1 a2 rfl
 refine⟨q1,q2,?_⟩
 have h1:=bit_range (n:=nb*2^1) (by omega)
 refine Nat.le_of_not_lt fun hlt=> ?_
 have h2:(2:Nat)^(bitLen (nb*2^1))≤2^(bitLen nb-1):=Nat.pow_le_pow_right (by decide) (by omega)
 have h3:=(bitLen_spec nb).2 (by omega)
 omega
theorem stick_le63 {n d:Nat} (h1:2305843009213693952≤n/d) (h2:n/d<9223372036854775808):2305843009213693952≤stick n d∧stick n d<9223372036854775808:=by
 unfold stick
 split<;>omega
theorem or_one (q:Nat):q ||| 1=if q%2=0 then q+1 else q:=by
 by_cases h:q%2=0
 · rw[if_pos h]
   exact nat_join 1 q 1 (by simpa using h) (by decide)
 · rw[if_neg h]
   have e:q=(q-1) ||| 1:=by rw[nat_join 1 (q-1) 1 (by simp;omega) (by decide)];omega
   conv=>lhs;rw[e]
   rw[Nat.or_assoc,Nat.or_self,←e]
end
section
open Go.RowKit
theorem ret_int {k:IntKind} {a b:Int} (h:a=b):Ending.returned (.int k a)= .returned (.int k b):=by rw[h]
theorem rsize_any (a:Int) (w:World) (h1: -9223372036854775808≤a) (h2:a≤9223372036854775807):
   Calls Tryz.prog 45 #[.int .i64 a] w fun e w'=>e= .returned (.int .u64 (a.natAbs:Nat))∧w=w':=by
 by_cases h:a<0
 · go_enter Tryz.func45,Tryz.ntmps45
   go_wp2
   go_ret
   exact⟨ret_int (by first|omega|(simp only[IntKind.wrap_u64];omega)),rfl⟩
 · go_enter Tryz.func45,Tryz.ntmps45
   go_wp2
   go_ret
   exact⟨ret_int (by first|omega|(simp only[IntKind.wrap_u64];omega)),rfl⟩
theorem float_whole (t k:Nat) (hk:k=1074) (h1:2305843009213693952≤t) (h2:t<9223372036854775808): ∃R,floatOfInt .f64 (t:Int)=R∧IsNear (t*2^k) 1 R∧(k+10)*4503599627370496≤R∧R≤(k+12)*4503599627370496:=by
 obtain⟨R,hR,he⟩:=nearest_is false t k 0 (by omega)
 obtain⟨b1,b2⟩:=near_between h1 (by omega) hR
 refine⟨R,?_,hR,b1,b2⟩
 have e1:floatOfInt .f64 (t:Int)=Ieee.double.nearest (decide ((t:Int)<0)) (t:Int).natAbs 0:=rfl
 rw[e1,decide_eq_false (by omega),Int.natAbs_natCast]
 rw[show (k:Int)-((0:Nat):Int)-1074=0 by omega]at he
 rw[he,word_mkW,show min R 9218868437227405312=R by omega]
 rfl
def RatNat (na nb r:Nat):Prop:=IsNear (na*pw 1074) nb r∧4503599627370496<r∧r<9218868437227405312
def RatRes (w:World) (a b:Int) (e:Ending) (w':World):Prop:= ∃r,e= .returned (.tuple #[.float .f64 (mkW (decide (a<0) != decide (b<0)) r),.int .i64 0])∧RatNat a.natAbs b.natAbs r∧Below w.heap.size w w'
theorem rat_up {na nb S k R:Nat} (hk:k=1074) (hb:0<nb) (hS:S≤126) (h1:(k+10)*4503599627370496≤R) (h2:R≤(k+12)*4503599627370496) (h:IsNear (stick (na*2^S) nb*2^k) 1 R):
   ∃r,RatNat na nb r∧ ∀q,IsNear (V R*2^2) (2^(S+2)) q→min q 9218868437227405312=r:=by
 obtain⟨g1,g2⟩:=ratio_up hb h1 (by omega) h
 refine⟨R-S*4503599627370496,⟨?_,by omega,by omega⟩,fun q hq=> ?_⟩
 · rw[← hk];exact g1
 · rw[near_of_exact (Nat.two_pow_pos _) hq g2];omega
theorem rat_down {na nb k R:Nat} (hk:k=1074) (hb:0<nb) (h1:(k+10)*4503599627370496≤R) (h2:R≤(k+12)*4503599627370496) (h:IsNear (stick na (nb*2^1)*2^k) 1 R):
   ∃r,RatNat na nb r∧ ∀q,IsNear (V R*2^2) (2^1) q→min q 9218868437227405312=r:=by
 obtain⟨g1,g2⟩:=ratio_down hb h1 h
 refine⟨R+1*4503599627370496,⟨?_,by omega,by omega⟩,fun q hq=> ?_⟩
 · rw[← hk];exact g1
 · rw[near_of_exact (Nat.two_pow_pos _) hq g2];omega
theorem pquo_pw (va vb:Value) (na nb:Nat) (w:World) (ha:IsN w va na) (hb:IsN w vb nb) (h0:0<nb) (hsa:na<pw 1000) (hsb:nb<pw 1000) (h:bitLen na≤bitLen nb+63) (hq:na/nb<18446744073709551616):
   Calls Tryz.prog 48 #[va,vb] w (PQuoYes w (na/nb) (na%nb)):=by
 have h1:=up_pw hsa (show 1000≤90000 by decide)
 have h2:=up_pw hsb (show 1000≤90000 by decide)
 exact pquo_yes va vb na nb w ha hb h0 h1 h2 h hq
theorem pbits_pw (v:Value) (n:Nat) (w:World) (h:IsN w v n) (hn:n<pw 1000):
   Calls Tryz.prog 46 #[v] w fun e w'=>e= .returned (.int .i64 (bitLen n:Nat))∧w=w':=by
 have h1:=up_pw hn (show 1000≤1000000 by decide)
 exact pbits_any v n w h h1
theorem pleft_pw (va:Value) (na n:Nat) (w:World) (ha:IsN w va na) (hsa:na<pw 1000) (hn:n≤1000000):
   Calls Tryz.prog 47 #[va,.int .i64 n] w (NatRes w (na*2^n)):=by
 have h1:=up_pw hsa (show 1000≤1000000 by decide)
 exact pleft_any va na n w ha h1 hn
theorem word_pw {n:Nat} (h:n≤9223372036854775808):n<pw 64:=by
 have e:pw 64=18446744073709551616:=by decide
 rw[e];omega
theorem shift_pw {n s:Nat} (h:n≤9223372036854775808) (hs:s≤130):n*2^s<pw 1000:=by
 have h1:n<2^64:=by rw[show (2:Nat)^64=18446744073709551616 from by decide];omega
 have h2:n*2^s<2^64*2^s:=Nat.mul_lt_mul_of_pos_right h1 (Nat.two_pow_pos _)
 rw[← Nat.pow_add]at h2
 exact lt_pw h2 (by omega)
theorem ratio_none (b:Int) (w:World) (hb:b≠0):Calls Tryz.prog 25 #[.int .i64 0,.int .i64 b] w fun e w'=>e= .returned (.tuple #[.float .f64 0,.int .i64 0])∧w=w':=by
 have h0:(b==0)=false:=by simpa using hb
 clear hb
 go_enter Tryz.func25,Tryz.ntmps25
 go_wp2
 go_ret2
 exact⟨rfl,rfl⟩
set_option maxHeartbeats 4000000 in
set_option maxRecDepth 100000 in
theorem ratio_up_walk (a b:Int) (S:Nat) (w:World) (ha1: -9223372036854775808≤a) (ha2:a≤9223372036854775807) (hb1: -9223372036854775808≤b) (hb2:b≤9223372036854775807) (ha:a≠0) (hb:b≠0)
   (hS:bitLen a.natAbs+S=62+bitLen b.natAbs):
   Calls Tryz.prog 25 #[.int .i64 a,.int .i64 b] w (RatRes w a b):=by
 have Ka:=Lib.hid (fun v=>rsize_any a v ha1 ha2)
 have Kb:=Lib.hid (fun v=>rsize_any b v hb1 hb2)
 have h0a:(a==0)=false:=by simpa using ha
 have h0b:(b==0)=false:=by simpa using hb
 have hna:0<a.natAbs:=by omega
 have hnb:0<b.natAbs:=by omega
 have hna2:a.natAbs≤9223372036854775808:=by omega
 have hnb2:b.natAbs≤9223372036854775808:=by omega
 unfold RatRes
 generalize a.natAbs=x at*
 generalize b.natAbs=y at*
 have hbx:=bit_le hna2
 have hby:=bit_le hnb2
 obtain⟨-,-,hpx⟩:=bit_range hna
 have hS2:S≤126:=by omega
 obtain⟨q1,q2,q3⟩:=quot_up hna hnb hS
 obtain⟨t1,t2⟩:=stick_le63 q1 q2
 obtain⟨R,f1,f2,f3,f4⟩:=float_whole (stick (x*2^S) y) 1074 rfl t1 t2
 obtain⟨r,hr1,hr2⟩:=rat_up rfl hnb hS2 f3 f4 f2
 have Hr1:=Lib.hid hr1;have Hr2:=Lib.hid hr2
 have Kof:=Lib.hid (fun n v h=>pof_any n v h)
 have Kbx:=Lib.hid (fun u v (h:IsN v u x)=>pbits_pw u x v h (le_pw (word_pw hna2) (by decide)))
 have Kby:=Lib.hid (fun u v (h:IsN v u y)=>pbits_pw u y v h (le_pw (word_pw hnb2) (by decide)))
 have Kleft:=Lib.hid (fun u v (h:IsN v u x)=>pleft_pw u x S v h (le_pw (word_pw hna2) (by decide)) (by omega))
 have Kq:=Lib.hid (fun u u' v (h:IsN v u (x*2^S)) (h':IsN v u' y)=>pquo_pw u u' _ y v h h' hnb (shift_pw hna2 (by omega)) (le_pw (word_pw hnb2) (by decide)) q3 (by omega))
 have Kl:=Lib.hid (fun v=>ldexp_any R 2 (S+2) (-(S:Int)) v (by omega) (by omega) (by omega) (by omega) (by omega))
 have hun:=neg_unary (show r<9223372036854775808 by have:=hr1.2.2;omega)
 have hstick:stick (x*2^S) y=if 0<x*2^S%y∧x*2^S/y%2=0 then x*2^S/y+1 else x*2^S/y:=rfl
 have hSi:(62:Int)-(bitLen x:Int)+(bitLen y:Int)=(S:Int):=by omega
 generalize stick (x*2^S) y=st at*
 generalize x*2^S/y=Q at*
 generalize hrem:x*2^S%y=rem at*
 have hor:=u64_or_nat Q 1 (by omega) (by decide)
 rw[or_one]at hor
 have Hor:Hid (0<rem→bits .or .u64 (Q:Int) 1=(st:Int)):=Lib.hid fun h=>by
   rw[hstick]
   by_cases ho:Q%2=0
   · rw[if_pos ⟨h,ho⟩];rw[if_pos ho]at hor;exact hor
   · rw[if_neg (fun h'=>ho h'.2)];rw[if_neg ho]at hor;exact hor
 have Hor2:Hid (rem=0→Q=st):=Lib.hid fun h=>by rw[hstick,if_neg (by omega)]
 generalize bitLen x=px at*
 generalize bitLen y=py at*
 have hSS:((S:Nat):Int)≤126:=by omega
 have Hna2:=Lib.hid hna2;have Hnb2:=Lib.hid hnb2
 clear ha hb hr1 hr2 hor hstick hrem f2 f3 f4 q1 q3 hS hpx hna hnb hS2
 have hxw:x<18446744073709551616:=by omega
 have hyw:y<18446744073709551616:=by omega
 by_cases hrem:0<rem
 · have hor1:=Hor.out hrem
   by_cases sa:a<0
   · by_cases sb:b<0
     · have Hsg:=Lib.hid (show (decide (a<0) != decide (b<0))=false by rw[decide_eq_true sa,decide_eq_true sb];rfl)
       have da:decide (a<0)=true:=decide_eq_true sa
       have db:decide (b<0)=true:=decide_eq_true sb
       go_enter Tryz.func25,Tryz.ntmps25
       go_wp2_with fail
       with_reducible refine(Ka.out _).mono ?_
       rintro e w' ⟨rfl,rfl⟩
       go_wp2_with fail
       with_reducible refine(Kof.out x _ hxw).mono ?_
       rintro e w1 ⟨n1,rfl,hn1,hb1⟩
       have Hn1:=Lib.hid hn1;have Hb1:=Lib.hid hb1
       clear hn1 hb1
       go_wp2_with fail
       with_reducible refine(Kb.out _).mono ?_
       rintro e w' ⟨rfl,rfl⟩
       go_wp2_with fail
       with_reducible refine(Kof.out y _ hyw).mono ?_
       rintro e w2 ⟨n2,rfl,hn2,hb2⟩
       have Hn2:=Lib.hid hn2;have Hn1':=Lib.hid (Hn1.out.later hb2);have Hb2:=Lib.hid (Hb1.out.trans (hb2.mono Hb1.out.size))
       clear hn2 hb2 Hn1 Hb1
       go_wp2_with fail
       with_reducible refine(Kbx.out _ _ Hn1'.out).mono ?_
       rintro e w' ⟨rfl,rfl⟩
       go_wp2_with fail
       with_reducible refine(Kby.out _ _ Hn2.out).mono ?_
       rintro e w' ⟨rfl,rfl⟩
       go_wp2_with fail
       with_reducible refine(Kleft.out _ _ Hn1'.out).mono ?_
       rintro e w3 ⟨n3,rfl,hn3,hb3⟩
       have Hn3:=Lib.hid hn3;have Hn2':=Lib.hid (Hn2.out.later hb3);have Hb3:=Lib.hid (Hb2.out.trans (hb3.mono Hb2.out.size))
       clear hn3 hb3 Hn2 Hb2 Hn1'
       go_wp2_with fail
       with_reducible refine(Kq.out _ _ _ Hn3.out Hn2'.out).mono ?_
       rintro e w4 ⟨v4,rfl,hv4,hb4⟩
       have Hb4:=Lib.hid (Hb3.out.trans (hb4.mono Hb3.out.size))
       clear hb4 Hn3 Hn2' Hb3
       have hlen0:=hv4
       obtain⟨l,⟨ar,cr,rfl,hl,hc,hr⟩,hn,hval⟩:=hv4
       have hlen:=isN_len hlen0
       have hlb:l.length≤9223372036854775807:=by unfold maxLen at hc;omega
       clear hl hc hr hn hval hlen0
       generalize l.length=L at*
       have hL:0<L:=by first|(rw [decide_eq_true hrem]at hlen;simpa using hlen)|(rw [decide_eq_false hrem]at hlen;simpa using hlen)
       clear hlen hrem
       go_wp2_with fail
       with_reducible refine(Kl.out _).mono ?_
       rintro e w5 ⟨u,rfl,hu,rfl⟩
       have hur:=Hr2.out u hu
       rw[hur]
       clear hu hur
       go_wp2
       go_ret2
       exact⟨r,by rw[Hsg.out];rfl,Hr1.out,Hb4.out⟩
     · have Hsg:=Lib.hid (show (decide (a<0) != decide (b<0))=true by rw[decide_eq_true sa,decide_eq_false sb];rfl)
       have da:decide (a<0)=true:=decide_eq_true sa
       have db:decide (b<0)=false:=decide_eq_false sb
       go_enter Tryz.func25,Tryz.ntmps25
       go_wp2_with fail
       with_reducible refine(Ka.out _).mono ?_
       rintro e w' ⟨rfl,rfl⟩
       go_wp2_with fail
       with_reducible refine(Kof.out x _ hxw).mono ?_
       rintro e w1 ⟨n1,rfl,hn1,hb1⟩
       have Hn1:=Lib.hid hn1;have Hb1:=Lib.hid hb1
       clear hn1 hb1
       go_wp2_with fail
       with_reducible refine(Kb.out _).mono ?_
       rintro e w' ⟨rfl,rfl⟩
       go_wp2_with fail
       with_reducible refine(Kof.out y _ hyw).mono ?_
       rintro e w2 ⟨n2,rfl,hn2,hb2⟩
       have Hn2:=Lib.hid hn2;have Hn1':=Lib.hid (Hn1.out.later hb2);have Hb2:=Lib.hid (Hb1.out.trans (hb2.mono Hb1.out.size))
       clear hn2 hb2 Hn1 Hb1
       go_wp2_with fail
       with_reducible refine(Kbx.out _ _ Hn1'.out).mono ?_
       rintro e w' ⟨rfl,rfl⟩
       go_wp2_with fail
       with_reducible refine(Kby.out _ _ Hn2.out).mono ?_
       rintro e w' ⟨rfl,rfl⟩
       go_wp2_with fail
       with_reducible refine(Kleft.out _ _ Hn1'.out).mono ?_
       rintro e w3 ⟨n3,rfl,hn3,hb3⟩
       have Hn3:=Lib.hid hn3;have Hn2':=Lib.hid (Hn2.out.later hb3);have Hb3:=Lib.hid (Hb2.out.trans (hb3.mono Hb2.out.size))
       clear hn3 hb3 Hn2 Hb2 Hn1'
       go_wp2_with fail
       with_reducible refine(Kq.out _ _ _ Hn3.out Hn2'.out).mono ?_
       rintro e w4 ⟨v4,rfl,hv4,hb4⟩
       have Hb4:=Lib.hid (Hb3.out.trans (hb4.mono Hb3.out.size))
       clear hb4 Hn3 Hn2' Hb3
       have hlen0:=hv4
       obtain⟨l,⟨ar,cr,rfl,hl,hc,hr⟩,hn,hval⟩:=hv4
       have hlen:=isN_len hlen0
       have hlb:l.length≤9223372036854775807:=by unfold maxLen at hc;omega
       clear hl hc hr hn hval hlen0
       generalize l.length=L at*
       have hL:0<L:=by first|(rw [decide_eq_true hrem]at hlen;simpa using hlen)|(rw [decide_eq_false hrem]at hlen;simpa using hlen)
       clear hlen hrem
       go_wp2_with fail
       with_reducible refine(Kl.out _).mono ?_
       rintro e w5 ⟨u,rfl,hu,rfl⟩
       have hur:=Hr2.out u hu
       rw[hur]
       clear hu hur
       go_wp2
       go_ret2
       exact⟨r,by rw[Hsg.out];rfl,Hr1.out,Hb4.out⟩
   · by_cases sb:b<0
     · have Hsg:=Lib.hid (show (decide (a<0) != decide (b<0))=true by rw[decide_eq_false sa,decide_eq_true sb];rfl)
       have da:decide (a<0)=false:=decide_eq_false sa
       have db:decide (b<0)=true:=decide_eq_true sb
       go_enter Tryz.func25,Tryz.ntmps25
       go_wp2_with fail
       with_reducible refine(Ka.out _).mono ?_
       rintro e w' ⟨rfl,rfl⟩
       go_wp2_with fail
       with_reducible refine(Kof.out x _ hxw).mono ?_
       rintro e w1 ⟨n1,rfl,hn1,hb1⟩
       have Hn1:=Lib.hid hn1;have Hb1:=Lib.hid hb1
       clear hn1 hb1
       go_wp2_with fail
       with_reducible refine(Kb.out _).mono ?_
       rintro e w' ⟨rfl,rfl⟩
       go_wp2_with fail
       with_reducible refine(Kof.out y _ hyw).mono ?_
       rintro e w2 ⟨n2,rfl,hn2,hb2⟩
       have Hn2:=Lib.hid hn2;have Hn1':=Lib.hid (Hn1.out.later hb2);have Hb2:=Lib.hid (Hb1.out.trans (hb2.mono Hb1.out.size))
       clear hn2 hb2 Hn1 Hb1
       go_wp2_with fail
       with_reducible refine(Kbx.out _ _ Hn1'.out).mono ?_
       rintro e w' ⟨rfl,rfl⟩
       go_wp2_with fail
       with_reducible refine(Kby.out _ _ Hn2.out).mono ?_
       rintro e w' ⟨rfl,rfl⟩
       go_wp2_with fail
       with_reducible refine(Kleft.out _ _ Hn1'.out).mono ?_
       rintro e w3 ⟨n3,rfl,hn3,hb3⟩
       have Hn3:=Lib.hid hn3;have Hn2':=Lib.hid (Hn2.out.later hb3);have Hb3:=Lib.hid (Hb2.out.trans (hb3.mono Hb2.out.size))
       clear hn3 hb3 Hn2 Hb2 Hn1'
       go_wp2_with fail
       with_reducible refine(Kq.out _ _ _ Hn3.out Hn2'.out).mono ?_
       rintro e w4 ⟨v4,rfl,hv4,hb4⟩
       have Hb4:=Lib.hid (Hb3.out.trans (hb4.mono Hb3.out.size))
       clear hb4 Hn3 Hn2' Hb3
       have hlen0:=hv4
       obtain⟨l,⟨ar,cr,rfl,hl,hc,hr⟩,hn,hval⟩:=hv4
       have hlen:=isN_len hlen0
       have hlb:l.length≤9223372036854775807:=by unfold maxLen at hc;omega
       clear hl hc hr hn hval hlen0
       generalize l.length=L at*
       have hL:0<L:=by first|(rw [decide_eq_true hrem]at hlen;simpa using hlen)|(rw [decide_eq_false hrem]at hlen;simpa using hlen)
       clear hlen hrem
       go_wp2_with fail
       with_reducible refine(Kl.out _).mono ?_
       rintro e w5 ⟨u,rfl,hu,rfl⟩
       have hur:=Hr2.out u hu
       rw[hur]
       clear hu hur
       go_wp2
       go_ret2
       exact⟨r,by rw[Hsg.out];rfl,Hr1.out,Hb4.out⟩
     · have Hsg:=Lib.hid (show (decide (a<0) != decide (b<0))=false by rw[decide_eq_false sa,decide_eq_false sb];rfl)
       have da:decide (a<0)=false:=decide_eq_false sa
       have db:decide (b<0)=false:=decide_eq_false sb
       go_enter Tryz.func25,Tryz.ntmps25
       go_wp2_with fail
       with_reducible refine(Ka.out _).mono ?_
       rintro e w' ⟨rfl,rfl⟩
       go_wp2_with fail
       with_reducible refine(Kof.out x _ hxw).mono ?_
       rintro e w1 ⟨n1,rfl,hn1,hb1⟩
       have Hn1:=Lib.hid hn1;have Hb1:=Lib.hid hb1
       clear hn1 hb1
       go_wp2_with fail
       with_reducible refine(Kb.out _).mono ?_
       rintro e w' ⟨rfl,rfl⟩
       go_wp2_with fail
       with_reducible refine(Kof.out y _ hyw).mono ?_
       rintro e w2 ⟨n2,rfl,hn2,hb2⟩
       have Hn2:=Lib.hid hn2;have Hn1':=Lib.hid (Hn1.out.later hb2);have Hb2:=Lib.hid (Hb1.out.trans (hb2.mono Hb1.out.size))
       clear hn2 hb2 Hn1 Hb1
       go_wp2_with fail
       with_reducible refine(Kbx.out _ _ Hn1'.out).mono ?_
       rintro e w' ⟨rfl,rfl⟩
       go_wp2_with fail
       with_reducible refine(Kby.out _ _ Hn2.out).mono ?_
       rintro e w' ⟨rfl,rfl⟩
       go_wp2_with fail
       with_reducible refine(Kleft.out _ _ Hn1'.out).mono ?_
       rintro e w3 ⟨n3,rfl,hn3,hb3⟩
       have Hn3:=Lib.hid hn3;have Hn2':=Lib.hid (Hn2.out.later hb3);have Hb3:=Lib.hid (Hb2.out.trans (hb3.mono Hb2.out.size))
       clear hn3 hb3 Hn2 Hb2 Hn1'
       go_wp2_with fail
       with_reducible refine(Kq.out _ _ _ Hn3.out Hn2'.out).mono ?_
       rintro e w4 ⟨v4,rfl,hv4,hb4⟩
       have Hb4:=Lib.hid (Hb3.out.trans (hb4.mono Hb3.out.size))
       clear hb4 Hn3 Hn2' Hb3
       have hlen0:=hv4
       obtain⟨l,⟨ar,cr,rfl,hl,hc,hr⟩,hn,hval⟩:=hv4
       have hlen:=isN_len hlen0
       have hlb:l.length≤9223372036854775807:=by unfold maxLen at hc;omega
       clear hl hc hr hn hval hlen0
       generalize l.length=L at*
       have hL:0<L:=by first|(rw [decide_eq_true hrem]at hlen;simpa using hlen)|(rw [decide_eq_false hrem]at hlen;simpa using hlen)
       clear hlen hrem
       go_wp2_with fail
       with_reducible refine(Kl.out _).mono ?_
       rintro e w5 ⟨u,rfl,hu,rfl⟩
       have hur:=Hr2.out u hu
       rw[hur]
       clear hu hur
       go_wp2
       go_ret2
       exact⟨r,by rw[Hsg.out];rfl,Hr1.out,Hb4.out⟩
 · have hst:=Hor2.out (by omega)
   subst hst
   by_cases sa:a<0
   · by_cases sb:b<0
     · have Hsg:=Lib.hid (show (decide (a<0) != decide (b<0))=false by rw[decide_eq_true sa,decide_eq_true sb];rfl)
       have da:decide (a<0)=true:=decide_eq_true sa
       have db:decide (b<0)=true:=decide_eq_true sb
       go_enter Tryz.func25,Tryz.ntmps25
       go_wp2_with fail
       with_reducible refine(Ka.out _).mono ?_
       rintro e w' ⟨rfl,rfl⟩
       go_wp2_with fail
       with_reducible refine(Kof.out x _ hxw).mono ?_
       rintro e w1 ⟨n1,rfl,hn1,hb1⟩
       have Hn1:=Lib.hid hn1;have Hb1:=Lib.hid hb1
       clear hn1 hb1
       go_wp2_with fail
       with_reducible refine(Kb.out _).mono ?_
       rintro e w' ⟨rfl,rfl⟩
       go_wp2_with fail
       with_reducible refine(Kof.out y _ hyw).mono ?_
       rintro e w2 ⟨n2,rfl,hn2,hb2⟩
       have Hn2:=Lib.hid hn2;have Hn1':=Lib.hid (Hn1.out.later hb2);have Hb2:=Lib.hid (Hb1.out.trans (hb2.mono Hb1.out.size))
       clear hn2 hb2 Hn1 Hb1
       go_wp2_with fail
       with_reducible refine(Kbx.out _ _ Hn1'.out).mono ?_
       rintro e w' ⟨rfl,rfl⟩
       go_wp2_with fail
       with_reducible refine(Kby.out _ _ Hn2.out).mono ?_
       rintro e w' ⟨rfl,rfl⟩
       go_wp2_with fail
       with_reducible refine(Kleft.out _ _ Hn1'.out).mono ?_
       rintro e w3 ⟨n3,rfl,hn3,hb3⟩
       have Hn3:=Lib.hid hn3;have Hn2':=Lib.hid (Hn2.out.later hb3);have Hb3:=Lib.hid (Hb2.out.trans (hb3.mono Hb2.out.size))
       clear hn3 hb3 Hn2 Hb2 Hn1'
       go_wp2_with fail
       with_reducible refine(Kq.out _ _ _ Hn3.out Hn2'.out).mono ?_
       rintro e w4 ⟨v4,rfl,hv4,hb4⟩
       have Hb4:=Lib.hid (Hb3.out.trans (hb4.mono Hb3.out.size))
       clear hb4 Hn3 Hn2' Hb3
       have hlen0:=hv4
       obtain⟨l,⟨ar,cr,rfl,hl,hc,hr⟩,hn,hval⟩:=hv4
       have hlen:=isN_len hlen0
       have hlb:l.length≤9223372036854775807:=by unfold maxLen at hc;omega
       clear hl hc hr hn hval hlen0
       generalize l.length=L at*
       have hL:L=0:=by first|(rw [decide_eq_true hrem]at hlen;simpa using hlen)|(rw [decide_eq_false hrem]at hlen;simpa using hlen)
       clear hlen hrem
       subst hL
       go_wp2_with fail
       with_reducible refine(Kl.out _).mono ?_
       rintro e w5 ⟨u,rfl,hu,rfl⟩
       have hur:=Hr2.out u hu
       rw[hur]
       clear hu hur
       go_wp2
       go_ret2
       exact⟨r,by rw[Hsg.out];rfl,Hr1.out,Hb4.out⟩
     · have Hsg:=Lib.hid (show (decide (a<0) != decide (b<0))=true by rw[decide_eq_true sa,decide_eq_false sb];rfl)
       have da:decide (a<0)=true:=decide_eq_true sa
       have db:decide (b<0)=false:=decide_eq_false sb
       go_enter Tryz.func25,Tryz.ntmps25
       go_wp2_with fail
       with_reducible refine(Ka.out _).mono ?_
       rintro e w' ⟨rfl,rfl⟩
       go_wp2_with fail
       with_reducible refine(Kof.out x _ hxw).mono ?_
       rintro e w1 ⟨n1,rfl,hn1,hb1⟩
       have Hn1:=Lib.hid hn1;have Hb1:=Lib.hid hb1
       clear hn1 hb1
       go_wp2_with fail
       with_reducible refine(Kb.out _).mono ?_
       rintro e w' ⟨rfl,rfl⟩
       go_wp2_with fail
       with_reducible refine(Kof.out y _ hyw).mono ?_
       rintro e w2 ⟨n2,rfl,hn2,hb2⟩
       have Hn2:=Lib.hid hn2;have Hn1':=Lib.hid (Hn1.out.later hb2);have Hb2:=Lib.hid (Hb1.out.trans (hb2.mono Hb1.out.size))
       clear hn2 hb2 Hn1 Hb1
       go_wp2_with fail
       with_reducible refine(Kbx.out _ _ Hn1'.out).mono ?_
       rintro e w' ⟨rfl,rfl⟩
       go_wp2_with fail
       with_reducible refine(Kby.out _ _ Hn2.out).mono ?_
       rintro e w' ⟨rfl,rfl⟩
       go_wp2_with fail
       with_reducible refine(Kleft.out _ _ Hn1'.out).mono ?_
       rintro e w3 ⟨n3,rfl,hn3,hb3⟩
       have Hn3:=Lib.hid hn3;have Hn2':=Lib.hid (Hn2.out.later hb3);have Hb3:=Lib.hid (Hb2.out.trans (hb3.mono Hb2.out.size))
       clear hn3 hb3 Hn2 Hb2 Hn1'
       go_wp2_with fail
       with_reducible refine(Kq.out _ _ _ Hn3.out Hn2'.out).mono ?_
       rintro e w4 ⟨v4,rfl,hv4,hb4⟩
       have Hb4:=Lib.hid (Hb3.out.trans (hb4.mono Hb3.out.size))
       clear hb4 Hn3 Hn2' Hb3
       have hlen0:=hv4
       obtain⟨l,⟨ar,cr,rfl,hl,hc,hr⟩,hn,hval⟩:=hv4
       have hlen:=isN_len hlen0
       have hlb:l.length≤9223372036854775807:=by unfold maxLen at hc;omega
       clear hl hc hr hn hval hlen0
       generalize l.length=L at*
       have hL:L=0:=by first|(rw [decide_eq_true hrem]at hlen;simpa using hlen)|(rw [decide_eq_false hrem]at hlen;simpa using hlen)
       clear hlen hrem
       subst hL
       go_wp2_with fail
       with_reducible refine(Kl.out _).mono ?_
       rintro e w5 ⟨u,rfl,hu,rfl⟩
       have hur:=Hr2.out u hu
       rw[hur]
       clear hu hur
       go_wp2
       go_ret2
       exact⟨r,by rw[Hsg.out];rfl,Hr1.out,Hb4.out⟩
   · by_cases sb:b<0
     · have Hsg:=Lib.hid (show (decide (a<0) != decide (b<0))=true by rw[decide_eq_false sa,decide_eq_true sb];rfl)
       have da:decide (a<0)=false:=decide_eq_false sa
       have db:decide (b<0)=true:=decide_eq_true sb
       go_enter Tryz.func25,Tryz.ntmps25
       go_wp2_with fail
       with_reducible refine(Ka.out _).mono ?_
       rintro e w' ⟨rfl,rfl⟩
       go_wp2_with fail
       with_reducible refine(Kof.out x _ hxw).mono ?_
       rintro e w1 ⟨n1,rfl,hn1,hb1⟩
       have Hn1:=Lib.hid hn1;have Hb1:=Lib.hid hb1
       clear hn1 hb1
       go_wp2_with fail
       with_reducible refine(Kb.out _).mono ?_
       rintro e w' ⟨rfl,rfl⟩
       go_wp2_with fail
       with_reducible refine(Kof.out y _ hyw).mono ?_
       rintro e w2 ⟨n2,rfl,hn2,hb2⟩
       have Hn2:=Lib.hid hn2;have Hn1':=Lib.hid (Hn1.out.later hb2);have Hb2:=Lib.hid (Hb1.out.trans (hb2.mono Hb1.out.size))
       clear hn2 hb2 Hn1 Hb1
       go_wp2_with fail
       with_reducible refine(Kbx.out _ _ Hn1'.out).mono ?_
       rintro e w' ⟨rfl,rfl⟩
       go_wp2_with fail
       with_reducible refine(Kby.out _ _ Hn2.out).mono ?_
       rintro e w' ⟨rfl,rfl⟩
       go_wp2_with fail
       with_reducible refine(Kleft.out _ _ Hn1'.out).mono ?_
       rintro e w3 ⟨n3,rfl,hn3,hb3⟩
       have Hn3:=Lib.hid hn3;have Hn2':=Lib.hid (Hn2.out.later hb3);have Hb3:=Lib.hid (Hb2.out.trans (hb3.mono Hb2.out.size))
       clear hn3 hb3 Hn2 Hb2 Hn1'
       go_wp2_with fail
       with_reducible refine(Kq.out _ _ _ Hn3.out Hn2'.out).mono ?_
       rintro e w4 ⟨v4,rfl,hv4,hb4⟩
       have Hb4:=Lib.hid (Hb3.out.trans (hb4.mono Hb3.out.size))
       clear hb4 Hn3 Hn2' Hb3
       have hlen0:=hv4
       obtain⟨l,⟨ar,cr,rfl,hl,hc,hr⟩,hn,hval⟩:=hv4
       have hlen:=isN_len hlen0
       have hlb:l.length≤9223372036854775807:=by unfold maxLen at hc;omega
       clear hl hc hr hn hval hlen0
       generalize l.length=L at*
       have hL:L=0:=by first|(rw [decide_eq_true hrem]at hlen;simpa using hlen)|(rw [decide_eq_false hrem]at hlen;simpa using hlen)
       clear hlen hrem
       subst hL
       go_wp2_with fail
       with_reducible refine(Kl.out _).mono ?_
       rintro e w5 ⟨u,rfl,hu,rfl⟩
       have hur:=Hr2.out u hu
       rw[hur]
       clear hu hur
       go_wp2
       go_ret2
       exact⟨r,by rw[Hsg.out];rfl,Hr1.out,Hb4.out⟩
     · have Hsg:=Lib.hid (show (decide (a<0) != decide (b<0))=false by rw[decide_eq_false sa,decide_eq_false sb];rfl)
       have da:decide (a<0)=false:=decide_eq_false sa
       have db:decide (b<0)=false:=decide_eq_false sb
       go_enter Tryz.func25,Tryz.ntmps25
       go_wp2_with fail
       with_reducible refine(Ka.out _).mono ?_
       rintro e w' ⟨rfl,rfl⟩
       go_wp2_with fail
       with_reducible refine(Kof.out x _ hxw).mono ?_
       rintro e w1 ⟨n1,rfl,hn1,hb1⟩
       have Hn1:=Lib.hid hn1;have Hb1:=Lib.hid hb1
       clear hn1 hb1
       go_wp2_with fail
       with_reducible refine(Kb.out _).mono ?_
       rintro e w' ⟨rfl,rfl⟩
       go_wp2_with fail
       with_reducible refine(Kof.out y _ hyw).mono ?_
       rintro e w2 ⟨n2,rfl,hn2,hb2⟩
       have Hn2:=Lib.hid hn2;have Hn1':=Lib.hid (Hn1.out.later hb2);have Hb2:=Lib.hid (Hb1.out.trans (hb2.mono Hb1.out.size))
       clear hn2 hb2 Hn1 Hb1
       go_wp2_with fail
       with_reducible refine(Kbx.out _ _ Hn1'.out).mono ?_
       rintro e w' ⟨rfl,rfl⟩
       go_wp2_with fail
       with_reducible refine(Kby.out _ _ Hn2.out).mono ?_
       rintro e w' ⟨rfl,rfl⟩
       go_wp2_with fail
       with_reducible refine(Kleft.out _ _ Hn1'.out).mono ?_
       rintro e w3 ⟨n3,rfl,hn3,hb3⟩
       have Hn3:=Lib.hid hn3;have Hn2':=Lib.hid (Hn2.out.later hb3);have Hb3:=Lib.hid (Hb2.out.trans (hb3.mono Hb2.out.size))
       clear hn3 hb3 Hn2 Hb2 Hn1'
       go_wp2_with fail
       with_reducible refine(Kq.out _ _ _ Hn3.out Hn2'.out).mono ?_
       rintro e w4 ⟨v4,rfl,hv4,hb4⟩
       have Hb4:=Lib.hid (Hb3.out.trans (hb4.mono Hb3.out.size))
       clear hb4 Hn3 Hn2' Hb3
       have hlen0:=hv4
       obtain⟨l,⟨ar,cr,rfl,hl,hc,hr⟩,hn,hval⟩:=hv4
       have hlen:=isN_len hlen0
       have hlb:l.length≤9223372036854775807:=by unfold maxLen at hc;omega
       clear hl hc hr hn hval hlen0
       generalize l.length=L at*
       have hL:L=0:=by first|(rw [decide_eq_true hrem]at hlen;simpa using hlen)|(rw [decide_eq_false hrem]at hlen;simpa using hlen)
       clear hlen hrem
       subst hL
       go_wp2_with fail
       with_reducible refine(Kl.out _).mono ?_
       rintro e w5 ⟨u,rfl,hu,rfl⟩
       have hur:=Hr2.out u hu
       rw[hur]
       clear hu hur
       go_wp2
       go_ret2
       exact⟨r,by rw[Hsg.out];rfl,Hr1.out,Hb4.out⟩
end
section
def lastOff (y r:Nat):Nat:=if y%2=1∧(0<r∨y/2%2=1)then y/2+1 else y/2
end
end Go.Proofs.YtemnhpdjoimjbaaGreatDoor
