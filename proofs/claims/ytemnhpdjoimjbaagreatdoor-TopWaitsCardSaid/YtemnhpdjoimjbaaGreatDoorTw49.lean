import Derived.Test.YtemnhpdjoimjbaaGreatDoorTw46
import Derived.Test.YtemnhpdjoimjbaaGreatDoorTw48
import Derived.Test.YtemnhpdjoimjbaaGreatDoorTw45
import Derived.Laws.BitsAllLaws
namespace Go.Proofs.YtemnhpdjoimjbaaGreatDoor
section
open Go.RowKit
def pw (k:Nat):Nat:=2^k
theorem pw_pos (k:Nat):0<pw k:=Nat.two_pow_pos k
theorem lt_pw {n m k:Nat} (h:n<2^m) (hk:m≤k):n<pw k:=Nat.lt_of_lt_of_le h (Nat.pow_le_pow_right (by decide) hk)
theorem pow_lt_pw {m k:Nat} (h:m<k):2^m<pw k:=Nat.pow_lt_pow_right (by decide) h
theorem one_lt_pw {k:Nat} (h:0<k):1<pw k:=by have:=pow_lt_pw h;simpa using this
def OverNat (r a c:Nat):Prop:=0<c∧a*pw 1074=V r*c∧a<pw 2000∧c<pw 2000
def OverRes (w:World) (r:Nat) (e:Ending) (w':World):Prop:= ∃v1 v2 a c,e= .returned (.tuple #[v1,v2])∧IsN w' v1 a∧IsN w' v2 c∧OverNat r a c∧Below w.heap.size w w'
theorem odd_form (n:Nat):0<n→ ∃o t,o%2=1∧o*2^t=n∧o≤n∧t≤n:=by
 induction n using Nat.strongRecOn with
 | ind n ih =>
   intro h
   by_cases ho:n%2=1
   · exact⟨n,0,ho,by simp,Nat.le_refl _,by omega⟩
   · obtain⟨o,t,h1,h2,h3,h4⟩:=ih (n/2) (by omega) (by omega)
     exact⟨o,t+1,h1,by rw[Nat.pow_succ,←Nat.mul_assoc,h2];omega,by omega,by omega⟩
theorem odd_rung {r:Nat} (h0:0<r) (h1:r<9218868437227405312): ∃o t,o%2=1∧o*2^t=V r∧o<9007199254740992∧t≤2100:=by
 obtain⟨hm0,hm1⟩:=numM_pos h0
 obtain⟨o,t,ho,hv,hle,-⟩:=odd_form (numM r) hm0
 refine⟨o,t+numE r,ho,?_,by omega,?_⟩
 · rw[Nat.pow_add,←Nat.mul_assoc,hv,num_val]
 · have:t<53:=by
     refine Nat.lt_of_not_le fun h=> ?_
     have e1:2^53≤2^t:=Nat.pow_le_pow_right (by decide) h
     have e2:1*2^t≤o*2^t:=Nat.mul_le_mul_right _ (by omega)
     have e3:(2:Nat)^53=9007199254740992:=by decide
     omega
   unfold numE
   omega
theorem over_up {o t r k:Nat} (hk:k=1074) (hv:o*2^t=V r) (ho:o<9007199254740992) (h:k≤t) (hb:t-k≤1900):OverNat r (o*2^(t-k)) 1:=by
 refine⟨by decide,?_,?_,one_lt_pw (by decide)⟩
 · rw[← hk]
   unfold pw
   rw[Nat.mul_one,Nat.mul_assoc,←Nat.pow_add,Nat.sub_add_cancel h,hv]
 · have e1:o*2^(t-k)<2^53*2^(t-k):=Nat.mul_lt_mul_of_pos_right (by rw[show (2:Nat)^53=9007199254740992 from by decide];exact ho) (Nat.two_pow_pos _)
   rw[← Nat.pow_add]at e1
   exact lt_pw e1 (by omega)
theorem over_down {o t r k:Nat} (hk:k=1074) (hv:o*2^t=V r) (ho:o<9007199254740992) (h:t<k):OverNat r o (1*2^(k-t)):=by
 refine⟨by rw[Nat.one_mul];exact Nat.two_pow_pos _,?_,?_,?_⟩
 · rw[← hk]
   unfold pw
   rw[Nat.one_mul,←hv,Nat.mul_assoc,←Nat.pow_add,Nat.add_sub_cancel' (Nat.le_of_lt h)]
 · have e1:o<2^53:=by rw[show (2:Nat)^53=9007199254740992 from by decide];exact ho
   exact lt_pw e1 (by decide)
 · rw[Nat.one_mul]
   exact pow_lt_pw (by omega)
theorem over_nil {k:Nat}:OverNat 0 (0*2^k) 1:=⟨by decide,by simp [V_zero],by rw[Nat.zero_mul];exact pw_pos _,one_lt_pw (by decide)⟩
theorem lt_big (n k:Nat) (h:n<18446744073709551616) (hk:64≤k):n<2^k:=
 Nat.lt_of_lt_of_le (show n<2^64 by rw[show (2:Nat)^64=18446744073709551616 from by decide];exact h) (Nat.pow_le_pow_right (by decide) hk)
set_option maxHeartbeats 2000000 in
theorem over_any (b:Nat) (w:World) (hb:b<18446744073709551616) (h1:rg b<9218868437227405312) (hT:Tab w):
   Calls Tryz.prog 27 #[.float .f64 b] w (OverRes w (rg b)):=by
 have Kof:=Lib.hid (fun n v h=>pof_any n v h)
 have Kleft:=Lib.hid (fun va na n v (h:IsN v va na) (hs:na<18446744073709551616) hn=>pleft_any va na n v h (lt_big na 1000000 hs (by decide)) hn)
 by_cases h0:rg b=0
 · have K:=Lib.hid (fun v=>exact_zero b v hb h0)
   rw[h0]
   have Hn:=Lib.hid (@over_nil 0)
   clear h0 h1 hT
   go_enter Tryz.func27,Tryz.ntmps27
   go_wp2_with fail
   refine(K.out _).mono ?_
   rintro e w1 ⟨rfl,n1,rfl⟩
   go_wp2_with fail
   refine(Kof.out 0 _ (by decide)).mono ?_
   rintro e w2 ⟨v2,rfl,hv2,hb2⟩
   have Hv2:=Lib.hid hv2;have Hb2:=Lib.hid ((below_drewN (Below.refl w.heap.size w) n1).trans hb2)
   clear hv2 hb2
   go_wp2_with fail
   refine(Kleft.out _ 0 0 _ Hv2.out (by decide) (by decide)).mono ?_
   rintro e w3 ⟨v3,rfl,hv3,hb3⟩
   have Hv3:=Lib.hid hv3;have Hb3:=Lib.hid (Hb2.out.trans (hb3.mono Hb2.out.size))
   clear hv3 hb3
   go_wp2_with fail
   refine(Kof.out 1 _ (by decide)).mono ?_
   rintro e w4 ⟨v4,rfl,hv4,hb4⟩
   have Hv4:=Lib.hid hv4;have Hv3':=Lib.hid (Hv3.out.later hb4);have Hb4:=Lib.hid (Hb3.out.trans (hb4.mono Hb3.out.size))
   clear hv4 hb4
   go_wp2
   go_ret2
   exact⟨_,_,_,_,rfl,Hv3'.out,Hv4.out,Hn.out,Hb4.out⟩
 · obtain⟨o,t,ho,hv,hom,htm⟩:=odd_rung (show 0<rg b by omega) h1
   have K:=Lib.hid (fun v h=>exact_some b o t v hb (by omega) h1 ho hv h)
   have HT:=Lib.hid hT
   have hV:t-1074≤1900:=by omega
   by_cases hn:1074≤t
   · have Hn:=Lib.hid (over_up rfl hv hom hn hV)
     obtain⟨k,hk⟩: ∃k:Nat,t=k+1074:=⟨t-1074,by omega⟩
     subst hk
     rw[Nat.add_sub_cancel]at Hn
     have hk2:k≤1900:=by omega
     have e1:((k+1074:Nat):Int)-1074=(k:Int):=by omega
     rw[e1]at K
     clear e1 h0 h1 hT hv ho hn hV htm
     go_enter Tryz.func27,Tryz.ntmps27
     go_wp2_with fail
     refine(K.out _ HT.out).mono ?_
     rintro e w1 ⟨rfl,n1,rfl⟩
     go_wp2_with fail
     refine(Kof.out o _ (by omega)).mono ?_
     rintro e w2 ⟨v2,rfl,hv2,hb2⟩
     have Hv2:=Lib.hid hv2;have Hb2:=Lib.hid ((below_drewN (Below.refl w.heap.size w) n1).trans hb2)
     clear hv2 hb2
     go_wp2_with fail
     refine(Kleft.out _ o k _ Hv2.out (by omega) (by omega)).mono ?_
     rintro e w3 ⟨v3,rfl,hv3,hb3⟩
     have Hv3:=Lib.hid hv3;have Hb3:=Lib.hid (Hb2.out.trans (hb3.mono Hb2.out.size))
     clear hv3 hb3
     go_wp2_with fail
     refine(Kof.out 1 _ (by decide)).mono ?_
     rintro e w4 ⟨v4,rfl,hv4,hb4⟩
     have Hv4:=Lib.hid hv4;have Hv3':=Lib.hid (Hv3.out.later hb4);have Hb4:=Lib.hid (Hb3.out.trans (hb4.mono Hb3.out.size))
     clear hv4 hb4
     go_wp2
     go_ret2
     exact⟨_,_,_,_,rfl,Hv3'.out,Hv4.out,Hn.out,Hb4.out⟩
   · have Hn:=Lib.hid (over_down rfl hv hom (show t<1074 by omega))
     obtain⟨k,hk⟩: ∃k:Nat,1074=k+t:=⟨1074-t,by omega⟩
     rw[show 1074-t=k by omega]at Hn
     have hk2:k≤1074:=by omega
     have hk3:0<k:=by omega
     have e1:(t:Int)-1074= -(k:Int):=by omega
     rw[e1]at K
     clear e1 h0 h1 hT hv ho hn hV htm hk
     go_enter Tryz.func27,Tryz.ntmps27
     go_wp2_with fail
     refine(K.out _ HT.out).mono ?_
     rintro e w1 ⟨rfl,n1,rfl⟩
     go_wp2_with fail
     refine(Kof.out o _ (by omega)).mono ?_
     rintro e w2 ⟨v2,rfl,hv2,hb2⟩
     have Hv2:=Lib.hid hv2;have Hb2:=Lib.hid ((below_drewN (Below.refl w.heap.size w) n1).trans hb2)
     clear hv2 hb2
     go_wp2_with fail
     refine(Kof.out 1 _ (by decide)).mono ?_
     rintro e w3 ⟨v3,rfl,hv3,hb3⟩
     have Hv3:=Lib.hid hv3;have Hv2':=Lib.hid (Hv2.out.later hb3);have Hb3:=Lib.hid (Hb2.out.trans (hb3.mono Hb2.out.size))
     clear hv3 hb3
     go_wp2_with fail
     refine(Kleft.out _ 1 k _ Hv3.out (by decide) (by omega)).mono ?_
     rintro e w4 ⟨v4,rfl,hv4,hb4⟩
     have Hv4:=Lib.hid hv4;have Hv3':=Lib.hid (Hv2'.out.later hb4);have Hb4:=Lib.hid (Hb3.out.trans (hb4.mono Hb3.out.size))
     clear hv4 hb4
     go_wp2
     go_ret2
     exact⟨_,_,_,_,rfl,Hv3'.out,Hv4.out,Hn.out,Hb4.out⟩
end
section
open Go.RowKit
def upN (a b how:Nat):Bool:=(decide (how=1)&&decide (0<a%b))||(decide (how=2)&&(decide (b<2*(a%b))||(decide (2*(a%b)=b)&&decide (a/b%2=1))))
def wholeN (a b how:Nat):Nat:=a/b+(upN a b how).toNat
theorem whole_scale (a b how k:Nat) (hk:0<k):wholeN (a*k) (b*k) how=wholeN a b how:=by
 have e1:a*k/(b*k)=a/b:=Nat.mul_div_mul_right _ _ hk
 have e2:a*k%(b*k)=a%b*k:=Nat.mul_mod_mul_right ..
 have e3:decide (0<a%b*k)=decide (0<a%b):=by
   by_cases h:0<a%b
   · rw[decide_eq_true h,decide_eq_true (Nat.mul_pos h hk)]
   · rw[decide_eq_false h,show a%b=0 by omega];simp
 have e4:decide (b*k<2*(a%b*k))=decide (b<2*(a%b)):=by
   rw[← Nat.mul_assoc]
   by_cases h:b<2*(a%b)
   · rw[decide_eq_true h,decide_eq_true (Nat.mul_lt_mul_of_pos_right h hk)]
   · rw[decide_eq_false h,decide_eq_false (fun h'=>h (Nat.lt_of_mul_lt_mul_right h'))]
 have e5:decide (2*(a%b*k)=b*k)=decide (2*(a%b)=b):=by
   rw[← Nat.mul_assoc]
   by_cases h:2*(a%b)=b
   · rw[decide_eq_true h,decide_eq_true (by rw[h])]
   · rw[decide_eq_false h,decide_eq_false (fun h'=>h (Nat.mul_right_cancel hk h'))]
 unfold wholeN upN
 rw[e1,e2,e3,e4,e5]
theorem whole_ratio {a b a' b':Nat} (how:Nat) (hb:0<b) (hb':0<b') (h:a*b'=a'*b):wholeN a b how=wholeN a' b' how:=by
 rw[← whole_scale a b how b' hb',←whole_scale a' b' how b hb,h,Nat.mul_comm b b']
def WholeRes (w:World) (n:Nat) (e:Ending) (w':World):Prop:= ∃x:Int,e= .returned (.tuple #[.int .i64 x,.bool (decide (n≤4611686018427387903))])∧(n≤4611686018427387903→x=(n:Int))∧Below w.heap.size w w'
theorem bits_big {a b:Nat} (hb:0<b) (h:bitLen b+63<bitLen a):9223372036854775808≤a/b:=by
 have h1:=(bitLen_spec a).2 (by intro h0;subst h0;simp [bitLen]at h)
 have h2:=(bitLen_spec b).1
 rw[Nat.le_div_iff_mul_le hb]
 have h3:2^(bitLen b+63)≤2^(bitLen a-1):=Nat.pow_le_pow_right (by decide) (by omega)
 rw[Nat.pow_add,show(2:Nat)^63=9223372036854775808 from by decide]at h3
 have h4:b*9223372036854775808≤2^bitLen b*9223372036854775808:=Nat.mul_le_mul_right _ (Nat.le_of_lt h2)
 omega
theorem bits_fit {a b:Nat} (hb:0<b) (h:bitLen a≤bitLen b+63):a/b<18446744073709551616:=by
 have:=quo_start (na:=a) hb h
 rw[Nat.div_lt_iff_lt_mul hb,Nat.mul_comm]
 rw[show 63+1=64 from rfl,show(2:Nat)^64=18446744073709551616 from by decide]at this
 exact this
theorem isN_len {w:World} {a:Option Addr} {l:List Nat} {c:Nat} {n:Nat} (h:IsN w (.slice a l.length c) n):decide ((0:Int)<(l.length:Int))=decide (0<n):=by
 obtain⟨l',⟨a',c',he,_,_,_⟩,hn,hv⟩:=h
 simp only[Value.slice.injEq]at he
 rw[he.2.1]
 by_cases h0:l'.length=0
 · have:l'=[]:=List.eq_nil_of_length_eq_zero h0
   subst this
   rw[← hv];rfl
 · have h1:=norm_ge hn (by omega)
   have h2:0<4294967296^(l'.length-1):=Nat.pow_pos (by decide)
   rw[decide_eq_true (by omega),decide_eq_true (by omega)]
theorem up_pw {n m k:Nat} (h:n<pw m) (hk:m≤k):n<2^k:=Nat.lt_of_lt_of_le h (Nat.pow_le_pow_right (by decide) hk)
theorem whole_end {w w':World} {n q:Nat} {x:Int} {bb:Bool} {e:Ending} (he:e= .returned (.tuple #[.int .i64 x,.bool bb])) (hn:n=q) (hb:bb=decide (q≤4611686018427387903)) (hx:q≤4611686018427387903→x=q) (hbel:Below w.heap.size w w'):WholeRes w n e w':=by
 subst hn hb
 exact⟨x,he,hx,hbel⟩
theorem dec_cast (q:Nat):decide ((q:Int)+1≤4611686018427387903)=decide (q+1≤4611686018427387903):=by
 by_cases h:q+1≤4611686018427387903
 · rw[decide_eq_true h];simp;omega
 · rw[decide_eq_false h];simp;omega
set_option maxHeartbeats 8000000 in
theorem whole_any (va vb:Value) (na nb how:Nat) (w:World) (ha:IsN w va na) (hb:IsN w vb nb) (h0:0<nb) (hsa:na<pw 80000) (hsb:nb<pw 80000) (hh:how≤2):
   Calls Tryz.prog 28 #[va,vb,.int .i64 how] w (WholeRes w (wholeN na nb how)):=by
 have hsa':=up_pw hsa (show 80000≤90000 by decide)
 have hsb':=up_pw hsb (show 80000≤90000 by decide)
 by_cases hbig:bitLen nb+63<bitLen na
 · have K:=Lib.hid (pquo_no va vb na nb w ha hb hsa' hsb' hbig)
   have hge:=bits_big h0 hbig
   have hw: ¬wholeN na nb how≤4611686018427387903:=by unfold wholeN;omega
   have Hw:=Lib.hid hw
   clear ha hb h0 hsa hsb hh hsa' hsb' hbig hge hw
   go_enter Tryz.func28,Tryz.ntmps28
   go_wp2_with (go_at_call 48;(with_reducible refine K.out.mono ?_);rintro e w' ⟨rfl,rfl⟩)
   go_ret2
   exact⟨0,by rw[decide_eq_false Hw.out];rfl,fun h=>absurd h Hw.out,Below.refl _ _⟩
 · have hq:=bits_fit (a:=na) h0 (by omega)
   have K:=Lib.hid (pquo_yes va vb na nb w ha hb h0 hsa' hsb' (by omega) hq)
   have HB:=Lib.hid hb
   have hrb:na%nb<nb:=Nat.mod_lt _ h0
   have hsb6:=up_pw hsb (show 80000≤1000000 by decide)
   have Kl:=Lib.hid (fun u v (h:IsN v u (na%nb))=>pleft_any u (na%nb) 1 v h (Nat.lt_trans hrb hsb6) (by decide))
   clear hsb6
   have Kc:=Lib.hid (fun u u' v (h:IsN v u (na%nb*2^1)) (h':IsN v u' nb)=>pcompare_any u u' _ _ v h h')
   have hW:wholeN na nb how=na/nb+(upN na nb how).toNat:=rfl
   have hU:upN na nb how=((decide (how=1)&&decide (0<na%nb))||(decide (how=2)&&(decide (0<cmpI (na%nb*2^1) nb)||(decide (cmpI (na%nb*2^1) nb=0)&&decide (na/nb%2=1))))):=by
     unfold upN
     rw[show na%nb*2^1=2*(na%nb)by omega]
     rcases Nat.lt_trichotomy (2*(na%nb)) nb with h|h|h
     · rw[cmpI_lt h,decide_eq_false (show ¬nb<2*(na%nb)by omega),decide_eq_false (show ¬2*(na%nb)=nb by omega)];rfl
     · rw[h,cmpI_eq,decide_eq_false (show ¬nb<nb by omega)];simp
     · rw[cmpI_gt h,decide_eq_true h];rfl
   rw[hW,hU]
   clear ha hb h0 hsa hsb hsa' hsb' hbig hW hU hrb
   generalize cmpI (na%nb*2^1) nb=cm at*
   generalize na/nb=q at*
   generalize na%nb=r at*
   obtain⟨n,hn⟩: ∃n,n=q+((decide (how=1)&&decide (0<r))||(decide (how=2)&&(decide (0<cm)||(decide (cm=0)&&decide (q%2=1))))).toNat:=⟨_,rfl⟩
   rw[← hn]
   have Hn:=Lib.hid hn
   clear hn
   by_cases hmax:q≤4611686018427387903
   · go_enter Tryz.func28,Tryz.ntmps28
     go_wp2_with fail
     refine K.out.mono ?_
     rintro e w1 ⟨v,rfl,hv,hb1⟩
     have HB1:=Lib.hid (HB.out.later hb1)
     have Hb1:=Lib.hid hb1
     have Hv:=Lib.hid hv
     obtain⟨l,⟨ar,cr,rfl,hl,hc,hr⟩,hn,hval⟩:=hv
     have hlen:=isN_len Hv.out
     have hlb:l.length≤9223372036854775807:=by unfold maxLen at hc;omega
     clear hb1 hl hc hr hn hval
     generalize l.length=L at*
     go_wp2_with fail
     refine(Kl.out _ _ Hv.out).mono ?_
     rintro e w2 ⟨t,rfl,ht,hb2⟩
     have HB2:=Lib.hid (HB1.out.later hb2);have Ht:=Lib.hid ht;have Hb2:=Lib.hid (Hb1.out.trans (hb2.mono Hb1.out.size))
     clear ht hb2
     go_wp2_with fail
     refine(Kc.out _ _ _ Ht.out HB2.out).mono ?_
     rintro e w3 ⟨rfl,n3,rfl⟩
     have Hb3:=Lib.hid (below_drewN Hb2.out n3)
     clear K Kl Kc HB HB1 HB2 Hv Ht Hb1 Hb2
     have Hlen:=Lib.hid hlen
     clear hlen
     have hend0:Hid (∀(x:Int) (bb:Bool),n=q→bb=true→x=q→WholeRes w n (.returned (.tuple #[.int .i64 x,.bool bb])) (w2.drewN n3)):=Lib.hid fun x bb h1 h2 h3=>whole_end rfl h1 (by rw[h2,decide_eq_true hmax]) (fun _=>h3) Hb3.out
     have hend1:Hid (∀(x:Int) (bb:Bool),n=q+1→bb=decide (q+1≤4611686018427387903)→x=q+1→WholeRes w n (.returned (.tuple #[.int .i64 x,.bool bb])) (w2.drewN n3)):=Lib.hid fun x bb h1 h2 h3=>whole_end rfl h1 h2 (fun _=>h3) Hb3.out
     rcases(show how=0∨how=1∨how=2 by omega)with rfl|rfl|rfl
     · have Hq:Hid (n=q):=Lib.hid (by rw[Hn.out];rfl)
       clear Hn hh
       go_wp2
       go_ret2
       exact hend0.out _ _ Hq.out rfl rfl
     · by_cases hr:0<r
       · have hL:0<L:=by have h:=Hlen.out;rw[decide_eq_true hr]at h;simpa using h
         have Hq:Hid (n=q+1):=Lib.hid (by rw[Hn.out,decide_eq_true hr];rfl)
         clear Hn hh hr Hlen
         go_wp2
         go_ret2
         exact hend1.out _ _ Hq.out (dec_cast q) rfl
       · have hL:L=0:=by have h:=Hlen.out;rw[decide_eq_false hr]at h;simpa using h
         have Hq:Hid (n=q):=Lib.hid (by rw[Hn.out,decide_eq_false hr];rfl)
         subst hL
         clear Hn hh hr Hlen
         go_wp2
         go_ret2
         exact hend0.out _ _ Hq.out rfl rfl
     · by_cases hc1:0<cm
       · have Hq:Hid (n=q+1):=Lib.hid (by rw[Hn.out,decide_eq_true hc1];simp)
         clear Hn hh Hlen
         go_wp2
         go_ret2
         exact hend1.out _ _ Hq.out (dec_cast q) rfl
       · by_cases hc2:cm=0
         · subst hc2
           by_cases ho:q%2=1
           · have Hq:Hid (n=q+1):=Lib.hid (by rw[Hn.out,decide_eq_true ho];simp)
             have ho':((q:Int)%2==1)=true:=by simp;omega
             clear Hn hh Hlen ho
             go_wp2
             go_ret2
             exact hend1.out _ _ Hq.out (dec_cast q) rfl
           · have Hq:Hid (n=q):=Lib.hid (by rw[Hn.out,decide_eq_false ho];simp)
             have ho':((q:Int)%2==1)=false:=by simp;omega
             clear Hn hh Hlen ho
             go_wp2
             go_ret2
             exact hend0.out _ _ Hq.out rfl rfl
         · have Hq:Hid (n=q):=Lib.hid (by rw[Hn.out,decide_eq_false hc1,decide_eq_false hc2];simp)
           have hc3:(cm==0)=false:=by simp;omega
           clear Hn hh Hlen hc2
           go_wp2
           go_ret2
           exact hend0.out _ _ Hq.out rfl rfl
   · have hmax':(4611686018427387903:Int)<(q:Int):=by omega
     have Hno:Hid (¬n≤4611686018427387903):=Lib.hid (by rw[Hn.out];omega)
     clear hmax Hn
     go_enter Tryz.func28,Tryz.ntmps28
     go_wp2_with fail
     refine K.out.mono ?_
     rintro e w1 ⟨v,rfl,hv,hb1⟩
     have Hb1:=Lib.hid hb1
     clear hb1 hv
     go_wp2
     go_ret2
     exact⟨0,by rw[decide_eq_false Hno.out];rfl,fun h=>absurd h Hno.out,Hb1.out⟩
end
section
open Go.RowKit
theorem mul_pw {x y i j k:Nat} (hx:x<2^i) (hy:y<pw j) (h:i+j≤k):x*y<pw k:=by
 have h1:x*y≤2^i*y:=Nat.mul_le_mul_right _ (Nat.le_of_lt hx)
 have h2:2^i*y<2^i*pw j:=Nat.mul_lt_mul_of_pos_left hy (Nat.two_pow_pos _)
 unfold pw at*
 rw[← Nat.pow_add]at h2
 exact Nat.lt_of_lt_of_le (Nat.lt_of_le_of_lt h1 h2) (Nat.pow_le_pow_right (by decide) h)
theorem le_pw {x j k:Nat} (hx:x<pw j) (h:j≤k):x<pw k:=Nat.lt_of_lt_of_le hx (Nat.pow_le_pow_right (by decide) h)
theorem pmul_pw (va:Value) (na b:Nat) (w:World) (ha:IsN w va na) (hsa:na<pw 2000) (hb:b<18446744073709551616):
   Calls Tryz.prog 29 #[va,.int .u64 b] w (NatRes w (b*na)):=by
 have h:=up_pw hsa (show 2000≤100000 by decide)
 exact pmul_any va na b w ha h hb
def tickN (r hz how:Nat):Nat:=wholeN (V r*hz) (pw 1074) how
def argsT (hz how:Int):Bool:=decide (1≤hz∧hz≤1000000000∧0≤how∧how≤2)
def tkE (b:Nat) (hz how:Int):Nat:=
 if argsT hz how=false then 1 else if 9218868437227405312≤rg b then finE (rg b)else if sgn b=true∧0<rg b then 5
 else if tickN (rg b) hz.toNat how.toNat≤4611686018427387903 then 0 else 5
def tkV (b:Nat) (hz how:Int):Int:=if tkE b hz how=0 then(tickN (rg b) hz.toNat how.toNat:Int)else 0
def TkRes (w:World) (b:Nat) (hz how:Int) (e:Ending) (w':World):Prop:=e= .returned (.tuple #[.int .i64 (tkV b hz how),.int .i64 (tkE b hz how)])∧Below w.heap.size w w'
theorem tk_arg {b:Nat} {hz how:Int} (h:argsT hz how=false):tkE b hz how=1∧tkV b hz how=0:=by
 have e:tkE b hz how=1:=by unfold tkE;rw[if_pos h]
 exact⟨e,by unfold tkV;rw[e];rfl⟩
theorem tk_fin {b:Nat} {hz how:Int} (h:argsT hz how=true) (h1:9218868437227405312≤rg b):tkE b hz how=finE (rg b)∧tkV b hz how=0:=by
 have e:tkE b hz how=finE (rg b):=by unfold tkE;rw[if_neg (by simp [h]),if_pos h1]
 refine⟨e,?_⟩
 unfold tkV
 rw[e,if_neg]
 unfold finE
 repeat' split
 all_goals omega
theorem tk_neg {b:Nat} {hz how:Int} (h:argsT hz how=true) (h1:rg b<9218868437227405312) (h2:sgn b=true∧0<rg b):tkE b hz how=5∧tkV b hz how=0:=by
 have e:tkE b hz how=5:=by unfold tkE;rw[if_neg (by simp [h]),if_neg (by omega),if_pos h2]
 exact⟨e,by unfold tkV;rw[e];rfl⟩
theorem tk_some {b:Nat} {hz how:Int} (h:argsT hz how=true) (h1:rg b<9218868437227405312) (h2: ¬(sgn b=true∧0<rg b)) (h3:tickN (rg b) hz.toNat how.toNat≤4611686018427387903):tkE b hz how=0∧tkV b hz how=tickN (rg b) hz.toNat how.toNat:=by
 have e:tkE b hz how=0:=by unfold tkE;rw[if_neg (by simp [h]),if_neg (by omega),if_neg h2,if_pos h3]
 exact⟨e,by unfold tkV;rw[e];rfl⟩
theorem tk_big {b:Nat} {hz how:Int} (h:argsT hz how=true) (h1:rg b<9218868437227405312) (h2: ¬(sgn b=true∧0<rg b)) (h3: ¬tickN (rg b) hz.toNat how.toNat≤4611686018427387903):tkE b hz how=5∧tkV b hz how=0:=by
 have e:tkE b hz how=5:=by unfold tkE;rw[if_neg (by simp [h]),if_neg (by omega),if_neg h2,if_neg h3]
 exact⟨e,by unfold tkV;rw[e];rfl⟩
theorem argsT_yes {hz how:Int} (h:argsT hz how=true):1≤hz∧hz≤1000000000∧0≤how∧how≤2:=by simpa [argsT]using h
theorem argsT_no {hz how:Int} (h:argsT hz how=false):hz<1∨1000000000<hz∨how<0∨2<how:=by
 unfold argsT at h
 have:=of_decide_eq_false h
 omega
theorem ford_neg (b:Nat) (hb:b<18446744073709551616) (h1:rg b≤9218868437227405312):(FloatKind.f64.format.order b 0==some .lt)=decide (sgn b=true∧0<rg b):=by
 rw[ord_lt hb (by decide)]
 unfold okW keyW
 rw[rg_pos (show (0:Nat)<9223372036854775808 by decide),sgn_pos (show (0:Nat)<9223372036854775808 by decide),decide_eq_true h1]
 cases sgn b
 · simp
 · simp
set_option maxHeartbeats 4000000 in
theorem ticks_any (b:Nat) (hz how:Int) (w:World) (hb:b<18446744073709551616) (hT:Tab w):
   Calls Tryz.prog 14 #[.float .f64 b,.int .i64 hz,.int .i64 how] w (TkRes w b hz how):=by
 unfold TkRes
 cases hA:argsT hz how with
 | false =>
   obtain⟨e1,e2⟩:=tk_arg (b:=b) hA
   rw[e1,e2]
   have hno:=argsT_no hA
   clear e1 e2 hA hT
   by_cases c1:hz<1
   · go_enter Tryz.func14,Tryz.ntmps14
     go_wp2
     go_ret2
     exact⟨rfl,Below.refl _ _⟩
   · by_cases c2:1000000000<hz
     · go_enter Tryz.func14,Tryz.ntmps14
       go_wp2
       go_ret2
       exact⟨rfl,Below.refl _ _⟩
     · by_cases c3:how<0
       · go_enter Tryz.func14,Tryz.ntmps14
         go_wp2
         go_ret2
         exact⟨rfl,Below.refl _ _⟩
       · have c4:2<how:=by omega
         clear hno
         go_enter Tryz.func14,Tryz.ntmps14
         go_wp2
         go_ret2
         exact⟨rfl,Below.refl _ _⟩
 | true =>
   obtain⟨a1,a2,a3,a4⟩:=argsT_yes hA
   have Kf:=Lib.hid (fun v=>finite_any b v hb)
   by_cases c1:9218868437227405312≤rg b
   · obtain⟨e1,e2⟩:=tk_fin hA c1
     rw[e1,e2]
     have hf:((finE (rg b):Int) != 0)=true:=by
       rw[bne_iff_ne]
       unfold finE
       split
       · decide
       · rw[if_pos (by omega)];decide
     generalize finE (rg b)=f at*
     clear e1 e2 hA hT c1
     go_enter Tryz.func14,Tryz.ntmps14
     go_wp2_with (go_at_call 26;(with_reducible refine(Kf.out _).mono ?_);rintro e w' ⟨rfl,rfl⟩)
     go_ret2
     exact⟨rfl,Below.refl _ _⟩
   · have hfo:=ford_neg b hb (by omega)
     rw[show finE (rg b)=0 by unfold finE;rw[if_neg (by omega),if_neg (by omega)]]at Kf
     by_cases c2:sgn b=true∧0<rg b
     · obtain⟨e1,e2⟩:=tk_neg hA (by omega) c2
       rw[e1,e2]
       rw[decide_eq_true c2]at hfo
       clear e1 e2 hA hT c1 c2
       go_enter Tryz.func14,Tryz.ntmps14
       go_wp2_with (go_at_call 26;(with_reducible refine(Kf.out _).mono ?_);rintro e w' ⟨rfl,rfl⟩)
       go_ret2
       exact⟨rfl,Below.refl _ _⟩
     · rw[decide_eq_false c2]at hfo
       have Ko:=Lib.hid (fun v h=>over_any b v hb (by omega) h)
       have HT:=Lib.hid hT
       obtain⟨z,hz'⟩:=Int.eq_ofNat_of_zero_le (show 0≤hz by omega)
       obtain⟨k,hk'⟩:=Int.eq_ofNat_of_zero_le a3
       subst hz' hk'
       have hSome:=Lib.hid (fun h3=>tk_some hA (by omega) c2 h3)
       have hBig:=Lib.hid (fun h3=>tk_big hA (by omega) c2 h3)
       simp only[Int.toNat_natCast]at hSome hBig
       obtain⟨n,hn⟩: ∃n,n=tickN (rg b) z k:=⟨_,rfl⟩
       rw[← hn]at hSome hBig
       have Hn:=Lib.hid hn
       generalize tkV b (z:Int) (k:Int)=V0 at*
       generalize tkE b (z:Int) (k:Int)=E0 at*
       have hk2:k≤2:=by omega
       clear hn hA hT c1 c2
       go_enter Tryz.func14,Tryz.ntmps14
       go_wp2_with (go_at_call 26;(with_reducible refine(Kf.out _).mono ?_);rintro e w' ⟨rfl,rfl⟩)
       refine(Ko.out _ HT.out).mono ?_
       rintro e w1 ⟨v1,v2,a,c,rfl,hv1,hv2,ho,hb1⟩
       have Hv1:=Lib.hid hv1;have Hv2:=Lib.hid hv2;have Ho:=Lib.hid ho;have Hb1:=Lib.hid hb1
       clear hv1 hv2 ho hb1
       have Km:=Lib.hid (fun v (h:IsN v v1 a)=>pmul_pw v1 a z v h Ho.out.2.2.1 (by omega))
       go_wp2_with fail
       refine(Km.out _ Hv1.out).mono ?_
       rintro e w2 ⟨v3,rfl,hv3,hb2⟩
       have Hv3:=Lib.hid hv3;have Hv2':=Lib.hid (Hv2.out.later hb2);have Hb2:=Lib.hid (Hb1.out.trans (hb2.mono Hb1.out.size))
       clear hv3 hb2 Hv1 Hv2 Km Hb1
       have hw:wholeN (z*a) c k=n:=by
         rw[Hn.out]
         unfold tickN
         refine whole_ratio k Ho.out.1 (pw_pos _) ?_
         rw[Nat.mul_assoc,Ho.out.2.1,Nat.mul_comm z,Nat.mul_assoc,Nat.mul_assoc,Nat.mul_comm c]
       have Kw:=Lib.hid (fun v (h:IsN v v3 (z*a)) (h':IsN v v2 c)=>whole_any v3 v2 (z*a) c k v h h' Ho.out.1 (by
           have h1:=Ho.out.2.2.1
           exact mul_pw (show z<2^30 by omega) h1 (by decide)) (le_pw Ho.out.2.2.2 (by decide)) hk2)
       rw[hw]at Kw
       clear hw
       go_wp2_with fail
       refine(Kw.out _ Hv3.out Hv2'.out).mono ?_
       rintro e w3 ⟨x,rfl,hx,hb3⟩
       have Hb3:=Lib.hid (Hb2.out.trans (hb3.mono Hb2.out.size))
       clear hb3 Kw Hv3 Hv2' Hb2 Ho Hn Ko
       by_cases hm:n≤4611686018427387903
       · obtain⟨e1,e2⟩:=hSome.out hm
         have hxn:=hx hm
         subst hxn e1 e2
         rw[decide_eq_true hm]
         clear hx hm hSome hBig
         go_wp2
         go_ret2
         exact⟨rfl,Hb3.out⟩
       · obtain⟨e1,e2⟩:=hBig.out hm
         subst e1 e2
         rw[decide_eq_false hm]
         clear hx hm hSome hBig
         go_wp2
         go_ret2
         exact⟨rfl,Hb3.out⟩
end
section
open Go.RowKit
def PairRes (w:World) (a c:Nat) (e:Ending) (w':World):Prop:= ∃v1 v2,e= .returned (.tuple #[v1,v2])∧IsN w' v1 a∧IsN w' v2 c∧Below w.heap.size w w'
end
section
theorem V_dvd {s j:Nat} (h:(j+1)*4503599627370496≤s): ∃x,V s=x*2^j:=by
 obtain⟨E,k,rfl,hk,h'⟩:=rung_form s
 have hE:j≤E:=by omega
 refine⟨k*2^(E-j),?_⟩
 rw[V_at (by omega) h',Nat.mul_assoc,←Nat.pow_add,Nat.sub_add_cancel hE]
def stick (n d:Nat):Nat:=if 0<n%d∧n/d%2=0 then n/d+1 else n/d
theorem stick_le {n d m:Nat} (hd:0<d):2*m≤stick n d↔2*m*d≤n:=by
 rw[← Nat.le_div_iff_mul_le hd]
 unfold stick
 split<;>omega
theorem stick_eq {n d m:Nat} (hd:0<d):2*m=stick n d↔2*m*d=n:=by
 have h1:=Nat.div_add_mod n d
 have h2:=Nat.mod_lt n hd
 unfold stick
 split
 · rename_i h
   constructor
   · intro he;omega
   · intro he
     have:n%d=0:=by rw[← he];exact Nat.mul_mod_left _ _
     omega
 · rename_i h
   constructor
   · intro he
     have:n%d=0:=by omega
     rw[he,Nat.mul_comm];omega
   · intro he
     rw[← he,Nat.mul_div_cancel _ hd]
theorem stick_ge {n d m:Nat} (hd:0<d):stick n d≤2*m↔n≤2*m*d:=by
 have h1:= @stick_le n d m hd
 have h2:= @stick_eq n d m hd
 have h3:stick n d≤2*m↔2*m=stick n d∨ ¬2*m≤stick n d:=by omega
 have h4:n≤2*m*d↔2*m*d=n∨ ¬2*m*d≤n:=by omega
 rw[h3,h4,h1,h2]
theorem near_stick {n d R k:Nat} (hd:0<d) (hR:(k+2+1)*4503599627370496<R) (h:IsNear (stick n d*2^k) 1 R):IsNear (n*2^k) d R:=by
 obtain⟨x,hx⟩:=V_dvd (s:=R-1) (j:=k+2) (by omega)
 obtain⟨y,hy⟩:=V_dvd (s:=R) (j:=k+2) (by omega)
 obtain⟨z,hz⟩:=V_dvd (s:=R+1) (j:=k+2) (by omega)
 have hU:0<2^k:=Nat.two_pow_pos k
 have e4 (a b:Nat):a*2^(k+2)+b*2^(k+2)=2*(2*(a+b))*2^k:=by
   rw[← Nat.add_mul,Nat.pow_add,Nat.mul_comm (2^k),←Nat.mul_assoc]
   congr 1
   omega
 obtain⟨h1,h2,h3⟩:=h
 have c1 (m t:Nat):2*(2*m)*2^k≤2*(t*2^k)↔2*m≤t:=by
   rw[← Nat.mul_assoc 2 t,Nat.mul_le_mul_right_iff hU];omega
 have c2 (m t:Nat):2*(2*m)*2^k=2*(t*2^k)↔2*m=t:=by
   rw[← Nat.mul_assoc 2 t]
   exact⟨fun h=>by have:=Nat.mul_right_cancel hU h;omega,fun h=>by rw[show 2*(2*m)=2*t by omega]⟩
 have c3 (m t:Nat):2*(t*2^k)≤2*(2*m)*2^k↔t≤2*m:=by
   rw[← Nat.mul_assoc 2 t,Nat.mul_le_mul_right_iff hU];omega
 have d1 (m:Nat):2*(2*m)*2^k*d=2*(2*m*d)*2^k:=by
   rw[Nat.mul_assoc,Nat.mul_comm (2^k),←Nat.mul_assoc,Nat.mul_assoc 2 (2*m) d]
 have c4 (m t:Nat):2*t*2^k≤2*(m*2^k)↔t≤m:=by
   rw[← Nat.mul_assoc 2 m,Nat.mul_le_mul_right_iff hU];omega
 have c5 (m t:Nat):2*t*2^k=2*(m*2^k)↔t=m:=by
   rw[← Nat.mul_assoc 2 m]
   exact⟨fun h=>by have:=Nat.mul_right_cancel hU h;omega,fun h=>by rw[h]⟩
 have c6 (m t:Nat):2*(m*2^k)≤2*t*2^k↔m≤t:=by
   rw[← Nat.mul_assoc 2 m,Nat.mul_le_mul_right_iff hU];omega
 refine⟨fun s hs=> ?_,?_,?_⟩
 · obtain⟨g1,g2⟩:=h1 s hs
   obtain rfl:s=R-1:=by omega
   rw[hx,hy,e4,Nat.mul_one]at g1 g2
   rw[hx,hy,e4,d1]
   rw[c1]at g1
   rw[c2]at g2
   rw[c4,c5]
   exact⟨(stick_le hd).1 g1,fun he=>g2 ((stick_eq hd).2 he)⟩
 · rw[hy,hz,e4,Nat.mul_one,c3]at h2
   rw[hy,hz,e4,d1,c6]
   exact(stick_ge hd).1 h2
 · rw[hy,hz,e4,Nat.mul_one,eq_comm,c2]at h3
   rw[hy,hz,e4,d1,eq_comm,c5]
   exact fun he=>h3 ((stick_eq hd).2 he)
theorem xor_top {r:Nat} (h:r<9223372036854775808):r ^^^ 9223372036854775808=9223372036854775808+r:=by
 have h1:9223372036854775808 ||| r=9223372036854775808+r:=nat_join 63 9223372036854775808 r (by decide) (by rw[show (2:Nat)^63=9223372036854775808 from by decide];exact h)
 rw[← h1,Nat.or_comm,show(9223372036854775808:Nat)=2^63 from by decide]
 have h2:r<2^63:=by rw[show (2:Nat)^63=9223372036854775808 from by decide];exact h
 apply Nat.eq_of_testBit_eq
 intro i
 rw[Nat.testBit_xor,Nat.testBit_or,Nat.testBit_two_pow]
 by_cases hi:63=i
 · subst hi
   rw[Nat.testBit_lt_two_pow h2];rfl
 · simp [hi]
theorem neg_word (s:Bool) {r:Nat} (h:r<9223372036854775808):Op.negFloat .f64 (mkW s r)=mkW (!s) r:=by
 have e:Op.negFloat .f64 (mkW s r)=mkW s r ^^^ 9223372036854775808:=rfl
 rw[e]
 cases s
 · show r ^^^ 9223372036854775808=_
   rw[xor_top h];rfl
 · show(9223372036854775808+r) ^^^ 9223372036854775808=r
   rw[← xor_top h,Nat.xor_assoc,Nat.xor_self,Nat.xor_zero]
theorem neg_unary {r:Nat} (h:r<9223372036854775808):Op.unary .neg (.float .f64 r)=pure (.float .f64 (mkW true r)):=by
 have h1:=neg_word false h
 have e:Op.unary .neg (.float .f64 r)=pure (.float .f64 (Op.negFloat .f64 (mkW false r))):=rfl
 rw[e,h1]
 rfl
end
end Go.Proofs.YtemnhpdjoimjbaaGreatDoor
