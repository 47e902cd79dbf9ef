import Derived.Test.YtemnhpdjoimjbaaGreatDoorTw45
import Derived.Lib.TrailingZeros
import Derived.Deep.QuietTactic
import Derived.BigQuiet
import Derived.IntWalk
namespace Go.Proofs.YtemnhpdjoimjbaaGreatDoor
section
open Go.RowKit
theorem sign_bits (b:Nat) (hb:b<18446744073709551616):bits .and .u64 (b:Int) 9223372036854775808=((if sgn b then 9223372036854775808 else 0:Nat):Int):=by
 have h:=u64_and_nat b 9223372036854775808 hb (by decide)
 have e:b &&& 9223372036854775808=if sgn b then 9223372036854775808 else 0:=by
   rw[show (9223372036854775808:Nat)=2^63 from by decide,nat_bit 63 b]
   unfold sgn
   by_cases h:9223372036854775808≤b
   · rw[decide_eq_true h,show b/2^63%2=1 from by rw[show (2:Nat)^63=9223372036854775808 from by decide];omega];rfl
   · rw[decide_eq_false h,show b/2^63%2=0 from by rw[show (2:Nat)^63=9223372036854775808 from by decide];omega];rfl
 rw[e]at h
 exact h
theorem put_sign (s:Bool) {r:Nat} (hr:r<9223372036854775808):bits .or .u64 (r:Int) ((if s then 9223372036854775808 else 0:Nat):Int)=((mkW s r:Nat):Int):=by
 have h2:=u64_or_nat r (if s then 9223372036854775808 else 0) (by omega) (by split<;>omega)
 have e:r ||| (if s then 9223372036854775808 else 0)=mkW s r:=by
   unfold mkW
   cases s
   · simp
   · rw[Nat.or_comm]
     exact nat_join 63 9223372036854775808 r (by decide) (by rw[show (2:Nat)^63=9223372036854775808 from by decide];exact hr)
 rw[e]at h2
 exact h2
theorem copysign_any (f s:Nat) (w:World) (hf:f<18446744073709551616) (hs:s<18446744073709551616):
   Calls Tryz.prog 109 #[.float .f64 f,.float .f64 s] w fun e w'=>e= .returned (.float .f64 (mkW (sgn s) (rg f)))∧w=w':=by
 have h1:=ext_bits f w
 have h2:=ext_bits s w
 have h3:=abs_bits f hf
 have h4:=sign_bits s hs
 have h5:=put_sign (sgn s) (rg_lt f)
 have h6:=ext_from ((mkW (sgn s) (rg f):Nat):Int) w
 rw[Int.toNat_natCast]at h6
 generalize ((if sgn s then 9223372036854775808 else 0:Nat):Int)=sg at*
 go_enter Tryz.func109,Tryz.ntmps109
 go_wp2
 go_ret
 exact⟨rfl,rfl⟩
theorem inf1_any (w:World):Calls Tryz.prog 110 #[.int .i64 1] w fun e w'=>e= .returned (.float .f64 9218868437227405312)∧w=w':=by
 have h6:=ext_from 9218868437227405312 w
 rw[show (9218868437227405312:Int).toNat=9218868437227405312 from rfl]at h6
 go_enter Tryz.func110,Tryz.ntmps110
 go_wp2
 go_ret
 exact⟨rfl,rfl⟩
theorem ldexp_one {E F:Nat} (hE:0<E) (hE2:E≤2046) (hF:F<4503599627370496):floatBits .mul .f64 4607182418800017408 (E*4503599627370496+F)=some (E*4503599627370496+F):=by
 have r1:Ieee.double.read 4607182418800017408= .number false 4503599627370496 ((1022:Nat)-1074):=by decide
 have r2:Ieee.double.read (E*4503599627370496+F)= .number false (4503599627370496+F) (((E-1:Nat):Int)-1074):=by
   rw[read_norm (by omega) (by rw[rg_pos (by omega)];omega) (by rw[rg_pos (by omega)];omega),rg_pos (by omega),sgn_pos (by omega)]
   rw[show (E*4503599627370496+F)%4503599627370496=F by omega,show(E*4503599627370496+F)/4503599627370496=E by omega]
 rw[mul_words r1 r2]
 obtain⟨r,hr,he⟩:=nearest_is false (4503599627370496*(4503599627370496+F)) (E-1) 52 (Nat.mul_pos (by decide) (by omega))
 have e:r=E*4503599627370496+F:=near_of_exact (by decide) hr (by
   rw[show E*4503599627370496+F=(E-1)*4503599627370496+(4503599627370496+F)by omega,V_at (by omega) (Or.inr (by omega))]
   rw[show (2:Nat)^52=4503599627370496 from by decide,Nat.mul_comm _ 4503599627370496,Nat.mul_assoc])
 rw[e,word_mkW,show min (E*4503599627370496+F) 9218868437227405312=E*4503599627370496+F by omega]at he
 rw[show ((1022:Nat):Int)-1074+(((E-1:Nat):Int)-1074)=((E-1:Nat):Int)-((52:Nat):Int)-1074 by omega]
 exact congrArg some he
theorem ldexp_low {E F:Nat} (hE:0<E) (hE2:E≤2046) (hF:F<4503599627370496):
   ∃r,floatBits .mul .f64 4368491638549381120 (E*4503599627370496+F)=some (min r 9218868437227405312)∧IsNear ((4503599627370496+F)*2^(E-1)) (2^53) r:=by
 have r1:Ieee.double.read 4368491638549381120= .number false 4503599627370496 ((969:Nat)-1074):=by decide
 have r2:Ieee.double.read (E*4503599627370496+F)= .number false (4503599627370496+F) (((E-1:Nat):Int)-1074):=by
   rw[read_norm (by omega) (by rw[rg_pos (by omega)];omega) (by rw[rg_pos (by omega)];omega),rg_pos (by omega),sgn_pos (by omega)]
   rw[show (E*4503599627370496+F)%4503599627370496=F by omega,show(E*4503599627370496+F)/4503599627370496=E by omega]
 rw[mul_words r1 r2]
 obtain⟨r,hr,he⟩:=nearest_is false (4503599627370496*(4503599627370496+F)) (E-1) 105 (Nat.mul_pos (by decide) (by omega))
 refine⟨r,?_,?_⟩
 · rw[word_mkW]at he
   rw[show ((969:Nat):Int)-1074+(((E-1:Nat):Int)-1074)=((E-1:Nat):Int)-((105:Nat):Int)-1074 by omega]
   exact congrArg some he
 · rw[Nat.mul_assoc,Nat.mul_comm 4503599627370496,show(2:Nat)^105=2^53*4503599627370496 from by decide]at hr
   exact(near_scale 4503599627370496 (by decide)).1 hr
theorem exp_bits_i {E:Nat} (h:E≤2047):bits .and .i64 (E:Int) 2047=(E:Int):=by
 have h127:(BitVec.ofInt 64 2047).toNat=2^11-1:=by decide
 have key:(BitVec.ofInt 64 (E:Int) &&& BitVec.ofInt 64 2047).toNat=((E:Int)%((2^64:Nat):Int)).toNat%2^11:=by
   rw[BitVec.toNat_and,BitVec.toNat_ofInt,h127,Nat.and_two_pow_sub_one_eq_mod]
 show IntKind.i64.wrap ((BitVec.ofInt 64 (E:Int) &&& BitVec.ofInt 64 2047).toNat:Nat)=(E:Int)
 rw[key,IntKind.wrap_i64]
 omega
theorem ext_from_eq (n:Int) (m:Nat) (h:n=(m:Int)) (w:World):(callFunc 111 #[.int .u64 n]).run Tryz.prog w= .ok (.value (.float .f64 m)) w:=by
 subst h
 exact ext_from m w
def LdexpRes (b:Nat) (a c:Nat) (w:World) (e:Ending) (w':World):Prop:=
 ∃r,e= .returned (.float .f64 (min r 9218868437227405312))∧IsNear (V b*2^a) (2^c) r∧w=w'
theorem near_ratio {p q p' q' r:Nat} (hq:0<q) (hq':0<q') (h:IsNear p q r) (he:p*q'=p'*q):IsNear p' q' r:=by
 have h1:=(near_scale q' hq').2 h
 rw[he,Nat.mul_comm q q']at h1
 exact(near_scale q hq).1 h1
theorem ldexp_scale {x M N a c E k d:Nat} (hv:x*2^N=M*2^E) (h:k+c+N=a+E+d):M*2^k*2^c=x*2^a*2^d:=by
 apply Nat.mul_right_cancel (Nat.two_pow_pos N)
 have e1:M*2^k*2^c*2^N=M*2^(k+c+N):=by rw[Nat.mul_assoc,Nat.mul_assoc,←Nat.mul_assoc (2^k),←Nat.pow_add,←Nat.pow_add]
 have e2:x*2^a*2^d*2^N=x*2^N*2^(a+d):=by
   rw[Nat.pow_add,Nat.mul_assoc x (2^N),Nat.mul_assoc,Nat.mul_assoc]
   congr 1
   rw[Nat.mul_comm (2^N),Nat.mul_assoc]
 rw[e1,e2,hv,Nat.mul_assoc,←Nat.pow_add,h,show a+E+d=E+(a+d)by omega]
theorem ldexp_zero {x M N a c E:Nat} (hv:x*2^N=M*2^E) (hM:M<9007199254740992) (h:a+E+54≤c+N):IsNear (x*2^a) (2^c) 0:=by
 refine⟨fun s hs=>by omega,?_,fun _=>rfl⟩
 have e0:V 0+V (0+1)=1:=by decide
 rw[e0,Nat.one_mul]
 refine Nat.le_of_mul_le_mul_right ?_ (Nat.two_pow_pos N)
 have e1:2*(x*2^a)*2^N=2*M*2^(a+E):=by
   rw[Nat.mul_assoc,Nat.mul_assoc x,Nat.mul_comm (2^a),←Nat.mul_assoc x,hv,Nat.mul_assoc M,←Nat.pow_add,Nat.add_comm E a,Nat.mul_assoc]
 have e2 : 2 * M * 2 ^ (a + E) ≤ 2 ^ 54 * 2 ^ (a + E) := Nat.mul_le_mul_right _ (by have : (2 : Nat) ^ 54 = 18014398509481984 := by decide
                                                                                    omega)
 rw[e1]
 refine Nat.le_trans e2 ?_
 rw[← Nat.pow_add,←Nat.pow_add]
 exact Nat.pow_le_pow_right (by decide) (by omega)
set_option maxHeartbeats 4000000 in
set_option maxRecDepth 100000 in
theorem ldexp_in (b a c:Nat) (p:Int) (w:World) (h0:0<b) (h1:b<9218868437227405312) (hp:p=(a:Int)-(c:Int)) (hp1: -1000000≤p) (hp2:p≤1000000):
   Calls Tryz.prog 70 #[.float .f64 b,.int .i64 p] w (LdexpRes b a c w):=by
 obtain⟨f1,f2,f3,f4⟩:=nR_facts h0 h1
 have Hp:=Lib.hid hp
 clear hp
 have Kn:=Lib.hid (fun v=>normalize_any b v h0 h1)
 have Ki:=Lib.hid (fun v=>isinf0_any b v (by omega))
 have Ka:=Lib.hid (fun v=>isnan_any b v (by omega))
 have hr:rg b=b:=rg_pos (by omega)
 rw[hr,decide_eq_false (show ¬b=9218868437227405312 by omega)]at Ki
 rw[hr,decide_eq_false (show ¬9218868437227405312<b by omega)]at Ka
 have ho:(FloatKind.f64.format.order b 0==some .eq)=false:=by
   rw[ord_eq (by omega) (by decide)]
   unfold keyW
   rw[hr,sgn_pos (show b<9223372036854775808 by omega),rg_pos (show (0:Nat)<9223372036854775808 by decide),sgn_pos (show (0:Nat)<9223372036854775808 by decide)]
   simp;omega
 have hx:((nR b:Nat):Int)/4503599627370496=((nR b/4503599627370496:Nat):Int):=by omega
 have hf:=frac_bits (R:=nR b) (by omega)
 have hb:=ext_bits (nR b) w
 have he:nR b/4503599627370496≤2046:=by omega
 have he1:0<nR b/4503599627370496:=by omega
 have hV:nR b=nR b/4503599627370496*4503599627370496+nR b%4503599627370496:=by omega
 have hei:=exp_bits_i (E:=nR b/4503599627370496) (by omega)
 generalize hE:nR b/4503599627370496=E at*
 generalize hF:nR b%4503599627370496=F at*
 have hFl:F<4503599627370496:=by omega
 have HV:Hid (V b*2^nE b=(4503599627370496+F)*2^(E-1)):=Lib.hid (by
   rw[← f3,hV,show E*4503599627370496+F=(E-1)*4503599627370496+(4503599627370496+F)by omega,V_at (by omega) (Or.inr (by omega))])
 generalize hN:nE b=N at*
 have hrr:(FloatKind.f64.format.order (nR b) 0==some .lt)=false:=by
   rw[ord_lt (by omega) (by decide)]
   unfold keyW
   rw[rg_pos (show nR b<9223372036854775808 by omega),sgn_pos (show nR b<9223372036854775808 by omega),rg_pos (show (0:Nat)<9223372036854775808 by decide),sgn_pos (show (0:Nat)<9223372036854775808 by decide)]
   simp
 generalize nR b=R at*
 clear hE hF hN h0 h1 hr f3 hV
 have Kc:=Lib.hid (fun v=>copysign_any 0 R v (by decide) (by omega))
 rw[sgn_pos (show R<9223372036854775808 by omega),show rg 0=0 from rfl,show mkW false 0=0 from rfl]at Kc
 unfold LdexpRes
 by_cases c1:p+ -(N:Int)+((E:Int)-1023)< -1075
 · have Hz:Hid (IsNear (V b*2^a) (2^c) 0):=Lib.hid (ldexp_zero HV.out (by omega) (by have:=Hp.out;omega))
   go_enter Tryz.func70,Tryz.ntmps70
   go_wp2_with (first|(go_at_call 72;(with_reducible refine(Ki.out _).mono ?_);rintro e w' ⟨rfl,rfl⟩)|(go_at_call 73;(with_reducible refine(Ka.out _).mono ?_);rintro e w' ⟨rfl,rfl⟩)|(go_at_call 107;(with_reducible refine(Kn.out _).mono ?_);rintro e w' ⟨rfl,rfl⟩)|(go_at_call 109;(with_reducible refine(Kc.out _).mono ?_);rintro e w' ⟨rfl,rfl⟩)|(go_at_call 110;(with_reducible refine(inf1_any _).mono ?_);rintro e w' ⟨rfl,rfl⟩))
   go_ret
   exact⟨0,rfl,Hz.out,rfl⟩
 · by_cases c2:1023<p+ -(N:Int)+((E:Int)-1023)
   · obtain⟨k,hk⟩: ∃k:Nat,p+ -(N:Int)+((E:Int)-1023)+1023=(k:Int):=⟨_,(Int.toNat_of_nonneg (by omega)).symm⟩
     have Hz:Hid (IsNear (V b*2^a) (2^c) (k*4503599627370496+F)):=Lib.hid (near_exact (Nat.two_pow_pos _) (by
       have h:=ldexp_scale (a:=a) (c:=c) (k:=k-1) (d:=0) HV.out (by have:=Hp.out;omega)
       rw[show k*4503599627370496+F=(k-1)*4503599627370496+(4503599627370496+F)by omega,V_at (by omega) (Or.inr (by omega)),h]
       simp))
     have Hm:Hid (min (k*4503599627370496+F) 9218868437227405312=9218868437227405312):=Lib.hid (by omega)
     clear hk
     go_enter Tryz.func70,Tryz.ntmps70
     go_wp2_with (first|(go_at_call 72;(with_reducible refine(Ki.out _).mono ?_);rintro e w' ⟨rfl,rfl⟩)|(go_at_call 73;(with_reducible refine(Ka.out _).mono ?_);rintro e w' ⟨rfl,rfl⟩)|(go_at_call 107;(with_reducible refine(Kn.out _).mono ?_);rintro e w' ⟨rfl,rfl⟩)|(go_at_call 109;(with_reducible refine(Kc.out _).mono ?_);rintro e w' ⟨rfl,rfl⟩)|(go_at_call 110;(with_reducible refine(inf1_any _).mono ?_);rintro e w' ⟨rfl,rfl⟩))
     go_ret
     exact⟨k*4503599627370496+F,by rw[Hm.out];rfl,Hz.out,rfl⟩
   · by_cases c3:p+ -(N:Int)+((E:Int)-1023)< -1022
     · obtain⟨k,hk⟩: ∃k:Nat,p+ -(N:Int)+((E:Int)-1023)+53+1023=(k:Int):=⟨_,(Int.toNat_of_nonneg (by omega)).symm⟩
       have hk1:0<k:=by omega
       have hk2:k≤2046:=by omega
       obtain⟨r,hr1,hr2⟩:=ldexp_low hk1 hk2 hFl
       have Hz:Hid (IsNear (V b*2^a) (2^c) r):=Lib.hid (near_ratio (Nat.two_pow_pos _) (Nat.two_pow_pos _) hr2 (ldexp_scale (a:=a) (c:=c) (k:=k-1) (d:=53) HV.out (by have:=Hp.out;omega)))
       have hj:=put_exp hFl (show k<4096 by omega)
       have hfr:=ext_from_eq ((k:Int)*4503599627370496+(F:Int)) (k*4503599627370496+F) (by omega) w
       have hm:=run_float_arith (P:=Tryz.prog) w .mul 48 .f64 4368491638549381120 (k*4503599627370496+F) _ hr1
       have hj2:bits .or .u64 (F:Int) ((k:Int)*4503599627370496)=(k:Int)*4503599627370496+(F:Int):=by
         rw[show (k:Int)*4503599627370496+(F:Int)=((k*4503599627370496+F:Nat):Int)by omega,←hj];rfl
       clear hj hr1 hr2 HV
       go_enter Tryz.func70,Tryz.ntmps70
       go_wp2_with (first|(go_at_call 72;(with_reducible refine(Ki.out _).mono ?_);rintro e w' ⟨rfl,rfl⟩)|(go_at_call 73;(with_reducible refine(Ka.out _).mono ?_);rintro e w' ⟨rfl,rfl⟩)|(go_at_call 107;(with_reducible refine(Kn.out _).mono ?_);rintro e w' ⟨rfl,rfl⟩)|(go_at_call 109;(with_reducible refine(Kc.out _).mono ?_);rintro e w' ⟨rfl,rfl⟩)|(go_at_call 110;(with_reducible refine(inf1_any _).mono ?_);rintro e w' ⟨rfl,rfl⟩))
       go_ret
       exact⟨r,rfl,Hz.out,rfl⟩
     · obtain⟨k,hk⟩: ∃k:Nat,p+ -(N:Int)+((E:Int)-1023)+1023=(k:Int):=⟨_,(Int.toNat_of_nonneg (by omega)).symm⟩
       have hk1:0<k:=by omega
       have hk2:k≤2046:=by omega
       have Hz:Hid (IsNear (V b*2^a) (2^c) (k*4503599627370496+F)):=Lib.hid (near_exact (Nat.two_pow_pos _) (by
         have h:=ldexp_scale (a:=a) (c:=c) (k:=k-1) (d:=0) HV.out (by have:=Hp.out;omega)
         rw[show k*4503599627370496+F=(k-1)*4503599627370496+(4503599627370496+F)by omega,V_at (by omega) (Or.inr (by omega)),h]
         simp))
       have Hmin:Hid (min (k*4503599627370496+F) 9218868437227405312=k*4503599627370496+F):=Lib.hid (by omega)
       have hj:=put_exp hFl (show k<4096 by omega)
       have hfr:=ext_from_eq ((k:Int)*4503599627370496+(F:Int)) (k*4503599627370496+F) (by omega) w
       have hm:=run_float_arith (P:=Tryz.prog) w .mul 48 .f64 4607182418800017408 (k*4503599627370496+F) _ (ldexp_one hk1 hk2 hFl)
       have hj2:bits .or .u64 (F:Int) ((k:Int)*4503599627370496)=(k:Int)*4503599627370496+(F:Int):=by
         rw[show (k:Int)*4503599627370496+(F:Int)=((k*4503599627370496+F:Nat):Int)by omega,←hj];rfl
       clear hj HV
       go_enter Tryz.func70,Tryz.ntmps70
       go_wp2_with (first|(go_at_call 72;(with_reducible refine(Ki.out _).mono ?_);rintro e w' ⟨rfl,rfl⟩)|(go_at_call 73;(with_reducible refine(Ka.out _).mono ?_);rintro e w' ⟨rfl,rfl⟩)|(go_at_call 107;(with_reducible refine(Kn.out _).mono ?_);rintro e w' ⟨rfl,rfl⟩)|(go_at_call 109;(with_reducible refine(Kc.out _).mono ?_);rintro e w' ⟨rfl,rfl⟩)|(go_at_call 110;(with_reducible refine(inf1_any _).mono ?_);rintro e w' ⟨rfl,rfl⟩))
       go_ret
       exact⟨k*4503599627370496+F,by rw[Hmin.out];rfl,Hz.out,rfl⟩
theorem ldexp_any (b a c:Nat) (p:Int) (w:World) (h0:0<b) (h1:b<9218868437227405312) (hp:p=(a:Int)-(c:Int)) (hp1: -1000000≤p) (hp2:p≤1000000):
   Calls Tryz.prog 49 #[.float .f64 b,.int .i64 p] w (LdexpRes b a c w):=by
 have K:=Lib.hid (fun v=>ldexp_in b a c p v h0 h1 hp hp1 hp2)
 clear h0 h1 hp
 go_enter Tryz.func49,Tryz.ntmps49
 go_wp2_with (go_at_call 70;(with_reducible refine(K.out _).mono ?_))
 rintro e w' ⟨r,rfl,hr,rfl⟩
 have Hr:=Lib.hid hr
 clear hr
 go_wp2
 go_ret
 exact⟨r,rfl,Hr.out,rfl⟩
end
section
open Go.RowKit
def kindN (r:Nat):Nat:=if r=0 then 0 else if r<4503599627370496 then 1 else if r<9218868437227405312 then 2 else if r=9218868437227405312 then 3 else 4
def finE (r:Nat):Nat:=if 9218868437227405312<r then 4 else if r=9218868437227405312 then 5 else 0
theorem kind_cases (r:Nat):(r=0∧kindN r=0)∨(0<r∧r<4503599627370496∧kindN r=1)∨(4503599627370496≤r∧r<9218868437227405312∧kindN r=2)∨(r=9218868437227405312∧kindN r=3)∨(9218868437227405312<r∧kindN r=4):=by
 unfold kindN
 repeat' split
 all_goals omega
theorem ford_zero (r:Nat) (h:r<9223372036854775808):(FloatKind.f64.format.order r 0==some .eq)=decide (r=0):=by
 rw[ord_eq (by omega) (by decide)]
 unfold okW keyW
 rw[rg_pos h,sgn_pos h,rg_pos (show (0:Nat)<9223372036854775808 by decide),sgn_pos (show (0:Nat)<9223372036854775808 by decide)]
 by_cases h1:r=0
 · simp [h1]
 · simp [h1]
theorem ford_min (r:Nat) (h:r<9223372036854775808):(FloatKind.f64.format.order r 4503599627370496==some .lt)=decide (r<4503599627370496):=by
 rw[ord_lt (by omega) (by decide)]
 unfold okW keyW
 rw[rg_pos h,sgn_pos h,rg_pos (show (4503599627370496:Nat)<9223372036854775808 by decide),sgn_pos (show (4503599627370496:Nat)<9223372036854775808 by decide)]
 by_cases h1:r<4503599627370496
 · simp [h1];omega
 · simp [h1];omega
set_option maxHeartbeats 1000000 in
theorem fkind_any (b:Nat) (w:World) (hb:b<18446744073709551616):
   Calls Tryz.prog 50 #[.float .f64 b] w fun e w'=>e= .returned (.int .i64 (kindN (rg b)))∧w=w':=by
 have Ka:=Lib.hid (fun v=>abs_any b v hb)
 have hl:=rg_lt b
 have Ki:=Lib.hid (fun v=>isinf1_any (rg b) v hl)
 have Kn:=Lib.hid (fun v=>isnan_any (rg b) v (by omega))
 have h0:=ford_zero (rg b) hl
 have h1:=ford_min (rg b) hl
 rw[rg_pos hl]at Kn
 have hc:=kind_cases (rg b)
 generalize rg b=r at*
 clear hl
 rcases hc with ⟨hr,hk⟩|⟨hr,hr2,hk⟩|⟨hr,hr2,hk⟩|⟨hr,hk⟩|⟨hr,hk⟩
 · rw[hk];rw[decide_eq_true hr]at h0
   clear hk hr h1
   go_enter Tryz.func50,Tryz.ntmps50
   go_wp2_with (go_at_call 71;(with_reducible refine(Ka.out _).mono ?_);rintro e w' ⟨rfl,rfl⟩)
   go_ret
   exact⟨rfl,rfl⟩
 · rw[hk];rw[decide_eq_false (by omega)]at h0;rw[decide_eq_true hr2]at h1
   clear hk hr hr2
   go_enter Tryz.func50,Tryz.ntmps50
   go_wp2_with (go_at_call 71;(with_reducible refine(Ka.out _).mono ?_);rintro e w' ⟨rfl,rfl⟩)
   go_ret
   exact⟨rfl,rfl⟩
 all_goals
   rw[hk];rw[decide_eq_false (by omega)]at h0;rw[decide_eq_false (by omega)]at h1
   first|rw[decide_eq_true hr]at Ki|rw[decide_eq_false (by omega)]at Ki
   first|rw[decide_eq_true hr]at Kn|rw[decide_eq_false (by omega)]at Kn
   clear hk hr
   go_enter Tryz.func50,Tryz.ntmps50
   go_wp2_with (first|(go_at_call 71;(with_reducible refine(Ka.out _).mono ?_);rintro e w' ⟨rfl,rfl⟩)|(go_at_call 72;(with_reducible refine(Ki.out _).mono ?_);rintro e w' ⟨rfl,rfl⟩)|(go_at_call 73;(with_reducible refine(Kn.out _).mono ?_);rintro e w' ⟨rfl,rfl⟩))
   go_ret
   exact⟨rfl,rfl⟩
theorem minus_real (b:Nat) (w:World) (hb:b<18446744073709551616):
   Calls Tryz.prog 74 #[.float .f64 b] w fun e w'=>e= .returned (.bool (sgn b))∧w=w':=by
 have K:=Lib.hid (fun v=>signbit_any b v hb)
 go_enter Tryz.func74,Tryz.ntmps74
 go_wp2_with (go_at_call 112;(with_reducible refine(K.out _).mono ?_);rintro e w' ⟨rfl,rfl⟩)
 go_ret
 exact⟨rfl,rfl⟩
theorem finE_kind (r:Nat):(kindN r=4∧finE r=4)∨(kindN r=3∧finE r=5)∨(kindN r<3∧finE r=0):=by
 unfold kindN finE
 repeat' split
 all_goals omega
theorem finite_any (b:Nat) (w:World) (hb:b<18446744073709551616):
   Calls Tryz.prog 26 #[.float .f64 b] w fun e w'=>e= .returned (.int .i64 (finE (rg b)))∧w=w':=by
 have K:=Lib.hid (fun v=>fkind_any b v hb)
 have hc:=finE_kind (rg b)
 generalize kindN (rg b)=k at*
 generalize finE (rg b)=f at*
 rcases hc with ⟨rfl,rfl⟩|⟨rfl,rfl⟩|⟨hk,rfl⟩
 · go_enter Tryz.func26,Tryz.ntmps26
   go_wp2_with (go_at_call 50;(with_reducible refine(K.out _).mono ?_);rintro e w' ⟨rfl,rfl⟩)
   go_ret
   exact⟨rfl,rfl⟩
 · go_enter Tryz.func26,Tryz.ntmps26
   go_wp2_with (go_at_call 50;(with_reducible refine(K.out _).mono ?_);rintro e w' ⟨rfl,rfl⟩)
   go_ret
   exact⟨rfl,rfl⟩
 · have h4:((k:Int)==4)=false:=by simp;omega
   have h3:((k:Int)==3)=false:=by simp;omega
   clear hk
   go_enter Tryz.func26,Tryz.ntmps26
   go_wp2_with (go_at_call 50;(with_reducible refine(K.out _).mono ?_);rintro e w' ⟨rfl,rfl⟩)
   go_ret
   exact⟨rfl,rfl⟩
def numM (r:Nat):Nat:=if r<4503599627370496 then r else r%4503599627370496+4503599627370496
def numE (r:Nat):Nat:=r/4503599627370496-1
theorem num_val {r:Nat}:numM r*2^numE r=V r:=by
 unfold numM numE V
 by_cases h:r<4503599627370496
 · rw[if_pos h,if_pos h,show r/4503599627370496-1=0 by omega];simp
 · rw[if_neg h,if_neg h,Nat.add_comm]
end
section
open Go.RowKit
def Tab (w:World):Prop:= ∀j,j<Lib.deBruijn64tab.length→w.cell? ⟨1,j,none⟩=some (.int .u8 (Lib.deBruijn64tab.getD j 0:Nat))
theorem Tab.later {w w':World} (h:Tab w) (hb:Below w.heap.size w w'):Tab w':=fun j hj=>cell_later hb (h j hj)
theorem Tab.drewN {w:World} (h:Tab w) (n:Nat):Tab (w.drewN n):=fun j hj=>by rw[World.cell?_drewN];exact h j hj
theorem tz_key (x a:Nat) (hx:x<18446744073709551616) (hx0:x≠0) (hlow:x &&& (18446744073709551616-x)=a):
   IntKind.u64.wrap (bits BinOp.and IntKind.u64 (x:Int) (IntKind.u64.wrap (-(x:Int)))*285870213051353865)/288230376151711744=((a*285870213051353865%18446744073709551616/288230376151711744:Nat):Int):=by
 have e1:IntKind.u64.wrap (-(x:Int))=((18446744073709551616-x:Nat):Int):=by rw[IntKind.wrap_u64];omega
 rw[e1,u64_and_nat x _ hx (by omega),hlow,IntKind.wrap_u64]
 omega
set_option maxHeartbeats 1000000 in
theorem tz_core (x k idx:Nat) (w:World) (hx0:((x:Int)==0)=false)
   (key:IntKind.u64.wrap (bits BinOp.and IntKind.u64 (x:Int) (IntKind.u64.wrap (-(x:Int)))*285870213051353865)/288230376151711744=(idx:Int))
   (hi:idx<64) (hk:k<64) (hcell:w.cell? ⟨1,idx,none⟩=some (.int .u8 k)):
   Calls Tryz.prog 76 #[.int .u64 x] w fun e w'=>e= .returned (.int .i64 k)∧w=w':=by
 go_enter Tryz.func76,Tryz.ntmps76
 go_wp2_with (simp only[key])
 go_ret
 exact⟨rfl,rfl⟩
theorem tz_any (x:Nat) (w:World) (hx:x<18446744073709551616) (hx0:x≠0) (hT:Tab w):
   Calls Tryz.prog 76 #[.int .u64 x] w fun e w'=>e= .returned (.int .i64 (Lib.ctz 64 x))∧w=w':=by
 obtain⟨hlow,hk⟩:=Lib.lowest_bit 64 x hx0 hx
 obtain⟨hi,htab⟩:=Lib.deBruijn64_at _ hk
 have hcell:=hT _ hi
 rw[htab]at hcell
 exact tz_core x _ _ w (by simp;omega) (tz_key x _ hx hx0 hlow) hi hk hcell
theorem odd_unique {o p:Nat} (ho:o%2=1) (hp:p%2=1): ∀i j:Nat,o*2^i=p*2^j→o=p∧i=j
 |0,0,h=>⟨by simpa using h,rfl⟩
 |0,j+1,h=>by rw[Nat.pow_succ,←Nat.mul_assoc]at h;simp at h;omega
 |i+1,0,h=>by rw[Nat.pow_succ,←Nat.mul_assoc]at h;simp at h;omega
 | i + 1, j + 1, h => by
   rw[Nat.pow_succ,Nat.pow_succ,←Nat.mul_assoc,←Nat.mul_assoc]at h
   obtain⟨h1,h2⟩:=odd_unique ho hp i j (by omega)
   exact⟨h1,by omega⟩
theorem ctz_spec (x:Nat) (hx0:x≠0) (hx:x<18446744073709551616): ∃m,x=2^Lib.ctz 64 x*(2*m+1)∧Lib.ctz 64 x<64:=by
 have:=Lib.ctzFrom_spec 64 x (by omega) (by rw[show (2:Nat)^64=18446744073709551616 from by decide];exact hx)
 have e:Lib.ctz 64 x=Lib.ctzFrom 64 x:=by simp [Lib.ctz,hx0]
 rw[e];exact this
theorem quiet_same {P:Program} {f:FuncId} {args:Array Value} {w:World} {n:Nat} {v:Value}
   (h:Calls P f args (w.drewN n) fun e w'=>e= .returned v∧w.drewN n=w'):Calls P f args (w.drewN n) fun e w''=>e= .returned v∧ ∃m,w''=w.drewN m:=
 h.mono fun _ _ ⟨he,hm⟩=>⟨he,n,hm.symm⟩
theorem toInt_whole {F:Nat} (hF:F<4503599627370496):floatToIntVal .f64 (1075*4503599627370496+F) .u64=some ((4503599627370496+F:Nat):Int):=by
 have hr:=read_norm (b:=1075*4503599627370496+F) (by omega) (by rw[rg_pos (by omega)];omega) (by rw[rg_pos (by omega)];omega)
 rw[rg_pos (by omega),sgn_pos (by omega),show(1075*4503599627370496+F)%4503599627370496=F by omega,show(1075*4503599627370496+F)/4503599627370496-1=1074 by omega]at hr
 unfold floatToIntVal
 have hd:FloatKind.f64.decode (1075*4503599627370496+F)= .number false (4503599627370496+F) 0:=hr
 rw[hd]
 have ht:(Ieee.Datum.number false (4503599627370496+F) 0).toInt .zero=some ((4503599627370496+F:Nat):Int):=by
   unfold Ieee.Datum.toInt Ieee.Datum.integral Ieee.Toward.cut
   simp [Ieee.signed]
 rw[ht]
 have e1:IntKind.u64.min=0:=by decide
 have e2:IntKind.u64.max=18446744073709551615:=by decide
 simp only[e1,e2]
 rw[if_pos ⟨by omega,by omega⟩]
theorem two_scale {M a b c d:Nat} (h:a+b=c+d):M*2^a*2^b=M*2^c*2^d:=by rw[Nat.mul_assoc,Nat.mul_assoc,←Nat.pow_add,←Nat.pow_add,h]
theorem ldexp_whole (F:Nat) (w:World) (hF:F<4503599627370496):
   Calls Tryz.prog 49 #[.float .f64 (4602678819172646912+F),.int .i64 53] w fun e w'=>e= .returned (.float .f64 (1075*4503599627370496+F))∧w=w':=by
 refine(ldexp_any (4602678819172646912+F) 53 0 53 w (by omega) (by omega) (by decide) (by decide) (by decide)).mono ?_
 rintro e w' ⟨q,rfl,hq,rfl⟩
 have e1:V (4602678819172646912+F)=(4503599627370496+F)*2^1021:=by
   rw[show 4602678819172646912+F=1021*4503599627370496+(4503599627370496+F)by omega]
   exact V_at (by omega) (Or.inr (by omega))
 have e2:V (1075*4503599627370496+F)=(4503599627370496+F)*2^1074:=by
   rw[show 1075*4503599627370496+F=1074*4503599627370496+(4503599627370496+F)by omega]
   exact V_at (by omega) (Or.inr (by omega))
 have e3:q=1075*4503599627370496+F:=near_of_exact (by decide) hq (by
   rw[e1,e2];exact two_scale (a:=1074) (b:=0) (c:=1021) (d:=53) rfl)
 rw[e3,show min (1075*4503599627370496+F) 9218868437227405312=1075*4503599627370496+F by omega]
 exact⟨rfl,rfl⟩
def ExactRes (w:World) (s:Bool) (o:Nat) (e:Int) (f:Nat) (x:Ending) (w':World):Prop:=x= .returned (.tuple #[.bool s,.int .u64 o,.int .i64 e,.int .i64 f])∧ ∃n,w'=w.drewN n
theorem ford_zero' (b:Nat) (hb:b<18446744073709551616):(FloatKind.f64.format.order b 0==some .eq)=decide (rg b=0):=by
 rw[ord_eq hb (by decide)]
 unfold okW keyW
 rw[rg_pos (show (0:Nat)<9223372036854775808 by decide),sgn_pos (show (0:Nat)<9223372036854775808 by decide)]
 by_cases h1:rg b=0
 · simp [h1]
 · simp [h1]
   intro _
   cases sgn b<;>simp<;>omega
theorem exact_zero (b:Nat) (w:World) (hb:b<18446744073709551616) (h:rg b=0):
   Calls Tryz.prog 51 #[.float .f64 b] w (ExactRes w (sgn b) 0 0 0):=by
 have K:=Lib.hid (fun v=>finite_any b v hb)
 have Km:=Lib.hid (fun v=>minus_real b v hb)
 rw[show finE (rg b)=0 by rw[h];rfl]at K
 have h0:=ford_zero' b hb
 rw[decide_eq_true h]at h0
 generalize sgn b=s at*
 go_enter Tryz.func51,Tryz.ntmps51
 go_wp2_with (first|(go_at_call 26;(with_reducible refine(K.out _).mono ?_);rintro e w' ⟨rfl,rfl⟩)|(go_at_call 74;(with_reducible refine(Km.out _).mono ?_);rintro e w' ⟨rfl,rfl⟩))
 exact bodyPost_ret (v:= .tuple #[.bool s,.int .u64 0,.int .i64 0,.int .i64 0]) (by simp [results,Tryz.results51,go_sem]) rfl ⟨rfl,0,rfl⟩
set_option maxHeartbeats 2000000 in
set_option maxRecDepth 100000 in
theorem exact_some (b o t:Nat) (w:World) (hb:b<18446744073709551616) (h0:0<rg b) (h1:rg b<9218868437227405312) (ho:o%2=1) (hV:o*2^t=V (rg b)) (hT:Tab w):
   Calls Tryz.prog 51 #[.float .f64 b] w (ExactRes w (sgn b) o ((t:Int)-1074) 0):=by
 have K:=Lib.hid (fun v=>finite_any b v hb)
 have Km:=Lib.hid (fun v=>minus_real b v hb)
 have Ka:=Lib.hid (fun v=>abs_any b v hb)
 rw[show finE (rg b)=0 by unfold finE;rw[if_neg (by omega),if_neg (by omega)]]at K
 have hz:=ford_zero' b hb
 rw[decide_eq_false (by omega)]at hz
 have Kf:=Lib.hid (fun v=>frexp_any (rg b) v h0 h1)
 obtain⟨f1,f2,f3,f4⟩:=nR_facts h0 h1
 generalize sgn b=s at*
 generalize rg b=r at*
 have hE1:0<nR r/4503599627370496:=by omega
 have hE2:nR r/4503599627370496≤2046:=by omega
 have hR:nR r=nR r/4503599627370496*4503599627370496+nR r%4503599627370496:=by omega
 have hF:nR r%4503599627370496<4503599627370496:=by omega
 generalize nR r/4503599627370496=E at*
 generalize nR r%4503599627370496=F at*
 obtain⟨m,hm,hk⟩:=ctz_spec (4503599627370496+F) (by omega) (by omega)
 have Kt:Hid (∀v,Tab v→Calls Tryz.prog 76 #[.int .u64 (4503599627370496+(F:Int))] v fun e w'=>e= .returned (.int .i64 (Lib.ctz 64 (4503599627370496+F)))∧v=w'):=Lib.hid (fun v h=>tz_any (4503599627370496+F) v (by omega) (by omega) h)
 have HT:=Lib.hid hT
 have hg:=toInt_whole hF
 generalize hn:Lib.ctz 64 (4503599627370496+F)=n at*
 have hVR:V (nR r)=(4503599627370496+F)*2^(E-1):=by
   rw[hR,show E*4503599627370496+F=(E-1)*4503599627370496+(4503599627370496+F)by omega,V_at (by omega) (Or.inr (by omega))]
 have hodd:o=2*m+1∧t+nE r=n+(E-1):=by
   refine odd_unique ho (by omega) _ _ ?_
   rw[Nat.pow_add,←Nat.mul_assoc,hV,←f3,hVR,hm,Nat.pow_add,←Nat.mul_assoc,Nat.mul_comm (2^n)]
 have hdiv:(4503599627370496+(F:Int))/2^n=(o:Int):=by
   rw[show (4503599627370496:Int)+(F:Int)=((4503599627370496+F:Nat):Int)from rfl,hm,hodd.1]
   rw[Int.natCast_mul,Int.natCast_pow]
   exact Int.mul_ediv_cancel_left _ (Int.ne_of_gt (Int.pow_pos (by decide)))
 have Kl:=Lib.hid (fun v=>ldexp_whole F v hF)
 have hexp:(E:Int)-1022-(nE r:Int)-53+(n:Int)=(t:Int)-1074:=by omega
 have Hexp:=Lib.hid hexp
 generalize nE r=N at*
 clear hexp hm hodd hVR hR f1 f2 f3 h0 h1 hV ho hn hT
 have hcv:=run_convert_float_int (P:=Tryz.prog) w 48 61 .f64 .u64 (1075*4503599627370496+F) _ (by kernel_rfl) Tryz.underlying61 hg
 clear hg
 go_enter Tryz.func51,Tryz.ntmps51
 go_wp2_with (first|(go_at_call 26;(with_reducible refine(K.out _).mono ?_);rintro e w' ⟨rfl,rfl⟩)|(go_at_call 71;(with_reducible refine(Ka.out _).mono ?_);rintro e w' ⟨rfl,rfl⟩)|(go_at_call 75;(with_reducible refine(Kf.out _).mono ?_);rintro e w' ⟨rfl,rfl⟩))
 refine(Kl.out _).mono ?_
 rintro e w' ⟨rfl,rfl⟩
 go_wp2_with (go_at_call 76;(with_reducible refine(Kt.out _ HT.out).mono ?_);rintro e w' ⟨rfl,rfl⟩)
 have hs1:IntKind.i64.wrap ((E:Int)-1022-(N:Int)-53)=(E:Int)-1022-(N:Int)-53:=IntWalk.i64_in _ (by omega)
 have hs2:IntKind.i64.wrap ((E:Int)-1022-(N:Int)-53+(n:Int))=(E:Int)-1022-(N:Int)-53+(n:Int):=IntWalk.i64_in _ (by omega)
 go_quiet ((go_at_call 74;exact quiet_same (Km.out _)))
 clear hs1 hs2
 rw[Hexp.out]
 go_wp2
 exact bodyPost_ret (v:= .tuple #[.bool s,.int .u64 o,.int .i64 ((t:Int)-1074),.int .i64 0]) (by simp [results,Tryz.results51,go_sem]) rfl ⟨rfl,nq,rfl⟩
end
section
open Go.RowKit
def ExactSame (w:World) (s:Bool) (o:Nat) (e:Int) (f:Nat) (x:Ending) (w':World):Prop:=x= .returned (.tuple #[.bool s,.int .u64 o,.int .i64 e,.int .i64 f])∧w=w'
theorem numM_pos {r:Nat} (h0:0<r):0<numM r∧numM r<9007199254740992:=by
 unfold numM
 split<;>omega
end
end Go.Proofs.YtemnhpdjoimjbaaGreatDoor
