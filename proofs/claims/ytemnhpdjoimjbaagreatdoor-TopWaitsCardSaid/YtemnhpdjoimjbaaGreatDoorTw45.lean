import Derived.Test.YtemnhpdjoimjbaaGreatDoorTw44
import Derived.Laws.FloatArith
import Derived.Test.YtemnhpdjoimjbaaGreatDoorTw01
import Derived.Laws.BitsAllLaws
namespace Go.Proofs.YtemnhpdjoimjbaaGreatDoor
section
def sgn (b:Nat):Bool:=decide (9223372036854775808≤b)
def rg (b:Nat):Nat:=b%9223372036854775808
def mkW (s:Bool) (r:Nat):Nat:=if s then 9223372036854775808+r else r
def keyW (b:Nat):Int:=if sgn b then -(rg b:Int)else(rg b:Int)
def valW (b:Nat):Int:=if sgn b then -(V (rg b):Int)else(V (rg b):Int)
theorem word_mkW (s:Bool) (r:Nat):Ieee.double.word s r=mkW s r:=by
 have h:Ieee.double.signWeight=9223372036854775808:=by decide
 unfold Ieee.Format.word mkW
 rw[h]
theorem rg_lt (b:Nat):rg b<9223372036854775808:=Nat.mod_lt _ (by decide)
theorem rg_pos {b:Nat} (h:b<9223372036854775808):rg b=b:=Nat.mod_eq_of_lt h
theorem sgn_pos {b:Nat} (h:b<9223372036854775808):sgn b=false:=by simp [sgn];omega
theorem read_word (b:Nat) (hb:b<18446744073709551616):Ieee.double.read b=
   if rg b<4503599627370496 then .number (sgn b) (rg b) (-1074)
   else if rg b<9218868437227405312 then .number (sgn b) (4503599627370496+rg b%4503599627370496) (-1074+(rg b/4503599627370496-1:Nat))
   else if rg b=9218868437227405312 then .infinity (sgn b)
   else .nan (sgn b) (rg b-9218868437227405312):=by
 have h1:Ieee.double.signWeight=9223372036854775808:=by decide
 have h2:Ieee.double.binade=4503599627370496:=by decide
 have h3:Ieee.double.infRung=9218868437227405312:=by decide
 have h4:Ieee.double.leastPlace= -1074:=by decide
 have hs:(b/9223372036854775808%2==1)=sgn b:=by
   unfold sgn
   by_cases h:9223372036854775808≤b
   · rw[show b/9223372036854775808%2=1 by omega];simp [h]
   · rw[show b/9223372036854775808%2=0 by omega];simp [h]
 unfold Ieee.Format.read
 simp only[h1,h2,h3,h4,hs]
 rfl
theorem read_fin {b:Nat} (hb:b<18446744073709551616) (h:rg b<9218868437227405312):
   ∃m e:Nat,Ieee.double.read b= .number (sgn b) m ((e:Int)-1074)∧m*2^e=V (rg b):=by
 rw[read_word b hb]
 unfold V
 by_cases h1:rg b<4503599627370496
 · rw[if_pos h1,if_pos h1]
   exact⟨rg b,0,rfl,by simp⟩
 · rw[if_neg h1,if_pos h,if_neg h1]
   exact⟨_,rg b/4503599627370496-1,by rw[Int.add_comm];rfl,rfl⟩
theorem read_norm {b:Nat} (hb:b<18446744073709551616) (h:rg b<9218868437227405312) (h1:4503599627370496≤rg b):
   Ieee.double.read b= .number (sgn b) (4503599627370496+rg b%4503599627370496) ((rg b/4503599627370496-1:Nat)-1074):=by
 rw[read_word b hb,if_neg (by omega),if_pos h,Int.add_comm];rfl
theorem read_inf {b:Nat} (hb:b<18446744073709551616) (h:rg b=9218868437227405312):Ieee.double.read b= .infinity (sgn b):=by
 rw[read_word b hb,if_neg (by omega),if_neg (by omega),if_pos h]
theorem read_nan {b:Nat} (hb:b<18446744073709551616) (h:9218868437227405312<rg b):Ieee.double.read b= .nan (sgn b) (rg b-9218868437227405312):=by
 rw[read_word b hb,if_neg (by omega),if_neg (by omega),if_neg (by omega)]
theorem signed_val (s:Bool) (m k:Nat):Ieee.signed s m k=if s then -((m*2^k:Nat):Int)else((m*2^k:Nat):Int):=by
 unfold Ieee.signed
 rw[Nat.shiftLeft_eq]
theorem compare_scale {x y c:Int} (hc:0<c):compare (x*c) (y*c)=compare x y:=by
 rcases Int.lt_trichotomy x y with h|h|h
 · rw[Int.compare_eq_lt.2 h,Int.compare_eq_lt.2 (Int.mul_lt_mul_of_pos_right h hc)]
 · subst h;simp
 · rw[Int.compare_eq_gt.2 h,Int.compare_eq_gt.2 (Int.mul_lt_mul_of_pos_right h hc)]
theorem signed_scale (s:Bool) (m k j e:Nat) (h:k+j=e):Ieee.signed s m k*((2^j:Nat):Int)=if s then -((m*2^e:Nat):Int)else((m*2^e:Nat):Int):=by
 rw[signed_val,←h,Nat.pow_add,←Nat.mul_assoc]
 cases s
 · exact(Int.natCast_mul _ _).symm
 · show -((m*2^k:Nat):Int)*_= -_
   rw[Int.neg_mul,←Int.natCast_mul]
theorem order_val {a b:Nat} (ha:a<18446744073709551616) (hb:b<18446744073709551616) (h1:rg a<9218868437227405312) (h2:rg b<9218868437227405312):
   Ieee.double.order a b=some (compare (valW a) (valW b)):=by
 obtain⟨m,e,r1,v1⟩:=read_fin ha h1
 obtain⟨n,f,r2,v2⟩:=read_fin hb h2
 unfold Ieee.Format.order
 rw[r1,r2]
 simp only[Ieee.Datum.order]
 congr 1
 obtain⟨g,hg⟩: ∃g:Nat,g=min e f:=⟨_,rfl⟩
 rw[show min ((e:Int)-1074) ((f:Int)-1074)=(g:Int)-1074 by omega,show((e:Int)-1074-((g:Int)-1074)).toNat=e-g by omega,show((f:Int)-1074-((g:Int)-1074)).toNat=f-g by omega]
 rw[← compare_scale (c:=((2^g:Nat):Int)) (by have:=Nat.two_pow_pos g;omega),signed_scale _ _ _ _ e (by omega),signed_scale _ _ _ _ f (by omega),v1,v2]
 rfl
theorem V_facts (r s:Nat):(r<s∧V r<V s)∨(r=s∧V r=V s)∨(s<r∧V s<V r):=by
 rcases Nat.lt_trichotomy r s with h|h|h
 · exact Or.inl ⟨h,V_lt h⟩
 · exact Or.inr (Or.inl ⟨h,by rw[h]⟩)
 · exact Or.inr (Or.inr ⟨h,V_lt h⟩)
theorem key_val {a b:Nat}:compare (valW a) (valW b)=compare (keyW a) (keyW b):=by
 have hab:=V_facts (rg a) (rg b)
 have h0a:(rg a=0∧V (rg a)=0)∨(0<rg a∧0<V (rg a)):=by
   have:=V_facts 0 (rg a);rw[V_zero]at this;omega
 have h0b:(rg b=0∧V (rg b)=0)∨(0<rg b∧0<V (rg b)):=by
   have:=V_facts 0 (rg b);rw[V_zero]at this;omega
 unfold valW keyW
 generalize V (rg a)=va at*
 generalize V (rg b)=vb at*
 generalize rg a=ra at*
 generalize rg b=rb at*
 generalize sgn a=sa at*
 generalize sgn b=sb at*
 rcases Int.lt_trichotomy (if sa then -(ra:Int)else(ra:Int)) (if sb then -(rb:Int)else(rb:Int))with h|h|h
 · rw[Int.compare_eq_lt.2 h]
   apply Int.compare_eq_lt.2
   cases sa<;>cases sb<;>simp only[Bool.false_eq_true,↓reduceIte]at h ⊢ <;>omega
 · rw[Int.compare_eq_eq.2 h]
   apply Int.compare_eq_eq.2
   cases sa<;>cases sb<;>simp only[Bool.false_eq_true,↓reduceIte]at h ⊢ <;>omega
 · rw[Int.compare_eq_gt.2 h]
   apply Int.compare_eq_gt.2
   cases sa<;>cases sb<;>simp only[Bool.false_eq_true,↓reduceIte]at h ⊢ <;>omega
theorem order_key {a b:Nat} (ha:a<18446744073709551616) (hb:b<18446744073709551616) (h1:rg a≤9218868437227405312) (h2:rg b≤9218868437227405312):
   Ieee.double.order a b=some (compare (keyW a) (keyW b)):=by
 by_cases g1:rg a=9218868437227405312
 · by_cases g2:rg b=9218868437227405312
   · unfold Ieee.Format.order
     rw[read_inf ha g1,read_inf hb g2]
     simp only[Ieee.Datum.order]
     unfold keyW
     rw[g1,g2]
     cases sgn a<;>cases sgn b<;>decide
   · obtain⟨n,f,r2,-⟩:=read_fin hb (by omega)
     unfold Ieee.Format.order
     rw[read_inf ha g1,r2]
     simp only[Ieee.Datum.order]
     congr 1
     unfold keyW
     rw[g1]
     cases sgn a
     · symm;apply Int.compare_eq_gt.2
       cases sgn b<;>simp only[Bool.false_eq_true,↓reduceIte]<;>omega
     · symm;apply Int.compare_eq_lt.2
       cases sgn b<;>simp only[Bool.false_eq_true,↓reduceIte]<;>omega
 · by_cases g2:rg b=9218868437227405312
   · obtain⟨n,f,r2,-⟩:=read_fin ha (by omega)
     unfold Ieee.Format.order
     rw[read_inf hb g2,r2]
     simp only[Ieee.Datum.order]
     congr 1
     unfold keyW
     rw[g2]
     cases sgn b
     · symm;apply Int.compare_eq_lt.2
       cases sgn a<;>simp only[Bool.false_eq_true,↓reduceIte]<;>omega
     · symm;apply Int.compare_eq_gt.2
       cases sgn a<;>simp only[Bool.false_eq_true,↓reduceIte]<;>omega
   · rw[order_val ha hb (by omega) (by omega),key_val]
theorem order_nan {a b:Nat} (ha:a<18446744073709551616) (hb:b<18446744073709551616) (h:9218868437227405312<rg a∨9218868437227405312<rg b):Ieee.double.order a b=none:=by
 unfold Ieee.Format.order
 rcases h with h|h
 · rw[read_nan ha h];rfl
 · rw[read_nan hb h]
   cases Ieee.double.read a<;>rfl
def okW (b:Nat):Bool:=decide (rg b≤9218868437227405312)
theorem ord_eq {a b:Nat} (ha:a<18446744073709551616) (hb:b<18446744073709551616):(FloatKind.f64.format.order a b==some .eq)=(okW a&&okW b&&decide (keyW a=keyW b)):=by
 show(Ieee.double.order a b==some .eq)=_
 unfold okW
 by_cases h1:rg a≤9218868437227405312
 · by_cases h2:rg b≤9218868437227405312
   · rw[order_key ha hb h1 h2]
     by_cases h:keyW a=keyW b
     · rw[Int.compare_eq_eq.2 h];simp [h1,h2,h]
     · have:compare (keyW a) (keyW b)≠ .eq:=fun h'=>h (Int.compare_eq_eq.1 h')
       simp [h,this]
   · rw[order_nan ha hb (by omega)];simp [h2]
 · rw[order_nan ha hb (by omega)];simp [h1]
theorem ord_lt {a b:Nat} (ha:a<18446744073709551616) (hb:b<18446744073709551616):(FloatKind.f64.format.order a b==some .lt)=(okW a&&okW b&&decide (keyW a<keyW b)):=by
 show(Ieee.double.order a b==some .lt)=_
 unfold okW
 by_cases h1:rg a≤9218868437227405312
 · by_cases h2:rg b≤9218868437227405312
   · rw[order_key ha hb h1 h2]
     by_cases h:keyW a<keyW b
     · rw[Int.compare_eq_lt.2 h];simp [h1,h2,h]
     · have:compare (keyW a) (keyW b)≠ .lt:=fun h'=>h (Int.compare_eq_lt.1 h')
       simp [h,this]
   · rw[order_nan ha hb (by omega)];simp [h2]
 · rw[order_nan ha hb (by omega)];simp [h1]
theorem ord_gt {a b:Nat} (ha:a<18446744073709551616) (hb:b<18446744073709551616):(FloatKind.f64.format.order a b==some .gt)=(okW a&&okW b&&decide (keyW b<keyW a)):=by
 show(Ieee.double.order a b==some .gt)=_
 unfold okW
 by_cases h1:rg a≤9218868437227405312
 · by_cases h2:rg b≤9218868437227405312
   · rw[order_key ha hb h1 h2]
     by_cases h:keyW b<keyW a
     · rw[Int.compare_eq_gt.2 h];simp [h1,h2,h]
     · have:compare (keyW a) (keyW b)≠ .gt:=fun h'=>h (Int.compare_eq_gt.1 h')
       simp [h,this]
   · rw[order_nan ha hb (by omega)];simp [h2]
 · rw[order_nan ha hb (by omega)];simp [h1]
end
section
open Go.RowKit
theorem ext_bits (b:Nat) (w:World):(callFunc 108 #[.float .f64 b]).run Tryz.prog w= .ok (.value (.int .u64 b)) w:=by
 rw[run_callFunc_extern (e:=Extern.MathFloatBits.float64bits) Tryz.func108 (by kernel_rfl) (by kernel_rfl) (by kernel_rfl) (by kernel_rfl)]
 rfl
theorem ext_from (n:Int) (w:World):(callFunc 111 #[.int .u64 n]).run Tryz.prog w= .ok (.value (.float .f64 n.toNat)) w:=by
 rw[run_callFunc_extern (e:=Extern.MathFloatBits.float64frombits) Tryz.func111 (by kernel_rfl) (by kernel_rfl) (by kernel_rfl) (by kernel_rfl)]
 rfl
theorem abs_bits (b:Nat) (hb:b<18446744073709551616):bits .andNot .u64 (b:Int) 9223372036854775808=((rg b:Nat):Int):=by
 have h:=u64_andNot_nat b 9223372036854775808 hb (by decide)
 have e:b &&& (18446744073709551615-9223372036854775808)=rg b:=Nat.and_two_pow_sub_one_eq_mod b 63
 rw[e]at h
 exact h
theorem abs_any (b:Nat) (w:World) (hb:b<18446744073709551616):
   Calls Tryz.prog 71 #[.float .f64 b] w fun e w'=>e= .returned (.float .f64 (rg b))∧w=w':=by
 have h1:=ext_bits b w
 have h2:=ext_from (rg b:Nat) w
 have h3:=abs_bits b hb
 rw[Int.toNat_natCast]at h2
 go_enter Tryz.func71,Tryz.ntmps71
 go_wp2
 go_ret
 exact⟨rfl,rfl⟩
theorem signbit_any (b:Nat) (w:World) (hb:b<18446744073709551616):
   Calls Tryz.prog 112 #[.float .f64 b] w fun e w'=>e= .returned (.bool (sgn b))∧w=w':=by
 have h1:=ext_bits b w
 have h3:decide (wrap64 (b:Int)<0)=sgn b:=by
   unfold sgn wrap64
   by_cases h:9223372036854775808≤b
   · rw[decide_eq_true h];simp;omega
   · rw[decide_eq_false h];simp;omega
 go_enter Tryz.func112,Tryz.ntmps112
 go_wp2
 go_ret
 exact⟨rfl,rfl⟩
theorem isnan_any (b:Nat) (w:World) (hb:b<18446744073709551616):
   Calls Tryz.prog 73 #[.float .f64 b] w fun e w'=>e= .returned (.bool (decide (9218868437227405312<rg b)))∧w=w':=by
 have h:(FloatKind.f64.format.order b b != some .eq)=decide (9218868437227405312<rg b):=by
   rw[bne,ord_eq hb hb]
   unfold okW
   by_cases h:rg b≤9218868437227405312
   · simp [h]
   · simp [h];omega
 go_enter Tryz.func73,Tryz.ntmps73
 go_wp2
 go_ret
 exact⟨rfl,rfl⟩
theorem isinf0_any (b:Nat) (w:World) (hb:b<18446744073709551616):
   Calls Tryz.prog 72 #[.float .f64 b,.int .i64 0] w fun e w'=>e= .returned (.bool (decide (rg b=9218868437227405312)))∧w=w':=by
 have hr:=rg_lt b
 have h:(FloatKind.f64.format.order (rg b) 9218868437227405311==some .gt)=decide (rg b=9218868437227405312):=by
   rw[ord_gt (by omega) (by decide)]
   unfold okW keyW
   rw[rg_pos hr,sgn_pos hr,rg_pos (show (9218868437227405311:Nat)<9223372036854775808 by decide),sgn_pos (show (9218868437227405311:Nat)<9223372036854775808 by decide)]
   by_cases h:rg b=9218868437227405312
   · simp [h]
   · simp [h];omega
 have Ka:=Lib.hid (fun v=>abs_any b v hb)
 go_enter Tryz.func72,Tryz.ntmps72
 go_wp2_with (go_at_call 71;(with_reducible refine(Ka.out _).mono ?_);rintro e w' ⟨rfl,rfl⟩)
 go_ret
 exact⟨rfl,rfl⟩
theorem isinf1_any (b:Nat) (w:World) (hb:b<9223372036854775808):
   Calls Tryz.prog 72 #[.float .f64 b,.int .i64 1] w fun e w'=>e= .returned (.bool (decide (b=9218868437227405312)))∧w=w':=by
 have h:(FloatKind.f64.format.order b 9218868437227405311==some .gt)=decide (b=9218868437227405312):=by
   rw[ord_gt (by omega) (by decide)]
   unfold okW keyW
   rw[rg_pos hb,sgn_pos hb,rg_pos (show (9218868437227405311:Nat)<9223372036854775808 by decide),sgn_pos (show (9218868437227405311:Nat)<9223372036854775808 by decide)]
   by_cases h:b=9218868437227405312
   · simp [h]
   · simp [h];omega
 go_enter Tryz.func72,Tryz.ntmps72
 go_wp2
 go_ret
 exact⟨rfl,rfl⟩
end
section
open Go.RowKit
def nR (r:Nat):Nat:=if r<4503599627370496 then r.log2*4503599627370496+r*2^(52-r.log2)else r
def nE (r:Nat):Nat:=if r<4503599627370496 then 52 else 0
theorem nR_facts {r:Nat} (h0:0<r) (h1:r<9218868437227405312):4503599627370496≤nR r∧nR r<9218868437227405312∧V (nR r)=V r*2^nE r∧nE r≤52:=by
 unfold nR nE
 by_cases h:r<4503599627370496
 · rw[if_pos h,if_pos h]
   have hL1:2^r.log2≤r:=Nat.log2_self_le (by omega)
   have hL2:r<2^(r.log2+1):=Nat.lt_log2_self
   have hL:r.log2<52:=by
     refine Nat.lt_of_not_le fun h'=> ?_
     have:(2:Nat)^52≤2^r.log2:=Nat.pow_le_pow_right (by decide) h'
     have e:(2:Nat)^52=4503599627370496:=by decide
     omega
   generalize r.log2=L at*
   have hk1:2^L*2^(52-L)≤r*2^(52-L):=Nat.mul_le_mul_right _ hL1
   have hk2:r*2^(52-L)<2^(L+1)*2^(52-L):=Nat.mul_lt_mul_of_pos_right hL2 (Nat.two_pow_pos _)
   rw[← Nat.pow_add,show L+(52-L)=52 by omega,show(2:Nat)^52=4503599627370496 from by decide]at hk1
   rw[← Nat.pow_add,show L+1+(52-L)=53 by omega,show(2:Nat)^53=9007199254740992 from by decide]at hk2
   refine⟨by omega,by omega,?_,by omega⟩
   rw[V_at (by omega) (Or.inr hk1)]
   unfold V
   rw[if_pos h,Nat.mul_assoc,←Nat.pow_add,show 52-L+L=52 by omega]
 · rw[if_neg h,if_neg h]
   exact⟨by omega,h1,by simp,by omega⟩
theorem mul_words {a b m n e f:Nat} {s t:Bool} (r1:Ieee.double.read a= .number s m ((e:Int)-1074)) (r2:Ieee.double.read b= .number t n ((f:Int)-1074)):
   floatBits .mul .f64 a b=some (Ieee.double.nearest (s ^^ t) (m*n) ((e:Int)-1074+((f:Int)-1074))):=by
 show Ieee.double.mul a b=_
 unfold Ieee.Format.mul
 rw[r1,r2]
 rfl
theorem norm_mul {b:Nat} (h0:0<b) (h1:b<4503599627370496):floatBits .mul .f64 b 4841369599423283200=some (nR b):=by
 have r1:Ieee.double.read b= .number false b ((0:Nat)-1074):=by
   rw[read_word b (by omega),rg_pos (by omega),if_pos h1,sgn_pos (by omega)];rfl
 have r2:Ieee.double.read 4841369599423283200= .number false 4503599627370496 ((1074:Nat)-1074):=by decide
 rw[mul_words r1 r2]
 obtain⟨r,hr,he⟩:=nearest_is false (b*4503599627370496) 0 0 (by omega)
 obtain⟨f1,f2,f3,-⟩:=nR_facts h0 (by omega)
 have e:r=nR b:=near_of_exact (by decide) hr (by
   rw[f3];unfold V nE;rw[if_pos h1,if_pos h1])
 rw[e,word_mkW]at he
 have e2:min (nR b) 9218868437227405312=nR b:=by omega
 rw[e2]at he
 exact congrArg some he
theorem normalize_any (b:Nat) (w:World) (h0:0<b) (h1:b<9218868437227405312):
   Calls Tryz.prog 107 #[.float .f64 b] w fun e w'=>e= .returned (.tuple #[.float .f64 (nR b),.int .i64 (-(nE b:Int))])∧w=w':=by
 have Ka:=Lib.hid (fun v=>abs_any b v (by omega))
 have hr:rg b=b:=rg_pos (by omega)
 rw[hr]at Ka
 have ho:(FloatKind.f64.format.order b 4503599627370496==some .lt)=decide (b<4503599627370496):=by
   rw[ord_lt (by omega) (by decide)]
   unfold okW keyW
   rw[hr,sgn_pos (show b<9223372036854775808 by omega),rg_pos (show (4503599627370496:Nat)<9223372036854775808 by decide),sgn_pos (show (4503599627370496:Nat)<9223372036854775808 by decide)]
   by_cases h:b<4503599627370496
   · simp [h];omega
   · simp [h];omega
 by_cases h:b<4503599627370496
 · have hm:=run_float_arith (P:=Tryz.prog) w .mul 48 .f64 b 4841369599423283200 (nR b) (norm_mul h0 h)
   rw[decide_eq_true h]at ho
   have e1:(-(nE b:Int))= -52:=by unfold nE;rw[if_pos h];rfl
   rw[e1]
   generalize nR b=R at*
   clear e1 h0 h1 h hr
   go_enter Tryz.func107,Tryz.ntmps107
   go_wp2_with (go_at_call 71;(with_reducible refine(Ka.out _).mono ?_);rintro e w' ⟨rfl,rfl⟩)
   go_ret2
   exact⟨rfl,rfl⟩
 · rw[decide_eq_false h]at ho
   have e1:(-(nE b:Int))=0:=by unfold nE;rw[if_neg h];rfl
   have e2:nR b=b:=by unfold nR;rw[if_neg h]
   rw[e1,e2]
   clear e1 e2 h0 h1 h hr
   go_enter Tryz.func107,Tryz.ntmps107
   go_wp2_with (go_at_call 71;(with_reducible refine(Ka.out _).mono ?_);rintro e w' ⟨rfl,rfl⟩)
   go_ret2
   exact⟨rfl,rfl⟩
theorem exp_bits {R:Nat} (h:R<9218868437227405312):bits .and .u64 ((R:Int)/4503599627370496) 2047=((R/4503599627370496:Nat):Int):=by
 have h2:=u64_and_nat (R/4503599627370496) 2047 (by omega) (by decide)
 rw[show R/4503599627370496 &&& 2047=R/4503599627370496%2048 from Nat.and_two_pow_sub_one_eq_mod _ 11,Nat.mod_eq_of_lt (by omega)]at h2
 rw[← h2];rfl
theorem frac_bits {R:Nat} (h:R<9223372036854775808):bits .andNot .u64 (R:Int) 9218868437227405312=((R%4503599627370496:Nat):Int):=by
 have h2:=u64_andNot_nat R 9218868437227405312 (by omega) (by decide)
 have e:R &&& (18446744073709551615-9218868437227405312)=R%4503599627370496:=by
   have h3:R &&& 9223372036854775807=R:=by
     rw[show R &&& 9223372036854775807=R%9223372036854775808 from Nat.and_two_pow_sub_one_eq_mod _ 63,Nat.mod_eq_of_lt h]
   rw[← h3,Nat.and_assoc]
   rw[show 9223372036854775807 &&& (18446744073709551615-9218868437227405312)=4503599627370495 from by decide]
   rw[h3]
   exact Nat.and_two_pow_sub_one_eq_mod _ 52
 rw[e]at h2
 exact h2
theorem put_exp {f k:Nat} (hf:f<4503599627370496) (hk:k<4096):bits .or .u64 (f:Int) ((k*4503599627370496:Nat):Int)=((k*4503599627370496+f:Nat):Int):=by
 have h2:=u64_or_nat f (k*4503599627370496) (by omega) (by omega)
 rw[Nat.or_comm,nat_join 52 (k*4503599627370496) f (by rw[show (2:Nat)^52=4503599627370496 from by decide];omega) (by rw[show (2:Nat)^52=4503599627370496 from by decide];exact hf)]at h2
 exact h2
theorem ret_x_int {x:Value} {k:IntKind} {a b:Int} (h:a=b):Ending.returned (.tuple #[x,.int k a])= .returned (.tuple #[x,.int k b]):=by rw[h]
set_option maxRecDepth 100000 in
theorem frexp_in (b:Nat) (w:World) (h0:0<b) (h1:b<9218868437227405312):
   Calls Tryz.prog 114 #[.float .f64 b] w fun e w'=>e= .returned (.tuple #[.float .f64 (4602678819172646912+nR b%4503599627370496),.int .i64 ((nR b/4503599627370496:Nat)-1022-(nE b:Int))])∧w=w':=by
 obtain⟨f1,f2,-,f4⟩:=nR_facts h0 h1
 have Kn:=Lib.hid (fun v=>normalize_any b v h0 h1)
 have Ki:=Lib.hid (fun v=>isinf0_any b v (by omega))
 have Ka:=Lib.hid (fun v=>isnan_any b v (by omega))
 have hr:rg b=b:=rg_pos (by omega)
 rw[hr,decide_eq_false (show ¬b=9218868437227405312 by omega)]at Ki
 rw[hr,decide_eq_false (show ¬9218868437227405312<b by omega)]at Ka
 have ho:(FloatKind.f64.format.order b 0==some .eq)=false:=by
   rw[ord_eq (by omega) (by decide)]
   unfold keyW
   rw[hr,sgn_pos (show b<9223372036854775808 by omega),rg_pos (show (0:Nat)<9223372036854775808 by decide),sgn_pos (show (0:Nat)<9223372036854775808 by decide)]
   simp;omega
 have hx:=exp_bits f2
 have hf:=frac_bits (R:=nR b) (by omega)
 have hj:=put_exp (f:=nR b%4503599627370496) (k:=1022) (Nat.mod_lt _ (by decide)) (by decide)
 have hb:=ext_bits (nR b) w
 have he:nR b/4503599627370496≤2046:=by omega
 generalize hE:nR b/4503599627370496=E at*
 generalize hF:nR b%4503599627370496=F at*
 have hFl:F<4503599627370496:=by omega
 have hfr:=ext_from (4602678819172646912+(F:Int)) w
 rw[show (4602678819172646912+(F:Int)).toNat=4602678819172646912+F by omega]at hfr
 rw[show 1022*4503599627370496=4602678819172646912 from by decide]at hj
 have hj2:bits .or .u64 (F:Int) 4602678819172646912=((4602678819172646912+F:Nat):Int):=hj
 clear hj
 have hRl:nR b<9218868437227405312:=f2
 generalize nR b=R at*
 generalize nE b=N at*
 clear h0 h1 hr hE hF f1 f2
 go_enter Tryz.func114,Tryz.ntmps114
 go_wp2_with (first|(go_at_call 72;(with_reducible refine(Ki.out _).mono ?_);rintro e w' ⟨rfl,rfl⟩)|(go_at_call 73;(with_reducible refine(Ka.out _).mono ?_);rintro e w' ⟨rfl,rfl⟩)|(go_at_call 107;(with_reducible refine(Kn.out _).mono ?_);rintro e w' ⟨rfl,rfl⟩))
 go_ret2
 exact⟨ret_x_int (by omega),rfl⟩
theorem frexp_any (b:Nat) (w:World) (h0:0<b) (h1:b<9218868437227405312):
   Calls Tryz.prog 75 #[.float .f64 b] w fun e w'=>e= .returned (.tuple #[.float .f64 (4602678819172646912+nR b%4503599627370496),.int .i64 ((nR b/4503599627370496:Nat)-1022-(nE b:Int))])∧w=w':=by
 have K:=Lib.hid (fun v=>frexp_in b v h0 h1)
 clear h0 h1
 generalize nR b=R at*
 generalize nE b=N at*
 go_enter Tryz.func75,Tryz.ntmps75
 go_wp2_with (go_at_call 114;(with_reducible refine(K.out _).mono ?_);rintro e w' ⟨rfl,rfl⟩)
 go_ret2
 exact⟨rfl,rfl⟩
end
end Go.Proofs.YtemnhpdjoimjbaaGreatDoor
