import Derived.Test.YtemnhpdjoimjbaaGreatDoorTw47
import Derived.IntWalk
namespace Go.Proofs.YtemnhpdjoimjbaaGreatDoor
section
open Go.RowKit
theorem wpList_make_part {P:Program} (w:World) {ops:Array Oper} {rest:List Oper} {o:Oper} {a:Act} {Q:Exit→Act→World→Prop}
   (hg:o.guard=none) (l c:Operand) (t:TypeId) (hop:o.op=Op.makeSlice t l c)
   (base:Nat) (e:TypeId) (i:TypeInfo) (h1:P.underlying t=some (.slice e)) (h2:P.info? e=some i) (h3:i.zero=some (.int .u64 0)) (h4:i.size=1)
   (kl kc:IntKind) (L C:Int) (q m:Nat) (hl:a.eval l= .int kl L) (hc:a.eval c= .int kc C) (hL:L=(q:Int)) (hC:C=(m:Int)) (hqm:q≤m) (b2:i.bytes*m≤281474976710656) (b3:m≤maxLen) (b4:base≤w.heap.size)
   (hK: ∀w',w'.ownsRow base e 1 (.slice (some ⟨w.heap.size,0,none⟩) q m) q ((List.replicate q 0).map dgt)→w.grownBy w' none→wpList P ops Q rest (a.put o.dst (.slice (some ⟨w.heap.size,0,none⟩) q m)) w'):
   wpList P ops Q (o::rest) a w:=by
 refine wpList_plain hg fun K hK'=> ?_
 have h63':(m:Int)≤9223372036854775807:=by
   have h:=b3
   simp [maxLen]at h
   omega
 have hb':(i.bytes:Int)*(m:Int)≤281474976710656:=by
   have h:((i.bytes*m:Nat):Int)≤281474976710656:=by omega
   rwa [Int.natCast_mul]at h
 have hr:=run_make (P:=P) w t e i (.int .u64 0) h1 h2 h3 kl kc q m (by omega) (by omega) hb' h63'
 simp only[Int.toNat_natCast]at hr
 subst hL
 subst hC
 unfold Oper.wp
 simp only[execOp,hop,hl,hc]
 simp [hr,Result.andThen]
 refine hK' _ _ (hK _ ?_ (World.grownBy_alloc w _ none))
 refine⟨by simp,Or.inr ⟨w.heap.size,m,madeCells #[Value.int IntKind.u64 0] (m*i.size),rfl,b4,?_,hqm,b3,?_,?_⟩⟩
 · show(w.heap.push _)[w.heap.size]? =_
   simp [Value.cells]
 · rw[h4];simp [size_madeCells]
 · rw[h4,toList_madeCells_one]
   simp [List.take_replicate,dgt,Nat.min_eq_left hqm]
set_option maxHeartbeats 2000000 in
set_option maxRecDepth 100000 in
theorem psub_any (va vb:Value) (na nb:Nat) (w:World) (ha:IsN w va na) (hb:IsN w vb nb) (hle:nb≤na) (hsa:na<2^1000000):
   Calls Tryz.prog 68 #[va,vb] w (NatRes w (na-nb)):=by
 obtain⟨la,⟨aa,ca,rfl,hla,hca,hra⟩,hna,rfl⟩:=ha
 obtain⟨lb,⟨ab,cb,rfl,hlb,hcb,hrb⟩,hnb,rfl⟩:=hb
 have hka:=len_le hna hsa
 have hlen:lb.length≤la.length:=Nat.le_of_not_lt fun h=>by have:=len_lt hna hnb h;omega
 have Hle:=Lib.hid hle
 have Hda:=Lib.hid hna.1
 have Hdb:=Lib.hid hnb.1
 clear hna hnb hsa hle
 have Hra:=Lib.hid hra
 have Hrb:=Lib.hid hrb
 clear hra hrb
 obtain⟨i0,hi,hz0,hz1,hz2⟩:=info_parts info_u64
 have Hi:=Lib.hid hi;have Hz0:=Lib.hid hz0;have Hz1:=Lib.hid hz1;have Hz2:=Lib.hid hz2
 clear hi hz0 hz1 hz2
 go_enter Tryz.func68,Tryz.ntmps68
 go_wp2_with (at_make;refine wpList_make_full _ rfl _ _ 86 rfl w.heap.size 61 i0 (.int .u64 0) 1 Tryz.underlying86 Hi.out Hz0.out Hz1.out .i64 .i64 _ _ la.length rfl rfl (by simp) (by simp) (by rw[Hz2.out];omega) (by unfold maxLen;omega) (Nat.le_refl _) ?_)
 intro w1 hown1 hgrow1
 have Hst:Hid (MinusRel w.heap.size w.heap.size w la lb 0 0 w1):=
   ⟨List.replicate la.length 0,by simp,zeros_digits _,fun q _=>zeros_get _ _,made_row hown1,by simp [valL,valL_zeros],(Below.refl _ _).grown hgrow1 (Nat.le_refl _) (fun k hk=>by simp at hk)⟩
 clear hown1 hgrow1
 go_wp2
 go_loopw [6,7,8,14] (fun y _ _ i wr=> ∃k bw:Nat,i= .int .i64 k∧y= .int .u64 bw∧bw≤1∧k≤la.length∧MinusRel w.heap.size w.heap.size w la lb k bw wr) (fun _ _ _ i _=>la.length-(intOf i).toNat)
 case atStart=>exact⟨0,0,rfl,rfl,by omega,by omega,Hst.out⟩
 case round=>
   obtain⟨k,bw,rfl,rfl,hbw,hk,cs,h1,h2,h3,h4,h5,h6⟩:=hrel
   clear Hst
   by_cases hA:k<la.length
   · obtain⟨ba,oa,rfl,hcella⟩:=Hra.out (by omega)
     have hcA:=cell_later h6 (hcella k hA)
     clear hcella
     have hxa:=Hda.out _ (getD_mem hA)
     have hfC:=h4.free k
     have hcC:=h4.cell (q:=k) (by omega)
     by_cases hB:k<lb.length
     · obtain⟨bb,ob,rfl,hcellb⟩:=Hrb.out (by omega)
       have hcB:=cell_later h6 (hcellb k hB)
       clear hcellb
       have hxb:=Hdb.out _ (getD_mem hB)
       have Hstep:=Lib.hid (minus_step h1 h2 h3 h4 h5 h6 hA hbw hxa hxb)
       clear h1 h2 h3 h4 h5 h6
       generalize la.getD k 0=x at*
       generalize lb.getD k 0=y at*
       go_wp2
       go_roundw
       case rel=>
         have h:=Hstep.out
         rw[show (((x+4294967296-bw-y)%4294967296:Nat):Int)=((x:Int)+4294967296-(bw:Int)-(y:Int))%4294967296 by omega]at h
         exact⟨k+1,1-(x+4294967296-bw-y)/4294967296,by go_num,congrArg (Value.int .u64) (by omega),by omega,by omega,h⟩
       case measure=>simp [intOf];omega
     · have e1:lb.getD k 0=0:=getD_past (by omega)
       have hstep:=minus_step h1 h2 h3 h4 h5 h6 hA hbw hxa (by rw[e1];decide)
       rw[e1,Nat.sub_zero]at hstep
       have Hstep:=Lib.hid hstep
       clear h1 h2 h3 h4 h5 h6 e1 hstep
       generalize la.getD k 0=x at*
       go_wp2
       go_roundw
       case rel=>
         have h:=Hstep.out
         rw[show (((x+4294967296-bw)%4294967296:Nat):Int)=((x:Int)+4294967296-(bw:Int))%4294967296 by omega]at h
         exact⟨k+1,1-(x+4294967296-bw)/4294967296,by go_num,congrArg (Value.int .u64) (by omega),by omega,by omega,h⟩
       case measure=>simp [intOf];omega
   · obtain rfl:k=la.length:=by omega
     have hdig:=h4.dig
     rw[h1]at hdig
     have H5:=Lib.hid (minus_end h1 h2 hlen h5 Hle.out)
     have H2:=Lib.hid h2;have H6:=Lib.hid h6;have Hdig:=Lib.hid hdig
     have hsz:=h6.size
     clear h1 h2 h3 h4 h5 h6 hdig
     go_wp2_with (go_at_call 53;(with_reducible refine(pnorm_N _ cs _ Hdig.out H2.out).mono ?_);rintro e w2 ⟨v,rfl,hv,hb2⟩)
     rw[H5.out]at hv
     have Hfin:=Lib.hid (H6.out.trans (hb2.mono hsz))
     clear hb2
     go_wp2
     go_ret
     exact⟨v,rfl,hv,Hfin.out⟩
set_option maxHeartbeats 2000000 in
set_option maxRecDepth 100000 in
theorem pleft_any (va:Value) (na n:Nat) (w:World) (ha:IsN w va na) (hsa:na<2^1000000) (hn:n≤1000000):
   Calls Tryz.prog 47 #[va,.int .i64 n] w (NatRes w (na*2^n)):=by
 obtain⟨la,⟨aa,ca,rfl,hla,hca,hra⟩,hna,rfl⟩:=ha
 have hka:=len_le hna hsa
 have Hda:=Lib.hid hna.1
 clear hna hsa
 have Hra:=Lib.hid hra
 clear hra
 obtain⟨i0,hi,hz0,hz1,hz2⟩:=info_parts info_u64
 have Hi:=Lib.hid hi;have Hz0:=Lib.hid hz0;have Hz1:=Lib.hid hz1;have Hz2:=Lib.hid hz2
 clear hi hz0 hz1 hz2
 obtain⟨q,s,hq,hs⟩: ∃q s:Nat,n=32*q+s∧s<32:=⟨n/32,n%32,by omega,by omega⟩
 have Hq:=Lib.hid hq
 have hq1:q≤31250:=by omega
 have hq2:((n:Int)/32)=(q:Int):=by omega
 have hq3:((n:Int)%32)=(s:Int):=by omega
 clear hq
 go_enter Tryz.func47,Tryz.ntmps47
 go_wp2_with (at_make;refine wpList_make_part _ rfl _ _ 86 rfl w.heap.size 61 i0 Tryz.underlying86 Hi.out Hz0.out Hz1.out .i64 .i64 _ _ q (q+la.length+1) rfl rfl (by simp) (by simp) (by omega) (by rw[Hz2.out];omega) (by unfold maxLen;omega) (Nat.le_refl _) ?_)
 intro w1 hown1 hgrow1
 have Hst:Hid (LeftRel w.heap.size w la q s 0 (.slice (some ⟨w.heap.size,0,none⟩) q (q+la.length+1)) 0 w1):=by
   have ho:=hown1
   refine⟨List.replicate q 0,by simp,zeros_digits _,?_,by simp [valL,valL_zeros],(Below.refl _ _).grown hgrow1 (Nat.le_refl _) (fun k hk=>by simp at hk)⟩
   rw[List.length_replicate,List.map_replicate]
   exact ho
 clear hown1 hgrow1
 go_wp2
 go_loopw [5,6,8,20] (fun c y _ i wr=> ∃k cy:Nat,i= .int .i64 k∧y= .int .u64 cy∧cy<2^s∧k≤la.length∧LeftRel w.heap.size w la q s k c cy wr) (fun _ _ _ i _=>la.length-(intOf i).toNat)
 case atStart=>exact⟨0,0,rfl,rfl,Nat.pow_pos (by decide),Nat.zero_le _,Hst.out⟩
 case round=>
   obtain⟨k,cy,rfl,rfl,hcy,hk,cs,hcl,hcd,hown,hcv,hbel⟩:=hrel
   have hsz:=hbel.size
   have Hown:=Lib.hid hown;have Hcd:=Lib.hid hcd;have Hcv:=Lib.hid hcv;have Hcl:=Lib.hid hcl
   have Hob:=Lib.hid (fun g hg=>(hown.lt g hg).1)
   clear hown hcd hcv hcl Hst
   by_cases hA:k<la.length
   · obtain⟨ba,oa,rfl,hcella⟩:=Hra.out (by omega)
     have hcA:=cell_later hbel (hcella k hA)
     clear hcella
     have hxa:=Hda.out _ (getD_mem hA)
     have Hst:=fun w1 c1 o h1 h2=>Lib.hid (left_step (w1:=w1) (c1:=c1) (o:=o) (x:=(((la.getD k 0*2^s+cy)%4294967296:Nat):Int)) Hcl.out Hcd.out Hcv.out hbel hsz Hob.out h1 h2 rfl)
     have Hcar:=Lib.hid (carry_lt (p:=2^s) hxa hcy)
     have Hbel:=Lib.hid hbel
     clear hbel
     generalize la.getD k 0=x at*
     have hp31:2^s≤2147483648:=Nat.pow_le_pow_right (n:=2) (by decide) (show s≤31 by omega)
     have hzb:x*2^s≤4294967295*2147483648:=Nat.mul_le_mul (by omega) hp31
     have hzi:(x:Int)*2^s=((x*2^s:Nat):Int):=by rw[Int.natCast_mul,Int.natCast_pow];rfl
     have hc32:cy<4294967296:=by omega
     generalize x*2^s=z at*
     have Hcy:=Lib.hid hcy
     clear hp31 hcy
     go_wp2_with (at_builtin;refine wpList_append_own _ rfl _ _ 86 rfl w.heap.size 61 i0 (.int .u64 0) 1 8 Tryz.underlying86 Hi.out Hz0.out Hz1.out Hz2.out rfl (by decide) _ _ _ rfl (Hown.out.alloc _) ⟨wr.heap.size,0,none⟩ 1 1 [.int .u64 (((z:Int)+(cy:Int))%4294967296)] rfl rfl one_news ?_ ?_ ?_ ?_ ?_)
     · intro u hu;simp at hu;subst hu;rfl
     · rw[Hcl.out];unfold maxLen;omega
     · rw[Hcl.out];omega
     · simp;omega
     · intro c1 w1 hown1 hgrow1 _
       have Hst1:=Hst w1 c1 _ (by rw[Hcl.out]at hown1;rw[show (((z+cy)%4294967296:Nat):Int)=((z:Int)+(cy:Int))%4294967296 by omega];exact hown1) hgrow1
       clear hown1 hgrow1 Hst
       go_wp2
       go_roundw
       case rel=>exact⟨k+1,(z+cy)/4294967296,by go_num,by go_num,Hcar.out,by omega,Hst1.out⟩
       case measure=>simp [intOf];omega
   · have Hv:=Lib.hid (left_end Hcl.out (Nat.le_of_not_lt hA) n Hq.out Hcv.out)
     have hc32:cy<4294967296:=Nat.lt_of_lt_of_le hcy (Nat.pow_le_pow_right (n:=2) (by decide) (show s≤32 by omega))
     have Hdig:=Lib.hid (digits_snoc Hcd.out hc32)
     have Hbel:=Lib.hid hbel
     clear hcy hbel
     go_wp2_with (first|(at_builtin;refine wpList_append_own _ rfl _ _ 86 rfl w.heap.size 61 i0 (.int .u64 0) 1 8 Tryz.underlying86 Hi.out Hz0.out Hz1.out Hz2.out rfl (by decide) _ _ _ rfl (Hown.out.alloc _) ⟨wr.heap.size,0,none⟩ 1 1 [.int .u64 (cy:Int)] rfl rfl one_news ?_ ?_ ?_ ?_ ?_))
     · intro u hu;simp at hu;subst hu;rfl
     · rw[Hcl.out];unfold maxLen;omega
     · rw[Hcl.out];omega
     · simp;omega
     · intro c1 w1 hown1 hgrow1 _
       have Hdg:=Lib.hid (dig_of_own (own_snoc hown1 rfl cy rfl))
       have hb1:=(Hbel.out.alloc hsz _).grown hgrow1 (by simp;omega) Hob.out
       have Hb1:=Lib.hid hb1
       clear hb1 hown1 hgrow1
       go_wp2_with (go_at_call 53;(with_reducible refine(pnorm_N _ _ _ Hdg.out Hdig.out).mono ?_);rintro e w2 ⟨v,rfl,hv,hb2⟩)
       rw[Hv.out]at hv
       have Hfin:=Lib.hid (Hb1.out.trans (hb2.mono Hb1.out.size))
       clear hb2
       go_wp2
       go_ret
       exact⟨v,rfl,hv,Hfin.out⟩
end
section
open Go.RowKit
theorem times_start {w w1:World} {la lb:List Nat}
   (h:w1.ownsRow w.heap.size 61 1 (.slice (some ⟨w.heap.size,0,none⟩) (la.length+lb.length) (la.length+lb.length)) (la.length+lb.length) (List.replicate (la.length+lb.length) (.int .u64 0)))
   (hg:w.grownBy w1 none):TimesOut w.heap.size w.heap.size w la lb 0 w1:=by
 refine⟨List.replicate (la.length+lb.length) 0,by simp,fun d hd=>by rw[List.eq_of_mem_replicate hd];decide,fun q _=> ?_,?_,by simp [valL,valL_zeros],(Below.refl _ _).grown hg (Nat.le_refl _) (fun k hk=>by simp at hk)⟩
 · rw[List.getD_eq_getElem?_getD,List.getElem?_replicate];split<;>rfl
 · unfold OwnD
   rw[List.length_replicate,List.map_replicate]
   exact h
end
section
open Go.RowKit
theorem two_digits (b:Nat) (hb:b<18446744073709551616): ∀d∈[b%4294967296,b/4294967296],d<4294967296:=by
 intro d hd
 simp at hd
 omega
set_option maxHeartbeats 4000000 in
set_option maxRecDepth 100000 in
theorem pmul_any (va:Value) (na b:Nat) (w:World) (ha:IsN w va na) (hsa:na<2^100000) (hb:b<18446744073709551616):
   Calls Tryz.prog 29 #[va,.int .u64 b] w (NatRes w (b*na)):=by
 obtain⟨la,⟨aa,ca,rfl,hla,hca,hra⟩,hna,rfl⟩:=ha
 have hka:=len_le hna hsa
 have Hda:=Lib.hid hna.1
 clear hna hsa
 have Hra:=Lib.hid hra
 clear hra
 obtain⟨lm,hlm⟩: ∃lm:List Nat,lm=[b%4294967296,b/4294967296]:=⟨_,rfl⟩
 have Hdm:Hid (∀d∈lm,d<4294967296):=Lib.hid (by rw[hlm];exact two_digits b hb)
 have Hlm2:Hid (lm.length=2):=Lib.hid (by rw[hlm];rfl)
 have Hval:Hid (valL lm=b):=Lib.hid (by rw[hlm];exact valL_two b)
 have Hlm0:Hid (lm.getD 0 0=b%4294967296∧lm.getD 1 0=b/4294967296):=Lib.hid (by rw[hlm];exact⟨rfl,rfl⟩)
 clear hlm
 have hbi:(b:Int)<18446744073709551616:=by omega
 obtain⟨i0,hi,hz0,hz1,hz2⟩:=info_parts info_u64
 have Hi:=Lib.hid hi;have Hz0:=Lib.hid hz0;have Hz1:=Lib.hid hz1;have Hz2:=Lib.hid hz2
 clear hi hz0 hz1 hz2
 go_enter Tryz.func29,Tryz.ntmps29
 go_wp2_with (at_make;refine wpList_make_full _ rfl _ _ 86 rfl w.heap.size 61 i0 (.int .u64 0) 1 Tryz.underlying86 Hi.out Hz0.out Hz1.out .i64 .i64 _ _ (la.length+2) rfl rfl (by simp) (by simp) (by rw[Hz2.out];omega) (by unfold maxLen;omega) (Nat.le_refl _) ?_)
 intro w1 hown1 hgrow1
 have hlt1:=(hown1.lt w.heap.size rfl).2
 have hst:TimesOut w.heap.size w.heap.size w lm la 0 w1:=times_start (by rw[toList_madeCells_one]at hown1;rw[Hlm2.out,Nat.add_comm 2 la.length];simpa using hown1) hgrow1
 have Hst:=Lib.hid hst
 have hsz1:=hgrow1.size
 clear hown1 hgrow1 hst
 go_wp2
 obtain⟨g2,hg2⟩: ∃g2:Nat,g2=w1.heap.size:=⟨_,rfl⟩
 have Hc2:Hid ((w1.alloc (.cells #[.int .u64 ((b:Int)%4294967296),.int .u64 ((b:Int)/4294967296)] 61)).cell? ⟨g2,0,none⟩=some (.int .u64 (lm.getD 0 0:Nat))∧(w1.alloc (.cells #[.int .u64 ((b:Int)%4294967296),.int .u64 ((b:Int)/4294967296)] 61)).cell? ⟨g2,1,none⟩=some (.int .u64 (lm.getD 1 0:Nat))):=Lib.hid (by
   subst hg2
   rw[Hlm0.out.1,Hlm0.out.2]
   exact⟨by simp [go_sem],by simp [go_sem]⟩)
 have Hst2:Hid (TimesOut w.heap.size w.heap.size w lm la 0 (w1.alloc (.cells #[.int .u64 ((b:Int)%4294967296),.int .u64 ((b:Int)/4294967296)] 61))):=Lib.hid (by
   obtain⟨cs,h1,h2,h3,h4,h5,h6⟩:=Hst.out
   exact⟨cs,h1,h2,h3,World.ownsRow.alloc h4 _,h5,h6.alloc hsz1 _⟩)
 clear Hlm0 Hst
 rw[← hg2]
 have hne2:w.heap.size≠g2:=by omega
 have Hg2:=Lib.hid hg2
 clear hg2
 go_loopw [8,9,10,11,12,25] (fun _ _ _ _ _ i wr=> ∃k:Nat,i= .int .i64 k∧k≤2∧TimesOut w.heap.size w.heap.size w lm la k wr∧wr.cell? ⟨g2,0,none⟩=some (.int .u64 (lm.getD 0 0:Nat))∧wr.cell? ⟨g2,1,none⟩=some (.int .u64 (lm.getD 1 0:Nat))) (fun _ _ _ _ _ i _=>2-(intOf i).toNat)
 case atStart=>exact⟨0,rfl,Nat.zero_le _,Hst2.out,Hc2.out.1,Hc2.out.2⟩
 case round=>
   obtain⟨k,rfl,hk,hout,hd0,hd1⟩:=hrel
   have Hout:=Lib.hid hout
   have Hd:=Lib.hid (And.intro hd0 hd1)
   clear hout hd0 hd1 Hst2 Hc2
   by_cases hA:k<2
   · have hxd:wr.cell? ⟨g2,k,none⟩=some (.int .u64 (lm.getD k 0:Nat)):=by
       match k,hA with
       |0,_=>exact Hd.out.1
       |1,_=>exact Hd.out.2
     have hkm:k<lm.length:=by rw[Hlm2.out];exact hA
     have Hkm:=Lib.hid hkm
     have hxb:=Hdm.out _ (getD_mem hkm)
     have hlt2:=World.block_lt_of_cell? _ _ hxd
     have hik0:(0:Int)≤(k:Int):=by omega
     have hik1:(k:Int)<2:=by omega
     clear hkm
     obtain⟨x,hx⟩: ∃x,x=lm.getD k 0:=⟨_,rfl⟩
     rw[← hx]at hxd hxb
     have Hx:=Lib.hid hx
     clear hx
     obtain⟨wo,hwo⟩: ∃wo:World,wo=wr:=⟨_,rfl⟩
     subst hwo
     go_wp2
     go_loopw [10,11,32] (fun y _ j wr=> ∃m cy:Nat,j= .int .i64 m∧y= .int .u64 cy∧m≤la.length∧cy<4294967296∧TimesIn w.heap.size w.heap.size w lm la k m cy wr∧wr.cell? ⟨g2,0,none⟩=some (.int .u64 (lm.getD 0 0:Nat))∧wr.cell? ⟨g2,1,none⟩=some (.int .u64 (lm.getD 1 0:Nat))) (fun _ _ j _=>la.length-(intOf j).toNat)
     case atStart=>exact⟨0,0,rfl,rfl,Nat.zero_le _,by decide,times_in Hout.out,Hd.out.1,Hd.out.2⟩
     case round=>
       obtain⟨m,cy,rfl,rfl,hm,hcy,⟨cs,h1,h2,h3,h4,h5,h6⟩,hd0,hd1⟩:=hrel
       have Hd2:=Lib.hid (And.intro hd0 hd1)
       clear hd0 hd1 Hd Hout hxd
       have hle:k+la.length<la.length+2:=by omega
       have hcl:=Hlm2.out
       by_cases hB:m<la.length
       · obtain⟨ba,oa,rfl,hcella⟩:=Hra.out (by omega)
         have hcA:=cell_later h6 (hcella m hB)
         clear hcella
         have hyb:=Hda.out _ (getD_mem hB)
         have hcC:=h4.cell (q:=k+m) (by omega)
         have hfC:=h4.free (k+m)
         have hxc:=h2 _ (getD_mem (l:=cs) (k:=k+m) (by omega))
         have Hstep:=Lib.hid (fun n=>times_step h1 h2 h3 h4 h5 h6 Hkm.out hB n)
         have hmul:=digit_mul _ _ hxb hyb
         clear h1 h2 h3 h4 h5 h6 hcl
         rw[← Hx.out]at Hstep
         generalize la.getD m 0=y at*
         generalize cs.getD (k+m) 0=z at*
         generalize hp:x*y=p at*
         have hpi:(y:Int)*(x:Int)=(p:Int):=by rw[← hp,Int.mul_comm];exact(Int.natCast_mul x y).symm
         clear hp
         rw[Nat.add_comm k m]at hcC hfC Hstep
         have e1:IntKind.i64.wrap ((m:Int)+(k:Int))=(m:Int)+(k:Int):=IntWalk.i64_in _ (by omega)
         have e2:((m:Int)+(k:Int)).toNat=m+k:=by omega
         have e3:(0:Int)≤(m:Int)+(k:Int):=by omega
         have e4:(m:Int)+(k:Int)<(la.length:Int)+2:=by omega
         have hm0:(0:Int)≤(m:Int):=by omega
         have hm1:(m:Int)<(la.length:Int):=by omega
         go_wp2
         go_quiet (fail)
         go_wp2
         go_roundw
         case rel=>
           refine⟨m+1,(cy+(p+z))/4294967296,by go_num,by go_num,by omega,by omega,?_,?_,?_⟩
           · have h:=Hstep.out nq
             rw[show (((cy+(p+z))%4294967296:Nat):Int)=((cy:Int)+((p:Int)+(z:Int)))%4294967296 by omega]at h
             exact h
           · rw[World.cell?_setCell_other _ _ _ _ (by first|(simp;done)|(simp;omega)),World.cell?_drewN];exact Hd2.out.1
           · rw[World.cell?_setCell_other _ _ _ _ (by first|(simp;done)|(simp;omega)),World.cell?_drewN];exact Hd2.out.2
         case measure=>simp [intOf];omega
       · obtain rfl:m=la.length:=by omega
         have hcC:=h4.cell (q:=k+la.length) (by omega)
         rw[h3 _ (Nat.le_refl _)]at hcC
         have hfC:=h4.free (k+la.length)
         have Hcl:=Lib.hid (times_close h1 h2 h3 h4 h5 h6 Hkm.out hcy)
         clear h1 h2 h3 h4 h5 h6 hcl
         rw[Nat.add_comm k la.length]at hcC hfC Hcl
         have e1:IntKind.i64.wrap ((la.length:Int)+(k:Int))=(la.length:Int)+(k:Int):=IntWalk.i64_in _ (by omega)
         have e2:((la.length:Int)+(k:Int)).toNat=la.length+k:=by omega
         have e3:(0:Int)≤(la.length:Int)+(k:Int):=by omega
         have e4:(la.length:Int)+(k:Int)<(la.length:Int)+2:=by omega
         go_wp2
         go_roundw
         case rel=>
           refine⟨k+1,by go_num,by omega,Hcl.out,?_,?_⟩
           · rw[World.cell?_setCell_other _ _ _ _ (by first|(simp;done)|(simp;omega))];exact Hd2.out.1
           · rw[World.cell?_setCell_other _ _ _ _ (by first|(simp;done)|(simp;omega))];exact Hd2.out.2
         case measure=>simp [intOf];omega
   · obtain rfl:k=2:=by omega
     obtain⟨cs,h1,h2,h3,h4,h5,h6⟩:=Hout.out
     have hdig:=h4.dig
     rw[h1,Hlm2.out,Nat.add_comm 2 la.length]at hdig
     rw[List.take_of_length_le (by rw[Hlm2.out];exact Nat.le_refl _),Hval.out]at h5
     have H2:=Lib.hid h2;have H5:=Lib.hid h5;have H6:=Lib.hid h6;have Hdig:=Lib.hid hdig
     have hsz:=h6.size
     clear h1 h2 h3 h4 h5 h6 hdig Hout Hd
     go_wp2_with (go_at_call 53;(with_reducible refine(pnorm_N _ cs _ Hdig.out H2.out).mono ?_);rintro e w2 ⟨v,rfl,hv,hb2⟩)
     rw[H5.out]at hv
     have Hfin:=Lib.hid (H6.out.trans (hb2.mono hsz))
     clear hb2
     go_wp2
     go_ret
     exact⟨v,rfl,hv,Hfin.out⟩
end
section
open Go.RowKit
def QuoRes (w:World) (a b:Nat) (e:Ending) (w':World):Prop:= ∃v1 v2,e= .returned (.tuple #[v1,v2])∧IsN w' v1 a∧IsN w' v2 b∧Below w.heap.size w w'
theorem pow_up {x m n:Nat} (h:x<2^m) (h':m≤n):x<2^n:=Nat.lt_of_lt_of_le h (Nat.pow_le_pow_right (by decide) h')
theorem quo_take {na nb q r m:Nat} (h:na=q*nb+r) (hr:r<nb*2^(m+1)) (ht:nb*2^m≤r):na=(q+2^m)*nb+(r-nb*2^m)∧r-nb*2^m<nb*2^m:=by
 rw[Nat.pow_succ,←Nat.mul_assoc]at hr
 refine⟨?_,by omega⟩
 rw[Nat.add_mul,Nat.mul_comm (2^m) nb]
 omega
end
section
open Go.RowKit
def PQuoYes (w:World) (q r:Nat) (e:Ending) (w':World):Prop:= ∃v,e= .returned (.tuple #[.int .u64 q,v,.bool true])∧IsN w' v r∧Below w.heap.size w w'
set_option maxHeartbeats 1000000 in
theorem pquo_no (va vb:Value) (na nb:Nat) (w:World) (ha:IsN w va na) (hb:IsN w vb nb) (hsa:na<2^90000) (hsb:nb<2^90000) (h:bitLen nb+63<bitLen na):
   Calls Tryz.prog 48 #[va,vb] w fun e w'=>e= .returned (.tuple #[.int .u64 0,.slice none 0 0,.bool false])∧w=w':=by
 have hba:=bitLen_lt hsa
 have hbb:=bitLen_lt hsb
 have Hsa6:=Lib.hid (pow_up (m:=90000) (n:=1000000) hsa (by omega))
 have Hsb6:=Lib.hid (pow_up (m:=90000) (n:=1000000) hsb (by omega))
 have Ha:=Lib.hid ha;have Hb:=Lib.hid hb
 clear ha hb hsa hsb
 go_enter Tryz.func48,Tryz.ntmps48
 go_wp2_with fail
 refine(pbits_any va na _ Ha.out Hsa6.out).mono ?_
 rintro e w1 ⟨rfl,rfl⟩
 go_wp2_with fail
 refine(pbits_any vb nb _ Hb.out Hsb6.out).mono ?_
 rintro e w1 ⟨rfl,rfl⟩
 generalize bitLen na=p at*
 generalize bitLen nb=q at*
 have hpq:(63:Int)<(p:Int)-(q:Int):=by omega
 go_wp2
 go_ret3
 exact⟨rfl,rfl⟩
set_option maxHeartbeats 4000000 in
set_option maxRecDepth 100000 in
theorem pquo_yes (va vb:Value) (na nb:Nat) (w:World) (ha:IsN w va na) (hb:IsN w vb nb) (h0:0<nb) (hsa:na<2^90000) (hsb:nb<2^90000) (h:bitLen na≤bitLen nb+63) (hq:na/nb<18446744073709551616):
   Calls Tryz.prog 48 #[va,vb] w (PQuoYes w (na/nb) (na%nb)):=by
 have hba:=bitLen_lt hsa
 have hbb:=bitLen_lt hsb
 have Hsa6:=Lib.hid (pow_up (m:=90000) (n:=1000000) hsa (by omega))
 have Hsb6:=Lib.hid (pow_up (m:=90000) (n:=1000000) hsb (by omega))
 have Ha:=Lib.hid ha;have Hb:=Lib.hid hb;have H0:=Lib.hid h0;have Hqq:=Lib.hid hq
 have Kp:=Lib.hid (fun W (h:IsN W va na)=>pbits_any va na W h Hsa6.out)
 have Kq:=Lib.hid (fun W (h:IsN W vb nb)=>pbits_any vb nb W h Hsb6.out)
 have Kl:=Lib.hid (fun (m:Nat) W (h:IsN W vb nb) (hm:m≤1000000)=>pleft_any vb nb m W h Hsb6.out hm)
 have Ks:=Lib.hid (fun u t r m W (h:IsN W u r) (ht:IsN W t m) (hm:m≤r) (hr:r≤na)=>psub_any u t r m W h ht hm (Nat.lt_of_le_of_lt hr Hsa6.out))
 clear Hsa6 Hsb6
 have Hz1:=Lib.hid (fun h=>quo_small (na:=na) (nb:=nb) h)
 have Hz2:=Lib.hid (fun j h=>quo_start (na:=na) (nb:=nb) h0 (j:=j) h)
 clear ha hb hsa hsb h0 hq
 go_enter Tryz.func48,Tryz.ntmps48
 go_wp2_with fail
 refine(Kp.out _ Ha.out).mono ?_
 rintro e w1 ⟨rfl,rfl⟩
 go_wp2_with fail
 refine(Kq.out _ Hb.out).mono ?_
 rintro e w1 ⟨rfl,rfl⟩
 have hpq: ¬(63:Int)<(bitLen na:Int)-(bitLen nb:Int):=by omega
 go_wp2_with fail
 refine(Kp.out _ Ha.out).mono ?_
 rintro e w1 ⟨rfl,rfl⟩
 go_wp2_with fail
 refine(Kq.out _ Hb.out).mono ?_
 rintro e w1 ⟨rfl,rfl⟩
 generalize bitLen na=p at*
 generalize bitLen nb=q at*
 go_wp2
 go_loopw [0,7,8,9] (fun a c n _ wr=> ∃(i:Int) (r k:Nat),n= .int .i64 i∧ -2000000≤i∧i≤63∧IsN wr a r∧c= .int .u64 k∧na=k*nb+r∧r<nb*2^(i+1).toNat∧Below w.heap.size w wr) (fun _ _ n _ _=>(intOf n+1).toNat)
 case atStart=>
   refine⟨(p:Int)-(q:Int),na,0,rfl,by omega,by omega,Ha.out,rfl,by simp,?_,Below.refl _ _⟩
   by_cases hpq:p<q
   · rw[show ((p:Int)-(q:Int)+1).toNat=0 by omega]
     simpa using Hz1.out hpq
   · rw[show ((p:Int)-(q:Int)+1).toNat=p-q+1 by omega]
     exact Hz2.out (p-q) (by omega)
 case round=>
   obtain⟨i,r,k,rfl,hi0,hi1,hA,rfl,hval,hlt,hbel⟩:=hrel
   have HA:=Lib.hid hA;have Hval:=Lib.hid hval;have Hlt:=Lib.hid hlt;have Hbel:=Lib.hid hbel
   clear hA hval hlt hbel hpq
   by_cases hi:0≤i
   · obtain⟨m,rfl⟩:=Int.eq_ofNat_of_zero_le hi
     go_wp2_with fail
     refine(Kl.out m _ (Hb.out.later Hbel.out) (by omega)).mono ?_
     rintro e w1 ⟨t,rfl,hT,hb1⟩
     have HT:=Lib.hid hT
     have Hb1:Hid (Below w.heap.size w w1):=Hbel.out.trans (hb1.mono Hbel.out.size)
     have HA1:=Lib.hid (HA.out.later hb1)
     clear hT hb1 HA
     go_wp2_with fail
     refine(pcompare_any t _ _ r _ HT.out HA1.out).mono ?_
     rintro e w2 ⟨rfl,n3,rfl⟩
     by_cases hle:nb*2^m≤r
     · have hcm:=cmpI_le.2 hle
       have Hle:=Lib.hid hle
       have hlt2:=Hlt.out
       rw[show ((m:Int)+1).toNat=m+1 by omega]at hlt2
       have Hq:=Lib.hid (quo_take Hval.out hlt2 hle)
       have Hrn:=Lib.hid (show r≤na by have:=Hval.out;omega)
       have hkq:k+2^m<18446744073709551616:=by
         have h1:=Hq.out.1
         have h2:k+2^m≤na/nb:=(Nat.le_div_iff_mul_le H0.out).2 (by omega)
         have:=Hqq.out
         omega
       have hpw:(1:Int)*2^m=((2^m:Nat):Int):=by rw[Int.one_mul,Int.natCast_pow];rfl
       have hpw2:(2:Int)^m=((2^m:Nat):Int):=by rw[Int.natCast_pow];rfl
       have Hpos:Hid (2^m=2^m):=Lib.hid rfl
       clear hle hlt2
       generalize cmpI (nb*2^m) r=cm at*
       go_wp2_with fail
       refine(Ks.out _ t r (nb*2^m) _ (HA1.out.later (below_drewN (Below.refl _ _) _)) (HT.out.later (below_drewN (Below.refl _ _) _)) Hle.out Hrn.out).mono ?_
       rintro e w3 ⟨a2,rfl,hA2,hb3⟩
       have hb3':Below w1.heap.size w1 w3:=(below_drewN (Below.refl _ _) _).trans hb3
       have HA2:=Lib.hid hA2
       have Hb3:Hid (Below w.heap.size w w3):=Hb1.out.trans (hb3'.mono Hb1.out.size)
       clear hb3 hb3' hA2 HA1 HT Hpos
       have Hle:=Lib.hid Hle.out
       have Hgoal:Hid (na=(k+2^m)*nb+(r-nb*2^m)∧r-nb*2^m<nb*2^((m:Int)-1+1).toNat):=Lib.hid ⟨Hq.out.1,by rw[show ((m:Int)-1+1).toNat=m by omega];exact Hq.out.2⟩
       clear Hq
       generalize r-nb*2^m=r2 at*
       generalize 2^m=pw at*
       go_wp2
       go_roundw
       case rel=>exact⟨(m:Int)-1,r2,k+pw,by go_num,by omega,by omega,HA2.out,by go_num,Hgoal.out.1,Hgoal.out.2,Hb3.out⟩
       case measure=>simp [intOf]
     · have hcm:0<cmpI (nb*2^m) r:=Int.not_le.1 fun h=>hle (cmpI_le.1 h)
       have Hle:=Lib.hid hle
       have HA2:=Lib.hid (HA1.out.later (below_drewN (Below.refl w1.heap.size w1) n3))
       have Hb2:=Lib.hid (below_drewN Hb1.out n3)
       clear hle HA1
       generalize cmpI (nb*2^m) r=cm at*
       go_wp2
       go_roundw
       case rel=>exact⟨(m:Int)-1,r,k,by go_num,by omega,by omega,HA2.out,rfl,Hval.out,by rw[show ((m:Int)-1+1).toNat=m by omega];have:=Hle.out;omega,Hb2.out⟩
       case measure=>simp [intOf]
   · have hr:r<nb:=by have:=Hlt.out;rw[show (i+1).toNat=0 by omega]at this;simpa using this
     have He:=Lib.hid (quo_end Hval.out hr)
     clear hr
     go_wp2
     go_ret3
     refine⟨_,by rw[← He.out.1];rfl,?_,Hbel.out⟩
     rw[← He.out.2];exact HA.out
end
end Go.Proofs.YtemnhpdjoimjbaaGreatDoor
