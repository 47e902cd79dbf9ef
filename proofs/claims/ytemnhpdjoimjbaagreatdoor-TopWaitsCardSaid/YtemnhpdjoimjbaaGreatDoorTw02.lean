import Derived.Test.YtemnhpdjoimjbaaGreatDoorTw01
import Derived.IntWalk
namespace Go.Proofs.YtemnhpdjoimjbaaGreatDoor
section
open Go.RowKit
def limV (T tau:Int):Value:= .agg #[.int .i64 T,.int .i64 tau]
def limB (T tau:Int):Bool:=tickB T&&decide (1≤T)&&tickB tau
theorem limB_yes {T tau:Int} (h:limB T tau=true):tickB T=true∧1≤T∧tickB tau=true:=by
 simp only[limB,Bool.and_eq_true,decide_eq_true_eq]at h
 exact⟨h.1.1,h.1.2,h.2⟩
set_option maxHeartbeats 400000 in
theorem rcheck_yes (T tau:Int) (w:World) (h:limB T tau=true):
   Calls Tryz.prog 77 #[limV T tau] w (IntRes w 0):=by
 obtain⟨h1,h2,h3⟩:=limB_yes h
 clear h
 unfold limV
 go_enter Tryz.func77,Tryz.ntmps77
 go_wp2_with (go_at_call 42;(with_reducible refine(form_any _ _).mono ?_);rintro e w' ⟨rfl,rfl⟩)
 go_ret
 exact⟨rfl,(Below.refl _ _).alloc (Nat.le_refl _) _⟩
set_option maxHeartbeats 400000 in
theorem rcheck_no (T tau:Int) (w:World) (h:limB T tau=false):
   Calls Tryz.prog 77 #[limV T tau] w (IntRes w 1):=by
 unfold limV
 cases h1:tickB T with
 |false=>
   clear h
   go_enter Tryz.func77,Tryz.ntmps77
   go_wp2_with (go_at_call 42;(with_reducible refine(form_any _ _).mono ?_);rintro e w' ⟨rfl,rfl⟩)
   go_ret
   exact⟨rfl,(Below.refl _ _).alloc (Nat.le_refl _) _⟩
 |true=>
   by_cases h2:1≤T
   · have h3:tickB tau=false:=by simpa [limB,h1,h2]using h
     clear h
     go_enter Tryz.func77,Tryz.ntmps77
     go_wp2_with (go_at_call 42;(with_reducible refine(form_any _ _).mono ?_);rintro e w' ⟨rfl,rfl⟩)
     go_ret
     exact⟨rfl,(Below.refl _ _).alloc (Nat.le_refl _) _⟩
   · have h3:T<1:=by omega
     clear h h2
     go_enter Tryz.func77,Tryz.ntmps77
     go_wp2_with (go_at_call 42;(with_reducible refine(form_any _ _).mono ?_);rintro e w' ⟨rfl,rfl⟩)
     go_ret
     exact⟨rfl,(Below.refl _ _).alloc (Nat.le_refl _) _⟩
def leftB (T tau base now:Int):Int:=if tau<base-now then 0 else min ((tau-(base-now))/T+1) ((4611686018427387903-base)/T)
def leftI (T tau tat now:Int):Int:=leftB T tau (max tat now) now
theorem ret_i {a b:Int} (h:a=b):Ending.returned (.int .i64 a)= .returned (.int .i64 b):=by rw[h]
set_option maxHeartbeats 1000000 in
theorem gleft_any (T tau tat now:Int) (w:World) (h:limB T tau=true) (ht:tickB tat=true) (hn:tickB now=true):
   Calls Tryz.prog 166 #[limV T tau,.int .i64 tat,.int .i64 now] w (IntRes w (leftI T tau tat now)):=by
 obtain⟨h1,h2,h3⟩:=limB_yes h
 obtain⟨a0,a1⟩:=tickB_yes h1
 obtain⟨b0,b1⟩:=tickB_yes h3
 obtain⟨c0,c1⟩:=tickB_yes ht
 obtain⟨d0,d1⟩:=tickB_yes hn
 have hne:(T==0)=false:=beq_eq_false_iff_ne.2 (by omega)
 unfold limV
 clear h h1 h3 ht hn
 by_cases hm:tat<now
 · have e:leftI T tau tat now=min (tau/T+1) ((4611686018427387903-now)/T):=by
     unfold leftI leftB
     rw[show max tat now=now by omega,if_neg (by omega),show tau-(now-now)=tau by omega]
   rw[e]
   clear e
   have hd: ¬tau<0:=by omega
   obtain⟨q10,q11,_,_⟩:=div_tick (a:=tau) (b:=T) (by omega) (by omega)
   obtain⟨q20,q21,_,_⟩:=div_tick (a:=4611686018427387903-now) (b:=T) (by omega) (by omega)
   have e1:wrap64 (tau/T+1)=tau/T+1:=IntWalk.wrap64_in _ (by omega)
   go_enter Tryz.func166,Tryz.ntmps166
   go_wp2
   go_quiet (fail)
   go_wp2
   all_goals
     go_ret
     exact⟨ret_i (by omega),below_drewN ((Below.refl _ _).alloc (Nat.le_refl _) _) _⟩
 · by_cases hd:tau<tat-now
   · have e:leftI T tau tat now=0:=by
       unfold leftI leftB
       rw[show max tat now=tat by omega,if_pos hd]
     rw[e]
     clear e
     go_enter Tryz.func166,Tryz.ntmps166
     go_wp2
     go_ret
     exact⟨rfl,(Below.refl _ _).alloc (Nat.le_refl _) _⟩
   · have e:leftI T tau tat now=min ((tau-(tat-now))/T+1) ((4611686018427387903-tat)/T):=by
       unfold leftI leftB
       rw[show max tat now=tat by omega,if_neg hd]
     rw[e]
     clear e
     obtain⟨q10,q11,_,_⟩:=div_tick (a:=tau-(tat-now)) (b:=T) (by omega) (by omega)
     obtain⟨q20,q21,_,_⟩:=div_tick (a:=4611686018427387903-tat) (b:=T) (by omega) (by omega)
     have e1:wrap64 ((tau-(tat-now))/T+1)=(tau-(tat-now))/T+1:=IntWalk.wrap64_in _ (by omega)
     have e2:wrap64 (tau-(tat-now))=tau-(tat-now):=IntWalk.wrap64_in _ (by omega)
     have e3:0≤tau-(tat-now):=by omega
     go_enter Tryz.func166,Tryz.ntmps166
     go_wp2
     go_quiet (fail)
     go_wp2
     all_goals
       go_ret
       exact⟨ret_i (by omega),below_drewN ((Below.refl _ _).alloc (Nat.le_refl _) _) _⟩
def aheadB (T tau n:Int):Bool:=decide ((n-1)*T≤tau)
def AheadRes (w:World) (T tau n:Int) (e:Ending) (w':World):Prop:= ∃x:Int,e= .returned (.tuple #[.int .i64 x,.bool (aheadB T tau n)])∧(aheadB T tau n=true→x=(n-1)*T)∧Below w.heap.size w w'
set_option maxHeartbeats 1000000 in
theorem gahead_any (T tau n:Int) (w:World) (h:limB T tau=true) (hn:tickB n=true) (h0:1≤n):
   Calls Tryz.prog 181 #[limV T tau,.int .i64 n] w (AheadRes w T tau n):=by
 obtain⟨h1,h2,h3⟩:=limB_yes h
 obtain⟨a0,a1⟩:=tickB_yes h1
 obtain⟨b0,b1⟩:=tickB_yes h3
 have c1:=(tickB_yes hn).2
 unfold limV
 clear h h1 h3 hn
 obtain⟨x,hx⟩: ∃x:Nat,n-1=(x:Int):=⟨(n-1).toNat,by omega⟩
 obtain⟨y,rfl⟩:=Int.eq_ofNat_of_zero_le a0
 obtain⟨z,rfl⟩:=Int.eq_ofNat_of_zero_le b0
 have hx1:x<18446744073709551616:=by omega
 have hy1:y<18446744073709551616:=by omega
 have hp:(n-1)*(y:Int)=((x*y:Nat):Int):=by rw[hx,Int.natCast_mul]
 have hc:=mul64_any x y hx1 hy1
 have ha:aheadB (y:Int) (z:Int) n=decide (x*y≤z):=by unfold aheadB;rw[hp];exact decide_eq_decide.2 (by omega)
 have Hp:=Lib.hid hp;have Ha:=Lib.hid ha
 clear hp ha hx1 hy1
 generalize x*y=p at*
 by_cases hl:p/18446744073709551616=0
 · have e1:p%18446744073709551616=p:=by omega
   rw[hl,e1]at hc
   have Hc:=Lib.hid hc
   have hp64:p<18446744073709551616:=by omega
   clear hc e1 hl
   by_cases hz:p≤z
   · have hz':(p:Int)≤(z:Int):=by omega
     have Hz:=Lib.hid hz
     have hp9:p≤4611686018427387903:=by omega
     clear hz hp64
     go_enter Tryz.func181,Tryz.ntmps181
     go_wp2_with (go_at_call 184;(with_reducible refine(Hc.out _).mono ?_);rintro e w' ⟨rfl,rfl⟩)
     go_quiet (fail)
     go_wp2
     go_ret2
     exact⟨(p:Int),by rw[Ha.out,decide_eq_true Hz.out];rfl,fun _=>Hp.out.symm,below_drewN ((Below.refl _ _).alloc (Nat.le_refl _) _) _⟩
   · have hz': ¬(p:Int)≤(z:Int):=by omega
     have Hz:=Lib.hid hz
     clear hz
     go_enter Tryz.func181,Tryz.ntmps181
     go_wp2_with (go_at_call 184;(with_reducible refine(Hc.out _).mono ?_);rintro e w' ⟨rfl,rfl⟩)
     go_quiet (fail)
     go_wp2
     go_ret2
     exact⟨_,by rw[Ha.out,decide_eq_false Hz.out];rfl,fun h=>by rw[Ha.out,decide_eq_false Hz.out]at h;simp at h,below_drewN ((Below.refl _ _).alloc (Nat.le_refl _) _) _⟩
 · have Hz:=Lib.hid (show ¬p≤z by omega)
   have hb1:((p/18446744073709551616:Nat):Int)≠0:=by omega
   generalize p/18446744073709551616=hi at*
   generalize p%18446744073709551616=lo at*
   have hb2:((hi:Int)==0)=false:=beq_eq_false_iff_ne.2 hb1
   have Hc:=Lib.hid hc
   clear hc hl hb1
   go_enter Tryz.func181,Tryz.ntmps181
   go_wp2_with (go_at_call 184;(with_reducible refine(Hc.out _).mono ?_);rintro e w' ⟨rfl,rfl⟩)
   go_quiet (fail)
   go_wp2
   go_ret2
   exact⟨_,by rw[Ha.out,decide_eq_false Hz.out];rfl,fun h=>by rw[Ha.out,decide_eq_false Hz.out]at h;simp at h,below_drewN ((Below.refl _ _).alloc (Nat.le_refl _) _) _⟩
def waitI (T tau tat now n:Int):Int:=
 if aheadB T tau n=false∨(4611686018427387903-max tat now)/T<n then 4611686018427387903 else tat-now-(tau-(n-1)*T)
set_option maxHeartbeats 1000000 in
theorem gwait_any (T tau tat now n:Int) (w:World) (h:limB T tau=true) (ht:tickB tat=true) (hnow:tickB now=true) (hn:tickB n=true) (h0:1≤n):
   Calls Tryz.prog 176 #[limV T tau,.int .i64 tat,.int .i64 now,.int .i64 n] w (IntRes w (waitI T tau tat now n)):=by
 obtain⟨h1,h2,h3⟩:=limB_yes h
 have a0:=(tickB_yes h1).1;have a1:=(tickB_yes h1).2
 have b0:=(tickB_yes h3).1;have b1:=(tickB_yes h3).2
 have c0:=(tickB_yes ht).1;have c1:=(tickB_yes ht).2
 have d0:=(tickB_yes hnow).1;have d1:=(tickB_yes hnow).2
 have Hah:=Lib.hid (fun v=>gahead_any T tau n v h hn h0)
 have hne:(T==0)=false:=beq_eq_false_iff_ne.2 (by omega)
 have Hw:Hid (waitI T tau tat now n=if aheadB T tau n=false∨(4611686018427387903-max tat now)/T<n then 4611686018427387903 else tat-now-(tau-(n-1)*T)):=rfl
 have hle:=decide_eq_true_iff (p:=(n-1)*T≤tau)
 have Hle:Hid (aheadB T tau n=true→0≤(n-1)*T∧(n-1)*T≤tau):=fun h=>⟨Int.mul_nonneg (by omega) a0,hle.1 h⟩
 clear hle
 generalize waitI T tau tat now n=W at*
 unfold limV at*
 cases ha:aheadB T tau n with
 |false=>
   have hW:W=4611686018427387903:=by have:=Hw.out;rw[ha]at this;simpa using this
   subst hW
   have Ha:=Lib.hid ha
   clear ha Hw h h1 h3 ht hnow hn
   go_enter Tryz.func176,Tryz.ntmps176
   go_wp2_with fail
   refine(Hah.out _).mono ?_
   rintro e w1 ⟨x,rfl,hx,hb⟩
   rw[Ha.out]
   have Hb:=Lib.hid hb
   have hcell0:w1.cell? ⟨w.heap.size,0,none⟩=some (.int .i64 T):=cell_later hb (by simp [go_sem])
   have hcell1:w1.cell? ⟨w.heap.size,1,none⟩=some (.int .i64 tau):=cell_later hb (by simp [go_sem])
   clear hx hb
   go_wp2
   go_ret
   exact⟨rfl,below_past Hb.out⟩
 |true=>
   have Ha:=Lib.hid ha
   obtain⟨m0,m1⟩:=Hle.out ha
   clear Hle
   by_cases hm:tat<now
   · have hmx:max tat now=now:=by omega
     obtain⟨q20,q21,_,_⟩:=div_tick (a:=4611686018427387903-now) (b:=T) (by omega) (by omega)
     have hW:=Hw.out
     rw[hmx,ha]at hW
     have HW:=Lib.hid hW
     clear ha Hw h h1 h3 ht hnow hn hmx hW
     generalize hgm:(n-1)*T=m at*
     have Hm:=Lib.hid hgm
     clear hgm
     by_cases hd:(4611686018427387903-now)/T<n
     · go_enter Tryz.func176,Tryz.ntmps176
       go_wp2_with fail
       refine(Hah.out _).mono ?_
       rintro e w1 ⟨x,rfl,hx,hb⟩
       rw[Ha.out]
       have Hb:=Lib.hid hb
       have hcell0:w1.cell? ⟨w.heap.size,0,none⟩=some (.int .i64 T):=cell_later hb (by simp [go_sem])
       have hcell1:w1.cell? ⟨w.heap.size,1,none⟩=some (.int .i64 tau):=cell_later hb (by simp [go_sem])
       clear hx hb
       go_wp2
       go_ret
       exact⟨ret_i (by rw[HW.out,if_pos (Or.inr hd)]),below_past Hb.out⟩
     · go_enter Tryz.func176,Tryz.ntmps176
       go_wp2_with fail
       refine(Hah.out _).mono ?_
       rintro e w1 ⟨x,rfl,hx,hb⟩
       obtain rfl:x=m:=(hx Ha.out).trans Hm.out
       rw[Ha.out]
       have Hb:=Lib.hid hb
       have hcell0:w1.cell? ⟨w.heap.size,0,none⟩=some (.int .i64 T):=cell_later hb (by simp [go_sem])
       have hcell1:w1.cell? ⟨w.heap.size,1,none⟩=some (.int .i64 tau):=cell_later hb (by simp [go_sem])
       clear hx hb
       go_wp2
       go_ret
       exact⟨ret_i (by rw[HW.out,if_neg (by simp;omega)]),below_past Hb.out⟩
   · have hmx:max tat now=tat:=by omega
     obtain⟨q20,q21,_,_⟩:=div_tick (a:=4611686018427387903-tat) (b:=T) (by omega) (by omega)
     have hW:=Hw.out
     rw[hmx,ha]at hW
     have HW:=Lib.hid hW
     clear ha Hw h h1 h3 ht hnow hn hmx hW
     generalize hgm:(n-1)*T=m at*
     have Hm:=Lib.hid hgm
     clear hgm
     by_cases hd:(4611686018427387903-tat)/T<n
     · go_enter Tryz.func176,Tryz.ntmps176
       go_wp2_with fail
       refine(Hah.out _).mono ?_
       rintro e w1 ⟨x,rfl,hx,hb⟩
       rw[Ha.out]
       have Hb:=Lib.hid hb
       have hcell0:w1.cell? ⟨w.heap.size,0,none⟩=some (.int .i64 T):=cell_later hb (by simp [go_sem])
       have hcell1:w1.cell? ⟨w.heap.size,1,none⟩=some (.int .i64 tau):=cell_later hb (by simp [go_sem])
       clear hx hb
       go_wp2
       go_ret
       exact⟨ret_i (by rw[HW.out,if_pos (Or.inr hd)]),below_past Hb.out⟩
     · go_enter Tryz.func176,Tryz.ntmps176
       go_wp2_with fail
       refine(Hah.out _).mono ?_
       rintro e w1 ⟨x,rfl,hx,hb⟩
       obtain rfl:x=m:=(hx Ha.out).trans Hm.out
       rw[Ha.out]
       have Hb:=Lib.hid hb
       have hcell0:w1.cell? ⟨w.heap.size,0,none⟩=some (.int .i64 T):=cell_later hb (by simp [go_sem])
       have hcell1:w1.cell? ⟨w.heap.size,1,none⟩=some (.int .i64 tau):=cell_later hb (by simp [go_sem])
       clear hx hb
       go_wp2
       go_ret
       exact⟨ret_i (by rw[HW.out,if_neg (by simp;omega)]),below_past Hb.out⟩
end
section
open Go.RowKit
theorem bcell {W w1:World} (hb:Below W.heap.size W w1):(∀b o,b<W.heap.size→w1.cell? ⟨b,o,none⟩=W.cell? ⟨b,o,none⟩)∧(∀b o,b<W.heap.size→w1.frozen? ⟨b,o,none⟩=W.frozen? ⟨b,o,none⟩):=
 ⟨fun b o h=>hb.cell (p:=⟨b,o,none⟩) h,fun b o h=>hb.frozen (p:=⟨b,o,none⟩) h⟩
def ansV (g:Bool) (tat wait left:Int):Value:= .agg #[.bool g,.int .i64 tat,.int .i64 wait,.int .i64 left]
def decG (T tau tat now n:Int):Bool:=decide (n≤leftI T tau tat now)
def decTat (T tau tat now n:Int):Int:=if n≤leftI T tau tat now∧0<n then max tat now+n*T else tat
def decWait (T tau tat now n:Int):Int:=if n≤leftI T tau tat now then 0 else waitI T tau tat now n
def decLeft (T tau tat now n:Int):Int:=leftI T tau (decTat T tau tat now n) now
theorem leftI_nonneg {T tau tat now:Int} (h:limB T tau=true) (ht:tickB tat=true) (hn:tickB now=true):0≤leftI T tau tat now∧leftI T tau tat now≤4611686018427387903:=by
 obtain⟨h1,h2,h3⟩:=limB_yes h
 have b1:=tickB_yes ht;have b2:=tickB_yes hn;have b3:=tickB_yes h3
 unfold leftI leftB
 split
 · omega
 · obtain⟨x0,x1,_,_⟩:=div_tick (a:=tau-(max tat now-now)) (b:=T) (by omega) (by omega)
   obtain⟨y0,y1,_,_⟩:=div_tick (a:=4611686018427387903-max tat now) (b:=T) (by omega) (by omega)
   omega
def grantP (T tau tat now n:Int):Prop:=n=0∨(max tat now+(n-1)*T≤now+tau∧max tat now+n*T≤4611686018427387903)
theorem left_grant {T tau tat now n:Int} (h:limB T tau=true) (ht:tickB tat=true) (hn:tickB now=true) (h0:0≤n):n≤leftI T tau tat now↔grantP T tau tat now n:=by
 obtain⟨h1,h2,h3⟩:=limB_yes h
 have b1:=tickB_yes ht;have b2:=tickB_yes hn;have b3:=tickB_yes h3
 have hl:=leftI_nonneg h ht hn
 unfold grantP
 by_cases hz:n=0
 · subst hz;simp [hl.1]
 · unfold leftI leftB
   split
   · rename_i hd
     have:0≤(n-1)*T:=Int.mul_nonneg (by omega) (by omega)
     constructor
     · omega
     · rintro(h|⟨h,_⟩)<;>omega
   · rename_i hd
     have e1:n-1≤(tau-(max tat now-now))/T↔(n-1)*T≤tau-(max tat now-now):=Int.le_ediv_iff_mul_le (by omega)
     have e2:n≤(4611686018427387903-max tat now)/T↔n*T≤4611686018427387903-max tat now:=Int.le_ediv_iff_mul_le (by omega)
     omega
theorem dec_tick {T tau tat now n:Int} (h:limB T tau=true) (ht:tickB tat=true) (hn:tickB now=true) (h0:tickB n=true):tickB (decTat T tau tat now n)=true:=by
 obtain⟨h1,h2,h3⟩:=limB_yes h
 unfold decTat
 split
 · rename_i hd
   have:=(left_grant h ht hn (tickB_yes h0).1).1 hd.1
   have b1:=tickB_yes ht;have b2:=tickB_yes hn
   have:0≤n*T:=Int.mul_nonneg (by omega) (by omega)
   unfold grantP at*
   exact tickB_mk (by omega) (by omega)
 · exact ht
def AnsRes (w:World) (g:Bool) (tat wait left:Int) (e:Ending) (w':World):Prop:=e= .returned (ansV g tat wait left)∧Below w.heap.size w w'
set_option maxHeartbeats 2000000 in
set_option maxRecDepth 100000 in
theorem gdecide_any (T tau tat now n:Int) (w:World) (h:limB T tau=true) (ht:tickB tat=true) (hnow:tickB now=true) (hn:tickB n=true):
   Calls Tryz.prog 168 #[limV T tau,.int .i64 tat,.int .i64 now,.int .i64 n] w (AnsRes w (decG T tau tat now n) (decTat T tau tat now n) (decWait T tau tat now n) (decLeft T tau tat now n)):=by
 have hdt:=dec_tick h ht hnow hn
 have hll:=leftI_nonneg h ht hnow
 have hlg:=left_grant h ht hnow (tickB_yes hn).1
 have Hl1:=Lib.hid (fun v=>gleft_any T tau tat now v h ht hnow)
 have Hl2:=Lib.hid (fun v=>gleft_any T tau (decTat T tau tat now n) now v h hdt hnow)
 have n0:=(tickB_yes hn).1;have n1:=(tickB_yes hn).2
 obtain⟨t0,t1⟩:=tickB_yes ht
 obtain⟨w0,w1'⟩:=tickB_yes hnow
 by_cases hg:n≤leftI T tau tat now
 · by_cases hz:0<n
   · have hG:decG T tau tat now n=true:=decide_eq_true hg
     have hT:decTat T tau tat now n=max tat now+n*T:=if_pos ⟨hg,hz⟩
     have hW:decWait T tau tat now n=0:=if_pos hg
     have hL:decLeft T tau tat now n=leftI T tau (max tat now+n*T) now:=by unfold decLeft;rw[hT]
     have hgr:=hlg.1 hg
     unfold grantP at hgr
     have hmul:0≤n*T:=Int.mul_nonneg n0 (by have:=(limB_yes h).2.1;omega)
     rw[hT]at Hl2
     rw[hG,hT,hW,hL]
     have hmx:0≤max tat now:=by omega
     have hm2:n*T≤4611686018427387903:=by omega
     have hsum:max tat now+n*T≤4611686018427387903:=by omega
     generalize leftI T tau tat now=L1 at*
     generalize leftI T tau (max tat now+n*T) now=L2 at*
     clear hG hT hW hL hgr hlg hdt
     unfold limV at*
     by_cases hm:tat<now
     · have hmx2:max tat now=now:=by omega
       rw[hmx2]at Hl2 hsum
       rw[hmx2]
       clear hmx2 hmx h ht hnow hn
       go_enter Tryz.func168,Tryz.ntmps168
       go_wp2_with fail
       refine(Hl1.out _).mono ?_
       rintro e w1 ⟨rfl,hb⟩
       obtain⟨hc,hf⟩:=bcell hb
       have hz1:w.heap.size+1<w1.heap.size:=by have:=hb.size;simp at this;omega
       have hz0:w.heap.size<w1.heap.size:=by omega
       go_wp2_with fail
       refine(Hl2.out _).mono ?_
       rintro e w2 ⟨rfl,hb2⟩
       obtain⟨hc2,hf2⟩:=bcell hb2
       have hz2:w1.heap.size<w2.heap.size:=by have:=hb2.size;simp at this;omega
       have Hb:Hid (Below w.heap.size w w2):=(below_past (below_past hb)).trans ((below_past hb2).mono (by omega))
       clear hb hb2 Hl1 Hl2
       go_wp2
       exact bodyPost_ret (v:=ansV true (now+n*T) 0 L2) (by simp [results,Tryz.results168,go_sem,ansV,hc2,hc,hz0,hz1]) rfl ⟨rfl,by repeat(first|exact Hb.out|(refine Below.setCell ?_ (by first|(simp;done)|(simp;omega)) _))⟩
     · have hmx2:max tat now=tat:=by omega
       rw[hmx2]at Hl2 hsum
       rw[hmx2]
       clear hmx2 hmx h ht hnow hn
       go_enter Tryz.func168,Tryz.ntmps168
       go_wp2_with fail
       refine(Hl1.out _).mono ?_
       rintro e w1 ⟨rfl,hb⟩
       obtain⟨hc,hf⟩:=bcell hb
       have hz1:w.heap.size+1<w1.heap.size:=by have:=hb.size;simp at this;omega
       have hz0:w.heap.size<w1.heap.size:=by omega
       go_wp2_with fail
       refine(Hl2.out _).mono ?_
       rintro e w2 ⟨rfl,hb2⟩
       obtain⟨hc2,hf2⟩:=bcell hb2
       have hz2:w1.heap.size<w2.heap.size:=by have:=hb2.size;simp at this;omega
       have Hb:Hid (Below w.heap.size w w2):=(below_past (below_past hb)).trans ((below_past hb2).mono (by omega))
       clear hb hb2 Hl1 Hl2
       go_wp2
       exact bodyPost_ret (v:=ansV true (tat+n*T) 0 L2) (by simp [results,Tryz.results168,go_sem,ansV,hc2,hc,hz0,hz1]) rfl ⟨rfl,by repeat(first|exact Hb.out|(refine Below.setCell ?_ (by first|(simp;done)|(simp;omega)) _))⟩
   · obtain rfl:n=0:=by omega
     have hG:decG T tau tat now 0=true:=decide_eq_true hg
     have hT:decTat T tau tat now 0=tat:=if_neg (by omega)
     have hW:decWait T tau tat now 0=0:=if_pos hg
     have hL:decLeft T tau tat now 0=leftI T tau tat now:=by unfold decLeft;rw[hT]
     rw[hT]at Hl2
     rw[hG,hT,hW,hL]
     generalize leftI T tau tat now=L1 at*
     clear hG hT hW hL hlg hdt hz h ht hnow hn
     unfold limV at*
     go_enter Tryz.func168,Tryz.ntmps168
     go_wp2_with fail
     refine(Hl1.out _).mono ?_
     rintro e w1 ⟨rfl,hb⟩
     obtain⟨hc,hf⟩:=bcell hb
     have hz1:w.heap.size+1<w1.heap.size:=by have:=hb.size;simp at this;omega
     have hz0:w.heap.size<w1.heap.size:=by omega
     go_wp2_with fail
     refine(Hl2.out _).mono ?_
     rintro e w2 ⟨rfl,hb2⟩
     obtain⟨hc2,hf2⟩:=bcell hb2
     have hz2:w1.heap.size<w2.heap.size:=by have:=hb2.size;simp at this;omega
     have Hb:Hid (Below w.heap.size w w2):=(below_past (below_past hb)).trans ((below_past hb2).mono (by omega))
     clear hb hb2 Hl1 Hl2
     go_wp2
     exact bodyPost_ret (v:=ansV true tat 0 L1) (by simp [results,Tryz.results168,go_sem,ansV,hc2,hc,hz0,hz1]) rfl ⟨rfl,by repeat(first|exact Hb.out|(refine Below.setCell ?_ (by first|(simp;done)|(simp;omega)) _))⟩
 · have hn1:1≤n:=by omega
   have Hw:=Lib.hid (fun v=>gwait_any T tau tat now n v h ht hnow hn hn1)
   have hG:decG T tau tat now n=false:=decide_eq_false hg
   have hT:decTat T tau tat now n=tat:=if_neg (by omega)
   have hW:decWait T tau tat now n=waitI T tau tat now n:=if_neg hg
   have hL:decLeft T tau tat now n=leftI T tau tat now:=by unfold decLeft;rw[hT]
   rw[hT]at Hl2
   rw[hG,hT,hW,hL]
   generalize leftI T tau tat now=L1 at*
   generalize waitI T tau tat now n=W1 at*
   have hgd:decide (n≤L1)=false:=decide_eq_false hg
   clear hG hT hW hL hlg hdt h ht hnow hn
   unfold limV at*
   go_enter Tryz.func168,Tryz.ntmps168
   go_wp2_with fail
   refine(Hl1.out _).mono ?_
   rintro e w1 ⟨rfl,hb⟩
   obtain⟨hc,hf⟩:=bcell hb
   have hz1:w.heap.size+1<w1.heap.size:=by have:=hb.size;simp at this;omega
   have hz0:w.heap.size<w1.heap.size:=by omega
   go_wp2_with fail
   refine(Hw.out _).mono ?_
   rintro e w1a ⟨rfl,hba⟩
   obtain⟨hca,hfa⟩:=bcell hba
   have hza:w1.heap.size<w1a.heap.size:=by have:=hba.size;simp at this;omega
   have hza1:w.heap.size+1<w1a.heap.size:=by omega
   go_wp2_with fail
   refine(Hl2.out _).mono ?_
   rintro e w2 ⟨rfl,hb2⟩
   obtain⟨hc2,hf2⟩:=bcell hb2
   have hz2:w1a.heap.size≤w2.heap.size:=by have:=hb2.size;simp at this;omega
   have Hb:Hid (Below w.heap.size w w2):=((below_past (below_past hb)).trans ((below_past hba).mono (by omega))).trans ((((Below.refl _ _).setCell (by simp;omega) _).trans (hb2.mono (by simp;omega))))
   clear hb hba hb2 Hl1 Hl2 Hw
   go_wp2
   exact bodyPost_ret (v:=ansV false tat W1 L1) (by simp [results,Tryz.results168,go_sem,ansV,hc2,hca,hc,hz0,hz1,hza1]) rfl ⟨rfl,by repeat(first|exact Hb.out|(refine Below.setCell ?_ (by first|(simp;done)|(simp;omega)) _))⟩
end
section
open Go.RowKit
def codeI (b:Bool):Int:=if b then 0 else 1
theorem all_getD {ts:List Int} (h: ∀i,i<ts.length→tickB (ts.getD i 0)=true):ts.all tickB=true:=by
 rw[List.all_eq_true]
 intro x hx
 obtain⟨i,hi,rfl⟩:=List.getElem_of_mem hx
 have:=h i hi
 rwa [List.getD_eq_getElem?_getD,List.getElem?_eq_getElem hi]at this
theorem all_getD_no {ts:List Int} {i:Nat} (hi:i<ts.length) (h:tickB (ts.getD i 0)=false):ts.all tickB=false:=by
 rw[Bool.eq_false_iff]
 intro hh
 rw[List.all_eq_true]at hh
 have:=hh (ts.getD i 0) (by rw[List.getD_eq_getElem?_getD,List.getElem?_eq_getElem hi];exact List.getElem_mem hi)
 rw[h]at this
 simp at this
set_option maxHeartbeats 1000000 in
theorem gcheck_any (T tau:Int) (ts:List Int) (b c:Nat) (w:World) (hlen:ts.length≤10) (hc: ∀i,i<ts.length→w.cell? ⟨b,i,none⟩=some (.int .i64 (ts.getD i 0))):
   Calls Tryz.prog 165 #[limV T tau,.slice (some ⟨b,0,none⟩) ts.length c] w (IntRes w (codeI (ts.all tickB&&limB T tau))):=by
 have Hc:=Lib.hid hc
 have Hy:=Lib.hid (fun h v=>rcheck_yes T tau v h)
 have Hn:=Lib.hid (fun h v=>rcheck_no T tau v h)
 have Hall:=Lib.hid (@all_getD ts)
 have Hno:=Lib.hid (fun i=> @all_getD_no ts i)
 clear hc
 generalize ts.all tickB=A at*
 generalize limB T tau=L at*
 unfold limV at*
 go_enter Tryz.func165,Tryz.ntmps165
 go_wp2
 go_loopw [6,9] (fun _ i wr=> ∃k:Nat,i= .int .i64 k∧k≤ts.length∧(∀j,j<k→tickB (ts.getD j 0)=true)∧wr=w.alloc (.cells #[.int .i64 T,.int .i64 tau] 58)) (fun _ i _=>ts.length-(intOf i).toNat)
 case atStart=>exact⟨0,rfl,Nat.zero_le _,fun j hj=>absurd hj (by omega),rfl⟩
 case round=>
   obtain⟨k,rfl,hk,hall,rfl⟩:=hrel
   have Hk:=Lib.hid hall
   clear hall
   by_cases hkl:k<ts.length
   · have hcell:=Hc.out k hkl
     have hlt:=World.block_lt_of_cell? _ _ hcell
     have hcell':(w.alloc (.cells #[.int .i64 T,.int .i64 tau] 58)).cell? ⟨b,k,none⟩=some (.int .i64 (ts.getD k 0)):=by rw[World.cell?_alloc_past _ _ _ hlt];exact hcell
     have Hkk:Hid (tickB (ts.getD k 0)=true→ ∀j,j<k+1→tickB (ts.getD j 0)=true):=fun h j hj=>by
       by_cases e:j=k
       · subst e;exact h
       · exact Hk.out j (by omega)
     have Hnn:=Lib.hid (fun h=>Hno.out k hkl h)
     clear hcell hlt
     generalize ts.getD k 0=x at*
     cases hx:tickB x with
     |true=>
       go_wp2_with (go_at_call 42;(with_reducible refine(form_any _ _).mono ?_);rintro e w' ⟨rfl,rfl⟩)
       go_roundw
       case rel=>exact⟨k+1,by go_num,by omega,Hkk.out hx,by first|rfl|trivial⟩
       case measure=>simp [intOf];omega
     |false=>
       have hA:=Hnn.out hx
       subst hA
       go_wp2_with (go_at_call 42;(with_reducible refine(form_any _ _).mono ?_);rintro e w' ⟨rfl,rfl⟩)
       go_ret
       exact⟨rfl,(Below.refl _ _).alloc (Nat.le_refl _) _⟩
   · obtain rfl:k=ts.length:=by omega
     have hA:=Hall.out Hk.out
     subst hA
     cases L with
     |true=>
       go_wp2_with fail
       refine(Hy.out (by first|rfl|trivial) _).mono ?_
       rintro e w1 ⟨rfl,hb⟩
       have Hb:=Lib.hid (below_past hb)
       clear hb
       go_wp2
       go_ret
       exact⟨rfl,Hb.out⟩
     |false=>
       go_wp2_with fail
       refine(Hn.out (by first|rfl|trivial) _).mono ?_
       rintro e w1 ⟨rfl,hb⟩
       have Hb:=Lib.hid (below_past hb)
       clear hb
       go_wp2
       go_ret
       exact⟨rfl,Hb.out⟩
end
section
open Go.RowKit
def AnsTwo (w:World) (g:Bool) (tat wait left f:Int) (e:Ending) (w':World):Prop:=e= .returned (.tuple #[ansV g tat wait left,.int .i64 f])∧Below w.heap.size w w'
theorem three_cells {w:World} {t:TypeId} {x y z:Int}: ∀i,i< [x,y,z].length→(w.alloc (.cells #[.int .i64 x,.int .i64 y,.int .i64 z] t)).cell? ⟨w.heap.size,i,none⟩=some (.int .i64 ([x,y,z].getD i 0)):=by
 intro i hi
 match i,hi with
 |0,_=>simp [go_sem]
 |1,_=>simp [go_sem]
 |2,_=>simp [go_sem]
theorem two_cells {w:World} {t:TypeId} {x y:Int}: ∀i,i< [x,y].length→(w.alloc (.cells #[.int .i64 x,.int .i64 y] t)).cell? ⟨w.heap.size,i,none⟩=some (.int .i64 ([x,y].getD i 0)):=by
 intro i hi
 match i,hi with
 |0,_=>simp [go_sem]
 |1,_=>simp [go_sem]
theorem size2 (w:World) (a b:Obj):((w.alloc a).alloc b).heap.size=w.heap.size+2:=by simp
set_option maxHeartbeats 1000000 in
set_option maxRecDepth 100000 in
theorem gDecide_yes (T tau tat now n:Int) (w:World) (h:limB T tau=true) (ht:tickB tat=true) (hnow:tickB now=true) (hn:tickB n=true):
   Calls Tryz.prog 157 #[limV T tau,.int .i64 tat,.int .i64 now,.int .i64 n] w (AnsTwo w (decG T tau tat now n) (decTat T tau tat now n) (decWait T tau tat now n) (decLeft T tau tat now n) 0):=by
 have Hd:=Lib.hid (fun v=>gdecide_any T tau tat now n v h ht hnow hn)
 have hall:([tat,now,n].all tickB&&limB T tau)=true:=by simp [ht,hnow,hn,h]
 have Hk:=Lib.hid (fun b v hc=>gcheck_any T tau [tat,now,n] b 3 v (by simp) hc)
 rw[hall]at Hk
 clear hall h ht hnow hn
 generalize decG T tau tat now n=g at*
 generalize decTat T tau tat now n=d1 at*
 generalize decWait T tau tat now n=d2 at*
 generalize decLeft T tau tat now n=d3 at*
 unfold limV at*
 go_enter Tryz.func157,Tryz.ntmps157
 go_wp2_with fail
 have hsz:=size2 w (.cells #[.int .i64 T,.int .i64 tau] 58) (.cells #[.bool false,.int .i64 0,.int .i64 0,.int .i64 0] 213)
 have h3:= @three_cells ((w.alloc (.cells #[.int .i64 T,.int .i64 tau] 58)).alloc (.cells #[.bool false,.int .i64 0,.int .i64 0,.int .i64 0] 213)) 2 tat now n
 rw[hsz]at h3
 clear hsz
 refine(Hk.out (w.heap.size+2) _ h3).mono ?_
 clear h3
 rintro e w1 ⟨rfl,hb⟩
 obtain⟨hc,hf⟩:=bcell hb
 have hz1:w.heap.size+1<w1.heap.size:=by have:=hb.size;simp at this;omega
 have hz0:w.heap.size<w1.heap.size:=by omega
 have Hb:=Lib.hid (below_past (below_past (below_past hb)))
 clear hb
 have hcode:codeI true=0:=rfl
 go_wp2_with fail
 refine(Hd.out _).mono ?_
 rintro e w2 ⟨rfl,hb2⟩
 unfold ansV
 obtain⟨hc2,hf2⟩:=bcell hb2
 have hz2:w.heap.size+1<w2.heap.size:=by have:=hb2.size;omega
 have Hb2:=Lib.hid (Hb.out.trans (hb2.mono (by omega)))
 clear hb2 Hb
 go_wp2
 exact bodyPost_ret (v:= .tuple #[ansV g d1 d2 d3,.int .i64 0]) (by simp [results,Tryz.results157,go_sem,ansV,hc2,hc,hz1]) rfl ⟨rfl,by repeat(first|exact Hb2.out|(refine Below.setCell ?_ (by first|(simp;done)|(simp;omega)) _))⟩
set_option maxHeartbeats 1000000 in
set_option maxRecDepth 100000 in
theorem gLeft_any (T tau tat now k:Int) (w:World) (b:Bool) (hall:([tat,now].all tickB&&limB T tau)=b) (hk:b=true→k=leftI T tau tat now) (hk0:b=false→k=0):
   Calls Tryz.prog 146 #[limV T tau,.int .i64 tat,.int .i64 now] w (TwoRes w k (codeI b)):=by
 have Hk:=Lib.hid (fun b v hc=>gcheck_any T tau [tat,now] b 2 v (by simp) hc)
 have Hd:Hid (b=true→ ∀v,Calls Tryz.prog 166 #[limV T tau,.int .i64 tat,.int .i64 now] v (IntRes v k)):=fun hb v=>by
   rw[hb]at hall
   simp only[List.all_cons,List.all_nil,Bool.and_true,Bool.and_eq_true]at hall
   rw[hk hb]
   exact gleft_any T tau tat now v hall.2 hall.1.1 hall.1.2
 rw[hall]at Hk
 have Hk0:=Lib.hid hk0
 clear hall hk hk0
 unfold limV at*
 go_enter Tryz.func146,Tryz.ntmps146
 go_wp2_with fail
 have h3:= @two_cells (w.alloc (.cells #[.int .i64 T,.int .i64 tau] 58)) 2 tat now
 rw[show (w.alloc (.cells #[.int .i64 T,.int .i64 tau] 58)).heap.size=w.heap.size+1 by simp]at h3
 refine(Hk.out (w.heap.size+1) _ h3).mono ?_
 clear h3 Hk
 rintro e w1 ⟨rfl,hb⟩
 obtain⟨hc,hf⟩:=bcell hb
 have Hb:=Lib.hid (below_past (below_past hb))
 clear hb
 cases b with
 |true=>
   have Hdd:=Lib.hid (Hd.out rfl)
   have hcode:codeI true=0:=rfl
   clear Hd Hk0
   go_wp2_with fail
   refine(Hdd.out _).mono ?_
   rintro e w2 ⟨rfl,hb2⟩
   have Hb2:=Lib.hid (Hb.out.trans (hb2.mono Hb.out.size))
   clear hb2 Hb hc hf
   go_wp2
   go_ret2
   exact⟨rfl,Hb2.out⟩
 |false=>
   obtain rfl:=Hk0.out rfl
   have hcode:codeI false=1:=rfl
   clear Hd Hk0
   go_wp2
   go_ret2
   exact⟨rfl,Hb.out⟩
end
end Go.Proofs.YtemnhpdjoimjbaaGreatDoor
