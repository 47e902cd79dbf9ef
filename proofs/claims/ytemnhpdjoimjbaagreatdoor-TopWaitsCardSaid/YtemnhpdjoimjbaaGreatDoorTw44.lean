import Derived.Test.YtemnhpdjoimjbaaGreatDoorTw42
import Derived.Test.YtemnhpdjoimjbaaGreatDoorTw43
import Ieee.Arith
namespace Go.Proofs.YtemnhpdjoimjbaaGreatDoor
section
open Go.RowKit Top
set_option linter.unusedVariables false
theorem leftI_10 {tat now:Int} (ht:tat≤1000000000000000) (hn:now≤1000000000000000) (h0:0≤tat) (h1:0≤now):leftI 10 20 tat now=if tat≤now then 3 else if tat≤now+20 then(20-(tat-now))/10+1 else 0:=by
 unfold leftI leftB
 by_cases a:tat≤now
 · rw[if_pos a,show max tat now=now by omega,if_neg (by omega)]
   omega
 · rw[if_neg a,show max tat now=tat by omega]
   by_cases b:tat≤now+20
   · rw[if_pos b,if_neg (by omega)]
     omega
   · rw[if_neg b,if_pos (by omega)]
theorem waits_math {tat now n:Int} (h0:0≤tat) (h1:tat≤now+30) (h2:0≤now) (h3:now≤100000000000) (h4:0≤n) (hd:decG 10 20 tat now n=false):
   (decWait 10 20 tat now n=4611686018427387903∧ ∀t:Int,now≤t→t≤100000000000000→decG 10 20 tat t n=false)∨
   ∃W:Nat,decWait 10 20 tat now n=(W:Int)∧1≤W∧W≤50∧tat≠0∧decG 10 20 tat (now+(W-1)) n=false∧decWait 10 20 tat (now+(W-1)) n=1∧decG 10 20 tat (now+(W-1)+1) n=true∧decWait 10 20 tat (now+(W-1)+1) n=0:=by
 have hl:=leftI_10 (tat:=tat) (now:=now) (by omega) (by omega) h0 h2
 unfold decG at hd
 rw[hl]at hd
 have hd:=of_decide_eq_false hd
 by_cases hn:n≤3
 · right
   have hgt:now<tat:=by
     refine Classical.byContradiction fun h=> ?_
     rw[if_pos (by omega)]at hd
     omega
   rw[if_neg (by omega)]at hd
   have hn1:1≤n:=by
     refine Classical.byContradiction fun h=>hd ?_
     split<;>omega
   have hm:(4611686018427387903-max tat now)/10≥n:=by omega
   have hW:decWait 10 20 tat now n=tat-now-(20-(n-1)*10):=by
     unfold decWait waitI aheadB
     rw[hl,if_neg (by rw[if_neg (by omega)];exact hd),if_neg]
     simp;omega
   have hpos:1≤tat-now-(20-(n-1)*10):=by
     split at hd<;>omega
   refine⟨(tat-now-(20-(n-1)*10)).toNat,by omega,by omega,by omega,by omega,?_⟩
   rw[Int.toNat_of_nonneg (by omega)]
   have e1:now+(tat-now-(20-(n-1)*10)-1)=tat-21+(n-1)*10:=by omega
   rw[e1]
   have l1:=leftI_10 (tat:=tat) (now:=tat-21+(n-1)*10) (by omega) (by omega) h0 (by omega)
   have l2:=leftI_10 (tat:=tat) (now:=tat-21+(n-1)*10+1) (by omega) (by omega) h0 (by omega)
   rcases(by omega:n=1∨n=2∨n=3)with rfl|rfl|rfl
   · refine⟨?_,?_,?_,?_⟩
     · unfold decG;rw[l1];apply decide_eq_false;rw[if_neg (by omega),if_neg (by omega)];omega
     · unfold decWait waitI aheadB;rw[l1,if_neg (by rw[if_neg (by omega),if_neg (by omega)];omega),if_neg (by simp;omega)];omega
     · unfold decG;rw[l2];apply decide_eq_true;rw[if_neg (by omega),if_pos (by omega)];omega
     · unfold decWait;rw[l2,if_pos (by rw[if_neg (by omega),if_pos (by omega)];omega)]
   · refine⟨?_,?_,?_,?_⟩
     · unfold decG;rw[l1];apply decide_eq_false;rw[if_neg (by omega),if_pos (by omega)];omega
     · unfold decWait waitI aheadB;rw[l1,if_neg (by rw[if_neg (by omega),if_pos (by omega)];omega),if_neg (by simp;omega)];omega
     · unfold decG;rw[l2];apply decide_eq_true;rw[if_neg (by omega),if_pos (by omega)];omega
     · unfold decWait;rw[l2,if_pos (by rw[if_neg (by omega),if_pos (by omega)];omega)]
   · refine⟨?_,?_,?_,?_⟩
     · unfold decG;rw[l1];apply decide_eq_false;rw[if_neg (by omega),if_pos (by omega)];omega
     · unfold decWait waitI aheadB;rw[l1,if_neg (by rw[if_neg (by omega),if_pos (by omega)];omega),if_neg (by simp;omega)];omega
     · unfold decG;rw[l2];apply decide_eq_true;rw[if_pos (by omega)];omega
     · unfold decWait;rw[l2,if_pos (by rw[if_pos (by omega)];omega)]
 · left
   refine⟨?_,fun t ht1 ht2=> ?_⟩
   · unfold decWait waitI aheadB
     rw[hl,if_neg (by split<;>(try split)<;>omega),if_pos]
     left
     simp;omega
   · unfold decG
     rw[leftI_10 (by omega) (by omega) h0 (by omega)]
     apply decide_eq_false
     split
     · omega
     · split<;>omega
theorem aheadV :Ahead BlV tabL 30:=by
 intro p hp hk tat now n b t0 t1 n0 n1 k0 k1 ht hb
 simp only[tabL,List.mem_cons,List.not_mem_nil,or_false]at hp
 rcases hp with rfl|rfl
 · show decTat 10 20 tat now n≤b
   have hg:=left_grant (n:=n) (T:=10) (tau:=20) (by decide) (tickB_mk t0 t1) (tickB_mk n0 n1) k0
   unfold decTat
   split
   · rename_i h
     rcases hg.1 h.1 with h2|⟨h2,_⟩<;>omega
   · exact ht
 · exact absurd hk (by decide)
def allC (n:Int):Top.Call:=⟨1,0,[97],n⟩
theorem all_in {n:Int} (h0:0≤n) (h1:n≤4611686018427387903):CallIn tabL (allC n):=
 ⟨by show 1≤1;decide,by show 1≤6;decide,fun _=>⟨0,rfl,by decide⟩,fun _=>by show 1≤255;decide,fun b hb=>by
   have hb:b∈[97]:=hb
   simp only[List.mem_singleton]at hb
   omega,fun _=>⟨h0,h1⟩,by show _≤n∧n≤_;omega,fun _=>rfl,fun h=>by
   have h:(1:Nat)=2∨(1:Nat)=3:=h
   omega⟩
def decA (s:Top.Sys) (n:Int):Bool×Int×Int×Int:=(decG 10 20 (cellAt s.m 0 [97]).tat s.m.clock n,decTat 10 20 (cellAt s.m 0 [97]).tat s.m.clock n,decLeft 10 20 (cellAt s.m 0 [97]).tat s.m.clock n,decWait 10 20 (cellAt s.m 0 [97]).tat s.m.clock n)
theorem allow_call {s:Top.Sys} {q:Nat} {n:Int} (hok:SysOk tabL 64 s q) (hq:q+600<4611686018427387900) (hp:s.pd 0=none) (h0:0≤n) (h1:n≤4611686018427387903):
   ∃r s',aloneS tabL 64 BlV 0 512 (startS s 0 (allC n))=some (r,s')∧SysOk tabL 64 s' (q+512)∧s'.pd 0=none∧s'.m.clock=s.m.clock∧
     ((r=err 10∧(decA s n).1=true∧isAt s.m 0 [97]=false)∨(r=allowR (decA s n) s.m.clock∧((decA s n).1=false→ ∀c,Has s'.m c↔Has s.m c))):=by
 have T:=tab_ok (room:=64) (by decide) (by decide)
 obtain⟨r,s',a1,a2,a3,a4,a5⟩:=alone_call T hok hq (by decide) hp (all_in h0 h1)
 refine⟨r,s',a1,a2,a3,a5,?_⟩
 have c1:=hok.start (who:=0) (by decide) (all_in h0 h1)
 have e1:=start_pd (c:=allC n) hp
 have a1':=a1
 rw[e1]at c1 a1'
 have f0:(liveOf (allC n)).call.op=1:=rfl
 have f1:AlwK BlV tabL s.m (liveOf (allC n)) (firstK (allC n)):=by
   unfold firstK
   rw[if_neg (show ¬(allC n).op=6 from(by decide: ¬(1:Nat)=6)),if_neg (show ¬(allC n).op=5 from(by decide: ¬(1:Nat)=5))]
   exact rfl
 have g:=allow_alone sound_V T (by decide) 512 q _ _ _ r s' c1 (by omega) (setP_self s.pd 0 _) f0 f1 a1'
 have ea:allowAt BlV tabL s.m (liveOf (allC n))=decA s n:=rfl
 dsimp only at g
 rw[ea]at g
 exact g
theorem waits_plain {s:Top.Sys} {q:Nat} {n:Int} (hok:SysOk tabL 64 s q) (hT:SysT (s.m.clock+30) s) (hq:q+3000<4611686018427387900) (hp:s.pd 0=none) (hc:s.m.clock≤1000000) (h0:0≤n) (h1:n≤4611686018427387903):
   ∃r s1,aloneS tabL 64 BlV 0 512 (startS s 0 (allC n))=some (r,s1)∧SysOk tabL 64 s1 (q+512)∧s1.pd 0=none∧
     (r=err 10∨(r.e=0∧r.granted=true)∨(r.e=0∧r.granted=false∧
       ((r.wait=4611686018427387903∧ ∃r2 s2,aloneS tabL 64 BlV 0 512 (startS (tickS s1 1099511627776) 0 (allC n))=some (r2,s2)∧r2.granted=false)∨
        ∃W:Nat,r.wait=(W:Int)∧1≤W∧W≤50∧ ∃r2 s2 r3 s3,aloneS tabL 64 BlV 0 512 (startS (tickS s1 ((W:Int)-1)) 0 (allC n))=some (r2,s2)∧SysOk tabL 64 s2 (q+1024)∧s2.pd 0=none∧r2.granted=false∧r2.wait=1∧
          aloneS tabL 64 BlV 0 512 (startS (tickS s2 1) 0 (allC n))=some (r3,s3)∧r3.granted=true∧r3.wait=0))):=by
 have hck:=hok.inv.clk
 have hcell:CellOk (cellAt s.m 0 [97]):=findCell_ok (curHold_wf hok.inv.lies _) (by decide) (by decide) (by decide) (by decide)
 have htat:=hT.mem.cellAt (by omega) 0 [97]
 obtain⟨r,s1,a1,a2,a3,a4,a5⟩:=allow_call hok (by omega) hp h0 h1
 refine⟨r,s1,a1,a2,a3,?_⟩
 rcases a5 with ⟨rfl,_⟩|⟨rfl,hsame⟩
 · exact .inl rfl
 cases hd:(decA s n).1 with
 |true=>exact .inr (.inl ⟨rfl,hd⟩)
 |false=>
   refine .inr (.inr ⟨rfl,hd,?_⟩)
   have hs1:=cellAt_congr hok.inv.lies a2.inv.lies (hsame hd) 0 [97]
   generalize hCe:cellAt s.m 0 [97]=C at*
   have hat:isAt s.m 0 [97]=false→C.tat=0:=fun h=>by
     have h2:=(not_there (curHold_wf hok.inv.lies _) h).1
     have:cellAt s.m 0 [97]=⟨0,[97],0,[]⟩:=h2
     rw[hCe]at this
     rw[this]
   have hd':decG 10 20 C.tat s.m.clock n=false:=by have:=hd;unfold decA at this;rw[hCe]at this;exact this
   have hwait:(allowR (decA s n) s.m.clock).wait=decWait 10 20 C.tat s.m.clock n:=by show decWait 10 20 (cellAt s.m 0 [97]).tat s.m.clock n=_;rw[hCe]
   rcases waits_math hcell.tat0 htat hck.1 (by omega) h0 hd' with ⟨m1,m2⟩|⟨W,m1,m2,m3,m4,m5,m6,m7,m8⟩
   · refine .inl ⟨by rw[hwait,m1],?_⟩
     have hcl:clampI (s1.m.clock+1099511627776)=s1.m.clock+1099511627776:=clampI_id (by omega) (by omega)
     have ok1:SysOk tabL 64 (tickS s1 1099511627776) (q+512):=a2.tick (clampI_tick _).1 (clampI_tick _).2
     obtain⟨r2,s2,b1,b2,b3,b4,b5⟩:=allow_call ok1 (by omega) a3 h0 h1
     refine⟨r2,s2,b1,?_⟩
     rcases b5 with ⟨rfl,_⟩|⟨rfl,_⟩
     · rfl
     · show decG 10 20 (cellAt (tickS s1 1099511627776).m 0 [97]).tat (clampI (s1.m.clock+1099511627776)) n=false
       have e:cellAt (tickS s1 1099511627776).m 0 [97]=C:=hs1.1
       rw[e,hcl]
       exact m2 _ (by omega) (by omega)
   · refine .inr ⟨W,by rw[hwait,m1],m2,m3,?_⟩
     have hcl:clampI (s1.m.clock+((W:Int)-1))=s.m.clock+((W:Int)-1):=by rw[a4];exact clampI_id (by omega) (by omega)
     have ok1:SysOk tabL 64 (tickS s1 ((W:Int)-1)) (q+512):=a2.tick (clampI_tick _).1 (clampI_tick _).2
     obtain⟨r2,s2,b1,b2,b3,b4,b5⟩:=allow_call ok1 (by omega) a3 h0 h1
     have e1:cellAt (tickS s1 ((W:Int)-1)).m 0 [97]=C:=hs1.1
     have ec1:(tickS s1 ((W:Int)-1)).m.clock=s.m.clock+((W:Int)-1):=hcl
     have d1:(decA (tickS s1 ((W:Int)-1)) n).1=false:=by
       show decG 10 20 (cellAt (tickS s1 ((W:Int)-1)).m 0 [97]).tat (tickS s1 ((W:Int)-1)).m.clock n=false
       rw[e1,ec1];exact m5
     rcases b5 with ⟨_,g,_⟩|⟨rfl,hsame2⟩
     · rw[d1]at g;cases g
     have hs2:=cellAt_congr ok1.inv.lies b2.inv.lies (hsame2 d1) 0 [97]
     have e2:cellAt s2.m 0 [97]=C:=hs2.1.trans e1
     have i2:isAt s2.m 0 [97]=isAt s.m 0 [97]:=hs2.2.trans hs1.2
     have hcl2:clampI (s2.m.clock+1)=s.m.clock+((W:Int)-1)+1:=by rw[b4,ec1];exact clampI_id (by omega) (by omega)
     have ok2:SysOk tabL 64 (tickS s2 1) (q+1024):=b2.tick (clampI_tick _).1 (clampI_tick _).2
     obtain⟨r3,s3,c1,c2,c3,c4,c5⟩:=allow_call ok2 (by omega) b3 h0 h1
     have e3:cellAt (tickS s2 1).m 0 [97]=C:=e2
     have ec2:(tickS s2 1).m.clock=s.m.clock+((W:Int)-1)+1:=hcl2
     refine⟨_,s2,r3,s3,b1,b2,b3,d1,?_,c1,?_⟩
     · show decWait 10 20 (cellAt (tickS s1 ((W:Int)-1)).m 0 [97]).tat (tickS s1 ((W:Int)-1)).m.clock n=1
       rw[e1,ec1];exact m6
     · rcases c5 with ⟨_,_,g⟩|⟨rfl,_⟩
       · have g:isAt s2.m 0 [97]=false:=g
         rw[i2]at g
         exact absurd (hat g) m4
       · constructor
         · show decG 10 20 (cellAt (tickS s2 1).m 0 [97]).tat (tickS s2 1).m.clock n=true
           rw[e3,ec2];exact m7
         · show decWait 10 20 (cellAt (tickS s2 1).m 0 [97]).tat (tickS s2 1).m.clock n=0
           rw[e3,ec2];exact m8
end
section
open Go.RowKit Top
set_option linter.unusedVariables false
structure WtS (q:Nat) (c:Int) (s:Top.Sys):Prop where
 ok:SysOk tabL 64 s q
 tat:SysT (s.m.clock+30) s
 clk:s.m.clock≤c
theorem WtS.mono {q q':Nat} {c c':Int} {s:Top.Sys} (h:WtS q c s) (hq:q≤q') (hc:c≤c'):WtS q' c' s:=⟨h.ok.mono hq,h.tat,Int.le_trans h.clk hc⟩
theorem WtS.step {q:Nat} {c:Int} {s:Top.Sys} (h:WtS q c s) (hq:q<4611686018427387900) {who:Nat} (hw:who<64):
   WtS (q+1) c (stepS tabL 64 BlV s who).1∧(∀j,j≠who→(stepS tabL 64 BlV s who).1.pd j=s.pd j)∧
     ∀x k,s.pd who=some (x,k)→(stepS tabL 64 BlV s who).1.pd who=none∨ ∃x' k',(stepS tabL 64 BlV s who).1.pd who=some (x',k')∧cost (stepS tabL 64 BlV s who).1.m k'<cost s.m k:=by
 have T:=tab_ok (room:=64) (by decide) (by decide)
 have h1:=h.ok.step sound_V T hw hq
 have ht:=h.tat.step aheadV h.ok hw (Int.le_refl _) (by decide)
 cases hp:s.pd who with
 |none=>
   have es:(stepS tabL 64 BlV s who).1=s:=by unfold stepS;rw[hp]
   rw[es]at h1 ht ⊢
   exact⟨⟨h1,ht,h.clk⟩,fun _ _=>rfl,fun x k e=>by cases e⟩
 |some v=>
   obtain⟨x,k⟩:=v
   have ho:=h.ok.out sound_V T hw hp hq
   have hi:=h.ok.inv
   rw[tot_rest s.pd hw,hp]at hi
   have hl:=h.ok.live who x k hw hp
   have hcost:=step_cost (B:=BlV) hi hl.1 hl.2
   have ecl:=ho.clock
   have es:stepS tabL 64 BlV s who=stepO who s (stepF BlV tabL 64 k x s.m):=by unfold stepS;rw[hp]
   rw[es]at h1 ht ⊢
   unfold stepO at h1 ht ⊢
   generalize stepF BlV tabL 64 k x s.m=o at*
   obtain⟨o1,x1,m1⟩:=o
   cases o1 with
   |inl k1=>
     dsimp only at h1 ht ⊢
     have ecl:m1.clock=s.m.clock:=ecl
     refine⟨⟨h1,by rw[show (⟨m1,setP s.pd who (some (x1,k1))⟩:Top.Sys).m.clock=s.m.clock from ecl];exact ht,by show m1.clock≤c;rw[ecl];exact h.clk⟩,fun j hj=>setP_ne _ _ hj,fun x2 k2 e=> .inr ⟨x1,k1,setP_self _ _ _,?_⟩⟩
     cases e
     exact hcost
   |inr r=>
     dsimp only at h1 ht ⊢
     have ecl:m1.clock=s.m.clock:=ecl
     exact⟨⟨h1,by rw[show (⟨m1,setP s.pd who none⟩:Top.Sys).m.clock=s.m.clock from ecl];exact ht,by show m1.clock≤c;rw[ecl];exact h.clk⟩,fun j hj=>setP_ne _ _ hj,fun x2 k2 e=> .inl (setP_self _ _ _)⟩
theorem WtS.play {q:Nat} {c:Int} {s:Top.Sys} {p:Pk} (h:WtS q c s) (hq:q<4611686018427387900) (hc:c≤1000000) (hp:PkFit tabL (fitP p)):WtS (q+1) (c+40) (playS tabL 64 s (fitP p)):=by
 have T:=tab_ok (room:=64) (by decide) (by decide)
 have h1:=play_ok T h.ok hq hp
 obtain⟨j,hj,hj64⟩:=hp.who
 have hw:(fitP p).who.toNat<64:=by omega
 have hN:(fitP p).N≤39:=by show p.N%18446744073709551616%40≤39;omega
 have hN0:=hp.N0
 have hk:=h.ok.inv.clk
 have hcl:=h.clk
 unfold playS at h1 ⊢
 split
 · rw[if_pos ‹_›]at h1
   exact(h.step hq hw).1.mono (Nat.le_refl _) (by omega)
 rw[if_neg ‹_›]at h1
 split
 · rw[if_pos ‹_›]at h1
   have em:(startS s (fitP p).who.toNat (fitP p).c).m=s.m:=by unfold startS;split<;>rfl
   exact⟨h1,by rw[em];exact h.tat.start _ _,by rw[em];omega⟩
 · rw[if_neg ‹_›]at h1
   have ec:(tickS s (fitP p).N).m.clock=s.m.clock+(fitP p).N:=by
     show clampI (s.m.clock+(fitP p).N)=_
     exact clampI_id (by omega) (by omega)
   exact⟨h1,by rw[ec];exact(h.tat.mono (by omega)).tick _,by rw[ec];omega⟩
theorem hold0 (i:Nat):m0.hold i=[]:=by
 show(List.replicate 34 ([]:List Cell)).getD i []=[]
 rw[List.getD_eq_getElem?_getD,List.getElem?_replicate]
 split<;>rfl
theorem mt0 (b:Int):MT b m0:=fun i=>by
 rw[hold0]
 exact TL.nil b
theorem wt0 :WtS 1 0 ⟨m0,fun _=>none⟩:=⟨sys0 _ _,⟨mt0 _,fun who x k e=>by cases e⟩,by decide⟩
def Fin (who:Nat) (k:Nat) (s:Top.Sys):Prop:=k≤501∧((s.pd who).isSome=true→ ∃x kk,s.pd who=some (x,kk)∧cost s.m kk+k≤500)
theorem WtS.fin {q:Nat} {c:Int} {s:Top.Sys} (h:WtS q c s) {who:Nat} (hw:who<64):Fin who 0 s:=by
 refine⟨by decide,fun e=> ?_⟩
 obtain⟨⟨x,kk⟩,e⟩:=Option.isSome_iff_exists.1 e
 exact⟨x,kk,e,cost_le (h.ok.live who x kk hw e).2⟩
theorem WtS.finstep {q:Nat} {c:Int} {s:Top.Sys} (h:WtS q c s) (hq:q<4611686018427387900) {who k:Nat} (hw:who<64) (hf:Fin who k s) (hp:(s.pd who).isSome=true):
   Fin who (k+1) (stepS tabL 64 BlV s who).1∧k≤500:=by
 obtain⟨x,kk,e,hc⟩:=hf.2 hp
 refine⟨⟨by omega,fun e2=> ?_⟩,by omega⟩
 rcases(h.step hq hw).2.2 x kk e with h1|⟨x',k',h1,h2⟩
 · rw[h1]at e2;cases e2
 · exact⟨x',k',h1,by omega⟩
end
section
def V (r:Nat):Nat:=if r<4503599627370496 then r else(4503599627370496+r%4503599627370496)*2^(r/4503599627370496-1)
theorem V_at {E k:Nat} (hk:k≤9007199254740992) (h:E=0∨4503599627370496≤k):V (E*4503599627370496+k)=k*2^E:=by
 unfold V
 by_cases h0:k<4503599627370496
 · obtain rfl:E=0:=by omega
   rw[if_pos (by omega)];simp
 · rw[if_neg (by omega)]
   by_cases h1:k=9007199254740992
   · subst h1
     rw[show (E*4503599627370496+9007199254740992)%4503599627370496=0 by omega,show(E*4503599627370496+9007199254740992)/4503599627370496-1=E+1 by omega,Nat.pow_succ]
     omega
   · rw[show (E*4503599627370496+k)%4503599627370496=k-4503599627370496 by omega,show(E*4503599627370496+k)/4503599627370496-1=E by omega,show 4503599627370496+(k-4503599627370496)=k by omega]
theorem rung_form (r:Nat): ∃E k,r=E*4503599627370496+k∧k<9007199254740992∧(E=0∨4503599627370496≤k):=by
 by_cases h:r<4503599627370496
 · exact⟨0,r,by omega,by omega,Or.inl rfl⟩
 · exact⟨r/4503599627370496-1,r%4503599627370496+4503599627370496,by omega,by omega,Or.inr (by omega)⟩
theorem V_succ (r:Nat):V r<V (r+1):=by
 obtain⟨E,k,rfl,hk,h⟩:=rung_form r
 rw[V_at (by omega) h,Nat.add_assoc,V_at (by omega) (by omega),Nat.succ_mul]
 have:0<2^E:=Nat.two_pow_pos E
 omega
theorem V_lt {r s:Nat} (h:r<s):V r<V s:=by
 induction s with
 |zero=>omega
 |succ s ih=>
   have:=V_succ s
   by_cases hs:r=s
   · subst hs;exact this
   · exact Nat.lt_trans (ih (by omega)) this
theorem V_le {r s:Nat} (h:r≤s):V r≤V s:=by
 by_cases hs:r=s
 · rw[hs];exact Nat.le_refl _
 · exact Nat.le_of_lt (V_lt (by omega))
theorem V_inj {r s:Nat} (h:V r=V s):r=s:=by
 rcases Nat.lt_trichotomy r s with h1|h1|h1
 · have:=V_lt h1;omega
 · exact h1
 · have:=V_lt h1;omega
theorem V_zero :V 0=0:=rfl
theorem V_shift {r:Nat} (h:4503599627370496≤r) (k:Nat):V (r+k*4503599627370496)=V r*2^k:=by
 obtain⟨E,m,rfl,hk,h'⟩:=rung_form r
 have hm:4503599627370496≤m:=by omega
 rw[show E*4503599627370496+m+k*4503599627370496=(E+k)*4503599627370496+m by omega,V_at (by omega) (Or.inr hm),V_at (by omega) (Or.inr hm),Nat.pow_add,Nat.mul_assoc]
def IsNear (p q r:Nat):Prop:=
 (∀s,s+1=r→(V s+V r)*q≤2*p∧((V s+V r)*q=2*p→r%2=0))∧
 2*p≤(V r+V (r+1))*q∧(2*p=(V r+V (r+1))*q→r%2=0)
theorem squeeze {A B p q p' q':Nat} (hq:0<q) (hq':0<q') (hBA:B≤A) (h1:A*q≤2*p) (h2:2*p'≤B*q') (h:p*q'≤p'*q):A*q=2*p∧2*p'=B*q'∧A=B:=by
 have e1:=Nat.mul_le_mul_right q' h1
 have e2:=Nat.mul_le_mul_right q h2
 have e3:=Nat.mul_le_mul_right (q*q') hBA
 rw[Nat.mul_assoc,Nat.mul_assoc]at e1 e2
 rw[Nat.mul_comm q' q]at e2
 have e4:A*(q*q')=2*(p*q'):=by omega
 have e5:2*(p'*q)=B*(q*q'):=by omega
 have e6:A*(q*q')=B*(q*q'):=by omega
 refine⟨?_,?_,Nat.mul_right_cancel (Nat.mul_pos hq hq') e6⟩
 · rw[← Nat.mul_assoc,←Nat.mul_assoc]at e4
   exact Nat.mul_right_cancel hq' e4
 · rw[Nat.mul_comm q q',←Nat.mul_assoc,←Nat.mul_assoc]at e5
   exact Nat.mul_right_cancel hq e5
theorem near_mono {p q r p' q' r':Nat} (hq:0<q) (hq':0<q') (h:IsNear p q r) (h':IsNear p' q' r') (hle:p*q'≤p'*q):r≤r':=by
 refine Nat.le_of_not_lt fun hlt=> ?_
 obtain⟨s,rfl⟩: ∃s,r=s+1:=⟨r-1,by omega⟩
 obtain⟨h1,h2⟩:=h.1 s rfl
 obtain⟨-,h3,h4⟩:=h'
 have hv1:V r'≤V s:=V_le (by omega)
 have hv2:V (r'+1)≤V (s+1):=V_le (by omega)
 obtain⟨g1,g2,g3⟩:=squeeze hq hq' (show V r'+V (r'+1)≤V s+V (s+1)by omega) h1 h3 hle
 have e9:r'=s:=V_inj (by omega)
 have:=h2 g1
 have:=h4 g2
 omega
theorem near_same {p q r p' q' r':Nat} (hq:0<q) (hq':0<q') (h:IsNear p q r) (h':IsNear p' q' r') (he:p*q'=p'*q):r=r':=
 Nat.le_antisymm (near_mono hq hq' h h' (Nat.le_of_eq he)) (near_mono hq' hq h' h (Nat.le_of_eq he.symm))
theorem near_exact {p q r:Nat} (hq:0<q) (h:V r*q=p):IsNear p q r:=by
 subst h
 have h1:V r*q<V (r+1)*q:=Nat.mul_lt_mul_of_pos_right (V_succ r) hq
 refine⟨fun s hs=> ?_,?_,fun he=> ?_⟩
 · subst hs
   have h2:V s*q<V (s+1)*q:=Nat.mul_lt_mul_of_pos_right (V_succ s) hq
   rw[Nat.add_mul]
   exact⟨by omega,fun he=>by omega⟩
 · rw[Nat.add_mul];omega
 · rw[Nat.add_mul]at he;omega
theorem near_of_exact {p q r r':Nat} (hq:0<q) (h:IsNear p q r) (he:V r'*q=p):r=r':=
 near_same hq hq h (near_exact hq he) rfl
theorem near_scale {p q r:Nat} (c:Nat) (hc:0<c):IsNear (p*c) (q*c) r↔IsNear p q r:=by
 have hm (a b:Nat):a*(q*c)≤2*(p*c)↔a*q≤2*p:=by
   rw[← Nat.mul_assoc,←Nat.mul_assoc];exact Nat.mul_le_mul_right_iff hc
 have hm2 (a:Nat):2*(p*c)≤a*(q*c)↔2*p≤a*q:=by
   rw[← Nat.mul_assoc,←Nat.mul_assoc];exact Nat.mul_le_mul_right_iff hc
 have he (a:Nat):a*(q*c)=2*(p*c)↔a*q=2*p:=by
   rw[← Nat.mul_assoc,←Nat.mul_assoc];exact⟨fun h=>Nat.mul_right_cancel hc h,fun h=>by rw[h]⟩
 have he2 (a:Nat):2*(p*c)=a*(q*c)↔2*p=a*q:=by
   rw[eq_comm,he,eq_comm]
 unfold IsNear
 simp only[hm _ 0,hm2,he,he2]
theorem near_shift {p q r:Nat} (k:Nat) (h:4503599627370496<r):IsNear p (q*2^k) r↔IsNear p q (r+k*4503599627370496):=by
 obtain⟨s,rfl⟩: ∃s,r=s+1:=⟨r-1,by omega⟩
 have e1:V (s+1+k*4503599627370496)=V (s+1)*2^k:=V_shift (by omega) k
 have e2:V (s+k*4503599627370496)=V s*2^k:=V_shift (by omega) k
 have e3:V (s+1+k*4503599627370496+1)=V (s+1+1)*2^k:=by
   rw[show s+1+k*4503599627370496+1=s+1+1+k*4503599627370496 by omega];exact V_shift (by omega) k
 have hp:(s+1+k*4503599627370496)%2=(s+1)%2:=by omega
 have hx (a b:Nat):(a+b)*(q*2^k)=(a*2^k+b*2^k)*q:=by
   rw[← Nat.add_mul,Nat.mul_assoc,Nat.mul_comm q]
 unfold IsNear
 rw[e1,e3,hp,hx]
 constructor
 · rintro⟨h1,h2⟩
   refine⟨fun t ht=> ?_,h2⟩
   obtain rfl:t=s+k*4503599627370496:=by omega
   have:=h1 s rfl
   rw[hx]at this
   rw[e2];exact this
 · rintro⟨h1,h2⟩
   refine⟨fun t ht=> ?_,h2⟩
   obtain rfl:t=s:=by omega
   have:=h1 (t+k*4503599627370496) (by omega)
   rw[e2]at this
   rw[hx];exact this
theorem cut_spec (neg:Bool) (n drop:Nat):
   let k:=Ieee.Toward.even.cut neg n drop
   2*k*2^drop≤2*n+2^drop∧(2*k*2^drop=2*n+2^drop→k%2=0)∧2*n≤2*k*2^drop+2^drop∧(2*n=2*k*2^drop+2^drop→k%2=0):=by
 intro k
 by_cases hd:drop≤n.log2+2
 · have hk:k=n/2^drop+(decide (2^drop<2*(n%2^drop))||(2^drop==2*(n%2^drop)&&n/2^drop%2==1)).toNat:=by
     show Ieee.Toward.even.cut neg n drop=_
     unfold Ieee.Toward.cut
     simp only[Nat.min_eq_left hd,Nat.one_shiftLeft]
   have hg:0<2^drop:=Nat.two_pow_pos _
   have hn:=Nat.div_add_mod n (2^drop)
   have hm:=Nat.mod_lt n hg
   generalize n/2^drop=low at*
   generalize n%2^drop=rest at*
   generalize 2^drop=g at*
   rw[hk]
   have e1:2*(low+1)*g=2*(g*low)+2*g:=by rw[Nat.mul_assoc,Nat.add_mul,Nat.mul_add,Nat.one_mul,Nat.mul_comm low g]
   have e2:2*low*g=2*(g*low):=by rw[Nat.mul_assoc,Nat.mul_comm low g]
   by_cases h1:g<2*rest
   · rw[show (decide (g<2*rest)||(g==2*rest&&low%2==1))=true by simp [h1]]
     show 2*(low+1)*g≤_∧_∧_≤2*(low+1)*g+g∧_
     simp only[Bool.toNat_true]
     rw[e1]
     exact⟨by omega,fun h=>by omega,by omega,fun h=>by omega⟩
   · by_cases h2:g=2*rest
     · by_cases h3:low%2=1
       · rw[show (decide (g<2*rest)||(g==2*rest&&low%2==1))=true by simp [h2,h3]]
         simp only[Bool.toNat_true]
         rw[e1]
         exact⟨by omega,fun h=>by omega,by omega,fun h=>by omega⟩
       · rw[show (decide (g<2*rest)||(g==2*rest&&low%2==1))=false by simp [h1,h3]]
         simp only[Bool.toNat_false,Nat.add_zero]
         rw[e2]
         exact⟨by omega,fun h=>by omega,by omega,fun h=>by omega⟩
     · rw[show (decide (g<2*rest)||(g==2*rest&&low%2==1))=false by simp [h1,h2]]
       simp only[Bool.toNat_false,Nat.add_zero]
       rw[e2]
       exact⟨by omega,fun h=>by omega,by omega,fun h=>by omega⟩
 · have hlt:2*n<2^(n.log2+2):=by
     have:= @Nat.lt_log2_self n
     rw[Nat.pow_succ]
     omega
   have hg:2^(n.log2+2)≤2^drop:=Nat.pow_le_pow_right (by decide) (by omega)
   have hk:k=0:=by
     show Ieee.Toward.even.cut neg n drop=_
     unfold Ieee.Toward.cut
     simp only[Nat.min_eq_right (show n.log2+2≤drop by omega),Nat.one_shiftLeft]
     rw[Nat.div_eq_of_lt (by omega),Nat.mod_eq_of_lt (by omega)]
     generalize 2^(n.log2+2)=g at*
     rw[show (decide (g<2*n)||(g==2*n&&(0:Nat)%2==1))=false by simp;omega]
     rfl
   rw[hk]
   simp only[Nat.mul_zero,Nat.zero_mul]
   exact⟨by omega,fun _=>trivial,by omega,fun _=>trivial⟩
theorem scale_up {n k d D M X Y S:Nat} (hX:0<X) (hY:0<Y) (hD:0<D) (hM:M*D=n*(Y*X)) (h1:2*n≤2*k*D+D) (h2:2*n=2*k*D+D→k%2=0) (hS:(2*k+1)*X≤S) (_:d=d):
   2*M≤S*Y∧(2*M=S*Y→k%2=0):=by
 have e1:2*n*(Y*X)≤(2*k*D+D)*(Y*X):=Nat.mul_le_mul_right _ h1
 have e2:(2*k+1)*X*(Y*D)≤S*(Y*D):=Nat.mul_le_mul_right _ hS
 have e3:(2*k*D+D)*(Y*X)=(2*k+1)*X*(Y*D):=by
   rw[show 2*k*D+D=(2*k+1)*D by rw[Nat.add_mul,Nat.one_mul]]
   rw[Nat.mul_assoc,Nat.mul_assoc]
   congr 1
   rw[Nat.mul_comm Y X,←Nat.mul_assoc,Nat.mul_comm D X,Nat.mul_assoc,Nat.mul_comm D Y]
 have e4:2*n*(Y*X)=2*M*D:=by rw[Nat.mul_assoc,←hM,Nat.mul_assoc]
 have e5:S*(Y*D)=S*Y*D:=by rw[Nat.mul_assoc]
 refine⟨Nat.le_of_mul_le_mul_right (by omega:2*M*D≤S*Y*D) hD,fun h=>h2 ?_⟩
 have e6:2*n*(Y*X)=(2*k*D+D)*(Y*X):=by
   have:2*M*D=S*Y*D:=by rw[h]
   omega
 exact Nat.mul_right_cancel (Nat.mul_pos hY hX) e6
theorem scale_down {n k D M X Y:Nat} (hX:0<X) (hY:0<Y) (hD:0<D) (hM:M*D=n*(Y*X)) (h1:2*(k+1)*D≤2*n+D) (h2:2*(k+1)*D=2*n+D→(k+1)%2=0):
   (k*X+(k+1)*X)*Y≤2*M∧((k*X+(k+1)*X)*Y=2*M→(k+1)%2=0):=by
 have h1':(2*k+1)*D≤2*n:=by
   have:2*(k+1)*D=(2*k+1)*D+D:=by rw[show 2*(k+1)=2*k+1+1 by omega,Nat.succ_mul]
   omega
 have e1:(2*k+1)*D*(Y*X)≤2*n*(Y*X):=Nat.mul_le_mul_right _ h1'
 have e3:(2*k+1)*D*(Y*X)=(k*X+(k+1)*X)*Y*D:=by
   rw[← Nat.add_mul,show k+(k+1)=2*k+1 by omega,Nat.mul_assoc,Nat.mul_assoc,Nat.mul_assoc]
   congr 1
   rw[Nat.mul_comm Y X,Nat.mul_comm D,Nat.mul_assoc]
 have e4:2*n*(Y*X)=2*M*D:=by rw[Nat.mul_assoc,←hM,Nat.mul_assoc]
 refine⟨Nat.le_of_mul_le_mul_right (by omega:(k*X+(k+1)*X)*Y*D≤2*M*D) hD,fun h=>h2 ?_⟩
 have e6:(2*k+1)*D*(Y*X)=2*n*(Y*X):=by
   have:(k*X+(k+1)*X)*Y*D=2*M*D:=by rw[h]
   omega
 have e7:=Nat.mul_right_cancel (Nat.mul_pos hY hX) e6
 rw[show 2*(k+1)=2*k+1+1 by omega,Nat.succ_mul]
 omega
theorem nearest_is (neg:Bool) (mag a b:Nat) (h:0<mag):
   ∃r,IsNear (mag*2^a) (2^b) r∧Ieee.double.nearest neg mag ((a:Int)-(b:Int)-1074)=Ieee.double.word neg (min r 9218868437227405312):=by
 obtain⟨L,hL⟩: ∃L,L=mag.log2:=⟨_,rfl⟩
 have hL1:2^L≤mag:=by rw[hL];exact Nat.log2_self_le (by omega)
 have hL2:mag<2^(L+1):=by rw[hL];exact Nat.lt_log2_self
 obtain⟨E,hE⟩: ∃E:Nat,E=((a:Int)-b+L-52).toNat:=⟨_,rfl⟩
 obtain⟨u,hu⟩: ∃u:Nat,u=((a:Int)-b-E).toNat:=⟨_,rfl⟩
 obtain⟨d,hd⟩: ∃d:Nat,d=((E:Int)+b-a).toNat:=⟨_,rfl⟩
 obtain⟨n,hn⟩: ∃n:Nat,n=mag*2^u:=⟨_,rfl⟩
 obtain⟨k,hk⟩: ∃k:Nat,k=Ieee.Toward.even.cut neg n d:=⟨_,rfl⟩
 have hudE:u+(b+E)=a+d:=by omega
 have hM:mag*2^a*2^d=n*(2^b*2^E):=by
   rw[hn,Nat.mul_assoc,Nat.mul_assoc,←Nat.pow_add,←Nat.pow_add,←Nat.pow_add,hudE]
 have hn1:n<9007199254740992*2^d:=by
   have h1:n<2^(L+1)*2^u:=by rw[hn];exact Nat.mul_lt_mul_of_pos_right hL2 (Nat.two_pow_pos _)
   have h2:2^(L+1)*2^u≤2^53*2^d:=by
     rw[← Nat.pow_add,←Nat.pow_add];exact Nat.pow_le_pow_right (by decide) (by omega)
   have h3:(2:Nat)^53=9007199254740992:=by decide
   omega
 have hn2:0<E→4503599627370496*2^d≤n:=by
   intro h0
   have h1:2^L*2^u≤n:=by rw[hn];exact Nat.mul_le_mul_right _ hL1
   have h2:2^52*2^d≤2^L*2^u:=by
     rw[← Nat.pow_add,←Nat.pow_add];exact Nat.pow_le_pow_right (by decide) (by omega)
   have h3:(2:Nat)^52=4503599627370496:=by decide
   omega
 have hD:=Nat.two_pow_pos d
 have hX:=Nat.two_pow_pos E
 have hY:=Nat.two_pow_pos b
 obtain⟨c1,c2,c3,c4⟩:=cut_spec neg n d
 rw[← hk]at c1 c2 c3 c4
 have hk1:k≤9007199254740992:=by
   refine Nat.le_of_not_lt fun hlt=> ?_
   have:=Nat.mul_le_mul_right (2^d) (show 2*9007199254740992+2≤2*k by omega)
   rw[Nat.add_mul]at this
   omega
 have hk2:0<E→4503599627370496≤k:=by
   intro h0
   have:=hn2 h0
   refine Nat.le_of_not_lt fun hlt=> ?_
   have:=Nat.mul_le_mul_right (2^d) (show 2*k+2≤2*4503599627370496 by omega)
   rw[Nat.add_mul]at this
   omega
 have hk3:E=0∨4503599627370496≤k:=by
   rcases Nat.eq_zero_or_pos E with h0|h0
   · exact Or.inl h0
   · exact Or.inr (hk2 h0)
 have hV:V (E*4503599627370496+k)=k*2^E:=V_at hk1 hk3
 refine⟨E*4503599627370496+k,⟨fun s hs=> ?_,?_⟩,?_⟩
 · by_cases hs':E=0∨4503599627370496<k
   · obtain⟨j,hj⟩: ∃j,k=j+1:=⟨k-1,by omega⟩
     have hVs:V s=j*2^E:=by
       rw[show s=E*4503599627370496+j by omega]
       exact V_at (by omega) (by omega)
     rw[hVs,hV]
     rw[hj]at c1 c2 ⊢
     obtain⟨g1,g2⟩:=scale_down hX hY hD hM c1 c2
     exact⟨g1,fun he=>by have:=g2 he;omega⟩
   · have hkk:k=4503599627370496:=by omega
     have h0:0<E:=by omega
     have hlt:V s<k*2^E:=by rw[← hV];exact V_lt (by omega)
     have hkn:k*2^d≤n:=by rw[hkk];exact hn2 h0
     have e1:k*2^d*(2^b*2^E)≤n*(2^b*2^E):=Nat.mul_le_mul_right _ hkn
     have e2:k*2^d*(2^b*2^E)=k*2^E*2^b*2^d:=by
       rw[Nat.mul_assoc,Nat.mul_assoc,Nat.mul_assoc]
       congr 1
       rw[Nat.mul_comm (2^d),Nat.mul_comm (2^b) (2^E),Nat.mul_assoc]
     have e3:k*2^E*2^b≤mag*2^a:=Nat.le_of_mul_le_mul_right (by omega:k*2^E*2^b*2^d≤mag*2^a*2^d) hD
     have e4:(V s+V (E*4503599627370496+k))*2^b<(k*2^E+k*2^E)*2^b:=Nat.mul_lt_mul_of_pos_right (by omega) hY
     rw[Nat.add_mul (k*2^E)]at e4
     exact⟨by omega,fun he=>by omega⟩
 · have hVn:(k+1)*2^E≤V (E*4503599627370496+k+1):=by
     by_cases hkm:k=9007199254740992
     · rw[show E*4503599627370496+k+1=(E+1)*4503599627370496+4503599627370497 by omega,V_at (by omega) (Or.inr (by omega)),hkm,Nat.pow_succ]
       omega
     · rw[show E*4503599627370496+k+1=E*4503599627370496+(k+1)by omega,V_at (by omega) (by omega)]
       exact Nat.le_refl _
   have hS:(2*k+1)*2^E≤V (E*4503599627370496+k)+V (E*4503599627370496+k+1):=by
     rw[hV,show 2*k+1=k+(k+1)by omega,Nat.add_mul]
     omega
   obtain⟨g1,g2⟩:=scale_up hX hY hD hM c3 c4 hS (rfl:d=d)
   exact⟨g1,fun he=>by have:=g2 he;omega⟩
 · unfold Ieee.Format.nearest
   rw[if_neg (by omega)]
   have hlp:Ieee.double.leastPlace= -1074:=by decide
   have hfb:(Ieee.double.fractionBits:Int)=52:=rfl
   have hbi:Ieee.double.binade=4503599627370496:=by decide
   have hir:Ieee.double.infRung=9218868437227405312:=by decide
   simp only[hlp,hfb,hbi,hir]
   rw[← hL]
   have hlast:max ((a:Int)-b-1074+L-52) (-1074)=(E:Int)-1074:=by omega
   rw[hlast]
   rw[show ((a:Int)-b-1074-((E:Int)-1074)).toNat=u by omega,show((E:Int)-1074-((a:Int)-b-1074)).toNat=d by omega,show((E:Int)-1074- -1074).toNat=E by omega]
   rw[Nat.shiftLeft_eq,←hn,←hk]
end
end Go.Proofs.YtemnhpdjoimjbaaGreatDoor
