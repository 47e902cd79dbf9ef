/- What is proved: Rows.TopAbandonedSaid, the given statement, under no condition of ours. -/
import Derived.Test.YtoglcccmgnjchaaGreatTa27
import Derived.Test.YtoglcccmgnjchaaGreatRows
import Derived.WalkKit
import Derived.ProofKit
import Derived.OpenShut
import Derived.Lib.SmallJoins
import Derived.Below
import Derived.ChangeOld
set_option linter.all false
set_option maxHeartbeats 8000000
set_option maxRecDepth 100000
namespace Go.Proofs.YtoglcccmgnjchaaGreat
open Go.Proofs.Tryz PL
section
open Go.RowKit ai
theorem aey(cells left:Int)(v:Value)(L:List o6)(hc:(Lit.int .u8 cells).wf=true)(U:(Lit.int .u8 left).wf=true)(w:World)(h:PJ w v L):
   aR 3 #[.int .u8 cells,v,.int .u8 left] w (dM true w):=by
 obtain⟨n,rfl,hn⟩:=KD hc;obtain⟨lf,rfl,aq0⟩:=KD U;obtain⟨AZ,b?,lc,rfl,eS,fm,nI⟩:=h;obtain⟨ag,qu,b9,da⟩:∃ag:Nat,(1:Int)+(n:Int)%6=(ag:Nat)/\1<=ag/\ag<=6:=⟨1+n%6,ae,ae,ae⟩;have T:=abR b9 (show ag<=4096 by omega);have k0:=ad T;have gP:=ad nI;have O5:=ad AZ;have nw:=ad eS;(have EE:L.length<=9223372036854775807:=by unfold maxLen at fm;omega);(have rU:Hid (∀W az,hv W az bP->aR 4 #[az,.int .i64 (1+(n:Int)%6)] W fun e w'=>∃(A:c6) (B:Nat),e=.returned (.tuple #[P A.K,.int .i64 0])/\B=W.heap.size/\A.af=bP/\A.ag=ag/\iJ w' B A m0 (fun _=>none)/\Below W.heap.size W w'):=fun W az U=>by rw[qu];exact(alb az ag W U b9 ae).mono fun e w' ⟨A,h1,ao,ar,aD,aK⟩=>⟨A,_,h1,rfl,ao,ar,aD,aK⟩);(have qN:Hid (∀W az,hv W az bP->aR 6 #[az,.int .i64 (1+(n:Int)%6)] W fun e w'=>∃b,e=.returned (.tuple #[P b,.int .i64 0])/\mb w' W.heap.size b bP ag ze/\Below W.heap.size W w'):=fun W az U=>by rw[qu];exact agt bP az ag W.heap.size W (bG _) U ax ax yH ⟨b9,ae⟩);clear hc U eS fm nI AZ qu T;go_enter func3,ntmps3;(go_upto_region 6 with(first|(go_at_call 5;(with_reducible refine(abS _).mono ?_);rintro e w1 ⟨az,rfl,jf,bZ⟩;have Ld:=ad jf;have eM:=ad bZ;clear jf bZ)|(go_at_call 4;(with_reducible refine(rU.out _ _ Ld.out).mono ?_);rintro e aQ ⟨A,B,rfl,QI,Xs,x4,Zs,a7⟩;have fc:=ad (bw Xs (bw x4<|bw Zs<|bw (eM.out.trans<|a7.mono eM.out.size)<|show w.heap.size<=B/\B<=aQ.heap.size from⟨by rw[QI];exact eM.out.size,by rw[QI];exact a7.size⟩));clear Ld QI Xs x4 Zs a7)|(go_at_call 6;(with_reducible refine(qN.out _ _ Ld.out).mono ?_);rintro e gq ⟨kc,rfl,Yg,jt⟩;have Y:=ad<|bw Yg<|bw eM.out jt;clear Yg jt)));obtain⟨bL,ig⟩:∃u,u=gq:=⟨_,rfl⟩;subst ig;have Q9:=Y.out.2.1.trans<|Y.out.2.2.mono Y.out.2.1.size;have Li:=ad fc.out.2.2.2.2.1;have ud:=ad<|fc.out.2.2.2.1.trans<|Q9.mono fc.out.2.2.2.1.size;have acU:Hid (mT bL B A w1.heap.size kc ag 1 L! ze):=⟨⟨fc.out.2.2.1.keep Q9,Y.out.1,fc.out.1,fc.out.2.1,by have:=fc.out.2.2.2.2.2;have:=Y.out.2.1.size;omega⟩,aez ag,akG⟩;clear Q9 fc Y rU qN Ld;generalize w1.heap.size=gA at*;have aiX:∃lost:Nat,(lf:Int)%5=(lost:Nat)/\lost<5:=⟨lf%5,ae,ae⟩;(go_upto_region 7 with fail);obtain⟨lost,hle,S⟩:=aiX;rw[hle];clear hle;go_cut [13]from 51 fun zK r=>∃t:Nat,zK=.int .i64 t/\t<=L.length/\t<=300/\r=bL;case first=>go_wp2;go_meet;exact⟨min L.length 300,congrArg (Value.int .i64) ae,ae,ae,rfl⟩
 case rest=>
   obtain⟨t,rfl,ai1,aq8,rfl⟩:=hcut;have ara:t<=lc:=eB ai1 nw.out;have arb:(t:Int)<=lc:=ae;have vS:(0:Int)<=t:=ae;obtain⟨bL,ig⟩:∃u,u=wc:=⟨_,rfl⟩;subst ig;go_wp2;go_loopw [58] (fun i wr=>∃(k:Nat) (q:Nat) (G:GS) (D:bf),i=.int .i64 k/\k<=t/\mT wr B A gA kc ag q G D/\q<=k+1/\Below w.heap.size w wr) (fun i _=>t-(intOf i).toNat);case atStart=>exact⟨0,1,_,_,rfl,fw _,acU.out,bG _,ud.out⟩
   case round=>
     obtain⟨l,rF⟩:∃x,x=wr:=⟨_,rfl⟩;subst rF;obtain⟨k,q,G,D,rfl,hk,XI,a',I⟩:=hrel;have fC:=ad XI;have f:=ad I;have g:=ad a';have bR:=I.size;clear XI I a';by_cases cg:k<t
     . have aiQ:k<L.length:=ae;have Cw:(k:Int)<t:=ae;have Cx:(0:Int)<=k:=ae;obtain⟨jL,off,rfl,a!⟩:=gP.out ae;obtain⟨p,hp⟩:∃p,L[k]?=some p:=⟨_,eG aiQ⟩;obtain⟨Kk,fN,eb,fJ,dz,gi,sw,kY,vd⟩:=a! k p hp;have RW:=O5.out p<|List.mem_of_getElem? hp;have z0:=cB f.out eb;have fT:=cB f.out fJ;have z2:=cB f.out dz;have z3:=cB f.out gi;have z4:=cB f.out sw;have z5:=cB f.out kY;have jj:=cB f.out vd;have X8:=fN.below f.out;obtain⟨dT,dC,rfl⟩:=e? fN;have x!:=ag' RW fN.1;(have gQ:Hid (∀W,Below l.heap.size l W->aR 7 #[.agg #[.int .u8 (p.kind:Nat),p.ak,.int .u8 (p.c.op:Nat),p.c.pol,.slice dT p.c.key.length dC,p.c.n,p.N]] W fun e w'=>∃gE gF,e=.returned (.agg #[.int .u8 ((r8 p).kind:Nat),(r8 p).ak,.int .u8 ((r8 p).c.op:Nat),(r8 p).c.pol,.slice gE (r8 p).c.key.length gF,(r8 p).c.n,(r8 p).N])/\(∀W,Below w.heap.size w W->fj W (.slice gE (r8 p).c.key.length gF) (r8 p).c.key)/\Below W.heap.size W w'):=fun W al=>(ag9 p _ W (X8.below al) RW).mono fun e w' ⟨gU,h1,ao,ar⟩=>by have rr:∀W,Below w.heap.size w W->fj W gU (r8 p).c.key:=fun W al=>ao W<|fN.below al;(obtain⟨gE,gF,rfl⟩:∃a bx,gU=.slice a (r8 p).c.key.length bx:=by obtain⟨_,a,bx,e,_⟩:=rr w<|b5 _ _;exact⟨a,bx,e⟩);exact⟨gE,gF,h1,rr,ar⟩);obtain⟨F,hF⟩:∃F,r8 p=F:=⟨_,rfl⟩;rw[hF]at x! gQ;have dD:=ad x!;clear a! hp fN eb fJ dz gi sw kY vd RW X8 x! hF;(go_upto_region 11 with fail);refine kX ((b5 l.heap.size l).alloc (bG _) _) (aq.new l _ _) ?_;intro v O d;have d0:=d.cell 0;have d1:=d.cell 1;have d2:=d.cell 2;have d3:=d.cell 3;have d4:=d.cell 4;have d5:=d.cell 5;have d6:=d.cell 6;have h_:=ad O;have j!:=ad d;clear O d z0 fT z2 z3 z4 z5 jj;have aqb:F.kind<3:=dD.out.1.kind;have aqd:=dD.out.2;(go_upto_region 12 with(go_at_call 7;(with_reducible refine(gQ.out _ h_.out).mono ?_);rintro e dy ⟨gE,gF,rfl,kB,cW⟩;have ra:=ad kB;have o:=j!.out.below cW j!.out.lt;have cI:=o.cell 0;have aO:=o.cell 1;have aU:=o.cell 2;have cr:=o.cell 3;have eI:=o.cell 4;have jF:=o.cell 5;have n3:=o.cell 6;have g0:=o.free 0;have g1:=o.free 1;have g2:=o.free 2;have g3:=o.free 3;have g4:=o.free 4;have g5:=o.free 5;have g6:=o.free 6;have hG:=ad<|bw o<|ez h_.out cW;clear kB cW o));refine wp_name (fun u=>Below l.heap.size l u/\aq u l.heap.size 36 #[.int .u8 (F.kind:Nat),F.ak,.int .u8 (F.c.op:Nat),F.c.pol,.slice gE F.c.key.length gF,F.c.n,F.N]) ⟨?_,(((((((hG.out.1.setCell 0 _).setCell 1 _).setCell 2 _).setCell 3 _).setCell 4 _).setCell 5 _).setCell 6 _)⟩ ?_;{exact((((((hG.out.2.setCell (bG _) _).setCell (bG _) _).setCell (bG _) _).setCell (bG _) _).setCell (bG _) _).setCell (bG _) _).setCell (bG _) _};rintro u ⟨kk,M⟩;clear hG h_ j! d0 d1 d2 d3 d4 d5 d6 cI aO aU cr eI jF n3 g0 g1 g2 g3 g4 g5 g6;have d0:=M.cell 0;have d1:=M.cell 1;have d2:=M.cell 2;have d3:=M.cell 3;have d4:=M.cell 4;have d5:=M.cell 5;have d6:=M.cell 6;have ct:=ad kk;clear kk M gQ;obtain⟨j,aL,YG⟩:=dD.out.1.ak;have RA:(k:Int)<300:=ae;go_cut [58,79]from 58 to 84 fun am6 am8 r=>am6=.int .i64 k/\∃b,am8=.bool b/\r=u;case first=>go_wp2;all_goals go_meet;exact⟨rfl,_,rfl,rfl⟩
       case rest=>
         obtain⟨rfl,b,rfl,rfl⟩:=hcut
         cases b with
         |true=>
           go_wp2
           go_roundw
           case rel=>exact⟨k+1,q,G,D,by go_num,ae,fC.out.later ct.out,by have:=g.out;omega,f.out.trans<|ct.out.mono f.out.size⟩
           case measure=>simp [intOf];omega
         | false =>
           have ja:Hid (∀W,Below l.heap.size l W->aR 8 #[P A.K,P kc,.agg #[.int .u8 (F.kind:Nat),j,.int .u8 (F.c.op:Nat),F.c.pol,.slice gE F.c.key.length gF,F.c.n,F.N]] W fun e w'=>(∃v,e= .returned v)/\mT w' B A gA kc ag (q+1) (r9 ag G F) (r5 ag D F)/\Below B W w'):=fun W al=>by
             rw[<- aL]
             exact(fC.out.later al).V0 (p:=F) (kv:= .slice gE F.c.key.length gF) k0.out (by have:=g.out;omega) dD.out.1 (by rw[aL];omega) fun V QT=>ra.out V<|(f.out.trans<|al.mono f.out.size).trans<|QT.mono Li.out
           go_wp2_with (go_at_call 8;(with_reducible refine(ja.out _ ct.out).mono ?_);rintro e gq ⟨⟨v4,rfl⟩,XH,jt⟩;have DB:=ad<|bw XH jt;clear XH jt)
           go_roundw
           case rel=>exact⟨k+1,q+1,_,_,by go_num,ae,DB.out.1,by have:=g.out;omega,(f.out.trans<|ct.out.mono f.out.size).trans<|DB.out.2.mono Li.out⟩
           case measure=>simp [intOf];omega
     . obtain rfl:k=t:=ae;have adE:Hid (HM w l B A gA kc ag 301 fun i=>i<0/\i≠lost):=⟨q,G,D,fC.out,by have:=g.out;omega,fun i hi=>absurd hi.1 ae,f.out⟩;clear fC g f;go_wp2;go_loopw [85] (fun i wr=> ∃j:Nat,i= .int .i64 j/\j<=5/\HM w wr B A gA kc ag (301+501*j) fun i=>i<j/\i≠lost) (fun i _=>5-(intOf i).toNat);case atStart=>exact⟨0,rfl,ae,adE.out⟩
       case round=>
         obtain⟨J,G7⟩: ∃x,x=wr:=⟨_,rfl⟩;subst G7;obtain⟨j,rfl,aL,C⟩:=hrel;have tq:=ad C;clear C;by_cases Az:j<5
         . have Mw:(j:Int)<5:=ae;obtain⟨Nd,aiO⟩: ∃Nd,301+501*j=Nd:=⟨_,rfl⟩;have aqF:Nd+501<=2806:=ae;rw[aiO]at tq;obtain⟨R,iK⟩: ∃R:Nat->Prop,(fun i=>i<j/\i≠lost)=R:=⟨_,rfl⟩;rw[iK]at tq;(have iR:Hid ((∀i,R i->i≠j)/\(∀i,i<j+1/\i≠lost->R i\/i=j)):=by subst iK;exact⟨fun i h e=>absurd h.1 ae,fun i h=>by by_cases e:i=j;exact .inr e;exact .inl ⟨ae,h.2⟩⟩);clear iK;have gj:=ad<|tq.out.fin Az;(go_upto_region 18 with fail);go_wp2;go_loopw [17] (fun i wr=> ∃k:Nat,i= .int .i64 k/\KP w wr B A gA kc ag Nd R j k) (fun i _=>502-(intOf i).toNat);case atStart=>exact⟨0,rfl,gj.out⟩
           case round=>
             obtain⟨r,Z⟩: ∃x,x=wr:=⟨_,rfl⟩;subst Z;obtain⟨k,rfl,q,G,D,C,a',ay,hi,al⟩:=hrel;have fC:=ad C;have g:=ad a';have z:=ad ay;have Hi:=ad hi;have H:=ad al;clear C a' ay hi al;by_cases bY:j=lost;· subst bY;go_wp2;go_roundw;(case rel=>exact⟨j+1,by go_num,ae,q,G,D,fC.out,by have:=g.out;have:=z.out.1;omega,fun i hi=>(iR.out.2 i hi).elim (Hi.out i) fun e=>absurd e hi.2,H.out⟩);case measure=>simp [intOf];omega
             . have aqf: ¬(j:Int)=lost:=ae
               cases hp:(G.s.bz j).isSome with
               | true =>
                 have Mx:k<=500:=(fC.out.ab.ab.Qu k0.out (by have:=g.out;have:=z.out.1;omega) Az z.out hp).2;have My: ¬(512:Int)<k:=ae;(have E:Hid (∀W,W=r->aR 9 #[P A.K,j] W (ga (.bool true) W)):=fun W e=>by subst e;have:=Kd B A G.s.m G.s.bz j W fC.out.both.sys ae;rw[hp]at this;exact this);have ja:=ad<|W5 k0.out fC.out g.out ae z.out Hi.out iR.out.1 H.out Li.out Az hp
                 go_wp2_with (first
                   |(go_at_call 9;(with_reducible refine(E.out _ rfl).mono ?_);rintro e cp ⟨rfl,rfl⟩)
                   |(go_at_call 8;(with_reducible refine ja.out.mono ?_);rintro e xC ⟨⟨v6,rfl⟩,Jl⟩;have H8:=ad Jl;clear Jl))
                 go_roundw;(case rel=>exact⟨k+1,by go_num,H8.out⟩);case measure=>simp [intOf];omega
               | false =>(have E:Hid (∀W,W=r->aR 9 #[P A.K,j] W (ga (.bool false) W)):=fun W e=>by subst e;have:=Kd B A G.s.m G.s.bz j W fC.out.both.sys ae;rw[hp]at this;exact this);go_wp2_with (go_at_call 9;(with_reducible refine(E.out _ rfl).mono ?_);rintro e cp ⟨rfl,rfl⟩);go_roundw;(case rel=>exact⟨j+1,by go_num,ae,q,G,D,fC.out,by have:=g.out;have:=z.out.1;omega,fun i hi=>(iR.out.2 i hi).elim (Hi.out i) fun e=>by subst e;exact Option.isNone_iff_eq_none.1<|by simp [hp,<-Option.not_isSome],H.out⟩);case measure=>simp [intOf];omega
         . obtain rfl:j=5:=ae;obtain⟨q,G,D,C,a',hi,al⟩:=tq.out;have fC:=ad C;have g:=ad a';have Hi:=ad hi;have H:=ad al;have G7:=al.size;clear C a' hi al tq;have gB:=ad<|fC.out.cells da;have qN:Hid (∀W,Below J.heap.size J W->aR 12 #[P kc] W fun e w'=> ∃v,e= .returned v/\cC w' v (cellsD D)/\Below W.heap.size W w'):=fun W bQ=>(fC.out.later bQ).afy da;have E:Hid (∀W,Below J.heap.size J W->aR 9 #[P A.K,lost] W (ga (.bool (G.s.bz lost).isSome) W)):=fun W bQ=>(fC.out.later bQ).aak S;have BQ:Hid (∀W,Below J.heap.size J W->aR 13 #[P kc,lost] W (ga (.bool (G.s.bz lost).isSome) W)):=fun W bQ=>(fC.out.later bQ).al0 S;have OW:Hid (∀W,Below J.heap.size J W->HM w W B A gA kc ag 2806 fun i=>i<5/\i≠lost):=fun W bQ=>⟨q,G,D,fC.out.later bQ,by have:=g.out;omega,Hi.out,H.out.trans (bQ.mono G7)⟩;clear fC g Hi H;generalize (G.s.bz lost).isSome=asj at*;generalize cellsD D=apA at*;(go_upto_region 27 with(first|(go_at_call 11;(with_reducible refine gB.out.mono ?_);rintro e cp ⟨v5,rfl,Mj,ju⟩;have UK:=ad Mj;have q!:=ad ju;clear Mj ju)|(go_at_call 12;(with_reducible refine(qN.out _ q!.out).mono ?_);rintro e xC ⟨v6,rfl,Jb,X⟩;have UL:=ad (UK.out.keep (bm X));have UM:=ad Jb;have yV:=ad (ez q!.out X);clear Jb X)|(go_at_call 10;(with_reducible refine(am' _ _ _ _ UL.out UM.out).mono ?_);rintro e T8 ⟨rfl,Gk⟩;have DG:=ad (ez yV.out Gk);clear Gk)|(go_at_call 9;(with_reducible refine(E.out _ DG.out).mono ?_);rintro e ab0 ⟨rfl,rfl⟩)|(go_at_call 13;(with_reducible refine(BQ.out _ DG.out).mono ?_);rintro e ab1 ⟨rfl,rfl⟩)));obtain⟨asD,kk⟩:∃x,x=T8:=⟨_,rfl⟩;subst kk;obtain⟨R,iK⟩:∃R:Nat->Prop,(fun i=>i<5/\i≠lost)=R:=⟨_,rfl⟩;rw[iK]at OW;have gj:=ad ((OW.out _ DG.out).fin S);(have iR:Hid ((∀i,R i->i≠lost)/\∀i,i<5->R i\/i=lost):=by subst iK;exact⟨fun i h=>h.2,fun i h=>by by_cases e:i=lost;exact .inr e;exact .inl ⟨h,e⟩⟩);clear iK OW gB qN E BQ UK UL UM q! yV DG;go_wp2;go_loopw [18] (fun i wr=>∃k:Nat,i=.int .i64 k/\KP w wr B A gA kc ag 2806 R lost k) (fun i _=>502-(intOf i).toNat);case atStart=>exact⟨0,rfl,gj.out⟩
           case round=>
             obtain⟨r,Z⟩:∃x,x=wr:=⟨_,rfl⟩
             subst Z
             obtain⟨k,rfl,q,G,D,C,a',ay,hi,al⟩:=hrel
             have fC:=ad C;have g:=ad a';have z:=ad ay;have Hi:=ad hi;have H:=ad al
             have Z:=al.size
             clear C a' ay hi al
             have E:Hid (∀W,W=r->aR 9 #[P A.K,lost] W (ga (.bool (G.s.bz lost).isSome) W)):=fun W e=>by subst e;exact fC.out.aak S
             cases hp:(G.s.bz lost).isSome with
             |true=>
               rw[hp]at E
               have Mx:k<=500:=(fC.out.ab.ab.Qu k0.out (by have:=g.out;have:=z.out.1;omega) S z.out hp).2
               have My:¬(512:Int)<k:=ae
               have ja:=ad<|W5 k0.out fC.out g.out ae z.out Hi.out iR.out.1 H.out Li.out S hp
               go_wp2_with(first
                 |(go_at_call 9;(with_reducible refine(E.out _ rfl).mono ?_);rintro e cp ⟨rfl,rfl⟩)
                 |(go_at_call 8;(with_reducible refine ja.out.mono ?_);rintro e xC ⟨⟨v6,rfl⟩,Jl⟩;have H8:=ad Jl;clear Jl))
               go_roundw
               case rel=>exact⟨k+1,by go_num,H8.out⟩
               case measure=>simp[intOf];omega
             | false =>
               rw[hp]at E
               have AU: ∀ak,ak<5->G.s.bz ak=none:=fun i aiI=>(iR.out.2 i aiI).elim (Hi.out i) fun e=>by subst e;exact Option.isNone_iff_eq_none.1<|by simp [hp,<-Option.not_isSome]
               obtain⟨ase,ys,aih,jg,CA⟩:=fC.out.akI
               have hlen:ys.length<=4000:=by
                 have:=congrArg List.length CA
                 rw[hE]at this
                 have h1:=fC.out.ab.ab.e8;have ao:=fC.out.ab.ab.bS;have ar:=g.out;have aD:=z.out.1
                 omega
               have EM:q<=4000:=by have ar:=g.out;have aD:=z.out.1;omega
               have ael:Hid (∀dt W,jR 68 W dt ys->aR 14 #[dt] W (dM (.bool true) W)):=fun dt W bg=>alD dt ys W ae bg fun fs Ex=>aiL k0.out fC.out.ab fC.out.log EM AU<|by rw[<- CA];exact Ex
               obtain⟨b?,asa,rfl⟩:=jg.slice
               have wG:=ad jg
               clear jg CA AU EM fC g z Hi
               go_upto_region 33 with (go_at_call 9;(with_reducible refine(E.out _ rfl).mono ?_);rintro e cp ⟨rfl,rfl⟩)
               go_wp2
               go_loopw [19,138] (fun am1 amY wr=> ∃k:Nat,amY= .int .i64 k/\k<=ys.length/\wr.ownsRow r.heap.size 68 13 am1 k (gT<|ys.take k)/\Below r.heap.size r wr) (fun _ i _=>ys.length-(intOf i).toNat)
               case atStart=>exact⟨0,rfl,fw _,World.ownsRow_nil _ _ _ _,b5 _ _⟩
               case round=>
                 obtain⟨l,rF⟩: ∃x,x=wr:=⟨_,rfl⟩
                 subst rF
                 obtain⟨k,rfl,hk,Q,I⟩:=hrel
                 have f:=ad I
                 have bR:=I.size
                 by_cases cg:k<ys.length
                 . have Cw:(k:Int)<ys.length:=ae
                   have Cx:(0:Int)<=k:=ae
                   obtain⟨gE,gF,rfl⟩:=s_ Q
                   have iS:Hid (gT (ys.take<|k+1)=gT (ys.take k)++ys[k].aI):=by show _=_;rw[List.take_add_one,eG cg];exact Jj _ _
                   obtain⟨jL,off,rfl,a!⟩:=wG.out.at_ cg
                   have x:=fun j v aL e=>cB f.out<|a! j v aL e
                   have bL:=x 0 _ ax rfl;have cE:=x 1 _ ax rfl;have dZ:=x 2 _ ax rfl;have dP:=x 3 _ ax rfl;have j6:=x 4 _ ax rfl;have j7:=x 5 _ ax rfl;have j8:=x 6 _ ax rfl;have i_:=x 7 _ ax rfl;have nW:=x 8 _ ax rfl;have oZ:=x 9 _ ax rfl;have oY:=x 10 _ ax rfl;have np:=x 11 _ ax rfl;have nr:=x 12 _ ax rfl;have tX:=x 13 _ ax rfl
                   clear x a!
                   have tG:=ad<|wG.out.key _<|fZ cg
                   generalize ys[k]=y at*
                   obtain⟨⟨ak,⟨op,fH,er,cl⟩,first,at_,ft,⟨fR,rg,hs,hB,rs,fS⟩⟩,Dj⟩:=y
                   obtain⟨_,_,jM,jN,aO,_⟩:=tG.out
                   dsimp only at aO bL cE dZ dP j6 j7 j8 i_ nW oZ oY np nr tX
                   subst aO
                   have ad7:Hid (gT (ys.take<|k+1)=gT (ys.take k)++[.int .i64 (ak:Nat),.int .u8 (op:Nat),.int .i64 fH,.slice jM er.length jN,.int .i64 cl,.int .i64 (first:Nat),.int .i64 (ft:Nat),.int .i64 fR,.bool rg,.int .i64 hs,.int .i64 hB,.int .i64 rs,.int .i64 fS]):=iS.out
                   clear iS
                   have bL:l.cell? ⟨jL,off+k*14,none⟩=_:=bL
                   go_upto_region 37 with fail
                   refine kX ((b5 l.heap.size l).alloc (bG _) _) (aq.new l _ _) ?_
                   intro v O d
                   have iM:=O.size
                   have d0:=d.cell 0;have d1:=d.cell 1;have d2:=d.cell 2;have d3:=d.cell 3;have d4:=d.cell 4;have d5:=d.cell 5;have d6:=d.cell 6;have d7:=d.cell 7;have d8:=d.cell 8;have d9:=d.cell 9;have d10:=d.cell 10;have d11:=d.cell 11;have d12:=d.cell 12;have d13:=d.cell 13
                   have r?:=d.lt
                   have xL:=ad<|oe Q O
                   have h_:=ad<|f.out.trans<|O.mono bR
                   have ac1:r.heap.size<=v.heap.size:=ae
                   clear O d Q I bL cE dZ dP j6 j7 j8 i_ nW oZ oY np nr tX aih
                   have ye:k<=1048576:=ae
                   generalize gT (ys.take k)=hW at*
                   go_wp2_with (at_builtin;refine wS rfl _ _ 45 rfl r.heap.size 68 (.agg #[.int .i64 0,.int .u8 0,.int .i64 0,.slice none 0 0,.int .i64 0,.int .i64 0,.int .i64 0,.int .i64 0,.bool false,.int .i64 0,.int .i64 0,.int .i64 0,.int .i64 0]) 13 120 underlying45 Nc rfl ax (.slice gE k gF) k _ rfl (xL.out.alloc _) v.heap.size [.int .i64 (ak:Nat),.int .u8 (op:Nat),.int .i64 fH,.slice jM er.length jN,.int .i64 cl,.int .i64 (first:Nat),.int .i64 (ft:Nat),.int .i64 fR,.bool rg,.int .i64 hs,.int .i64 hB,.int .i64 rs,.int .i64 fS] rfl rfl (aq.new v _ _) (by intro u hu;simp at hu;rcases hu with rfl|rfl|rfl|rfl|rfl|rfl|rfl|rfl|rfl|rfl|rfl|rfl|rfl<;>rfl) ae (by simp;omega) ?_;rintro g5 gu cp CJ zu ju;have O!:=ad CJ;have q!:=ad zu.bn;clear CJ zu ju)
                   go_roundw
                   case rel=>exact⟨k+1,by go_num,ae,by rw[ad7.out];exact O!.out,(h_.out.alloc ac1 _).trans q!.out⟩
                   case measure=>simp [intOf];omega
                 . obtain rfl:k=ys.length:=ae
                   rw[ou]at Q
                   obtain⟨gE,gF,rfl⟩:=s_ Q
                   have fz:Hid (jR 68 l (.slice gE ys.length gF) ys):=⟨Row.own Q,fun y hy=>(wG.out.key y hy).qn f.out⟩
                   have xQ:=ad<|H.out.trans<|f.out.mono Z
                   clear Q I
                   generalize s6:ys.length=asG at*
                   clear s6
                   go_wp2_with (go_at_call 14;(with_reducible refine(ael.out _ _ fz.out).mono ?_);rintro e xC ⟨rfl,X⟩;have yV:=ad X;clear X)
                   exact mD ⟨rfl,ez xQ.out yV.out⟩
end
namespace topAbandoned
open Go.ChangeShapes Go.WideShapes Go.ChangeAt Go.RowKit Go.Joins
theorem own:ownKnob prog.godebug=none:=b!
theorem laidOut:laidOutB prog=true:=b!
theorem bk(cells:Int)(v:Value)(L:List o6)(left:Int)(hc:(Lit.int .u8 cells).wf=true)(a:(Lit.int .u8 left).wf=true)(w:World)(h:PJ w v L):
  aR 3 #[.int .u8 cells,v,.int .u8 left] w (dM (.bool true) w):=
 aey cells left v L hc a w h
theorem lifted(os:Os)(started:os.Started)(H:Type)(enc:TypeId×Value->H):
 ReturnsInHanded {} Tryz.checked os 3 .any (Rows.topAbandonedSpec.pre6 enc prog Tryz.f3 Rows.topAbandonedRow.domain false) (Rows.topAbandonedSpec.post enc prog Tryz.f3 false true false false):=by refine returnsInHanded_of_change (C:=Tryz.checked) own started b! func3 (ChangeSpec.witness6 (enc:=enc) (C:=Tryz.checked) false ⟨#[],#[.int .u8 0,.slice none 0 0,.int .u8 0],[]⟩ 8 b! b! b! b!) ?_;intro W base args ds gs before k bQ w _;have b:∀(j:Nat) t v,Tryz.f3.params[j]?=some t->args[j]?=some v->Value.okWide prog W .any base t v:=k;have d:=bQ;obtain⟨p,q,i,l,rfl,L,F⟩:=bQ;have cg:DataW.TrodAll enc prog W 0 (fun _=>true) true Tryz.f3.params.toList args.toList ds p:=i;rw[Tryz.params3]at cg b;obtain⟨v0,y,d0,ze,eY,G,u,rfl,rfl,n,b9⟩:=trodAll_cons cg;obtain⟨v1,z,d1,r,eU,I,rfl,rfl,rfl,h1,da⟩:=trodAll_cons b9;obtain⟨v2,A,d2,s,hr,J,rfl,rfl,rfl,o,ef⟩:=trodAll_cons da;obtain⟨rfl,rfl,rfl⟩:=trodAll_nil ef;(obtain rfl:args=#[v0,v1,v2]:=by cases args;simp_all);obtain⟨rfl,rfl⟩:=trodVars_none l;obtain⟨a0,rfl,rfl,rfl,aH⟩:=open_int underlying5 (b 0 5 v0 rfl rfl) n;have k1:=h1;(have f:∀x∈eU,x.block<W.heap.size:=by obtain⟨m,hm⟩:=k1;exact DataW.trod_lt m _ _ _ hm);obtain⟨B,e?,D,rfl⟩:=okWide_slice underlying22<|b 1 22 v1 rfl rfl;obtain⟨E,g⟩:=al9 h1 ⟨_,_,_,rfl⟩;obtain⟨a2,rfl,rfl,rfl,aQ⟩:=open_int underlying5 (b 2 5 v2 rfl rfl) o;clear i k;refine(bk a0 _ E a2 aH aQ W g).mono fun e K ⟨he,aS⟩=>?_;subst he;exact⟨_,rfl,_,_,_,[],_,[],d,trodAll_mk1<|shut_bool underlying4 _,(trodAll_cons_mk (shut_int underlying5 aH)<|trodAll_cons_mk (Below.trod laidOut b! (pC b!) k1 aS f)<|trodAll_cons_mk (shut_int underlying5 aQ) trodAll_mk0),rfl,aS.frame _,fun h=>by cases h⟩
theorem alH:Rows.topAbandonedRow.holds Tryz.pinned (OpenSpec.ofChange Rows.topAbandonedSpec):=
 OpenClaim.holds_of_wide 3 Tryz.f3 rfl rfl rfl rfl rfl rfl rfl ⟨rfl,rfl,rfl,rfl,rfl⟩ rfl rfl rfl rfl rfl b! func3 b!
  (pC b!) (by unfold Func.isWrapper;first|(rw[aN<|by decide+kernel];kernel_rfl)|(rw[aC<|by decide+kernel];exact⟨rfl,rfl⟩))
  (fun os started H enc _=>lifted os started H enc)
theorem proved:Rows.TopAbandonedSaid:=
 alH
#print axioms proved
