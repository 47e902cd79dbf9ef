import Derived.Test.YtoglcccmgnjchaaGreatTa25
import Derived.Deep.CutBlock
import Derived.WalkMore
import Derived.Laws.Bits64b
set_option linter.all false
set_option maxHeartbeats 8000000
set_option maxRecDepth 100000
namespace Go.Proofs.YtoglcccmgnjchaaGreat
open Go.Proofs.Tryz PL
section
open Go.RowKit ai
variable{pol spare:Int}{key:List Nat}{w:World}
theorem ago(df:Nat)(az dt kv:Value)(L:List Cell)(S:Cell)(y:Rec)(b0:Int)(w:World)(h:nu pol key y)(D:rY pol key S)(br:HN pol key L S)(al:aq w df 123 #[az,.int .i64 4096,dt])(aF:hv w az bP)(hc:cC w dt L)(hk:cb w kv y.aj.key)(aB:y.aj.op=2->1<=b0/\b0<=4611686018427387903):
   aR 143 #[P df,.agg<|nA y.aj kv,y.cn.now,b0] w fun e w'=>e=.returned (.agg<|dn (iG bM bP S y.aj y.cn.now b0).1)/\Dz w df az pol key (iG bM bP S y.aj y.cn.now b0).2 w':=by
 have bp:=h.op;have GK:=h.good.ok.lV;obtain⟨jf,mo,RT,RU⟩:=h.pl;(have n0:Hid (∀W (u:World),Below w w u->Below u u W->aR 185 #[P df,.agg<|nA y.aj kv,y.cn.now,b0] W (dM bA W)):=fun W u h1 ao=>by have bZ:=h1.trans<|ao.mono h1.size;exact afb df az (.int .i64 4096) dt y.aj kv y.cn.now b0 W (al.below bZ al.lt) (aF.keep<|bm bZ) h.good (by obtain⟨_,_,a,bx,e,_⟩:=hk;exact⟨a,bx,e⟩) h.now aB);(have oC:Hid (∀W,Below w w W->aR 163 #[dt,y.aj.pol,kv] W fun e w'=>∃bt h6 bq ha hn hc,e=.returned (.tuple #[bA,e0 L pol key,.agg<|cY S (.slice bt h6 bq)<|.slice ha hn hc])/\cb W (.slice bt h6 bq) S.key/\b' W (.slice ha hn hc) S.held/\Below W W w'):=fun W bQ=>by have ay:=xX.find L dt kv y.aj.pol y.aj.key W (hc.keep<|bm bQ) (hk.keep<|bm bQ) h.good.ok.nN (by rw[h.pol];exact RT) (by rw[h.pol];exact RU);rw[h.pol,h.key,br.find.1,br.find.2.1]at ay;rw[h.pol];refine ay.mono ?_;rintro e w' ⟨bt,h6,bq,ha,hn,hc,rfl,g1,g2,_,g3⟩;exact⟨bt,h6,bq,ha,hn,hc,rfl,g1,g2,g3⟩);have R:=ad fun kv ha hn hc W hk bg=>agp (kv:=kv) (ha:=ha) (hn:=hn) (hc:=hc) (W:=W) h D aB hk bg;have lL:Hid (∀kv av W,cb W kv S.key->b' W av S.held->aR 168 #[.agg<|hd<|dq bP y.aj,.agg<|cY S kv av,y.cn.now] W (dM (.agg<|dn<|k! bM (dq bP y.aj) S y.cn.now) W)):=fun kv av W h1 ao=>xX.k? _ S kv av _ W h1 ao D.ok (yH _ jf) h.now.1 h.now.2;(have Vv:Hid (∀(c:Cell) kv av (W:World),Below w w W->c.pol=S.pol->c.key=S.key->eH c->cb W kv S.key->b' W av c.held->aR 189 #[dt,bA,e0 L pol key,.agg<|cY c kv av] W fun e w'=>∃a n bx,e=.returned (.slice a n bx)/\cC w' (.slice a n bx) [c]/\Below W W w'):=fun c kv av W bQ aO aU m g1 g2=>by obtain⟨gE,gF,rfl⟩:=vA hc;have:=xX.T! L 0 (e0 L pol key) c gE L.length gF kv av W (hc.keep<|bm bQ) (by rw[aU];exact g1) g2 m (by rw[aO,aU,D.pol,D.key];exact br.find.1.symm) (by rw[aO,aU,D.pol,D.key]) br.find.2.2.1;rwa[br.find.2.2.2.2]at this);have ET:=agn S y.aj y.cn.now b0;have ajn:Hid (y.aj.op=1\/y.aj.op=2\/y.aj.op=3->iG bM bP S y.aj y.cn.now b0=((tA S y.aj y.cn.now b0).1,if(tA S y.aj y.cn.now b0).1.granted=false\/(y.aj.op=1/\y.aj.n=0)then S else(tA S y.aj y.cn.now b0).2)):=anS;(have ajo:Hid (y.aj.op=4->iG bM bP S y.aj y.cn.now b0=(k! bM (dq bP y.aj) S y.cn.now,S)):=fun e=>by unfold iG;rw[aC ae,aC ae,aC ae]);obtain⟨F,MT,dh⟩:=h.good.ok.pol;(have iV:pol=(F:Int):=by rw[<-h.pol];exact MT);obtain⟨b?,lc,rfl⟩:=e? aF;obtain⟨bW,lo,rfl,eY,eU,hr,h7⟩:=Bc aF F dh;(have MR:bP[F]=dq bP y.aj:=by unfold dq;rw[MT,eh,Int.toNat_natCast,eG dh];rfl);rw[MR]at eY eU hr h7;have uM:(F:Int)<bP.length:=ae;have ai':(0:Int)<=F:=ae;have Bz:Hid (∀w',Below w w w'->Dz w df (.slice (some ⟨bW,lo,none⟩) bP.length lc) pol key S w'):=fun w' h1=>⟨⟨dt,L,al.below h1 al.lt,hc.keep<|bm h1,br⟩,(eN.refl df w).below h1⟩;(have acN:Hid (∀(x w':World) (c:Cell) (M:Value),Below w w x->w'=x.setCell ⟨df,2,none⟩ M->cC x M [c]->c.pol=S.pol->c.key=S.key->Dz w df (.slice (some ⟨bW,lo,none⟩) bP.length lc) pol key c w'):=fun x w' c M h1 e ao aO aU=>by subst e;have au:=al.below h1 al.lt;exact⟨⟨M,[c],au.setCell 2 M,((eN.refl df x).set 2 M).cells au (by unfold pF;decide) ao,aO.trans D.pol,aU.trans D.key,.inr rfl⟩,((eN.refl df w).below h1).set 2 M⟩);obtain⟨LC,LD,rfl⟩:=jz hk;obtain⟨X,Y,rfl⟩:=vA hc;have qu:=br.find.2.2.2.1;(have gb:L.length<=1:=by rcases br.2.2 with⟨rfl,_⟩|rfl<;>simp);have X1:=al.cell 0;have X2:=al.cell 1;have X3:=al.cell 2;have oJ:=al.lt;have wC:=ad al;have ox:=ad<|bw eY<|bw eU<|bw hr h7;have ad2:=ad qu;have Il:=ad ET;(have aK:((y.aj.op:Int)==5)=false:=by rw[qH];omega);(have aY:((y.aj.op:Int)==6)=false:=by rw[qH];omega);unfold nA at n0⊢;rw[MT]at n0 oC⊢;clear h D br al aF hc hk aB jf mo RT RU ET MR eY eU hr h7 dh MT iV qu;generalize tA S y.aj y.cn.now b0=o at*;generalize iG bM bP S y.aj y.cn.now b0=sp at*;generalize k! bM (dq bP y.aj) S y.cn.now=amc at*;generalize dq bP y.aj=p at*;generalize y.aj.op=op at*;generalize y.aj.n=cl at*;generalize y.aj.key.length=xi at*;generalize y.cn.now=dm at*;generalize e0 L pol key=there at*;generalize bP.length=eX at*;generalize L.length=ot at*;have s4:¬((op:Int)=5):=ae;have RR:¬((op:Int)=6):=ae;have bD:=ck [.cells #[P df] 71,.cells #[.int .u8 (op:Nat),(F:Int),.slice LC xi LD,cl] 34,.cells #[dm] 2,.cells (dn<|err 0) 58] w;go_enter func143,ntmps143;go_upto_region 1 with fail;refine wp_name (fun u=>Below w w u/\aq u w 71 #[P df]/\aq u (w+1) 34 #[.int .u8 (op:Nat),(F:Int),.slice LC xi LD,cl]/\aq u (w+1+1) 2 #[dm]/\aq u (w+1+1+1) 58 (dn<|err 0)) ⟨bD,b3 w [_,_,_,_] 0 rfl,b3 w [_,_,_,_] 1 rfl,b3 w [_,_,_,_] 2 rfl,b3 w [_,_,_,_] 3 rfl⟩ ?_;rintro u ⟨kk,nc,gd,yo,qY⟩;have u0:=nc.cell 0;have u2:=yo.cell 0;obtain⟨u10,u11,u12,u13⟩:=eO gd;have l2:=ad kk;have ct:=ad<|bw nc<|bw gd<|bw yo qY;clear kk nc gd yo qY bD;go_upto_region 11 with(first|(go_at_call 185;refine(n0.out _ u l2.out ?_).mono ?_;exact bn;rintro e aQ ⟨rfl,a7⟩;have N:=ez (kM (u:=u) a7) a7;clear a7;obtain⟨bJ,c1,cw,dg⟩:=eO<|ct.out.2.1.below N ct.out.2.1.lt));obtain⟨v,vV⟩:∃x,x=aQ:=⟨_,rfl⟩;subst vV;have E:=ad<|l2.out.trans<|N.mono l2.out.size;have j?:=ad<|bw (ct.out.1.below N ct.out.1.lt)<|bw (ct.out.2.1.below N ct.out.2.1.lt)<|bw (ct.out.2.2.1.below N ct.out.2.2.1.lt)<|ct.out.2.2.2.below N ct.out.2.2.2.lt;have v0:=j?.out.1.cell 0;have aV:aG v df 0 (.slice (some ⟨bW,lo,none⟩) eX lc):=cB E.out X1;have aX:aG v df 1 (.int .i64 4096):=cB E.out X2;have bb:aG v df 2 (.slice X ot Y):=cB E.out X3;have e3:=cB E.out ox.out.1;have ev:=cB E.out ox.out.2.1;have fg:=cB E.out ox.out.2.2.1;have fF:=cB E.out ox.out.2.2.2;have iM:=E.out.size;clear u0 u2 u10 u11 u12 u13 l2 ct N X1 ox n0;have sk:w<v.heap.size:=qF _ _ v0;have gV:w+1<v.heap.size:=qF _ _ c1;have p4:df<v:=qF _ _ aV;have zC:bW<v:=qF _ _ e3;go_region;go_upto_region 12 with fail;refine wp_name (fun u=>Below v v u/\aq u v 78 (hd p)) ⟨((b5 v v).alloc (bG _) _).drew,aq.sM<|aq.new v _ _⟩ ?_;rintro x ⟨J,GN⟩;have bL:=cB J v0;have dZ:=cB J bb;have np:=cB J c1;have nr:=cB J cw;have bO:Hid (∀W:World,Below x x W->aG W w 0 (P df)/\aG W df 2 (.slice X ot Y)/\aG W (w+1) 1 (F:Int)/\aG W (w+1) 2 (.slice LC xi LD)):=fun W al=>⟨cB al bL,cB al dZ,cB al np,cB al nr⟩;have vU:=J.size;have YU:=GN.lt;have xQ:=ad<|E.out.trans<|J.mono iM;have BG:=ad GN;have Pk:=ad J;have ar2:=nX sk vU;have ar6:=nX gV vU;have ar8:=nX p4 vU;clear v0 aV aX bb e3 ev fg fF bJ c1 cw dg sk gV p4 zC J GN bL dZ np nr;go_cut [12,13,14]from 155 (fun Hp zK Kp bF=>∃f bt h6 bq ha hn hc,Hp=.int .i64 0/\zK=.bool there/\Kp=P f/\x<=f/\Below x x bF/\aq bF f 56 (cY S (.slice bt h6 bq) (.slice ha hn hc))/\cb bF (.slice bt h6 bq) S.key/\b' bF (.slice ha hn hc) S.held);case first=>go_region_held3 (fun w=>type_of%(bO.out w _)) (first|exact oQ|fail) (first|(go_at_call 163;refine(oC.out _ (xQ.out.trans (Below.mono bn xQ.out.size))).mono ?_;rintro e aQ ⟨bt,h6,bq,ha,hn,hc,rfl,hW,Js,al⟩;obtain⟨cZ,dB⟩:=vx (u:=x) al;have gS:=R5 bO dB;have bR:=dB.size;have dd:=bm al;(try(have q:=rP (n:=x) (bm al);obtain⟨fT,wm,wo,wq⟩:=q));have fW:=hW.keep dd;have AS:=Js.keep dd;clear hW Js;have ky:=dB;clear dd cZ al dB));all_goals go_wp2;go_meet;refine⟨_,bt,h6,bq,ha,hn,hc,rfl,rfl,rfl,?_,?_,?_,?_,?_⟩;{first|(simp;done)|omega};{exact bn};{exact gl};{(repeat(first|(with_reducible first|assumption|apply cb.o8|apply cb.sM)|((with_reducible apply cb.ea);exact gl)))};·(repeat(first|(with_reducible first|assumption|apply b'.o8|apply b'.sM)|((with_reducible apply b'.ea);exact gl)))
 case rest=>
   obtain⟨s,uQ⟩:∃u,u=wc:=⟨_,rfl⟩;subst uQ;obtain⟨f,bt,h6,bq,ha,hn,hc,rfl,rfl,rfl,RZ,M8,Fh,AW,Yz⟩:=hcut;(go_upto_region 14 with fail);refine wp_name (fun u=>Below s s u/\aq u s 58 (dn (err 0))) ⟨(b5 s s).alloc (bG _) _,aq.new s _ _⟩ ?_;rintro z ⟨Jh,ZO⟩;have ajb:=Fh.lt;have aja:f≠s:=Nat.ne_of_lt ajb;have arw:s≠f:=fun e=>aja e.symm;have Sj:=M8.size;have U:=ad (M8.trans (Jh.mono M8.size));have Pl:=ad (Pk.out.trans (U.out.mono vU));have Vn:=ad<|xQ.out.trans<|U.out.mono xQ.out.size;have A:=ad<|Fh.below Jh Fh.lt;have V:=ad ZO;have C:=ad<|AW.keep<|bm Jh;have K6:=ad<|Yz.keep<|bm Jh;(have O:Hid (∀W,Below x z W->aq W w 71 #[P df]/\aq W (w+1) 34 #[.int .u8 (op:Nat),(F:Int),.slice LC xi LD,cl]/\aq W (w+1+1) 2 #[dm]/\aq W (w+1+1+1) 58 (dn<|err 0)/\aq W v 78 (hd p)):=fun W bQ=>by have h1:=Pk.out.trans<|(U.out.trans bQ).mono vU;exact⟨j?.out.1.below h1 j?.out.1.lt,j?.out.2.1.below h1 j?.out.2.1.lt,j?.out.2.2.1.below h1 j?.out.2.2.1.lt,j?.out.2.2.2.below h1 j?.out.2.2.2.lt,BG.out.below (U.out.trans bQ) YU⟩);obtain⟨bJ,c1,cw,dg⟩:=eO (O.out z<|b5 _ _).2.1;have nP:=(O.out z<|b5 _ _).2.2.1.cell 0;unfold hd cY at lL R;unfold cY at Vv;unfold hd at O;obtain⟨eY,eU,hr,h7⟩:=eO (O.out z<|b5 _ _).2.2.2.2;unfold cY at A;obtain⟨dN,s1,s2,dr⟩:=eO A.out;clear Jh ZO Fh AW Yz M8 bO Pk BG j?;by_cases aD:op=4;·subst aD;have jJ:=ajo.out rfl;subst jJ;obtain⟨aaj,aal,pl,oT,ps,pm⟩:=amc;unfold dn at lL;dsimp only at lL;rw[show((4:Nat):Int)=4 from rfl]at bJ⊢;go_wp2_with(first|(go_at_call 168;refine(lL.out _ _ _ ?_ ?_).mono ?_;(focus(exact C.out));(focus(exact K6.out));rintro e aQ ⟨rfl,a7⟩;have mq:=(O.out z (b5 _ _)).2.2.2.1.below a7 (O.out z (b5 _ _)).2.2.2.1.lt;obtain⟨⟨b9,da,ef,ew,fa,fb⟩,g0,g1,g2,g3,g4,g5⟩:=fh mq;have o3:=ad mq;have cU:=ad (Vn.out.trans (a7.mono Vn.out.size));clear mq a7));exact NJ rfl rfl (aq.pA o3.out _ _ _ _ _ _) rfl ⟨rfl,Bz.out _ (by(have:=cU.out;exact bn))⟩
   . have MP:op=1\/op=2\/op=3:=ae;have jJ:=ajn.out MP;subst jJ;obtain⟨⟨E5,C5,ol,xq,os,alm⟩,⟨lu,aM,eW,r2⟩⟩:=o;have oz:=ad Il.out.1;have ks:=ad Il.out.2;unfold Lr cY dn at R;dsimp only at R;(have ap9:((op:Int)==4)=false:=by rw[qH];omega);have ap':¬(op:Int)=4:=ae;have R':=U.out.size;clear Il;go_upto_block 1 with fail;go_cut []from 155 (fun vb=>∃r t B,Below x z vb/\aq vb s 58 #[E5,C5,ol,xq,os,alm]/\aq vb f 56 #[lu,.slice bt h6 bq,eW,.slice r t B]/\b' vb (.slice r t B) r2/\cb vb (.slice bt h6 bq) S.key/\eH ⟨lu,aM,eW,r2⟩);case first=>rcases MP with rfl|rfl|rfl;{have jS:=ad ((R.out _ _ _ _ _ C.out K6.out).1 rfl);rw[show((1:Nat):Int)=1 from rfl]at bJ⊢;clear dN s1 s2 dr;obtain⟨dN,s1,s2,dr⟩:=eO A.out;go_wp2_with(first|(go_at_call 187;refine jS.out.mono ?_;rintro e dy ⟨r,t,B,rfl,H,m,l⟩;have b:=V.out.below l V.out.lt;have d:=A.out.below l A.out.lt;obtain⟨⟨b9,da,ef,ew,fa,fb⟩,g0,g1,g2,g3,g4,g5⟩:=fh b;obtain⟨dN,s1,s2,dr⟩:=eO d;obtain⟨cI,aO,aU,cr⟩:=IT d;have j:=ad b;have g:=ad d;have xM:=ad H;have Q:=ad m;have I:=ad l;have SI:=b.lt;have SH:=d.lt;clear b d H m l));go_meet;exact⟨r,t,B,F1 (I.out.mono R') (eB Sj (bG _)) RZ _ _ _ _ _ _ _ _ _ _,by(have:=j.out;exact gl),by(have:=g.out;exact gl),Jk xM.out j.out g.out _ _ _ _ _ _ _ _ _ _,⟨C.out.1,Row.same (C.out.keep (bm I.out)).2 fun k arr au=>P0 j.out g.out _ _ _ _ _ _ _ _ _ _ au ax ax⟩,Q.out⟩};{have jS:=ad ((R.out _ _ _ _ _ C.out K6.out).2.1 rfl);rw[show((2:Nat):Int)=2 from rfl]at bJ⊢;clear dN s1 s2 dr;obtain⟨dN,s1,s2,dr⟩:=eO A.out;go_wp2_with(first|(go_at_call 188;refine jS.out.mono ?_;rintro e dy ⟨r,t,B,rfl,H,m,l⟩;have b:=V.out.below l V.out.lt;have d:=A.out.below l A.out.lt;obtain⟨⟨b9,da,ef,ew,fa,fb⟩,g0,g1,g2,g3,g4,g5⟩:=fh b;obtain⟨dN,s1,s2,dr⟩:=eO d;obtain⟨cI,aO,aU,cr⟩:=IT d;have j:=ad b;have g:=ad d;have xM:=ad H;have Q:=ad m;have I:=ad l;have SI:=b.lt;have SH:=d.lt;clear b d H m l));go_meet;exact⟨r,t,B,F1 (I.out.mono R') (eB Sj<|bG _) RZ _ _ _ _ _ _ _ _ _ _,by(have:=j.out;exact gl),by(have:=g.out;exact gl),Jk xM.out j.out g.out _ _ _ _ _ _ _ _ _ _,⟨C.out.1,Row.same (C.out.keep<|bm I.out).2 fun k arr au=>P0 j.out g.out _ _ _ _ _ _ _ _ _ _ au ax ax⟩,Q.out⟩};·have jS:=ad<|(R.out _ _ _ _ _ C.out K6.out).2.2 rfl;rw[show((3:Nat):Int)=3 from rfl]at bJ⊢;clear dN s1 s2 dr;obtain⟨dN,s1,s2,dr⟩:=eO A.out;go_wp2_with(first|(go_at_call 166;refine jS.out.mono ?_;rintro e dy ⟨r,t,B,rfl,H,m,l⟩;have b:=V.out.below l V.out.lt;have d:=A.out.below l A.out.lt;obtain⟨⟨b9,da,ef,ew,fa,fb⟩,g0,g1,g2,g3,g4,g5⟩:=fh b;obtain⟨dN,s1,s2,dr⟩:=eO d;obtain⟨cI,aO,aU,cr⟩:=IT d;have j:=ad b;have g:=ad d;have xM:=ad H;have Q:=ad m;have I:=ad l;have SI:=b.lt;have SH:=d.lt;clear b d H m l));go_meet;exact⟨r,t,B,F1 (I.out.mono R') (eB Sj<|bG _) RZ _ _ _ _ _ _ _ _ _ _,by(have:=j.out;exact gl),by(have:=g.out;exact gl),Jk xM.out j.out g.out _ _ _ _ _ _ _ _ _ _,⟨C.out.1,Row.same (C.out.keep<|bm I.out).2 fun k arr au=>P0 j.out g.out _ _ _ _ _ _ _ _ _ _ au ax ax⟩,Q.out⟩
     case rest=>
       obtain⟨Oa,lS⟩:∃u,u=wc:=⟨_,rfl⟩
       subst lS
       obtain⟨r,t,B,Sn,b,d,Cu,yg,m⟩:=hcut
       have hy:=O.out Oa Sn
       obtain⟨bJ,c1,cw,dg⟩:=eO hy.2.1
       obtain⟨⟨b9,da,ef,ew,fa,fb⟩,_⟩:=fh b
       obtain⟨⟨t0,t1,t2,t3,t4,t5⟩,g0,g1,g2,g3,g4,g5⟩:=fh hy.2.2.2.1
       have a0:=hy.1.cell 0
       have T:=ad<|xQ.out.trans<|(U.out.trans Sn).mono xQ.out.size
       have ej:=ad hy.2.2.2.1;have j:=ad b;have g:=ad d;have FD:=ad Cu;have sB:=ad yg;have Q:=ad m
       have aX:aG Oa df 1 (.int .i64 4096):=cB T.out X2
       have bb:aG Oa df 2 (.slice X ot Y):=cB T.out X3
       obtain⟨dN,s1,s2,dr⟩:=eO d
       clear Sn b d Cu yg m hy dN s1 s2 dr eY eU hr h7 nP R lL oC
       cases C5 with
       |false=>
         go_wp2
         exact NJ rfl rfl (aq.pA ej.out _ _ _ _ _ _) rfl ⟨rfl,(Bz.out _ T.out).put ej.out ae oJ _ _ _ _ _ _⟩
       |true=>
         by_cases h1:op=1/\cl=0
         . obtain⟨rfl,rfl⟩:=h1
           rw[show((1:Nat):Int)=1 from rfl]at bJ⊢
           go_wp2
           exact NJ rfl rfl (aq.pA ej.out _ _ _ _ _ _) rfl ⟨rfl,(Bz.out _ T.out).put ej.out ae oJ _ _ _ _ _ _⟩
         . go_upto_region 23 with fail
           go_cut [126]from 155 fun amX lj=>amX=.bool false/\lj=Oa
           case first=>
             by_cases aO:op=1
             . have Jf:(cl==0)=false:=by rw[qH];exact fun e=>h1 ⟨aO,e⟩
               subst aO
               clear h1
               rw[show((1:Nat):Int)=1 from rfl]at bJ⊢
               go_wp2
               go_meet
               exact⟨rfl,rfl⟩
             . have aU:((op:Int)==1)=false:=by rw[qH];omega
               clear h1
               go_wp2
               go_meet
               exact⟨rfl,rfl⟩
           case rest=>
             obtain⟨rfl,rfl⟩:=hcut
             have H1:=ad h1
             clear h1 MP
             obtain⟨acb,gm⟩:∃u,u=wc:=⟨_,rfl⟩
             subst gm
             go_upto_region 25 with fail
             go_cut [141]from 155 fun amZ lj=>amZ=.bool false/\Below acb acb lj
             case first=>
               cases there with
               |true=>
                 go_quiet (fail)
                 go_wp2
                 go_meet
                 exact⟨rfl,below_drewN (b5 _ _) _⟩
               |false=>
                 have qZ:=ad2.out rfl
                 subst qZ
                 go_quiet (fail)
                 go_wp2
                 go_meet
                 exact⟨rfl,below_drewN (b5 _ _) _⟩
             case rest=>
               obtain⟨Z,tM⟩:∃u,u=wc:=⟨_,rfl⟩
               subst tM
               obtain⟨rfl,G⟩:=hcut
               have aev:=cB G a0;have aeW:=cB G bb
               obtain⟨dN,s1,s2,dr⟩:=eO<|g.out.below G g.out.lt
               have bX:Hid (∀W,Below Z Z W->aG W w 0 (P df)/\aG W df 2 (.slice X ot Y)/\aG W f 0 lu/\aG W f 1 (.slice bt h6 bq)/\aG W f 2 eW/\aG W f 3 (.slice r t B)):=fun W al=>⟨cB al aev,cB al aeW,cB al dN,cB al s1,cB al s2,cB al dr⟩
               have Pn:=ad<|T.out.trans<|G.mono T.out.size
               have Ur:=ad<|j.out.below G j.out.lt;have Ve:=ad<|ej.out.below G ej.out.lt
               have ady:=ad<|sB.out.keep<|bm G;have ado:=ad<|FD.out.keep<|bm G
               clear G a0 aX bb bJ c1 cw dg b9 da ef ew fa fb t0 t1 t2 t3 t4 t5 g0 g1 g2 g3 g4 g5 g j ej sB FD T
               go_upto_region 27 with fail
               refine wp_region_split 9 (S:=fun W=>aG W w 0 (P df)/\aG W df 2 (.slice X ot Y)/\aG W f 0 lu/\aG W f 1 (.slice bt h6 bq)/\aG W f 2 eW/\aG W f 3 (.slice r t B)) b! b! ?_ fun kg=>?_
               . exact bX.out _ (b5 Z Z).drew
               simp only[List.take_succ_cons,List.take_zero,List.drop_succ_cons,List.drop_zero,List.length_cons,List.length_nil,iQ,Nat.reduceAdd]
               refine dS 0 ?_
               refine dS 1 ?_
               refine dS 2 ?_
               refine dS 3 ?_
               refine dS 4 ?_
               refine dS 5 ?_
               refine dS 6 ?_
               refine dS 7 ?_
               refine AO (i:=8) rfl b! fun K cO=>?_
               go_simp
               go_at_call 189
               refine(Vv.out ⟨lu,aM,eW,r2⟩ _ _ _ Pn.out.drew oz.out ks.out Q.out ady.out.sM ado.out.sM).mono ?_
               rintro e gq ⟨jH,sP,gc,rfl,g_,jt⟩
               have ju:=(b5 Z Z).drew.trans<|jt.mono<|bG _
               have et:=bX.out gq ju
               have wJ:=ad<|Pn.out.trans<|ju.mono Pn.out.size
               have AJ:=wC.out.below wJ.out oJ
               have fQ:aG gq df 2 (.slice X ot Y):=AJ.cell 2
               have f2:=AJ.free 2
               have EO:=Ve.out.below ju Ve.out.lt;have b:=Ur.out.below ju Ur.out.lt
               obtain⟨⟨b9,da,ef,ew,fa,fb⟩,_⟩:=fh b
               obtain⟨⟨t0,t1,t2,t3,t4,t5⟩,g0,g1,g2,g3,g4,g5⟩:=fh EO
               have aql:df≠s:=ae
               have aqm:s≠df:=ae
               have Gn:df≠w+1+1+1:=ae
               have Q!:w+1+1+1≠df:=ae
               have ua:=ad g_;have O?:=ad EO;have SI:=b.lt;have asd:=EO.lt;have ar':=AJ.lt
               clear g_ jt ju EO b AJ
               refine cO.out _ _ ?_ fun kg=>?_
               . (try dsimp only);exact et
               clear cO K
               (try simp only[Act.put,lW,lX,lE])
               refine Gu b! ?_
               simp only[List.cons_append,List.nil_append]
               go_wp2
               exact NJ rfl rfl (aq.pA (O?.out.dj _ _ Q!) _ _ _ _ _ _) rfl ⟨rfl,by
                 have a':=acN.out gq _ ⟨lu,aM,eW,r2⟩ _ wJ.out rfl ua.out oz.out ks.out
                 have aO:¬(true=false\/(op=1/\cl=0)):=fun h=>h.elim (fun e=>by cases e) H1.out
                 first
                   |exact a'.put (O?.out.dj _ _ Q!) ae oJ _ _ _ _ _ _
                   |(rw[aC aO];exact a'.put (O?.out.dj _ _ Q!) ae oJ _ _ _ _ _ _)⟩
theorem Nc:(prog.info? 68).map (fun i=>(i.zero,i.size,i.bytes))=some (some<|.agg #[bA,.int .u8 0,bA,(),bA,bA,bA,bA,false,bA,bA,bA,bA],13,120):=b!
theorem aaP{t:TypeId}{n cap:Nat}{xs zs:List Value}{z:Array Value}(h1:(xs++zs).length=n*13)(a:n<=cap)(b:cap<=maxLen):Row (w.drew.alloc<|.cells (xs.toArray++zs.toArray++z) t) t 13 n (.slice (some w) n cap) (xs++zs):=by refine⟨h1,_,_,rfl,a,b,fun _=>⟨_,0,_,rfl,aq.new w.drew _ _,fun j u hu=>?_⟩⟩;rw[iQ,<-Array.getElem?_toList];simp only[Array.toList_append];rw[tY (by have:=(qe.1 hu).1;simpa using this)];exact hu
noncomputable def F7(w:World)(n:Nat):Nat:=grownCap w (n+1) n 68
noncomputable def FZ(w:World)(ds:List bT)(y:bT):Array Value:=(gT ds).toArray++y.aI.toArray++Builtin.zeroCells (Value.agg #[bA,.int .u8 0,bA,(),bA,bA,bA,bA,false,bA,bA,bA,bA]).cells (F7 w ds.length-(ds.length+1))
theorem aaU{w:World}{f:Option Addr}{c b:Nat}{ds:List bT}{y:bT}(aI:jR 68 w (.slice f ds.length c) ds)(al:aq w b 68 y.aI.toArray)(hk:cb w y.kv y.r.aj.key)(hn:ds.length<=64):
  (Builtin.append_ #[45,45] 45 #[.slice f ds.length ds.length,.slice (some b) 1 1]).run prog w=.ok (.slice (some w) (ds.length+1)<|F7 w ds.length) (w.drew.alloc<|.cells (FZ w ds y) 68)/\jR 68 (w.drew.alloc<|.cells (FZ w ds y) 68) (.slice (some w) (ds.length+1)<|F7 w ds.length) (ds++[y]):=by
 obtain⟨i0,hi,dH,c0,dx⟩:=CX Nc;have p:=((b5 w w).drew).alloc<|bG _;(have k:∀o,∀x∈ds++[y],cb (w.drew.alloc o) x.kv x.r.aj.key:=fun o x au=>by rcases List.mem_append.1 au with h|h;{exact(aI.key x h).keep (bm<|p o)};rw[List.mem_singleton.1 h];exact hk.keep<|bm<|p o);(have i:∀j u,y.aI[j]?=some u->w.cell? ((b:Addr).add j)=some u:=fun j u d=>by rw[Addr.add_lit,iQ,al.cell];simpa using d);(have m:y.aI.length=1*i0.size:=by rw[c0];rfl);(have hlen:(gT ds++y.aI).length=(ds.length+1)*13:=by rw[gO,Rk];show _+13=_;omega);have s:(ds++[y]).length=ds.length+1:=bI;have hm:ds.length+1<=maxLen:=by unfold maxLen;omega
 cases f with
 |none=>
  have pX:ds=[]:=by
   obtain⟨_,_,_,e,_,_,h⟩:=aI.row
   cases e
   cases ds with
   |nil=>rfl
   |cons a l=>obtain⟨_,_,_,e,_⟩:=h<|Nat.succ_pos _;cases e
  subst pX;(have ha:FZ w [] y=y.aI.toArray++Builtin.zeroCells (Value.agg #[bA,.int .u8 0,bA,(),bA,bA,bA,bA,false,bA,bA,bA,bA]).cells (grownCap w 1 0 68-1):=by unfold FZ;simp[gT];rfl);have aE:=aaP (w:=w) (t:=68) (n:=1) (cap:=grownCap w 1 0 68) (xs:=[]) (zs:=y.aI) (z:=Builtin.zeroCells (Value.agg #[bA,.int .u8 0,bA,(),bA,bA,bA,bA,false,bA,bA,bA,bA]).cells<|grownCap w 1 0 68-1) rfl (grownCap_ge _ _ _ _)<|grownCap_le_maxLen _ _ _ _ (by unfold maxLen;omega);refine⟨by rw[ha];exact run_append_nil (P:=prog) w 45 45 68 i0 _ underlying45 hi dH b 1 1 y.aI m i ax ax<|by rw[dx];decide,⟨?_,k _⟩⟩;rw[ha];simpa[gT,F7]using aE
 |some g=>
  have a_:∀j v,(gT ds)[j]?=some v->w.cell? (g.add j)=some v:=fun j v d=>by
   have q:0<ds.length:=by
    cases ds with
    |nil=>simp[gT]at d
    |cons a l=>exact Nat.succ_pos _
   obtain⟨_,_,_,A⟩:=Row.cells aI.row;obtain⟨D,off,B,C⟩:=A q;cases B;rw[Addr.add_lit];exact C j v d
  have fN:Builtin.nextslicecap (ds.length+1) ds.length*i0.bytes<=281474976710656:=growslice_fits ae (by rw[dx];omega);refine⟨run_append_grow (P:=prog) w 45 45 68 i0 _ underlying45 hi dH g ds.length ds.length (gT ds) (by rw[Rk,c0]) a_ b 1 1 y.aI m i ae ae fN,⟨?_,k _⟩⟩;rw[s,Jj];exact aaP hlen (grownCap_ge _ _ _ _)<|grownCap_le_maxLen _ _ _ _ hm
theorem abF{P:Program}{ops:Array Oper}{o:Oper}{a:Act}{K:Act->World->Prop}{Q:Exit->Act->World->Prop}{E:Prop}(hw:Region.wanted o (yielded ops a.tmps)=true)(s x:Operand)(t c:TypeId)
 (a8:o.op=.call {callee:=.builtin .append,args:=#[s,x],argTypes:=#[t,c]})(vs b:Value)(aB:a.eval s=vs)(au:a.eval x=b)(v':Value)(w':World)(aE:(Builtin.append_ #[t,c] o.type #[vs,b]).run P w=.ok v' w')(h:K (a.put o.dst v') w'):
 if Region.wanted o (yielded ops a.tmps)=true then Oper.wp P o a w K Q else E:=by rw[aN hw];exact Lib.wp_append_run w s x t c a8 vs b aB au v' w' aE h
def sN(spare:Int)(S:Cell)(l:List Rec):Cell:=l.foldl (fun S e=>(iG bM bP S e.aj e.cn.now<|jy spare e.cn).2) S
theorem Xb(spare:Int)(S:Cell)(l:List Rec)(e:Rec):sN spare S (l++[e])=(iG bM bP (sN spare S l) e.aj e.cn.now<|jy spare e.cn).2:=by unfold sN;rw[List.foldl_append];rfl
theorem aa3{e:Rec}(h:nu pol key e)(aB:1<=spare/\spare<=4611686018427387903):e.aj.op=2->1<=jy spare e.cn/\jy spare e.cn<=4611686018427387903:=fun aU=>by have:=h.b0 aU;unfold jy;split<;>omega
theorem Xa(aB:1<=spare/\spare<=4611686018427387903):∀(l:List Rec) (S:Cell),rY pol key S->(∀e∈l,nu pol key e)->rY pol key (sN spare S l)
 |[],S,h,_=>h
 |e::l,S,h,a=>Xa aB l _ (TQ (a e List.mem_cons_self) h<|aa3 (a e List.mem_cons_self) aB).2 fun x au=>a x<|o0 _ au
structure pN(b q:Nat)(w w':World):Prop where
 os:w'.os=w.os
 tape:w'.tape=w.tape
 output:w'.output=w.output
 size:w.heap.size<=w'.heap.size
 block:∀i,i≠b->i≠q->i<w.heap.size->w'.heap[i]?=w.heap[i]?
end
section
open Go.RowKit ai
variable {b q :Nat} {w x y:World}
variable{k:Nat}{t:TypeId}{a ab PU:Array Value}
theorem pN.refl(b q:Nat)(w:World):pN b q w w:=⟨rfl,rfl,rfl,bG _,fun _ _ _ _=>rfl⟩
theorem pN.below(h:pN b q w x)(k:Below x x y):pN b q w y:=⟨k.os.trans h.os,k.tape.trans h.tape,k.output.trans h.output,eB h.size k.size,fun i h1 d c=>(k.block i<|nX c h.size).trans<|h.block i h1 d c⟩
theorem pN.b1(h:pN b q w x)(k:eN b x y):pN b q w y:=⟨k.os.trans h.os,k.tape.trans h.tape,k.output.trans h.output,eB h.size k.size,fun i h1 d c=>(k.block i h1<|nX c h.size).trans<|h.block i h1 d c⟩
theorem pN.Df(h:pN b q w x)(k:eN q x y):pN b q w y:=⟨k.os.trans h.os,k.tape.trans h.tape,k.output.trans h.output,eB h.size k.size,fun i h1 c d=>(k.block i c<|nX d h.size).trans<|h.block i h1 c d⟩
theorem pN.hU(h:pN b q w x)(al:aq w k t a)(h1:k≠b)(c:k≠q):aq x k t a:=(h.block k h1 c al.lt).trans al
theorem pN.B3(h:pN b q w x){b1 Df:TypeId}(al:aq w b b1 ab)(a':aq w q Df PU)(hk:aq w k t a)(h1:t≠b1)(c:t≠Df):aq x k t a:=h.hU hk (hk.ne al h1)<|hk.ne a' c
theorem pN.kR(h:pN b q w x){b1 Df:TypeId}(al:aq w b b1 ab)(a':aq w q Df PU){v:Value}{ys:List bT}(H:jR t w v ys)(h1:t≠b1)(d:t≠Df)(e:5≠b1)(c:5≠Df):jR t x v ys:=
 ⟨Row.same H.row fun g arr aS=>h.B3 al a' aS h1 d,fun y hy=>(H.key y hy).y' fun g arr aS=>h.B3 al a' aS e c⟩
theorem pN.low{n:Nat}(h:pN b q w x){u:World}(k:Below n u w)(h1:n<=b)(c:n<=q)(hn:n<=w):Below n u x:=⟨h.os.trans k.os,h.tape.trans k.tape,h.output.trans k.output,eB k.size h.size,fun i hi=>(h.block i ae ae ae).trans<|k.block i hi⟩
end
open Go.RowKit ai
variable{pol:Int}{key:List Nat}
def J8(spare:Int)(S:Cell)(l:List Rec):c2:=match l.reverse with|[]=>err 0|e::r=>(iG bM bP (sN spare S r.reverse) e.aj e.cn.now<|jy spare e.cn).1
theorem Z5(spare:Int)(S:Cell)(l:List Rec)(e:Rec):J8 spare S (l++[e])=(iG bM bP (sN spare S l) e.aj e.cn.now<|jy spare e.cn).1:=by unfold J8;rw[List.reverse_append];show(iG bM bP (sN spare S l.reverse.reverse) _ _ _).1=_;rw[List.reverse_reverse]
theorem aoF{l:List bT}{k:Nat}(hk:k<l.length):(l.take<|k+1).map bT.r=(l.take k).map bT.r++[l[k].r]:=by rw[List.take_add_one,eG hk,List.map_append];rfl
def acq(w:World)(df:Nat)(az:Value)(pol:Int)(key:List Nat)(S:Cell):Prop:=∃dt L,aq w df 123 #[az,.int .i64 4096,dt]/\cC w dt L/\HN pol key L S
theorem amz(az dt vD:Value)(ds:List bT)(y:bT)(spare:Int)(w:World)(aF:hv w az bP)(aI:jR 68 w vD ds)(hk:cb w y.kv y.r.aj.key)(gT:∀x∈ds,nu pol key x.r)(hy:nu pol key y.r)(aB:1<=spare/\spare<=4611686018427387903)(hn:ds.length<=64):
  aR 107 #[.agg #[az,dt,spare],vD,.agg y.aI.toArray] w (dM (decide<|(iG bM bP (sN spare ⟨pol,key,0,[]⟩<|ds.map bT.r) y.r.aj y.r.cn.now<|jy spare y.r.cn).1=y.r.cn) w):=by
 have Iv:Hid (∀W,Below w w W->aR 15 #[az,.int .i64 4096] W fun e w'=>∃k iY,e=.returned (.tuple #[P k,bA])/\aq w' k 123 #[iY,.int .i64 4096,()]/\hv w' iY bP/\W<=k/\Below W W w'):=fun W bQ=>VZ bP az 4096 W (aF.keep<|bm bQ) ax ax yH ax ax;have hQ:∀x∈ds++[y],nu pol key x.r:=fun x au=>by rcases List.mem_append.1 au with h|h;{exact gT x h};·rw[List.mem_singleton.1 h];exact hy
 obtain⟨V,U,fc⟩:∃(V:World->Nat) (U:World->Array Value),Hid (∀(W:World) (ni:Nat),Below w w W->aq W ni 68 y.aI.toArray->(Builtin.append_ #[45,45] 45 #[.slice (match vD with|.slice a _ _=>a|_=>none) ds.length ds.length,.slice (some ni) 1 1]).run prog W=.ok (.slice (some W) (ds.length+1)<|V W) (W.drew.alloc<|.cells (U W) 68)/\jR 68 (W.drew.alloc<|.cells (U W) 68) (.slice (some W) (ds.length+1)<|V W) (ds++[y])):=⟨fun W=>F7 W ds.length,fun W=>FZ W ds y,fun W ni bQ ib=>by
  obtain⟨a,c,rfl⟩:=aI.slice
  exact aaU (aI.below bQ) ib (hk.keep<|bm bQ) hn⟩
 obtain⟨LU,dc,rfl⟩:=aI.slice;(try dsimp only at fc);have G:=(Row.cells aI.row).2.1;(have cI:(iG bM bP (sN spare ⟨pol,key,0,[]⟩<|ds.map bT.r) y.r.aj y.r.cn.now<|jy spare y.r.cn).1=J8 spare ⟨pol,key,0,[]⟩ ((ds++[y]).map bT.r):=by rw[List.map_append];exact(Z5 _ _ _ _).symm);rw[cI];clear cI;have hlen:(ds++[y]).length=ds.length+1:=bI;have aP:rY pol key ⟨pol,key,0,[]⟩:=rY.zero hy;have zW:=ad G;have l1:=ad aB;generalize ds++[y]=all at*;generalize ds.length=o_ at*;have xK:=ad hQ;have kq:=ad aP;have vk:=ad hlen;obtain⟨⟨ak,⟨op,fH,er,cl⟩,first,at_,ft,⟨C,rg,F,E,rs,D⟩⟩,Dj⟩:=y;(obtain⟨t,z,ZN⟩:∃a bx,Dj=.slice a er.length bx:=by obtain⟨_,_,a,bx,e,_⟩:=hk;exact⟨a,bx,e⟩);(try dsimp only at ZN);subst ZN;unfold bT.aI at fc⊢;(try dsimp only at fc⊢);clear aF aI hk gT hy hQ aP G hlen;generalize gh:(⟨C,rg,F,E,rs,D⟩:c2)=asq at*;have ad4:=ad gh;clear gh;go_enter func107,ntmps107;go_upto_region 1 with fail;refine wp_name (fun u=>Below w w u/\aq u w 168 #[az,dt,spare]/\aq u (w+1) 68 #[ak,.int .u8 (op:Nat),fH,.slice t er.length z,cl,first,ft,C,rg,F,E,rs,D]) ⟨ck [_,_] w,b3 w [_,_] 0 rfl,b3 w [_,_] 1 rfl⟩ ?_;rintro u ⟨kk,nc,gd⟩;have u0:aG u w 0 az:=nc.cell 0;have q:=ad kk;have R:=ad nc;have ln:=ad gd;clear kk nc gd;go_upto_region 3 with(first|(go_at_call 15;refine(Iv.out _ q.out).mono ?_;rintro e aQ ⟨df,lw,rfl,iU,s0,hle,a7⟩;have cU:=ad a7;have N:=ad iU;have U9:=ad s0;clear a7 iU s0));refine wp_name (fun v=>Below aQ aQ v/\aq v aQ 58 (dn<|err 0)) ⟨(b5 aQ aQ).alloc (bG _) _,aq.new aQ _ _⟩ ?_;rintro v ⟨s,Se⟩;have n:=ad<|q.out.trans<|(cU.out.trans<|s.mono cU.out.size).mono q.out.size;have Sd:=cU.out.trans<|s.mono cU.out.size;have j?:=ad<|bw (R.out.below Sd R.out.lt)<|bw (ln.out.below Sd ln.out.lt)<|bw (N.out.below s N.out.lt)<|bw (U9.out.keep<|bm s) Se;have XV:df≠aQ:=Nat.ne_of_lt N.out.lt;have ib:w<=df:=eB q.out.size hle;have ai0:w<=aQ.heap.size:=eB q.out.size cU.out.size;have MB:=Se.lt;have YX:=j?.out.2.1.lt;obtain⟨v0,v1,v2,v3,v4,v5,v6,Dg,KE,v9,v10,v11,v12⟩:=l5 j?.out.2.1;have G:=zW.out;clear u0 s Se Sd q R ln cU N U9 Iv hle;go_cut [28,29,30]from 54 fun am2 TB TC I=>∃g off cap,am2=.slice (some ⟨g,off,none⟩) all.length cap/\TB=.int .i64 (all.length:Int)/\TC=.int .i64 0/\Below v v I/\jR 68 I (.slice (some ⟨g,off,none⟩) all.length cap) all;(case first=>have A:=cm v0<|cm v1<|cm v2<|cm v3<|cm v4<|cm v5<|cm v6<|cm Dg<|cm KE<|cm v9<|cm v10<|cm v11<|jP v12;refine wp_region_held_drew (S:=fun W=>aG W (w+1) 0 ak/\aG W (w+1) 1 (.int .u8 (op:Nat))/\aG W (w+1) 2 fH/\aG W (w+1) 3 (.slice t er.length z)/\aG W (w+1) 4 cl/\aG W (w+1) 5 first/\aG W (w+1) 6 ft/\aG W (w+1) 7 C/\aG W (w+1) 8 rg/\aG W (w+1) 9 F/\aG W (w+1) 10 E/\aG W (w+1) 11 rs/\aG W (w+1) 12 D) b! ?_ fun kg=>?_;{exact A.out _ (b5 v v).drew};refine gN 0 ?_;refine gN 1 ?_;refine gN 2 ?_;refine gN 3 ?_;refine gN 4 ?_;refine gN 5 ?_;refine gN 6 ?_;refine gN 10 ?_;refine wpAnyH_ready (rs:=[7]) b! bI<|AllReadyH.cons rfl (fun K B=>?_) AllReadyH.nil;go_simp;refine B.out _ _ ?_ fun kg=>?_;{(try dsimp only);exact A.out _ bn};clear B K;(try simp only[Act.put,lW,lX,lE]);refine wpAnyH_ready (rs:=[8]) b! bI<|AllReadyH.cons rfl (fun K B=>?_) AllReadyH.nil;refine abF (by rfl) _ _ _ _ (by rfl) _ _ (by rfl) (by rfl) _ _ (fc.out _ v ?_ ?_).1 ?_;{exact n.out.trans (Below.mono bn n.out.size)};{exact gl};refine B.out _ _ ?_ fun kg=>?_;{exact A.out _ bn};clear B K;(try simp only[Act.put,List.getElem_toArray,List.getElem_cons_succ,List.getElem_cons_zero,lW,lX,lE]);refine Bl 9 ?_;refine wpAnyH_done b! ?_ _;go_wp2;go_meet;rw[vk.out];refine⟨_,_,_,rfl,bI,rfl,?_,(fc.out _ v ?_ ?_).2⟩;{exact bn};{exact n.out.trans (Below.mono bn n.out.size)};exact gl);case rest=>obtain⟨x,au⟩:∃u,u=wc:=⟨_,rfl⟩;subst au;obtain⟨g,off,cap,rfl,rfl,rfl,m,Yy⟩:=hcut;have vU:=m.size;(have YO:all.length<=65:=by have:=vk.out;omega);have Hx:=ad<|bw (j?.out.1.below m j?.out.1.lt)<|bw (j?.out.2.1.below m j?.out.2.1.lt)<|bw (j?.out.2.2.1.below m j?.out.2.2.1.lt)<|bw (j?.out.2.2.2.1.keep<|bm m)<|j?.out.2.2.2.2.below m j?.out.2.2.2.2.lt;have xQ:=ad<|n.out.trans<|m.mono n.out.size;have adq:=ad Yy;have aqQ:=nX MB vU;have aqO:=nX YX vU;have aqW:=Hx.out.2.2.1.lt;clear m Yy j? n v0 v1 v2 v3 v4 v5 v6 Dg KE v9 v10 v11 v12 G MB YX fc;go_wp2;go_loopw [30] (fun TC wr=>∃k:Nat,TC=.int .i64 k/\k<=all.length/\pN df aQ x wr/\aq wr aQ 58 (dn<|J8 spare ⟨pol,key,0,[]⟩<|(all.take k).map bT.r)/\acq wr df lw pol key (sN spare ⟨pol,key,0,[]⟩<|(all.take k).map bT.r)) (fun i _=>all.length-(intOf i).toNat);(case atStart=>exact⟨0,rfl,fw _,pN.refl _ _ _,Hx.out.2.2.2.2,_,[],Hx.out.2.2.1,cC.nil x,rfl,rfl,.inl ⟨rfl,rfl⟩⟩);case round=>obtain⟨k,rfl,hk,l,o,aga,L,Q,g_,b8⟩:=hrel;have J:=l.kR Hx.out.2.2.1 Hx.out.2.2.2.2 adq.out ax ax ax ax;have T:hv wr lw bP:=Row.same Hx.out.2.2.2.1 fun b arr aS=>l.B3 Hx.out.2.2.1 Hx.out.2.2.2.2 aS ax ax;have bD:=l.B3 Hx.out.2.2.1 Hx.out.2.2.2.2 Hx.out.1 ax ax;have bZ:=l.B3 Hx.out.2.2.1 Hx.out.2.2.2.2 Hx.out.2.1 ax ax;have bR:=l.size;by_cases cg:k<all.length;{have Cw:(k:Int)<all.length:=ae;have Cx:(0:Int)<=k:=ae;obtain⟨_,_,aO,j⟩:=J.at_ cg;cases aO;have z0:=j 0 _ ax rfl;have fT:=j 1 _ ax rfl;have z2:=j 2 _ ax rfl;have z3:=j 3 _ ax rfl;have z4:=j 4 _ ax rfl;have z5:=j 5 _ ax rfl;have jj:=j 6 _ ax rfl;have jO:=j 7 _ ax rfl;have lD:=j 8 _ ax rfl;have z9:=j 9 _ ax rfl;have rO:=j 10 _ ax rfl;have qd:=j 11 _ ax rfl;have z12:=j 12 _ ax rfl;clear j;have dW:=ad<|xK.out _<|fZ cg;have sB:=ad<|J.key _<|fZ cg;have dQ:=Xa l1.out ((all.take k).map bT.r) _ kq.out (fun e he=>by obtain⟨r,aE,rfl⟩:=List.mem_map.1 he;exact xK.out r<|List.mem_of_mem_take aE);have A:=ad dQ;have H:=ad<|Xb spare ⟨pol,key,0,[]⟩ ((all.take k).map bT.r) all[k].r;have p:=ad<|Z5 spare ⟨pol,key,0,[]⟩ ((all.take k).map bT.r) all[k].r;rw[<-aoF cg]at H p;generalize all[k]=f at*;generalize sN spare ⟨pol,key,0,[]⟩ ((all.take k).map bT.r)=S at*;have jl:=ad bD;have eM:=ad bZ;have Vc:=ad o;have UJ:=ad Q;have ua:=ad g_;have iS:=ad b8;have adV:=ad T;have ad9:=ad l;clear J dQ bD bZ o Q g_ b8 T l;have M:Hid (∀W,Below wr wr W->aR 143 #[P df,.agg<|nA f.r.aj f.kv,f.r.cn.now,jy spare f.r.cn] W fun e w'=>e=.returned (.agg<|dn (iG bM bP S f.r.aj f.r.cn.now<|jy spare f.r.cn).1)/\Dz W df lw pol key (iG bM bP S f.r.aj f.r.cn.now<|jy spare f.r.cn).2 w'):=fun W bQ=>ago df lw aga f.kv L S f.r _ W dW.out A.out iS.out (UJ.out.below bQ UJ.out.lt) (adV.out.keep<|bm bQ) (ua.out.keep<|bm bQ) (sB.out.keep<|bm bQ)<|aa3 dW.out l1.out;have O:jy spare f.r.cn=if f.r.cn.a6=0 then spare else f.r.cn.a6:=rfl;obtain⟨⟨qE,⟨nj,nE,mW,n2⟩,qq,B0,oF,⟨p6,p7,p8,qA,nU,pz⟩⟩,HH⟩:=f;obtain⟨_,_,qb,qc,aO,_⟩:=sB.out;dsimp only at aO z0 fT z2 z3 z4 z5 jj jO lD z9 rO qd z12 O;subst aO;have z0:wr.cell? ⟨g,off+k*13,none⟩=_:=z0;dsimp only at M H p;generalize jy spare ⟨p6,p7,p8,qA,nU,pz⟩=oo at*;generalize iG bM bP S ⟨nj,nE,mW,n2⟩ pz oo=sp at*;obtain⟨⟨aaj,aal,pl,oT,ps,pm⟩,oV⟩:=sp;unfold nA dn at M;dsimp only at M H p;have ad6:=ad O;clear O;go_upto_region 6 with fail;refine wp_name (fun u=>Below wr wr u/\aq u wr 68 #[qE,.int .u8 (nj:Nat),nE,.slice qb mW.length qc,n2,qq,oF,p6,p7,p8,qA,nU,pz]) ⟨(b5 wr wr).alloc (bG _) _,aq.new wr _ _⟩ ?_;rintro u ⟨sb,hu⟩;obtain⟨d0,d1,d2,d3,d4,d5,d6,d7,d8,d9,d10,d11,d12⟩:=l5 hu;have fq:aG u w 2 spare:=cB sb<|jl.out.cell 2;have Pd:=ad sb;clear sb hu z0 fT z2 z3 z4 z5 jj jO lD z9 rO qd z12;go_upto_if 38 with fail;go_cut [12]from 31 to 49 fun Hp I=>Hp=.int .i64 oo/\I=u;(case first=>have h:=ad6.out;by_cases cI:nU=0;{subst cI;have aU:oo=spare:=h;clear h;subst aU;go_wp2;go_meet;exact⟨rfl,rfl⟩};rw[aC cI]at h;subst h;go_wp2;go_meet;exact⟨rfl,rfl⟩);case rest=>obtain⟨rfl,AL⟩:=hcut;subst AL;obtain⟨asz,ajF⟩:∃u,u=wc:=⟨_,rfl⟩;subst ajF;go_wp2_with(first|(go_at_call 143;refine(M.out _ Pd.out).mono ?_;rintro e dy ⟨rfl,a'⟩;have hl:=a'.b1.hU (Vc.out.below Pd.out Vc.out.lt) fun e=>XV e.symm;obtain⟨⟨b9,da,ef,ew,fa,fb⟩,g0,g1,g2,g3,g4,g5⟩:=fh hl;have fU:=ad a';have Bw:=ad hl;clear a' hl));have AH:58≠123:=ax;obtain⟨⟨agb,aen,cW,pV,nK⟩,ajt⟩:=fU.out;have aY:eN aQ dy _:=((((((eN.refl aQ dy).set 0 aaj).set 1 aal).set 2 pl).set 3 oT).set 4 ps).set 5 pm;go_roundw;(case rel=>exact⟨k+1,by go_num,ae,((ad9.out.below Pd.out).b1 ajt).Df aY,by rw[p.out];exact aq.pA Bw.out _ _ _ _ _ _,by rw[H.out];exact⟨agb,aen,aY.hU cW XV,aY.cells Bw.out (by unfold pF;decide) pV,nK⟩⟩);case measure=>simp[intOf];omega};obtain rfl:k=all.length:=ae;rw[ou]at o;obtain⟨b?,X⟩:∃b?,J8 spare ⟨pol,key,0,[]⟩ (all.map bT.r)=b?:=⟨_,rfl⟩;rw[X]at o;have p:=ad X;clear X;have Y:=agN b? ⟨C,rg,F,E,rs,D⟩;have dD:=ad<|l.low xQ.out ib ai0 xQ.out.size;obtain⟨le,yA,SK,lf,ls,lm⟩:=b?;unfold dn at Y;dsimp only at Y;obtain⟨Qh,Z⟩:∃d,decide ((⟨le,yA,SK,lf,ls,lm⟩:c2)=⟨C,rg,F,E,rs,D⟩)=d:=⟨_,rfl⟩;rw[Z]at Y;have ON:=ad Z;clear Z;obtain⟨⟨b9,da,ef,ew,fa,fb⟩,_⟩:=fh o;obtain⟨d0,d1,d2,d3,d4,d5,d6,d7,d8,d9,d10,d11,d12⟩:=l5 bZ;clear o J T bD bZ Q b8 l;go_wp2;exact cJ (v:=.bool Qh) (by simp[results,results107,go_sem]) rfl ⟨by rw[<-ON.out,p.out,ad4.out],dD.out⟩
theorem ale{E:List Rec}{spare:Int}{un:Nat->Bool}{S:Cell}(he:∀i,i<E.length->(jG E i).first<=(jG E i).ft)(hn:∀i,i<E.length->¬Fj E spare un S i)(hu:∃i,i<E.length/\un i=true):¬Ord bM bP E spare un S:=fun a8=>by rcases a8.next he with h|⟨k,hk,h1,c,d,b⟩;{obtain⟨i,hi,a⟩:=hu;rw[h i hi]at a;cases a};exact hn k hk ⟨h1,c,d,b⟩
theorem ae'{n left:Nat}(h:left<2^n)(a:left≠0):∃i,i<n/\left.testBit i=true:=by obtain⟨i,hi⟩:=Nat.exists_testBit_of_ne_zero a;refine⟨i,Nat.lt_of_not_le fun hle=>?_,hi⟩;rw[Nat.testBit_lt_two_pow<|nX h<|Nat.pow_le_pow_right ax hle]at hi;cases hi
theorem VV:∀l<256,∀k<8,bits .and .i64 (((l:Nat):Int)/2^k) 1=if l.testBit k then 1 else 0:=by decide+kernel
def Am(l k:Nat):Nat:=l&&&(255^^^(1<<<k))
theorem ae8:∀l<256,∀k<8,bits .andNot .i64 ((l:Nat):Int) (IntKind.i64.wrap<|2^k)=((Am l k:Nat):Int):=by decide+kernel
theorem ae9:∀l<256,∀k<8,Am l k<=l/\∀i<8,(Am l k).testBit i=(l.testBit i&&decide (i≠k)):=by decide+kernel
theorem ahh{pol:Int}{key:List Nat}(az dt:Value)(ys:List bT)(spare:Int)(eo:∀x∈ys,nu pol key x.r)(aT:∀x∈ys,x.r.first<=x.r.ft)(aB:1<=spare/\spare<=4611686018427387903)(M':ys.length<=8):
   ∀(n left:Nat) (ds:List bT) (p:Value) (w:World),yz (ys.map bT.r) (fun i=>left.testBit i)=n->left<2^ys.length->ds.length+n<=64->hv w az bP->jR 68 w dt ys->jR 68 w p ds->(∀x∈ds,nu pol key x.r)->
   aR 68 #[.agg #[az,dt,spare],left,p] w fun e w'=>∃m,e=.returned (.bool m)/\(Ord bM bP (ys.map bT.r) spare (fun i=>left.testBit i) (sN spare ⟨pol,key,0,[]⟩<|ds.map bT.r)->m=true)/\Below w.heap.size w w':=by
 intro n;induction n using Nat.strongRecOn with|_ n FT=>
 intro left ds p w hn MD zl aF hq P gT;by_cases aP:left=0;{subst aP;rw[show((0:Nat):Int)=0 from rfl];clear FT hn aF hq P gT eo aT;go_enter func68,ntmps68;go_wp2;go_step3;go_wp2;simp only[Exit.noGoto_ret];go_wp2;exact cJ (v:=.bool true) (by simp[results,results68,go_sem]) rfl ⟨true,rfl,fun _=>rfl,ck [_] w⟩};have YS:¬((left:Int)=0):=ae;(have oJ:((left:Int)==0)=false:=by rw[qH];exact YS);have Pq:=ad FT;have gP:=ad aF;have ub:=ad hq;have OO:=ad P;have zW:=ad gT;have hI:=ad eo;have rf:=ad aT;have lH:=ad hn;obtain⟨mN,rc,rfl⟩:=hq.slice;obtain⟨LU,dc,rfl⟩:=P.slice;clear FT aF hq P gT eo aT hn aP;go_enter func68,ntmps68;go_upto_region 3 with fail;refine wp_name (fun u=>Below w.heap.size w u/\aq u w.heap.size 168 #[az,.slice mN ys.length rc,spare]) ⟨ck [_] w,b3 w [_] 0 rfl⟩ ?_;rintro u ⟨t,X⟩;have u1:aG u w.heap.size 1 (.slice mN ys.length rc):=X.cell 1;have arN:ys.length<=8:=M';go_step3;go_wp2;go_step3;go_wp2;go_loopw [16] (fun Kq wr=>∃k:Nat,Kq=.int .i64 k/\k<=ys.length/\Below u.heap.size u wr/\∀i,i<k->¬Fj (ys.map bT.r) spare (fun i=>left.testBit i) (sN spare ⟨pol,key,0,[]⟩<|ds.map bT.r) i) (fun i _=>ys.length-(intOf i).toNat);case atStart=>exact⟨0,rfl,fw _,b5 _ _,fun i h=>absurd h<|Nat.not_lt_zero _⟩
 case round=>
   obtain⟨a,rF⟩:∃x,x=wr:=⟨_,rfl⟩;subst rF;obtain⟨k,rfl,hk,B,ek⟩:=hrel;by_cases cg:k<ys.length
   . have Cw:(k:Int)<ys.length:=ae;have Cx:(0:Int)<=k:=ae;have aqI:(k:Int)<=64:=ae;obtain⟨l,off,rfl,a!⟩:=ub.out.at_ cg;have x:=fun j v U e=>cB (t.trans<|B.mono t.size)<|a! j v U e;obtain⟨bL,cE,dZ,dP,j6,j7,j8,i_,nW,oZ,oY,np,nr⟩:=tX x;clear x a!;have sB:=ad<|ub.out.key _<|fZ cg;have Q:Hid (jG (ys.map bT.r) k=ys[k].r):=Gb cg;have lG:=ad<|hI.out _<|fZ cg;obtain⟨y,hy⟩:∃y,ys[k]=y:=⟨_,rfl⟩;rw[hy]at sB Q lG bL cE dZ dP j6 j7 j8 i_ nW oZ oY np nr;clear hy;obtain⟨⟨ak,⟨op,D,er,C⟩,first,at_,ft,⟨E,rg,H,G,rs,F⟩⟩,Dj⟩:=y;obtain⟨_,_,I,J,aO,_⟩:=sB.out;dsimp only at aO Q;subst aO;have bL:a.cell? ⟨l,off+k*13,none⟩=_:=bL;dsimp only at bL cE dZ dP j6 j7 j8 i_ nW oZ oY np nr;have N:=ad ek;have o:=ad B;have L:=ad t;have BJ:=ad X;have s:=B.size;have YV:=X.lt;have MA:left<256:=nX MD<|Nat.pow_le_pow_right ax M';have d:=VV left MA k ae;obtain⟨T0,EW⟩:∃b,left.testBit k=b:=⟨_,rfl⟩;rw[EW]at d;have y0:=ad EW;have adC:=ad MD;clear ek B t X EW MD
     cases T0 with
     |false=>
       have bD:bits BinOp.and IntKind.i64 ((left:Int)/2^k) 1=0:=d;clear d;go_wp2;go_roundw
       case rel=>exact⟨k+1,by go_num,ae,by(have:=o.out;exact bn),fun i hi=>by
         by_cases e:i=k
         . subst e;exact fun hc=>by(have h:left.testBit i=true:=hc.1;rw[y0.out]at h;cases h)
         . exact N.out i ae⟩
       case measure=>simp[intOf];omega
     |true=>
       have bZ:bits BinOp.and IntKind.i64 ((left:Int)/2^k) 1=1:=d;clear d;go_upto_region 7 with fail;refine wp_name (fun v=>Below a.heap.size a v/\aq v a.heap.size 68 #[ak,.int .u8 (op:Nat),D,.slice I er.length J,C,first,ft,E,.bool rg,H,G,rs,F]) ⟨(b5 a.heap.size a).alloc (bG _) _,aq.new a _ _⟩ ?_;rintro v ⟨MV,gm⟩;have iM:=MV.size;have r?:=gm.lt;have Pe:=ad MV;have j!:=ad gm;have v1:aG v w.heap.size 1 (.slice (some ⟨l,off,none⟩) ys.length rc):=cB (o.out.trans<|MV.mono s)<|BJ.out.cell 1;clear MV gm bL cE dZ dP j6 j7 j8 i_ nW oZ oY np nr bZ;go_upto_block 2 with fail;go_cut [16]from 16 to 68 fun Kq lj=>Kq=.int .i64 k/\Below v.heap.size v lj/\∀j (h:j<ys.length),left.testBit j=true->first<=ys[j].r.ft
       case first=>
         go_wp2;go_loopw [29] (fun TB wr=>∃q:Nat,TB=.int .i64 q/\q<=ys.length/\Below v.heap.size v wr/\∀j (h:j<ys.length),j<q->left.testBit j=true->first<=ys[j].r.ft) (fun i _=>ys.length-(intOf i).toNat);case atStart=>exact⟨0,rfl,fw _,b5 _ _,fun j _ h=>absurd h<|Nat.not_lt_zero _⟩
         case round=>
           obtain⟨q,rfl,a',M,hQ⟩:=hrel;have rE:=M.size;have jB:=ad M;have xK:=ad hQ;by_cases jr:q<ys.length
           . have GQ:(q:Int)<ys.length:=ae;have JM:(0:Int)<=q:=ae;have arx:(q:Int)<=64:=ae;have aqY:=nX r? rE;obtain⟨_,_,aU,uC⟩:=ub.out.at_ jr;cases aU;have sD:=ad<|L.out.trans<|(o.out.trans<|(Pe.out.trans<|M.mono iM).mono s).mono L.out.size;have z:=fun j v U e=>cB sD.out<|uC j v U e;obtain⟨z0,fT,z2,z3,z4,z5,jj,jO,lD,z9,rO,qd,z12⟩:=tX z;have d5:aG wr a.heap.size 5 first:=(j!.out.below M r?).cell 5;have d:=VV left MA q ae;obtain⟨T3,Sc⟩:∃b,left.testBit q=b:=⟨_,rfl⟩;rw[Sc]at d;have Vk:=ad Sc;have vQ:=ad<|ub.out.key _<|fZ jr;obtain⟨dz,s5⟩:∃y,ys[q]=y:=⟨_,rfl⟩;have h3:=ad s5;rw[s5]at z0 fT z2 z3 z4 z5 jj jO lD z9 rO qd z12 vQ;clear z uC hQ M Sc s5 v1;obtain⟨⟨qE,⟨nj,nE,mW,n2⟩,qq,B0,oF,⟨p6,p7,p8,qA,nU,pz⟩⟩,HH⟩:=dz;obtain⟨_,_,qb,qc,aO,_⟩:=vQ.out;dsimp only at aO z0 fT z2 z3 z4 z5 jj jO lD z9 rO qd z12;subst aO;have z0:wr.cell? ⟨l,off+q*13,none⟩=_:=z0;have fU:Hid (Below v.heap.size v<|wr.alloc<|.cells #[qE,.int .u8 (nj:Nat),nE,.slice qb mW.length qc,n2,qq,oF,p6,.bool p7,p8,qA,nU,pz] 68):=jB.out.alloc rE _
             cases T3 with
             |false=>
               have bD:bits BinOp.and IntKind.i64 ((left:Int)/2^q) 1=0:=d;clear d;go_wp2;go_roundw
               case rel=>exact⟨q+1,by go_num,ae,fU.out,fun j h U hu=>by
                 by_cases e:j=q
                 . subst e;(rw[Vk.out]at hu;cases hu)
                 . exact xK.out j h ae hu⟩
               case measure=>simp[intOf];omega
             |true=>
               have bD:bits BinOp.and IntKind.i64 ((left:Int)/2^q) 1=1:=d;clear d;by_cases cc:oF<first
               . have MF:(oF:Int)<first:=ae;go_wp2;go_roundw
                 case rel=>exact⟨k+1,by go_num,ae,o.out.trans<|(Pe.out.trans<|fU.out.mono iM).mono s,fun i hi=>by
                   by_cases e:i=k
                   . subst e
                     intro hc
                     have ao:=hc.2.1 q (by rwa[hE]) Vk.out
                     rw[Q.out,Gb jr,h3.out]at ao
                     exact absurd ao<|Nat.not_le_of_lt cc
                   . exact N.out i ae⟩
                 case measure=>simp[intOf];omega
               . have MF:¬((oF:Int)<first):=ae;go_wp2;go_roundw
                 case rel=>exact⟨q+1,by go_num,ae,fU.out,fun j h U hu=>by
                   by_cases e:j=q
                   . subst e;rw[h3.out];exact Nat.le_of_not_lt cc
                   . exact xK.out j h ae hu⟩
                 case measure=>simp[intOf];omega
           . obtain rfl:q=ys.length:=ae;clear hQ M;go_wp2;go_meet;exact⟨rfl,jB.out,fun j h hu=>xK.out j h h hu⟩
       case rest=>
         obtain⟨f,vV⟩:∃x,x=wc:=⟨_,rfl⟩
         subst vV
         obtain⟨rfl,Sh,YP⟩:=hcut
         have apD:=ad YP
         have A:=ad<|Pe.out.trans<|Sh.mono iM
         have Lj:=ad<|L.out.trans<|(o.out.trans<|A.out.mono s).mono L.out.size
         obtain⟨d0,d1,d2,d3,d4,d5,d6,d7,d8,d9,d10,d11,d12⟩:=l5<|j!.out.below Sh r?
         have uz:=o.out.trans<|A.out.mono s
         have nP:aG f w.heap.size 0 az:=cB uz<|BJ.out.cell 0
         have f?:aG f w.heap.size 1 (.slice (some ⟨l,off,none⟩) ys.length rc):=cB uz<|BJ.out.cell 1
         have fq:aG f w.heap.size 2 spare:=cB uz<|BJ.out.cell 2
         have bX:=cm nP<|cm f?<|cm fq<|cm d0<|cm d1<|cm d2<|cm d3<|cm d4<|cm d5<|cm d6<|cm d7<|cm d8<|cm d9<|cm d10<|cm d11<|jP d12
         obtain⟨Y,sR⟩:∃Y:bT,Y=⟨⟨ak,⟨op,D,er,C⟩,first,at_,ft,⟨E,rg,H,G,rs,F⟩⟩,.slice I er.length J⟩:=⟨_,rfl⟩
         obtain⟨V,R4⟩:∃b,decide ((iG bM bP (sN spare ⟨pol,key,0,[]⟩<|ds.map bT.r) Y.r.aj Y.r.cn.now<|jy spare Y.r.cn).1=Y.r.cn)=b:=⟨_,rfl⟩
         have jS:Hid (∀W,Below f.heap.size f W->aR 107 #[.agg #[az,.slice (some ⟨l,off,none⟩) ys.length rc,spare],.slice LU ds.length dc,.agg #[ak,.int .u8 (op:Nat),D,.slice I er.length J,C,first,ft,E,.bool rg,H,G,rs,F]] W (dM (.bool V) W)):=fun W bQ=>by
           have al:=Lj.out.trans<|bQ.mono Lj.out.size
           have h:=amz (pol:=pol) (key:=key) az (.slice (some ⟨l,off,none⟩) ys.length rc) (.slice LU ds.length dc) ds Y spare W (gP.out.keep<|bm al) (OO.out.below al) (by rw[sR];exact sB.out.qn al) zW.out (by rw[sR];exact lG.out) aB ae
           rw[R4,sR]at h
           exact h
         have ad3:=ad R4;have R:=ad sR
         have aqj:=qF _ _ nP;have Ck:=qF _ _ d0
         clear Sh YP d0 d1 d2 d3 d4 d5 d6 d7 d8 d9 d10 d11 d12 nP f? fq uz R4 sR v1
         go_upto_region 12 with fail
         refine wp_region_held_drew (S:=fun W=>aG W w.heap.size 0 az/\aG W w.heap.size 1 (.slice (some ⟨l,off,none⟩) ys.length rc)/\aG W w.heap.size 2 spare/\aG W a.heap.size 0 ak/\aG W a.heap.size 1 (.int .u8 (op:Nat))/\aG W a.heap.size 2 D/\aG W a.heap.size 3 (.slice I er.length J)/\aG W a.heap.size 4 C/\aG W a.heap.size 5 first/\aG W a.heap.size 6 ft/\aG W a.heap.size 7 E/\aG W a.heap.size 8 (.bool rg)/\aG W a.heap.size 9 H/\aG W a.heap.size 10 G/\aG W a.heap.size 11 rs/\aG W a.heap.size 12 F) b! ?_ fun kg=>?_
         . exact bX.out _ (b5 f.heap.size f).drew
         refine gN 0 ?_
         refine gN 1 ?_
         refine gN 2 ?_
         refine wpAnyH_ready (rs:=[3]) b! bI<|AllReadyH.cons rfl (fun K c=>?_) AllReadyH.nil
         go_simp
         go_at_call 107
         refine(jS.out _ ?_).mono ?_
         . exact bn
         rintro e gq ⟨rfl,jt⟩
         have ju:=(b5 f.heap.size f).drew.trans<|jt.mono<|bG _
         refine c.out _ _ ?_ fun kg=>?_
         . exact bX.out _ ju
         clear c K
         (try simp only[Act.put,List.getElem_toArray,List.getElem_cons_succ,List.getElem_cons_zero,lW,lX,lE])
         refine Bl 4 ?_
         have Z:=ad ju
         clear jt ju
         cases V with
         |false=>
           refine h8 5 ?_
           refine h8 6 ?_
           refine h8 7 ?_
           refine h8 8 ?_
           refine h8 9 ?_
           refine h8 10 ?_
           refine h8 11 ?_
           refine h8 12 ?_
           refine h8 13 ?_
           refine h8 14 ?_
           refine h8 15 ?_
           refine h8 16 ?_
           refine h8 17 ?_
           refine h8 18 ?_
           refine h8 19 ?_
           refine Bl 20 ?_
           refine wpAnyH_done b! ?_ _
           go_wp2
           exact⟨⟨k+1,by go_num,ae,o.out.trans<|(A.out.trans<|Z.out.mono<|eB A.out.size<|bG _).mono s,fun i hi=>by
             by_cases e:i=k
             . subst e
               intro hc
               have ar:=hc.2.2.1
               rw[Q.out]at ar
               have T:=of_decide_eq_false ad3.out
               rw[R.out]at T
               exact T ar
             . exact N.out i ae⟩,by simp[intOf];omega⟩
         |true=>
           have Gm:=ae8 left MA k ae
           have Q?:=ae9 left MA k ae
           have hlen:(ds++[Y]).length=ds.length+1:=bI
           have XG:cb w Y.kv Y.r.aj.key:=by rw[R.out];exact sB.out
           obtain⟨Dx,Du,fc⟩:∃(Dx:World->Nat) (Du:World->Array Value),Hid (∀(W:World) (ni g:Nat),g=W.heap.size->Below w.heap.size w W->aq W ni 68 #[ak,.int .u8 (op:Nat),D,.slice I er.length J,C,first,ft,E,.bool rg,H,G,rs,F]->(Builtin.append_ #[45,45] 45 #[.slice LU ds.length ds.length,.slice (some ⟨ni,0,none⟩) 1 1]).run prog W=.ok (.slice (some ⟨g,0,none⟩) (ds.length+1)<|Dx W) (W.drew.alloc<|.cells (Du W) 68)/\jR 68 (W.drew.alloc<|.cells (Du W) 68) (.slice (some ⟨g,0,none⟩) (ds.length+1)<|Dx W) (ds++[Y])):=⟨fun W=>F7 W ds.length,fun W=>FZ W ds Y,fun W ni g aS bQ ib=>by subst aS;exact aaU (OO.out.below bQ) (by rw[R.out];exact ib) (XG.keep<|bm bQ) ae⟩
           have wL:Hid (∀(W:World) p,Below w.heap.size w W->jR 68 W p (ds++[Y])->aR 68 #[.agg #[az,.slice (some ⟨l,off,none⟩) ys.length rc,spare],(Am left k:Nat),p] W fun e w'=>∃m,e=.returned (.bool m)/\(Ord bM bP (ys.map bT.r) spare (fun i=>left.testBit i&&decide (i≠k)) (sN spare ⟨pol,key,0,[]⟩<|(ds++[Y]).map bT.r)->m=true)/\Below W.heap.size W w'):=fun W p bQ P=>by
             have Ya:∀i,i<(ys.map bT.r).length->(Am left k).testBit i=(left.testBit i&&decide (i≠k)):=fun i hi=>Q?.2 i<|by rw[hE]at hi;omega
             have hm:yz (ys.map bT.r) (fun i=>(Am left k).testBit i)<n:=by
               rw[<-lH.out]
               have h1:yz (ys.map bT.r) (fun i=>(Am left k).testBit i)=yz (ys.map bT.r) (fun i=>left.testBit i&&decide (i≠k)):=by
                 unfold yz
                 rw[show(List.range (ys.map bT.r).length).filter (fun i=>(Am left k).testBit i)=_ from List.filter_congr fun i hi=>Ya i<|List.mem_range.1 hi]
               rw[h1]
               exact Z8 (un:=fun i=>left.testBit i) (by rwa[hE]) y0.out
             have h:=Pq.out _ hm (Am left k) (ds++[Y]) p W rfl (Nat.lt_of_le_of_lt Q?.1 adC.out) ae (gP.out.keep<|bm bQ) (ub.out.below bQ) P (fun x au=>by
               rcases List.mem_append.1 au with h|h
               . exact zW.out x h
               . rw[List.mem_singleton.1 h,R.out];exact lG.out)
             exact h.mono fun e w' ⟨m,aO,aU,cr⟩=>⟨m,aO,fun a8=>aU<|a8.congr Ya,cr⟩
           have O:=ad<|Lj.out.trans<|Z.out.mono Lj.out.size
           have GZ:=Z.out.size
           have Ov:Hid (∀W,Below gq.heap.size gq W->aG W w.heap.size 0 az/\aG W w.heap.size 1 (.slice (some ⟨l,off,none⟩) ys.length rc)/\aG W w.heap.size 2 spare/\aG W a.heap.size 0 ak/\aG W a.heap.size 1 (.int .u8 (op:Nat))/\aG W a.heap.size 2 D/\aG W a.heap.size 3 (.slice I er.length J)/\aG W a.heap.size 4 C/\aG W a.heap.size 5 first/\aG W a.heap.size 6 ft/\aG W a.heap.size 7 E/\aG W a.heap.size 8 (.bool rg)/\aG W a.heap.size 9 H/\aG W a.heap.size 10 G/\aG W a.heap.size 11 rs/\aG W a.heap.size 12 F):=fun W al=>bX.out W<|Z.out.trans<|al.mono GZ
           have Ji:=(Row.cells OO.out.row).2.1
           clear Q? hlen XG bX
           refine xy 5 ?_
           refine xy 6 ?_
           refine xy 7 ?_
           refine xy 8 ?_
           refine xy 9 ?_
           refine xy 10 ?_
           refine xy 11 ?_
           refine xy 12 ?_
           refine xy 13 ?_
           refine xy 14 ?_
           refine xy 15 ?_
           refine xy 16 ?_
           refine wpAnyH_ready (rs:=[17]) b! bI<|AllReadyH.cons rfl (fun K c=>?_) AllReadyH.nil
           rw[aN b!]
           go_simp
           refine c.out _ _ ?_ fun kg=>?_
           . exact Ov.out _ bn
           clear c K
           (try simp only[Act.put,List.getElem_toArray,List.getElem_cons_succ,List.getElem_cons_zero,lW,lX,lE])
           refine wpAnyH_ready (rs:=[18]) b! bI<|AllReadyH.cons rfl (fun K c=>?_) AllReadyH.nil
           refine abF b! _ _ _ _ (by rfl) _ _ (by rfl) (by rfl) _ _ (fc.out _ gq.heap.size (gq.heap.size+1) ?_ ?_ ?_).1 ?_
           . simp
           . exact O.out.trans<|Below.mono bn O.out.size
           . exact gl
           refine c.out _ _ ?_ fun kg=>?_
           . exact Ov.out _ bn
           clear c K
           (try simp only[Act.put,List.getElem_toArray,List.getElem_cons_succ,List.getElem_cons_zero,lW,lX,lE])
           refine wpAnyH_ready (rs:=[19]) b! bI<|AllReadyH.cons rfl (fun K c=>?_) AllReadyH.nil
           rw[aN b!]
           go_simp
           go_at_call 68
           (with_reducible refine(wL.out _ _ ?_ ?_).mono ?_)
           . exact O.out.trans<|Below.mono bn O.out.size
           . refine((fc.out _ gq.heap.size (gq.heap.size+1) ?_ ?_ ?_).2).below ⟨rfl,rfl,rfl,bG _,fun _ _=>rfl⟩
             . simp
             . exact O.out.trans<|Below.mono bn O.out.size
             . exact gl
           rintro e cp ⟨m,rfl,himp,l7⟩
           have Gk:=ez (kM (u:=gq) l7) l7
           refine c.out _ _ ?_ fun kg=>?_
           . exact Ov.out _ Gk
           clear c K
           (try simp only[Act.put,List.getElem_toArray,List.getElem_cons_succ,List.getElem_cons_zero,lW,lX,lE])
           refine Bl 20 ?_
           refine wpAnyH_done b! ?_ _
           have DG:=ad<|o.out.trans<|(A.out.trans<|(Z.out.trans<|Gk.mono GZ).mono A.out.size).mono s
           have OV:=ad himp
           clear l7 Gk himp
           cases m with
           |true=>
             go_wp2
             (try simp only[Exit.noGoto_ret])
             (try go_wp2)
             exact cJ (v:=.bool true) (by simp[results,results68,go_sem]) rfl ⟨true,rfl,fun _=>rfl,L.out.trans<|DG.out.mono L.out.size⟩
           |false=>
             go_wp2
             exact⟨⟨k+1,by go_num,ae,DG.out,fun i hi=>by
               by_cases e:i=k
               . subst e
                 intro hc
                 have T:=hc.2.2.2
                 rw[Q.out]at T
                 have aK:=OV.out<|by rw[List.map_append];show Ord _ _ _ _ _ (sN _ _<|_++[Y.r]);rw[Xb,R.out];exact T
                 cases aK
               . exact N.out i ae⟩,by simp[intOf];omega⟩
   . obtain rfl:k=ys.length:=ae;have N:=ad ek;have hO:=ad<|t.trans<|B.mono t.size;clear ek B t X u1;go_wp2;(try simp only[Exit.noGoto_ret]);(try go_wp2);refine cJ (v:=.bool false) (by simp[results,results68,go_sem]) rfl ⟨false,rfl,fun a8=>?_,hO.out⟩;exfalso;obtain⟨i,hi,pe⟩:=ae' MD (fun e=>YS (by rw[e];rfl));refine ale (fun i hi=>by rw[Gb<|by simpa using hi];exact rf.out _<|fZ _) (fun i hi=>N.out i<|by rwa[hE]at hi) ⟨i,by rwa[hE],pe⟩ a8
def Lu(rows:List bT)(sp:Int)(j:Nat)(b:Bool):Prop:=(b=false->qk rows sp j)/\(b=true->∃i,∃h:i<rows.length,rows[i].r.cn.a6=sp\/rows[i].r.aj.n=sp)
theorem qk.agC{rows:List bT}{sp:Int}(h:qk rows sp 0){i:Nat}(hi:i<rows.length)(h1:rows[i].r.cn.a6=sp\/rows[i].r.aj.n=sp):qk rows (sp-1) 0/\sJ rows (sp-1)<sJ rows sp:=by(have hm:sp∈A? rows:=by unfold A?;rw[List.mem_flatMap];refine⟨rows[i],fZ hi,?_⟩;rcases h1 with e|e<;>rw[<-e]<;>simp);have al:=h.Lv;have a:sJ rows (sp-1)<sJ rows sp:=Qp (A? rows) sp hm;exact⟨⟨ae,by have:=h.hi;omega,fun i _ h=>absurd h<|Nat.not_lt_zero _⟩,a⟩
