import Derived.Test.YtoglcccmgnjchaaGreatTa23
import Derived.Laws.StructEq
set_option linter.all false
set_option maxHeartbeats 8000000
set_option maxRecDepth 100000
namespace Go.Proofs.YtoglcccmgnjchaaGreat
open Go.Proofs.Tryz PL
section
open Go.RowKit ai
variable{sum b i k:Nat}{l L:List Cell}{w:World}{D:bf}{c:Cell}
theorem ab2{l:Nat}(h:l<=4):1<=iP l (kV sum l)/\iP l (kV sum l)<32:=fM (s:=sum) h
theorem ι{l:Nat}(h:l<=5):kV sum l<=1048576:=by have h1:kV sum l<2^l:=Nat.mod_lt _<|Nat.two_pow_pos l;have a:2^l<=2^5:=Nat.pow_le_pow_right ax h;have a:2^l<=32:=a;omega
theorem alO{sum:Nat}{W:List Nat}(bQ:∀i,i<32->aG w b (2+i) (.int .u64 (wd W i:Nat)))(E:wd W 0<=8)(aB:sum<18446744073709551616):
 aR 32 #[.pointer<|some ⟨b,2,none⟩,.int .u64 (sum:Nat)] w (ga (tQ W sum:Nat) w):=by have bJ:=bQ 0 ax;obtain⟨d,aI⟩:∃d,wd W 0=d:=⟨_,rfl⟩;obtain⟨l,m⟩:∃l,d/2=l:=⟨_,rfl⟩;have p:d<=8:=ae;have A:l<=4:=ae;have aO:(d:Int)/2=(l:Int):=ae;have q:=ab2 (sum:=sum) A;have c1:=bQ _ q.2;(have a:tQ W sum=if d%2=0\/wd W (iP l<|kV sum l)<4611686018427387904 then iP l (kV sum l)else if wd W (iP (l+1)<|kV sum<|l+1)≠0 then iP (l+1) (kV sum<|l+1)else iP l (kV sum l):=by unfold tQ;dsimp only;rw[aI,m];rfl);rw[aI]at bJ;rw[Nat.add_zero]at bJ;have g:=ad fun W=>y9 (l:Int) ((kV sum l:Nat):Int) l (kV sum l) rfl rfl W ae<|ι ae;have j:=ad fun W=>J' (l:Int) sum l rfl W ae aB;have F:=ad a;obtain⟨t,fE⟩:∃n,iP l (kV sum l)=n:=⟨_,rfl⟩;rw[fE]at c1 q g a;obtain⟨v,av⟩:∃n,wd W t=n:=⟨_,rfl⟩;rw[av]at c1 a;have B:(t:Int)<32:=ae;clear aI fE av E F;by_cases cI:d%2=0;{rw[a,aN<|.inl cI];have aU:(d:Int)%2=0:=ae;clear a cI m bQ p;go_enter func32,ntmps32;go_wp2_with(first|(go_at_call 62;refine(g.out _).mono ?_;rintro e w1 ⟨rfl,rfl⟩)|(go_at_call 63;refine(j.out _).mono ?_;rintro e w1 ⟨rfl,rfl⟩));go_ret;exact⟨rfl,rfl⟩};have aU:(d:Int)%2=1:=ae;by_cases cr:v<4611686018427387904;{rw[a,aN<|.inr cr];have eI:(v:Int)<4611686018427387904:=ae;clear a cI m bQ p;go_enter func32,ntmps32;go_wp2_with(first|(go_at_call 62;refine(g.out _).mono ?_;rintro e w1 ⟨rfl,rfl⟩)|(go_at_call 63;refine(j.out _).mono ?_;rintro e w1 ⟨rfl,rfl⟩));go_ret;exact⟨rfl,rfl⟩};have eI:decide ((v:Int)<4611686018427387904)=false:=hg ae;have s:l+1<=4:=ae;have r:=ab2 (sum:=sum) s;have cw:=bQ _ r.2;rw[aC fun h=>h.elim cI cr]at a;obtain⟨f,z⟩:∃f,l+1=f:=⟨_,rfl⟩;have G:(l:Int)+1=(f:Int):=ae;rw[z]at a r cw s;have x:=ad fun W=>y9 (f:Int) ((kV sum f:Nat):Int) f (kV sum f) rfl rfl W ae<|ι ae;have M2:=ad fun W=>J' (f:Int) sum f rfl W ae aB;generalize iP f (kV sum f)=y at*;have C:(y:Int)<32:=ae;obtain⟨u,hu⟩:∃n,wd W y=n:=⟨_,rfl⟩;rw[hu]at cw a;clear hu bQ m cr cI p q r s z;by_cases o:u=0;{rw[a,aC ae];subst o;clear a;go_enter func32,ntmps32;go_wp2_with(first|(go_at_call 62;(first|(refine(g.out _).mono ?_)|(refine(x.out _).mono ?_));rintro e w1 ⟨rfl,rfl⟩)|(go_at_call 63;(first|with_reducible refine(j.out _).mono ?_|with_reducible refine(M2.out _).mono ?_);rintro e w1 ⟨rfl,rfl⟩));go_ret;exact⟨rfl,rfl⟩};rw[a,aN o];(have H:((u:Int)==0)=false:=by simpa using o);clear a o;go_enter func32,ntmps32;(go_upto_region 6 with(first|(go_at_call 62;(first|refine(g.out _).mono ?_|with_reducible refine(x.out _).mono ?_);rintro e w1 ⟨rfl,rfl⟩)|(go_at_call 63;(first|(with_reducible refine(j.out _).mono ?_)|(with_reducible refine(M2.out _).mono ?_));rintro e w1 ⟨rfl,rfl⟩)));clear aO aU eI G A bJ c1 B;go_wp2;go_ret;exact⟨rfl,rfl⟩
def vv(D:bf)(i:Nat)(L l:List Cell):List Cell:=L.foldl (fun l c=>if tQ D.aZ (e4<|bH c)=i then iO l c else l) l
def y6(D:bf)(i:Nat):List Cell:=(List.range i).foldl (fun l w=>vv D w (D.a_.getD w []) l) []
theorem aeA(D:bf)(i:Nat):y6 D (i+1)=vv D i (D.a_.getD i []) (y6 D i):=by unfold y6;rw[List.range_succ,List.foldl_append];rfl
theorem aeC(hk:k<L.length)(h:tQ D.aZ (e4<|bH L[k])=i):vv D i (L.take<|k+1) l=iO (vv D i (L.take k) l) L[k]:=by unfold vv;rw[Bk hk,List.foldl_append,List.foldl_cons,List.foldl_nil,aN h]
theorem aeB(hk:k<L.length)(h:¬tQ D.aZ (e4<|bH L[k])=i):vv D i (L.take<|k+1) l=vv D i (L.take k) l:=by unfold vv;rw[Bk hk,List.foldl_append,List.foldl_cons,List.foldl_nil,aC h]
theorem alI(hi:i<32)(hc:c∈D.a_.getD i [])(h:tQ D.aZ (e4<|bH c)=i):c∈yD D:=
 List.mem_flatMap.2 ⟨i,List.mem_range.2 hi,List.mem_filter.2 ⟨hc,hh h⟩⟩
structure Bp(D:bf)(l:List Cell)(v:Value)(wr:World):Prop where
 at_:cC wr v l
 sub:∀c∈l,c∈yD D
theorem Bp.put{v v':Value}{w':World}(h:Bp D l v w)(a:cC w' v' (iO l c))(hc:c∈yD D):Bp D (iO l c) v' w':=by refine⟨a,fun d aI=>?_⟩;rw[NL h.at_.wf.order]at aI;split at aI;{rw[aI];exact hc};exact h.sub d aI
theorem afz{B ag:Nat}{af:List aA}(h:mb w B b af ag D)(z:wd D.aZ 0<=8)(gb:∀L:List Cell,L.Pairwise nf->(∀c∈L,c∈yD D)->L.length<1048576):
 aR 12 #[.pointer<|some b] w fun e w'=>∃v,e=.returned v/\cC w' v (cellsD D)/\Below w w w':=by obtain⟨br,f,al,U⟩:=h;have a1:Hid (∀W,Below w w W->∀i,i<32->aG W b (2+i) (.int .u64 (wd D.aZ i:Nat))):=fun W n! i hi=>cB n!<|al.cell ae<|U.head.aZ i hi;have vg:Hid (∀i,i<32->aG w b (34+i) (f<|34+i)/\cC w (f<|34+i) (D.a_.getD i [])):=fun i hi=>⟨al.cell ae rfl,U.head.a_ i hi⟩;have sE:=ad fun W sum (n!:Below w w W) (aB:sum<18446744073709551616)=>alO (a1.out W n!) z aB;have cc:=al.lt;have DJ:=ad gb;clear z gb U al;go_enter func12,ntmps12;go_wp2;go_loopw [3,10] (fun v i wr=>∃q:Nat,i=.int .i64 q/\q<=32/\Bp D (y6 D q) v wr/\Below w w wr) (fun _ i _=>32-(intOf i).toNat);(case atStart=>exact⟨0,rfl,fw _,⟨cC.nil _,fun c hc=>(by cases hc)⟩,b5 _ _⟩);case round=>obtain⟨q,rfl,a',lP,cN⟩:=hrel;have KT:=ad lP;have V:=ad cN;clear lP cN;by_cases cg:q<32;{have GQ:(q:Int)<32:=ae;obtain⟨gx,p⟩:=vg.out q cg;obtain⟨xs,a,lu,kT,av,aK,aY,cP,z,hl⟩:=p.parts;rw[av]at gx p;have R:=cB V.out gx;have i?:=ad cP;have jm:=ad z;have sC:=ad hl;have Pp:=ad kT;(have iX:xs.length<=1048576:=by have:=hl.e8;rwa[<-kT,hE]at this);clear cP z hl kT gx p av aK aY;go_wp2;go_loopw [3,20] (fun v i wr=>∃k:Nat,i=.int .i64 k/\k<=xs.length/\Bp D (vv D q ((xs.map bV.c).take k)<|y6 D q) v wr/\Below w w wr) (fun _ i _=>xs.length-(intOf i).toNat);(case atStart=>exact⟨0,rfl,fw _,KT.out,V.out⟩);case round=>obtain⟨k,rfl,hk,XJ,XY⟩:=hrel;have s:=ad XJ;have C:=ad XY;clear XJ XY R;by_cases H:k<xs.length;{obtain⟨df,off,rfl,p⟩:=i?.out ae;obtain⟨bL,cE,dZ,dP⟩:=uu (fun j u hu=>cB C.out<|p j u hu) k H;have dp:=ad<|jm.out xs[k]<|fZ H;(have uy:k<(xs.map bV.c).length:=by simpa using H);(have t?:Hid ((xs.map bV.c)[k]=xs[k].c):=by show _=_;simp);(have FE:Hid (xs[k].c∈D.a_.getD q []):=by show _∈_;rw[<-Pp.out];exact List.mem_map_of_mem<|fZ H);have F:=ad<|sC.out.ok xs[k].c FE.out;have hn:=DJ.out _ s.out.at_.wf.order s.out.sub;have lH:=ad hn;clear p hn;generalize xs[k]=x at*;obtain⟨⟨g,d,A,r⟩,N!,N?⟩:=x;obtain⟨⟨_,_,dT,dC,aO,_⟩,_,iZ,j4,aU,_⟩:=id dp.out;dsimp only at aO aU bL cE dZ dP;subst aO aU;obtain⟨I,J⟩:∃n,tQ D.aZ (e4<|cK g d)=n:=⟨_,rfl⟩;have O:bH ⟨g,d,A,r⟩=cK g d:=rfl;have A4:e4 (cK g d)<18446744073709551616:=HB _ ax;have T:=C.out.size;have rb:=ad J;have AH:=C.out.alloc T<|.cells #[g,.slice dT d.length dC,A,.slice iZ r.length j4] 56;go_wp2;refine wp_name (fun y=>Below w w y/\Below wr wr y/\aq y wr 56 #[g,.slice dT d.length dC,A,.slice iZ r.length j4]) ⟨AH,ck [_] wr,aq.new wr _ _⟩ ?_;rintro y ⟨hy,G7,G⟩;have eb:=G.cell 0;have Z:=G.cell 1;have Y:=ad hy;have y1:=ad G7;have Vq:=ad G;have N:=hy.size;have y2:=ad fun W (bQ:Below y y W)=>Ko _ _ _ W ((dp.out.below<|Y.out.trans<|bQ.mono N).1.by) F.out.len F.out.py F.out.og;have ka:=ad fun W v (av:fj W v (cK g d))=>Tx v _ W av;(have Ln:Hid (∀W,Below y y W->aR 32 #[.pointer<|some ⟨b,2,none⟩,.int .u64 (e4 (cK g d):Nat)] W (ga I W)):=fun W bQ=>by rw[<-J];exact sE.out W _ (Y.out.trans<|bQ.mono N) A4);have t:=cm eb<|jP Z;clear hy G7 G AH bL cE dZ dP eb Z J A4;generalize ie:e4 (cK g d)=tU at*;have K:=ad ie;clear ie;go_region_held3 (fun w=>type_of%(t.out w _)) (first|exact t.out _ bn|exact t.out _ (m.trans bn)|fail) (first|(go_at_call 34;refine(y2.out _ ?_).mono ?_;exact bn;rintro e dy ⟨v3,rfl,kB,X⟩;obtain⟨yu,yv,rfl⟩:∃a bx,v3=.slice a (d.length+1) bx:=(by obtain⟨_,_,a,bx,e,_⟩:=kB;exact⟨a,bx,by rw[e];rfl⟩);have m:=ez (kM (u:=y) X) X;have nK:=t.out _ m;have HU:=ad kB;clear kB X)|(go_at_call 33;refine(ka.out _ _ HU.out.by).mono ?_;rintro e gq ⟨rfl,rfl⟩)|(go_at_call 32;refine(Ln.out _ ?_).mono ?_;exact bn;rintro e cp ⟨rfl,rfl⟩));have nd:=Vq.out.below m Vq.out.lt;obtain⟨eb,Z,dz,gi⟩:=eO nd;have E:=ad<|Y.out.trans<|m.mono N;have ZH:=(y1.out.trans<|m.mono y1.out.size);have M:=ad<|Bp.mk (s.out.at_.keep<|bm ZH) s.out.sub;have S:=E.out.size;clear nd ZH m nK y2 ka Ln t;by_cases o:I=q;{(have hoi:((I:Int)==(q:Int))=true:=by simp[o]);have GM:=alI cg FE.out (by rw[O,K.out,rb.out];exact o);have Q:=ad GM;have lL:=ad<|aaR u3 _ ⟨g,d,A,r⟩ (.slice dT d.length dC) (.slice iZ r.length j4) dy M.out.at_ (dp.out.below E.out) F.out lH.out;(have kZ:Hid (vv D q ((xs.map bV.c).take<|k+1) (y6 D q)=iO (vv D q ((xs.map bV.c).take k)<|y6 D q) ⟨g,d,A,r⟩):=by show _=_;rw[aeC uy<|by rw[t?.out,O,K.out,rb.out];exact o,t?.out]);clear GM o;unfold cY at lL;go_wp2_with(go_at_call 35;refine lL.out.mono ?_;rintro e xC ⟨v6,rfl,Jb,l7⟩;have P:=ad<|M.out.put Jb Q.out;have HT:=ad<|E.out.trans<|l7.mono S;clear Jb l7);go_roundw;(case rel=>exact⟨k+1,by go_num,ae,by rw[kZ.out];exact P.out,HT.out⟩);case measure=>simp[intOf];omega};(have hoi:((I:Int)==(q:Int))=false:=by rw[qH];omega);(have kZ:Hid (vv D q ((xs.map bV.c).take<|k+1) (y6 D q)=vv D q ((xs.map bV.c).take k) (y6 D q)):=by show _=_;exact aeB uy<|by rw[t?.out,O,K.out,rb.out];exact o);clear o;go_wp2;go_roundw;(case rel=>exact⟨k+1,by go_num,ae,by rw[kZ.out];exact M.out,E.out⟩);case measure=>simp[intOf];omega};obtain rfl:k=xs.length:=ae;(have dD:Hid (Bp D (y6 D<|q+1) u3 wr):=by show Bp _ _ _ _;rw[aeA,<-Pp.out];have:=s.out;rwa[qG bI]at this);go_wp2;go_roundw;(case rel=>exact⟨q+1,by go_num,ae,dD.out,C.out⟩);case measure=>simp[intOf];omega};obtain rfl:q=32:=ae;have dD:=ad KT.out.at_;go_wp2;exact mD ⟨_,rfl,dD.out,V.out⟩
end
section
open Go.RowKit ai
variable {Z : Nat} {w w':World}
variable{t:TypeId}{n at_ B:Nat}{v:Value}{xs:List Value}{E:Env}{there:Bool}{c:Cell}{A:c6}{m:Mem}
theorem Row.bE{size:Nat}(aE:Row w t size n v xs)(k:jn Z w w')(h1:t≠64)(d:t≠66):Row w' t size n v xs:=by obtain⟨g1,a,c,g2,g3,g4,g5⟩:=aE;refine⟨g1,a,c,g2,g3,g4,fun hn=>?_⟩;obtain⟨b,off,arr,g6,g7,g8⟩:=g5 hn;exact⟨b,off,arr,g6,k.hU g7 h1 d,g8⟩
theorem alM(k:jn Z w w'){base:Nat}{e:TypeId}{size:Nat}(aE:w.ownsRow base e size v n xs)(g1:e≠64)(g2:e≠66):w'.ownsRow base e size v n xs:=by obtain⟨h1,a⟩:=aE;refine⟨h1,a.imp id ?_⟩;rintro⟨g,cap,cur,rfl,b,f,d,h,i,j⟩;exact⟨g,cap,cur,rfl,b,k.hU f g1 g2,d,h,i,j⟩
theorem aq.bE{b:Nat}{a:Array Value}(h:aq w b t a)(k:jn Z w w')(h1:t≠64/\t≠66):aq w' b t a:=k.hU h h1.1 h1.2
theorem cb.bE{L:List Nat}(h:cb w v L)(k:jn Z w w'):cb w' v L:=⟨h.1,h.2.bE k ax ax⟩
theorem b'.bE{L:List Int}(h:b' w v L)(k:jn Z w w'):b' w' v L:=Row.bE h k ax ax
theorem cC.bE{L:List Cell}(h:cC w v L)(k:jn Z w w'):cC w' v L:=by obtain⟨xs,h1,d,a,b⟩:=h;exact⟨xs,h1,d.bE k ax ax,fun x au=>⟨(a x au).1.bE k,(a x au).2.bE k⟩,b⟩
theorem xG.bE(aE:jn Z w w'){j s:Nat}:xG w E v j s->xG w' E v j s
 |⟨a,b,d,cx,g0,g1,g2⟩=>⟨a,b,d,cx,g0.bE aE ax,g1.bE aE ax,g2.bE aE ax⟩
theorem pO.bE(aE:jn Z w w'):∀{t:Then},pO w E v t->pO w' E v t
 |.aj,⟨a,b,cx,g0,g1⟩=>⟨a,b,cx,g0.bE aE ax,g1.bE aE ax⟩
 |.d? j b_ cd,⟨a,v0,b,d,cx,g0,e,g1,g2⟩=>⟨a,v0,b,d,cx,g0.bE aE ax,e.bE aE,g1.bE aE ax,g2.bE aE ax⟩
theorem sx.bE(aE:jn Z w w'):∀{t:nY},sx w E v t->sx w' E v t
 |.find aw sum t,⟨a,b,e,f,d,v4,g,cx,g0,g1,g2,g3,g4,h,g5⟩=>⟨a,b,e,f,d,v4,g,cx,g0.bE aE ax,g1.bE aE ax,g2.bE aE ax,g3.bE aE ax,g4.bE aE ax,h.bE aE,g5.bE aE ax⟩
 |.move aw i,⟨a,b,e,f,d,g,cx,g0,g1,g2,g3,g4,g5⟩=>⟨a,b,e,f,d,g,cx,g0.bE aE ax,g1.bE aE ax,g2.bE aE ax,g3.bE aE ax,g4.bE aE ax,g5.bE aE ax⟩
theorem qL.bE(aE:jn Z w w'):∀{t:nt},qL w E v t->qL w' E v t
 |.find sum t,⟨a,b,e,f,v3,d,cx,g0,g1,g2,g3,h,g4⟩=>⟨a,b,e,f,v3,d,cx,g0.bE aE ax,g1.bE aE ax,g2.bE aE ax,g3.bE aE ax,h.bE aE,g4.bE aE ax⟩
 |.one aw i a_,⟨a,b,e,f,d,v4,g,j,cx,g0,g1,g2,g3,g4,k,g5,g6⟩=>⟨a,b,e,f,d,v4,g,j,cx,g0.bE aE ax,g1.bE aE ax,g2.bE aE ax,g3.bE aE ax,g4.bE aE ax,k.bE aE,g5.bE aE ax,g6.bE aE ax⟩
 |.two aw i,⟨a,b,e,f,d,g,cx,g0,g1,g2,g3,g4,g5⟩=>⟨a,b,e,f,d,g,cx,g0.bE aE ax,g1.bE aE ax,g2.bE aE ax,g3.bE aE ax,g4.bE aE ax,g5.bE aE ax⟩
theorem z!.bE(aE:jn Z w w'){f:ai.hT}{r:c2}:z! w E v f at_ there c r->z! w' E v f at_ there c r
 |⟨b,d,v1,g,h,e,v4,a,i,cx,g0,g1,k1,g2,g3,g4,j,k,g5,ex⟩=>⟨b,d,v1,g,h,e,v4,a,i,cx,g0.bE aE ax,g1.bE aE ax,k1.bE aE,g2.bE aE ax,g3.bE aE ax,g4.bE aE ax,j.bE aE,k.bE aE,g5.bE aE ax,ex⟩
theorem Ad.bE(aE:jn Z w w'){f:ai.hT}:Ad w E v f at_ there c->Ad w' E v f at_ there c
 |⟨a,b,v1,h1,e,g,v3,d,h,cx,g0,g1,k1,j,g2,g3,i,g4,g5,ex⟩=>⟨a,b,v1,h1,e,g,v3,d,h,cx,g0.bE aE ax,g1.bE aE ax,k1.bE aE,j.bE aE,g2.bE aE ax,g3.bE aE ax,i.bE aE,g4.bE aE ax,g5.bE aE ax,ex⟩
theorem wx.bE(aE:jn Z w w'):∀{t:wv},wx w E v t->wx w' E v t
 |.done r,⟨a,cx,g0⟩=>⟨a,cx,g0.bE aE ax⟩
 |.d? j b_ cd,⟨a0,n,e,a,v0,b,d,cx,g0,f,g1,g2⟩=>⟨a0,n,e,a,v0,b,d,cx,g0.bE aE ax,f.bE aE,g1.bE aE ax,g2.bE aE ax⟩
theorem sH.bE(aE:jn Z w w'):∀{t:lN},sH w E v t->sH w' E v t
 |.back t,⟨a,v0,cx,g0,d⟩=>⟨a,v0,cx,g0.bE aE ax,d.bE aE⟩
 |.ag f at_ there c r,⟨a,b,v1,cx,g0,g1,k1⟩=>⟨a,b,v1,cx,g0.bE aE ax,g1.bE aE ax,k1.bE aE⟩
 |.a6 f at_ there c,⟨a,b,v1,cx,g0,g1,k1⟩=>⟨a,b,v1,cx,g0.bE aE ax,g1.bE aE ax,k1.bE aE⟩
theorem uk.bE(aE:jn Z w w'):∀{t:lN},uk w E v t->uk w' E v t
 |.back _,h=>h
 |.ag ..,h=>h
 |.a6 ..,⟨a,cx,g0⟩=>⟨a,cx,g0.bE aE ax⟩
theorem h!.bE(aE:jn Z w w'):∀{t:c'},h! w E v t->h! w' E v t
 |.find sum t,⟨a,b,e,g,v3,cx,g0,g1,g2,g3,l⟩=>⟨a,b,e,g,v3,cx,g0.bE aE ax,g1.bE aE ax,g2.bE aE ax,g3.bE aE ax,l.bE aE⟩
 |.enter sum ah t,⟨a,b,e,g,i,v4,cx,g0,g1,g2,g3,g4,o⟩=>⟨a,b,e,g,i,v4,cx,g0.bE aE ax,g1.bE aE ax,g2.bE aE ax,g3.bE aE ax,g4.bE aE ax,o.bE aE⟩
 |.lk ah t,⟨a,b,e,g,v3,cx,g0,g1,g2,g3,l⟩=>⟨a,b,e,g,v3,cx,g0.bE aE ax,g1.bE aE ax,g2.bE aE ax,g3.bE aE ax,l.bE aE⟩
 |.mZ ah u a_ t,⟨a,b,e,g,i,v4,k,v5,p,cx,g0,g1,g2,g3,g4,o,g5,q,g6⟩=>⟨a,b,e,g,i,v4,k,v5,p,cx,g0.bE aE ax,g1.bE aE ax,g2.bE aE ax,g3.bE aE ax,g4.bE aE ax,o.bE aE,g5.bE aE ax,q.bE aE,g6.bE aE ax⟩
 |.half aw shard a_ t,⟨a,b,e,g,v3,i,v4,k,cx,g0,g1,g2,g3,l,g4,o,g5⟩=>⟨a,b,e,g,v3,i,v4,k,cx,g0.bE aE ax,g1.bE aE ax,g2.bE aE ax,g3.bE aE ax,l.bE aE,g4.bE aE ax,o.bE aE,g5.bE aE ax⟩
 |.m? aw shard a_ h t,⟨a,b,e,g,v3,i,k,v5,p,v6,cx,g0,g1,g2,g3,l,g4,g5,q,g6,x⟩=>⟨a,b,e,g,v3,i,k,v5,p,v6,cx,g0.bE aE ax,g1.bE aE ax,g2.bE aE ax,g3.bE aE ax,l.bE aE,g4.bE aE ax,g5.bE aE ax,q.bE aE,g6.bE aE ax,x.bE aE⟩
 |.split,⟨a,b,e,cx,g0,g1,g2⟩=>⟨a,b,e,cx,g0.bE aE ax,g1.bE aE ax,g2.bE aE ax⟩
 |.om d aw,⟨a,b,e,g,i,k,cx,g0,g1,g2,g3,g4,g5⟩=>⟨a,b,e,g,i,k,cx,g0.bE aE ax,g1.bE aE ax,g2.bE aE ax,g3.bE aE ax,g4.bE aE ax,g5.bE aE ax⟩
 |.pr aw,⟨a,b,e,g,cx,g0,g1,g2,g3⟩=>⟨a,b,e,g,cx,g0.bE aE ax,g1.bE aE ax,g2.bE aE ax,g3.bE aE ax⟩
 |.h0 ah de stop t,⟨a,b,e,g,v3,i,k,v5,cx,g0,g1,g2,g3,l,g4,g5,q⟩=>⟨a,b,e,g,v3,i,k,v5,cx,g0.bE aE ax,g1.bE aE ax,g2.bE aE ax,g3.bE aE ax,l.bE aE,g4.bE aE ax,g5.bE aE ax,q.bE aE⟩
 |.i' ah de stop u t,⟨a,b,e,g,i,k,v5,p,v6,cx,g0,g1,g2,g3,g4,g5,q,g6,x⟩=>⟨a,b,e,g,i,k,v5,p,v6,cx,g0.bE aE ax,g1.bE aE ax,g2.bE aE ax,g3.bE aE ax,g4.bE aE ax,g5.bE aE ax,q.bE aE,g6.bE aE ax,x.bE aE⟩
 |.put f at_ there c r,⟨a,b,v1,e,g,i,v4,y,k,cx,g0,g1,k1,g2,g3,g4,o,C,g5,ex⟩=>⟨a,b,v1,e,g,i,v4,y,k,cx,g0.bE aE ax,g1.bE aE ax,k1.bE aE,g2.bE aE ax,g3.bE aE ax,g4.bE aE ax,o.bE aE,C.bE aE,g5.bE aE ax,ex⟩
 |.allow f at_ there c,⟨a,b,v1,h1,e,g,v3,i,k,cx,g0,g1,k1,s,g2,g3,l,g4,g5,ex⟩=>⟨a,b,v1,h1,e,g,v3,i,k,cx,g0.bE aE ax,g1.bE aE ax,k1.bE aE,s.bE aE,g2.bE aE ax,g3.bE aE ax,l.bE aE,g4.bE aE ax,g5.bE aE ax,ex⟩
 |.k? c,⟨a,b,v1,h1,e,cx,g0,g1,k1,s,g2,ex⟩=>⟨a,b,v1,h1,e,cx,g0.bE aE ax,g1.bE aE ax,k1.bE aE,s.bE aE,g2.bE aE ax,ex⟩
 |.n5,⟨a,cx,g0⟩=>⟨a,cx,g0.bE aE ax⟩
 |.mY j b_ cd ah u cs,⟨a,b,v1,e,v2,g,i,k,cx,g0,g1,k1,g2,z,g3,g4,g5⟩=>⟨a,b,v1,e,v2,g,i,k,cx,g0.bE aE ax,g1.bE aE ax,k1.bE aE,g2.bE aE ax,z.bE aE,g3.bE aE ax,g4.bE aE ax,g5.bE aE ax⟩
 |.ke j b_ cd ah u rest n,⟨a,b,e,g,v3,i,v4,k,p,cx,g0,g1,g2,g3,l,g4,o,g5,g6⟩=>⟨a,b,e,g,v3,i,v4,k,p,cx,g0.bE aE ax,g1.bE aE ax,g2.bE aE ax,g3.bE aE ax,l.bE aE,g4.bE aE ax,o.bE aE,g5.bE aE ax,g6.bE aE ax⟩
theorem dO.bE{x:Live}(h:dO w E x)(aE:jn Z w w'):dO w' E x:=by obtain⟨key,h1,a⟩:=h;exact⟨key,h1.bE aE ax,a.bE aE⟩
theorem qj.bE{ak:Nat}(aE:jn Z w w'):∀{o:Option (Live×c')},qj w B A ak v o->qj w' B A ak v o
 |none,h=>h
 |some (x,k),⟨hD,pol,h1,b,d,a⟩=>⟨hD,pol,h!.bE aE h1,b.bE aE,d,a⟩
theorem cX.bE(h:cX w B A m)(k:jn Z w w'):cX w' B A m:=by obtain⟨last,hm,n,xs,a8,hn,h1⟩:=h.hb;obtain⟨aB,e,f,a⟩:=h.a_;obtain⟨arr,az,c1,cw,dg,eV,gu,mE⟩:=h.core;refine⟨h.eT.bE k ax,h.kd.bE k ax,⟨last,hm.bE k ax,n,xs,alM k a8 ax ax,hn,h1⟩,h.aZ.bE k ax,h.xp,h.xD,⟨aB,e,f.bE k ax,fun i hi=>?_⟩,h.yC,⟨h.below.1,h.below.2.1,h.below.2.2.1,eB h.below.2.2.2 k.bn.size⟩,h.ca,h.count,⟨arr,az,c1.bE k ax,cw,dg,eV,gu,Row.bE mE k ax ax⟩⟩;obtain⟨v,b,d⟩:=a i hi;exact⟨v,b,d.bE k⟩
theorem iJ.bE{bz:Nat->Option (Live×c')}(h:iJ w B A m bz)(aE:jn Z w w'):iJ w' B A m bz:=by obtain⟨h1,⟨arr,d,e,a⟩,b⟩:=h;refine⟨h1.bE aE,⟨arr,d.bE aE ax,e,fun ak hw=>?_⟩,b⟩;obtain⟨v,g1,g2⟩:=a ak hw;exact⟨v,g1,qj.bE aE g2⟩
end
section
open Go.RowKit ai
variable{ag q ak:Nat}{G:GS}{D:bf}
theorem Bi:D8 bP:=by refine⟨ax,fun p hp=>?_⟩;(have e:p=⟨1,10,20,0⟩\/p=⟨2,0,0,2⟩:=by unfold bP at hp;simpa using hp);rcases e with rfl|rfl;{exact⟨.inl ⟨rfl,ax,ax,ax,ax⟩,ax,ax⟩};exact⟨.inr ⟨rfl,ax,ax⟩,ax,ax⟩
structure rQ(ag q:Nat)(G:GS)(D:bf):Prop where
 ab:pD ag q G D
 xs:∀ak,jo bP<|D.c7 ak
theorem ace:jo bP rl:=⟨fun _ h=>absurd rfl h,fun _ h=>(by cases h),⟨Int.le_refl _,by show(0:Int)<=_;omega⟩⟩
theorem aez(ag:Nat):rQ ag 1 L! ze:=⟨aex ag,fun _=>ace⟩
theorem rQ.mono{a:Nat}(h:rQ ag q G D)(a':q<=a):rQ ag a G D:=⟨h.ab.mono a',h.xs⟩
theorem rQ.ok(h:rQ ag q G D)(T:gD bP ag)(hw:ak<5):VB bP ag D ak:=by intro a;have aE:=h.ab.rel;cases e:G.s.bz ak with|none=>rw[aE.idle ak ae e]at a;exact absurd rfl a|some v=>obtain⟨x,k⟩:=v;obtain⟨h1,b⟩:=h.ab.ok.live ak x k ae e;have hm:jV (qm D ak) G.s.m:=⟨aE.kD.dm,aE.kD.e2,aE.kD.aZ,aE.kD.a_,aE.kD.count,aE.kD.a6,aE.kD.now⟩;exact⟨aoc T hm (aE.busy ak x k ae e).1 h.ab.ok.inv h1 b<|by rw[h1.sum];exact HB _ ax,h.xs ak,hm.wf T h.ab.ok.inv⟩
theorem rQ.step{ag:Nat}(T:gD bP ag)(h:rQ ag q G D)(a':q<4611686018427387900)(hw:ak<5):rQ ag (q+1) (sQ bM bP ag G ak) (r4 bM bP ag D ak):=by refine⟨h.ab.step T a' hw,fun j=>?_⟩;by_cases a:(D.c7 ak).aj.op=0;{unfold r4;rw[aN a];exact h.xs j};obtain⟨h1,b,c⟩:=h.ok T hw a;have au:=b.step T c h1;have hk:=jT.step (B:=bM) (af:=bP) (ag:=ag) (D.c7 ak)<|qm D ak;rw[WE a];unfold E7;cases(eQ bM bP ag (D.c7 ak)<|qm D ak).fin with|none=>show jo bP (cQ _ ak _ j);rw[hk.c7];by_cases e:j=ak;{subst e;rw[ht];exact au};rw[cD _ _ e];exact h.xs j|some r=>show jo bP (cQ _ ak _ j);rw[hk.c7];by_cases e:j=ak;{subst e;rw[ht];exact ace};rw[cD _ _ e];exact h.xs j
theorem rQ.Kf(T:gD bP ag)(h:rQ ag q G D)(a':q<4611686018427387900){p:o6}(hp:D6 bP p)(hw:p.ak.toNat<5):rQ ag (q+1) (r9 ag G p) (r5 ag D p):=by refine⟨h.ab.Kf T a' hp hw,?_⟩;unfold r5;split;{exact(h.step T a' hw).xs};split;{intro j;unfold vC;split;{show jo bP (cQ _ _ _ j);by_cases e:j=p.ak.toNat;{rw[e,ht];exact jo.first};rw[cD _ _ e];exact h.xs j};exact h.xs j};exact h.xs
end
section
open Go.RowKit ai
variable {Z : Nat} {X:List Nat} {w w':World}
variable{B b:Nat}{v:Value}{f:Nat->Value}
theorem Fr.bn(k:Fr B X w w'):Below B w w':=⟨k.os,k.tape,k.output,k.size,k.block⟩
theorem alL(h:Fr Z X w w'){base:Nat}{e:TypeId}{size n:Nat}{xs:List Value}(aE:w.ownsRow base e size v n xs)(a:∀k,nQ e k=true):w'.ownsRow base e size v n xs:=by obtain⟨h1,c⟩:=aE;refine⟨h1,c.imp id ?_⟩;rintro⟨g,cap,cur,rfl,d,j,i,l,m,o⟩;exact⟨g,cap,cur,rfl,d,h.quiet _ _ _ _ j<|.inl<|a _,i,l,m,o⟩
theorem alk(n:Nat):nQ 66 n=true:=by simp[nQ]
theorem j9.bh(h:j9 w b f)(k:Fr Z X w w'):j9 w' b f:=by obtain⟨arr,h1,a,c⟩:=h;exact⟨arr,h1.keep k<|by rw[a];decide,a,c⟩
theorem BR.bh{L:List Rec}(h:BR w B v L)(k:Fr Z X w w'):BR w' B v L:=by obtain⟨ys,h1,a,c⟩:=h;exact⟨ys,alL k h1 alk,a,fun y hy=>(c y hy).keep k⟩
theorem mU.bh{o:Nat}{x:bC}{kv aM av az:Value}(h:mU w f o x kv aM av az)(k:Fr Z X w w'):mU w' f o x kv aM av az:=⟨h.u!,h.key.keep k,h.er.keep k,h.held.keep k,h.af.keep k⟩
theorem mb.vI{ag:Nat}{af:List aA}{D:bf}(h:mb w B b af ag D)(k:jk Z w w'):mb w' B b af ag D:=by obtain⟨br,f,al,a,hc⟩:=h;obtain⟨X,k⟩:=k;refine⟨br,f,al.bh k,⟨a.af.keep k,a.ag,a.aZ,a.dm,fun i hi=>(a.a_ i hi).keep k,a.e2,a.count,a.a6,a.now,a.bS,a.log.bh k,a.cF⟩,fun ak hw=>?_⟩;obtain⟨kv,aM,av,az,h1⟩:=hc ak hw;exact⟨kv,aM,av,az,h1.bh k⟩
end
open Go.RowKit ai
variable{w w':World}{A:c6}{t:TypeId}{v dt:Value}{ys:List bT}{c:Array Value}{n k r i df:Nat}{e:Rec}{pol spare:Int}{af:List aA}{E:List Rec}{un:Nat->Bool}{S:Cell}{key':List Nat}{sI:Bool}
structure KL(w:World)(B:Nat)(A:c6)(gA b ag:Nat)(G:GS)(D:bf):Prop where
 sys:iJ w B A G.s.m G.s.bz
 doc:mb w gA b bP ag D
 af:A.af=bP
 ag:A.ag=ag
 le:B<=gA
theorem iJ.B{B:Nat}{m:Mem}{bz:Nat->Option (Live×c')}(h:iJ w B A m bz):B<=w:=h.1.below.2.2.2
theorem afc{B gA b ag q:Nat}{G:GS}{D:bf}{p:o6}{kv:Value}(h:KL w B A gA b ag G D)(au:rQ ag q G D)(T:gD bP ag)(a':q<=1048576)(hp:D6 bP p)(hw:p.ak.toNat<5)(hk:∀W,Below B w W->fj W kv p.c.key):
   aR 8 #[P A.K,.pointer<|some b,.agg<|qy p kv] w fun e w'=>(∃v,e=.returned v)/\KL w' B A gA b ag (r9 ag G p) (r5 ag D p)/\Below B w w':=by
 have aE:=h.af;have o:=h.ag;have u:=h.sys.B;have bD:=ck [.cells (qy p kv) 36] w;(have lL:Hid (aR 21 #[P A.K,.agg<|qy p kv] (w.alloc<|.cells (qy p kv) 36) fun e w'=>(∃v,e=.returned v)/\iJ w' B A (r9 ag G p).s.m (r9 ag G p).s.bz/\jk B (w.alloc<|.cells (qy p kv) 36) w'):=by have:=al' B A G.s q p kv _ (h.sys.keep bD) (by rw[aE,o];exact T) (by rw[aE,o];exact au.ab.ok) ae (by rw[aE];exact hp)<|hk _<|bD.mono u;rw[aE,o,<-ahs]at this;exact this);(obtain⟨bt,bq,oI⟩:∃a bx,kv=.slice a p.c.key.length bx:=by obtain⟨_,a,bx,e,_⟩:=hk w<|b5 _ _;exact⟨a,bx,e⟩);(obtain⟨j,Y,Q⟩:∃j:Nat,p.ak=(j:Int)/\j<5:=by obtain⟨j,e,_⟩:=hp.ak;exact⟨j,e,by rw[e]at hw;exact hw⟩);have mJ:=hp.kind;(have I:D.log.length<=1048576:=by rw[au.ab.rel.log];have:=au.ab.e8;have:=au.ab.bS;omega);(have J:D.bS<4611686018427387903:=by rw[au.ab.rel.bS];have:=au.ab.bS;omega);(have L:0<=D.now/\D.now<=4611686018427387903:=by rw[au.ab.rel.kD.now];have:=au.ab.ok.inv.o';omega);have M:=T.zJ;have l:Hid (aq (w.alloc<|.cells (qy p kv) 36) w 36<|qy p kv):=aq.new w _ _;have U:=ad<|h.doc.vI<|jk.pw u bD;(have x:Hid (∀w1 aQ,iJ w1 B A (r9 ag G p).s.m (r9 ag G p).s.bz->jk B (w.alloc<|.cells (qy p kv) 36) w1->mb aQ gA b bP ag (r5 ag D p)->jn gA w1 aQ->KL aQ B A gA b ag (r9 ag G p) (r5 ag D p)/\Below B w aQ):=fun w1 aQ h1 R ar V=>by obtain⟨X,R⟩:=R;exact⟨⟨h1.bE V,ar,aE,o,h.le⟩,((bD.mono u).trans R.bn).trans<|V.bn.mono h.le⟩);obtain⟨kind,ak,c,N⟩:=p;dsimp only at oI Y mJ;subst oI Y;have Mw:(j:Int)<64:=ae;have cV:=ad hk;have Lh:=ad u;have kB:kind=0\/kind=1\/kind=2:=ae;show Calls _ _ #[P A.K,.pointer<|some b,.agg #[.int .u8 (kind:Nat),j,.int .u8 (c.op:Nat),c.pol,.slice bt c.key.length bq,c.n,N]] w _;unfold qy at lL l;dsimp only at lL l;clear mJ;rcases kB with rfl|rfl|rfl
 . rw[show((0:Nat):Int)=0 from rfl]at lL l⊢;(have e:r5 ag D ⟨0,j,c,N⟩=r4 bM bP ag D j:=by unfold r5;rw[aN rfl];rfl);rw[e]at x;rw[e];have F:Hid (∀W,mb W gA b bP ag D->aR 22 #[.pointer<|some b,j] W (Ac gA b bP ag (r4 bM bP ag D j) W)):=fun W h=>agx h ae I J Bi (au.ok T Q) ae;clear e;clear h au T hp hk hw bD J I L u aE o M;go_enter func8,ntmps8
   go_wp2_with(first
     |(go_at_call 21;refine lL.out.mono ?_;rintro e w1 ⟨⟨v1,rfl⟩,eE,c0⟩;have d:=l.out.Ha c0 rfl;have eb:=d.cell 0;have fJ:=d.cell 1;have Z:=d.cell 2;have gi:=d.cell 3;have sw:=d.cell 4;have kY:=d.cell 5;have vd:=d.cell 6;have z:=ad<|U.out.vI c0;have C:=ad eE;have H:=ad c0;clear eE c0 d)
     |(go_at_call 22;refine(F.out _ z.out).mono ?_;rintro e aQ ⟨⟨v2,rfl⟩,f,g⟩;have y:=ad<|x.out _ _ C.out H.out f g;clear f g))
   exact bodyPost_end (v:=.tuple #[]) (by simp[results,results8,go_sem]) rfl ⟨⟨_,rfl⟩,y.out⟩
 . rw[show((1:Nat):Int)=1 from rfl]at lL l⊢;(have e:r5 ag D ⟨1,j,c,N⟩=vC D j c:=by unfold r5;rw[aC<|show¬(1:Nat)=0 by decide,aN rfl];rfl);rw[e]at x;rw[e];have F:Hid (∀W,mb W gA b bP ag D->fj W (.slice bt c.key.length bq) c.key->aR 23 #[.pointer<|some b,j,.agg #[.int .u8 (c.op:Nat),c.pol,.slice bt c.key.length bq,c.n]] W (Ac gA b bP ag (vC D j c) W)):=fun W h qt=>agu h ae T.e8 T.good (hp.aj rfl) qt;clear e;clear h au T hp hk hw bD J I L u aE o M;go_enter func8,ntmps8
   go_wp2_with(first
     |(go_at_call 21;refine lL.out.mono ?_;rintro e w1 ⟨⟨v1,rfl⟩,eE,c0⟩;have d:=l.out.Ha c0 rfl;have eb:=d.cell 0;have fJ:=d.cell 1;have Z:=d.cell 2;have gi:=d.cell 3;have sw:=d.cell 4;have kY:=d.cell 5;have vd:=d.cell 6;have z:=ad<|U.out.vI c0;have O:=ad<|cV.out _<|((ck [.cells (qy ⟨1,j,c,N⟩<|.slice bt c.key.length bq) 36] w).mono Lh.out).trans<|Exists.elim c0 fun _ k=>k.bn;have C:=ad eE;have H:=ad c0;clear eE c0 d)
     |(go_at_call 23;refine(F.out _ z.out O.out).mono ?_;rintro e aQ ⟨⟨v2,rfl⟩,f,g⟩;have y:=ad<|x.out _ _ C.out H.out f g;clear f g))
   exact bodyPost_end (v:=.tuple #[]) (by simp[results,results8,go_sem]) rfl ⟨⟨_,rfl⟩,y.out⟩
 . rw[show((2:Nat):Int)=2 from rfl]at lL l⊢;(have e:r5 ag D ⟨2,j,c,N⟩=F_ D (gL<|D.now+N):=by unfold r5;rw[aC<|show¬(2:Nat)=0 by decide,aC<|show¬(2:Nat)=1 by decide]);rw[e]at x;rw[e];have F:Hid (∀W,mb W gA b bP ag D->aR 24 #[.pointer<|some b,N] W (Ac gA b bP ag (F_ D<|gL<|D.now+N) W)):=fun W h=>agA N h L hp.D5 hp.xT;clear e;clear h au T hp hk hw bD J I L u aE o M;go_enter func8,ntmps8
   go_wp2_with(first
     |(go_at_call 21;refine lL.out.mono ?_;rintro e w1 ⟨⟨v1,rfl⟩,eE,c0⟩;have d:=l.out.Ha c0 rfl;have eb:=d.cell 0;have fJ:=d.cell 1;have Z:=d.cell 2;have gi:=d.cell 3;have sw:=d.cell 4;have kY:=d.cell 5;have vd:=d.cell 6;have z:=ad<|U.out.vI c0;have C:=ad eE;have H:=ad c0;clear eE c0 d)
     |(go_at_call 24;refine(F.out _ z.out).mono ?_;rintro e aQ ⟨⟨v2,rfl⟩,f,g⟩;have y:=ad<|x.out _ _ C.out H.out f g;clear f g))
   exact bodyPost_end (v:=.tuple #[]) (by simp[results,results8,go_sem]) rfl ⟨⟨_,rfl⟩,y.out⟩
def bT.aI(y:bT):List Value:=
 [y.r.ak,.int .u8 (y.r.aj.op:Nat),y.r.aj.pol,y.kv,y.r.aj.n,y.r.first,y.r.ft,
  y.r.cn.e,y.r.cn.granted,y.r.cn.left,y.r.cn.wait,y.r.cn.a6,y.r.cn.now]
def gT(ys:List bT):List Value:=ys.flatMap bT.aI
theorem Rk:∀ys:List bT,(gT ys).length=ys.length*13
 |[]=>rfl
 |y::ys=>by have:=Rk ys;unfold gT at this⊢;rw[List.flatMap_cons,gO,this,List.length_cons];show 13+_=_;omega
theorem Mp:∀(ys:List bT) (k j:Nat) (hk:k<ys.length) (a:j<13),(gT ys)[13*k+j]?=(ys[k].aI)[j]?
 |y::ys,0,j,hk,a=>by show(y.aI++gT ys)[13*0+j]?=_;rw[tY<|by show 13*0+j<13;omega,Nat.mul_zero,iQ];rfl
 |y::ys,k+1,j,hk,a=>by have h:=Mp ys k j (by simpa using hk) a;show(y.aI++gT ys)[13*(k+1)+j]?=_;rw[List.getElem?_append_right<|by show 13<=_;omega,show 13*(k+1)+j-y.aI.length=13*k+j by show _-13=_;omega,h];rfl
structure jR(t:TypeId)(w:World)(v:Value)(ys:List bT):Prop where
 row:Row w t 13 ys.length v (gT ys)
 key:∀y∈ys,cb w y.kv y.r.aj.key
theorem jR.below(h:jR t w v ys)(k:Below w w w'):jR t w' v ys:=by refine⟨?_,fun y hy=>(h.key y hy).qn k⟩;obtain⟨g1,a,c,g2,g3,g4,g5⟩:=h.row;refine⟨g1,a,c,g2,g3,g4,fun hn=>?_⟩;obtain⟨b,off,arr,g6,g7,g8⟩:=g5 hn;exact⟨b,off,arr,g6,g7.below k g7.lt,g8⟩
theorem jR.slice(h:jR t w v ys):∃a c,v=.slice a ys.length c:=by obtain⟨_,a,c,e,_⟩:=h.row;exact⟨a,c,e⟩
theorem jR.at_{a:Option Addr}{c:Nat}(h:jR t w (.slice a n c) ys)(hk:k<ys.length):∃b off,a=some ⟨b,off,none⟩/\∀j v,j<13->(ys[k].aI)[j]?=some v->aG w b (off+k*13+j) v:=by obtain⟨_,_,_,d⟩:=Row.cells h.row;obtain⟨b,off,f,l⟩:=d ae;refine⟨b,off,f,fun j v g e=>?_⟩;have:=l (13*k+j) v (by rw[Mp ys k j hk g];exact e);rwa[show off+(13*k+j)=off+k*13+j by omega]at this
def lz(e:Rec):Bool:=decide (e.aj.op<=4)&&counts e.aj e.cn
theorem Wn(a:1<=e.aj.op):counts e.aj e.cn=lz e:=by unfold lz counts;by_cases h:e.aj.op<=4;{simp[h]};rw[aC ae,aC ae];simp[h];omega
theorem af0(y:bT)(w:World)(b:1<=y.r.aj.op)(f:y.r.aj.op<=6):
 aR 106 #[.agg y.aI.toArray] w (dM (lz y.r) w):=by rw[<-Wn b];obtain⟨⟨ak,⟨op,pol,key,n⟩,first,at_,ft,⟨a,rg,j,h,rs,g⟩⟩,kv⟩:=y;unfold bT.aI counts;dsimp only at*;have e:op=1\/op=2\/op=3\/op=4\/op=5\/op=6:=ae;rcases e with rfl|rfl|rfl|rfl|rfl|rfl;all_goals go_enter func106,ntmps106;go_wp2;(all_goals go_ret);all_goals exact⟨by first|rfl|(simp_all;done)|(by_cases l:a=10<;>by_cases d:a=5<;>simp_all),ck [_] w⟩
theorem Wm(y:bT)(w:World)(b:1<=y.r.aj.op)(f:y.r.aj.op<=6):
 aR 70 #[.agg y.aI.toArray] w (dM (lz y.r) w):=by rw[<-Wn b];obtain⟨⟨ak,⟨op,pol,key,n⟩,first,at_,ft,⟨a,rg,j,h,rs,g⟩⟩,kv⟩:=y;unfold bT.aI counts;dsimp only at*;have e:op=1\/op=2\/op=3\/op=4\/op=5\/op=6:=ae;rcases e with rfl|rfl|rfl|rfl|rfl|rfl;all_goals go_enter func70,ntmps70;go_upto_region 1 with fail;go_quiet (fail);go_wp2;(all_goals go_ret);all_goals exact⟨by first|rfl|(simp_all;done)|(by_cases l:a=10<;>by_cases d:a=5<;>simp_all),below_drewN (ck [_] w) _⟩
def nA(c:ai.Call)(kv:Value):Array Value:=#[.int .u8 (c.op:Nat),c.pol,kv,c.n]
def rK(a b:ai.Call):Bool:=decide (a.pol=b.pol)&&decide (a.key=b.key)
theorem aaY(a b:ai.Call)(d f:Value)(w:World)(ha:fj w d a.key)(al:fj w f b.key):
 aR 71 #[.agg<|nA a d,.agg<|nA b f] w (dM (rK a b) w):=by have K:=ad fun W (h:Below w w W)=>NT d f a.key b.key W (ha.below h)<|al.below h;have bD:=ad<|ck [.cells (nA a d) 34,.cells (nA b f) 34] w;(obtain⟨aa,ac,aO⟩:∃x bx,d=.slice x a.key.length bx:=by obtain⟨_,x,bx,e,_⟩:=ha;exact⟨x,bx,e⟩);(obtain⟨ba,bc,aU⟩:∃x bx,f=.slice x b.key.length bx:=by obtain⟨_,x,bx,e,_⟩:=al;exact⟨x,bx,e⟩);subst aO aU;unfold rK;unfold nA at bD⊢;by_cases hp:a.pol=b.pol;{rw[hh hp,Bool.true_and];generalize decide (a.key=b.key)=g at*;rw[hp];go_enter func71,ntmps71;go_wp2_with(go_at_call 26;refine(K.out _ ?_).mono ?_;exact bn;rintro e aQ ⟨rfl,a7⟩;have cU:=ad<|ez (kM (u:=w) a7) a7);go_ret;exact⟨rfl,cU.out⟩};rw[hg hp,Bool.false_and];go_enter func71,ntmps71;go_wp2;go_ret;exact⟨rfl,bD.out⟩
theorem ak5(c:ai.Call)(bt:Option Addr)(bq:Nat)(w:World)(a:0<=c.pol)(h1:c.pol<32)(hk:c.key.length<=255):
 aR 108 #[.agg<|nA c<|.slice bt c.key.length bq] w (dM true w):=by have b:(c.key.length:Int)<=255:=ae;unfold nA;go_enter func108,ntmps108;go_wp2;go_ret;exact⟨rfl,ck [_] w⟩
structure nu(IB:Int)(nz:List Nat)(e:Rec):Prop where
 good:ns bP e.aj
 op:e.aj.op<=4
 pol:e.aj.pol=IB
 key:e.aj.key=nz
 now:0<=e.cn.now/\e.cn.now<=4611686018427387903
 b0:e.aj.op=2->0<=e.cn.a6/\e.cn.a6<=4611686018427387903
structure rY(IB:Int)(nz:List Nat)(S:Cell):Prop where
 ok:eH S
 pol:S.pol=IB
 key:S.key=nz
 perm:(bP.getD IB.toNat default).kind=2->(S.held.length:Int)<=(bP.getD IB.toNat default).bl
theorem nu.pl{key:List Nat}(h:nu pol key e):dq bP e.aj∈bP/\dq bP e.aj=bP.getD pol.toNat default/\0<=pol/\pol<32:=by obtain⟨p,h1,a⟩:=h.good.ok.pol;have b:bP.length=2:=rfl;(have aO:dq bP e.aj=bP.getD p default:=by unfold dq;rw[h1];rfl);refine⟨?_,by unfold dq;rw[h.pol],by rw[<-h.pol];omega,by rw[<-h.pol];omega⟩;rw[aO,eh,eG a];exact fZ a
theorem nu.kinds{key:List Nat}(h:nu pol key e):(e.aj.op=1->(dq bP e.aj).kind=1)/\(e.aj.op=2\/e.aj.op=3->(dq bP e.aj).kind=2):=
 ⟨h.good.Sp.rI,h.good.Sp.nM⟩
theorem yH:∀p∈bP,kL p:=fun p hp=>(Bi.2 p hp).1
theorem rY.zero{key:List Nat}(h:nu pol key e):rY pol key ⟨pol,key,0,[]⟩:=by obtain⟨h1,b,d,a⟩:=h.pl;refine⟨⟨d,a,by rw[<-h.key];exact h.good.ok.nN,by rw[<-h.key];exact h.good.oP,Int.le_refl _,by show(0:Int)<=_;omega,fun n hn=>(by cases hn),List.Pairwise.nil,bI⟩,rfl,rfl,fun hk=>?_⟩;rw[b]at h1;rcases yH _ h1 with g|g;{omega};show((0:Nat):Int)<=_;omega
theorem rY.bare{key:List Nat}(h:nu pol key e):rY pol [] ⟨pol,[],0,[]⟩:=by have a:=rY.zero h;exact⟨⟨a.ok.py,a.ok.og,bI,bI,a.ok.yI,a.ok.yJ,a.ok.uE,a.ok.zI,a.ok.e8⟩,rfl,rfl,a.perm⟩
theorem anT{B:Below}(c:Cell)(k:List Nat)(aj:ai.Call)(now b0:Int):iG B af {c with key:=k} aj now b0=((iG B af c aj now b0).1,{(iG B af c aj now b0).2 with key:=k}):=by unfold iG;split;{dsimp only;split<;>rfl};split;{unfold fI;dsimp only;split<;>rfl};split;{unfold g';dsimp only;split<;>rfl};rfl
theorem aaW{B:Below}(k:List Nat):∀(l:List Rec) (c:Cell),runs B af spare c l->runs B af spare {c with key:=k} l
 |[],_,_=>trivial
 |e::l,c,h=>by obtain⟨h1,a⟩:=h;unfold runs;rw[anT];exact⟨h1,aaW k l _ a⟩
theorem Ord.key{B:Below}{S:Cell}(h:Ord B af E spare un S)(k:List Nat):Ord B af E spare un {S with key:=k}:=by obtain⟨is,h1,a,b⟩:=h;exact⟨is,h1,a,aaW k _ _ b⟩
theorem TQ{key:List Nat}{b0:Int}(h:nu pol key e)(a:rY pol key' S)(aB:e.aj.op=2->1<=b0/\b0<=4611686018427387903):
   iG bM bP S e.aj e.cn.now b0=((hL bM (dq bP e.aj) S e.aj e.cn.now b0).1,if(hL bM (dq bP e.aj) S e.aj e.cn.now b0).2.2 then(hL bM (dq bP e.aj) S e.aj e.cn.now b0).2.1 else S)/\rY pol key' (iG bM bP S e.aj e.cn.now b0).2:=by
 obtain⟨h1,l,z,y⟩:=h.pl;have aS:=yH _ h1;obtain⟨u,s⟩:=h.kinds;have B:=h.op;have x:=h.good.ok.lV;have m:=a.perm;rw[<-l]at m;have a8:e.aj.op=1\/e.aj.op=2\/e.aj.op=3\/e.aj.op=4:=ae;unfold iG hL;generalize dq bP e.aj=p at*;rcases a8 with a8|a8|a8|a8
 . rw[aN a8,aN a8];have q:=yF.aJ p S.aJ e.cn.now e.aj.n aS (u a8) a.ok.yI a.ok.yJ h.now.1 h.now.2 (h.good.ok.n a8).1 (h.good.ok.n a8).2;have C:=(h.good.ok.n a8).1;generalize bM.decide p S.aJ e.cn.now e.aj.n=d at*;obtain⟨d1,d2,d3,d4⟩:=d;have hc:rY pol key' {S with aJ:=d2}:=⟨⟨a.ok.py,a.ok.og,a.ok.len,a.ok.bytes,q.1,q.2,a.ok.uE,a.ok.zI,a.ok.e8⟩,a.pol,a.key,a.perm⟩
   cases d1 with
   |false=>exact⟨bI,by simp;exact a⟩
   |true=>
     by_cases hn:e.aj.n=0;·exact⟨by simp[hn],by simp[hn];exact a⟩
     . exact ⟨by have:0<e.aj.n:=by omega
                 simp[hn,this],by simp[hn];exact hc⟩
 {rw[aC ae,aN a8,aC ae,aN a8];have hk:=s<|.inl a8;have g:=m hk;have j:=aB a8;have eE:=yF.take p S b0 aS hk a.ok g;have f:=(yF.same p S b0).1;refine⟨?_,⟨eE.1,f.1.trans a.pol,f.2.trans a.key,fun _=>by rw[<-l];exact eE.2⟩⟩;by_cases b:b0∈S.held;{(have al:iy p.bl S.held b0=(8,[]):=by unfold iy;rw[aC ae,aC ae,aN<|by simpa using b]);(have aO:fI bM p S b0=(err 8,S):=by rw[Dd<|by show(iy p.bl S.held b0).1≠0;rw[al];decide];show(err (iy p.bl S.held b0).1,S)=_;rw[al]);rw[aO];(have:lQ S.held b0=true:=by unfold lQ;simpa using b);simp[this]};(have:lQ S.held b0=false:=by unfold lQ;simpa using b);by_cases o:p.bl<=(S.held.length:Int);{have al:=abT (bl:=p.bl) (held:=S.held) (n:=b0) ae j.1 j.2 b;(have aO:fI bM p S b0=(err 9,S):=by rw[Dd<|by show(iy p.bl S.held b0).1≠0;rw[al];decide];show(err (iy p.bl S.held b0).1,S)=_;rw[al]);rw[aO];simp[this,o]};rw[(Qg bP).take p S b0 a.ok ae j.1 j.2 b];simp[this,o]};{rw[aC ae,aC ae,aN a8,aC ae,aC ae,aN a8];have hk:=s<|.inr a8;have g:=m hk;have eE:=yF.Ci p S e.aj.n aS hk a.ok g;have f:=(yF.same p S e.aj.n).2;refine⟨?_,⟨eE.1,f.1.trans a.pol,f.2.trans a.key,fun _=>by rw[<-l];exact eE.2⟩⟩;rw[(Qg bP).Ci p S e.aj.n a.ok g];by_cases b:e.aj.n∈S.held;{(have:lQ S.held e.aj.n=true:=by unfold lQ;simpa using b);simp[this,b]};(have:lQ S.held e.aj.n=false:=by unfold lQ;simpa using b);simp[this,b]};rw[aC ae,aC ae,aC ae,aC ae,aC ae,aC ae];refine⟨?_,a⟩;unfold k!;split<;>rfl
theorem aaq{fn:Func}{R:Ending->World->Prop}{a:Act}{s t l:Nat}{a0 j a2 a3 a4 a5 d f g h:Value}(m:fn.results=#[.cell s 58,.cell t 56])(aB:a.tmps.getD s undef=.pointer (some k))(b:a.tmps.getD t undef=.pointer (some l))(au:aq w k 58 #[a0,j,a2,a3,a4,a5])(hy:aq w l 56 #[d,f,g,h])(aI:a.defers=[])(iK:R (.returned<|.tuple #[.agg #[a0,j,a2,a3,a4,a5],.agg #[d,f,g,h]]) w):bodyPost prog fn R .ret a w:=by have bJ:=(fh au).1;have d0:=(nB hy).1;refine cJ ?_ aI iK;simp only[Array.getD_eq_getD_getElem?]at aB b;simp[results,m,go_sem,aB,b,bJ,d0]
theorem b'.y'{L:List Int}(h:b' w v L)(k:∀g arr,aq w g 2 arr->aq w' g 2 arr):b' w' v L:=by obtain⟨h1,a,c,l,m,d,f⟩:=h;refine⟨h1,a,c,l,m,d,fun hn=>?_⟩;obtain⟨b,off,arr,j,p,o⟩:=f hn;exact⟨b,off,arr,j,k _ _ p,o⟩
def PK(w:World)(o:c2×Cell)(kv:Value)(e:Ending)(w':World):Prop:=∃ha n hc,e=.returned (.tuple #[.agg<|dn o.1,.agg<|cY o.2 kv<|.slice ha n hc])/\b' w' (.slice ha n hc) o.2.held/\Below w w w'
theorem amA{key:List Nat}(y:bT)(S:Cell)(kv av dt:Value)(spare:Int)(df:Nat)(w:World)(h:nu pol key y.r)(dQ:rY pol key' S)(jJ:1<=spare/\spare<=4611686018427387903)(al:aq w df 174 #[.int .u8 ((dq bP y.r.aj).kind:Nat),(dq bP y.r.aj).T,(dq bP y.r.aj).tau,(dq bP y.r.aj).bl,dt,spare])(hk:cb w y.kv y.r.aj.key)(O:cb w kv S.key)(F:b' w av S.held):
   aR 109 #[.pointer<|some df,.agg y.aI.toArray,.agg<|cY S kv av] w (PK w (iG bM bP S y.r.aj y.r.cn.now<|jy spare y.r.cn) kv):=by
 (have nL:y.r.aj.op=2->1<=jy spare y.r.cn/\jy spare y.r.cn<=4611686018427387903:=fun e=>by have:=h.b0 e;unfold jy;split<;>omega);obtain⟨jf,mo,RT,RU⟩:=h.pl;obtain⟨hW,fW⟩:=h.kinds;have Q:=Bi.2 _ jf;rw[(TQ h dQ nL).1];have bp:=h.op;have GK:=h.good.ok.lV;have hn:=h.good.ok.n;have H:=h.now;have XE:=dQ.ok;have N:jy spare y.r.cn=if y.r.cn.a6=0 then spare else y.r.cn.a6:=rfl;generalize jy spare y.r.cn=wj at*;obtain⟨⟨ak,aj,first,at_,ft,⟨fR,rg,hs,hB,rs,l⟩⟩,gK⟩:=y;dsimp only at*;generalize dq bP aj=p at*;generalize a8:hL bM p S aj l wj=o at*
 have D:=ad (fun W (bQ:Below w w W)=>by
   have:=Ka p S kv av aj gK l wj W Q.1 Q.2 XE (O.qn bQ) (F.keep<|bm bQ) (by obtain⟨_,_,a,bx,e,_⟩:=hk;exact⟨a,_,bx,e⟩) GK bp (fun e=>⟨hW e,hn e⟩) fW H
   rwa[a8]at this)
 (have oC:Hid (∀W,aR 53 #[l] W<|ga true W):=fun W=>by have:=NP l W;rwa[ma H.1 H.2]at this);obtain⟨bt,bq,rfl⟩:=jz hk;obtain⟨u_,oV,rfl⟩:=jz O;obtain⟨ha,hc,rfl⟩:=e? F;have aV:=al.cell 0;have aX:=al.cell 1;have bb:aG w df 2 p.tau:=al.cell 2;have bu:aG w df 3 p.bl:=al.cell 3;have cf:aG w df 5 spare:=al.cell 5;have oJ:=al.lt;have aqS:df<w+1:=ae;have aqT:df<w+1+1:=ae;have aqU:df<w+1+1+1:=ae;have U:=ad F;unfold bT.aI cY;dsimp only;unfold cY hd at D;obtain⟨op,I,er,G⟩:=aj;dsimp only at*;obtain⟨⟨E5,C5,ol,xq,os,on⟩,⟨lu,aM,eW,r2⟩,Ξ⟩:=o;unfold Ab cY dn at D;dsimp only at D;(have Gq:(rs=0/\wj=spare)\/(rs≠0/\wj=rs):=by by_cases e:rs=0;{exact .inl ⟨e,by rw[N,aN e]⟩};exact .inr ⟨e,by rw[N,aC e]⟩);(have H6:Hid (aM=S.key/\lu=S.pol):=by show _/\_;(have aO:aM=(hL bM p S ⟨op,I,er,G⟩ l wj).2.1.key:=by rw[a8]);(have aU:lu=(hL bM p S ⟨op,I,er,G⟩ l wj).2.1.pol:=by rw[a8]);rw[aO,aU];unfold hL;(repeat' split);all_goals exact⟨rfl,rfl⟩);(have hoi:(op=2/\1<=wj/\wj<=4611686018427387903)\/op≠2:=by by_cases e:op=2;{exact .inl ⟨e,nL e⟩};exact .inr e);have bD:=ck [.cells #[ak,.int .u8 (op:Nat),I,.slice bt er.length bq,G,first,ft,fR,rg,hs,hB,rs,l] 116,.cells #[S.pol,.slice u_ S.key.length oV,S.aJ,.slice ha S.held.length hc] 56,.cells (dn<|err 0) 58,.cells #[bA,(),bA,()] 56] w;clear N a8 nL jf mo Q XE hn H hk O F al hW fW bp GK jJ h dQ;have DZ:Hid (1<=1):=bG _;go_enter func109,ntmps109;(go_upto_region 1 with fail);refine wp_name (fun u=>Below w w u/\(∃m:Array Value,aq u w 116 m/\m[1]?=some (.int .u8 (op:Nat))/\m[2]?=some (.int .i64 I)/\m[3]?=some (.slice bt er.length bq)/\m[4]?=some (.int .i64 G)/\m[11]?=some (.int .i64 rs)/\m[12]?=some (.int .i64 l))/\aq u (w+1) 56 #[S.pol,.slice u_ S.key.length oV,S.aJ,.slice ha S.held.length hc]/\aq u (w+1+1) 58 (dn<|err 0)/\aq u (w+1+1+1) 56 #[bA,(),bA,()]) ⟨bD,⟨_,b3 w [_,_,_,_] 0 rfl,rfl,rfl,rfl,rfl,rfl,rfl⟩,b3 w [_,_,_,_] 1 rfl,b3 w [_,_,_,_] 2 rfl,b3 w [_,_,_,_] 3 rfl⟩ ?_;rintro u ⟨b,⟨m,d,J,z2,z3,z4,qd,z12⟩,gd,yo,qY⟩;have CV:=d.cell 11;rw[qd]at CV;have B:=d.cell 1;rw[J]at B;have z:=d.cell 12;rw[z12]at z;have Z:=cB b cf;have V:=nX oJ b.size;have YV:=d.lt;go_upto_if 16 with fail;go_cut [8]from 63 fun we j=>we=.int .i64 wj/\u=j;(case first=>rcases Gq with⟨dw,fB⟩|⟨dw,fB⟩;{subst dw fB;go_wp2;go_meet;exact⟨rfl,rfl⟩};(have pV:(rs==0)=false:=by rw[qH];exact dw);subst fB;go_wp2;go_meet;exact⟨rfl,rfl⟩);case rest=>
 obtain⟨rfl,rfl⟩:=hcut;go_upto_region 4 with fail;go_cut [39]from 63 fun Y j=>Y=.bool false/\u=j;(case first=>rcases hoi with⟨rfl,rC,oM⟩|hoi;{have JE:¬wj<1:=ae;have RO:¬(4611686018427387903:Int)<wj:=ae;go_wp2_with(go_at_call 53;refine(oC.out _).mono ?_;rintro e aQ ⟨rfl,rfl⟩);go_meet;exact⟨by simp;omega,rfl⟩};(have zu:((op:Int)==2)=false:=by rw[qH];omega);go_wp2_with(go_at_call 53;refine(oC.out _).mono ?_;rintro e aQ ⟨rfl,rfl⟩);go_meet;exact⟨rfl,rfl⟩);case rest=>
 obtain⟨rfl,rfl⟩:=hcut;go_upto_region 6 with fail;clear CV B z Z V YV qd Gq hoi;have wL:Hid (∀W,Below u u W->_):=fun W bQ=>D.out W<|b.trans<|bQ.mono b.size;have u1:=d.cell 1;have u2:=d.cell 2;have u3:=d.cell 3;have u4:=d.cell 4;have u12:=d.cell 12;rw[J]at u1;rw[z2]at u2;rw[z3]at u3;rw[z4]at u4;rw[z12]at u12;obtain⟨v0,v1,v2,v3⟩:=eO gd;have bJ:=cB b aV;have c1:=cB b aX;have cw:=cB b bb;have dg:=cB b bu;have bO:=cm bJ<|cm c1<|cm cw<|cm dg<|cm u1<|cm u2<|cm u3<|cm u4<|cm u12<|cm v0<|cm v1<|cm v2<|jP v3;have nI:=qY.lt;have l2:=ad b;have ln:=ad gd;have FN:=ad yo;have yZ:=ad qY;clear b d gd yo qY u1 u2 u3 u4 u12 v0 v1 v2 v3 bJ c1 cw dg aV aX bb bu cf D oC bD;go_cut [9,10,11]from 63 fun E_ wa Be j=>∃x s K M L,E_=P x/\wa=P s/\Be=.bool Ξ/\Below u u j/\aq j x 58 #[E5,C5,ol,xq,os,on]/\aq j s 56 #[lu,.slice u_ S.key.length oV,eW,.slice K M L]/\b' j (.slice K M L) r2/\u<=x/\u<=s;case first=>go_region_held3 (fun w=>type_of%(bO.out w _)) (first|exact bO.out _ bn|exact bO.out _ (ky.trans bn)|fail) (first|(go_at_call 132;(refine(wL.out _ bn).mono ?_);rintro e aQ ⟨dT,q4,dC,rfl,A1,al⟩;obtain⟨cZ,ky⟩:=vx (u:=u) al;have et:=bO.out aQ ky;have bR:=ky.size;(try(have q:=td (n:=u)<|bm al;obtain⟨J,wm,wo,wq⟩:=q));(try(have q:=rP (n:=u)<|bm al;obtain⟨z2,Dk,Dn,Dr⟩:=q));(try(have q:=td (n:=u+1)<|bm al;obtain⟨z3,Dl,Dp,Ds⟩:=q));(try(have q:=rP (n:=u+1)<|bm al;obtain⟨z4,Dm,Dq,Dt⟩:=q));have R:=ad A1;clear A1));all_goals go_wp2;go_meet;refine⟨_,_,_,_,_,rfl,rfl,rfl,?_,?_,?_,b'.y' R.out ?_,?_,?_⟩;{exact bn};{exact gl};{exact gl};{intro g arr aS;have aiD:=aS.lt;(try have f?:=aS.ne J ax);(try have fq:=aS.ne z2 ax);(try have yB:=aS.ne z3 ax);(try have n4:=aS.ne z4 ax);exact gl};{(first|simp<;>omega|omega)};·(first|simp<;>omega|omega)
 case rest=>
   obtain⟨x,s,K,M,L,rfl,rfl,rfl,dv,C,f,bg,EN,arv⟩:=hcut
   obtain⟨⟨a0,cz,a2,a3,a4,a5⟩,_⟩:=fh C
   obtain⟨⟨d0,d1,d2,d3⟩,d4,d5,d6,d7⟩:=nB f
   have aO:=ln.out.below dv ln.out.lt
   have aU:=FN.out.below dv FN.out.lt
   have cr:=yZ.out.below dv yZ.out.lt
   obtain⟨⟨dN,s1,s2,dr⟩,_⟩:=nB aO
   obtain⟨⟨b9,da,ef,ew,fa,fb⟩,t0,t1,t2,t3,t4,t5⟩:=fh aU
   obtain⟨⟨g0,g1,g2,g3⟩,g4,g5,g6,g7⟩:=nB cr
   have ff:=C.lt;have Cz:=f.lt
   have hO:=ad<|l2.out.trans<|dv.mono l2.out.size
   have OT:=ad<|U.out.keep<|bm hO.out
   have Bw:=ad C;have Uq:=ad f;have Fm:=ad aU;have Um:=ad cr;have vg:=ad bg
   have X:x≠s:=C.ne f ax
   have n10:s≠x:=fun e=>X e.symm
   have f?:w+1+1≠s:=ae
   have fq:w+1+1+1≠s:=ae
   have yB:w+1+1≠x:=ae
   have n4:w+1+1+1≠x:=ae
   clear C f aO aU cr bg dv ln FN yZ wL bO
   cases Ξ with
   |true=>
     go_wp2_with(first|(go_region_with fail)|fail)
     all_goals
       have aU:=Fm.out;have cr:=Um.out;have br:=hO.out;have f:=Uq.out
       refine aaq rfl rfl rfl gl gl rfl ⟨K,M,L,rfl,b'.y' vg.out ?_,?_⟩
       . intro g arr aS
         have ξ:=aS.ne aU ax;have n6:=aS.ne cr ax;have n7:=aS.ne f ax
         exact gl
       . exact bn
   |false=>
     go_upto_region 9 with fail
     go_region_with fail
     all_goals go_wp2
     all_goals
       have aU:=Fm.out;have cr:=Um.out;have br:=hO.out;have f:=Uq.out
       refine aaq rfl rfl rfl gl gl rfl ⟨ha,S.held.length,hc,rfl,b'.y' OT.out ?_,?_⟩
       . intro g arr aS
         have ξ:=aS.ne aU ax;have n6:=aS.ne cr ax;have n7:=aS.ne f ax
         exact gl
       . exact bn
theorem WY(a b:c2)(w:World):(Op.equalIn 10000 58 (.agg<|dn a)<|.agg<|dn b).run prog w=.ok (decide<|a=b) w:=by obtain⟨a0,o,a2,a3,a4,a5⟩:=a;obtain⟨f,g,j,l,h,m⟩:=b;by_cases cI:a0=f;{by_cases aO:o=g;{by_cases aU:a2=j;{by_cases cr:a3=l;{by_cases eI:a4=h;{by_cases d:a5=m;{subst cI aO aU cr eI d;simp[go_sem]};subst cI aO aU cr eI;simp[go_sem,d]};subst cI aO aU cr;simp[go_sem,eI]};subst cI aO aU;simp[go_sem,cr]};subst cI aO;simp[go_sem,aU]};subst cI;simp[go_sem,aO]};simp[go_sem,cI]
theorem ala(a b:c2)(w:World):(binOp BinOp.neq 58 (.agg<|dn a)<|.agg<|dn b).run prog w=.ok (!decide (a=b)) w:=by rw[run_neq_struct,WY];rfl
theorem agN(a b:c2)(w:World):(binOp BinOp.eql 58 (.agg<|dn a)<|.agg<|dn b).run prog w=.ok (decide<|a=b) w:=by rw[run_eql_struct,WY];rfl
theorem jR.zN{hf:TypeId}(h:jR t w v ys)(aE:aq w r hf c)(h1:t≠hf)(a:5≠hf)(u:Value):jR t (w.setCell ⟨r,i,none⟩ u) v ys:=⟨Row.zN h.row aE h1 u,fun y hy=>(h.key y hy).zN aE a u⟩
theorem aoL{b1:Nat}{u aQ:World}{arr:Array Value}(al:aq u b1 4 arr)(hi:arr[i]?=some (.bool false))(hn:Below n w u)(g:n<=u)(a:Below (u.setCell ⟨b1,i,none⟩ true) (u.setCell ⟨b1,i,none⟩ true) aQ):Below n w (aQ.setCell ⟨b1,i,none⟩ false)/\aq (aQ.setCell ⟨b1,i,none⟩ false) b1 4 arr:=by(have e:(u.setCell ⟨b1,i,none⟩ true).heap.size=u.heap.size:=by simp[World.setCell]);have h:=(al.setCell i true).below a (by rw[e];exact al.lt);have b:=h.setCell i false;(have l:(arr.setIfInBounds i true).setIfInBounds i false=arr:=by apply Array.ext_getElem?;intro j;rw[Array.getElem?_setIfInBounds,Array.getElem?_setIfInBounds];by_cases d:i=j;{subst d;have cc:=(Array.getElem?_eq_some_iff.1 hi).1;rw[aN rfl,aN<|by rw[Array.size_setIfInBounds];exact cc,hi]};rw[aC d,aC d]);rw[l]at b;refine⟨⟨by show aQ.os=_;rw[a.os];exact hn.os,by show aQ.tape=_;rw[a.tape];exact hn.tape,by show aQ.output=_;rw[a.output];exact hn.output,?_,fun k hk=>?_⟩,b⟩;{have:=a.size;have:=hn.size;(have aU:(aQ.setCell ⟨b1,i,none⟩ false).heap.size=aQ.heap.size:=by simp[World.setCell]);omega};by_cases f:k=b1;{subst f;exact(b.trans al.symm).trans (hn.block k hk)};rw[Below.heap_setCell aQ ⟨b1,i,none⟩ _ k f,a.block k<|by rw[e];omega,Below.heap_setCell u ⟨b1,i,none⟩ _ k f,hn.block k hk]
def Fj(E:List Rec)(spare:Int)(un:Nat->Bool)(S:Cell)(k:Nat):Prop:=
 un k=true/\(∀j,j<E.length->un j=true->(jG E k).first<=(jG E j).ft)/\(iG bM bP S (jG E k).aj (jG E k).cn.now<|jy spare (jG E k).cn).1=(jG E k).cn/\
  Ord bM bP E spare (fun i=>un i&&decide (i≠k)) (iG bM bP S (jG E k).aj (jG E k).cn.now<|jy spare (jG E k).cn).2
structure wz(E:List Rec)(spare:Int)(un:Nat->Bool)(S:Cell)(k:Nat)(sI:Bool):Prop where
 all:(∀i,i<k->un i=false)->sI=true
 none_:∀i,i<k->¬Fj E spare un S i
theorem wz.zero(E:List Rec)(spare:Int)(un:Nat->Bool)(S:Cell):wz E spare un S 0 true:=⟨fun _=>rfl,fun i h=>absurd h<|Nat.not_lt_zero _⟩
theorem wz.off(h:wz E spare un S k sI)(hu:un k=false):wz E spare un S (k+1) sI:=
 ⟨fun a=>h.all fun i hi=>a i ae,fun i hi hc=>by
  by_cases e:i=k
  . subst e;rw[hc.1]at hu;cases hu
  . exact h.none_ i ae hc⟩
theorem wz.on(h:wz E spare un S k sI)(hu:un k=true)(hc:¬Fj E spare un S k):wz E spare un S (k+1) false:=
 ⟨fun b=>(by rw[b k ae]at hu;cases hu),fun i hi a=>by
  by_cases e:i=k
  . subst e;exact hc a
  . exact h.none_ i ae a⟩
theorem wz.fin{E:List Rec}{spare:Int}{un:Nat->Bool}{S:Cell}{sI:Bool}(h:wz E spare un S E.length sI)(he:∀i,i<E.length->(jG E i).first<=(jG E i).ft)(a8:Ord bM bP E spare un S):sI=true:=by rcases a8.next he with h1|⟨k,h1,d,f,a,b⟩;{exact h.all h1};exact absurd ⟨d,f,a,b⟩<|h.none_ k h1
def Ch(E:List Rec)(un:Nat->Bool)(k:Nat):Nat->Bool
 |0=>true
 |q+1=>Ch E un k q&&(!un q||decide ((jG E k).first<=(jG E q).ft))
theorem Xd:∀q,Ch E un k q=true<->∀j,j<q->un j=true->(jG E k).first<=(jG E j).ft
 |0=>⟨fun _ j a=>absurd a<|Nat.not_lt_zero _,fun _=>rfl⟩
 |q+1=>by unfold Ch;rw[Bool.and_eq_true,Xd q,Bool.or_eq_true,Bool.not_eq_true',decide_eq_true_eq];constructor;{rintro⟨h1,b⟩ j a hu;by_cases e:j=q;{subst e;exact b.resolve_left (by rw[hu];simp)};exact h1 j ae hu};intro h;refine⟨fun j a=>h j ae,?_⟩;cases e:un q with|false=>exact .inl rfl|true=>exact .inr<|h q ae e
theorem Gb(hk:k<ys.length):jG (ys.map bT.r) k=ys[k].r:=by unfold jG;rw[eh,List.getElem?_map,eG hk];rfl
def PN(w:World)(b1 n:Nat)(un:Nat->Bool)(arr:Array Value):Prop:=aq w b1 4 arr/\∀i,i<n->arr[i]?=some (.bool<|!un i)
structure z_(w:World)(df:Nat)(dt:Value)(spare:Int)(pol:Int)(ys:List bT):Prop where
 kN:aq w df 174 #[.int .u8 ((bP.getD pol.toNat default).kind:Nat),(bP.getD pol.toNat default).T,(bP.getD pol.toNat default).tau,(bP.getD pol.toNat default).bl,dt,spare]
 row:jR 116 w dt ys
theorem z_.below(h:z_ w df dt spare pol ys)(k:Below w w w'):z_ w' df dt spare pol ys:=⟨h.kN.below k h.kN.lt,h.row.below k⟩
theorem z_.zN(h:z_ w df dt spare pol ys)(aE:aq w r 4 c)(u:Value):z_ (w.setCell ⟨r,i,none⟩ u) df dt spare pol ys:=⟨h.kN.dj _ _<|h.kN.ne aE ax,h.row.zN aE ax ax u⟩
