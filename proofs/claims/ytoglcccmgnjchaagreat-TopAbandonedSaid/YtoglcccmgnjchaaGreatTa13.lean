import Derived.Test.YtoglcccmgnjchaaGreatTa12
import Derived.Deep.QuietTactic
import Derived.WalkSmall
import Derived.Laws.EntriesVeiled
set_option linter.all false
set_option maxHeartbeats 8000000
set_option maxRecDepth 100000
namespace Go.Proofs.YtoglcccmgnjchaaGreat
open Go.Proofs.Tryz PL
section
open Go.RowKit ai
variable{w:World}
theorem anc(g l:Value)(a b:List Int)(w:World)(ha:FU w g a)(al:FU w l b):
   aR 27 #[g,l] w (dM (decide<|a=b) w):=by
 obtain⟨aa,ac,rfl,B,a2,a3⟩:=ha;obtain⟨ba,bc,rfl,A,o,r⟩:=al;unfold maxLen at a2 o;generalize iK:decide (a=b)=R;have iR:=ad iK;by_cases hn:a.length=b.length
 . have fc:=ad a3;have t:=ad r;have d:=ad hn;generalize x:b.length=eX at*;have f:=ad x;go_enter func27,ntmps27;go_wp2;go_loopw [13] (fun i wr=>∃(k:Nat),i=.int .i64 k/\k<=eX/\Below w w wr/\∀j,j<k->a.getD j 0=b.getD j 0) (fun i _=>eX-(intOf i).toNat);case atStart=>exact⟨0,rfl,fw _,b5 _ _,fun j h=>ae⟩
   case round=>
     obtain⟨k,rfl,hk,s,heq⟩:=hrel;have c:=ad s;have m:=ad heq;by_cases cg:k<eX
     . obtain⟨p,C,rfl,y⟩:=fc.out (by have:=d.out;omega);obtain⟨q,D,rfl,dC⟩:=t.out (by have:=f.out;omega);have bL:=cB c.out<|y k (by have:=d.out;omega);have eb:=cB c.out<|dC k (by have:=f.out;omega);by_cases au:a.getD k 0=b.getD k 0
       . (have Hx:Hid (∀j,j=k->a.getD j 0=b.getD j 0):=fun j e=>by subst e;exact au);generalize a.getD k 0=u at*;go_wp2;go_region;go_wp2;go_roundw
         case rel=>exact⟨k+1,by go_num,ae,below_drewN c.out _,fun j z=>by
           by_cases e:j=k
           . exact Hx.out j e
           . exact m.out j ae⟩
         case measure=>simp[intOf];omega
       . (have f_:R=false:=by rw[<-iR.out];exact hg fun e=>au<|by rw[e]);have bU:¬(a.getD k 0:Int)=(b.getD k 0:Int):=ae;subst f_;generalize a.getD k 0=u at*;generalize b.getD k 0=v at*;go_wp2;go_region;go_wp2;go_ret;exact⟨rfl,below_drewN c.out _⟩
     . obtain rfl:k=eX:=ae;(have f_:R=true:=by rw[<-iR.out];refine hh<|List.ext_getElem (by have:=d.out;have:=f.out;omega) fun j h1 n=>?_;have:=m.out j (by have:=d.out;omega);rwa[eh,eh,eG h1,eG n]at this);subst f_;go_wp2;go_ret;exact⟨rfl,c.out⟩
 . have bU:¬(a.length:Int)=b.length:=ae;(have f_:R=false:=by rw[<-iR.out];exact hg fun e=>hn<|by rw[e]);subst f_;generalize a.length=b? at*;generalize b.length=bW at*;go_enter func27,ntmps27;go_wp2;go_ret;exact⟨rfl,b5 _ _⟩
theorem ez{W aQ:World}(h:RowKit.Below w w W)(k:RowKit.Below W W aQ):RowKit.Below w w aQ:=h.trans<|k.mono h.size
theorem cC.parts{v:Value}{L:List Cell}(h:cC w v L):∃xs:List bV,∃a c,xs.map bV.c=L/\v=.slice a xs.length c/\xs.length<=c/\c<=maxLen/\(0<xs.length->∃b off,a=some ⟨b,off,none⟩/\∀j u,(fk xs)[j]?=some u->aG w b (off+j) u)/\(∀x∈xs,x.ok w)/\iA L:=by obtain⟨xs,h1,d,k,f⟩:=h;obtain⟨a,c,rfl⟩:=e? d;obtain⟨_,g,i,l⟩:=Row.cells d;exact⟨xs,a,c,h1,rfl,g,i,l,k,f⟩
theorem bV.ok.slices{x:bV}(h:x.ok w):(∃a n c,x.kv=.slice a n c)/\∃a n c,x.av=.slice a n c:=by obtain⟨⟨_,_,a,c,e,_⟩,_,d,bx,b,_⟩:=h;exact⟨⟨a,_,c,e⟩,d,_,bx,b⟩
theorem W6(v:Value)(L:List Cell)(pol:Int)(kv:Value)(key:List Nat)(w:World)(h:cC w v L)(hk:cb w kv key):
 aR 130 #[v,pol,kv] w fun e w'=>∃r:Int,e=.returned r/\Below w w w'/\((r=-1/\∀c∈L,¬(c.pol=pol/\c.key=key))\/∃(i:Nat) (hi:i<L.length),r=i/\L[i].pol=pol/\L[i].key=key):=by obtain⟨xs,a,c,rfl,rfl,V,X,t,q,z⟩:=h.parts;have M:=z.e8;rw[hE]at M;have N:=ad t;have O:=ad q;have cV:=ad hk;clear h t q z hk;obtain⟨bt,bq,rfl⟩:=jz cV.out;go_enter func130,ntmps130;go_wp2;go_loopw [11] (fun i wr=>∃k:Nat,i=.int .i64 k/\k<=xs.length/\(∀j (h:j<k) (H:j<xs.length),¬(xs[j].c.pol=pol/\xs[j].c.key=key))/\Below w.heap.size w wr) (fun i _=>xs.length-(intOf i).toNat);(case atStart=>exact⟨0,rfl,fw _,fun j h=>absurd h ae,b5 _ _⟩);case round=>obtain⟨k,rfl,yf,y,s⟩:=hrel;have f:=ad s;have C:=ad y;clear s y;by_cases cg:k<xs.length;{obtain⟨b,off,rfl,p⟩:=N.out ae;obtain⟨bL,G,Y,I⟩:=uu (fun j u hu=>cB f.out<|p j u hu) k cg;have n:=O.out xs[k]<|fZ cg;obtain⟨⟨dT,B,dC,aO⟩,R,U,S,aU⟩:=n.slices;(have A:Hid (∀W,Below w.heap.size w W->aR 26 #[.slice dT B dC,.slice bt key.length bq] W (dM (.bool<|decide<|xs[k].c.key=key) W)):=fun W al=>by rw[<-aO];exact NT _ _ _ _ W (n.1.keep<|bm al).by (cV.out.keep<|bm al).by);rw[aO]at G;rw[aU]at I;have E:Hid (xs[k].c.pol=pol->decide (xs[k].c.key=key)=true->∃(i:Nat) (hi:i<(xs.map bV.c).length),((k:Nat):Int)=i/\(xs.map bV.c)[i].pol=pol/\(xs.map bV.c)[i].key=key):=fun h1 F=>⟨k,by simpa using cg,rfl,by simpa using h1,by simpa using F⟩;(have D:Hid (¬(xs[k].c.pol=pol/\xs[k].c.key=key)->∀j (h:j<k+1) (H:j<xs.length),¬(xs[j].c.pol=pol/\xs[j].c.key=key)):=fun h j l Q=>by by_cases e:j=k;{subst e;exact h};exact C.out j ae Q);clear p aO aU n;generalize xs[k].c=J at*;obtain⟨g,aM,K,Z⟩:=J;dsimp only at*;have P:w.heap.size<=wr.heap.size:=f.out.size;have bZ:Below w.heap.size w (wr.alloc<|.cells #[g,.slice dT B dC,K,.slice R U S] 56):=f.out.alloc P _;have d:=ad bZ;clear bZ;by_cases hp:g=pol;{have aI:decide (g=pol)=true:=hh hp;have zw:=hp;subst hp;generalize o:decide (aM=key)=T at*;have m:=ad o;clear o;cases T with|true=>have ej:=ad<|E.out rfl rfl;go_wp2_with(go_at_call 26;(with_reducible refine(A.out _ d.out).mono ?_);rintro e aQ ⟨rfl,a7⟩;have cU:=ad<|d.out.trans<|a7.mono d.out.size;clear a7);exact cJ (v:=.int .i64 k) (by simp[results,results130,go_sem]) rfl ⟨k,rfl,cU.out,.inr ej.out⟩|false=>have ej:=ad<|D.out (fun h=>by have:=m.out;simp[h.2]at this);go_wp2_with(go_at_call 26;(with_reducible refine(A.out _ d.out).mono ?_);rintro e aQ ⟨rfl,a7⟩;have cU:=ad<|d.out.trans<|a7.mono d.out.size;clear a7);go_roundw;(case rel=>exact⟨k+1,by go_num,ae,ej.out,cU.out⟩);case measure=>simp[intOf];omega};have aI:decide (g=pol)=false:=hg hp;have ej:=ad<|D.out fun h=>hp h.1;go_wp2_with fail;go_roundw;(case rel=>exact⟨k+1,by go_num,ae,ej.out,d.out⟩);case measure=>simp[intOf];omega};obtain rfl:k=xs.length:=ae;(have ej:Hid (∀c∈xs.map bV.c,¬(c.pol=pol/\c.key=key)):=fun c hc=>by obtain⟨x,au,rfl⟩:=List.mem_map.1 hc;obtain⟨j,l,rfl⟩:=List.getElem_of_mem au;exact C.out j l l);go_wp2;exact cJ (v:=.int .i64 (-1)) (by simp[results,results130,go_sem]) rfl ⟨-1,rfl,f.out,.inl ⟨rfl,ej.out⟩⟩
theorem am'(O Q:Value)(L:List Cell)(w:World)(ha:cC w O L)(al:cC w Q L):
   aR 10 #[O,Q] w (dM true w):=by
 obtain⟨xs,a,c,aO,rfl,aK,aY,T,R,X⟩:=ha.parts;obtain⟨ys,gI,bx,aU,rfl,g5,g6,g7,g8,g9⟩:=al.parts;(have hlen:ys.length=xs.length:=by have:=congrArg List.length<|aU.trans aO.symm;simpa using this);(have ym:∀(k:Nat) (x y:bV),xs[k]?=some x->ys[k]?=some y->y.c=x.c:=fun k x y h dF=>by(have e:(ys.map bV.c)[k]?=(xs.map bV.c)[k]?:=by rw[aO,aU]);simpa[h,dF]using e);have gb:=X.e8;rw[<-aO,hE]at gb;have Ie:=ad ym;have vk:=ad hlen;rw[hlen]at g5 g7⊢;have i?:=ad T;have jm:=ad R;have r:=ad g7;have s:=ad g8;clear T R X g7 g8 g9 ha al ym aO aU hlen;generalize Z:xs.length=eX at*;have K:=ad Z;clear Z;go_enter func10,ntmps10;go_wp2;go_loopw [13] (fun i wr=>∃k:Nat,i=.int .i64 k/\k<=eX/\Below w.heap.size w wr) (fun i _=>eX-(intOf i).toNat);case atStart=>exact⟨0,rfl,fw _,b5 _ _⟩
 case round=>
   obtain⟨k,rfl,yf,S⟩:=hrel;have l:=ad S;clear S;by_cases cg:k<eX
   . (have au:k<xs.length:=by have:=K.out;omega);(have hy:k<ys.length:=by have:=K.out;have:=vk.out;omega);obtain⟨b,off,rfl,N⟩:=i?.out ae;obtain⟨f,d,rfl,M⟩:=r.out ae;have m:=jm.out xs[k]<|fZ au;have g:=s.out ys[k]<|fZ hy;obtain⟨⟨dT,F,dC,aO⟩,H,J,I,aU⟩:=m.slices;obtain⟨⟨n,E,G,cr⟩,p,o,q,eI⟩:=g.slices;have he:=Ie.out k xs[k] ys[k] (eG au)<|eG hy;(have t:Hid (∀W,Below w.heap.size w W->aR 26 #[.slice dT F dC,.slice n E G] W (dM (.bool true) W)):=fun W al=>by rw[<-aO,<-cr];have:=NT _ _ _ _ W (m.1.keep<|bm al).by (g.1.keep<|bm al).by;rwa[he,hh rfl]at this);(have y2:Hid (∀W,Below w.heap.size w W->aR 27 #[.slice H J I,.slice p o q] W (dM (.bool true) W)):=fun W al=>by rw[<-aU,<-eI];have:=anc _ _ _ _ W (m.2.keep<|bm al).ints (g.2.keep<|bm al).ints;rwa[he,hh rfl]at this);(have dp:Hid (∀W,Below w.heap.size w W->aG W b (off+k*4) (.int .i64 xs[k].c.pol)/\aG W b (off+k*4+1) (.slice dT F dC)/\aG W b (off+k*4+2) (.int .i64 xs[k].c.aJ)/\aG W b (off+k*4+3) (.slice H J I)/\aG W f (d+k*4) (.int .i64 xs[k].c.pol)/\aG W f (d+k*4+1) (.slice n E G)/\aG W f (d+k*4+2) (.int .i64 xs[k].c.aJ)/\aG W f (d+k*4+3) (.slice p o q)):=fun W al=>by obtain⟨bL,z,U,A⟩:=uu (fun j u hu=>cB al<|N j u hu) k au;obtain⟨eb,C,B,D⟩:=uu (fun j u hu=>cB al<|M j u hu) k hy;rw[he]at eb B;rw[aO]at z;rw[aU]at A;rw[cr]at C;rw[eI]at D;exact⟨bL,z,U,A,eb,C,B,D⟩);clear N M aO aU cr eI m g he;have d1:decide (xs[k].c.pol=xs[k].c.pol)=true:=hh rfl;generalize xs[k].c.pol=Y at*;generalize xs[k].c.aJ=V at*;have kh:w.heap.size<=wr.heap.size:=l.out.size;obtain⟨bL,z,U,A,eb,C,B,D⟩:=dp.out wr l.out;have P:Hid (∀W,Below w.heap.size w W->aG W b (off+k*4) Y/\aG W b (off+k*4+1) (.slice dT F dC)/\aG W b (off+k*4+2) V/\aG W b (off+k*4+3) (.slice H J I)/\aG W f (d+k*4) Y/\aG W f (d+k*4+1) (.slice n E G)/\aG W f (d+k*4+2) V/\aG W f (d+k*4+3) (.slice p o q)):=dp.out;have dH:Below w.heap.size w wr:=l.out;go_wp2
     go_region_held3 (fun w=>type_of%(P.out w _)) (first|(refine P.out _ ?_;(repeat(first|with_reducible first|assumption|refine RowKit.Below.drew ?_));done)) (first
       |(go_at_call 26;(with_reducible refine(t.out _<|by(repeat(first|with_reducible first|assumption|refine RowKit.Below.drew ?_))).mono ?_);rintro e aQ ⟨rfl,a7⟩;have dx:Below w.heap.size w aQ:=ez (by(repeat(first|with_reducible first|assumption|refine RowKit.Below.drew ?_))) a7;clear a7)
       |(go_at_call 27;(with_reducible refine(y2.out _ (by(repeat(first|with_reducible first|assumption|refine RowKit.Below.drew ?_)))).mono ?_);rintro e aQ ⟨rfl,a7⟩;have dx:Below w.heap.size w aQ:=ez (by(repeat(first|with_reducible first|assumption|refine RowKit.Below.drew ?_))) a7;clear a7))
     all_goals go_wp2;go_roundw;(case rel=>exact⟨k+1,by go_num,ae,by assumption⟩);case measure=>simp[intOf];omega
   . obtain rfl:k=eX:=ae;go_wp2;exact cJ (v:=.bool true) (by simp[results,results10,go_sem]) rfl ⟨rfl,l.out⟩
end
namespace ai
variable{i:Nat}
structure Sys where
 m:Mem
 bz:Nat->Option (Live×c')
def ih(bz:Nat->Option (Live×c'))(i:Nat)(v:Option (Live×c')):Nat->Option (Live×c'):=fun j=>if j=i then v else bz j
theorem q5(bz:Nat->Option (Live×c'))(i:Nat)(v:Option (Live×c')):ih bz i v i=v:=aN rfl
theorem nk(bz:Nat->Option (Live×c')){j:Nat}(v:Option (Live×c'))(h:j≠i):ih bz i v j=bz j:=aC h
def wV:Option (Live×c')->Nat
 |none=>0
 |some (x,k)=>nC x k
def rL(bz:Nat->Option (Live×c')):Nat->Nat
 |0=>0
 |n+1=>rL bz n+wV (bz n)
theorem abW(bz:Nat->Option (Live×c'))(i:Nat)(v:Option (Live×c')):∀n,n<=i->rL (ih bz i v) n=rL bz n
 |0,_=>rfl
 |n+1,h=>by show rL (ih bz i v) n+wV (ih bz i v n)=rL bz n+wV (bz n);rw[abW bz i v n ae,nk bz v ae]
theorem TX(bz:Nat->Option (Live×c'))(i:Nat)(v:Option (Live×c')):∀n,i<n->rL (ih bz i v) n+wV (bz i)=rL bz n+wV v
 |0,h=>ae
 |n+1,h=>by show rL (ih bz i v) n+wV (ih bz i v n)+wV (bz i)=rL bz n+wV (bz n)+wV v;by_cases e:n=i;{subst e;rw[abW bz n v n<|bG _,q5];omega};have:=TX bz i v n ae;rw[nk bz v e];omega
def rest(bz:Nat->Option (Live×c'))(i:Nat):Nat:=rL (ih bz i none) 64
theorem Fe(bz:Nat->Option (Live×c'))(h:i<64):rL bz 64=wV (bz i)+rest bz i:=by have:=TX bz i none 64 h;show _=_+rL (ih bz i none) 64;have e:wV none=0:=rfl;omega
theorem TY(bz:Nat->Option (Live×c'))(h:i<64)(v:Option (Live×c')):rL (ih bz i v) 64=wV v+rest bz i:=by have:=TX bz i v 64 h;have:=Fe bz h;omega
def oR(c:Call):Live:=⟨c,e4<|cK c.pol c.key,false,0⟩
def Mem.at_(m:Mem)(t:Int):Mem:={m with ca:=t}
end ai
namespace ai
variable (af : List aA) (ag:Nat)
structure pM(s:Sys)(n:Nat):Prop where
 inv:fe af ag s.m (rL s.bz 64)
 live:∀ak x k,ak<64->s.bz ak=some (x,k)->iT af x/\mB af ag s.m x k
 e8:s.m.count<=n
def tc(ak:Nat)(s:Sys)(o:Out):Sys×(Bool×c2):=
 match o.1 with
 |.inl k=>(⟨o.2.2,ih s.bz ak<|some (o.2.1,k)⟩,false,err 0)
 |.inr r=>(⟨o.2.2,ih s.bz ak none⟩,true,r)
def qC(B:Below)(s:Sys)(ak:Nat):Sys×(Bool×c2):=
 match s.bz ak with
 |none=>(s,false,err 0)
 |some (x,k)=>tc ak s<|b7 B af ag k x s.m
def q6(s:Sys)(ak:Nat)(c:Call):Sys:=
 match s.bz ak with
 |none=>⟨s.m,ih s.bz ak<|some (oR c,jX c)⟩
 |some _=>s
structure yN(c:Call):Prop where
 lV:1<=c.op
 px:c.op<=6
 pol:c.op<=4->∃p:Nat,c.pol=(p:Int)/\p<af.length
 nN:c.op<=4->c.key.length<=255
 oP:∀b∈c.key,b<256
 n:c.op=1->0<=c.n/\c.n<=4611686018427387903
 s':-9223372036854775808<=c.n/\c.n<=9223372036854775807
 rI:c.op=1->(af.getD c.pol.toNat default).kind=1
 nM:c.op=2\/c.op=3->(af.getD c.pol.toNat default).kind=2
end ai
namespace ai
variable {af : List aA} {ag:Nat}
variable{c:Call}{s:Sys}{n ak:Nat}{B:Below}
theorem akE(h:yN af c):iT af (oR c):=
 ⟨h.lV,h.px,h.pol,h.nN,h.oP,h.n,h.s',Int.le_refl 0,by show(0:Int)<=_;decide,h.rI,h.nM,rfl,fun e=>by cases e⟩
theorem ag6(h:yN af c)(m:Mem):mB af ag m (oR c) (jX c)/\nC (oR c) (jX c)=0:=by unfold jX;split;{rename_i e;exact⟨e,rfl⟩};split;{rename_i e;exact⟨e,rfl⟩};have:=h.px;exact⟨⟨by show c.op<=4;omega,rfl⟩,rfl⟩
theorem pM.mono{a:Nat}(h:pM af ag s n)(hn:n<=a):pM af ag s a:=⟨h.inv,h.live,by have:=h.e8;omega⟩
theorem pM.start(h:pM af ag s n)(hw:ak<64)(hc:yN af c):pM af ag (q6 s ak c) n:=by unfold q6;cases e:s.bz ak with|some v=>exact h|none=>have d:=ag6 (ag:=ag) hc s.m;refine⟨?_,fun a x k g hk=>?_,h.e8⟩;{show fe af ag s.m (rL (ih s.bz ak _) 64);rw[TY s.bz hw];have h1:=h.inv;rw[Fe s.bz hw,e]at h1;show fe af ag s.m (nC (oR c) (jX c)+_);rw[d.2];exact h1};by_cases f:a=ak;{subst f;have b:ih s.bz a (some (oR c,jX c)) a=some (x,k):=hk;rw[q5]at b;cases b;exact⟨akE hc,d.1⟩};have b:ih s.bz ak (some (oR c,jX c)) a=some (x,k):=hk;rw[nk s.bz _ f]at b;exact h.live a x k g b
theorem pM.out(br:Sound B)(T:gD af ag){x:Live}{k:c'}(h:pM af ag s n)(hw:ak<64)(hp:s.bz ak=some (x,k))(hn:n<4611686018427387900):xU af ag (rest s.bz ak) s.m x (b7 B af ag k x s.m):=by have h1:=h.inv;rw[Fe s.bz hw,hp]at h1;have a:=h.live ak x k hw hp;have:=h.e8;exact Ky br T h1 a.1 a.2 ae
theorem pM.step(br:Sound B)(T:gD af ag)(h:pM af ag s n)(hw:ak<64)(hn:n<4611686018427387900):pM af ag (qC af ag B s ak).1 (n+1):=by unfold qC;cases e:s.bz ak with|none=>exact h.mono ae|some v=>obtain⟨x,k⟩:=v;have a8:=h.out br T hw e hn;dsimp only;(have j:∀a b k',a<64->a≠ak->s.bz a=some (b,k')->iT af b/\mB af ag (b7 B af ag k x s.m).2.2 b k':=fun a b k' g bU hp=>by have h1:=h.live a b k' g hp;exact⟨h1.1,h1.2.later a8.later⟩);have hc:=a8.count;have l:=h.e8;have hi:=a8.inv;have av:=a8.live;have hk:=a8.lT;unfold tc;generalize b7 B af ag k x s.m=o at*;obtain⟨ly,i,m1⟩:=o;cases ly with|inl k1=>refine⟨?_,fun a b k' g hp=>?_,by show m1.count<=_;dsimp only at hc;omega⟩;{show fe af ag m1 (rL (ih s.bz ak<|some (i,k1)) 64);rw[TY s.bz hw];exact hi};by_cases f:a=ak;{subst f;have d:ih s.bz a (some (i,k1)) a=some (b,k'):=hp;rw[q5]at d;cases d;exact⟨av,hk _ rfl⟩};have d:ih s.bz ak (some (i,k1)) a=some (b,k'):=hp;rw[nk s.bz _ f]at d;exact j a b k' g f d|inr r=>refine⟨?_,fun a b k' g hp=>?_,by show m1.count<=_;dsimp only at hc;omega⟩;{show fe af ag m1 (rL (ih s.bz ak none) 64);rw[TY s.bz hw];exact hi};by_cases f:a=ak;{subst f;have d:ih s.bz a none a=some (b,k'):=hp;rw[q5]at d;cases d};have d:ih s.bz ak none a=some (b,k'):=hp;rw[nk s.bz _ f]at d;exact j a b k' g f d
theorem akx(m:Mem)(t:Int):dA m (m.at_ t):=⟨bG _,fun _ _ _=>bG _,fun _ _ _ _=>rfl,fun _ _ _ _=>rfl⟩
theorem pM.tick(h:pM af ag s n){t:Int}(a:0<=t)(h1:t<=4611686018427387903):pM af ag ⟨s.m.at_ t,s.bz⟩ n:=by have hi:=h.inv;have aI:=hi.dir;exact⟨⟨⟨aI.dm,aI.e2,aI.d8,aI.old,aI.cur,aI.uU,aI.small,aI.An⟩,⟨hi.iF.wf,hi.iF.shard,hi.iF.perm⟩,hi.oE,hi.qP,hi.b0,⟨a,h1⟩⟩,fun ak x k hw hp=>⟨(h.live ak x k hw hp).1,(h.live ak x k hw hp).2.later<|akx s.m t⟩,h.e8⟩
end ai
open Go.RowKit ai
variable{L:List Nat}{w w' aQ u:World}{t hf:TypeId}{n r i B ak b b9:Nat}{v v0 v1 v2 v3 v4 v5 v6:Value}{c a:Array Value}{A:c6}{m:Mem}{bz:Nat->Option (Live×c')}{o:Option (Live×c')}{d:Bool}
structure ns(L:List aA)(c:ai.Call):Prop where
 ok:Ob L c
 oP:∀b∈c.key,b<256
 s':-9223372036854775808<=c.n/\c.n<=9223372036854775807
theorem ns.Sp{L:List aA}{c:ai.Call}(h:ns L c):yN L c:=by obtain⟨p,f,g⟩:=h.ok.pol;refine⟨h.ok.lV,h.ok.px,fun _=>⟨p,f,g⟩,fun _=>h.ok.nN,h.oP,h.ok.n,h.s',fun e=>?_,fun e=>?_⟩;{have:=h.ok.kind ae;rw[e]at this;exact this ax};rcases e with e|e;{have:=h.ok.kind ae;rw[e]at this;exact this ax};have:=h.ok.kind ae;rw[e]at this;exact this ax
theorem Row.zN{size:Nat}{xs:List Value}(h:Row w t size n v xs)(aE:aq w r hf c)(j:t≠hf)(u:Value):Row (w.setCell ⟨r,i,none⟩ u) t size n v xs:=by obtain⟨h1,a,bx,l,p,f,g⟩:=h;refine⟨h1,a,bx,l,p,f,fun hn=>?_⟩;obtain⟨b,off,arr,k,e,q⟩:=g hn;exact⟨b,off,arr,k,e.ey<|e.ne aE j,q⟩
theorem cb.zN(h:cb w v L)(aE:aq w r hf c)(e:5≠hf)(u:Value):cb (w.setCell ⟨r,i,none⟩ u) v L:=⟨h.1,Row.zN h.2 aE e u⟩
theorem aoD{arr:Array Value}(aB:cX w B A m)(f:aq w A.K 87 arr)(s:arr.size=67)(g:B<=A.K)(hp:∀j,j<64->j≠ak->∃v,arr[3+j]?=some v/\qj w B A j v (bz j))(hw:ak<64)(v:Value)(o:Option (Live×c'))(av:qj w B A ak v o):
 iJ (w.setCell ⟨A.K,3+ak,none⟩ v) B A m (ih bz ak o)/\Fr B [A.K] w (w.setCell ⟨A.K,3+ak,none⟩ v):=by have h1:=aB.TM f g (3+ak) ae v;(have bU:∀(j:Nat) (x:Live) (k:c') (hD:Nat) (pol:aA) (q:Option (Live×c')),q=some (x,k)->dO w ⟨A,(j:Int),hD,pol⟩ x->hD∉[A.K]:=fun j x k hD pol q _ hc=>by obtain⟨_,au,_⟩:=hc;simpa using au.ne f ax);refine⟨⟨h1.1,⟨_,f.setCell (3+ak) v,by simpa using s,fun j h=>?_⟩,g⟩,h1.2⟩;by_cases e:j=ak;{subst e;refine⟨v,Array.getElem?_setIfInBounds_self_of_lt ae,?_⟩;rw[q5];exact av.keep h1.2 (fun x k hD pol=>bU j x k hD pol _)};obtain⟨u,l,p⟩:=hp j h e;refine⟨u,by rw[Array.getElem?_setIfInBounds_ne ae];exact l,?_⟩;rw[nk bz o e];exact p.keep h1.2 fun x k hD pol=>bU j x k hD pol _
theorem ae1(kv:Value)(k:List Nat)(w:World)(h:fj w kv k)(hk:k.length<=255):
  aR 57 #[kv] w fun e w'=>∃v',e=.returned v'/\cb w' v' k/\Below w w w':=by
 have al:=h;obtain⟨j,a,c,rfl,q,s,g⟩:=al
 cases a with
 |none=>
  have l:k=[]:=by
   cases k with
   |nil=>rfl
   |cons x k=>obtain⟨b,off,e,_⟩:=g bI;cases e
  subst l;refine(Tryz.bytes_Clone_nil 0 c w).mono ?_;rintro e w' ⟨rfl,rfl⟩;exact⟨_,rfl,⟨j,Row.nil _ _ _ none 0 ax⟩,b5 _ _⟩
 |some a=>refine(Tryz.bytes_Clone_at a k.length c (k.map fun(x:Nat)=>(x:Int)) w bI ae ?_).mono ?_;{intro i hi;obtain⟨b,off,e,f⟩:=g ae;injection e with e;subst e;rw[Addr.add_lit,f i hi];congr 2;simp[eh,eG hi]};rintro e w' ⟨v',rfl,f,_,p⟩;refine⟨v',rfl,⟨j,?_⟩,p⟩;have:=Row.own f;rw[List.map_map]at this;exact this
theorem ag5(A:c6)(ak:Nat)(c:ai.Call)(kv:Value)(B:Nat)(m:Mem)(w W:World)(aB:cX w B A m)(hc:ns A.af c)(al:Below w w W)(hk:cb W kv c.key):
 aR 83 #[P W] (W.alloc<|.cells #[.int .u8 (c.op:Nat),c.pol,kv,c.n,P A.K,ak,.int .u64 (e4 (cK c.pol c.key):Nat),false,bA] 193)
  fun e w'=>∃v,e=.returned v/\Below W W w'/\h! w' ⟨A,ak,W,A.af.getD c.pol.toNat default⟩ v (jX c)/\dO w' ⟨A,ak,W,A.af.getD c.pol.toNat default⟩ (oR c):=by have bZ:=ck [.cells #[.int .u8 (c.op:Nat),c.pol,kv,c.n,P A.K,ak,.int .u64 (e4 (cK c.pol c.key):Nat),false,bA] 193] W;have f:dO (W.alloc<|.cells #[.int .u8 (c.op:Nat),c.pol,kv,c.n,P A.K,ak,.int .u64 (e4 (cK c.pol c.key):Nat),false,bA] 193) ⟨A,ak,W,A.af.getD c.pol.toNat default⟩ (oR c):=⟨kv,aq.new W _ _,hk.keep<|bm bZ⟩;obtain⟨p,g,j⟩:=hc.ok.pol;refine(ag2 B ⟨A,ak,W,A.af.getD c.pol.toNat default⟩ (oR c) m _ ((aB.later al).later bZ) f (fun _=>⟨p,g,?_⟩) rfl hc.ok.px).mono ?_;{show A.af[p]?=some (A.af.getD c.pol.toNat default);rw[g,Int.toNat_natCast,eh,eG j];rfl};rintro e w' ⟨v,rfl,k,h⟩;exact⟨v,rfl,bZ.trans<|h.mono bZ.size,k,f.keep (bm h) bI⟩
theorem anV(B:Nat)(A:c6)(m:Mem)(bz:Nat->Option (Live×c'))(ak:Nat)(c:ai.Call)(kv:Value)(w:World)(aB:iJ w B A m bz)(T:gD A.af A.ag)(hp:bz ak=none)(hw:ak<64)(hc:ns A.af c)(hk:fj w kv c.key):
  aR 48 #[P A.K,ak,.agg #[.int .u8 (c.op:Nat),c.pol,kv,c.n]] w fun e w'=>e=.returned bA/\iJ w' B A m (ih bz ak<|some (oR c,jX c))/\Fr B [A.K] w w'/\∃arr v,aq w A.K 87 arr/\aq w' A.K 87 (arr.setIfInBounds (3+ak) v):=by
 obtain⟨arr,f,ha,uL⟩:=aB.km;obtain⟨v,av,C⟩:=uL ak hw;rw[hp]at C;have C:=C;subst C;obtain⟨D?,az,c1,cw,dg,eV,gu,mE⟩:=aB.st.core;(have r6:D?=arr:=by unfold aq at c1 f;rw[c1]at f;injection f with f;injection f);subst r6;have hlen:=hc.ok.nN;have iV:=hc.ok.pol;(have G:0<=c.pol/\c.pol<32:=by obtain⟨p,aD,aK⟩:=iV;have:=T.e8;omega);have gB:=ad fun W (al:Below w w W)=>LB A.af az c kv W (mE.keep<|bm al) T.e8 T.good hc.ok (by obtain⟨_,a,n,e,_⟩:=hk;exact⟨a,n,e⟩);have ja:=ad fun W (al:Below w w W)=>ae1 kv c.key W (hk.below al) hlen;have gC:Hid (∀(v':Value) W,cb W v' c.key->aR 82 #[c.pol,v'] W (dM (.int .u64 (e4 (cK c.pol c.key):Nat)) W)):=fun v' W h=>af2 c.pol v' c.key W h hlen G.1 G.2;have gQ:=ad fun(v':Value) W (al:Below w w W) (h:cb W v' c.key)=>ag5 A ak c v' B m w W aB.st hc al h;have q:=ad f;have S:=ad aB;have DF:=ad av;have cR:=ad hc;have fc:=ad ha;(have E:w.cell? ⟨A.K,0,none⟩=some az:=by rw[f.cell];exact dg);(have F:w.cell? ⟨A.K,3+ak,none⟩=some .nilFunc:=by rw[f.cell];exact av);have aqe:=f.lt;have aU:=τ;obtain⟨b?,lc,rfl⟩:=e? mE;obtain⟨bt,bq,rfl⟩:=e? hk;have vW:(ak:Int)<64:=ae;clear c1 cw dg eV gu mE aB uL hp hc hk f av ha T iV hlen G;generalize ie:e4 (cK c.pol c.key)=tU at*;go_enter func48,ntmps48;go_upto_region 1 with(fail);refine kX (ck [_] w) (lr w [_] rfl) ?_;intro u al au;obtain⟨ig,en,s,l⟩:=eO au;have H:=cB al E;have I:=cB al F;have cS:=ad al;have Hx:=ad au;have KX:=ad E;have DI:=ad F;clear al au E F
 go_wp2_with(first
  |(go_at_call 25;refine(J4 ak u ae ae).mono ?_;rintro e w1 ⟨rfl,rfl⟩)
  |(go_at_call 81;refine(gB.out _ cS.out).mono ?_;rintro e aQ ⟨rfl,a7⟩;have k:=ez cS.out a7;have s:=Hx.out.below a7 Hx.out.lt;have z0:=cB k KX.out;have J:=cB k DI.out;obtain⟨eb,fJ,dz,gi⟩:=eO s;have cU:=ad k;have vm:=ad s;clear a7 k s)
  |(go_at_call 57;refine(ja.out _ cU.out).mono ?_;rintro e dy ⟨gU,rfl,Z,U⟩;have k:=ez cU.out U;have l:=vm.out.below U vm.out.lt;obtain⟨dT,dC,rfl⟩:∃a bx,gU=.slice a c.key.length bx:=(by obtain⟨_,_,a,bx,e,_⟩:=Z;exact⟨a,bx,e⟩);have R:=l.free 2;have bA:=l.cell 2;have ra:=ad Z;have hG:=ad k;have qg:=ad l;clear Z U k l))
 have Z1:5≠34:=ax;refine wp_name (fun u=>Below w w u/\aq u w 34 #[.int .u8 (c.op:Nat),c.pol,.slice dT c.key.length dC,c.n]/\cb u (.slice dT c.key.length dC) c.key) ⟨hG.out.setCell (bG _) _,qg.out.setCell 2 _,ra.out.zN qg.out Z1 _⟩ ?_;rintro y ⟨fN,Y,yg⟩;have g:=ad<|bw fN<|bw Y yg;have Q:=cB fN DI.out;(have bO:Hid (∀W:World,Below y y W->W.cell? ⟨w,0,none⟩=some (.int .u8 (c.op:Nat))/\W.cell? ⟨w,1,none⟩=some (.int .i64 c.pol)/\W.cell? ⟨w,2,none⟩=some (.slice dT c.key.length dC)/\W.cell? ⟨w,3,none⟩=some (.int .i64 c.n)):=fun W al=>by have au:=g.out.2.1.below al g.out.2.1.lt;exact⟨au.cell 0,au.cell 1,au.cell 2,au.cell 3⟩);have s6:=Y.lt;clear fN Y yg Z1 R bA eb fJ dz gi z0 J ig en s l H I;have N:=ad fun W (al:Below y y W)=>gC.out _ W<|g.out.2.2.keep<|bm al;have M:=ad fun W (al:Below y y W)=>gQ.out _ W (ez g.out.1 al)<|g.out.2.2.keep<|bm al;have By:=ad fun W (al:Below y y W)=>q.out.below (ez g.out.1 al) q.out.lt;have O:w≠A.K:=by have:=q.out.lt;omega
 go_region_held3 (fun w=>type_of%(bO.out w _)) (first|exact bO.out _ bn|(simp only[aG,B?,O,ne_eq,not_false_eq_true];exact et)|fail) (first
  |(go_at_call 82;refine(N.out _ bn).mono ?_;rintro e aQ ⟨rfl,a7⟩;have dx:=ez (w:=y) bn a7;have bR:=dx.size;clear a7)
  |(go_at_call 83;refine(M.out _ bn).mono ?_;rintro e gq ⟨v4,rfl,V,ye,rv⟩;have z:=ez (w:=y) bn V;have Mx:=By.out _ z;have et:=bO.out _ z;obtain⟨ev,fg,rfl⟩:=Nh ye;have eU:gq.frozen? ⟨A.K,3+ak,none⟩=false:=Mx.free _;have hr:gq.cell? ⟨A.K,3+ak,none⟩=some .nilFunc:=cB z Q;have D:=ad<|bw V<|bw ye<|bw rv z;clear V ye rv Mx))
 all_goals go_wp2;have X:=ez g.out.1 D.out.2.2.2;have x:=S.out.keep X;obtain⟨apN,k1,fQ,e'⟩:=x.km;have d!:=aoD x.st k1 fQ x.oP (fun j aL _=>e' j aL) hw (.func (.func ev) #[] fg) (some (oR c,jX c)) ⟨aQ,A.af.getD c.pol.toNat default,D.out.2.1,D.out.2.2.1,⟨by show(0:Int)<=(ak:Int);omega,by show(ak:Int)<64;omega,fun _=>?_⟩,by have:=x.st.below.2.2.2;have:=S.out.st.below.2.2.2;have:=g.out.1.size;show B<=aQ;omega⟩;{exact mD ⟨rfl,d!.1,(Fr.pw S.out.st.below.2.2.2 X).trans d!.2,D?,_,q.out,(q.out.below X q.out.lt).setCell _ _⟩};obtain⟨p,aD,aK⟩:=cR.out.ok.pol;show A.af[c.pol.toNat]?=some (A.af.getD c.pol.toNat default);rw[aD,Int.toNat_natCast,eh,eG aK];rfl
def jk(B:Nat)(w w':World):Prop:=∃X,Fr B X w w'
theorem jk.refl(B:Nat)(w:World):jk B w w:=⟨[],Fr.refl _ _ _⟩
theorem jk.trans{a b c:World}(h:jk B a b)(k:jk B b c):jk B a c:=by obtain⟨X,h⟩:=h;obtain⟨Y,k⟩:=k;exact⟨X++Y,(h.mono (bG _) fun x au=>List.mem_append_left _ au).trans<|k.mono (bG _) fun x au=>List.mem_append_right _ au⟩
theorem jk.pw(br:B<=w)(k:Below w w w'):jk B w w':=⟨[],Fr.pw br k⟩
theorem jk.below{a:World}(h:jk B a w)(br:B<=w)(k:Below w w w'):jk B a w':=h.trans<|jk.pw br k
theorem jk.bn(h:jk B w w'):Below B w w':=by obtain⟨X,h⟩:=h;exact⟨h.os,h.tape,h.output,h.size,h.block⟩
theorem aq.Ha(h:jk B w w')(al:aq w b t a)(e:nQ t a.size=true):aq w' b t a:=by obtain⟨X,h⟩:=h;exact al.keep h e
theorem Ec{f:Array Value}(h:aq w b t a)(e:aq w b t f):a=f:=by unfold aq at h e;rw[h]at e;injection e with e;injection e
theorem al2(h:qj w B A ak v none):v=.nilFunc:=h
theorem alf(h:v=.nilFunc):qj w B A ak v none:=h
theorem qj.trans'{f:Option (Live×c')}(h:qj w B A ak v o)(e:o=f):qj w B A ak v f:=e▸h
structure o7(w:World)(B:Nat)(A:c6)(s:ai.Sys)(ak:Nat)(r:ai.Sys×(Bool×c2))(w':World):Prop where
 st:cX w' B A r.1.m
 core:∃arr v,aq w A.K 87 arr/\aq w' A.K 87 (arr.setIfInBounds (3+ak) v)/\qj w' B A ak v (r.1.bz ak)
 kW:∀j,j≠ak->r.1.bz j=s.bz j
 bh:∃X,Fr B X w w'/\∀(j:Nat) (x:Live) (k:c') (hD:Nat) (pol:aA),j≠ak->s.bz j=some (x,k)->dO w ⟨A,(j:Int),hD,pol⟩ x->hD∉X
 res:(r.2.1=false/\r.2.2=err 0)\/(r.2.1=true/\r.1.bz ak=none)
theorem o7.vI{s:ai.Sys}{r:ai.Sys×(Bool×c2)}(h:o7 w B A s ak r w'):jk B w w':=by obtain⟨X,h1,_⟩:=h.bh;exact⟨X,h1⟩
theorem o7.sys{s:ai.Sys}{r:ai.Sys×(Bool×c2)}(h:o7 w B A s ak r w')(aB:iJ w B A s.m s.bz)(hw:ak<64):iJ w' B A r.1.m r.1.bz:=by obtain⟨arr,v,k1,C,z⟩:=h.core;obtain⟨f,D,E,G⟩:=aB.km;(have F:f=arr:=by exact Ec D k1);subst F;obtain⟨X,h1,q⟩:=h.bh;refine⟨h.st,⟨_,C,by simpa using E,fun j p=>?_⟩,aB.oP⟩;by_cases e:j=ak;{subst e;exact⟨v,Array.getElem?_setIfInBounds_self_of_lt ae,z⟩};obtain⟨u,y,l⟩:=G j p;refine⟨u,by rw[Array.getElem?_setIfInBounds_ne ae];exact y,?_⟩;rw[h.kW j e];exact l.keep h1 fun x k hD pol g hc=>q j x k hD pol e g hc
theorem o7.pre{w1:World}{s:ai.Sys}{r:ai.Sys×(Bool×c2)}(al:Below w w w1)(aB:iJ w B A s.m s.bz)(h:o7 w1 B A s ak r aQ):o7 w B A s ak r aQ:=by obtain⟨X,h1,q⟩:=h.bh;obtain⟨arr,v,k1,C,z⟩:=h.core;obtain⟨g,f,_⟩:=aB.km;have e:=(f.below al f.lt);(have D:g=arr:=by exact Ec e k1);subst D;exact⟨h.st,⟨_,v,f,C,z⟩,h.kW,⟨X,(Fr.pw aB.st.below.2.2.2 al).trans h1,fun j x k hD pol y l p=>q j x k hD pol y l<|p.keep (bm al) bI⟩,h.res⟩
theorem al1{w:World}(d:Bool)(a:c2)(aE:aq aQ b9 96 cj):aq (((((((aQ.setCell b9 d).setCell ⟨b9,1,none⟩ a.e).setCell ⟨b9,2,none⟩ a.granted).setCell ⟨b9,3,none⟩ a.left).setCell ⟨b9,4,none⟩ a.wait).setCell ⟨b9,5,none⟩ a.a6).setCell ⟨b9,6,none⟩ a.now) b9 96 (nT d a):=
 ((((((aE.setCell 0 _).setCell 1 _).setCell 2 _).setCell 3 _).setCell 4 _).setCell 5 _).setCell 6 _
def q7(w:World)(b9:Nat)(d:Bool)(a:c2):World:=(((((((w.setCell b9 d).setCell ⟨b9,1,none⟩ a.e).setCell ⟨b9,2,none⟩ a.granted).setCell ⟨b9,3,none⟩ a.left).setCell ⟨b9,4,none⟩ a.wait).setCell ⟨b9,5,none⟩ a.a6).setCell ⟨b9,6,none⟩ a.now)
theorem abK{w:World}{a:c2}(aE:aq w b9 96 cj):aq (q7 w b9 d a) b9 96 (nT d a):=al1 (w:=w) d a aE
theorem aom{a:c2}(hn:b≠b9)(al:aq w b t c):aq (q7 w b9 d a) b t c:=by exact((((((al.ey hn).ey hn).ey hn).ey hn).ey hn).ey hn).ey hn
theorem aon{a:c2}(aE:aq w b9 96 cj)(aB:cX w B A m):cX (q7 w b9 d a) B A m:=by have f:=aE.setCell 0 d;have g:=f.setCell 1 a.e;have j:=g.setCell 2 a.granted;have k:=j.setCell 3 a.left;have h:=k.setCell 4 a.wait;have l:=h.setCell 5 a.a6;exact((((((aB.hZ aE _).hZ f _).hZ g _).hZ j _).hZ k _).hZ h _).hZ l _
theorem aol{aH:World}{a:c2}{X:List Nat}(al:B<=b9)(e:aH<=b9)(h:Fr B X aH w):Fr B X aH (q7 w b9 d a):=by exact((((((h.p_ (p:=⟨b9,0,none⟩) al e _).p_ (p:=⟨b9,1,none⟩) al e _).p_ (p:=⟨b9,2,none⟩) al e _).p_ (p:=⟨b9,3,none⟩) al e _).p_ (p:=⟨b9,4,none⟩) al e _).p_ (p:=⟨b9,5,none⟩) al e _).p_ (p:=⟨b9,6,none⟩) al e _
theorem abL(aE:aq w b9 96 cj):q7 w b9 false (err 0)=w:=xw aE
theorem o7.store{s:ai.Sys}{r:ai.Sys×(Bool×c2)}(aB:iJ w B A s.m s.bz)(h:o7 w B A s ak r aQ)(aE:aq aQ b9 96 cj)(g:w<=b9):
 o7 w B A s ak r (q7 aQ b9 r.2.1 r.2.2):=by obtain⟨s1,d,a⟩:=r;have al:=eB aB.st.below.2.2.2 g;obtain⟨X,h1,k⟩:=h.bh;obtain⟨arr,v,k1,f,l⟩:=h.core;have bU:=f.ne aE ax;rcases h.res with⟨aI,ha⟩|⟨aI,j⟩;{have aI:d=false:=aI;have ha:a=err 0:=ha;(have e:q7 aQ b9 d a=aQ:=by rw[aI,ha];exact abL aE);exact Eq.mpr (congrArg (fun W=>o7 w B A s ak (s1,d,a) W) e) h};have av:v=.nilFunc:=al2<|l.trans' j;refine⟨aon aE h.st,⟨arr,v,k1,aom bU f,?_⟩,h.kW,⟨X,aol al g h1,k⟩,h.res⟩;exact(alf av).trans' j.symm
theorem afs(B:Nat)(A:c6)(s:ai.Sys)(n ak:Nat)(x:Live)(k:c')(w:World)(aB:iJ w B A s.m s.bz)(T:gD A.af A.ag)(l:pM A.af A.ag s n)(hn:n<4611686018427387900)(hw:ak<64)(hp:s.bz ak=some (x,k)):
 aR 80 #[.pointer<|some ⟨A.K,3,none⟩,ak] w fun e w'=>e=.returned (.agg<|nT (qC A.af A.ag bM s ak).2.1 (qC A.af A.ag bM s ak).2.2)/\o7 w B A s ak (qC A.af A.ag bM s ak) w':=by obtain⟨arr,g,R,O⟩:=aB.km;obtain⟨v,av,D⟩:=O ak hw;rw[hp]at D;obtain⟨hD,pol,eU,hr,h7,f⟩:=D;have hi:=l.inv;rw[Fe s.bz hw,hp]at hi;have q:=l.live ak x k hw hp;have Q:=l.e8;have a8:=l.out yF T hw hp hn;(have es:qC A.af A.ag bM s ak=tc ak s (b7 bM A.af A.ag k x s.m):=by unfold qC;rw[hp]);rw[es];refine(afr B ⟨A,ak,hD,pol⟩ ak x s.m k _ v arr w rfl hw T hi q.1 q.2 h7 ae f eU aB.st hr g aB.oP av).mono ?_;rintro e w' ⟨v',d,a,rfl,y,J,z,E,M⟩;have N:=a8.aj;generalize b7 bM A.af A.ag k x s.m=o at*;obtain⟨ly,I,m1⟩:=o;(have C:∃X,Fr B X w w'/\∀(j:Nat) (x:Live) (k:c') (hD:Nat) (pol:aA),j≠ak->s.bz j=some (x,k)->dO w ⟨A,(j:Int),hD,pol⟩ x->hD∉X:=by refine⟨_,M,fun j S k' P H bU e hc=>?_⟩;have F:=afp hc hr ae;obtain⟨_,au,_⟩:=hc;have G:=au.ne g ax;simp only[ik,List.not_mem_nil,or_false,not_or];exact⟨F,G⟩);cases ly with|inl k1=>obtain⟨da,rfl,rfl⟩:=y;refine⟨rfl,⟨z,⟨arr,v',g,E,?_⟩,fun j p=>nk _ _ p,C,.inl ⟨rfl,rfl⟩⟩⟩;show qj w' B A ak v' (ih s.bz ak (some (I,k1)) ak);rw[q5];exact⟨hD,pol,da,J,⟨h7.p?,h7.p!,by intro h;have:=h7.pol;rw[N]at h⊢;exact this h⟩,f⟩|inr r=>obtain⟨rfl,rfl,rfl⟩:=y;refine⟨rfl,⟨z,⟨arr,_,g,E,?_⟩,fun j p=>nk _ _ p,C,.inr ⟨rfl,q5 _ _ _⟩⟩⟩;show qj w' B A ak _ (ih s.bz ak none ak);rw[q5];rfl
theorem al3(h:qj w B A ak v o):(v=.nilFunc\/wy v)/\Z0 v=o.isSome:=by cases o with|none=>have h:=h;subst h;exact⟨.inl rfl,rfl⟩|some q=>obtain⟨x,k⟩:=q;obtain⟨hD,pol,h1,_⟩:=h;obtain⟨f,ps,rfl⟩:=Nh h1;exact⟨.inr ⟨_,ps,rfl⟩,rfl⟩
theorem Kd(B:Nat)(A:c6)(m:Mem)(bz:Nat->Option (Live×c'))(ak:Nat)(w:World)(aB:iJ w B A m bz)(hw:ak<64):
 aR 9 #[P A.K,ak] w (ga ((bz ak).isSome) w):=by obtain⟨arr,e,j,g⟩:=aB.km;obtain⟨v,av,f⟩:=g ak hw;have h:=al3 f;rw[<-h.2];exact al5 A.K ak v w hw (by show World.cell? _ _=_;rw[e.cell];exact av) h.1
theorem afW(B:Nat)(A:c6)(s:ai.Sys)(n ak:Nat)(x:Live)(k:c')(w:World)(aB:iJ w B A s.m s.bz)(T:gD A.af A.ag)(l:pM A.af A.ag s n)(hn:n<4611686018427387900)(hw:ak<64)(hp:s.bz ak=some (x,k)):
  aR 47 #[P A.K,ak] w fun e w'=>e=.returned (.tuple #[.agg<|nT (qC A.af A.ag bM s ak).2.1 (qC A.af A.ag bM s ak).2.2,bA])/\o7 w B A s ak (qC A.af A.ag bM s ak) w':=by
 have p:=ad fun W (al:Below w w W)=>afs B A s n ak x k W (aB.keep al) T l hn hw hp
 have q:=ad (fun W (al:Below w w W)=>by
  have:=Kd B A s.m s.bz ak W (aB.keep al) hw
  rwa[hp]at this)
 have g:=ad aB;(have h:A.K<w:=by obtain⟨arr,j,_⟩:=aB.km;exact j.lt);generalize qC A.af A.ag bM s ak=r at*;obtain⟨s1,d,a⟩:=r;go_enter func47,ntmps47;go_upto_region 1 with(fail);refine kX (ck [_] w) (lr w [_] rfl) ?_;intro u al au;have f:=ad al;have Hx:=ad au
 go_wp2_with(first
  |(go_at_call 25;refine(J4 ak u ae ae).mono ?_;rintro e w1 ⟨rfl,rfl⟩)
  |(go_at_call 9;refine(q.out _ f.out).mono ?_;rintro e w1 ⟨rfl,rfl⟩)
  |(go_at_call 80;refine(p.out _ f.out).mono ?_;rintro e aQ ⟨rfl,aE⟩;obtain⟨X,y,_⟩:=aE.bh;have fp:=Hx.out.keep y rfl;have b9:=jh fp;have f0:=ji fp;have ej:=ad aE;have vl:=ad fp))
 have dv:=abK (d:=d) (a:=a) vl.out;obtain⟨u0,u1,u2,u3,u4,u5,u6⟩:=(⟨dv.cell 0,dv.cell 1,dv.cell 2,dv.cell 3,dv.cell 4,dv.cell 5,dv.cell 6⟩:(q7 aQ w d a).cell? ⟨w,0,none⟩=some (.bool d)/\(q7 aQ w d a).cell? ⟨w,1,none⟩=some (.int .i64 a.e)/\(q7 aQ w d a).cell? ⟨w,2,none⟩=some (.bool a.granted)/\(q7 aQ w d a).cell? ⟨w,3,none⟩=some (.int .i64 a.left)/\(q7 aQ w d a).cell? ⟨w,4,none⟩=some (.int .i64 a.wait)/\(q7 aQ w d a).cell? ⟨w,5,none⟩=some (.int .i64 a.a6)/\(q7 aQ w d a).cell? ⟨w,6,none⟩=some (.int .i64 a.now));show bodyPost _ _ _ _ _ (q7 aQ w d a);exact cJ (by simp[results,results47,go_sem,u0,u1,u2,u3,u4,u5,u6]) rfl ⟨rfl,o7.store g.out (o7.pre f.out g.out ej.out) vl.out<|bG _⟩
theorem afX(B:Nat)(A:c6)(m:Mem)(bz:Nat->Option (Live×c'))(ak:Nat)(w:World)(aB:iJ w B A m bz)(hw:ak<64)(hp:bz ak=none):
  aR 47 #[P A.K,ak] w (dM (.tuple #[.agg cj,.int .i64 7]) w):=by
 have j:=ad (fun W (al:Below w w W)=>by
  have:=Kd B A m bz ak W (aB.keep al) hw
  rwa[hp]at this)
 (have g:A.K<w:=by obtain⟨arr,h,_⟩:=aB.km;exact h.lt);go_enter func47,ntmps47;go_upto_region 1 with(fail);refine kX (ck [_] w) (lr w [_] rfl) ?_;intro u al au;obtain⟨b9,da,ef,ew,fa,fb,hA⟩:=jh au;obtain⟨f0,f1,f2,f3,f4,f5,f6⟩:=ji au;have f:=ad al;have Hx:=ad au
 go_wp2_with(first
  |(go_at_call 25;refine(J4 ak u ae ae).mono ?_;rintro e w1 ⟨rfl,rfl⟩)
  |(go_at_call 9;refine(j.out _ f.out).mono ?_;rintro e w1 ⟨rfl,rfl⟩))
 rw[xw Hx.out];exact B1 ⟨rfl,f.out⟩
theorem anW(B:Nat)(A:c6)(m:Mem)(bz:Nat->Option (Live×c'))(ak:Nat)(q:Live×c')(c:ai.Call)(kv:Value)(w:World)(aB:iJ w B A m bz)(T:gD A.af A.ag)(hp:bz ak=some q)(hw:ak<64)(hc:ns A.af c)(hk:fj w kv c.key):
  aR 48 #[P A.K,ak,.agg #[.int .u8 (c.op:Nat),c.pol,kv,c.n]] w (dM (.int .i64 9) w):=by
 obtain⟨arr,g,ha,G⟩:=aB.km;obtain⟨v,av,s⟩:=G ak hw;rw[hp]at s;obtain⟨x,k⟩:=q;obtain⟨hD,pol,h1,_⟩:=s;obtain⟨f,ps,rfl⟩:=Nh h1;obtain⟨H,az,c1,cw,dg,eV,gu,mE⟩:=aB.st.core;have F:=Ec c1 g;subst F;have E:=ad fun W (al:Below w w W)=>LB A.af az c kv W (mE.keep<|bm al) T.e8 T.good hc.ok (by obtain⟨_,a,n,e,_⟩:=hk;exact⟨a,n,e⟩);(have h:w.cell? ⟨A.K,0,none⟩=some az:=by rw[g.cell];exact dg);(have j:w.cell? ⟨A.K,3+ak,none⟩=some (.func (.func f) #[] ps):=by rw[g.cell];exact av);have aU:=σ (.func f) #[] ps;obtain⟨b?,lc,rfl⟩:=e? mE;obtain⟨bt,bq,rfl⟩:=e? hk;go_enter func48,ntmps48;go_upto_region 1 with(fail);refine kX (ck [_] w) (lr w [_] rfl) ?_;intro u al au;have J:=eO au;have z:=cB al h;have C:=cB al j;have l:=ad al;have I:=ad h;have y:=ad j
 go_wp2_with(first
  |(go_at_call 25;refine(J4 ak u ae ae).mono ?_;rintro e w1 ⟨rfl,rfl⟩)
  |(go_at_call 81;refine(E.out _ l.out).mono ?_;rintro e aQ ⟨rfl,a7⟩;have p:=ez l.out a7;have D:=cB p y.out;have cU:=ad p))
 exact cJ (by simp[results,results48,go_sem]) rfl ⟨rfl,cU.out⟩
theorem iJ.acc{dI:Mem}(h:iJ w B A m bz)(k:Acc w B A dI w'):iJ w' B A dI bz:=by obtain⟨arr,h1,g,j⟩:=h.km;refine⟨k.1,⟨arr,k.2.quiet _ _ _ _ h1<|.inr ⟨rfl,bI⟩,g,fun ak hw=>?_⟩,h.oP⟩;obtain⟨v,e,f⟩:=j ak hw;exact⟨v,e,f.keep k.2 fun _ _ _ _ _ _=>bI⟩
def De(s:ai.Sys)(n:Int):ai.Sys:=⟨s.m.at_<|gL<|s.m.ca+n,s.bz⟩
theorem aoT(B:Nat)(A:c6)(s:ai.Sys)(n:Int)(w:World)(aB:iJ w B A s.m s.bz)(f:0<=n)(h1:n<=4611686018427387903):
 aR 49 #[P A.K,n] w fun e w'=>e=.returned (.tuple #[(De s n).m.ca,bA])/\iJ w' B A (De s n).m (De s n).bz/\jk B w w':=by refine(af5 B A s.m n w aB.st f h1).mono ?_;rintro e w' ⟨rfl,ha⟩;exact⟨rfl,aB.acc ha,[],ha.2⟩
def lO(op:Nat):Nat:=if op<1\/6<op then 1+op%6 else op
def Ax(op:Nat)(pol:Int):Int:=if op=2\/op=3\/(op=4/\pol.tmod 2≠0)then 1 else 0
def Aw(op:Nat)(n:Int):Int:=if op=1 then gL n else n
structure o6 where
 kind:Nat
 ak:Int
 c:ai.Call
 N:Int
def ag8(c:ai.Call):ai.Call:=⟨lO c.op,Ax (lO c.op) c.pol,c.key.take 2,Aw (lO c.op) c.n⟩
def r8(p:o6):o6:=⟨p.kind%3,p.ak%18446744073709551616%5,ag8 p.c,p.N%18446744073709551616%40⟩
def qy(p:o6)(kv:Value):Array Value:=#[.int .u8 (p.kind:Nat),p.ak,.int .u8 (p.c.op:Nat),p.c.pol,kv,p.c.n,p.N]
structure FX(p:o6):Prop where
 kind:p.kind<256
 p?:-9223372036854775808<=p.ak
 p!:p.ak<=9223372036854775807
 op:p.c.op<256
 py:-9223372036854775808<=p.c.pol
 og:p.c.pol<=9223372036854775807
 nP:-9223372036854775808<=p.c.n
 f?:p.c.n<=9223372036854775807
 D5:-9223372036854775808<=p.N
 xT:p.N<=9223372036854775807
def qJ(w:World)(a:Array Value)(u:World):Prop:=Below w w u/\aq u w 36 a/\aq u (w+1) 36 #[.int .u8 0,bA,.int .u8 0,bA,(),bA,bA]
theorem qJ.set(h:qJ w a u)(i:Nat)(v:Value):qJ w (a.setIfInBounds i v) (u.setCell ⟨w,i,none⟩ v):=⟨h.1.setCell (bG _) _,h.2.1.setCell i v,h.2.2.dj _ _ bI⟩
theorem qJ.cells(h:qJ w #[v0,v1,v2,v3,v4,v5,v6] u):(aG u w 0 v0/\aG u w 1 v1/\aG u w 2 v2/\aG u w 3 v3/\aG u w 4 v4/\aG u w 5 v5/\aG u w 6 v6)/\u.frozen? ⟨w,0,none⟩=false/\u.frozen? ⟨w,1,none⟩=false/\u.frozen? ⟨w,2,none⟩=false/\u.frozen? ⟨w,3,none⟩=false/\u.frozen? ⟨w,4,none⟩=false/\u.frozen? ⟨w,5,none⟩=false/\u.frozen? ⟨w,6,none⟩=false:=
 ⟨⟨h.2.1.cell 0,h.2.1.cell 1,h.2.1.cell 2,h.2.1.cell 3,h.2.1.cell 4,h.2.1.cell 5,h.2.1.cell 6⟩,h.2.1.free 0,h.2.1.free 1,h.2.1.free 2,h.2.1.free 3,h.2.1.free 4,h.2.1.free 5,h.2.1.free 6⟩
def tV(w:World)(r:Nat)(v0 v1 v2 v3 v4 v5 v6:Value):World:=((((((w.setCell r v0).setCell ⟨r,1,none⟩ v1).setCell ⟨r,2,none⟩ v2).setCell ⟨r,3,none⟩ v3).setCell ⟨r,4,none⟩ v4).setCell ⟨r,5,none⟩ v5).setCell ⟨r,6,none⟩ v6
theorem aok{u0 u1 u2 u3 u4 u5 u6:Value}(h:aq w r t #[u0,u1,u2,u3,u4,u5,u6]):aq (tV w r v0 v1 v2 v3 v4 v5 v6) r t #[v0,v1,v2,v3,v4,v5,v6]:=by have h1:aq (((w.setCell r v0).setCell ⟨r,1,none⟩ v1).setCell ⟨r,2,none⟩ v2) r t #[v0,v1,v2,u3,u4,u5,u6]:=((h.setCell 0 v0).setCell 1 v1).setCell 2 v2;have e:aq (((((w.setCell r v0).setCell ⟨r,1,none⟩ v1).setCell ⟨r,2,none⟩ v2).setCell ⟨r,3,none⟩ v3).setCell ⟨r,4,none⟩ v4) r t #[v0,v1,v2,v3,v4,u5,u6]:=(h1.setCell 3 v3).setCell 4 v4;exact(e.setCell 5 v5).setCell 6 v6
theorem aoj{a:World}(aE:B<=r)(h:RowKit.Below B a w):RowKit.Below B a (tV w r v0 v1 v2 v3 v4 v5 v6):=B2 aE<|B2 aE<|B2 aE<|B2 aE<|B2 aE<|B2 aE<|B2 aE h
theorem abJ{Z:World}(v0 v1 v2 v3 v4 v5 v6:Value)(h:qJ w a Z):Below w w (tV Z (w+1) v0 v1 v2 v3 v4 v5 v6)/\aG (tV Z (w+1) v0 v1 v2 v3 v4 v5 v6) (w+1) 0 v0/\aG (tV Z (w+1) v0 v1 v2 v3 v4 v5 v6) (w+1) 1 v1/\aG (tV Z (w+1) v0 v1 v2 v3 v4 v5 v6) (w+1) 2 v2/\aG (tV Z (w+1) v0 v1 v2 v3 v4 v5 v6) (w+1) 3 v3/\aG (tV Z (w+1) v0 v1 v2 v3 v4 v5 v6) (w+1) 4 v4/\aG (tV Z (w+1) v0 v1 v2 v3 v4 v5 v6) (w+1) 5 v5/\aG (tV Z (w+1) v0 v1 v2 v3 v4 v5 v6) (w+1) 6 v6:=by have bd:aq (tV Z (w+1) v0 v1 v2 v3 v4 v5 v6) (w+1) 36 #[v0,v1,v2,v3,v4,v5,v6]:=aok h.2.2;exact⟨aoj (Nat.le_succ _) h.1,bd.cell 0,bd.cell 1,bd.cell 2,bd.cell 3,bd.cell 4,bd.cell 5,bd.cell 6⟩
theorem qJ.later{e:World}(h:qJ w a u)(k:Below u u e):qJ w a e:=⟨ez h.1 k,h.2.1.below k h.2.1.lt,h.2.2.below k h.2.2.lt⟩
theorem qJ.outs(h:qJ w a u):(aG u (w+1) 0 (.int .u8 0)/\aG u (w+1) 1 bA/\aG u (w+1) 2 (.int .u8 0)/\aG u (w+1) 3 bA/\aG u (w+1) 4 ()/\aG u (w+1) 5 bA/\aG u (w+1) 6 bA)/\u.frozen? ⟨w+1,0,none⟩=false/\u.frozen? ⟨w+1,1,none⟩=false/\u.frozen? ⟨w+1,2,none⟩=false/\u.frozen? ⟨w+1,3,none⟩=false/\u.frozen? ⟨w+1,4,none⟩=false/\u.frozen? ⟨w+1,5,none⟩=false/\u.frozen? ⟨w+1,6,none⟩=false:=
 ⟨⟨h.2.2.cell 0,h.2.2.cell 1,h.2.2.cell 2,h.2.2.cell 3,h.2.2.cell 4,h.2.2.cell 5,h.2.2.cell 6⟩,h.2.2.free 0,h.2.2.free 1,h.2.2.free 2,h.2.2.free 3,h.2.2.free 4,h.2.2.free 5,h.2.2.free 6⟩
theorem fj.take{a:Option Addr}{c:Nat}(h:fj w (.slice a n c) L)(k:Nat):fj w (.slice a (min L.length k) c) (L.take k):=by obtain⟨l,s,bx,e,h1,p,q⟩:=h;injection e with aO aU cr;subst aO aU cr;refine⟨fun x au=>l x<|List.mem_of_mem_take au,a,c,by rw[fG,Nat.min_comm],by rw[fG];omega,p,fun hn=>?_⟩;obtain⟨b,off,e,f⟩:=q (by rw[fG]at hn;omega);refine⟨b,off,e,fun j g=>?_⟩;rw[fG]at g;rw[f j ae,eh,eh,List.getElem?_take_of_lt ae]
theorem fj.row{a:Option Addr}{c:Nat}(h:fj w (.slice a n c) L):L.length<=c/\c<=maxLen/\(0<L.length->∃b off,a=some ⟨b,off,none⟩):=by obtain⟨_,j,bx,e,h1,f,g⟩:=h;injection e with aO aU cr;subst aO aU cr;exact⟨h1,f,fun hn=>by obtain⟨b,off,e,_⟩:=g hn;exact⟨b,off,e⟩⟩
theorem ag9(p:o6)(kv:Value)(w:World)(hk:fj w kv p.c.key)(hp:FX p):
 aR 7 #[.agg<|qy p kv] w fun e w'=>∃Q,e=.returned (.agg<|qy (r8 p) Q)/\(∀W,fj W kv p.c.key->fj W Q (r8 p).c.key)/\Below w w w':=by obtain⟨kind,ak,⟨op,pol,key,n⟩,N⟩:=p;obtain⟨h1,K,M,H,I,J,P,O,R,S⟩:=hp;dsimp only at*;obtain⟨bt,bq,rfl⟩:=e? hk;have xH:=ad hk;have E:=ad<|bw h1<|bw K<|bw M<|bw H<|bw I<|bw J<|bw P<|bw O<|bw R S;(have aU:(IntKind.u64.wrap ak).tmod 5=ak%18446744073709551616%5:=by rw[IntKind.wrap_u64,Int.tmod_eq_emod_of_nonneg ae]);(have cr:(IntKind.u64.wrap N).tmod 40=N%18446744073709551616%40:=by rw[IntKind.wrap_u64,Int.tmod_eq_emod_of_nonneg ae]);clear h1 K M H I J P O R S hk;show Calls _ _ #[.agg #[.int .u8 (kind:Nat),ak,.int .u8 (op:Nat),pol,.slice bt key.length bq,n,N]] w _;go_enter func7,ntmps7;go_upto_region 1 with(fail);refine wp_name (qJ w #[.int .u8 (kind:Nat),ak,.int .u8 (op:Nat),pol,.slice bt key.length bq,n,N]) ⟨ck [_,_] w,b3 w [_,_] 0 rfl,b3 w [_,_] 1 rfl⟩ ?_;intro u hu;have f:=ad hu;obtain⟨⟨a0,g,a2,a3,a4,a5,j⟩,f0,f1,f2,f3,f4,f5,f6⟩:=hu.cells;clear hu;go_upto_region 3 with(fail);refine wp_name (qJ w #[.int .u8 ((kind%3:Nat):Int),.int .i64<|ak%18446744073709551616%5,.int .u8 (op:Nat),pol,.slice bt key.length bq,n,N]) ((f.out.set 0 _).set 1 _) ?_;clear f a0 g a2 a3 a4 a5 j f0 f1 f2 f3 f4 f5 f6;intro X hu;have f:=ad hu;obtain⟨⟨a0,g,a2,a3,a4,a5,j⟩,f0,f1,f2,f3,f4,f5,f6⟩:=hu.cells;clear hu;go_cut [23] (fun v q=>v=.bool (decide<|op<1\/6<op)/\q=X);(case first=>by_cases a8:op=0;{subst a8;go_wp2;go_meet;exact⟨rfl,rfl⟩};by_cases D:6<op;{have k:decide (op<1\/6<op)=true:=hh<|.inr D;have g1:¬(op:Int)<1:=ae;have g2:(6:Int)<op:=ae;clear a8 D;go_wp2;go_meet;exact⟨by rw[k],rfl⟩};have k:decide (op<1\/6<op)=false:=hg ae;have g1:¬(op:Int)<1:=ae;have g2:¬(6:Int)<op:=ae;clear a8 D;go_wp2;go_meet;exact⟨by rw[k],rfl⟩);case rest=>obtain⟨rfl,rfl⟩:=hcut;have x:Hid (decide (op<1\/6<op)=true->lO op=1+op%6):=fun h=>aN<|pC h;have cU:Hid (decide (op<1\/6<op)=false->lO op=op):=fun h=>aC<|of_decide_eq_false h;generalize decide (op<1\/6<op)=df at*;go_upto_if 23 with(fail);go_cut [] (fun q=>qJ w #[.int .u8 ((kind%3:Nat):Int),.int .i64<|ak%18446744073709551616%5,.int .u8 (lO op:Nat),pol,.slice bt key.length bq,n,N] q);(case first=>cases df;{have k:=cU.out rfl;go_wp2;go_meet;rw[k];exact f.out};have k:=x.out rfl;(have g3:IntKind.u8.wrap (1+(op:Int)%6)=((1+op%6:Nat):Int):=by rw[IntKind.wrap_u8];omega);go_wp2;go_meet;rw[k];have h:=f.out.set 2<|.int .u8 ((1+op%6:Nat):Int);simp only[Int.natCast_add,Int.natCast_emod,Int.cast_ofNat_Int]at h⊢;exact h);case rest=>have hu:=hcut;clear hcut x cU;(have q?:Hid (1<=lO op/\lO op<=6):=by unfold lO;split<;>constructor<;>omega);clear f a0 g a2 a3 a4 a5 j f0 f1 f2 f3 f4 f5 f6;have f:=ad hu;obtain⟨⟨a0,g,a2,a3,a4,a5,j⟩,f0,f1,f2,f3,f4,f5,f6⟩:=hu.cells;clear hu;have dD:Hid (r8 ⟨kind,ak,⟨op,pol,key,n⟩,N⟩=⟨kind%3,ak%18446744073709551616%5,⟨lO op,Ax (lO op) pol,key.take 2,Aw (lO op) n⟩,N%18446744073709551616%40⟩):=rfl;generalize lO op=o at*;go_upto_region 7 with(fail);refine wp_name (qJ w #[.int .u8 ((kind%3:Nat):Int),.int .i64<|ak%18446744073709551616%5,.int .u8 (o:Nat),bA,.slice bt key.length bq,n,N]) (f.out.set 3 _) ?_;intro Y hu;clear f a0 g a2 a3 a4 a5 j f0 f1 f2 f3 f4 f5 f6;have f:=ad hu;obtain⟨⟨a0,g,a2,a3,a4,a5,j⟩,f0,f1,f2,f3,f4,f5,f6⟩:=hu.cells;clear hu;go_cut [56] (fun v q=>v=.bool (decide<|o=2\/o=3\/(o=4/\pol.tmod 2≠0))/\q=Y);(case first=>have a8:o=2\/o=3\/o=4\/(o≠2/\o≠3/\o≠4):=ae;rcases a8 with rfl|rfl|rfl|⟨U,fg,V⟩;{go_wp2;go_meet;exact⟨rfl,rfl⟩};{go_wp2;go_meet;exact⟨rfl,rfl⟩};{go_wp2;go_meet;exact⟨by simp only[bne];by_cases tL:pol.tmod 2=0<;>simp[tL],rfl⟩};have k:decide (o=2\/o=3\/(o=4/\pol.tmod 2≠0))=false:=hg ae;have g1:¬(o:Int)=2:=ae;have g2:¬(o:Int)=3:=ae;have g3:¬(o:Int)=4:=ae;clear U fg V;go_wp2;go_meet;exact⟨by rw[k];simp[g1,g2],rfl⟩);case rest=>obtain⟨rfl,rfl⟩:=hcut;have x:Hid (decide (o=2\/o=3\/(o=4/\pol.tmod 2≠0))=true->Ax o pol=1):=fun h=>aN<|pC h;have cU:Hid (decide (o=2\/o=3\/(o=4/\pol.tmod 2≠0))=false->Ax o pol=0):=fun h=>aC<|of_decide_eq_false h;generalize decide (o=2\/o=3\/(o=4/\pol.tmod 2≠0))=df at*;go_upto_if 56 with(fail);go_cut [] (fun q=>qJ w #[.int .u8 ((kind%3:Nat):Int),.int .i64<|ak%18446744073709551616%5,.int .u8 (o:Nat),Ax o pol,.slice bt key.length bq,n,N] q);(case first=>cases df;{have k:=cU.out rfl;go_wp2;go_meet;rw[k];exact f.out};have k:=x.out rfl;go_wp2;go_meet;rw[k];exact f.out.set 3 _);case rest=>have hu:=hcut;clear hcut x cU;clear f a0 g a2 a3 a4 a5 j f0 f1 f2 f3 f4 f5 f6;have f:=ad hu;obtain⟨⟨a0,g,a2,a3,a4,a5,j⟩,f0,f1,f2,f3,f4,f5,f6⟩:=hu.cells;clear hu;generalize Ax o pol=l at*;go_upto_region 9 with(fail);go_cut [] (fun q=>qJ w #[.int .u8 ((kind%3:Nat):Int),.int .i64<|ak%18446744073709551616%5,.int .u8 (o:Nat),l,.slice bt (min key.length 2) bq,n,N] q);(case first=>have s:=xH.out.row;generalize key.length=eX at*;by_cases T:eX<=2;{have hm:min eX 2=eX:=ae;have g1:eX<=bq:=s.1;cases bt with|none=>(obtain rfl:eX=0:=by refine q9 fun h=>?_;obtain⟨b,off,e⟩:=s.2.2 ae;cases e);clear s T;go_wp2;go_meet;exact f.out.set 4 _|some mh=>clear s;go_wp2;go_meet;rw[hm,show(min (eX:Int) 2).toNat=eX by omega];exact f.out.set 4 _};have hm:min eX 2=2:=ae;have g1:eX<=bq:=s.1;obtain⟨b,off,rfl⟩:=s.2.2 ae;have g2:(2:Int)<=bq:=ae;clear s;go_wp2;go_meet;rw[hm,show(min (eX:Int) 2).toNat=2 by omega];exact f.out.set 4 _);case rest=>have hu:=hcut;clear hcut;clear f a0 g a2 a3 a4 a5 j f0 f1 f2 f3 f4 f5 f6;have f:=ad hu;obtain⟨⟨a0,g,a2,a3,a4,a5,j⟩,f0,f1,f2,f3,f4,f5,f6⟩:=hu.cells;clear hu;have F:Hid (∀W,fj W (.slice bt key.length bq) key->fj W (.slice bt (min key.length 2) bq) (key.take 2)):=fun W h=>h.take 2;generalize min key.length 2=eX at*;have G:o=1\/o≠1:=ae;have hn:=E.out.2.2.2.2.2.2.2.1;have G:o=1\/o≠1:=ae;have hn:=E.out.2.2.2.2.2.2.2.1;rcases G with rfl|a8;{have k:Aw 1 n=gL n:=rfl;go_upto_region 13 with(go_at_call 20;refine(amt n wc hn).mono ?_;rintro e aQ ⟨rfl,a7⟩;have hu:=f.out.later a7;clear f a0 g a2 a3 a4 a5 j f0 f1 f2 f3 f4 f5 f6;have f:=ad hu;obtain⟨⟨a0,g,a2,a3,a4,a5,j⟩,f0,f1,f2,f3,f4,f5,f6⟩:=hu.cells;clear hu a7);refine wp_name (qJ w #[.int .u8 ((kind%3:Nat):Int),.int .i64<|ak%18446744073709551616%5,.int .u8 (1:Nat),l,.slice bt eX bq,gL n,.int .i64<|N%18446744073709551616%40]) ((f.out.set 5 _).set 6 _) ?_;clear f a0 g a2 a3 a4 a5 j f0 f1 f2 f3 f4 f5 f6;intro Z hu;have f:=ad hu;obtain⟨⟨a0,g,a2,a3,a4,a5,j⟩,f0,f1,f2,f3,f4,f5,f6⟩:=hu.cells;obtain⟨⟨b9,da,ef,ew,fa,fb,hA⟩,dN,s1,s2,dr,ea,fi,u'⟩:=hu.outs;clear hu;go_wp2;have bd:=abJ (.int .u8<|(kind:Int)%3) (.int .i64<|ak%18446744073709551616%5) (.int .u8 (1:Nat)) l (.slice bt eX bq) (gL n) (.int .i64<|N%18446744073709551616%40) f.out;clear a0 g a2 a3 a4 a5 j f0 f1 f2 f3 f4 f5 f6 b9 da ef ew fa fb hA dN s1 s2 dr ea fi u';show bodyPost _ _ _ _ _ (tV Z (w+1) (.int .u8<|(kind:Int)%3) (.int .i64<|ak%18446744073709551616%5) (.int .u8 (1:Nat)) l (.slice bt eX bq) (gL n)<|.int .i64<|N%18446744073709551616%40);generalize tV Z (w+1) (.int .u8<|(kind:Int)%3) (.int .i64<|ak%18446744073709551616%5) (.int .u8 (1:Nat)) l (.slice bt eX bq) (gL n) (.int .i64<|N%18446744073709551616%40)=W at*;obtain⟨C,z0,y,z2,z3,z4,z5,z⟩:=bd;exact cJ (v:=.agg #[.int .u8<|(kind:Int)%3,.int .i64<|ak%18446744073709551616%5,.int .u8 (1:Nat),l,.slice bt eX bq,gL n,.int .i64<|N%18446744073709551616%40]) (by simp[results,results7,go_sem,z0,y,z2,z3,z4,z5,z]) rfl ⟨.slice bt eX bq,by rw[dD.out,k];simp[qy],fun W al=>(by rw[dD.out];exact F.out W al),C⟩};have k:Aw o n=n:=aC a8;have g1:¬(o:Int)=1:=ae;clear a8;go_upto_region 13 with(fail);refine wp_name (qJ w #[.int .u8 ((kind%3:Nat):Int),.int .i64<|ak%18446744073709551616%5,.int .u8 (o:Nat),l,.slice bt eX bq,n,.int .i64<|N%18446744073709551616%40]) (f.out.set 6 _) ?_;clear f a0 g a2 a3 a4 a5 j f0 f1 f2 f3 f4 f5 f6;intro Z hu;have f:=ad hu;obtain⟨⟨a0,g,a2,a3,a4,a5,j⟩,f0,f1,f2,f3,f4,f5,f6⟩:=hu.cells;obtain⟨⟨b9,da,ef,ew,fa,fb,hA⟩,dN,s1,s2,dr,ea,fi,u'⟩:=hu.outs;clear hu;go_wp2;have bd:=abJ (.int .u8<|(kind:Int)%3) (.int .i64<|ak%18446744073709551616%5) (.int .u8 (o:Nat)) l (.slice bt eX bq) n (.int .i64<|N%18446744073709551616%40) f.out;clear a0 g a2 a3 a4 a5 j f0 f1 f2 f3 f4 f5 f6 b9 da ef ew fa fb hA dN s1 s2 dr ea fi u';show bodyPost _ _ _ _ _ (tV Z (w+1) (.int .u8<|(kind:Int)%3) (.int .i64<|ak%18446744073709551616%5) (.int .u8 (o:Nat)) l (.slice bt eX bq) n<|.int .i64<|N%18446744073709551616%40);generalize tV Z (w+1) (.int .u8<|(kind:Int)%3) (.int .i64<|ak%18446744073709551616%5) (.int .u8 (o:Nat)) l (.slice bt eX bq) n (.int .i64<|N%18446744073709551616%40)=W at*;obtain⟨C,z0,y,z2,z3,z4,z5,z⟩:=bd;exact cJ (v:=.agg #[.int .u8<|(kind:Int)%3,.int .i64<|ak%18446744073709551616%5,.int .u8 (o:Nat),l,.slice bt eX bq,n,.int .i64<|N%18446744073709551616%40]) (by simp[results,results7,go_sem,z0,y,z2,z3,z4,z5,z]) rfl ⟨.slice bt eX bq,by rw[dD.out,k];simp[qy],fun W al=>(by rw[dD.out];exact F.out W al),C⟩
theorem o7.later{dy:World}{s:ai.Sys}{r:ai.Sys×(Bool×c2)}(h:o7 w B A s ak r aQ)(al:Below aQ aQ dy):o7 w B A s ak r dy:=by obtain⟨X,h1,f⟩:=h.bh;obtain⟨arr,v,k1,e,g⟩:=h.core;exact⟨h.st.later al,⟨arr,v,k1,e.below al e.lt,g.keep (bm al) fun _ _ _ _ _ _=>bI⟩,h.kW,⟨X,h1.below h.st.below.2.2.2 al,f⟩,h.res⟩
def zE(af:List aA)(ag:Nat)(s:ai.Sys)(p:o6):ai.Sys:=if p.kind=0 then(qC af ag bM s p.ak.toNat).1 else if p.kind=1 then q6 s p.ak.toNat p.c else De s p.N
structure D6(af:List aA)(p:o6):Prop where
 kind:p.kind<3
 ak:∃j:Nat,p.ak=j/\j<64
 aj:p.kind=1->ns af p.c
 D5:0<=p.N
 xT:p.N<=4611686018427387903
