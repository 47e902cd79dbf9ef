import Derived.Test.YtoglcccmgnjchaaGreatTa15
set_option linter.all false
set_option maxHeartbeats 8000000
set_option maxRecDepth 100000
namespace Go.Proofs.YtoglcccmgnjchaaGreat
open Go.Proofs.Tryz PL
namespace ai
variable {B : Below} {af:List aA} {ag:Nat}
variable{H:Nat->Mem}{n d:Nat}{m:Mem}{x:Live}{k:c'}
theorem o5.later{H':Nat->Mem}{P u:List Int}{dI:Mem}(h:o5 B af ag H n d P m x k)(ha:wu H H' n)(hw:(H n).aZ=m.aZ)(o:H' (n+1)=dI)(i:∀s∈P,s∈u)(e:dA m dI)(A:m.ca<=dI.ca)(aI:eL dI)(aB:x.sum=e4 (cK x.aj.pol x.aj.key))(hk:mB af ag m x k):o5 B af ag H' (n+1) d u dI x k:=by cases k with|allow f a t c=>exact⟨h.1.later ha hw o i e aI aB hk.2,h.2⟩|k? c=>exact⟨h.1,by have:=h.2.1;omega,by rw[ha _ (by have:=h.2.1;omega)];exact h.2.2.1,by rw[ha _ h.2.1];exact h.2.2.2.1,h.2.2.2.2⟩|h0 w b s t=>exact wR.later h ha hw o i e aI aB hk|i' w b s v t=>exact wR.later h ha hw o i e aI aB hk.1|put f a t c r=>exact sF.later h ha hw o i e aI aB hk.1|ke j s g ah v rest q=>obtain⟨cells,now,h1,C,z⟩:=h;obtain⟨_,⟨l,y,p⟩,_⟩:=hk;have b:=fM (s:=j) y;exact⟨cells,now,h1,ae,z.later e (by rw[p];exact b.1)<|by rw[p];exact b.2⟩|_=>trivial
theorem o5.tick{P:List Int}(h:o5 B af ag H n d P m x k){c:Int}(hc:m.ca<=c):o5 B af ag H n d P (m.at_ c) x k:=by cases k with|ke j s g ah v rest q=>obtain⟨cells,now,h1,b,a⟩:=h;exact⟨cells,now,h1,Int.le_trans b hc,⟨a.v1,a.v2,a.le,a.eq,a.iF,a.e8⟩⟩|_=>exact h
theorem Eh(bY:jD af m)(pol:Int)(key:List Nat)(g:0<=pol)(h1:pol<32):
 (∃c,Has m c/\c.pol=pol/\c.key=key/\cellAt m pol key=c)\/((∀c,Has m c->¬(c.pol=pol/\c.key=key))/\cellAt m pol key=⟨pol,key,0,[]⟩):=by have hw:=Ei bY<|e4<|cK pol key;cases e:e0 (mX m<|e4<|cK pol key) pol key with|true=>obtain⟨c,_,b,a,f⟩:=xA e;have ok:=hw.ok c f;obtain⟨aO,aU⟩:=Na ok.py ok.og g h1 b;refine .inl ⟨c,?_,aO,aU,a⟩;unfold Has eu;rw[aO,aU];exact f|false=>obtain⟨b,a⟩:=v8 hw e;refine .inr ⟨fun c hc=>?_,b⟩;rintro⟨rfl,rfl⟩;exact a c hc rfl
theorem XQ(H:eL m){ah v j l:Nat}{cells:List Cell}{p:Cell->Bool}(g:l<=4)(hw:ah=aW l j)(av:y5 af ag m ah v cells)(e:m.ah ah=v)(hc:m.count<4611686018427387900)(d:Cell):
 Has (m.cy ah (v+1)<|cells.filter p) d<->Has m d/\(gR m (eu d)=ah->p d=true):=by have b:=fM (s:=j) g;rw[<-hw]at b;have o:=av.eq e;have r:=av.v1;have t:=av.v2;have f:m.live ah:=⟨ae,ae⟩;have c:=H.small ah b.1 b.2;rw[ov f.2,e]at c;(have q:v+1<c4:=by have:=c.1;unfold c4;omega);unfold Has;rw[Wo H _ b.1 b.2 f ae q];split;{rename_i a;rw[List.mem_filter];unfold mX;rw[a,aC ae,o];simp};rename_i a;exact⟨fun h=>⟨h,fun i=>absurd i a⟩,fun h=>h.1⟩
end ai
namespace ai
structure vo(B:Below)(af:List aA):Prop where
 take:∀p c n,(c.held.length:Int)<p.bl->1<=n->n<=4611686018427387903->n∉c.held->(fI B p c n).1.e=0/\(fI B p c n).1.a6=n/\(fI B p c n).1.now=0
 full:∀p c n,(c.held.length:Int)=p.bl->1<=n->n<=4611686018427387903->n∉c.held->fI B p c n=(err 9,c)
 held:∀p c n,(∀s∈(fI B p c n).2.held,s∈c.held\/s=n)/\∀s∈(g' B p c n).2.held,s∈c.held
 idle:∀p∈af,p.kind=1->∀aJ now n:Int,0<=now->aJ<=now->now<=4611686018427387903->0<=n->n<=4611686018427387903->(B.decide p aJ now n).1=(B.decide p 0 now n).1/\(B.decide p aJ now n).2.2=(B.decide p 0 now n).2.2/\((B.decide p aJ now n).1=true->n≠0->(B.decide p aJ now n).2.1=(B.decide p 0 now n).2.1)/\B.left p aJ now=B.left p 0 now/\B.sub aJ now=B.sub 0 now
theorem Xn(B:Below)(p:aA)(c:Cell)(n:Int):(g' B p c n).1.now=0:=by unfold g';dsimp only;split<;>rfl
theorem ahq{B:Below}{p:aA}{c:Cell}{n:Int}(h:(g' B p c n).1.e≠0):(g' B p c n).2=c:=by unfold g' at h⊢;dsimp only at h⊢;split;{rename_i e;rw[aN e]at h;exact absurd rfl h};rfl
end ai
namespace ai
variable {B : Below} {af:List aA} {ag:Nat}
variable{H:Nat->Mem}{n d' a aw d q:Nat}{bL x:Live}{k:c'}{m:Mem}{r:c2}{t:Bool}{c:Cell}{gf pol:Int}{mg:List Int}{key:List Nat}
structure fx(B:Below)(af:List aA)(ag:Nat)(H:Nat->Mem)(n d':Nat)(P:List Int)(bL:Live)(o:Out):Prop where
 on:∀k,o.1=.inl k->o5 B af ag (cQ H (n+1) o.2.2) (n+1) d' P o.2.2 o.2.1 k
 fin:∀r,o.1=.inr r->bL.aj.op<=4->d'<=n+1/\(counts bL.aj r=true->vq B af (cQ H (n+1) o.2.2) bL.aj d' r)
theorem fx.more{P:List Int}(h:o5 B af ag (cQ H (n+1) m) (n+1) d' P m x k):fx B af ag H n d' P bL (more k x m):=
 ⟨fun k' e=>by cases e;exact h,fun r e=>by cases e⟩
theorem fx.done{P:List Int}(aI:d'<=n+1)(h:counts bL.aj r=true->vq B af (cQ H (n+1) m) bL.aj d' r):fx B af ag H n d' P bL (ai.fin r x m):=
 ⟨fun k e=>(by cases e),fun oU e b=>by cases e;exact⟨aI,h⟩⟩
theorem fx.big{P:List Int}(h:5<=bL.aj.op):fx B af ag H n d' P bL (ai.fin r x m):=
 ⟨fun k e=>(by cases e),fun oU e b=>ae⟩
theorem fx.hN{P:List Int}(hc:x.aj=bL.aj)(aI:d'<=n+1)(h:counts bL.aj r=true->vq B af (cQ H (n+1) m) bL.aj d' r):fx B af ag H n d' P bL (ai.hN r x m):=by unfold ai.hN;split;{refine fx.more ⟨aI,?_⟩;rw[hc];exact h};exact fx.done aI h
theorem fx.kE{P:List Int}{f:hT}(h:sF B af (cQ H (n+1) m) (n+1) d' P x f c r):fx B af ag H n d' P bL (ai.more (ai.kE ag f a t c r x) x m):=by refine fx.more ?_;unfold ai.kE;split;{exact h};exact h
theorem fx.iC{P:List Int}{j s:Nat}{g:Int}(h:5<=bL.aj.op):fx B af ag H n d' P bL (ai.iC j s g x m):=by unfold ai.iC;split;{exact fx.big h};exact fx.more trivial
theorem ahc{P:List Int}(hm:m=(H n).at_ gf)(aI:eL m)(bY:jD af m)(au:iT af x)(g:x.aj.op<=4)(T:gD af ag)(i:aw<=4)(f:m.live (aW aw x.sum))(h:∀c,Has m c->∀s∈c.held,s∈P):
 rR (cQ H (n+1) m.bN) (n+1) (n+1) P x ⟨aW aw x.sum,m.ah<|aW aw x.sum,m.b4<|aW aw x.sum⟩/\cellAt m x.aj.pol x.aj.key=ku x ⟨aW aw x.sum,m.ah<|aW aw x.sum,m.b4<|aW aw x.sum⟩:=by(have hc:cellAt m x.aj.pol x.aj.key=ku x ⟨aW aw x.sum,m.ah<|aW aw x.sum,m.b4<|aW aw x.sum⟩:=by unfold ai.cellAt ku;rw[<-au.sum,Qc aI i f]);(have hn:cellAt (H n) x.aj.pol x.aj.key=ku x ⟨aW aw x.sum,m.ah<|aW aw x.sum,m.b4<|aW aw x.sum⟩:=by rw[<-hc,hm];rfl);have e:=(xn T au g).2;refine⟨⟨ae,bG _,?_,?_,fun _ t h1 b=>?_,fun s aB=>?_⟩,hc⟩;{rw[Nat.add_sub_cancel,cD _ _ ae];exact hn};{rw[ht];exact hc};{rw[show t=n+1 by omega,ht];exact hc};rw[<-hc]at aB;rcases Eh bY x.aj.pol x.aj.key e.1 e.2 with⟨c,h1,_,_,b⟩|⟨_,b⟩;{rw[b]at aB;exact h c h1 s aB};rw[b]at aB;cases aB
theorem Tj{P:List Int}{dI:Mem}{f:hT}(h:rR (cQ H (n+1) dI) (n+1) (n+1) P x f)(hk:(dq af x.aj).kind=2)(hn:r.now=0)(aI:Oe B af x.aj (ku x f) r (ku x f)):vq B af (cQ H (n+1) dI) x.aj (n+1) r:=by refine⟨ae,⟨n,ae,fun t h1 b=>by rw[show t=n by omega,Nat.add_sub_cancel],fun h1=>(by rw[hk]at h1;cases h1),by rw[hn];decide⟩,?_⟩;rw[h.was,h.is];exact aI
theorem afo(br:vo B af)(T:gD af ag){P:List Int}(au:iT af x)(g:x.aj.op<=4)(bY:jD af m)(h:rR (cQ H (n+1) m.bN) (n+1) (n+1) P x ⟨aW aw x.sum,m.ah<|aW aw x.sum,m.b4<|aW aw x.sum⟩)(aB:0<x.a6->x.a6∉P):
 fx B af ag H n (n+1) P x (kG B af ag .aj (aW aw x.sum) (m.ah<|aW aw x.sum) (m.b4<|aW aw x.sum) x m.bN):=by have aS:=(xn T au g).1;have i:=(Qw T au g<|bY.at_<|aW aw x.sum).perm;have j:=Qr (bY.wf<|aW aw x.sum) (xn T au g).2.1 (xn T au g).2.2 (key:=x.aj.key);unfold kG;dsimp only;generalize u:(⟨aW aw x.sum,m.ah<|aW aw x.sum,m.b4<|aW aw x.sum⟩:hT)=f at*;(have v:ei (m.b4<|aW aw x.sum) x.aj.pol x.aj.key=ku x f:=by rw[<-u];rfl);rw[v]at i j⊢;rw[j.1]at i;split;{exact fx.more ⟨h,rfl⟩};split;{rename_i a8;have hk:(dq af x.aj).kind=2:=au.nM<|.inl a8;have l:=i.2 hk;unfold r0;split;{rename_i he;refine fx.hN rfl (bG _) fun _=>Tj h hk rfl ⟨fun e=>ae,fun _=>.inr ⟨rfl,he,rfl⟩,fun e=>ae,fun e=>ae⟩};split;{rename_i he s;have b:=br.take (c_ af x) (ku x f) x.a6 (by have h1:((ku x f).held.length:Int)<=(c_ af x).bl:=l;omega) ae au.E? fun q=>aB s<|h.old _ q;refine fx.kE ⟨h,b.1,⟨fun e=>ae,fun _=>.inl ⟨by rw[b.2.1];omega,by rw[b.2.1];rfl,b.1⟩,fun e=>ae,fun e=>ae⟩,fun e=>(by rw[hk]at e;cases e),by rw[b.2.2];decide,fun _=>b.2.1⟩};rename_i he _;exact fx.more ⟨h,rfl,by have h1:((ku x f).held.length:Int)<=(c_ af x).bl:=l;show _<(c_ af x).bl;omega⟩};split;{rename_i a8;have hk:(dq af x.aj).kind=2:=au.nM<|.inr a8;split;{rename_i he;refine fx.done (bG _) fun _=>Tj h hk (Xn _ _ _ _) ⟨fun e=>ae,fun e=>ae,fun _=> ?_,fun e=>ae⟩;exact Prod.ext rfl (ahq he)};rename_i he;exact fx.kE ⟨h,q9 he,⟨fun e=>ae,fun e=>ae,fun _=>rfl,fun e=>ae⟩,fun e=>(by rw[hk]at e;cases e),by rw[Xn];decide,fun e=>ae⟩};split;{rename_i h1 o p hk;refine fx.done (bG _) fun _=>Tj h hk (by show(k! B (c_ af x) (ku x f) 0).now=0;unfold k!;rw[aN<|show (c_ af x).kind=2 from hk]) ⟨fun e=>absurd e h1,fun e=>absurd e o,fun e=>absurd e p,fun _=>⟨?_,rfl⟩⟩;unfold k!;rw[aN hk,aN<|show (dq af x.aj).kind=2 from hk];rfl};rename_i h1 o p hk;have hw:=h.was;have hi:=h.is;refine fx.more ⟨ae,bG _,hw,hi,?_⟩;rcases aS with q|q;{exact q.1};exact absurd q.1 hk
theorem WX(br:vo B af)(T:gD af ag){P:List Int}{t:Then}{sum:Nat}(hm:m=(H n).at_ gf)(aI:eL m)(bY:jD af m)(au:iT af x)(b:rZ x sum t)(l:aw<=4)(h:∀c,Has m c->∀s∈c.held,s∈P)(aB:0<x.a6->x.a6∉P):
 fx B af ag H n (n+1) P x (oG B af ag sum (aW aw sum) (m.ah<|aW aw sum) (m.b4<|aW aw sum) t x m.bN):=by unfold oG;split;{exact fx.more trivial};rename_i hw;have f:m.live (aW aw sum):=⟨ae,ae⟩;cases t with|d? j s g=>unfold kG;dsimp only;have:=b.1;split;{exact fx.iC ae};exact fx.more trivial|aj=>obtain⟨e,i⟩:=b;subst i;exact afo br T au e bY (ahc hm aI bY au e T l f h).1 aB
def BU:c'->Prop
 |.h0 _ _ _ (.back _)=>False
 |.i' _ _ _ _ (.back _)=>False
 |_=>True
theorem rR.HF{P:List Int}{f:hT}(h:rR H n d P x f)(b:∀s∈P,s∈mg):rR H n d mg x f:=⟨h.d1,h.d2,h.was,h.is,h.still,fun s q=>b s<|h.old s q⟩
theorem o5.HF{P:List Int}(h:o5 B af ag H n d P m x k)(b:∀s∈P,s∈mg):o5 B af ag H n d mg m x k:=by
 have w:∀t,wR B af H n d P x t->wR B af H n d mg x t:=fun t h=>by
  cases t with
  |back t=>cases t<;>exact h
  |ag f a t c r=>exact⟨h.fo.HF b,h.ok,h.vB,h.now,h.tick,h.b0⟩
  |a6 f a t c=>exact⟨h.1.HF b,h.2⟩
 cases k with|allow f a t c=>exact⟨h.1.HF b,h.2⟩|h0=>exact w _ h|i'=>exact w _ h|put f a t c r=>exact⟨rR.HF h.fo b,h.ok,h.vB,h.now,sF.tick h,h.b0⟩|_=>exact h
theorem Nt{P:List Int}(l i:Nat):o5 B af ag H n d P m x (pv l i):=by unfold pv;split<;>trivial
theorem Xj{P:List Int}(t:nY)(L:List Cell):o5 B af ag H n d P m x (vG t L):=by cases t<;>trivial
theorem ami{f:hT}(aI:eL m)(au:iT af x)(hp:tu af ag m x f a t c)(e:m.ah f.ah=f.v)(hc:m.count<4611686018427387900)(o:jD af (m.cy f.ah (f.v+1)<|h9 f.cells a t c))(h:0<=x.aj.pol/\x.aj.pol<32):cellAt (m.cy f.ah (f.v+1)<|h9 f.cells a t c) x.aj.pol x.aj.key=c:=by have g:=Q5 aI au.sum hp e hc;have b:=hp.2.2.2.2.2;rcases Eh o x.aj.pol x.aj.key h.1 h.2 with⟨bx,h1,j,l,i⟩|⟨h1,_⟩;{rw[i];have:=(g bx).1 h1;rwa[aN<|by unfold bH;rw[j,l,b.pol,b.key]]at this};exact absurd ⟨b.pol,b.key⟩<|h1 c<|(g c).2<|by rw[aN rfl]
theorem aml{f:hT}(aI:eL m)(au:iT af x)(bY:jD af m)(hp:tu af ag m x f a t c)(e:m.ah f.ah=f.v)(hc:m.count<4611686018427387900)(o:jD af (m.cy f.ah (f.v+1)<|h9 f.cells a t c))(i:0<=x.aj.pol/\x.aj.pol<32)(j:0<=pol)(h1:pol<32)(bU:¬(pol=x.aj.pol/\key=x.aj.key)):cellAt (m.cy f.ah (f.v+1)<|h9 f.cells a t c) pol key=cellAt m pol key:=by have l:=Q5 aI au.sum hp e hc;have h:=hp.2.2.2.2.2;(have g:∀d:Cell,bH d=cK pol key->bH d≠bH c:=fun d b he=>by rw[b]at he;unfold bH at he;rw[h.pol,h.key]at he;obtain⟨aO,aU⟩:=Na j h1 i.1 i.2 he;exact bU ⟨aO,aU⟩);refine(find_congr (Ei o _) (Ei bY _) fun d b=>?_).1;have:=l d;rw[aC<|g d b]at this;unfold Has eu at this;rw[<-show bH d=cK d.pol d.key from rfl,b]at this;exact this
theorem an_(dQ:Sound B)(br:vo B af)(T:gD af ag){P:List Int}(hm:m=(H n).at_ gf)(h1:fe af ag m (nC x k+q))(u:iT af x)(hk:mB af ag m x k)(hc:m.count<4611686018427387900)
   (hp:o5 B af ag H n d P m x k)(L:∀t,t<=n->(H t).ca<=m.ca)(X:∀c,Has m c->∀s∈c.held,s∈P)(hle:∀s∈P,s<=m.ah 33)(aB:BU k->0<x.a6->x.a6∉P):
   fx B af ag H n (o_ k m n d) P x (b7 B af ag k x m):=by
 have aI:=h1.dir;have bY:=h1.iF;(have hw:(H n).aZ=m.aZ:=by rw[hm];rfl);have a8:=Ky dQ T h1 u hk hc;have cc:=dA.bN m;have S:=aI.bN;have ha:wu H (cQ H (n+1) m.bN) n:=wu.cQ H n _;have hu:cQ H (n+1) m.bN (n+1)=m.bN:=ht _ _ _
 cases k with
 |find sum t=>unfold b7;dsimp only;split<;>exact fx.more trivial
 |enter sum ah t=>obtain⟨p,l,V,rfl⟩:=hk;exact WX br T hm aI bY u p V X<|aB trivial
 |lk ah t=>unfold b7;dsimp only;split;{exact fx.more (Xj _ _)};·exact fx.more trivial
 |mZ ah v a_ t=>unfold b7;dsimp only;split;{exact fx.more (Xj _ _)};·exact fx.more trivial
 |half aw shard a_ t=>unfold b7;dsimp only;split;{rename_i bd;obtain⟨l,rfl,V,iD,ay,bg,p⟩:=hk;cases t with|find sum t=>obtain⟨p,rfl⟩:=p;unfold mK;dsimp only;rw[aC bd];exact WX br T hm aI bY u p ae X (aB trivial)|one O i h=>exact fx.more trivial|two O i=>exact fx.more (Nt _ _)};·exact fx.more trivial
 |m? aw shard a_ h t=>unfold b7 mK;dsimp only;cases t with|find sum t=>dsimp only;rw[aN rfl];exact fx.more trivial|one O i h=>exact fx.more trivial|two O i=>exact fx.more<|Nt _ _
 |split=>have o:x.aj.op=6:=hk;unfold b7;dsimp only;split;{exact fx.more (Nt _ _)};split;{exact fx.big ae};·exact fx.more trivial
 |om d aw=>unfold b7;dsimp only;split;{exact fx.more (Nt _ _)};·exact fx.more trivial
 |pr aw=>exact fx.big (by have:=hk.1;omega)
 | h0 ah de stop t =>
   unfold b7;dsimp only;split
   . rename_i e
     cases t with
     | back t =>
       exfalso
       have Z:ah=32/\stop=wP:=by
         cases t with
         |done r=>exact⟨hk.2.1,hk.2.2.2.1⟩
         |d? j s g=>exact⟨hk.2.1,hk.2.2.1⟩
       rw[Z.1,Z.2]at e;have:=h1.qP;have:=T.zJ;unfold wP at e;omega
     | ag f a Q c r =>have o:=hk.2.2.2.1;refine fx.done (d':=d) (by have:d<=n:=hp.fo.d2;omega) fun h=> ?_;unfold counts at h;rcases o with o|o;{rw[aN o]at h;simp [err]at h};· rw[aC ae,aN o]at h;simp [err]at h
     | a6 f a Q c =>have o:=hk.2.2.2.1;refine fx.hN (d':=d) rfl (by have:d<=n:=hp.1.d2;omega) fun h=> ?_;unfold counts at h;rw[aC ae,aN o]at h;simp [err]at h
   . exact fx.more<|wR.later hp ha hw hu (fun s h=>h) cc S u.sum hk
 | i' ah de stop v t =>have w:=a8.later;have hi:=a8.inv;have z:=a8.ca;clear a8;obtain⟨I,JW,sd,MC⟩:=hk;unfold b7 at w hi z ⊢;dsimp only at w hi z ⊢;by_cases e:m.ah ah=v;{rw[ko e]at w hi z ⊢;dsimp only at w hi z ⊢;rw[aN rfl]at w hi z ⊢;rw[Ub]at w hi z;have G:=wR.later (H':=cQ H (n+1)<|m.cy ah ((v+de)%e7) []) hp (wu.cQ H n _) hw (ht _ _ _) (fun s h=>h) w hi.dir u.sum I;cases t with| back t =>(cases t with|done r=>exact fx.done G.1 G.2|d? j s g=>exact fx.iC (by have:=I.1;omega))|ag f a Q c r=>exact fx.more (sF.same G rfl rfl)|a6 f a Q c=>obtain⟨w2,fN,EU,o,E⟩:=I;have fW:(dq af x.aj).kind=2:=u.nM<|.inl o;obtain⟨y,F,qu⟩:=G;have M6:v<=stop:=MC (fun b e=>by cases e);(have M:m.ah 33=v:=by rw[w2]at e;exact e);(have dR:(v+de)%e7=v+1:=by rw[fN];unfold e7;omega);(have Rq:((v+1:Nat):Int)∉c.held:=fun Y=>by rw[F]at Y;have:=hle _<|hp.1.old _ Y;rw[M]at this;omega);have p:=br.take (dq af x.aj) c ((v+1:Nat):Int) qu ae ae Rq;unfold xE;dsimp only;rw[dR]at y⊢;refine fx.kE ⟨y.same rfl,p.1,⟨fun e=>?_,fun _=>.inl ⟨?_,?_,p.1⟩,fun e=>?_,fun e=>?_⟩,fun e=>?_,?_,fun _=>p.2.1⟩;{have e:x.aj.op=1:=e;omega};{show(fI B (dq af x.aj) c ((v+1:Nat):Int)).1.a6≠0;rw[p.2.1];omega};{show fI B (dq af x.aj) (ku x f) (fI B (dq af x.aj) c ((v+1:Nat):Int)).1.a6=_;rw[p.2.1,<-F];rfl};{have e:x.aj.op=3:=e;omega};{have e:x.aj.op=4:=e;omega};{have e:(dq af x.aj).kind=1:=e;omega};have cI:(fI B (dq af x.aj) c ((v+1:Nat):Int)).1.now=0:=p.2.2;exact⟨by show 0<=(fI B (dq af x.aj) c ((v+1:Nat):Int)).1.now;omega,by show(fI B (dq af x.aj) c ((v+1:Nat):Int)).1.now<=_;omega⟩};·rw[kF e]at w hi z⊢;dsimp only at w hi z⊢;rw[aC bI];exact fx.more<|wR.later hp ha hw hu (fun s h=>h) cc S u.sum I
 |put f at_ there c r=>obtain⟨E,f_⟩:=hk;have o:=E.1;have iV:=(xn T u o).2;have hi:=a8.inv;clear a8;unfold b7 at hi ⊢;dsimp only at hi ⊢;by_cases e:m.ah f.ah=f.v;{rw[ko e]at hi ⊢;dsimp only at hi ⊢;rw[aN rfl]at hi ⊢;have zl:o_ (.put f at_ there c r) m n d=n+1:=aN<|hh e;rw[zl];(have n_:jD af (m.cy f.ah (f.v+1)<|h9 f.cells at_ there c):=by split at hi;{have:=hi.iF;rwa [C0]at this};exact hi.iF);(have ym:vq B af (cQ H (n+1)<|m.cy f.ah (f.v+1)<|h9 f.cells at_ there c) x.aj (n+1) r:=by have y:=hp.fo;have A:=y.d2;have N:=y.still (by show(H n).aZ.getD f.ah 0=f.v;rw[hw];exact e);refine⟨ae,⟨d,ae,fun t R W=> ?_,?_,sF.tick hp⟩,?_⟩;{rw[cD _ _ ae,Nat.add_sub_cancel,cD _ _ ae,N t R ae,N n A<|bG _]};{rw[cD _ _ ae];exact hp.now};rw[Nat.add_sub_cancel,cD _ _ ae,ht,N n A<|bG _,ami aI u E e hc n_ iV];exact hp.vB);split;{exact fx.hN rfl (bG _) fun _=>ym};exact fx.done (bG _) fun _=>ym};· rw[kF e];dsimp only;rw[aC bI];exact fx.more trivial
 | allow f at_ there c =>obtain⟨o,E⟩:=hk;obtain⟨y,F⟩:=hp;have pY:=y.d1;have A:=y.d2;have K:rR (cQ H (n+1) m.bN) (n+1) d P x f:=y.later ha hw hu (fun s h=>h) cc S u.sum E;have J:=h1.o';unfold b7;dsimp only;split;{rename_i U;refine fx.hN (d':=d) rfl ae fun _=>⟨pY,⟨d-1,ae,fun t R W=>by rw[show t=d-1 by omega],fun _=> ?_,J⟩,?_⟩;{rw[ha _ ae];exact L _ ae};rw[K.was,K.is,<-F];exact⟨fun _=>⟨rfl,(aN U).symm⟩,fun e=>ae,fun e=>ae,fun e=>ae⟩};· rename_i U;refine fx.kE (d':=d) ⟨K,rfl,?_,fun _=> ?_,J,fun e=>ae⟩;{rw[<- F];exact⟨fun _=>⟨rfl,(aC U).symm⟩,fun e=>ae,fun e=>ae,fun e=>ae⟩};· rw[ha _ A];exact L _ A
 | k? c =>have o:x.aj.op=4:=hk;obtain⟨pY,A,C,D,mJ⟩:=hp;have J:=h1.o';have yf:(c_ af x).kind=1:=mJ;(have aE:(k! B (c_ af x) c m.ca).now=m.ca:=by unfold k!;rw[aC ae]);refine fx.done (d':=d) ae fun _=>⟨pY,⟨d-1,ae,fun t R W=>by rw[show t=d-1 by omega],fun _=> ?_,by rw[aE];exact J⟩,?_⟩;{rw[aE,ha _ ae];exact L _ ae};· rw[ha _ ae,ha _ A,C,D];exact⟨fun e=>ae,fun e=>ae,fun e=>ae,fun _=>⟨by rw[aE];rfl,rfl⟩⟩
 |n5=>exact fx.more trivial
 | mY j b_ cd ah v cells =>have o:=hk.1.1;unfold b7;dsimp only;split;{exact fx.iC ae};· exact fx.more ⟨cells,m.ca,rfl,Int.le_refl _,hk.2.1.later cc (by obtain⟨l,C,D⟩:=hk.2.2.2;rw[D];exact(fM C).1) (by obtain⟨l,C,D⟩:=hk.2.2.2;rw[D];exact(fM C).2)⟩
 | ke j b_ cd ah v rest oS =>have o:=hk.1.1;unfold b7;dsimp only;split;{exact fx.more trivial};exact fx.iC ae
theorem aj1{a b:Int}(h:kC af c a=true)(f:a<=b):kC af c b=true:=by unfold kC at h⊢;split at h;{rename_i e;rw[aN e];exact h};rename_i e;rw[aC e];have:=pC h;exact hh ae
theorem Q6(bY:jD af m){d:Cell}(hc:Has m c)(aI:Has m d)(e:bH c=bH d):c=d:=by unfold Has eu at hc aI;unfold bH at e;rw[e]at hc;exact T_ (Ei bY _) hc aI e
def Nb(af:List aA)(pol:Int)(c:Cell)(now:Int):Bool:=if(af.getD pol.toNat default).kind=2 then c.held.isEmpty else decide (c.aJ<=now)
theorem ajZ{now:Int}(e:c.pol=pol):Nb af pol c now=kC af c now:=by subst e;rfl
def Uo(af:List aA)(m dI:Mem)(x:Live)(k:c')(pol:Int)(key:List Nat):Prop:=
 cellAt dI pol key=cellAt m pol key\/(cellAt dI pol key=⟨pol,key,0,[]⟩/\Nb af pol (cellAt m pol key) m.ca=true)\/∃f a t c r,k=.put f a t c r/\m.ah f.ah=f.v/\pol=x.aj.pol/\key=x.aj.key
theorem agR(I:Sound B)(T:gD af ag){P:List Int}(h1:fe af ag m (nC x k+q))(A:iT af x)(hk:mB af ag m x k)(hc:m.count<4611686018427387900)(hp:o5 B af ag H n d P m x k)(i:0<=pol)(o:pol<32):
   Uo af m (b7 B af ag k x m).2.2 x k pol key:=by
 have a8:=Ky I T h1 A hk hc;have bY:=h1.iF;have b:=a8.inv.iF;have aI:=h1.dir;by_cases k1:∃f a t c r,k=.put f a t c r;{obtain⟨f,a,t,c,r,rfl⟩:=k1;obtain⟨C,_⟩:=hk;clear a8;unfold b7 at b⊢;dsimp only at b⊢;by_cases e:m.ah f.ah=f.v;{by_cases hid:pol=x.aj.pol/\key=x.aj.key;{exact .inr (.inr ⟨f,a,t,c,r,rfl,e,hid.1,hid.2⟩)};refine .inl ?_;(have K:∀m1,(if t then hN r x m1 else fin r x m1).2.2=m1:=fun m1=>by split;{exact C0 _ _ _};rfl);rw[ko e]at b⊢;dsimp only at b⊢;rw[aN rfl,K]at b⊢;exact aml aI A bY C e hc b (xn T A C.1).2 i o hid};rw[kF e];exact .inl rfl};by_cases D:∃j s g w v r E,k=.ke j s g w v r E
 . obtain⟨j,s,g,w,v,rest,E,rfl⟩:=D;obtain⟨cells,now,aE,J,av⟩:=hp;obtain⟨_,⟨l,F,hw⟩,_⟩:=hk;clear a8;unfold b7 at b⊢;dsimp only at b⊢;by_cases e:m.ah w=v
   . rw[ko e]at b⊢;dsimp only at b⊢;rw[aN rfl]at b⊢;have b:jD af (m.cy w (v+1) rest):=b;show Uo af m (m.cy w (v+1) rest) x _ pol key;have z:=fun d=>XQ (p:=fun c=>!kC af c now) aI F hw av e hc d;rw[<-aE]at z;rcases Eh bY pol key i o with⟨c,c1,cw,dg,eV⟩|⟨c1,cw⟩
     . by_cases u:gR m (eu c)=w/\kC af c now=true;·refine .inr<|.inl ⟨?_,by rw[eV,ajZ cw];exact aj1 u.2 J⟩;rcases Eh b pol key i o with⟨bx,d1,d2,d3,d4⟩|⟨_,d2⟩;{have h:=(z bx).1 d1;have:bx=c:=Q6 bY h.1 c1 (by unfold bH;rw[d2,d3,cw,dg]);subst this;have y:=h.2 u.1;rw[u.2]at y;cases y};·exact d2
       . refine .inl ?_
         have h:Has (m.cy w (v+1) rest) c:=(z c).2 ⟨c1,fun y=>by
           cases G:kC af c now with
           |true=>exact absurd ⟨y,G⟩ u
           |false=>rfl⟩
         rcases Eh b pol key i o with⟨bx,d1,d2,d3,d4⟩|⟨d1,_⟩;{rw[d4,eV];exact Q6 b d1 h (by unfold bH;rw[d2,d3,cw,dg])};·exact absurd ⟨cw,dg⟩<|d1 c h
     . refine .inl ?_;rcases Eh b pol key i o with⟨bx,d1,d2,d3,d4⟩|⟨_,d2⟩;{exact absurd ⟨d2,d3⟩ (c1 bx ((z bx).1 d1).1)};·rw[d2,cw]
   . rw[kF e];dsimp only;rw[aC bI,El];exact .inl rfl
 exact .inl (afu bY b (fun c=>abG T h1 hk (fun f a t c r e=>k1 ⟨f,a,t,c,r,e⟩) (fun j s g w v r n e=>D ⟨j,s,g,w,v,r,n,e⟩) c) pol key).1
theorem XR(T:gD af ag){P:List Int}(h1:fe af ag m (nC x k+q))(p:iT af x)(hk:mB af ag m x k)(hc:m.count<4611686018427387900)(hp:o5 B af ag H n d P m x k)(h:Has (b7 B af ag k x m).2.2 c):
 Has m c\/∃f a t r,k=.put f a t c r/\m.ah f.ah=f.v:=by have aI:=h1.dir;by_cases k1:∃f a t c r,k=.put f a t c r;{obtain⟨f,a,t,bx,r,rfl⟩:=k1;obtain⟨u,_⟩:=hk;unfold b7 at h;dsimp only at h;by_cases e:m.ah f.ah=f.v;{(have y:∀m1,(if t then hN r x m1 else fin r x m1).2.2=m1:=fun m1=>by split;{exact C0 _ _ _};rfl);rw[ko e]at h;dsimp only at h;rw[aN rfl,y,Q5 aI p.sum u e hc]at h;split at h;{subst h;exact .inr ⟨f,a,t,r,rfl,e⟩};exact .inl h};rw[kF e]at h;exact .inl h};by_cases b:∃j s g w v r i,k=.ke j s g w v r i;{obtain⟨j,s,g,w,v,rest,i,rfl⟩:=b;obtain⟨cells,now,aE,z,av⟩:=hp;obtain⟨_,⟨l,o,hw⟩,_⟩:=hk;unfold b7 at h;dsimp only at h;by_cases e:m.ah w=v;{rw[ko e]at h;dsimp only at h;rw[aN rfl]at h;have h:Has (m.cy w (v+1) rest) c:=h;rw[aE,XQ aI o hw av e hc]at h;exact .inl h.1};rw[kF e]at h;dsimp only at h;rw[aC bI,El]at h;exact .inl h};exact .inl<|(abG T h1 hk (fun f a t c r e=>k1 ⟨f,a,t,c,r,e⟩) (fun j s g w v r n e=>b ⟨j,s,g,w,v,r,n,e⟩) c).1 h
theorem L5(j s:Nat)(g:Int)(x:Live)(m:Mem):(iC j s g x m).2.1=x:=by unfold iC;split<;>rfl
theorem Nl(r:c2)(x:Live)(m:Mem):(hN r x m).2.1=x:=by unfold hN;split<;>rfl
theorem aeD(B:Below)(f:hT)(a:Nat)(t:Bool)(c:Cell)(x:Live)(m:Mem):(r0 B af ag f a t c x m).2.1=x:=by unfold r0;split;{exact Nl _ _ _};split<;>rfl
theorem aoM(B:Below)(t:Then)(w v:Nat)(L:List Cell)(x:Live)(m:Mem):(kG B af ag t w v L x m).2.1=x:=by unfold kG;cases t with|d? j s g=>dsimp only;split;{exact L5 _ _ _ _ _};rfl|aj=>dsimp only;split;{rfl};split;{exact aeD _ _ _ _ _ _ _};split;{split<;>rfl};split<;>rfl
theorem WU(B:Below)(s w v:Nat)(L:List Cell)(t:Then)(x:Live)(m:Mem):(oG B af ag s w v L t x m).2.1=x:=by unfold oG;split;{rfl};exact aoM _ _ _ _ _ _ _
theorem Zy(B:Below)(t:nt)(w v:Nat)(L:List Cell)(x:Live)(m:Mem):(mK B af ag t w v L x m).2.1=x:=by cases t with|find s t=>unfold mK;dsimp only;split;{rfl};exact WU _ _ _ _ _ _ _ _|one l i h=>rfl|two l i=>rfl
theorem afg(t:wv)(x:Live)(m:Mem):(Eb t x m).2.1=x:=by cases t with|done r=>rfl|d? j s g=>exact L5 _ _ _ _ _
theorem aoi(t:lN)(x:Live)(m:Mem):(Db t x m).2.1=x:=by cases t with|back t=>rfl|ag f a t c r=>rfl|a6 f a t c=>exact Nl _ _ _
theorem Dc(aI:eL m){w:Nat}(hw:w<33)(o v:Nat)(L:List Cell):(m.swap w o v L).2.ah 33=m.ah 33:=by unfold Mem.swap;split;{show(m.cy w v L).ah 33=_;rw[dY<|by rw[aI.dm];omega,aC ae]};rfl
def lq(x:Live)(m:Mem)(o:Out):Prop:=(o.2.1.a6=x.a6/\o.2.2.ah 33=m.ah 33)\/(o.2.1.a6=((m.ah 33+1:Nat):Int)/\o.2.2.ah 33=m.ah 33+1/\x.aj.op=2)
theorem lq.of{o:Out}(h1:o.2.1=x)(b:o.2.2.ah 33=m.ah 33):lq x m o:=.inl ⟨by rw[h1],b⟩
theorem ane(h1:fe af ag m (nC x k+q))(hk:mB af ag m x k):lq x m (b7 B af ag k x m):=by
 have aI:=h1.dir
 cases k with
 |find sum t=>unfold b7;dsimp only;split<;>exact lq.of rfl rfl
 |enter sum ah t=>exact lq.of (WU _ _ _ _ _ _ _ _)<|by rw[b7,Ql];rfl
 |lk ah t=>unfold b7;dsimp only;split<;>exact lq.of rfl rfl
 |mZ ah v a_ t=>
  have hw:ah<33:=by
   obtain⟨hk,_⟩:=hk
   cases t with
   |find aw sum t=>have:=(fM (s:=sum)<|show aw<=4 by have:=hk.2.1;omega).2;rw[hk.2.2.1];omega
   |move aw i=>have:=(fM (s:=i)<|show aw<=4 by have:=hk.2.1;omega).2;rw[hk.2.2.2.1];omega
  have:=Dc aI hw v (v+c4) a_;unfold b7;dsimp only;split<;>exact lq.of rfl this
 |half aw shard a_ t=>unfold b7;dsimp only;split;{exact lq.of (Zy _ _ _ _ _ _ _) (by rw[M3];rfl)};·exact lq.of rfl rfl
 |m? aw shard a_ h t=>obtain⟨l,rfl,o,_⟩:=hk;have:=(fM (s:=shard)<|show l+1<=4 by omega).2;exact lq.of (Zy _ _ _ _ _ _ _)<|by unfold b7;dsimp only;rw[M3];exact Dc aI ae _ _ _
 |split=>unfold b7;dsimp only;split;{exact lq.of rfl rfl};split<;>exact lq.of rfl rfl
 |om d aw=>have:=Dc aI (show 0<33 by omega) d (d+1) [];unfold b7;dsimp only;split<;>exact lq.of rfl this
 |pr aw=>exact lq.of rfl<|Dc aI ae _ _ _
 |h0 ah de stop t=>unfold b7;dsimp only;split;{exact lq.of (aoi _ _ _) (by rw[abH];rfl)};·exact lq.of rfl rfl
 |i' ah de stop v t=>
  unfold b7;dsimp only
  cases t with
  |back t=>
   have A:ah=32:=by
    cases t with
    |done r=>exact hk.1.2.1
    |d? j s g=>exact hk.1.2.1
   have:=Dc aI (show ah<33 by omega) v ((v+de)%e7) [];split;{exact lq.of (afg _ _ _) (by rw[Ub];exact this)};·exact lq.of rfl this
  |ag f a z c r=>have A:ah=32:=hk.1.1;have:=Dc aI (show ah<33 by omega) v ((v+de)%e7) [];split;{exact .inl ⟨rfl,this⟩};·exact lq.of rfl this
  |a6 f a z c=>obtain⟨⟨p,fN,C,u,_⟩,D,F,hle⟩:=hk;have p:ah=33:=p;have hle:=hle (fun b e=>by cases e);(have y:(v+de)%e7=v+1:=by rw[fN];unfold e7;omega);by_cases e:m.ah ah=v;{rw[ko e];dsimp only;rw[aN rfl,y];rw[p]at e⊢;(have:(m.cy 33 (v+1) []).ah 33=v+1:=by rw[dY<|by rw[aI.dm];decide,aN rfl]);exact .inr ⟨by rw[e];rfl,by rw[e];exact this,u⟩};·rw[kF e];dsimp only;rw[aC bI];exact lq.of rfl rfl
 |put f a t c r=>obtain⟨⟨_,_,⟨l,o,hw⟩,_⟩,_⟩:=hk;have:=(fM (s:=x.sum) o).2;have:=Dc aI (show f.ah<33 by omega) f.v (f.v+1)<|h9 f.cells a t c;unfold b7;dsimp only;split;{split;{exact lq.of (Nl _ _ _) (by rw[C0];exact this)};exact lq.of rfl this};·exact lq.of rfl this
 |allow f a t c=>unfold b7;dsimp only;split;{exact lq.of (Nl _ _ _) (by rw[C0];rfl)};·exact lq.of rfl rfl
 |k? c=>exact lq.of rfl rfl
 |n5=>exact lq.of rfl rfl
 |mY j s g w v cells=>unfold b7;dsimp only;split;{exact lq.of (L5 _ _ _ _ _) (by rw[El];rfl)};·exact lq.of rfl rfl
 |ke j s g w v rest E=>obtain⟨_,⟨l,o,hw⟩,_⟩:=hk;have:=(fM (s:=j) o).2;have:=Dc aI (show w<33 by omega) v (v+1) rest;unfold b7;dsimp only;split;{exact lq.of rfl this};exact lq.of (L5 _ _ _ _ _) (by rw[El];exact this)
end ai
namespace ai
def leaving:c'->Option c2
 |.h0 _ _ _ (.back<|.done r)=>some r
 |.i' _ _ _ _ (.back<|.done r)=>some r
 |_=>none
def PA(log:List Rec)(t:Nat)(pol:Int)(key:List Nat):Prop:=∃e∈log,e.at_=t/\e.aj.op<=4/\counts e.aj e.cn=true/\e.aj.pol=pol/\e.aj.key=key
def PB(bz:Nat->Option (Live×c'))(done:Nat->Nat)(t:Nat)(pol:Int)(key:List Nat):Prop:=∃ak x k r,ak<64/\bz ak=some (x,k)/\leaving k=some r/\done ak=t/\x.aj.op<=4/\counts x.aj r=true/\x.aj.pol=pol/\x.aj.key=key
def HQ(af:List aA)(H:Nat->Mem)(t:Nat)(pol:Int)(key:List Nat):Prop:=
 cellAt (H<|t+1) pol key=cellAt (H t) pol key\/(cellAt (H<|t+1) pol key=⟨pol,key,0,[]⟩/\Nb af pol (cellAt (H t) pol key) (H<|t+1).ca=true)
end ai
namespace ai
variable (B : Below) (af:List aA) (ag:Nat)
structure tZ(G:GS)(P:List Int):Prop where
 cur:∃gf,G.s.m=(G.kR G.bS).at_ gf
 mono:∀i j,i<=j->j<=G.bS->(G.kR i).ca<=(G.kR j).ca
 o':∀t,t<=G.bS->(G.kR t).ca<=G.s.m.ca
 km:∀ak x k,ak<64->G.s.bz ak=some (x,k)->o5 B af ag G.kR G.bS (G.done ak) P G.s.m x k
 has:∀c,Has G.s.m c->∀s∈c.held,s∈P
 le:∀s∈P,s<=G.s.m.ah 33
 b0:∀ak x k,ak<64->G.s.bz ak=some (x,k)->x.a6<=G.s.m.ah 33/\(BU k->0<x.a6->x.a6∉P)/\(x.aj.op≠2->x.a6=0)
 Hr:∀i j qa rH ij h5,i<64->j<64->i≠j->G.s.bz i=some (qa,rH)->G.s.bz j=some (ij,h5)->0<qa.a6->qa.a6≠ij.a6
 log:∀e∈G.log,e.aj.op<=4->counts e.aj e.cn=true->vq B af G.kR e.aj e.at_ e.cn
 c7:∀e∈G.log,yN af e.aj
 init:∀pol key,cellAt (G.kR 0) pol key=⟨pol,key,0,[]⟩
 LZ:∀t,t<G.bS->∀pol key,0<=pol->pol<32->HQ af G.kR t pol key\/PA G.log (t+1) pol key\/PB G.s.bz G.done (t+1) pol key
end ai
namespace ai
structure um(G:GS):Prop where
 log:∀e∈G.log,1<=e.first/\e.first<=e.ft/\e.ft<=G.bS/\e.at_<=e.ft/\(1<=e.at_->e.first<=e.at_)
 one:G.log.Pairwise fun a b=>a.at_=b.at_->a.at_=0
 km:∀ak x k,ak<64->G.s.bz ak=some (x,k)->G.cF ak<=G.bS/\G.done ak<=G.bS/\(1<=G.done ak->1<=G.cF ak/\G.cF ak<=G.done ak)
 rq:∀ak x k,ak<64->G.s.bz ak=some (x,k)->∀e∈G.log,e.at_=G.done ak->e.at_=0
 two:∀i j qa rH ij h5,i<64->j<64->i≠j->G.s.bz i=some (qa,rH)->G.s.bz j=some (ij,h5)->G.done i=G.done j->G.done i=0
end ai
namespace ai
variable {B : Below} {af:List aA} {ag:Nat}
variable{G:GS}{ak:Nat}{c:Call}
theorem tZ.tick{P:List Int}(h:tZ B af ag G P){t:Int}(a:G.s.m.ca<=t):tZ B af ag (IZ G t) P:=by refine⟨?_,h.mono,fun i hi=>Int.le_trans (h.o' i hi) a,fun ak x k hw hp=>(h.km ak x k hw hp).tick a,h.has,h.le,h.b0,h.Hr,h.log,h.c7,h.init,h.LZ⟩;obtain⟨gf,hc⟩:=h.cur;exact⟨t,by show G.s.m.at_ t=_;rw[hc];rfl⟩
theorem um.tick(h:um G)(t:Int):um (IZ G t):=⟨h.log,h.one,h.km,h.rq,h.two⟩
theorem TR{s:Sys}(e:s.bz ak=none):q6 s ak c=⟨s.m,ih s.bz ak<|some (oR c,jX c)⟩:=by unfold q6;rw[e]
theorem ag7{H:Nat->Mem}{n d:Nat}{P:List Int}{m:Mem}{x:Live}(c:Call):o5 B af ag H n d P m x (jX c):=by unfold jX;split;{trivial};split<;>trivial
theorem tZ.start{P:List Int}(h:tZ B af ag G P):tZ B af ag (vK G ak c) P:=by unfold vK;cases e:G.s.bz ak with|some v=>exact h|none=>dsimp only;rw[TR e];(have get:∀j x k,ih G.s.bz ak (some (oR c,jX c)) j=some (x,k)->(j=ak/\x=oR c/\k=jX c)\/(j≠ak/\G.s.bz j=some (x,k)):=fun j x k a=>by by_cases b:j=ak;{subst b;rw[q5]at a;cases a;exact .inl ⟨rfl,rfl,rfl⟩};rw[nk _ _ b]at a;exact .inr ⟨b,a⟩);refine⟨h.cur,h.mono,h.o',fun j x k a hp=>?_,h.has,h.le,fun j x k a hp=>?_,fun i j qa rH ij h5 hi a bU f d aB=>?_,h.log,h.c7,h.init,fun t n pol key l p=>?_⟩;{rcases get j x k hp with⟨rfl,rfl,rfl⟩|⟨bU,hp⟩;{exact ag7 c};show o5 B af ag G.kR G.bS (cQ G.done ak 0 j) P G.s.m x k;rw[cD _ _ bU];exact h.km j x k a hp};{rcases get j x k hp with⟨rfl,rfl,rfl⟩|⟨bU,hp⟩;{exact⟨by show(0:Int)<=_;omega,fun _ aB=>absurd aB<|by show¬(0:Int)<0;decide,fun _=>rfl⟩};exact h.b0 j x k a hp};{rcases get i qa rH f with⟨rfl,rfl,rfl⟩|⟨u,f⟩;{exact absurd aB (by show¬(0:Int)<0;decide)};rcases get j ij h5 d with⟨rfl,rfl,rfl⟩|⟨q,d⟩;{show qa.a6≠0;omega};exact h.Hr i j qa rH ij h5 hi a bU f d aB};refine(h.LZ t n pol key l p).imp id (Or.imp id ?_);rintro⟨j,x,k,r,a,hp,g,aI,aE⟩;(have bU:j≠ak:=fun o=>by subst o;rw[e]at hp;cases hp);exact⟨j,x,k,r,a,by show ih G.s.bz ak _ j=_;rw[nk _ _ bU];exact hp,g,by show cQ G.done ak 0 j=_;rw[cD _ _ bU];exact aI,aE⟩
theorem um.start(h:um G):um (vK G ak c):=by unfold vK;cases e:G.s.bz ak with|some v=>exact h|none=>dsimp only;rw[TR e];refine⟨h.log,h.one,fun j x k b hp=>?_,fun j x k b hp f he=>?_,fun i j qa rH ij h5 hi b bU l g=>?_⟩;{by_cases a:j=ak;{subst a;show cQ G.cF j 0 j<=_/\cQ G.done j 0 j<=_/\(1<=cQ G.done j 0 j->_);rw[ht,ht];exact⟨ae,ae,fun h=>ae⟩};show cQ G.cF ak 0 j<=_/\cQ G.done ak 0 j<=_/\(1<=cQ G.done ak 0 j->1<=cQ G.cF ak 0 j/\cQ G.cF ak 0 j<=cQ G.done ak 0 j);rw[cD _ _ a,cD _ _ a];exact h.km j x k b (by rw[<-hp];exact(nk _ _ a).symm)};{show f.at_=cQ G.done ak 0 j->_;by_cases a:j=ak;{subst a;rw[ht];exact id};rw[cD _ _ a];exact h.rq j x k b (by rw[<-hp];exact(nk _ _ a).symm) f he};show cQ G.done ak 0 i=cQ G.done ak 0 j->cQ G.done ak 0 i=0;by_cases d:i=ak;{subst d;rw[ht];exact fun _=>rfl};by_cases a:j=ak;{subst a;rw[ht];exact id};rw[cD _ _ d,cD _ _ a];exact h.two i j qa rH ij h5 hi b bU (by rw[<-l];exact(nk _ _ d).symm) (by rw[<-g];exact(nk _ _ a).symm)
end ai
namespace ai
structure fA where
 pl:Nat
 aw:Nat
 shard:Nat
 upper:Bool
 v:Nat
 ah:Nat
deriving Inhabited
def N6:fA:=⟨0,0,0,false,0,0⟩
structure Fo where
 cut:Bool
 from_:Nat
 Fi:Nat
 aw:Nat
 shard:Nat
 found:Bool
 finished:Bool
 refused:Bool
def fl:Fo:=⟨false,0,0,0,0,false,false,false⟩
def iP(aw shard:Nat):Nat:=2^aw+shard
def kV(sum aw:Nat):Nat:=sum%2^aw
def wd(W:List Nat)(i:Nat):Nat:=W.getD i 0
def vu(x:fA)(sum:Nat)(split upper:Bool):fA:=
 {x with upper:=upper,pl:=4,ah:=iP (x.aw+1) (if split then(if upper then x.shard+2^x.aw else x.shard)else kV sum (x.aw+1))}
def qx(x:fA):fA:=
 if x.upper=false then vu x 0 true true
 else if x.shard+1=2^x.aw then{x with shard:=x.shard+1,pl:=8}
 else{x with shard:=x.shard+1,ah:=iP x.aw<|x.shard+1,pl:=2}
def tw(W:List Nat)(x:fA)(sum:Nat)(split:Bool):fA×Fo:=
 let a:fA:={x with v:=wd W 0,aw:=wd W 0/2}
 if split then
  if wd W 0%2=1 then({a with shard:=0,ah:=iP (wd W 0/2) 0,pl:=2},fl)
  else if wd W 0/2=4 then({a with pl:=11},{fl with finished:=true,refused:=true})
  else({a with pl:=7},fl)
 else if wd W 0%2=1 then({a with ah:=iP (wd W 0/2)<|kV sum<|wd W 0/2,pl:=2},fl)
 else({a with ah:=iP (wd W 0/2)<|kV sum<|wd W 0/2,pl:=1},fl)
def tx(W:List Nat)(x:fA)(split:Bool):fA×Fo:=
 let a:fA:={x with v:=wd W x.ah}
 if wd W x.ah=0 then({a with pl:=5},fl)
 else if split then(qx a,fl)
 else if c4<=wd W x.ah then({a with pl:=0},fl)
 else({a with pl:=9},{fl with found:=true})
def uq(W:List Nat)(x:fA)(split:Bool):List Nat×fA×Fo:=
 let shard:=x.ah-2^(x.aw+1)
 (if wd W x.ah=0 then W.set x.ah 1 else W,if split then qx x else{x with pl:=6},
  if wd W x.ah=0 then{fl with cut:=true,from_:=iP x.aw<|shard%2^x.aw,Fi:=x.ah,aw:=x.aw+1,shard:=shard}else fl)
def fr(W:List Nat)(x:fA)(sum:Nat)(split:Bool):List Nat×fA×Fo:=
 if x.pl=0 then(W,tw W x sum split)
 else if x.pl=1\/x.pl=6 then
  if wd W x.ah=0\/c4<=wd W x.ah then(W,{x with v:=wd W x.ah,pl:=0},fl)
  else(W,{x with v:=wd W x.ah,pl:=9},{fl with found:=true})
 else if x.pl=2 then(W,if c4<=wd W x.ah then vu {x with v:=wd W x.ah,pl:=3} sum split false else{x with v:=wd W x.ah,pl:=3},fl)
 else if x.pl=3 then
  if wd W x.ah≠x.v then(W,{x with pl:=2},fl)
  else(W.set x.ah<|wd W x.ah+c4,vu x sum split false,fl)
 else if x.pl=4 then(W,tx W x split)
 else if x.pl=5 then uq W x split
 else if x.pl=7 then
  if wd W 0≠x.v then(W,{x with pl:=0},fl)
  else(W.set 0<|wd W 0+1,{x with shard:=0,ah:=iP x.aw 0,pl:=2},fl)
 else if x.pl=8 then(if wd W 0=2*x.aw+1 then W.set 0 (wd W 0+1)else W,{x with pl:=11},{fl with finished:=true})
 else(W,x,fl)
structure bC where
 aj:Call
 ch:Nat
 sum:Nat
 bk:fA
 there:Bool
 cell:Cell
 gn:Bool
 a6:Int
 n:Int
 now:Int
 cn:c2
 back:Int
 cd:Int
 j:Nat
 p5:Nat
 idle:Int
 af:List Cell
 done:Nat
def rl:bC:=⟨⟨0,0,[],0⟩,0,0,N6,false,⟨0,[],0,[]⟩,false,0,0,0,err 0,0,0,0,0,0,[],0⟩
structure bf where
 aZ:List Nat
 a_:List (List Cell)
 count:Int
 a6:Int
 now:Int
 bS:Nat
 log:List Rec
 c7:Nat->bC
 cF:Nat->Nat
def lQ(l:List Int)(n:Int):Bool:=l.contains n
def oh:List Int->Int->List Int
 |[],n=>[n]
 |x::l,n=>if n<x then n::x::l else x::oh l n
def o?(l:List Int)(n:Int):List Int:=l.filter fun x=>x≠n
def iO:List Cell->Cell->List Cell
 |[],c=>[c]
 |x::l,c=>if cT (bH c) (bH x)<0 then c::x::l else if cT (bH c) (bH x)=0 then c::l else x::iO l c
def findD(l:List Cell)(pol:Int)(key:List Nat):Option Cell:=l.find? fun c=>decide (c.pol=pol)&&decide (c.key=key)
def o9(l:List Cell)(pol:Int)(key:List Nat):Cell:=(findD l pol key).getD ⟨pol,key,0,[]⟩
end ai
namespace ai
variable (B : Below) (af:List aA) (ag:Nat)
def hL(p:aA)(c:Cell)(aj:Call)(now b0:Int):c2×Cell×Bool:=
 if aj.op=1 then(vw (B.decide p c.aJ now aj.n) now,{c with aJ:=(B.decide p c.aJ now aj.n).2.1},(B.decide p c.aJ now aj.n).1&&decide (0<aj.n))
 else if aj.op=2 then
  if lQ c.held b0 then(err 8,c,false)
  else if p.bl<=(c.held.length:Int)then(err 9,c,false)
  else(⟨0,true,p.bl-((oh c.held b0).length:Nat),0,b0,0⟩,{c with held:=oh c.held b0},true)
 else if aj.op=3 then
  if lQ c.held aj.n then(⟨0,true,p.bl-((o? c.held aj.n).length:Nat),0,0,0⟩,{c with held:=o? c.held aj.n},true)
  else(err 11,c,false)
 else if p.kind=2 then(⟨0,false,p.bl-(c.held.length:Nat),0,0,0⟩,c,false)
 else(⟨0,false,B.left p c.aJ now,B.sub c.aJ now,0,now⟩,c,false)
def y?(l:List Cell)(now:Int):List Cell:=l.filter fun c=>!kC af c now
structure kH where
 fin:Option c2
 x:bC
 D:bf
def stay(x:bC)(D:bf):kH:=⟨none,x,D⟩
def pS(r:c2)(x:bC)(D:bf):kH:=⟨some r,x,D⟩
def sl(r:c2)(x:bC)(D:bf):kH:=if x.gn then stay {x with cn:=r,back:=1,ch:=7} D else pS r x D
def vZ(x:bC):bC:={x with ch:=if x.there=false/\x.gn=false then 2 else 6}
def vH(x:bC)(D:bf):kH:=
 if x.j+1=x.p5 then pS ⟨0,false,x.cd,0,0,0⟩ {x with j:=x.j+1} D else stay {x with j:=x.j+1,sum:=x.j+1,bk:=N6,ch:=0} D
def C2(l:List Cell)(aw shard:Nat):List Cell:=l.filter fun c=>decide<|lg c aw=shard
def la(x:bC):aA:=af.getD x.aj.pol.toNat default
def ux(x:bC)(D:bf):kH:=
 let l:=D.a_.getD x.bk.ah []
 if x.aj.op=5 then(if l=[]then vH x D else stay {x with af:=l,ch:=1} D)
 else
  let p:=la af x
  let a:bC:={x with there:=(findD l x.aj.pol x.aj.key).isSome,cell:=o9 l x.aj.pol x.aj.key}
  if x.aj.op=1\/(x.aj.op=4/\p.kind=1)then stay {a with ch:=1} D
  else if x.aj.op=4 then pS (hL B p a.cell x.aj 0 0).1 a D
  else if x.aj.op=3/\lQ a.cell.held x.aj.n=false then pS (err 11) a D
  else if x.aj.op=3 then stay {a with ch:=6} D
  else if p.bl<=(a.cell.held.length:Int)then sl (err 9) a D
  else if x.a6=0 then stay {a with ch:=4} D
  else stay (vZ a) D
def nV(x:bC)(D:bf):kH:=
 let s:=fr D.aZ x.bk x.sum<|decide<|x.aj.op=6
 let b:bf:={D with aZ:=s.1,a_:=if s.2.2.cut then D.a_.set s.2.2.Fi (C2 (D.a_.getD s.2.2.from_ []) s.2.2.aw s.2.2.shard)else D.a_}
 let a:bC:={x with bk:=s.2.1,done:=D.bS}
 if s.2.2.refused then pS (err 5) a b
 else if s.2.2.finished then pS (err 0) a b
 else if s.2.2.found=false then stay a b
 else ux B af a b
def sq(x:bC)(D:bf):kH:=
 let a:bC:={x with now:=D.now}
 if x.aj.op=5 then
  let i:Int:=(x.af.length:Int)-((y? af x.af D.now).length:Int)
  if i=0 then vH {a with idle:=i} D else stay {a with idle:=i,ch:=6} D
 else
  let o:=hL B (la af x) x.cell x.aj D.now 0
  if x.aj.op=4 then pS o.1 a D
  else if o.2.2=false then sl o.1 a D
  else stay (vZ a) D
def qD(x:bC)(D:bf):kH:=
 let w:=x.bk.ah
 if wd D.aZ w≠x.bk.v then(if x.aj.op=5 then vH x D else stay {x with bk:=N6,ch:=0} D)
 else
  let a:bC:={x with done:=D.bS}
  if x.aj.op=5 then stay {a with back:=x.idle,ch:=7} {D with aZ:=D.aZ.set w<|wd D.aZ w+1,a_:=D.a_.set w (y? af x.af x.now)}
  else
   let o:=hL B (la af x) x.cell x.aj x.now x.a6
   let b:bf:={D with aZ:=D.aZ.set w<|wd D.aZ w+1,a_:=D.a_.set w (iO (D.a_.getD w []) o.2.1)}
   if x.there=false then pS o.1 a b else sl o.1 a b
def p9(x:bC)(D:bf):kH:=
 if x.ch=2 then(if D.count=ag then pS (err 10) x D else stay {x with n:=D.count,ch:=3} D)
 else if x.ch=3 then(if D.count=x.n then stay {x with gn:=true,ch:=6} {D with count:=D.count+1}else stay {x with ch:=2} D)
 else if x.ch=7 then stay {x with n:=D.count,ch:=8} D
 else if x.ch=8 then
  if D.count≠x.n then stay {x with ch:=7} D
  else
   let a:bf:={D with count:=D.count-x.back}
   if x.aj.op≠5 then pS x.cn x a else vH {x with cd:=x.cd+x.back} a
 else stay x D
def xo(x:bC)(D:bf):kH:=
 if x.ch=4 then(if D.a6=4611686018427387903 then sl (err 5) x D else stay {x with n:=D.a6,ch:=5} D)
 else if D.a6=x.n then stay (vZ {x with ch:=4,a6:=D.a6+1}) {D with a6:=D.a6+1}
 else stay {x with ch:=4} D
def eQ(x:bC)(D:bf):kH:=
 if x.ch=0 then nV B af x D
 else if x.ch=1 then sq B af x D
 else if x.ch=4\/x.ch=5 then xo x D
 else if x.ch=6 then qD B af x D
 else if x.ch=9 then stay {x with p5:=2^(wd D.aZ 0/2+wd D.aZ 0%2),ch:=0} D
 else p9 ag x D
def r4(D:bf)(ak:Nat):bf:=
 if(D.c7 ak).aj.op=0 then D
 else
  let b:=if D.cF ak=0 then D.bS+1 else D.cF ak
  let o:=eQ B af ag (D.c7 ak) {D with bS:=D.bS+1,cF:=cQ D.cF ak b}
  match o.fin with
  |none=>{o.D with c7:=cQ D.c7 ak o.x}
  |some r=>{o.D with c7:=cQ D.c7 ak rl,log:=D.log++[⟨ak,o.x.aj,b,o.x.done,D.bS+1,r⟩]}
def vC(D:bf)(ak:Nat)(c:Call):bf:=
 if(D.c7 ak).aj.op=0 then{D with c7:=cQ D.c7 ak {rl with aj:=c,sum:=if c.op<5 then e4 (cK c.pol c.key)else 0,ch:=if c.op=5 then 9 else 0},cF:=cQ D.cF ak 0}else D
def F_(D:bf)(t:Int):bf:={D with now:=t}
def tQ(W:List Nat)(sum:Nat):Nat:=
 let aw:=wd W 0/2
 let below:=iP aw<|kV sum aw
 if wd W 0%2=0\/wd W below<c4 then below
 else if wd W (iP (aw+1)<|kV sum<|aw+1)≠0 then iP (aw+1) (kV sum<|aw+1)else below
def cellsD(D:bf):List Cell:=(List.range 32).foldl (fun l w=>(D.a_.getD w []).foldl (fun l c=>if tQ D.aZ (e4<|bH c)=w then iO l c else l) l) []
end ai
namespace ai
variable {B : Below} {af:List aA} {ag:Nat}
variable{G:GS}{ak j q n:Nat}{x:Live}{k:c'}{s:Sys}{o:Out}{m:Mem}{r:c2}
theorem Gh(e:G.s.bz ak=none):sQ B af ag G ak=G:=by unfold sQ;rw[e]
theorem Em(e:G.s.bz ak=some (x,k)):
 sQ B af ag G ak=⟨(tc ak G.s<|b7 B af ag k x G.s.m).1,G.bS+1,cQ G.cF ak<|if G.cF ak=0 then G.bS+1 else G.cF ak,cQ G.done ak<|o_ k G.s.m G.bS<|G.done ak,
  (match(b7 B af ag k x G.s.m).1 with|.inl _=>G.log|.inr r=>G.log++[⟨ak,x.aj,if G.cF ak=0 then G.bS+1 else G.cF ak,o_ k G.s.m G.bS<|G.done ak,G.bS+1,r⟩]),cQ G.kR (G.bS+1) (b7 B af ag k x G.s.m).2.2⟩:=by unfold sQ;rw[e];rfl
theorem Hu(ak:Nat)(s:Sys)(o:Out):(tc ak s o).1.m=o.2.2:=by unfold tc;split<;>rfl
theorem yG(h:(tc ak s o).1.bz j=some (x,k)):(j=ak/\o.1=.inl k/\o.2.1=x)\/(j≠ak/\s.bz j=some (x,k)):=by unfold tc at h;split at h;{rename_i k1 e;have h:ih s.bz ak (some (o.2.1,k1)) j=some (x,k):=h;by_cases a:j=ak;{subst a;rw[q5]at h;cases h;exact .inl ⟨rfl,e,rfl⟩};rw[nk _ _ a]at h;exact .inr ⟨a,h⟩};have h:ih s.bz ak none j=some (x,k):=h;by_cases a:j=ak;{subst a;rw[q5]at h;cases h};rw[nk _ _ a]at h;exact .inr ⟨a,h⟩
theorem abD(h:j≠ak):(tc ak s o).1.bz j=s.bz j:=by unfold tc;split<;>exact nk _ _ h
theorem abC(h:o.1=.inl k):(tc ak s o).1.bz ak=some (o.2.1,k):=by unfold tc;rw[h];exact q5 _ _ _
theorem akz(T:gD af ag)(h1:fe af ag m (nC x k+q))(hk:mB af ag m x k)(h:leaving k=some r):marks k m=false/\((b7 B af ag k x m).1=.inr r\/∃k1,(b7 B af ag k x m).1=.inl k1/\leaving k1=some r):=by unfold leaving at h;split at h;{rename_i w b s oU;cases h;refine⟨rfl,?_⟩;unfold b7;dsimp only;split;{rename_i e;exfalso;have a:w=32:=hk.2.1;have c:s=wP:=hk.2.2.2.1;rw[a,c]at e;have:=h1.qP;have:=T.zJ;unfold wP at e;omega};exact .inr ⟨_,rfl,rfl⟩};{rename_i w b s v oU;cases h;refine⟨rfl,?_⟩;unfold b7;dsimp only;split;{exact .inl rfl};exact .inr ⟨_,rfl,rfl⟩};cases h
theorem amm{f:hT}{a:Nat}{t:Bool}{c:Cell}(e:m.ah f.ah=f.v):(b7 B af ag (.put f a t c r) x m).1=.inr r\/∃k1,(b7 B af ag (.put f a t c r) x m).1=.inl k1/\leaving k1=some r:=by unfold b7;dsimp only;rw[ko e];dsimp only;rw[aN rfl];split;{unfold ai.hN;split;{exact .inr ⟨_,rfl,rfl⟩};exact .inl rfl};exact .inl rfl
theorem aky(h:leaving k=some r):¬BU k:=by unfold leaving at h;split at h;{exact fun h=>h};{exact fun h=>h};cases h
theorem anF{q:Nat}{k1:c'}(hk:mB af ag m x k)(h:¬BU k)(h1:(b7 B af ag k x m).1=.inl k1)(a:BU k1):x.aj.op=5:=by cases k with|h0 w b s t=>(cases t with|back t=>unfold b7 at h1;dsimp only at h1;split at h1;{cases h1};cases h1;exact absurd a (fun h=>h)|ag=>exact absurd trivial h|a6=>exact absurd trivial h)|i' w b s v t=>(cases t with|back t=>(cases t with|d? j s g=>exact hk.1.1|done r=>unfold b7 at h1;dsimp only at h1;split at h1;{cases h1};cases h1;exact absurd a fun h=>h)|ag=>exact absurd trivial h|a6=>exact absurd trivial h)|_=>exact absurd trivial h
theorem af1{c:Call}(h:r.e=0)(h1:1<=c.op)(a:c.op<=4):counts c r=true:=by unfold counts;rw[h];split;{rfl};split;{rfl};exact hh ae
theorem amn(br:vo B af)(T:gD af ag){H:Nat->Mem}{d:Nat}{P:List Int}(h1:fe af ag m (nC x k+q))(l:iT af x)(hk:mB af ag m x k)(hc:m.count<4611686018427387900)(hp:o5 B af ag H n d P m x k)(y:∀c,Has m c->∀s∈c.held,s∈P):
 ∃u:List Int,(∀s∈P,s∈u)/\(∀c,Has (b7 B af ag k x m).2.2 c->∀s∈c.held,s∈u)/\∀s∈u,s∈P\/(s=x.a6/\∃f a t c r,k=.put f a t c r/\m.ah f.ah=f.v):=by by_cases w:∃f a t c r,k=.put f a t c r/\m.ah f.ah=f.v;{refine⟨x.a6::P,fun s aB=>o0 _ aB,fun c p s aB=>?_,fun s aB=>?_⟩;{rcases XR T h1 l hk hc hp p with h|⟨f,a,t,r,rfl,e⟩;{exact o0 _ (y c h s aB)};have g:sF B af H n d P x f c r:=hp;have z:=l.lV;have A:=hk.1.1;have b4:=g.fo.old;by_cases ly:x.aj.op=1;{have:=(g.vB.ly ly).2;refine o0 _<|b4 s ?_;rw[this]at aB;split at aB;{exact aB};exact aB};by_cases lU:x.aj.op=2;{rcases g.vB.lU lU with⟨_,b,_⟩|⟨b,_⟩;{have:=(br.held (dq af x.aj) (ku x f) r.a6).1 s (by rw[b];exact aB);rw[g.b0 lU]at this;rcases this with i|i;{exact o0 _ (b4 s i)};rw[i];exact List.mem_cons_self};have:=g.ok;rw[b]at this;cases this};by_cases mL:x.aj.op=3;{have b:=g.vB.mL mL;exact o0 _ (b4 s<|(br.held (dq af x.aj) (ku x f) x.aj.n).2 s<|by rw[b];exact aB)};have b:=(g.vB.uV ae).2;rw[b]at aB;exact o0 _ (b4 s aB)};rcases ik.1 aB with rfl|aB;{exact .inr ⟨rfl,w⟩};exact .inl aB};refine⟨P,fun s aB=>aB,fun c p s aB=>?_,fun s aB=>.inl aB⟩;rcases XR T h1 l hk hc hp p with h|⟨f,a,t,r,aO,aU⟩;{exact y c h s aB};exact absurd ⟨f,a,t,c,r,aO,aU⟩ w
theorem tZ.step(dQ:Sound B)(br:vo B af)(T:gD af ag){P:List Int}(h:tZ B af ag G P)(S:um G)(V:pM af ag G.s n)(hw:ak<64)(hn:n<4611686018427387900):∃J,tZ B af ag (sQ B af ag G ak) J:=by
 cases e:G.s.bz ak with
 |none=>rw[Gh e];exact⟨P,h⟩
 |some v=>
   obtain⟨x,k⟩:=v;rw[Em e];have h1:=V.inv;rw[Fe G.s.bz hw,e]at h1;have h1:fe af ag G.s.m (nC x k+rest G.s.bz ak):=h1;obtain⟨p,hk⟩:=V.live ak x k hw e;(have hc:G.s.m.count<4611686018427387900:=by have:=V.e8;omega);have U:=h.km ak x k hw e;obtain⟨gf,uD⟩:=h.cur;have a8:=Ky dQ T h1 p hk hc;have D:=h.b0 ak x k hw e;have w!:=an_ dQ br T uD h1 p hk hc U h.o' h.has h.le D.2.1;have O:=ane (B:=B) h1 hk;have hX:=fun r aE=>akz (B:=B) (r:=r) T h1 hk aE;(have pn:=fun f a t c r (o!:k=.put f a t c r) (aU:G.s.m.ah f.ah=f.v)=>show(b7 B af ag k x G.s.m).1=.inr r\/∃k1,(b7 B af ag k x G.s.m).1=.inl k1/\leaving k1=some r by rw[o!];exact amm aU);have oN:=fun k1=>anF (B:=B) (ag:=ag) (q:=0) (k1:=k1) hk;have Rn:=fun pol key R W=>agR dQ T h1 p hk hc U (pol:=pol) (key:=key) R W;obtain⟨J,XD,ahW,X⟩:=amn br T h1 p hk hc U h.has;have MG:∀t,t<=G.bS->cellAt (G.kR t)=cellAt (G.kR t):=fun _ _=>rfl;(have fK:∀pol key,cellAt G.s.m pol key=cellAt (G.kR G.bS) pol key:=fun pol key=>by rw[uD];rfl);(have ajM:(G.kR G.bS).aZ=G.s.m.aZ:=by rw[uD];rfl);have Z:=a8.ca;have M:=a8.aj;have na:=a8.later;have aio:=a8.inv.dir;(have w2:G.s.m.ah 33<=(b7 B af ag k x G.s.m).2.2.ah 33:=by rcases O with⟨_,b⟩|⟨_,b,_⟩<;>omega);clear a8;generalize b7 B af ag k x G.s.m=o at*;have VL:wu G.kR (cQ G.kR (G.bS+1) o.2.2) G.bS:=wu.cQ _ _ _;(have XC:∀s∈J,s<=G.s.m.ah 33:=fun s aB=>by rcases X s aB with b|⟨b,_⟩;{exact h.le s b};rw[b];exact D.1);refine⟨J,?_,?_,?_,?_,?_,?_,?_,?_,?_,?_,?_,?_⟩;{exact⟨o.2.2.ca,by rw[Hu];show _=(cQ G.kR (G.bS+1) o.2.2<|G.bS+1).at_ _;rw[ht];rfl⟩};{intro i j E g;show(cQ G.kR _ _ i).ca<=(cQ G.kR _ _ j).ca;have g:j<=G.bS+1:=g;by_cases C:j=G.bS+1;{subst C;rw[ht];by_cases r7:i=G.bS+1;{subst r7;rw[ht];exact Int.le_refl _};rw[cD _ _ r7,Z];exact h.o' i ae};rw[cD _ _ C,cD _ _ ae];exact h.mono i j E ae};{intro t S;rw[Hu];show(cQ G.kR _ _ t).ca<=_;have S:t<=G.bS+1:=S;by_cases Q:t=G.bS+1;{subst Q;rw[ht];exact Int.le_refl _};rw[cD _ _ Q,Z];exact h.o' t ae};{intro j ij h5 g hp;rw[Hu];show o5 B af ag (cQ G.kR _ _) (G.bS+1) (cQ G.done ak _ j) J o.2.2 ij h5;rcases yG hp with⟨rfl,aO,rfl⟩|⟨bU,hp⟩;{rw[ht];exact(w!.on h5 aO).HF XD};rw[cD _ _ bU];have y:=V.live j ij h5 g hp;exact(h.km j ij h5 g hp).later VL ajM (ht _ _ _) XD na ae aio y.1.sum y.2};{rw[Hu];exact ahW};{rw[Hu];exact fun s aB=>by have:=XC s aB;omega};{intro j ij h5 g hp;rw[Hu];rcases yG hp with⟨rfl,aO,rfl⟩|⟨bU,hp⟩;{rw[M];rcases O with⟨b,l⟩|⟨b,l,z⟩;{rw[b];refine⟨by have:=D.1;omega,fun a8 aB hm=>?_,D.2.2⟩;(have ai8:BU k:=q9 fun ek=>by have:=oN h5 ek aO a8;have:=D.2.2 ae;omega);rcases X _ hm with w|⟨_,f,a,t,c,r,w,hl⟩;{exact D.2.1 ai8 aB w};rcases pn f a t c r w hl with K|⟨k1,K,ahB⟩;{rw[aO]at K;cases K};rw[aO]at K;cases K;exact aky ahB a8};rw[b];refine⟨ae,fun _ _ hm=>?_,fun bU=>absurd z bU⟩;have:=XC _ hm;omega};have b:=h.b0 j ij h5 g hp;refine⟨ae,fun a8 aB hm=>?_,b.2.2⟩;rcases X _ hm with w|⟨w,_⟩;{exact b.2.1 a8 aB w};exact h.Hr j ak ij h5 x k g hw bU hp e aB w};{intro i j qa rH ij h5 hi g E uM A aB;rcases yG uM with⟨rfl,aO,rfl⟩|⟨MK,JI⟩;{rcases yG A with⟨rfl,_,_⟩|⟨GI,A⟩;{exact absurd rfl E};rcases O with⟨b,l⟩|⟨b,l,z⟩;{rw[b]at aB⊢;exact h.Hr i j x k ij h5 hi g E e A aB};rw[b];have:=(h.b0 j ij h5 g A).1;omega};have Y:=JI;rcases yG A with⟨rfl,aO,rfl⟩|⟨GI,A⟩;{rcases O with⟨b,l⟩|⟨b,l,z⟩;{rw[b];exact h.Hr i j qa rH x k hi g E Y e aB};rw[b];have:=(h.b0 i qa rH hi Y).1;omega};exact h.Hr i j qa rH ij h5 hi g E Y A aB};{have old:∀d∈G.log,d.aj.op<=4->counts d.aj d.cn=true->vq B af (cQ G.kR (G.bS+1) o.2.2) d.aj d.at_ d.cn:=fun d he u I=>(h.log d he u I).later VL (by have b:=S.log d he;omega);intro d he u I;show vq B af (cQ G.kR (G.bS+1) o.2.2) d.aj d.at_ d.cn;cases F:o.1 with|inl k1=>rw[F]at he;exact old d he u I|inr r=>rw[F]at he;rcases List.mem_append.1 he with he|he;{exact old d he u I};rw[List.mem_singleton]at he;subst he;exact(w!.fin r F u).2 I};{intro d he;show yN af d.aj;cases F:o.1 with|inl k1=>rw[F]at he;exact h.c7 d he|inr r=>rw[F]at he;rcases List.mem_append.1 he with he|he;{exact h.c7 d he};rw[List.mem_singleton]at he;subst he;exact⟨p.lV,p.px,p.pol,p.nN,p.oP,p.n,p.s',p.rI,p.nM⟩};·intro pol key;show cellAt (cQ G.kR _ _ 0) pol key=_;rw[cD _ _ ae];exact h.init pol key
   . intro t M0 pol key R W;have M0:t<G.bS+1:=M0;show HQ af (cQ G.kR _ _) t pol key\/PA _ (t+1) pol key\/PB _ (cQ G.done ak _) (t+1) pol key
     have mark:∀r,x.aj.op<=4->counts x.aj r=true->o_ k G.s.m G.bS (G.done ak)=t+1->x.aj.pol=pol->x.aj.key=key->(o.1=.inr r\/∃k1,o.1=.inl k1/\leaving k1=some r)->
         PA (match o.1 with|.inl _=>G.log|.inr r=>G.log++[⟨ak,x.aj,if G.cF ak=0 then G.bS+1 else G.cF ak,o_ k G.s.m G.bS<|G.done ak,G.bS+1,r⟩]) (t+1) pol key\/PB (tc ak G.s o).1.bz (cQ G.done ak<|o_ k G.s.m G.bS<|G.done ak) (t+1) pol key:=by
       intro r u L aI H N au
       rcases au with au|⟨k1,au,y⟩
       . rw[au]
         exact .inl ⟨_,List.mem_append_right _<|List.mem_singleton.2 rfl,aI,u,L,H,N⟩
       . exact .inr ⟨ak,o.2.1,k1,r,hw,abC au,y,by rw[ht];exact aI,by rw[M];exact u,by rw[M];exact L,by rw[M];exact H,by rw[M];exact N⟩
     by_cases Q:t=G.bS;{subst Q;rcases Rn pol key R W with b|⟨b,l⟩|⟨f,a,hf,c,r,b,l,z,w⟩;{refine .inl<|.inl ?_;rw[ht,cD _ _ ae,b,fK]};{refine .inl<|.inr ?_;rw[ht,cD _ _ ae,<-fK,Z];exact⟨b,l⟩};refine .inr<|mark r ?_ ?_ ?_ z.symm w.symm<|pn f a hf c r b l;{subst b;exact hk.1.1};{subst b;have hl:sF B af G.kR G.bS (G.done ak) P x f c r:=U;exact af1 hl.ok p.lV hk.1.1};subst b;exact aN (hh l)};have b:=h.LZ t ae pol key R W;rcases b with b|b|⟨j,ij,h5,r,g,hp,y,aI,u,L,H,N⟩;{refine .inl ?_;unfold HQ;rw[cD _ _ ae,cD _ _ ae];exact b};{refine .inr<|.inl ?_;obtain⟨d,he,l⟩:=b;refine⟨d,?_,l⟩;show d∈(match o.1 with|.inl _=>G.log|.inr r=>G.log++[_]);cases o.1 with|inl _=>exact he|inr r=>exact List.mem_append_left _ he};by_cases C:j=ak;{subst C;rw[e]at hp;cases hp;obtain⟨l,z⟩:=hX r y;exact .inr (mark r u L (by unfold o_;rw[l,aC bI];exact aI) H N z)};exact .inr<|.inr ⟨j,ij,h5,r,g,by rw[abD C];exact hp,y,by rw[cD _ _ C];exact aI,u,L,H,N⟩
theorem ag1{L:List Cell}(hw:iA L){pol:Int}{key:List Nat}(i:0<=pol)(h1:pol<32):(findD L pol key).isSome=e0 L pol key/\o9 L pol key=ei L pol key:=by cases e:e0 L pol key with|true=>(obtain⟨c,_,h,b,f⟩:=xA e;have ok:=hw.ok c f;obtain⟨aO,aU⟩:=Na ok.py ok.og i h1 h;cases a:findD L pol key with|none=>have:=List.find?_eq_none.1 a c f;simp[aO,aU]at this|some d=>have g:=List.find?_some a;simp at g;have l:=T_ hw (List.mem_of_find?_eq_some a) f (by unfold bH;rw[g.1,g.2,aO,aU]);refine⟨rfl,?_⟩;unfold o9;rw[a,b,l];rfl)|false=>obtain⟨h,b⟩:=v8 hw e;(have a:findD L pol key=none:=List.find?_eq_none.2 fun c hc=>by have:=b c hc;simp;rintro rfl rfl;exact this rfl);refine⟨by rw[a];rfl,?_⟩;unfold o9;rw[a,h];rfl
theorem S!:∀{L:List Cell},iA L->∀{c:Cell},h9 L (e6 L c.pol c.key) (e0 L c.pol c.key) c=iO L c
 |[],_,c=>rfl
 |x::L,hw,c=>by have f:iA L:=⟨fun d aI=>hw.ok d<|o0 _ aI,(List.pairwise_cons.1 hw.order).2,by have:=hw.e8;simp at this;omega⟩;have l:=S! f (c:=c);have i:=F' (bH x)<|bH c;unfold iO;by_cases h1:cT (bH x) (bH c)<0;{(have a:e6 (x::L) c.pol c.key=e6 L c.pol c.key+1:=by rw[IQ,IQ,List.takeWhile_cons,aN<|hh<|show cT (bH x) (cK c.pol c.key)<0 from h1];rfl);(have b:e0 (x::L) c.pol c.key=e0 L c.pol c.key:=by unfold e0;rw[a];rfl);rw[aC ae,aC ae,a,b,<-l];unfold h9;split;{rfl};rfl};(have a:e6 (x::L) c.pol c.key=0:=by rw[IQ,List.takeWhile_cons,aC fun h:decide (cT (bH x) (cK c.pol c.key)<0)=true=>h1<|pC h];rfl);(have b:e0 (x::L) c.pol c.key=decide (cT (bH x) (bH c)=0):=by unfold e0;rw[a];show(cT (bH x) (bH c)==0)=_;by_cases e:cT (bH x) (bH c)=0;{rw[e];rfl};rw[hg e];simpa using e);rw[a,b];by_cases g:cT (bH x) (bH c)=0;{rw[aC ae,aN ae,hh g];rfl};rw[aN ae,hg g];rfl
theorem akN(L:List Cell)(l s:Nat):C2 L l s=cut L l s:=by congr 1
structure Fk(B:Below)(af:List aA):Prop where
 take:∀p c n,eH c->(c.held.length:Int)<p.bl->1<=n->n<=4611686018427387903->n∉c.held->fI B p c n=(⟨0,true,p.bl-((oh c.held n).length:Nat),0,n,0⟩,{c with held:=oh c.held n})
 Ci:∀p c n,eH c->(c.held.length:Int)<=p.bl->g' B p c n=if n∈c.held then(⟨0,true,p.bl-((o? c.held n).length:Nat),0,0,0⟩,{c with held:=o? c.held n})else(err 11,c)
structure jV(D:bf)(m:Mem):Prop where
 dm:D.aZ.length=32
 e2:D.a_.length=32
 aZ:∀i,i<32->wd D.aZ i=m.ah i
 a_:∀i,1<=i->i<32->D.a_.getD i []=m.b4 i
 count:D.count=m.ah 32
 a6:D.a6=m.ah 33
 now:D.now=m.ca
def D7(dc:bC)(sum:Nat)(t:Then):Prop:=dc.sum=sum/\(match t with|.aj=>True|.d? j s g=>dc.j=j/\dc.p5=s/\dc.cd=g)
def pE(dc:bC):nY->Prop
 |.find aw sum t=>dc.bk.aw=aw/\D7 dc sum t
 |.move aw i=>dc.bk.aw=aw/\dc.bk.shard=i
def iR(dc:bC):nt->Prop
 |.find sum t=>D7 dc sum t
 |.one l i _=>dc.bk.upper=false/\dc.bk.shard=i
 |.two l i=>dc.bk.upper=true/\dc.bk.shard=i
def Og(dc:bC)(x:Live)(f:hT)(there:Bool):Prop:=dc.bk.ah=f.ah/\dc.bk.v=f.v/\dc.there=there/\dc.cell=ku x f
def PH(B:Below)(af:List aA)(dc:bC)(x:Live)(f:hT)(there:Bool)(c:Cell)(r:c2):Prop:=Og dc x f there/\∃b,hL B (dq af x.aj) (ku x f) x.aj dc.now x.a6=(r,c,b)
def VD(B:Below)(af:List aA)(dc:bC)(x:Live)(de:Nat)(s:Nat):lN->Prop
 |.back (.done r)=>dc.ch=s+7/\dc.cn=r/\dc.back=1
 |.back (.d? j sh g)=>dc.ch=s+7/\dc.j=j/\dc.p5=sh/\(de:Int)=e7-dc.back/\dc.cd+dc.back=g
 |.ag f _ a c r=>dc.ch=s+2/\PH B af dc x f a c r
 |.a6 f _ a c=>dc.ch=s+4/\Og dc x f a
def Iw(B:Below)(af:List aA)(dc:bC)(x:Live):c'->Prop
 |.find sum t=>dc.ch=0/\dc.bk.pl=0/\D7 dc sum t
 |.enter sum ah t=>dc.ch=0/\(dc.bk.pl=1\/dc.bk.pl=6)/\dc.bk.ah=ah/\D7 dc sum t
 |.lk ah t=>dc.ch=0/\dc.bk.pl=2/\dc.bk.ah=ah/\pE dc t
 |.mZ ah v _ t=>dc.ch=0/\dc.bk.pl=3/\dc.bk.ah=ah/\dc.bk.v=v/\pE dc t
 |.half aw shard _ t=>dc.ch=0/\dc.bk.pl=4/\dc.bk.aw+1=aw/\dc.bk.ah=aW aw shard/\iR dc t
 |.m? aw shard _ _ t=>dc.ch=0/\dc.bk.pl=5/\dc.bk.aw+1=aw/\dc.bk.ah=aW aw shard/\iR dc t
 |.split=>dc.ch=0/\dc.bk.pl=0
 |.om d aw=>dc.ch=0/\dc.bk.pl=7/\dc.bk.v=d/\dc.bk.aw=aw
 |.pr aw=>dc.ch=0/\dc.bk.pl=8/\dc.bk.aw=aw
 |.h0 _ b _ t=>VD B af dc x b 0 t
 |.i' _ b _ v t=>VD B af dc x b 1 t/\dc.n=(v:Nat)
 |.put f _ a c r=>dc.ch=6/\PH B af dc x f a c r
 |.allow f _ a c=>dc.ch=1/\Og dc x f a/\c=ku x f
 |.k? c=>dc.ch=1/\dc.cell=c
 |.n5=>dc.ch=9/\dc.cd=0/\dc.j=0/\dc.sum=0/\dc.bk=N6
 |.mY j s g ah v cells=>dc.ch=1/\dc.j=j/\dc.p5=s/\dc.cd=g/\dc.bk.ah=ah/\dc.bk.v=v/\dc.af=cells
 |.ke j s g ah v rest n=>dc.ch=6/\dc.j=j/\dc.p5=s/\dc.cd=g/\dc.bk.ah=ah/\dc.bk.v=v/\y? af dc.af dc.now=rest/\dc.idle=(n:Nat)
structure xF(B:Below)(af:List aA)(dc:bC)(x:Live)(k:c')(d:Nat):Prop where
 aj:dc.aj=x.aj
 res:dc.gn=x.gn
 b0:dc.a6=x.a6
 done:dc.done=d
 sum:x.aj.op<=4->dc.sum=x.sum
 lT:Iw B af dc x k
structure e!(B:Below)(af:List aA)(il:bf)(d':Nat)(bL:Live)(o:Out)(eA:kH):Prop where
 on:∀k,o.1=.inl k->eA.fin=none/\xF B af eA.x o.2.1 k d'
 fin:∀r,o.1=.inr r->eA.fin=some r/\eA.x.aj=bL.aj/\eA.x.done=d'
 kD:jV eA.D o.2.2
 rest:eA.D.log=il.log/\eA.D.c7=il.c7/\eA.D.cF=il.cF/\eA.D.bS=il.bS
theorem e!.j3{il D:bf}{d':Nat}{bL:Live}{dc:bC}(h:xF B af dc x k d')(hm:jV D m)(aE:D.log=il.log/\D.c7=il.c7/\D.cF=il.cF/\D.bS=il.bS):e! B af il d' bL (more k x m) (stay dc D):=
 ⟨fun k' e=>by cases e;exact⟨rfl,h⟩,fun r e=>(by cases e),hm,aE⟩
