import Derived.Test.YtoglcccmgnjchaaGreatTa11
import Derived.Laws.EntriesVeiled
import Derived.Deep.QuietTactic
import Derived.WalkSmall
set_option linter.all false
set_option maxHeartbeats 8000000
set_option maxRecDepth 100000
namespace Go.Proofs.YtoglcccmgnjchaaGreat
open Go.Proofs.Tryz PL
namespace ai
variable {af : List aA} {ag:Nat}
variable{m:Mem}{x:Live}{k:c'}{B:Below}{t:Then}{sum ah a b:Nat}{h:List Cell}
theorem afY(h:mB af ag m x k):cost m k<=500:=by
 cases k with
 |find sum t=>have:=Hh h;show mx t+20<=500;omega
 |enter sum ah t=>have:=Hh h.1;show mx t+9+_<=500;split<;>omega
 |lk ah t=>cases t with|find aw sum t=>have:=Hh h.1;have:=Nq m aw;show mx t+pq m aw+17<=500;omega|move aw i=>have:=C' h.2.1;show(2^aw-i)*24+17<=500;omega
 |mZ ah v a_ t=>cases t with|find aw sum t=>have:=Hh h.1.1;have:=Nq m aw;show mx t+pq m aw+_<=500;split<;>omega|move aw i=>have:=C' h.1.2.1;show(2^aw-i)*24+_<=500;split<;>omega
 |half aw shard a_ t=>obtain⟨l,h1,o,s,p,q,e⟩:=h;cases t with|find sum t=>have:=Hh e.1;have:=Nq m<|aw-1;show mx t+pq m (aw-1)+13<=500;omega|one g i h=>have:=C' o;have:=e.2.1;subst this;show(2^g-i)*24+13<=500;omega|two g i=>have:=C' o;have:=e.2.1;subst this;show(2^g-i)*24+9<=500;omega
 |m? aw shard a_ u t=>obtain⟨l,h1,o,s,p,q,e⟩:=h;cases t with|find sum t=>have:=Hh e.1;have:=Nq m<|aw-1;show mx t+pq m (aw-1)+11<=500;omega|one g i h=>have:=C' o;have:=e.2.1;subst this;show(2^g-i)*24+11<=500;omega|two g i=>have:=C' o;have:=e.2.1;subst this;show(2^g-i)*24+7<=500;omega
 |split=>show 300<=500;decide
 |om d aw=>show(if m.ah 0=d then 290 else 310)<=500;split<;>omega
 |pr aw=>show 1<=500;decide
 |h0 ah de stop t=>
  cases t with
  |back t=>cases t with
   |done r=>show 6<=500;decide
   |d? j b_ cd=>have:=h.2.2.2.2.2.1;show(b_-1-j)*24+2+1<=500;omega
  |ag f at_ there c r=>have:=Hs m f;show 13+1+iH m f<=500;omega
  |a6 f at_ there c=>have:=Hs m f;show 17+1+iH m f<=500;omega
 |i' ah de stop v t=>
  cases t with
  |back t=>cases t with
   |done r=>show 5+_<=500;split<;>omega
   |d? j b_ cd=>have:=h.1.2.2.2.2.2.1;show(b_-1-j)*24+2+_<=500;split<;>omega
  |ag f at_ there c r=>have:=Hs m f;show 13+_+iH m f<=500;split<;>omega
  |a6 f at_ there c=>have:=Hs m f;show 17+_+iH m f<=500;split<;>omega
 |put f at_ there c r=>have:=Hs m f;show 10+iH m f<=500;omega
 |allow f at_ there c=>have:=Hs m f;show 20+iH m f<=500;omega
 |k? c=>show 2<=500;decide
 |n5=>show 400<=500;decide
 |mY j b_ cd ah v cells=>have:=h.1.2.2.2.1;show(b_-1-j)*24+7<=500;omega
 |ke j b_ cd ah v rest n=>have:=h.1.2.2.2.1;show(b_-1-j)*24+5<=500;omega
theorem Qb(r:c2)(x:Live)(m:Mem):wY (fin r x m)=0:=rfl
theorem LQ(r:c2)(x:Live)(m:Mem):wY (hN r x m)<=6:=by unfold hN;split;{exact bG 6};exact fw _
theorem LP{j b_:Nat}(cd:Int)(x:Live)(m:Mem)(h:j<b_):wY (iC j b_ cd x m)<=(b_-1-j)*24:=by unfold iC;split;{exact fw _};show(b_-1-(j+1))*24+20<=_;omega
theorem LS(ag:Nat)(f:hT)(at_:Nat)(there:Bool)(c:Cell)(r:c2)(x:Live)(m:Mem):wY (more (kE ag f at_ there c r x) x m)<=14+iH m f:=by unfold kE;split;{show 10+iH m f<=_;omega};show 13+1+iH m f<=_;omega
theorem afZ(d:rZ x sum t):wY (kG B af ag t ah (m.ah ah) h x m.bN)<mx t+9:=by(have c:iH m.bN ⟨ah,m.ah ah,h⟩=0:=by unfold iH;exact aN rfl);cases t with|d? j b_ cd=>unfold kG;dsimp only;have:=LP cd x m.bN d.2.2.1;split;{show wY (iC j b_ cd x m.bN)<(b_-1-j)*24+9;omega};show(b_-1-j)*24+7<(b_-1-j)*24+9;omega|aj=>show _<24+9;unfold kG;dsimp only;split;{show 20+iH m.bN _<33;rw[c];decide};split;{unfold r0;split;{have:=LQ (err 9) x m.bN;omega};split;{have:=LS ag ⟨ah,m.ah ah,h⟩ (e6 h x.aj.pol x.aj.key) (e0 h x.aj.pol x.aj.key) (fI B (c_ af x) (ei h x.aj.pol x.aj.key) x.a6).2 (fI B (c_ af x) (ei h x.aj.pol x.aj.key) x.a6).1 x m.bN;rw[c]at this;omega};show 17+1+iH m.bN _<33;rw[c];decide};split;{split;{rw[Qb];decide};have:=LS ag ⟨ah,m.ah ah,h⟩ (e6 h x.aj.pol x.aj.key) (e0 h x.aj.pol x.aj.key) (g' B (c_ af x) (ei h x.aj.pol x.aj.key) x.aj.n).2 (g' B (c_ af x) (ei h x.aj.pol x.aj.key) x.aj.n).1 x m.bN;rw[c]at this;omega};split;{rw[Qb];decide};show 2<33;decide
theorem Wk(c:rZ x sum t):wY (oG B af ag sum ah (m.ah ah) h t x m.bN)<mx t+9+(if 1<=m.ah ah/\m.ah ah<c4 then 0 else 70):=by unfold oG;split;{rename_i av;rw[aC ae];show mx t+20<_;omega};rename_i av;rw[aN ae];exact afZ c
theorem LR(m:Mem){aw i:Nat}(h:i<=2^aw):cost m (pv aw i)<=(2^aw-i)*24+17:=by unfold pv;split;{show 1<=_;omega};exact bG _
theorem Wl(m:Mem)(t:nY)(L:List Cell):cost m (vG t L)+2=tz m t 15:=by cases t with|find aw sum t=>show mx t+pq m (aw+1-1)+13+2=mx t+pq m aw+15;rw[Nat.add_sub_cancel]|move aw i=>rfl
theorem Qa(m:Mem)(t:nY)(h:a<b):tz m t a<tz m t b:=by cases t with|find aw sum t=>show mx t+pq m aw+a<mx t+pq m aw+b;omega|move aw i=>show(2^aw-i)*24+a<(2^aw-i)*24+b;omega
theorem LN{dI:Mem}(h:dI.ah 0=m.ah 0)(t:nY)(c:Nat):tz dI t c=tz m t c:=by cases t with|find aw sum t=>show mx t+pq dI aw+c=_;unfold pq;rw[h];rfl|move aw i=>rfl
theorem Wj(m:Mem)(t:lN)(h:a<b):Ao m t a<Ao m t b:=by
 cases t with
 |back t=>cases t with
  |done r=>show 5+a<5+b;omega
  |d? j b_ cd=>show(b_-1-j)*24+2+a<(b_-1-j)*24+2+b;omega
 |ag f at_ there c r=>show 13+a+iH m f<13+b+iH m f;omega
 |a6 f at_ there c=>show 17+a+iH m f<17+b+iH m f;omega
theorem an1{B:Below}{q:Nat}{m:Mem}(h1:fe af ag m (nC x k+q))(F:iT af x)(hk:mB af ag m x k):
   wY (b7 B af ag k x m)<cost m k:=by
 have aI:=h1.dir
 cases k with
 |find sum t=>unfold b7;dsimp only;split;{rename_i he;have p:=l! (m.ah 0/2) sum;have h:=aI.cur _ p.1 p.2;show mx t+9+(if 1<=m.ah (aW (m.ah 0/2) sum)/\m.ah (aW (m.ah 0/2) sum)<c4 then 0 else 70)<mx t+20;rw[aN ⟨h.1,h.2 he⟩];omega};·show mx t+pq m (m.ah 0/2)+17<mx t+20;unfold pq;rw[aN ae];omega
 |enter sum ah t=>exact Wk hk.1
 |lk ah t=>unfold b7;dsimp only;split;{have:=Wl m.bN t (m.b4 ah);have e:tz m.bN t 15=tz m t 15:=LN rfl t 15;have:=Qa m t (show 15<17 by decide);show cost m.bN _<tz m t 17;omega};·show tz m.bN t (if m.ah ah=m.ah ah then 15 else 18)<tz m t 17;rw[aN rfl,LN (show m.bN.ah 0=m.ah 0 from rfl)];exact Qa m t ax
 |mZ ah v a_ t=>
   unfold b7;dsimp only
   have hw:1<=ah/\ah<32:=by
     obtain⟨hk,_⟩:=hk
     cases t with
     |find aw sum t=>rw[hk.2.2.1];exact fM (by have:=hk.2.1;omega)
     |move aw i=>rw[hk.2.2.2.1];exact fM (by have:=hk.2.1;omega)
   by_cases e:m.ah ah=v;{rw[ko e];dsimp only;rw[aN rfl];have:=Wl (m.cy ah (v+c4) a_) t a_;have cI:(m.cy ah (v+c4) a_).ah 0=m.ah 0:=zF aI hw.1 hw.2 _ _;rw[LN cI]at this;show cost (m.cy ah (v+c4) a_) (vG t a_)<tz m t (if m.ah ah=v then 15 else 18);rw[aN e];omega};·rw[kF e];show tz m.bN t 17<tz m t (if m.ah ah=v then 15 else 18);rw[aC e,LN (show m.bN.ah 0=m.ah 0 from rfl)];exact Qa m t ax
 |half aw shard a_ t=>obtain⟨l,rfl,u,C,z,A,o⟩:=hk;unfold b7;dsimp only;split;{rename_i bd;cases t with|find sum t=>obtain⟨o,rfl⟩:=o;unfold mK;dsimp only;rw[aC bd];have hc:=Wk (B:=B) (af:=af) (ag:=ag) (m:=m) (ah:=aW (l+1) shard) (h:=m.b4 (aW (l+1) shard)) o;show _<mx t+pq m l+13;by_cases e:m.ah 0=2*l+1;{have aU:m.ah 0/2=l:=ae;have p:=l! (l+1) shard;have hn:=aI.uU (aW (l+1) shard) (by rw[aU];exact p.1) (fM ae).2;rw[aN ⟨ae,hn.1⟩]at hc;omega};unfold pq;rw[aC e];(have:(if 1<=m.ah (aW (l+1) shard)/\m.ah (aW (l+1) shard)<c4 then 0 else 70)<=70:=by split<;>omega);omega|one g i h=>show(2^g-i)*24+9<(2^g-i)*24+13;omega|two g i=>obtain⟨a,rfl,rfl,d,e,f⟩:=o;have:=LR m.bN (show i+1<=2^g by omega);show cost m.bN (pv g (i+1))<(2^g-i)*24+9;omega};·show LO m.bN (l+1) t 7<LO m (l+1) t 9;cases t with|find sum t=>show mx t+pq m l+11<mx t+pq m l+13;omega|one g i h=>show(2^g-i)*24+11<(2^g-i)*24+13;omega|two g i=>show(2^g-i)*24+7<(2^g-i)*24+9;omega
 |m? aw shard a_ h t=>obtain⟨l,rfl,u,C,z,A,o⟩:=hk;have b:=fM (s:=shard) (show l+1<=4 by omega);unfold b7;dsimp only;cases t with|find sum t=>have y:wY (mK B af ag (.find sum t) (aW (l+1) shard) 0 h x (m.swap (aW (l+1) shard) 0 1 (cut a_ (l+1) (aW (l+1) shard-2^(l+1)))).2)=mx t+9+(if 1<=(m.swap (aW (l+1) shard) 0 1 (cut a_ (l+1)<|aW (l+1) shard-2^(l+1))).2.ah (aW (l+1) shard)/\(m.swap (aW (l+1) shard) 0 1<|cut a_ (l+1)<|aW (l+1) shard-2^(l+1)).2.ah (aW (l+1) shard)<c4 then 0 else 70):=rfl;rw[y];show _<mx t+pq m l+11;by_cases e:m.ah (aW (l+1) shard)=0;{rw[ko e];dsimp only;(have w:aW (l+1) shard<m.aZ.length:=by rw[aI.dm];omega);rw[dY w,aN rfl,aN ax];omega};·rw[kF e];dsimp only;rw[aoY];by_cases aO:m.ah 0=2*l+1;{have aU:m.ah 0/2=l:=ae;have p:=l! (l+1) shard;have hn:=aI.uU (aW (l+1) shard) (by rw[aU];exact p.1) b.2;rw[aN ⟨ae,hn.1⟩];omega};·unfold pq;rw[aC aO];split<;>omega|one g i h=>show(2^g-i)*24+9<(2^g-i)*24+11;omega|two g i=>obtain⟨a,rfl,rfl,d,e,f⟩:=o;have:=LR (m.swap (aW (g+1)<|i+2^g) 0 1 (cut a_ (g+1) (aW (g+1) (i+2^g)-2^(g+1)))).2 (show i+1<=2^g by omega);refine Nat.lt_of_le_of_lt this ?_;show _<(2^g-i)*24+7;omega
 |split=>unfold b7;dsimp only;split;{rename_i a8;have:=LR m.bN (fw (2^(m.ah 0/2)));have:=C' (aI.uT a8);show cost m.bN (pv (m.ah 0/2) 0)<300;omega};split;{show 0<300;decide};·show(if m.ah 0=m.ah 0 then 290 else 310)<300;rw[aN rfl];decide
 |om d aw=>unfold b7;dsimp only;by_cases e:m.ah 0=d;{rw[ko e];dsimp only;rw[aN rfl];have D:=LR (m.cy 0 (d+1) []) (fw (2^aw));have:=C' hk.2.2;refine Nat.lt_of_le_of_lt D ?_;show _<(if m.ah 0=d then 290 else 310);rw[aN e];omega};·rw[kF e];show 300<(if m.ah 0=d then 290 else 310);rw[aC e];decide
 |pr aw=>exact Nat.zero_lt_one
 |h0 ah de stop t=>
   unfold b7;dsimp only;split
   . cases t with
     |back t=>cases t with
       |done r=>show 0<6;decide
       |d? j b_ cd=>show 0<(b_-1-j)*24+2+1;omega
     |ag f at_ there c r=>show 0<13+1+iH m f;omega
     |a6 f at_ there c=>
       have:=LQ (err 5) x m.bN
       show wY (hN (err 5) x m.bN)<17+1+iH m f
       omega
   . show Ao m.bN t (if m.ah ah=m.ah ah then 0 else 2)<Ao m t 1;rw[aN rfl];exact Wj m t ax
 |i' ah de stop v t=>
   unfold b7;dsimp only;by_cases e:m.ah ah=v
   . rw[ko e];dsimp only;rw[aN rfl];show _<Ao m t (if m.ah ah=v then 0 else 2);rw[aN e]
     cases t with
     |back t=>cases t with
       |done r=>show 0<5+0;decide
       |d? j b_ cd=>
         have:=LP cd x (m.cy ah ((v+de)%e7) []) hk.1.2.2.2.2.1
         show wY (iC j b_ cd x (m.cy ah ((v+de)%e7) []))<(b_-1-j)*24+2+0
         omega
     |ag f at_ there c r=>
       obtain⟨⟨rfl,_,_,_,_,_,hp⟩,_⟩:=hk
       obtain⟨_,_,⟨l,u,hw⟩,_⟩:=hp
       have b:=fM (s:=x.sum) u
       rw[<-hw]at b
       have w:ll<m.aZ.length:=by rw[aI.dm];decide
       show 10+iH (m.cy ll ((v+de)%e7) []) f<13+0+iH m f
       have:iH (m.cy ll ((v+de)%e7) []) f=iH m f:=by
         unfold iH
         rw[dY w,aC (show¬f.ah=ll by unfold ll;omega)]
       rw[this]
       omega
     |a6 f at_ there c=>
       obtain⟨⟨rfl,_,_,_,hp⟩,_⟩:=hk
       obtain⟨_,_,⟨l,u,hw⟩,_⟩:=hp
       have b:=fM (s:=x.sum) u
       rw[<-hw]at b
       have w:rX<m.aZ.length:=by rw[aI.dm];decide
       have:iH (m.cy rX ((v+de)%e7) []) f=iH m f:=by
         unfold iH
         rw[dY w,aC (show¬f.ah=rX by unfold rX;omega)]
       unfold xE
       have hp:=LS ag f at_ there (fI B (c_ af x) c (((v+de)%e7:Nat):Int)).2 (fI B (c_ af x) c (((v+de)%e7:Nat):Int)).1 {x with a6:=(((v+de)%e7:Nat):Int)} (m.cy rX ((v+de)%e7) [])
       rw[this]at hp
       refine Nat.lt_of_le_of_lt hp ?_
       show _<17+0+iH m f
       omega
   . rw[kF e];dsimp only;rw[aC bI];show Ao m.bN t 1<Ao m t (if m.ah ah=v then 0 else 2);rw[aC e];exact Wj m t ax
 |put f at_ there c r=>unfold b7;dsimp only;by_cases e:m.ah f.ah=f.v;{rw[ko e];dsimp only;rw[aN rfl];split;{have:=LQ r x (m.cy f.ah (f.v+1) (h9 f.cells at_ there c));show _<10+iH m f;omega};rw[Qb];show 0<10+iH m f;omega};·rw[kF e];show 24+20<10+iH m f;unfold iH;rw[aC e];decide
 |allow f at_ there c=>unfold b7;dsimp only;have G:iH m.bN f=iH m f:=rfl;split;{have:=LQ ⟨0,(B.decide (c_ af x) c.aJ m.ca x.aj.n).1,(B.decide (c_ af x) c.aJ m.ca x.aj.n).2.2.1,(B.decide (c_ af x) c.aJ m.ca x.aj.n).2.2.2,0,m.ca⟩ x m.bN;show _<20+iH m f;omega};·have:=LS ag f at_ there {c with aJ:=(B.decide (c_ af x) c.aJ m.ca x.aj.n).2.1} ⟨0,(B.decide (c_ af x) c.aJ m.ca x.aj.n).1,(B.decide (c_ af x) c.aJ m.ca x.aj.n).2.2.1,(B.decide (c_ af x) c.aJ m.ca x.aj.n).2.2.2,0,m.ca⟩ x m.bN;show _<20+iH m f;omega
 |k? c=>show 0<2;decide
 |n5=>have:=aI.d8;have E:=lh (show(m.ah 0+1)/2<=4 by omega);show(2^((m.ah 0+1)/2)-1-0)*24+20<400;omega
 |mY j b_ cd ah v cells=>unfold b7;dsimp only;split;{have:=LP cd x m.bN hk.1.2.2.1;show _<(b_-1-j)*24+7;omega};·show(b_-1-j)*24+5<(b_-1-j)*24+7;omega
 |ke j b_ cd ah v rest n=>unfold b7;dsimp only;by_cases e:m.ah ah=v;{rw[ko e];dsimp only;rw[aN rfl];show(b_-1-j)*24+2+1<(b_-1-j)*24+5;omega};rw[kF e];have:=LP cd x m.bN hk.1.2.2.1;show wY (iC j b_ cd x m.bN)<(b_-1-j)*24+5;omega
end ai
open Go.RowKit ai
variable{E:Env}{x:Live}{m:Mem}{w aQ w':World}{a:c2}{n B:Nat}{L:List aA}{A:c6}{X:List Nat}{v:Value}{k:c'}{d:Bool}
structure Bu(E:Env)(x:Live):Prop where
 p?:0<=E.ak
 p!:E.ak<64
 pol:x.aj.op<=4->E.A.af[x.aj.pol.toNat]?=some E.pol
theorem Bu.good(T:gD E.A.af E.A.ag)(h:Bu E x)(b:iT E.A.af x)(a8:x.aj.op<=4):Good E x:=by obtain⟨p,hp,cc⟩:=b.pol a8;have he:=h.pol a8;rw[hp,Int.toNat_natCast]at he;(have c:c_ E.A.af x=E.pol:=by unfold c_;rw[hp,Int.toNat_natCast,eh,he];rfl);have:=T.e8;have aS:=T.good _<|List.mem_of_getElem? he;exact⟨h.p?,h.p!,⟨p,hp,he⟩,ae,b.nN a8,b.lV,a8,b.n,b.s',b.Hq,b.E?,aS,fun e=>by rw[<-c];exact b.rI e,fun e=>by rw[<-c];exact b.nM e⟩
theorem Bu.t(T:gD E.A.af E.A.ag)(h:Bu E x)(c:iT E.A.af x){sum:Nat}{t:Then}(b:rZ x sum t):FY E x t:=by cases t with|aj=>exact h.good T c b.1|d? j b_ cd=>obtain⟨h1,i,l,e,f,g⟩:=b;exact⟨ae,ae⟩
theorem C9{l s:Nat}(h:l<=4):aW l s<34:=by have:=(fM (s:=s) h).2;omega
theorem W!{ah:Nat}{t:nY}(h:yQ m x ah t):ah<34/\Np t<=4/\∀aw i,t=.move aw i->i<32:=by cases t with|find aw sum t=>obtain⟨h1,b,rfl,c⟩:=h;exact⟨C9 ae,by show aw<=4;omega,fun _ _ e=>by cases e⟩|move aw i=>obtain⟨h1,b,f,rfl,c⟩:=h;refine⟨C9 ae,by show aw<=4;omega,fun _ _ e=>?_⟩;cases e;have:=lh<|show aw<=3 from b;omega
theorem Y'(T:gD E.A.af E.A.ag)(he:Bu E x)(e:iT E.A.af x){aw shard:Nat}{a_:List Cell}{t:nt}(h:xI m x aw shard a_ t):KR E x t/\aW aw shard<34/\aw<=4:=by obtain⟨l,rfl,o,p,g,j,b⟩:=h;refine⟨?_,C9 ae,ae⟩;cases t with|find sum t=>exact he.t T e b.1|one f i h=>obtain⟨_,rfl,_,c,_⟩:=b;exact⟨ae,c⟩|two f i=>obtain⟨_,rfl,_,c,_⟩:=b;exact⟨ae,c⟩
theorem an0(B:Nat)(E:Env)(x:Live)(m:Mem)(k:c')(gf:Nat)(v:Value)(w:World)(T:gD E.A.af E.A.ag)(hi:fe E.A.af E.A.ag m gf)(z:iT E.A.af x)(hk:mB E.A.af E.A.ag m x k)(he:Bu E x)(hc:m.count<4611686018427387900)(br:B<=E.x)(av:h! w E v k)(aB:cX w B E.A m)(i:dO w E x):
  ∃f ps,v=.func (.func f) #[] ps/\Enters f/\aR f ps w (jb w B E<|b7 bM E.A.af E.A.ag k x m):=by
 have ok:E.Ok m:=⟨he.p?,he.p!,ae⟩;have G:=hi.dir.d8;have H:=aoP bM xX;have U:=T.zJ
 cases k with
 |find sum t=>exact an6 bM B E x m sum t v w av aB i ok G
 |enter sum ah t=>obtain⟨M,l,y,rfl⟩:=hk;exact an2 bM H B E x m sum _ t v w av (he.t T z M) aB i ok<|C9 y
 |lk ah t=>obtain⟨h1,o,q⟩:=W! hk;obtain⟨f,ps,e,hC⟩:=an7 bM E.A.af E.A.ag B E x m ah t v w av aB i ok h1 o q;refine⟨f,ps,e,?_,hC⟩;obtain⟨O,P,Q,R,V,I,_⟩:=av;rw[e]at I;injection I with aO _ _;injection aO with aO;subst aO;exact enters_of func224 b! rfl
 |mZ ah u a_ t=>obtain⟨h1,o,q⟩:=W! hk.1;exact an8 bM B E x m ah u a_ t v w av aB i ok h1 hk.2.v2 o q
 |half aw shard a_ t=>obtain⟨h1,o,q⟩:=Y' T he z hk;exact an9 bM H B E x m aw shard a_ t v w av h1 aB i ok o
 |m? aw shard a_ h t=>obtain⟨h1,o,q⟩:=Y' T he z hk;exact an' bM H Wt B E x m aw shard a_ h t v w av h1 aB i ok o q
 |split=>exact aoe bM B E x m v w av aB i ok G
 |om d aw=>obtain⟨h1,rfl,q⟩:=hk;exact aof bM B E x m _ aw v w av aB i ok ae ae
 |pr aw=>exact aoa bM B E x m aw v w av aB i ok (by have:=hk.2.1;omega)
 |h0 ah de stop t=>
  have hw:ah<34:=by
   cases t with
   |back t=>cases t with
    |done r=>have:=hk.2.1;unfold ll at this;omega
    |d? j s g=>have:=hk.2.1;unfold ll at this;omega
   |ag f a D c r=>have:=hk.1;unfold ll at this;omega
   |a6 f a D c=>have:=hk.1;unfold rX at this;omega
  refine aog bM B E x m ah de stop t v w av aB i ok hw fun e b K=>?_;subst K;have S:=hi.qP
  have N:ah=32/\stop=wP:=by
   cases b with
   |done r=>exact⟨hk.2.1,hk.2.2.2.1⟩
   |d? j s g=>exact⟨hk.2.1,hk.2.2.1⟩
  obtain⟨rfl,rfl⟩:=N;unfold wP at e;omega
 |i' ah de stop u t=>
  obtain⟨h1,o,q,y⟩:=hk
  have hw:ah<34:=by
   cases t with
   |back t=>cases t with
    |done r=>have:=h1.2.1;unfold ll at this;omega
    |d? j s g=>have:=h1.2.1;unfold ll at this;omega
   |ag f a D c r=>have:=h1.1;unfold ll at this;omega
   |a6 f a D c=>have:=h1.1;unfold rX at this;omega
  refine aoh bM (abV bM xX) B E x m ah de stop u t v w av ?_ aB i br ok hw
  cases t with
  |back t=>cases t with
   |done r=>trivial
   |d? j s g=>
    obtain⟨_,_,_,_,C,F,J,G⟩:=h1
    exact⟨ae,ae,J,ae⟩
  |ag f a D c r=>trivial
  |a6 f a D c=>
   obtain⟨_,rfl,rfl,C,F⟩:=h1
   have J:=y fun b e=>by cases e
   refine⟨he.good T z ae,?_,C⟩
   unfold e7
   omega
 |put f at_ there c r=>obtain⟨⟨h1,o,⟨l,q,y⟩,C⟩,F⟩:=hk;have:=o.e8;exact aod bM xX B E x m f at_ there c r v w av (he.good T z h1) aB i ok (by rw[y];exact C9 q) o.v2 ae
 |allow f at_ there c=>exact anZ bM xX B E x m f at_ there c v w av (he.good T z (by have:=hk.1;omega)) hk.1 aB i ok
 |k? c=>exact aob bM xX B E x m c v w av (he.good T z (by have:x.aj.op=4:=hk;omega)) aB i ok
 |n5=>exact an4 bM B E x m v w av aB i ok G
 |mY j b_ cd ah u cells=>obtain⟨h1,o,q,y⟩:=hk;obtain⟨_,_,C,F,_⟩:=h1;exact an3 B E x m j b_ cd ah u cells v w av ae ae aB i ok q fun c hc=>(o.iF.perm c hc).1
 |ke j b_ cd ah u rest n=>obtain⟨h1,⟨l,o,rfl⟩,q,cells,p,y,rfl,rfl⟩:=hk;obtain⟨_,_,C,F,_⟩:=h1;have:=y.e8;exact an5 bM B E x m j b_ cd _ u _ _ v w av ae ae ae aB i ok (C9 o) y.v2
theorem Bc{a:Option Addr}{c:Nat}(h:hv w (.slice a n c) L)(k:Nat)(hk:k<L.length):∃b off,a=some ⟨b,off,none⟩/\aG w b (off+k*4) (.int .u8 (L[k].kind:Nat))/\aG w b (off+k*4+1) (L[k].T)/\aG w b (off+k*4+2) (L[k].tau)/\aG w b (off+k*4+3) (L[k].bl):=by obtain⟨h1,i,j,f⟩:=Row.cells h;obtain⟨b,off,g,e⟩:=f ae;refine⟨b,off,g,?_,?_,?_,?_⟩;{have:=e (4*k+0) _<|Hl L k 0 hk ax;rwa[show off+(4*k+0)=off+k*4 by omega]at this};{have:=e (4*k+1) _<|Hl L k 1 hk ax;rwa[show off+(4*k+1)=off+k*4+1 by omega]at this};{have:=e (4*k+2) _<|Hl L k 2 hk ax;rwa[show off+(4*k+2)=off+k*4+2 by omega]at this};have:=e (4*k+3) _<|Hl L k 3 hk ax;rwa[show off+(4*k+3)=off+k*4+3 by omega]at this
theorem ahb(g:Nat)(T tau perm:Int)(w:World)(hp:kL ⟨g,T,tau,perm⟩):
 aR 73 #[.agg #[.int .u8 (g:Nat),T,tau,perm]] w (dM true w):=by rcases hp with⟨h1,b,c,h,i⟩|⟨h1,b,c⟩;{dsimp only at h1 b c h i;subst h1;have f:=ad fun W=>aaH T tau W (by simp[mv,dJ];omega);unfold kU at f;go_enter func73,ntmps73;go_wp2_with(go_at_call 110;refine(f.out _).mono ?_;rintro e aQ ⟨rfl,al⟩);exact cJ (by simp[results,results73,go_sem]) rfl ⟨rfl,(ck [_] w).trans<|al.mono bI⟩};dsimp only at h1 b c;subst h1;go_enter func73,ntmps73;go_wp2;exact cJ (by simp[results,results73,go_sem]) rfl ⟨rfl,ck [_] w⟩
theorem S_(L:List aA)(az:Value)(w:World)(g:hv w az L)(hn:L.length<=32)(aS:∀p∈L,kL p):
 aR 38 #[az] w (dM bA w):=by obtain⟨b?,lc,rfl⟩:=e? g;have s:=ad fun k hk=>Bc g k hk;have t:=ad aS;go_enter func38,ntmps38;go_wp2;go_loopw [10] (fun i wr=>∃k:Nat,i=.int .i64 k/\k<=L.length/\Below w w wr) (fun i _=>L.length-(intOf i).toNat);(case atStart=>exact⟨0,rfl,fw _,b5 _ _⟩);case round=>obtain⟨k,rfl,hk,o⟩:=hrel;have f:=ad o;by_cases cg:k<L.length;{obtain⟨b,off,rfl,bL,l,r,q⟩:=s.out k cg;have eb:=cB f.out bL;have z:=cB f.out l;have y:=cB f.out r;have C:=cB f.out q;have oC:=ad fun W=>ahb _ _ _ _ W<|t.out L[k]<|fZ cg;generalize L[k].kind=D at*;generalize L[k].T=h at*;generalize L[k].tau=j at*;generalize L[k].bl=pp at*;have u:=f.out.size;go_wp2_with(go_at_call 73;refine(oC.out _).mono ?_;rintro e aQ ⟨rfl,a7⟩;have cU:=ad a7);go_roundw;(case rel=>exact⟨k+1,by go_num,ae,(f.out.alloc u _).trans<|cU.out.mono<|by simp;omega⟩);case measure=>simp[intOf];omega};obtain rfl:k=L.length:=ae;go_wp2;exact cJ (by simp[results,results38,go_sem]) rfl ⟨rfl,f.out⟩
def CY(op:Nat):Nat:=if op=1 then 1 else if op=2\/op=3 then 2 else 0
theorem Ng(op:Nat)(w:World):
 aR 117 #[.int .u8 op] w (ga (.int .u8 (CY op:Nat)) w):=by by_cases h1:op=1;{subst h1;go_enter func117,ntmps117;go_wp2;go_ret;exact⟨rfl,rfl⟩};by_cases b:op=2;{subst b;go_enter func117,ntmps117;go_wp2;go_ret;exact⟨rfl,rfl⟩};by_cases c:op=3;{subst c;go_enter func117,ntmps117;go_wp2;go_ret;exact⟨rfl,rfl⟩};have g1:¬(op:Int)=1:=ae;have g2:¬(op:Int)=2:=ae;have g3:¬(op:Int)=3:=ae;(have e:CY op=0:=by unfold CY;rw[aC h1,aC ae]);rw[e];go_enter func117,ntmps117;go_wp2;go_ret;exact⟨rfl,rfl⟩
structure Ob(L:List aA)(c:ai.Call):Prop where
 lV:1<=c.op
 px:c.op<=6
 n:c.op=1->0<=c.n/\c.n<=4611686018427387903
 nN:c.key.length<=255
 pol:∃p:Nat,c.pol=(p:Int)/\p<L.length
 kind:c.op<=4->CY c.op≠0->(L.getD c.pol.toNat default).kind=CY c.op
theorem PR(w:World)(o:Obj):Below w w (w.alloc o):=(b5 _ _).alloc (bG _) _
theorem aeI{o:Obj}(h:Below (w.alloc o) (w.alloc o) aQ):Below w w aQ:=(PR w o).trans<|h.mono (PR w o).size
theorem w0{p:Prop}(h:p:=by(go_enter hF,w3;go_wp2_with(show Calls _ _ _ _ _;first|((with_reducible refine(oC.out _).mono ?_);rintro e aQ ⟨rfl,rfl⟩)|((with_reducible refine(lL.out _<|PR _ _).mono ?_);rintro e aQ ⟨rfl,a7⟩;have dv:=(aq.new w _ _).below a7<|od w _;obtain⟨bJ,c1,cw,dg⟩:=eO dv;have cU:=ad<|aeI a7;have eb:=dp.out aQ cU.out;clear a7 dv));go_quiet ((show Calls _ _ _ _ _;with_reducible exact Hn<|wM.out _));go_wp2_with fail;exact cJ (v:=.int .i64 0) (by simp[results,iK,go_sem]) rfl ⟨rfl,below_drewN cU.out _⟩)):p:=h
set_option maxHeartbeats 20000000 in
theorem LB (L:List aA) (az:Value) (c:ai.Call) (kv:Value) (w:World) (aF:hv w az L) (hn:L.length<=32) (aS:∀p∈L,kL p) (hc:Ob L c) (hk:∃a cap,kv=.slice a c.key.length cap):
 aR 81 #[az,.agg #[.int .u8 (c.op:Nat),c.pol,kv,c.n]] w (dM bA w):=by obtain⟨op,pol,key,n⟩:=c;obtain⟨aP,h1,ao,ar,⟨p,aD,aK⟩,aY⟩:=hc;dsimp only at aP h1 ao ar aD aK aY hk⊢;subst aD;rw[Int.toNat_natCast]at aY;obtain⟨bt,bq,rfl⟩:=hk;obtain⟨b?,lc,rfl⟩:=e? aF;(have iE:L.getD p default=L[p]:=by rw[eh,eG aK];rfl);rw[iE]at aY;obtain⟨b,off,rfl,bL,fT,z2,z3⟩:=Bc aF p aK;clear fT z2 z3;have lL:Hid (∀W,Below w.heap.size w W->aR 38 #[.slice (some ⟨b,off,none⟩) L.length lc] W (dM (.int .i64 0) W)):=fun W al=>S_ L _ W (aF.keep<|bm al) hn aS;have dp:=jP bL;have oC:=ad fun W=>zh n W;generalize yf:L[p].kind=p3 at*;have dh:p<L.length:=aK;clear aF aS iE yf aK;generalize key.length=h6 at*;generalize p0:L.length=eX at*;clear p0;have d1:decide ((p:Int)<0)=false:=hg ae;have d2:decide ((p:Int)>=(eX:Int))=false:=hg ae;have d7:decide (eX<=p)=false:=hg ae;have d3:decide ((h6:Int)>255)=false:=hg ae;have bp:op=1\/op=2\/op=3\/op=4\/op=5\/op=6:=ae;clear bL aP h1;have hF:=func81;have w3:=ntmps81;have iK:=results81;rcases bp with rfl|rfl|rfl|rfl|rfl|rfl;{show Calls _ _ #[_,.agg #[.int .u8 1,_,_,_]] w _;(have aT:dJ n=true:=by have:=ao rfl;simp[dJ];omega);rw[aT]at oC;have wM:Hid (∀W,aR 117 #[.int .u8 1] W<|ga (.int .u8 1) W):=fun W=>Ng 1 W;have bd:p3=1:=aY ae ax;subst bd;clear aY ao;exact w0};{show Calls _ _ #[_,.agg #[.int .u8 2,_,_,_]] w _;have wM:Hid (∀W,aR 117 #[.int .u8 2] W<|ga (.int .u8 2) W):=fun W=>Ng 2 W;have bd:p3=2:=aY ae ax;subst bd;clear aY ao;exact w0};{show Calls _ _ #[_,.agg #[.int .u8 3,_,_,_]] w _;have wM:Hid (∀W,aR 117 #[.int .u8 3] W<|ga (.int .u8 2) W):=fun W=>Ng 3 W;have bd:p3=2:=aY ae ax;subst bd;clear aY ao;exact w0};{show Calls _ _ #[_,.agg #[.int .u8 4,_,_,_]] w _;have wM:Hid (∀W,aR 117 #[.int .u8 4] W<|ga (.int .u8 0) W):=fun W=>Ng 4 W;clear aY ao;exact w0};{show Calls _ _ #[_,.agg #[.int .u8 5,_,_,_]] w _;clear aY ao;exact w0};show Calls _ _ #[_,.agg #[.int .u8 6,_,_,_]] w _;clear aY ao;exact w0
theorem af2(pol:Int)(kv:Value)(k:List Nat)(w:World)(h:cb w kv k)(hk:k.length<=255)(b:0<=pol)(h1:pol<32):
  aR 82 #[pol,kv] w (dM (.int .u64 (e4 (cK pol k):Nat)) w):=by
 have i:=ad<|M! pol kv k w h hk b h1;obtain⟨s,aB⟩:∃s,e4 (cK pol k)=s:=⟨_,rfl⟩;(have g:Hid (∀(v:Value) (W:World),fj W v (cK pol k)->aR 76 #[v] W (ga (.int .u64 (s:Nat)) W)):=fun v W av=>by rw[<-aB];exact abN v _ W av);rw[aB];go_enter func82,ntmps82
 go_wp2_with(first
  |(go_at_call 42;refine i.out.mono ?_;rintro e w1 ⟨a,c,rfl,hi,al⟩;have Hi:=ad hi;have f:=ad al)
  |(go_at_call 76;refine(g.out _ _ Hi.out).mono ?_;rintro e aQ ⟨rfl,rfl⟩))
 exact cJ (by simp[results,results82,go_sem]) rfl ⟨rfl,f.out⟩
theorem ZU:(prog.info? 78).map (fun i=>(i.zero,i.size,i.bytes))=some (some<|.agg #[.int .u8 0,bA,bA,bA],4,32):=b!
theorem aam:∀(L:List aA),(L.flatMap mM).length=L.length*4
 |[]=>rfl
 |p::L=>by rw[List.flatMap_cons,gO,aam L];simp[mM];omega
theorem aao(az:Value)(L:List aA)(w:World)(h:hv w az L)(g:0<L.length)(hn:L.length<=32):
 aR 16 #[az] w fun e w'=>∃v',e=.returned v'/\hv w' v' L/\(∃a c,v'=.slice a L.length c)/\Below w w w':=by obtain⟨i0,hi,dH,c0,dx⟩:=info_parts ZU;obtain⟨a,c,rfl⟩:=e? h;obtain⟨_,dw,o,f⟩:=Row.cells h;obtain⟨b,off,rfl,l⟩:=f g;refine(Tryz.slices_Clone_f16 i0 _ 4 32 hi dH c0 dx rfl ax Tryz.sizeOf78 b off L.length c (L.flatMap mM) w (aam L) (by unfold maxLen;omega) ae l ?_).mono ?_;{intro u hu;obtain⟨p,_,hu⟩:=List.mem_flatMap.1 hu;simp[mM]at hu;rcases hu with rfl|rfl|rfl|rfl<;>rfl};rintro e w' ⟨v',rfl,i,_,j⟩;have aE:=Row.own i;exact⟨v',rfl,aE,by obtain⟨_,a,c,e,_⟩:=aE;exact⟨a,c,e⟩,j⟩
def zP:Array Value:=Array.replicate 34<|.int .u64 0
def v7:Array Value:=Array.replicate 34 ()
theorem akU(w:World):
 aR 74 #[.int .i64 34] w fun e w'=>e=.returned (.tuple #[P<|w+1,bA])/\Below w w w'/\w'.heap.size=w.heap.size+2/\aq w' w 46 zP/\aq w' (w+1) 218 (nO w 0 0 ()):=by have b:∀w,(Instr.makeSlice 136 (.int .i64 34)<|.int .i64 34).run prog w=.ok (.slice (some w) 34 34) (w.alloc<|.cells zP 46):=fun _=>b!;go_enter func74,ntmps74;go_wp2;refine cJ (v:=.tuple #[P<|w+1,bA]) (by simp[results,results74,go_sem]) rfl ?_;exact⟨rfl,ck [.cells zP 46,.cells (nO w 0 0 ()) 218] w,bI,b3 w [.cells zP 46,.cells (nO w 0 0 ()) 218] 0 rfl,b3 w [.cells zP 46,.cells (nO w 0 0 ()) 218] 1 rfl⟩
theorem afa(w:World):
 aR 39 #[.int .i64 34] w fun e w'=>∃b,e=.returned (P b)/\Below w w w'/\w'.heap.size=w.heap.size+4/\b=w+3/\aq w' w 46 zP/\aq w' (w+1) 218 (nO w 0 0 ())/\aq w' (w+2) 41 v7/\aq w' (w+3) 183 #[P<|w+1,.slice (some (w+2:Nat)) 34 34]:=by have j:∀w,(Instr.makeSlice 105 (.int .i64 34)<|.int .i64 34).run prog w=.ok (.slice (some w) 34 34) (w.alloc<|.cells v7 41):=fun _=>b!;go_enter func39,ntmps39;go_wp2_with(go_at_call 74;refine(akU _).mono ?_;rintro e w1 ⟨rfl,al,f,h1,c⟩;have g:=ad al;have i:=ad f;have H1:=ad h1;have h:=ad c;clear f h1 c);go_ret;have aB:=i.out;have bD:Below w1 w1 (BY w1 [.cells v7 41,.cells #[P<|w+1,.slice (some w1) 34 34] 183]):=ck _ _;have g0:=b3 w1 [.cells v7 41,.cells #[P<|w+1,.slice (some w1) 34 34] 183] 0 rfl;have g1:=b3 w1 [.cells v7 41,.cells #[P<|w+1,.slice (some w1) 34 34] 183] 1 rfl;refine⟨w+3,?_,g.out.trans<|bD.mono g.out.size,?_,rfl,H1.out.below bD H1.out.lt,h.out.below bD h.out.lt,?_,?_⟩;{simp[aB]};{simp[aB]};{have e:w+2=w1.heap.size:=aB.symm;rw[e];exact g0};have e:w+2=w1.heap.size:=aB.symm;have cr:w+3=w1.heap.size+1:=ae;rw[e,cr];exact g1
def KH:Array Value:=zP.setIfInBounds 1<|.int .u64 1
theorem Z6(w:World)(B:Nat):o4 w B ():=⟨0,[],World.ownsRow_nil _ _ _ _,ae,bI⟩
structure Raw(w:World)(B W M H:Nat):Prop where
 aZ:aq w W 46 KH
 hb:∃last,aq w M 218 (nO W 0 1 last)/\o4 w B last
 a_:aq w H 41 v7
theorem akY(B M W:Nat)(w:World)(hm:aq w M 218 (nO W 0 0 ()))(hw:aq w W 46 zP)(br:B<=w):
 aR 75 #[.pointer<|some M,bA,.int .i64 1,.int .u64 0,.int .u64 1] w fun e w'=>e=.returned (.tuple #[true,bA])/\jU (fun k=>k=M\/k=W) w w'/\(∃last,aq w' M 218 (nO W 0 1 last)/\o4 w' B last)/\aq w' W 46 KH:=by have bJ:aG w M 0 (.slice (some W) 34 34):=hm.cell 0;have s:aG w W 1 (.int .u64 0):=hw.cell 1;have r:w.frozen? ⟨W,1,none⟩=false:=hw.free 1;have l:=ad<|NZ M () () W 34 34 0 0 w hm;have q:=ad<|KI 0 1 34 w ax ax ae ae;have f:aq (w.setCell ⟨W,1,none⟩<|.int .u64 1) M 218 (nO W 0 0 ()):=hm.ey (hm.ne hw ax);have c8:aq (w.setCell ⟨W,1,none⟩<|.int .u64 1) W 46 KH:=hw.setCell 1 _;have p:=ad fun a b c d=>J? B M W 0 0 () 0 a b c d true (w.setCell ⟨W,1,none⟩<|.int .u64 1) f (Z6 _ _) ⟨ax,ax⟩ (by simpa[World.setCell]using br);have kK:=ad hm;have t:=ad hw;have i:=ad f;have g:=ad c8;clear hm hw f c8 br;go_enter func75,ntmps75;go_wp2_with(first|(go_at_call 112;refine l.out.mono ?_;rintro e w1 ⟨rfl,rfl⟩)|(go_at_call 111;refine q.out.mono ?_;rintro e w1 ⟨rfl,rfl⟩)|(go_at_call 113;refine(p.out 2 1 _ _).mono ?_;rintro e w1 aE;obtain rfl:=aE.1;have ej:=ad aE;clear aE));refine cJ (v:=.tuple #[true,bA]) (by simp[results,results75,go_sem]) rfl ?_;have hk:=ej.out.2.1;refine⟨rfl,⟨hk.os,hk.tape,hk.output,by have:=hk.size;simpa[World.setCell]using this,fun k o aB=>?_⟩,?_,hk.hU (Z6 _ B) i.out g.out ax ax⟩;{rw[hk.block k (by simpa[World.setCell]using o) (fun h=>?_),Below.heap_setCell _ _ _ _ (fun e=>aB (.inr e))];rcases h with h|h;{exact aB (.inl h)};simp[xl,Value.ownBlock]at h};obtain⟨last,h1,j⟩:=ej.out.2.2;exact⟨last,h1,j⟩
theorem aff(B kc M W H:Nat)(w:World)(al:aq w kc 183 #[P M,.slice (some H) 34 34])(hm:aq w M 218 (nO W 0 0 ()))(hw:aq w W 46 zP)(j:aq w H 41 v7)(br:B<=w):
 aR 40 #[P kc,bA,.int .i64 1,.int .u64 0,.int .u64 1,()] w fun e w'=>e=.returned true/\jU (fun k=>k=M\/k=W\/k=H) w w'/\Raw w' B W M H:=by have bJ:aG w kc 0 (P M):=al.cell 0;have s:=ad<|akY B M W w hm hw br;have f:=ad al;have fz:=ad j;have kK:=ad hm;have l:=ad hw;clear al j hm hw br;go_enter func40,ntmps40;go_wp2_with(go_at_call 75;refine s.out.mono ?_;rintro e w1 ⟨rfl,hk,b,c8⟩;have i:aq w1 kc 183 #[P M,.slice (some H) 34 34]:=(hk.block kc f.out.lt fun h=>h.elim (f.out.ne kK.out ax)<|f.out.ne l.out ax).trans f.out;have h1:aq w1 H 41 v7:=(hk.block H fz.out.lt fun h=>h.elim (fz.out.ne kK.out ax) (fz.out.ne l.out ax)).trans fz.out;have k1:=i.cell 1;have f1:=h1.free 1;have z:aG w1 H 1 ():=h1.cell 1;have cV:=ad hk;have p:=ad b;have g:=ad c8;have c:=ad h1;clear hk b c8 i h1);go_ret;obtain⟨last,b,r⟩:=p.out;have o:aq (w1.setCell ⟨H,1,none⟩ ()) H 41 v7:=c.out.setCell 1 _;have y:aq (w1.setCell ⟨H,1,none⟩ ()) M 218 (nO W 0 1 last):=b.ey (b.ne c.out ax);have q:aq (w1.setCell ⟨H,1,none⟩ ()) W 46 KH:=g.out.ey (g.out.ne c.out ax);have hk:=cV.out;refine⟨rfl,⟨hk.os,hk.tape,hk.output,by have:=hk.size;simpa[World.setCell]using this,fun k u aB=>?_⟩,q,⟨last,y,?_⟩,o⟩;{rw[Below.heap_setCell _ _ _ _ fun e=>aB<|.inr<|.inr e];exact hk.block k u (fun h=>aB<|h.imp id .inl)};obtain⟨t,xs,a8,hn,h1⟩:=r;exact⟨t,xs,ownsRow_setCell_other a8 (uX a8 c.out ax) _,hn,h1⟩
structure Lq(w:World)(B bW kc M W H:Nat):Prop where
 raw:Raw w B W M H
 eT:aq w bW 127 #[P kc,.func (.func 18) #[] #[]]
 kd:aq w kc 183 #[P M,.slice (some H) 34 34]
 ge:B<=bW/\B<=kc/\B<=M/\B<=W/\B<=H
theorem jU.ae4{S:Nat->Prop}{a:World}(h:Below n a w)(k:jU S w w')(hn:n<=w)(b:∀i,S i->n<=i):Below n a w':=
 ⟨k.os.trans h.os,k.tape.trans h.tape,k.output.trans h.output,eB h.size k.size,fun i hi=>(k.block i ae fun aB=>by have:=b i aB;omega).trans<|h.block i hi⟩
theorem akF(w:World):
 aR 17 #[.int .i64 2,(),.func (.func 18) #[] #[]] w fun e w'=>∃bW kc M W H,e=.returned (P bW)/\Lq w' w bW kc M W H/\Below w w w':=by have t:Hid (∀W,aR 41 #[bA,.int .u64 0] W<|ga (.int .i64 1) W):=fun W=>E8 0 0 W ax;go_enter func17,ntmps17;go_wp2_with(go_at_call 39;refine(afa _).mono ?_;rintro e w1 ⟨kc,rfl,al,f,g,h1,o,p,l⟩;have c:=ad al;have C:=ad<|bw f g;have H1:=ad h1;have q:=ad o;have r:=ad p;have j:=ad l;clear al h1 o p l);refine wp_name (fun u=>Below w w u/\w+4<u.heap.size/\aq u w 46 zP/\aq u (w+1) 218 (nO w 0 0 ())/\aq u (w+2) 41 v7/\aq u (w+3) 183 #[P<|w+1,.slice (some (w+2:Nat)) 34 34]/\aq u (w+4) 127 #[P<|w+3,.func (.func 18) #[] #[]]) ⟨c.out.alloc c.out.size _,by simp[f],H1.out.alloc _,q.out.alloc _,r.out.alloc _,j.out.alloc _,by have:=aq.new w1 127 #[P<|w+3,.func (.func 18) #[] #[]];rw[f]at this;exact this⟩ ?_;rintro y ⟨g0,g1,g2,g3,g4,g5,g6⟩;have F:=ad g0;have G:=jP<|g6.cell 0;(have z:Hid (∀W,Below y y W->aR 40 #[P<|w+3,bA,.int .i64 1,.int .u64 0,.int .u64 1,()] W fun e w'=>∃b,e=.returned b/\Lq w' w (w+4) (w+3) (w+1) w (w+2)/\Below w w w'):=fun W al=>by have f2:=g2.below al g2.lt;have f3:=g3.below al g3.lt;have f4:=g4.below al g4.lt;have f5:=g5.below al g5.lt;have f6:=g6.below al g6.lt;have bQ:=g0.trans<|al.mono g0.size;refine(aff w _ _ _ _ W f5 f3 f2 f4 bQ.size).mono ?_;rintro e w' ⟨rfl,hk,aE⟩;refine⟨true,rfl,⟨aE,(hk.block _ f6.lt ?_).trans f6,(hk.block _ f5.lt ?_).trans f5,ae,ae,ae,ae,ae⟩,jU.ae4 bQ hk bQ.size ?_⟩;{rintro(h|h|h)<;>omega};{rintro(h|h|h)<;>omega};rintro i (h|h|h)<;>omega);have cc:w+4<y.heap.size:=g1;have gc:=g6.cell 0;have s:aG y.drew (w+4) 0 (P<|w+3):=gc;clear g0 g1 g2 g3 g4 g5 g6 f g C c H1 q r j;go_region_with (first|(go_at_call 41;refine(t.out _).mono ?_;rintro e aQ ⟨rfl,rfl⟩)|(go_at_call 40;refine(z.out _ (b5 _ _).drew).mono ?_;rintro e aQ ⟨I,rfl,hp,al⟩;have D:=ad hp;have c:=ad al;clear hp al));all_goals go_wp2;go_ret;exact⟨_,_,_,_,_,rfl,D.out,c.out⟩
theorem VZ(L:List aA)(az:Value)(ag:Nat)(w:World)(b:hv w az L)(h:0<L.length)(hn:L.length<=32)(aS:∀p∈L,kL p)(b9:1<=ag)(da:ag<=4096):
  aR 15 #[az,ag] w fun e w'=>∃k g,e=.returned (.tuple #[P k,bA])/\aq w' k 123 #[g,ag,()]/\hv w' g L/\w<=k/\Below w w w':=by
 have j:=ad<|S_ L az w b hn aS;have i:=ad fun W (al:Below w w W)=>aao az L W (b.keep<|bm al) h hn;obtain⟨b?,lc,rfl⟩:=e? b;generalize L.length=eX at*;go_enter func15,ntmps15
 go_wp2_with(first
  |(go_at_call 38;refine j.out.mono ?_;rintro e w1 ⟨rfl,al⟩;have f:=ad al)
  |(go_at_call 16;refine(i.out _ f.out).mono ?_;rintro e aQ ⟨v',rfl,hp,⟨a2,cw,rfl⟩,a7⟩;have l:=ad hp;have cU:=ad<|f.out.trans<|a7.mono f.out.size))
 exact cJ (by simp[results,results15,go_sem]) rfl ⟨_,_,rfl,aq.new _ _ _,l.out.keep<|bm<|(b5 _ _).alloc (bG _) _,cU.out.size,cU.out.alloc cU.out.size _⟩
noncomputable def zb(az:Value)(ag bW:Nat):Array Value:=((Tryz.zeroCells87.setIfInBounds 0 az).setIfInBounds 1<|.int .u64 ag).setIfInBounds 2<|P bW
def m0:Mem:=⟨[0,1,0,0,0,0,0,0,0,0,0,0,0,0,0,0,0,0,0,0,0,0,0,0,0,0,0,0,0,0,0,0,0,0],List.replicate 34 [],0,1⟩
theorem afV(L:List aA)(az:Value)(ag:Nat)(w:World)(b:hv w az L)(g:0<L.length)(hn:L.length<=32)(aS:∀p∈L,kL p)(b9:1<=ag)(da:ag<=4096):
  aR 4 #[az,ag] w fun e w'=>∃K bW kc M W H q,e=.returned (.tuple #[P K,bA])/\Lq w' w bW kc M W H/\aq w' K 87 (zb q ag bW)/\hv w' q L/\w<=K/\Below w w w':=by
 have z:Hid (aR 15 #[az,ag] w fun e w'=>∃v,e=.returned (.tuple #[v,bA])/\Below w w w'):=(VZ L az ag w b g hn aS b9 da).mono fun e w' ⟨k,_,aO,_,_,_,al⟩=>⟨P k,aO,al⟩;have y:=ad fun W (al:Below w w W)=>aao az L W (b.keep<|bm al) g hn;obtain⟨b?,lc,rfl⟩:=e? b;clear b aS g hn;generalize F:L.length=eX at*;clear F;(have u:wrap64 (ag:Int)=ag:=by unfold wrap64;omega);go_enter func4,ntmps4
 go_wp2_with(first
  |(go_at_call 15;refine z.out.mono ?_;rintro e w1 ⟨v,rfl,al⟩;have i:=ad al;clear al)
  |(go_at_call 16;refine(y.out _ i.out).mono ?_;rintro e aQ ⟨v',rfl,hp,⟨a2,cw,rfl⟩,a7⟩;have D:=ad hp;have cU:=ad<|i.out.trans<|a7.mono i.out.size;clear hp a7)
  |(go_at_call 17;refine(akF _).mono ?_;rintro e dy ⟨bW,kc,M,W,H,rfl,l,o⟩;have h:=ad l;have j:=ad o;clear l o))
 have f:=cU.out.trans<|j.out.mono cU.out.size;have hp:=h.out;have bd:=cU.out.size;have hc:=aq.new dy 87<|zb (.slice a2 eX cw) ag bW;refine cJ (by simp[results,results4,go_sem]) rfl ⟨dy,bW,kc,M,W,H,.slice a2 eX cw,rfl,⟨⟨hp.raw.aZ.alloc _,?_,hp.raw.a_.alloc _⟩,hp.eT.alloc _,hp.kd.alloc _,by have:=hp.ge;omega⟩,hc,?_,f.size,f.alloc f.size _⟩;{obtain⟨last,h1,s⟩:=hp.raw.hb;obtain⟨C,xs,a8,t,r⟩:=s;exact⟨last,h1.alloc _,C,xs,(aah ae a8).alloc _,t,r⟩};exact D.out.keep<|bm<|j.out.alloc j.out.size _
def qj(w:World)(B:Nat)(A:c6)(ak:Nat)(v:Value):Option (Live×c')->Prop
 |none=>v=.nilFunc
 |some (x,k)=>∃hD pol,h! w ⟨A,(ak:Int),hD,pol⟩ v k/\dO w ⟨A,(ak:Int),hD,pol⟩ x/\Bu ⟨A,(ak:Int),hD,pol⟩ x/\B<=hD
structure iJ(w:World)(B:Nat)(A:c6)(m:Mem)(bz:Nat->Option (Live×c')):Prop where
 st:cX w B A m
 km:∃arr,aq w A.K 87 arr/\arr.size=67/\∀ak,ak<64->∃v,arr[3+ak]?=some v/\qj w B A ak v (bz ak)
 oP:B<=A.K
theorem apw:Tryz.zeroCells87=#[.slice none 0 0,.int .u64 0,.pointer none]++Array.replicate 64 .nilFunc:=b!
theorem Wi(az:Value)(ag bW:Nat):(zb az ag bW).size=67:=by unfold zb;simp
theorem afU(az:Value)(ag bW:Nat)(i:Nat)(hi:i<64):(zb az ag bW)[3+i]?=some .nilFunc:=by unfold zb;rw[apw,Array.getElem?_setIfInBounds_ne ae,Array.getElem?_setIfInBounds_ne ae,Array.getElem?_setIfInBounds_ne ae,Array.getElem?_append_right bI];simp[hi]
theorem apl:KH=(m0.aZ.map fun(x:Nat)=>Value.int .u64 x).toArray:=by rfl
theorem akP(i:Nat):m0.ah i<18446744073709551616:=by have h:∀x∈m0.aZ,x<18446744073709551616:=ax;unfold Mem.ah;rw[eh];cases e:m0.aZ[i]? with|none=>simp|some x=>exact h x<|List.mem_of_getElem? e
theorem A_(i:Nat):m0.b4 i=[]:=by have h:∀x∈m0.a_,x=[]:=ax;unfold Mem.b4;rw[eh];cases e:m0.a_[i]? with|none=>rfl|some x=>exact h x<|List.mem_of_getElem? e
theorem aoC{K bW kc M W H ag:Nat}{az:Value}(hp:Lq w B bW kc M W H)(hc:aq w K 87 (zb az ag bW))(b:hv w az L)(c:B<=K)(br:B<=w):iJ w B ⟨K,bW,kc,M,W,H,L,ag⟩ m0 fun _=>none:=by refine⟨⟨hp.eT,hp.kd,hp.raw.hb,by rw[<-apl];exact hp.raw.aZ,rfl,akP,⟨v7,by simp[v7],hp.raw.a_,fun i hi=>⟨(),by simp[v7,hi],?_⟩⟩,rfl,⟨hp.ge.2.2.1,hp.ge.2.2.2.1,hp.ge.2.2.2.2,br⟩,ax,ax,⟨_,az,hc,Wi _ _ _,?_,?_,?_,b⟩⟩,⟨_,hc,Wi _ _ _,fun ak hw=>⟨_,afU _ _ _ _ hw,rfl⟩⟩,c⟩;{rw[A_];exact cC.nil w};{unfold zb;simp};{unfold zb;simp};unfold zb;simp
theorem afp{ak e:Int}{hD c:Nat}{p b:aA}{i:Live}(h:dO w ⟨A,ak,hD,p⟩ x)(g:dO w ⟨A,e,c,b⟩ i)(hn:ak≠e):hD≠c:=by rintro rfl;obtain⟨k1,h1,_⟩:=h;obtain⟨j,f,_⟩:=g;have aO:=h1.cell 5;have aU:=f.cell 5;rw[aO]at aU;simp[P3]at aU;exact hn aU
theorem qj.keep{e:Nat}{ak:Nat}(c:Fr e X w w'):∀{o:Option (Live×c')},(∀x k hD pol,o=some (x,k)->dO w ⟨A,(ak:Int),hD,pol⟩ x->hD∉X)->qj w B A ak v o->qj w' B A ak v o
 |none,_,h=>h
 |some (x,k),au,⟨hD,pol,h1,b,g,f⟩=>⟨hD,pol,h1.keep c,b.keep c<|au x k hD pol rfl b,g,f⟩
theorem iJ.keep{bz:Nat->Option (Live×c')}(h:iJ w B A m bz)(k:Below w w w'):iJ w' B A m bz:=by obtain⟨arr,h1,e,f⟩:=h.km;refine⟨h.st.later k,⟨arr,h1.below k h1.lt,e,fun ak hw=>?_⟩,h.oP⟩;obtain⟨v,b,c⟩:=f ak hw;exact⟨v,b,c.keep (bm k) fun _ _ _ _ _ _=>bI⟩
theorem cX.TM(h:cX w B A m){arr:Array Value}(b:aq w A.K 87 arr)(br:B<=A.K)(i:Nat)(hi:3<=i)(v:Value):cX (w.setCell ⟨A.K,i,none⟩ v) B A m/\Fr B [A.K] w (w.setCell ⟨A.K,i,none⟩ v):=by have c:Fr B [A.K] w (w.setCell ⟨A.K,i,none⟩ v):=(Fr.refl B [A.K] w).setCell (p:=⟨A.K,i,none⟩) b br rfl (fun _=>bI) _;obtain⟨last,hm,l⟩:=h.hb;obtain⟨t,xs,a8,hn,h1⟩:=l;obtain⟨aB,s,e,g⟩:=h.a_;obtain⟨f,az,c1,cw,dg,eV,gu,mE⟩:=h.core;(have y:f=arr:=by unfold aq at c1 b;rw[c1]at b;injection b with b;injection b);subst y;refine⟨⟨h.eT.keep c rfl,h.kd.keep c rfl,⟨last,hm.ey<|hm.ne b ax,t,xs,ownsRow_setCell_other a8 (uX a8 b ax) _,hn,h1⟩,h.aZ.ey<|h.aZ.ne b ax,h.xp,h.xD,⟨aB,s,e.ey<|e.ne b ax,fun j q=>?_⟩,h.yC,⟨h.below.1,h.below.2.1,h.below.2.2.1,by have:=h.below.2.2.2;simpa[World.setCell]using this⟩,h.ca,h.count,⟨_,az,b.setCell i v,by simpa using cw,?_,?_,?_,mE.keep c⟩⟩,c⟩;{obtain⟨u,o,r⟩:=g j q;exact⟨u,o,r.keep c⟩};{rw[Array.getElem?_setIfInBounds_ne ae];exact dg};{rw[Array.getElem?_setIfInBounds_ne ae];exact eV};rw[Array.getElem?_setIfInBounds_ne ae];exact gu
theorem Nh(h:h! w E v k):∃f ps,v=.func (.func f) #[] ps:=by cases k<;>first|(obtain⟨_,e,_⟩:=h;exact⟨_,_,e⟩)|(obtain⟨_,_,e,_⟩:=h;exact⟨_,_,e⟩)|(obtain⟨_,_,_,e,_⟩:=h;exact⟨_,_,e⟩)|(obtain⟨_,_,_,_,e,_⟩:=h;exact⟨_,_,e⟩)|(obtain⟨_,_,_,_,_,e,_⟩:=h;exact⟨_,_,e⟩)|(obtain⟨_,_,_,_,_,_,e,_⟩:=h;exact⟨_,_,e⟩)|(obtain⟨_,_,_,_,_,_,_,e,_⟩:=h;exact⟨_,_,e⟩)|(obtain⟨_,_,_,_,_,_,_,_,e,_⟩:=h;exact⟨_,_,e⟩)|(obtain⟨_,_,_,_,_,_,_,_,_,e,_⟩:=h;exact⟨_,_,e⟩)|(obtain⟨_,_,_,_,_,_,_,_,_,_,e,_⟩:=h;exact⟨_,_,e⟩)
theorem alF{o:c'⊕c2}(e:o=.inl k)(h:wQ w E v d a o):∃f ps,v=.func (.func f) #[] ps:=by subst e;exact Nh h.1
theorem alG{o:c'⊕c2}{r:c2}(e:o=.inr r)(h:wQ w E v d a o):v=.nilFunc:=by subst e;exact h.1
theorem Out.N0{r:Nat}{o:Out}(aE:aq aQ r 96 cj)(b:w<=r)(br:B<=w)(a8:wQ aQ E v d a o.1)(hc:dO aQ E o.2.1)(aB:cX aQ B E.A o.2.2)(q:Fr B X w aQ):
 ∃W,W=(((((((aQ.setCell r d).setCell ⟨r,1,none⟩ a.e).setCell ⟨r,2,none⟩ a.granted).setCell ⟨r,3,none⟩ a.left).setCell ⟨r,4,none⟩ a.wait).setCell ⟨r,5,none⟩ a.a6).setCell ⟨r,6,none⟩ a.now)/\aq W r 96 (nT d a)/\wQ W E v d a o.1/\dO W E o.2.1/\cX W B E.A o.2.2/\Fr B X w W:=by have c:=aE.setCell 0 d;have f:=c.setCell 1 a.e;have i:=f.setCell 2 a.granted;have j:=i.setCell 3 a.left;have g:=j.setCell 4 a.wait;have l:=g.setCell 5 a.a6;have s:=l.setCell 6 a.now;refine⟨_,rfl,s,?_,((((((hc.hZ aE _).hZ c _).hZ f _).hZ i _).hZ j _).hZ g _).hZ l _,((((((aB.hZ aE _).hZ c _).hZ f _).hZ i _).hZ j _).hZ g _).hZ l _,?_⟩;{rcases h:o.1 with k|oU;{rw[h]at a8;obtain⟨hk,rfl,rfl⟩:=a8;exact⟨aaf aE hk,rfl,rfl⟩};rw[h]at a8;obtain⟨aO,aU,cr⟩:=a8;exact⟨aO,aU,cr⟩};have al:B<=r:=eB br b;exact((((((q.p_ (p:=⟨r,0,none⟩) al b _).p_ (p:=⟨r,1,none⟩) al b _).p_ (p:=⟨r,2,none⟩) al b _).p_ (p:=⟨r,3,none⟩) al b _).p_ (p:=⟨r,4,none⟩) al b _).p_ (p:=⟨r,5,none⟩) al b _).p_ (p:=⟨r,6,none⟩) al b _
theorem afr(B:Nat)(E:Env)(ak:Nat)(x:Live)(m:Mem)(k:c')(gf:Nat)(v:Value)(arr:Array Value)(w:World)(hw:E.ak=ak)(G5:ak<64)(T:gD E.A.af E.A.ag)(hi:fe E.A.af E.A.ag m gf)(aF:iT E.A.af x)(hk:mB E.A.af E.A.ag m x k)(he:Bu E x)(hc:m.count<4611686018427387900)(br:B<=E.x)(av:h! w E v k)(aB:cX w B E.A m)(N:dO w E x)(O:aq w E.A.K 87 arr)(I7:B<=E.A.K)(ha:arr[3+ak]?=some v):
  aR 80 #[.pointer<|some ⟨E.A.K,3,none⟩,ak] w fun e w'=>∃v' d a,e=.returned (.agg<|nT d a)/\wQ w' E v' d a (b7 bM E.A.af E.A.ag k x m).1/\dO w' E (b7 bM E.A.af E.A.ag k x m).2.1/\cX w' B E.A (b7 bM E.A.af E.A.ag k x m).2.2/\aq w' E.A.K 87 (arr.setIfInBounds (3+ak) v')/\Fr B [E.x,E.A.K] w w':=by
 have q:=ad<|db.start aB N;have M:=ad O;(have bJ:w.cell? ⟨E.A.K,3+ak,none⟩=some v:=by rw[O.cell];exact ha);have ka:Hid (∀W,Below w w W->∃f ps,v=.func (.func f) #[] ps/\Enters f/\aR f ps W (jb W B E<|b7 bM E.A.af E.A.ag k x m)):=fun W al=>an0 B E x m k gf v W T hi aF hk he hc br (av.keep<|bm al) (aB.later al)<|N.keep (bm al) bI;obtain⟨f,ps,rfl,kA,_⟩:=ka.out w<|b5 _ _;have aiq:=kA;unfold Enters at kA;(have bX:Hid (∀W,Below w w W->aR f ps W (jb W B E<|b7 bM E.A.af E.A.ag k x m)):=fun W al=>by obtain⟨qS,E',e,_,h⟩:=ka.out W al;injection e with aO _ cr;injection aO with aO;subst aO cr;exact h);generalize b7 bM E.A.af E.A.ag k x m=o at*;have UH:=ad ha;(have bU:E.A.K≠E.x:=by obtain⟨_,au,_⟩:=N;exact O.ne au ax);have J:=ad (show E.A.K∉[E.x]by simpa using bU);clear ka T hi aF hk he hc br av aB N O ha aiq bU
 have Gq:(∃k',o.1=.inl k')\/(∃oU,o.1=.inr oU):=by
  cases h:o.1 with
  |inl k'=>exact .inl ⟨k',rfl⟩
  |inr oU=>exact .inr ⟨oU,rfl⟩
 rcases Gq with⟨k',sX⟩|⟨oU,yn⟩;{go_enter func80,ntmps80;go_wp2;refine Bn (ck [_,_] w) (lr w [_,_] rfl) (b3 w [_,_] 1 rfl) ?_;intro y g0 g1 g2;have z:=ad g0;have Q:=ad g1;have R:=ad g2;have d0:=cB g0 bJ;have agc:y.drew.cell? ⟨E.A.K,3+ak,none⟩=some (.func (.func f) #[] ps):=d0;have P:Hid (aq y.drew E.A.K 87 arr):=M.out.below g0.drew M.out.lt;clear bJ g0 g1 g2;go_region_with (go_at_fn f;refine(bX.out _<|z.out.drew).mono ?_;rintro e aQ h;obtain⟨v',d,a,rfl,ha⟩:=jQ.of h;obtain⟨s,t,rfl⟩:=alF sX ha.out;have j:aq aQ E.A.K 87 arr:=ha.bh.quiet _ _ _ _ P.out<|.inr ⟨rfl,J.out⟩;have eU:aQ.frozen? ⟨E.A.K,3+ak,none⟩=false:=j.free _;have hr:aQ.cell? ⟨E.A.K,3+ak,none⟩=some (.func (.func f) #[] ps):=(j.cell _).trans UH.out;have e9:aq aQ (w+1) 96 cj:=(show aq y.drew (w+1) 96 cj from R.out).keep ha.bh rfl;obtain⟨b9,da,ef,ew,fa,fb,hA⟩:=jh e9;obtain⟨f0,f1,f2,f3,f4,f5,f6⟩:=ji e9;have c:E.A.K≠w+1:=j.ne e9 ax;have r:=ad j;have l0:=ad e9;have fC:=ad ha;clear ha h j e9);all_goals have hp:=fC.out.st.TM r.out I7 (3+ak) ae<|.func (.func s) #[] t;(have I:E.x∉[E.A.K]:=by have:=J.out;simpa using fun e=>this<|by simp[e]);have H:Fr B [E.x,E.A.K] w (aQ.setCell ⟨E.A.K,3+ak,none⟩<|.func (.func s) #[] t):=((q.out.bh.mono (bG _) bI).below q.out.st.below.2.2.2 z.out.drew).trans<|(fC.out.bh.mono (bG _) bI).trans<|hp.2.mono (bG _) bI;obtain⟨W,l,g1,g2,g3,g4,g5⟩:=Out.N0 (w:=w) (X:=[E.x,E.A.K]) (l0.out.ey<|Ne.symm c) ae q.out.st.below.2.2.2 (fC.out.out.keep hp.2) (fC.out.aj.keep hp.2 I) hp.1 H;rw[<-l];(have F:aq W E.A.K 87 (arr.setIfInBounds (3+ak)<|.func (.func s) #[] t):=by rw[l];exact(((((((r.out.setCell (3+ak)<|.func (.func s) #[] t).ey c).ey c).ey c).ey c).ey c).ey c).ey c);(have fp:aq W w 96 cj:=by have h1:aq aQ w 96 cj:=(show aq y.drew w 96 cj from Q.out).keep fC.out.bh rfl;have f?:w≠E.A.K:=h1.ne r.out ax;have fq:w.heap.size≠w.heap.size+1:=ae;rw[l];exact(((((((h1.ey f?).ey fq).ey fq).ey fq).ey fq).ey fq).ey fq).ey fq);refine Hz (fun u=>u=W) rfl ?_;rintro u rfl;obtain⟨b9,da,ef,ew,fa,fb,hA⟩:=jh fp;obtain⟨f0,f1,f2,f3,f4,f5,f6⟩:=ji fp;obtain⟨dN,s1,s2,dr,ea,fi,u'⟩:=(⟨g1.cell 0,g1.cell 1,g1.cell 2,g1.cell 3,g1.cell 4,g1.cell 5,g1.cell 6⟩:u.cell? ⟨w+1,0,none⟩=some (.bool d)/\u.cell? ⟨w+1,1,none⟩=some (.int .i64 a.e)/\u.cell? ⟨w+1,2,none⟩=some (.bool a.granted)/\u.cell? ⟨w+1,3,none⟩=some (.int .i64 a.left)/\u.cell? ⟨w+1,4,none⟩=some (.int .i64 a.wait)/\u.cell? ⟨w+1,5,none⟩=some (.int .i64 a.a6)/\u.cell? ⟨w+1,6,none⟩=some (.int .i64 a.now));have D:=ad fp;have p:=ad<|bw g2<|bw g3<|bw g4 g5;have C:=ad F;clear l fp g1 g2 g3 g4 g5 F H hp I;go_wp2;have g:E.A.K≠w:=C.out.ne D.out ax;obtain⟨b,G,i,U,V,Y,Z⟩:=Out.N0 (w:=w) (X:=[E.x,E.A.K]) D.out (bG _) q.out.st.below.2.2.2 p.out.1 p.out.2.1 p.out.2.2.1 p.out.2.2.2;(have S:aq b E.A.K 87 (arr.setIfInBounds (3+ak)<|.func (.func s) #[] t):=by rw[G];exact((((((C.out.ey g).ey g).ey g).ey g).ey g).ey g).ey g);rw[<-G];obtain⟨u0,u1,u2,u3,u4,u5,u6⟩:=(⟨i.cell 0,i.cell 1,i.cell 2,i.cell 3,i.cell 4,i.cell 5,i.cell 6⟩:b.cell? ⟨w,0,none⟩=some (.bool d)/\b.cell? ⟨w,1,none⟩=some (.int .i64 a.e)/\b.cell? ⟨w,2,none⟩=some (.bool a.granted)/\b.cell? ⟨w,3,none⟩=some (.int .i64 a.left)/\b.cell? ⟨w,4,none⟩=some (.int .i64 a.wait)/\b.cell? ⟨w,5,none⟩=some (.int .i64 a.a6)/\b.cell? ⟨w,6,none⟩=some (.int .i64 a.now));exact cJ (by simp[results,results80,go_sem,u0,u1,u2,u3,u4,u5,u6]) rfl ⟨.func (.func s) #[] t,d,a,rfl,U,V,Y,S,Z⟩};go_enter func80,ntmps80;go_wp2;refine Bn (ck [_,_] w) (lr w [_,_] rfl) (b3 w [_,_] 1 rfl) ?_;intro y g0 g1 g2;have z:=ad g0;have Q:=ad g1;have R:=ad g2;have d0:=cB g0 bJ;have agc:y.drew.cell? ⟨E.A.K,3+ak,none⟩=some (.func (.func f) #[] ps):=d0;have P:Hid (aq y.drew E.A.K 87 arr):=M.out.below g0.drew M.out.lt;clear bJ g0 g1 g2;go_region_with (go_at_fn f;refine(bX.out _<|z.out.drew).mono ?_;rintro e aQ h;obtain⟨v',d,a,rfl,ha⟩:=jQ.of h;obtain rfl:=alG yn ha.out;have j:aq aQ E.A.K 87 arr:=ha.bh.quiet _ _ _ _ P.out<|.inr ⟨rfl,J.out⟩;have eU:aQ.frozen? ⟨E.A.K,3+ak,none⟩=false:=j.free _;have hr:aQ.cell? ⟨E.A.K,3+ak,none⟩=some (.func (.func f) #[] ps):=(j.cell _).trans UH.out;have e9:aq aQ (w+1) 96 cj:=(show aq y.drew (w+1) 96 cj from R.out).keep ha.bh rfl;obtain⟨b9,da,ef,ew,fa,fb,hA⟩:=jh e9;obtain⟨f0,f1,f2,f3,f4,f5,f6⟩:=ji e9;have c:E.A.K≠w+1:=j.ne e9 ax;have r:=ad j;have l0:=ad e9;have fC:=ad ha;clear ha h j e9);all_goals have hp:=fC.out.st.TM r.out I7 (3+ak) ae .nilFunc;(have I:E.x∉[E.A.K]:=by have:=J.out;simpa using fun e=>this<|by simp[e]);have H:Fr B [E.x,E.A.K] w (aQ.setCell ⟨E.A.K,3+ak,none⟩ .nilFunc):=((q.out.bh.mono (bG _) bI).below q.out.st.below.2.2.2 z.out.drew).trans<|(fC.out.bh.mono (bG _) bI).trans<|hp.2.mono (bG _) bI;obtain⟨W,l,g1,g2,g3,g4,g5⟩:=Out.N0 (w:=w) (X:=[E.x,E.A.K]) (l0.out.ey<|Ne.symm c) ae q.out.st.below.2.2.2 (fC.out.out.keep hp.2) (fC.out.aj.keep hp.2 I) hp.1 H;rw[<-l];(have F:aq W E.A.K 87 (arr.setIfInBounds (3+ak) .nilFunc):=by rw[l];exact(((((((r.out.setCell (3+ak) .nilFunc).ey c).ey c).ey c).ey c).ey c).ey c).ey c);(have fp:aq W w 96 cj:=by have h1:aq aQ w 96 cj:=(show aq y.drew w 96 cj from Q.out).keep fC.out.bh rfl;have f?:w≠E.A.K:=h1.ne r.out ax;have fq:w.heap.size≠w.heap.size+1:=ae;rw[l];exact(((((((h1.ey f?).ey fq).ey fq).ey fq).ey fq).ey fq).ey fq).ey fq);refine Hz (fun u=>u=W) rfl ?_;rintro u rfl;obtain⟨b9,da,ef,ew,fa,fb,hA⟩:=jh fp;obtain⟨f0,f1,f2,f3,f4,f5,f6⟩:=ji fp;obtain⟨dN,s1,s2,dr,ea,fi,u'⟩:=(⟨g1.cell 0,g1.cell 1,g1.cell 2,g1.cell 3,g1.cell 4,g1.cell 5,g1.cell 6⟩:u.cell? ⟨w+1,0,none⟩=some (.bool d)/\u.cell? ⟨w+1,1,none⟩=some (.int .i64 a.e)/\u.cell? ⟨w+1,2,none⟩=some (.bool a.granted)/\u.cell? ⟨w+1,3,none⟩=some (.int .i64 a.left)/\u.cell? ⟨w+1,4,none⟩=some (.int .i64 a.wait)/\u.cell? ⟨w+1,5,none⟩=some (.int .i64 a.a6)/\u.cell? ⟨w+1,6,none⟩=some (.int .i64 a.now));have D:=ad fp;have p:=ad<|bw g2<|bw g3<|bw g4 g5;have C:=ad F;clear l fp g1 g2 g3 g4 g5 F H hp I;go_wp2;have g:E.A.K≠w:=C.out.ne D.out ax;obtain⟨b,G,i,U,V,Y,Z⟩:=Out.N0 (w:=w) (X:=[E.x,E.A.K]) D.out (bG _) q.out.st.below.2.2.2 p.out.1 p.out.2.1 p.out.2.2.1 p.out.2.2.2;(have S:aq b E.A.K 87 (arr.setIfInBounds (3+ak) .nilFunc):=by rw[G];exact((((((C.out.ey g).ey g).ey g).ey g).ey g).ey g).ey g);rw[<-G];obtain⟨u0,u1,u2,u3,u4,u5,u6⟩:=(⟨i.cell 0,i.cell 1,i.cell 2,i.cell 3,i.cell 4,i.cell 5,i.cell 6⟩:b.cell? ⟨w,0,none⟩=some (.bool d)/\b.cell? ⟨w,1,none⟩=some (.int .i64 a.e)/\b.cell? ⟨w,2,none⟩=some (.bool a.granted)/\b.cell? ⟨w,3,none⟩=some (.int .i64 a.left)/\b.cell? ⟨w,4,none⟩=some (.int .i64 a.wait)/\b.cell? ⟨w,5,none⟩=some (.int .i64 a.a6)/\b.cell? ⟨w,6,none⟩=some (.int .i64 a.now));exact cJ (by simp[results,results80,go_sem,u0,u1,u2,u3,u4,u5,u6]) rfl ⟨.nilFunc,d,a,rfl,U,V,Y,S,Z⟩
def Mem.tick(m:Mem)(n:Int):Mem:={m with ca:=gL (m.ca+n)}
theorem cX.tick(h:cX w B A m)(n:Int):Acc w B A (Mem.tick m n) (w.setCell ⟨A.hb,1,none⟩<|.int .i64<|gL<|m.ca+n):=by obtain⟨last,hm,f⟩:=h.hb;have r:=hm;have b:Fr B [] w (w.setCell ⟨A.hb,1,none⟩<|.int .i64<|gL<|m.ca+n):=(Fr.refl B [] w).setCell (p:=⟨A.hb,1,none⟩) r h.below.1 rfl (fun a8=>by simp[C6]at a8) _;obtain⟨q,xs,a8,hn,h1⟩:=f;obtain⟨aB,l,c,e⟩:=h.a_;(have o:(w.setCell ⟨A.hb,1,none⟩<|.int .i64<|gL<|m.ca+n).heap.size=w.heap.size:=by simp[World.setCell]);refine⟨⟨h.eT.keep b rfl,h.kd.keep b rfl,⟨last,hm.setCell 1 _,q,xs,ownsRow_setCell_other a8 (uX a8 hm ax) _,hn,h1⟩,h.aZ.ey<|h.aZ.ne hm ax,h.xp,h.xD,⟨aB,l,c.ey<|c.ne hm ax,fun i hi=>?_⟩,h.yC,⟨h.below.1,h.below.2.1,h.below.2.2.1,by rw[o];exact h.below.2.2.2⟩,LH _,h.count,h.core.keep b bI⟩,b⟩;obtain⟨v,g,j⟩:=e i hi;exact⟨v,g,j.keep b⟩
theorem ak0(B:Nat)(A:c6)(m:Mem)(n:Int)(w:World)(aB:cX w B A m)(f:0<=n)(h1:n<=4611686018427387903):
 aR 84 #[P A.hb,n] w fun e w'=>e=.returned (.tuple #[(Mem.tick m n).ca,bA])/\Acc w B A (Mem.tick m n) w':=by obtain⟨last,hm,g⟩:=aB.hb;have c1:aG w A.hb 1 m.ca:=hm.cell 1;have f1:=hm.free 1;have al:=ma f h1;have ha:=ma aB.ca.1 aB.ca.2;have gQ:=ad<|zh n w;have c:=ad<|aeH m.ca n w ha al;have H:=ad<|aB.tick n;obtain⟨t,b⟩:∃t,gL (m.ca+n)=t:=⟨_,rfl⟩;have e:(Mem.tick m n).ca=t:=b;rw[e];rw[b]at c H;go_enter func84,ntmps84;go_wp2_with(first|(go_at_call 116;refine gQ.out.mono ?_;rintro e w1 ⟨rfl,rfl⟩)|(go_at_call 125;refine c.out.mono ?_;rintro e w1 ⟨rfl,rfl⟩));exact cJ (by simp[results,results84,go_sem]) rfl ⟨rfl,H.out⟩
theorem af5(B:Nat)(A:c6)(m:Mem)(n:Int)(w:World)(aB:cX w B A m)(b:0<=n)(h1:n<=4611686018427387903):
 aR 49 #[P A.K,n] w fun e w'=>e=.returned (.tuple #[(Mem.tick m n).ca,bA])/\Acc w B A (Mem.tick m n) w':=by have cw:=aB.core.cw;have gf:=aB.eT.cell 0;have f:=aB.kd.cell 0;have iz:=ad<|ak0 B A m n w aB b h1;obtain⟨t,c⟩:∃t,(Mem.tick m n).ca=t:=⟨_,rfl⟩;rw[c]at iz⊢;go_enter func49,ntmps49;go_wp2_with(go_at_call 84;refine iz.out.mono ?_;rintro e w1 ⟨rfl,ha⟩;have fC:=ad ha);exact cJ (by simp[results,results49,go_sem]) rfl ⟨rfl,fC.out⟩
theorem J4(ak:Int)(w:World)(b:0<=ak)(h1:ak<64):
 aR 25 #[ak] w (ga true w):=by go_enter func25,ntmps25;go_wp2;go_ret;exact⟨rfl,rfl⟩
theorem σ(f:Fn)(a ps:Array Value)(w:World):(binOp BinOp.neq 83 (.func f a ps) .nilFunc).run prog w=.ok true w:=by simp only[binOp,Op.equal];rw[show Op.maxDepth=9999+1 from rfl,Op.equalIn];simp[go_sem]
theorem τ(w:World):(binOp BinOp.neq 83 .nilFunc .nilFunc).run prog w=.ok false w:=by simp only[binOp,Op.equal];rw[show Op.maxDepth=9999+1 from rfl,Op.equalIn];simp[go_sem]
def Z0:Value->Bool
 |.nilFunc=>false
 |_=>true
theorem al5(K:Nat)(ak:Nat)(b:Value)(w:World)(h1:ak<64)(hc:aG w K (3+ak) b)(c:b=.nilFunc\/wy b):
 aR 9 #[P K,ak] w (ga (Z0 b) w):=by have g:=ad<|J4 ak w ae ae;have hw:(ak:Int)<64:=ae;have aO:=σ;have aU:=τ;clear h1;rcases c with rfl|⟨f,ps,rfl⟩;all_goals go_enter func9,ntmps9;go_wp2_with(go_at_call 25;refine g.out.mono ?_;rintro e w1 ⟨rfl,rfl⟩);go_ret;exact⟨rfl,rfl⟩
def FU(w:World)(v:Value)(L:List Int):Prop:=
 ∃a c,v=.slice a L.length c/\L.length<=c/\c<=maxLen/\
  (0<L.length->∃b off,a=some ⟨b,off,none⟩/\∀j,j<L.length->aG w b (off+j) (L.getD j 0))
theorem b'.ints{L:List Int}(h:b' w v L):FU w v L:=by obtain⟨a,c,rfl⟩:=e? h;obtain⟨_,h1,i,l⟩:=Row.cells h;refine⟨a,c,rfl,h1,i,fun hn=>?_⟩;obtain⟨b,off,e,f⟩:=l hn;refine⟨b,off,e,fun j g=>f j _ ?_⟩;rw[List.getElem?_map,eh,eG g];rfl
theorem NT(l o:Value)(a b:List Nat)(w:World)(ha:fj w l a)(al:fj w o b):
   aR 26 #[l,o] w (dM (decide<|a=b) w):=by
 obtain⟨a0,aa,ac,rfl,J,a2,a3⟩:=ha;obtain⟨H,ba,bc,rfl,I,t,y⟩:=al;unfold maxLen at a2 t;generalize iK:decide (a=b)=R;have iR:=ad iK;by_cases hn:a.length=b.length
 . have fc:=ad a3;have C:=ad y;have f:=ad hn;generalize D:b.length=eX at*;have g:=ad D;go_enter func26,ntmps26;go_wp2;go_loopw [13] (fun i wr=>∃(k:Nat),i=.int .i64 k/\k<=eX/\Below w w wr/\∀j,j<k->a.getD j 0=b.getD j 0) (fun i _=>eX-(intOf i).toNat);case atStart=>exact⟨0,rfl,fw _,b5 _ _,fun j h=>ae⟩
   case round=>
     obtain⟨k,rfl,hk,z,heq⟩:=hrel;have c:=ad z;have r:=ad heq;by_cases cg:k<eX
     . obtain⟨p,K,rfl,F⟩:=fc.out (by have:=f.out;omega);obtain⟨q,M,rfl,dC⟩:=C.out (by have:=g.out;omega);have bL:=cB c.out<|F k (by have:=f.out;omega);have eb:=cB c.out<|dC k (by have:=g.out;omega);by_cases au:a.getD k 0=b.getD k 0
       . (have Hx:Hid (∀j,j=k->a.getD j 0=b.getD j 0):=fun j e=>by subst e;exact au);generalize a.getD k 0=u at*;go_wp2;go_region;go_wp2;go_roundw
         case rel=>exact⟨k+1,by go_num,ae,below_drewN c.out _,fun j G=>by
           by_cases e:j=k
           . exact Hx.out j e
           . exact r.out j ae⟩
         case measure=>simp[intOf];omega
       . (have f_:R=false:=by rw[<-iR.out];exact hg fun e=>au<|by rw[e]);have bU:¬(a.getD k 0:Int)=(b.getD k 0:Int):=ae;subst f_;generalize a.getD k 0=u at*;generalize b.getD k 0=v at*;go_wp2;go_region;go_wp2;go_ret;exact⟨rfl,below_drewN c.out _⟩
     . obtain rfl:k=eX:=ae;(have f_:R=true:=by rw[<-iR.out];refine hh<|List.ext_getElem (by have:=f.out;have:=g.out;omega) fun j h1 s=>?_;have:=r.out j (by have:=f.out;omega);rwa[eh,eh,eG h1,eG s]at this);subst f_;go_wp2;go_ret;exact⟨rfl,c.out⟩
 . have bU:¬(a.length:Int)=b.length:=ae;(have f_:R=false:=by rw[<-iR.out];exact hg fun e=>hn<|by rw[e]);subst f_;generalize a.length=b? at*;generalize b.length=bW at*;go_enter func26,ntmps26;go_wp2;go_ret;exact⟨rfl,b5 _ _⟩
