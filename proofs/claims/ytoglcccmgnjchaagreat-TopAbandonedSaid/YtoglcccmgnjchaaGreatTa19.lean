import Derived.Test.YtoglcccmgnjchaaGreatTa18
import Derived.Deep.MidRow
set_option linter.all false
set_option maxHeartbeats 8000000
set_option maxRecDepth 100000
namespace Go.Proofs.YtoglcccmgnjchaaGreat
open Go.Proofs.Tryz PL
section
open Go.RowKit ai
variable{w aH:World}{f dk:Nat->Value}{x:fA}{kv aM av az u:Value}{j b p i:Nat}{W:List Nat}
theorem DA.put{B ag ak:Nat}{af:List aA}{g:Nat->Value}{D:bf}(k:DA w B af ag f D)(hw:ak<64){x:bC}(e:∀i,¬(71+34*ak<=i/\i<71+34*ak+34)->g i=f i)(hc:mU w g (71+34*ak) x kv aM av az):DA w B af ag g (amg D ak x):=by have h:=k.head.same (g:=g) fun i hi=>e i ae;refine⟨⟨h.af,h.ag,h.aZ,h.dm,h.a_,h.e2,h.count,h.a6,h.now,h.bS,h.log,h.cF⟩,fun j c=>?_⟩;by_cases a:j=ak;{subst a;refine⟨kv,aM,av,az,?_⟩;show mU w g _ (cQ D.c7 j x j) _ _ _ _;rw[ht];exact hc};obtain⟨kv,aM,av,az,d⟩:=k.c7 j c;refine⟨kv,aM,av,az,?_⟩;show mU w g _ (cQ D.c7 ak x j) _ _ _ _;rw[cD _ _ a];exact d.same fun i hi=>e _ ae
theorem mU.set{o:Nat}{x a:bC}{d g c h:Value}(k:mU w f o x kv aM av az)(n:j<34)(e:(vy x kv aM av az).set j u=vy a d g c h)(h1:cb w d a.aj.key)(q:cb w g a.cell.key)(r:b' w c a.cell.held)(l:cC w h a.af):mU w (cQ f (o+j) u) o a d g c h:=by refine⟨fun i hi=>?_,h1,q,r,l⟩;rw[<-e];unfold cQ;have m:(vy x kv aM av az).length=34:=rfl;by_cases s:i=j;{subst s;rw[aN rfl,eh,List.getElem?_set_self<|by rw[m];exact n];rfl};rw[aC ae,eh,List.getElem?_set_ne ae,k.u! i hi,eh]
theorem SM{l:Nat}(h:l<=5):l=0\/l=1\/l=2\/l=3\/l=4\/l=5:=ae
theorem y9(l s:Int)(aw shard:Nat)(el:l=(aw:Nat))(es:s=(shard:Nat))(w:World)(a:aw<=5)(aB:shard<=1048576):
 aR 62 #[l,s] w (ga (iP aw shard:Nat) w):=by subst el es;rcases SM a with rfl|rfl|rfl|rfl|rfl|rfl;all_goals go_enter func62,ntmps62;go_wp2;go_ret;exact⟨by unfold iP;first|rfl|(congr 2;push_cast;rfl),rfl⟩
theorem J'(l:Int)(sum aw:Nat)(el:l=(aw:Nat))(w:World)(a:aw<=5)(aB:sum<18446744073709551616):
 aR 63 #[.int .u64 sum,l] w (ga (kV sum aw:Nat) w):=by subst el;rcases SM a with rfl|rfl|rfl|rfl|rfl|rfl;all_goals go_enter func63,ntmps63;go_wp2;go_ret;exact⟨by unfold kV;first|rfl|(simp;done),rfl⟩
def KG(x:fA):List Value:=[x.pl,x.aw,x.shard,x.upper,.int .u64 (x.v:Nat),x.ah]
structure aet(f:Nat->Value)(p:Nat)(W:List Nat)(x:fA):Prop where
 aZ:∀i,i<32->f (2+i)=.int .u64 (wd W i:Nat)
 dm:W.length=32
 u!:∀j,j<6->f (p+j)=(KG x).getD j default
structure d_(aH:World)(dk:Nat->Value)(b p:Nat)(W:List Nat)(x:fA)(w:World):Prop where
 ex:∃f,j9 w b f/\aet f p W x/\∀i,¬(2<=i/\i<34)->¬(p<=i/\i<p+6)->f i=dk i
 b1:eN b aH w
 eY:34<=p
 eU:p+6<=2311
theorem d_.cell(h:d_ aH dk b p W x w){v:Value}(a:j<6)(e:(KG x).getD j default=v):aG w b (p+j) v:=by obtain⟨f,h1,c,_⟩:=h.ex;have:=h.eU;exact h1.cell ae<|(c.u! j a).trans e
theorem d_.ah{W:List Nat}(h:d_ aH dk b p W x w){i:Nat}(hi:i<32):aG w b (2+i) (.int .u64 (wd W i:Nat)):=by obtain⟨f,h1,a,_⟩:=h.ex;exact h1.cell ae<|a.aZ i hi
theorem d_.free(h:d_ aH dk b p W x w)(i:Nat):w.frozen? ⟨b,i,none⟩=false:=by obtain⟨f,h1,_⟩:=h.ex;exact h1.free i
theorem d_.lt(h:d_ aH dk b p W x w):b<w:=by obtain⟨f,h1,_⟩:=h.ex;exact h1.lt
theorem d_.set{c:fA}(h:d_ aH dk b p W x w)(g:j<6)(e:(KG x).set j u=KG c):d_ aH dk b p W c (w.setCell ⟨b,p+j,none⟩ u):=by obtain⟨f,h1,a,m⟩:=h.ex;have k:=h.eY;have l:=h.eU;refine⟨⟨cQ f (p+j) u,h1.set ae u,⟨fun i hi=>?_,a.dm,fun i hi=>?_⟩,fun i q n=>?_⟩,h.b1.set _ _,k,l⟩;{rw[cD _ _ ae];exact a.aZ i hi};{rw[<-e];have d:(KG x).length=6:=rfl;by_cases o:i=j;{subst o;rw[ht,eh,List.getElem?_set_self<|by rw[d];exact g];rfl};rw[cD _ _ ae,eh,List.getElem?_set_ne ae,a.u! i hi,eh]};rw[cD _ _ ae];exact m i q n
theorem d_.Kv(h:d_ aH dk b p W x w){v:Nat}(hi:i<32):d_ aH dk b p (W.set i v) x (w.setCell ⟨b,2+i,none⟩<|.int .u64 (v:Nat)):=by obtain⟨f,h1,a,g⟩:=h.ex;have c:=h.eY;have d:=h.eU;refine⟨⟨cQ f (2+i)<|.int .u64 (v:Nat),h1.set ae _,⟨fun k hk=>?_,by simp[a.dm],fun k hk=>?_⟩,fun k m l=>?_⟩,h.b1.set _ _,c,d⟩;{rw[N8<|by rw[a.dm];exact hi];by_cases e:k=i;{subst e;rw[ht,aN rfl]};rw[cD _ _ ae,aC e];exact a.aZ k hk};{rw[cD _ _ ae];exact a.u! k hk};rw[cD _ _ ae];exact g k m l
theorem d_.below{w':World}(h:d_ aH dk b p W x w)(k:Below w w w'):d_ aH dk b p W x w':=by obtain⟨f,h1,a⟩:=h.ex;exact⟨⟨f,h1.below k,a⟩,h.b1.below k,h.eY,h.eU⟩
theorem d_.alloc(h:d_ aH dk b p W x w)(o:Obj):d_ aH dk b p W x (w.alloc o):=h.below<|(b5 _ _).alloc (bG _) o
theorem eN.drewN{x:World}(h:eN b w x)(n:Nat):eN b w (x.drewN n):=⟨h.os,h.tape,h.output,h.size,h.block⟩
theorem d_.ec(h:d_ aH dk b p W x w)(n:Nat):d_ aH dk b p W x (w.drewN n):=⟨h.ex,h.b1.drewN n,h.eY,h.eU⟩
theorem d_.drew(h:d_ aH dk b p W x w):d_ aH dk b p W x w.drew:=⟨h.ex,h.b1.drew,h.eY,h.eU⟩
end
section
open Go.RowKit ai
variable {aH w :World} {dk:Nat->Value} {b p:Nat} {W:List Nat} {x:fA}
theorem d_.cs(h:d_ aH dk b p W x w):aG w b p x.pl/\aG w b (p+1) x.aw/\aG w b (p+2) x.shard/\aG w b (p+3) x.upper/\aG w b (p+4) (.int .u64 (x.v:Nat))/\aG w b (p+5) x.ah:=
 ⟨h.cell (j:=0) ax rfl,h.cell (j:=1) ax rfl,h.cell (j:=2) ax rfl,h.cell (j:=3) ax rfl,h.cell (j:=4) ax rfl,h.cell (j:=5) ax rfl⟩
theorem d_.fs(h:d_ aH dk b p W x w):w.frozen? ⟨b,p,none⟩=false/\w.frozen? ⟨b,p+1,none⟩=false/\w.frozen? ⟨b,p+2,none⟩=false/\w.frozen? ⟨b,p+3,none⟩=false/\w.frozen? ⟨b,p+4,none⟩=false/\w.frozen? ⟨b,p+5,none⟩=false:=
 ⟨h.free _,h.free _,h.free _,h.free _,h.free _,h.free _⟩
theorem d_.oW(h:d_ aH dk b p W x w)(n:Nat):d_ aH dk b p W {x with pl:=n} (w.setCell ⟨b,p,none⟩ n):=h.set (j:=0) ax rfl
theorem d_.Kt(h:d_ aH dk b p W x w)(n:Nat):d_ aH dk b p W {x with aw:=n} (w.setCell ⟨b,p+1,none⟩ n):=h.set (j:=1) ax rfl
theorem d_.NU(h:d_ aH dk b p W x w)(n:Nat):d_ aH dk b p W {x with shard:=n} (w.setCell ⟨b,p+2,none⟩ n):=h.set (j:=2) ax rfl
theorem d_.anx(h:d_ aH dk b p W x w)(n:Bool):d_ aH dk b p W {x with upper:=n} (w.setCell ⟨b,p+3,none⟩ n):=h.set (j:=3) ax rfl
theorem d_.u?(h:d_ aH dk b p W x w)(n:Nat):d_ aH dk b p W {x with v:=n} (w.setCell ⟨b,p+4,none⟩<|.int .u64 (n:Nat)):=h.set (j:=4) ax rfl
theorem d_.tT(h:d_ aH dk b p W x w)(n:Nat):d_ aH dk b p W {x with ah:=n} (w.setCell ⟨b,p+5,none⟩ n):=h.set (j:=5) ax rfl
end
section
open Go.RowKit ai
variable{l:Nat}
structure aep(n:Nat):Prop where
 cI:(0:Int)=((0:Nat):Int)
 aO:(1:Int)=((1:Nat):Int)
 aU:(2:Int)=((2:Nat):Int)
 cr:(3:Int)=((3:Nat):Int)
 eI:(4:Int)=((4:Nat):Int)
 f?:(n:Int)+1=((n+1:Nat):Int)
 fq:(n:Int)+2=((n+2:Nat):Int)
 n4:(n:Int)+4=((n+4:Nat):Int)
 n8:(n:Int)+8=((n+8:Nat):Int)
theorem Ny(n:Nat):Hid (aep n):=⟨rfl,rfl,rfl,rfl,rfl,rfl,rfl,rfl,rfl⟩
theorem T7(h:l<=5):wrap64 (2^l:Int)=((2^l:Nat):Int):=by rcases SM h with rfl|rfl|rfl|rfl|rfl|rfl<;>(unfold wrap64;simp)
theorem akL(h:l<=3):l=0\/l=1\/l=2\/l=3:=ae
theorem PQ(aH:World)(dk:Nat->Value)(b p sum:Nat)(W:List Nat)(x:fA)(split upper:Bool)(w:World)(h:d_ aH dk b p W x w)(c:x.aw<=3)(aB:split=true->x.shard<=16)(d:split=false->sum<18446744073709551616):
  aR 173 #[.pointer<|some ⟨b,p,none⟩,.int .u64 sum,split,upper] w fun e w'=>e=.returned (.tuple #[])/\d_ aH dk b p W (vu x sum split upper) w':=by
 obtain⟨g,f,xs,j,i,dK⟩:=x;obtain⟨bJ,c1,cw,dg,_,gu⟩:=h.cs;obtain⟨f0,f1,f2,f3,_,f5⟩:=h.fs;have H:=ad h;dsimp only at c aB bJ c1 cw dg gu;have N:=Ny xs;rcases akL c with rfl|rfl|rfl|rfl<;>cases split<;>cases upper
 all_goals
  first
   |have eE:=aB rfl
   |have a:=d rfl
  go_enter func173,ntmps173
  go_wp2_with(first
   |(go_at_call 63;refine(J' _ sum _ (by first|exact N.out.aO|exact N.out.aU|exact N.out.cr|exact N.out.eI) _ ax a).mono ?_;rintro e w1 ⟨rfl,rfl⟩)
   |(go_at_call 62;refine(y9 _ _ _ _ (by first|exact N.out.aO|exact N.out.aU|exact N.out.cr|exact N.out.eI) (by first|with_reducible rfl|exact N.out.f?|exact N.out.fq|exact N.out.n4|exact N.out.n8) _ ax<|by first|omega|(unfold kV;refine eB (Nat.le_of_lt<|Nat.mod_lt _ ax) ax)).mono ?_;rintro e w1 ⟨rfl,rfl⟩))
  exact bodyPost_end (v:=.tuple #[]) (by simp[results,results173,go_sem]) rfl ⟨rfl,((H.out.anx _).oW 4).tT _⟩
end
namespace ai
variable {B : Below} {af:List aA} {ag:Nat}
variable{D:bf}
def E7(ak:Nat)(o:kH):bf:=match o.fin with
 |none=>{o.D with c7:=cQ o.D.c7 ak o.x}
 |some r=>{o.D with c7:=cQ o.D.c7 ak rl,log:=o.D.log++[⟨ak,o.x.aj,o.D.cF ak,o.x.done,o.D.bS,r⟩]}
structure jT(D:bf)(o:kH):Prop where
 cF:o.D.cF=D.cF
 bS:o.D.bS=D.bS
 c7:o.D.c7=D.c7
 log:o.D.log=D.log
theorem jT.stay(x:bC)(D:bf):jT D (stay x D):=⟨rfl,rfl,rfl,rfl⟩
theorem jT.pS(r:c2)(x:bC)(D:bf):jT D (pS r x D):=⟨rfl,rfl,rfl,rfl⟩
theorem jT.hN(r:c2)(x:bC)(D:bf):jT D (sl r x D):=by unfold sl;split<;>exact⟨rfl,rfl,rfl,rfl⟩
theorem jT.iC(x:bC)(D:bf):jT D (vH x D):=by unfold vH;split<;>exact⟨rfl,rfl,rfl,rfl⟩
theorem jT.of{a:bf}{o:kH}(h:jT a o)(h1:a.cF=D.cF)(c:a.bS=D.bS)(d:a.c7=D.c7)(b:a.log=D.log):jT D o:=⟨h.cF.trans h1,h.bS.trans c,h.c7.trans d,h.log.trans b⟩
theorem jT.found(x:bC)(D:bf):jT D (ux B af x D):=by unfold ux;dsimp only;(repeat' split);all_goals first|exact jT.iC _ _|exact jT.hN _ _ _|exact⟨rfl,rfl,rfl,rfl⟩
theorem jT.bk(x:bC)(D:bf):jT D (nV B af x D):=by unfold nV;dsimp only;generalize fr D.aZ x.bk x.sum (decide<|x.aj.op=6)=s;split;{exact⟨rfl,rfl,rfl,rfl⟩};split;{exact⟨rfl,rfl,rfl,rfl⟩};split;{exact⟨rfl,rfl,rfl,rfl⟩};exact(jT.found _ _).of rfl rfl rfl rfl
theorem jT.read(x:bC)(D:bf):jT D (sq B af x D):=by unfold sq;dsimp only;(repeat' split);all_goals first|exact jT.iC _ _|exact jT.hN _ _ _|exact⟨rfl,rfl,rfl,rfl⟩
theorem jT.swap(x:bC)(D:bf):jT D (qD B af x D):=by unfold qD;dsimp only;(repeat' split);all_goals first|exact jT.iC _ _|exact(jT.hN _ _ _).of rfl rfl rfl rfl|exact⟨rfl,rfl,rfl,rfl⟩
theorem jT.amG(x:bC)(D:bf):jT D (p9 ag x D):=by unfold p9;(repeat' split);all_goals first|exact(jT.iC _ _).of rfl rfl rfl rfl|exact⟨rfl,rfl,rfl,rfl⟩
theorem jT.next(x:bC)(D:bf):jT D (xo x D):=by unfold xo;(repeat' split);all_goals first|exact jT.hN _ _ _|exact⟨rfl,rfl,rfl,rfl⟩
theorem jT.step(x:bC)(D:bf):jT D (eQ B af ag x D):=by unfold eQ;split;{exact .bk _ _};split;{exact .read _ _};split;{exact .next _ _};split;{exact .swap _ _};split;{exact⟨rfl,rfl,rfl,rfl⟩};exact .amG _ _
theorem agr{D:bf}{ak:Nat}(h:(D.c7 ak).aj.op≠0):r4 B af ag D ak=E7 ak (eQ B af ag (D.c7 ak) {D with bS:=D.bS+1,cF:=cQ D.cF ak (if D.cF ak=0 then D.bS+1 else D.cF ak)}):=by have k:=jT.step (B:=B) (af:=af) (ag:=ag) (D.c7 ak) {D with bS:=D.bS+1,cF:=cQ D.cF ak (if D.cF ak=0 then D.bS+1 else D.cF ak)};unfold r4;rw[aC h];dsimp only;generalize eQ B af ag (D.c7 ak) {D with bS:=D.bS+1,cF:=cQ D.cF ak (if D.cF ak=0 then D.bS+1 else D.cF ak)}=o at*;(have aO:o.D.cF ak=if D.cF ak=0 then D.bS+1 else D.cF ak:=by rw[k.cF];exact ht _ _ _);have aU:=k.bS;have cr:=k.c7;have eI:=k.log;obtain⟨fin,x,⟨d1,d2,d3,d4,d5,d6,d7,d8,d9⟩⟩:=o;dsimp only at aO aU cr eI;subst aU cr eI;unfold E7;cases fin with|none=>rfl|some r=>dsimp only;rw[aO]
end ai
section
open Go.RowKit ai
variable{B:Nat}{x y:World}
structure jn(B:Nat)(w w':World):Prop where
 bn:Below B w w'
 kW:∀(k:Nat) (a:Array Value) (t:TypeId) (f:Nat×Nat),w.heap[k]?=some (.cells a t f)->t≠64->t≠66->w'.heap[k]?=some (.cells a t f)
theorem jn.refl(B:Nat)(w:World):jn B w w:=⟨b5 _ _,fun _ _ _ _ h _ _=>h⟩
theorem jn.trans{z:World}(h:jn B x y)(k:jn B y z):jn B x z:=⟨h.bn.trans k.bn,fun q a t f e t1 t2=>k.kW q a t f (h.kW q a t f e t1 t2) t1 t2⟩
theorem jn.below{w:World}(h:jn B w x)(br:B<=x)(k:Below x x y):jn B w y:=h.trans ⟨k.mono br,fun q a t f e _ _=>(k.block q<|lt_of_block e).trans e⟩
structure bj(aH:World)(B b:Nat)(af:List aA)(ag o ak:Nat)(x:bC)(D:bf)(kv aM av az:Value)(w:World):Prop where
 mj:B<=b
 hw:ak<64
 a8:o=71+34*ak
 st:∃f,j9 w b f/\vi w B af ag f D/\mU w f o x kv aM av az/\∀j,j<64->j≠ak->∃kv aM av az,mU w f (71+34*j) (D.c7 j) kv aM av az
 bh:jn B aH w
end
section
open Go.RowKit ai
variable {aH w :World} {B b ag o ak:Nat} {af:List aA} {x:bC} {D:bf} {kv aM av az:Value}
variable{j i q:Nat}{w':World}{e5:bC}{lF:bf}{gU hx fX iY u:Value}{L:List Cell}
theorem bj.lt(h:bj aH B b af ag o ak x D kv aM av az w):b<w:=by obtain⟨f,h1,_⟩:=h.st;exact h1.lt
theorem bj.free(h:bj aH B b af ag o ak x D kv aM av az w)(i:Nat):w.frozen? ⟨b,i,none⟩=false:=by obtain⟨f,h1,_⟩:=h.st;exact h1.free i
theorem bj.cell(h:bj aH B b af ag o ak x D kv aM av az w)(a:j<34){v:Value}(e:(vy x kv aM av az).getD j default=v):aG w b (o+j) v:=by obtain⟨f,h1,_,c,_⟩:=h.st;have g:=h.a8;have d:=h.hw;exact h1.cell ae<|(c.u! j a).trans e
theorem bj.C3(h:bj aH B b af ag o ak x D kv aM av az w):71<=o/\o+34<=2247:=by have c:=h.a8;have a:=h.hw;omega
theorem bj.oH(h:bj aH B b af ag o ak x D kv aM av az w):aG w b 1 ag/\aG w b 66 D.count/\aG w b 67 D.a6/\aG w b 68 D.now/\aG w b 69 D.bS/\aG w b (2247+ak) (D.cF ak:Nat):=by obtain⟨f,h1,a,_⟩:=h.st;have hw:=h.hw;exact⟨h1.cell ax a.ag,h1.cell ax a.count,h1.cell ax a.a6,h1.cell ax a.now,h1.cell ax a.bS,h1.cell ae<|a.cF ak hw⟩
theorem bj.log(h:bj aH B b af ag o ak x D kv aM av az w):∃v,aG w b 70 v/\BR w B v D.log:=by obtain⟨f,h1,a,_⟩:=h.st;exact⟨_,h1.cell ax rfl,a.log⟩
theorem bj.yE(h:bj aH B b af ag o ak x D kv aM av az w):∃v,aG w b 0 v/\hv w v af:=by obtain⟨f,h1,a,_⟩:=h.st;exact⟨_,h1.cell ax rfl,a.af⟩
theorem bj.ah(h:bj aH B b af ag o ak x D kv aM av az w)(hi:i<32):aG w b (2+i) (.int .u64 (wd D.aZ i:Nat)):=by obtain⟨f,h1,a,_⟩:=h.st;exact h1.cell ae<|a.aZ i hi
theorem bj.b4(h:bj aH B b af ag o ak x D kv aM av az w)(hi:i<32):∃v,aG w b (34+i) v/\cC w v (D.a_.getD i []):=by obtain⟨f,h1,a,_⟩:=h.st;exact⟨_,h1.cell ae rfl,a.a_ i hi⟩
theorem bj.rows(h:bj aH B b af ag o ak x D kv aM av az w):cb w kv x.aj.key/\cb w aM x.cell.key/\b' w av x.cell.held/\cC w az x.af:=by obtain⟨f,h1,_,a,_⟩:=h.st;exact⟨a.key,a.er,a.held,a.af⟩
theorem bj.b1{k:Nat}{t:TypeId}{a:Array Value}(h:bj aH B b af ag o ak x D kv aM av az w)(hk:aq w k t a)(c:pF t)(hc:t≠64)(s:aH<=k)(br:B<=k)(b1:eN k w w'):bj aH B b af ag o ak x D kv aM av az w':=by obtain⟨f,⟨arr,h1,n⟩,p,d,g⟩:=h.st;refine⟨h.mj,h.hw,h.a8,⟨f,⟨arr,b1.hU h1<|h1.ne hk hc.symm,n⟩,p.b1 b1 hk c,d.b1 b1 hk c,fun j l hn=>?_⟩,?_⟩;{obtain⟨kv,aM,av,az,m⟩:=g j l hn;exact⟨kv,aM,av,az,m.b1 b1 hk c⟩};have aB:=h.bh.bn.size;exact⟨⟨b1.os.trans h.bh.bn.os,b1.tape.trans h.bh.bn.tape,b1.output.trans h.bh.bn.output,eB aB b1.size,fun i hi=>(b1.block i ae (by have:=h.lt;have:=h.mj;omega)).trans<|h.bh.bn.block i hi⟩,fun q aa hf r e t1 t2=>(b1.block q (by have:=lt_of_block e;omega) (by have:=lt_of_block e;omega)).trans<|h.bh.kW q aa hf r e t1 t2⟩
theorem bj.below(h:bj aH B b af ag o ak x D kv aM av az w)(k:Below w w w'):bj aH B b af ag o ak x D kv aM av az w':=by obtain⟨f,a,m,c,d⟩:=h.st;have cc:=a.lt;have b1:=(eN.refl b w).below k;obtain⟨arr,h1,l⟩:=a;refine⟨h.mj,h.hw,h.a8,⟨f,⟨arr,h1.below k h1.lt,l⟩,m.b1 b1 h1 sO,c.b1 b1 h1 sO,fun j e hn=>?_⟩,h.bh.below (by have:=h.mj;omega) k⟩;obtain⟨kv,aM,av,az,g⟩:=d j e hn;exact⟨kv,aM,av,az,g.b1 b1 h1 sO⟩
theorem bj.alloc(h:bj aH B b af ag o ak x D kv aM av az w)(a:Obj):bj aH B b af ag o ak x D kv aM av az (w.alloc a):=h.below<|(b5 _ _).alloc (bG _) a
theorem bj.drew(h:bj aH B b af ag o ak x D kv aM av az w):bj aH B b af ag o ak x D kv aM av az w.drew:=h.below (b5 _ w).drew
theorem bj.ec(h:bj aH B b af ag o ak x D kv aM av az w)(n:Nat):bj aH B b af ag o ak x D kv aM av az (w.drewN n):=h.below ⟨rfl,rfl,rfl,bG _,fun _ _=>rfl⟩
theorem bj.put(h:bj aH B b af ag o ak x D kv aM av az w)(i:Nat)(hi:i<2311)(u:Value)(du:∀j,j≠ak->lF.c7 j=D.c7 j)(aB:∀f,j9 w b f->vi w B af ag f D->mU w f o x kv aM av az->vi w B af ag (cQ f i u) lF/\mU w (cQ f i u) o e5 gU hx fX iY)(a8:i<71\/2247<=i\/(o<=i/\i<o+34)):bj aH B b af ag o ak e5 lF gU hx fX iY (w.setCell ⟨b,i,none⟩ u):=by obtain⟨f,h1,k,a,c⟩:=h.st;obtain⟨g,n⟩:=aB f h1 k a;have b1:=(eN.refl b w).set i u;have al:=h1.set hi u;have t:=h.a8;obtain⟨arr,h1,r⟩:=h1;refine⟨h.mj,h.hw,h.a8,⟨_,al,g.b1 b1 h1 sO,n.b1 b1 h1 sO,fun j d hn=>?_⟩,?_⟩;{obtain⟨kv,aM,av,az,m⟩:=c j d hn;rw[du j hn];exact⟨kv,aM,av,az,(m.same fun q a'=>cD _ _ ae).b1 b1 h1 sO⟩};refine h.bh.trans ⟨(b5 _ _).setCell (p:=⟨b,i,none⟩) h.mj u,fun q aa hf s e t1 t2=>(b1.block q (fun l=>?_)<|lt_of_block e).trans e⟩;subst l;rw[h1]at e;injection e with e;injection e with _ e _;exact t1 e.symm
theorem bj.set(h:bj aH B b af ag o ak x D kv aM av az w)(c:j<34)(e:(vy x kv aM av az).set j u=vy e5 gU hx fX iY)(h1:cb w gU e5.aj.key)(d:cb w hx e5.cell.key)(g:b' w fX e5.cell.held)(a:cC w iY e5.af):bj aH B b af ag o ak e5 D gU hx fX iY (w.setCell ⟨b,o+j,none⟩ u):=by have m:=h.a8;have l:=h.hw;exact h.put (o+j) ae u (fun _ _=>rfl) (fun f _ k hc=>⟨k.same fun i hi=>cD _ _ ae,hc.set c e h1 d g a⟩) ae
theorem bj.Fa(h:bj aH B b af ag o ak x D kv aM av az w)(hi:i<71\/(2247<=i/\i<2311))(du:lF.c7=D.c7)(aB:∀f,vi w B af ag f D->vi w B af ag (cQ f i u) lF):bj aH B b af ag o ak x lF kv aM av az (w.setCell ⟨b,i,none⟩ u):=by have d:=h.a8;have c:=h.hw;exact h.put i ae u (fun _ _=>by rw[du]) (fun f _ a hc=>⟨aB f a,hc.same fun q a'=>cD _ _ ae⟩) ae
theorem bj.g0(h:bj aH B b af ag o ak x D kv aM av az w):aG w b o (.int .u8 (x.aj.op:Nat)):=h.cell (j:=0) ax rfl
theorem bj.g1(h:bj aH B b af ag o ak x D kv aM av az w):aG w b (o+1) x.aj.pol:=h.cell (j:=1) ax rfl
theorem bj.g2(h:bj aH B b af ag o ak x D kv aM av az w):aG w b (o+2) (kv):=h.cell (j:=2) ax rfl
theorem bj.g3(h:bj aH B b af ag o ak x D kv aM av az w):aG w b (o+3) x.aj.n:=h.cell (j:=3) ax rfl
theorem bj.g4(h:bj aH B b af ag o ak x D kv aM av az w):aG w b (o+4) x.ch:=h.cell (j:=4) ax rfl
theorem bj.g5(h:bj aH B b af ag o ak x D kv aM av az w):aG w b (o+5) (.int .u64 (x.sum:Nat)):=h.cell (j:=5) ax rfl
theorem bj.g6(h:bj aH B b af ag o ak x D kv aM av az w):aG w b (o+6) x.bk.pl:=h.cell (j:=6) ax rfl
theorem bj.g7(h:bj aH B b af ag o ak x D kv aM av az w):aG w b (o+7) x.bk.aw:=h.cell (j:=7) ax rfl
theorem bj.g8(h:bj aH B b af ag o ak x D kv aM av az w):aG w b (o+8) x.bk.shard:=h.cell (j:=8) ax rfl
theorem bj.g9(h:bj aH B b af ag o ak x D kv aM av az w):aG w b (o+9) x.bk.upper:=h.cell (j:=9) ax rfl
theorem bj.g10(h:bj aH B b af ag o ak x D kv aM av az w):aG w b (o+10) (.int .u64 (x.bk.v:Nat)):=h.cell (j:=10) ax rfl
theorem bj.g11(h:bj aH B b af ag o ak x D kv aM av az w):aG w b (o+11) x.bk.ah:=h.cell (j:=11) ax rfl
theorem bj.g12(h:bj aH B b af ag o ak x D kv aM av az w):aG w b (o+12) x.there:=h.cell (j:=12) ax rfl
theorem bj.g13(h:bj aH B b af ag o ak x D kv aM av az w):aG w b (o+13) x.cell.pol:=h.cell (j:=13) ax rfl
theorem bj.g14(h:bj aH B b af ag o ak x D kv aM av az w):aG w b (o+14) (aM):=h.cell (j:=14) ax rfl
theorem bj.g15(h:bj aH B b af ag o ak x D kv aM av az w):aG w b (o+15) x.cell.aJ:=h.cell (j:=15) ax rfl
theorem bj.g16(h:bj aH B b af ag o ak x D kv aM av az w):aG w b (o+16) (av):=h.cell (j:=16) ax rfl
theorem bj.g17(h:bj aH B b af ag o ak x D kv aM av az w):aG w b (o+17) x.gn:=h.cell (j:=17) ax rfl
theorem bj.g18(h:bj aH B b af ag o ak x D kv aM av az w):aG w b (o+18) x.a6:=h.cell (j:=18) ax rfl
theorem bj.g19(h:bj aH B b af ag o ak x D kv aM av az w):aG w b (o+19) x.n:=h.cell (j:=19) ax rfl
theorem bj.g20(h:bj aH B b af ag o ak x D kv aM av az w):aG w b (o+20) x.now:=h.cell (j:=20) ax rfl
theorem bj.g21(h:bj aH B b af ag o ak x D kv aM av az w):aG w b (o+21) x.cn.e:=h.cell (j:=21) ax rfl
theorem bj.g22(h:bj aH B b af ag o ak x D kv aM av az w):aG w b (o+22) x.cn.granted:=h.cell (j:=22) ax rfl
theorem bj.g23(h:bj aH B b af ag o ak x D kv aM av az w):aG w b (o+23) x.cn.left:=h.cell (j:=23) ax rfl
theorem bj.g24(h:bj aH B b af ag o ak x D kv aM av az w):aG w b (o+24) x.cn.wait:=h.cell (j:=24) ax rfl
theorem bj.L7(h:bj aH B b af ag o ak x D kv aM av az w):aG w b (o+25) x.cn.a6:=h.cell (j:=25) ax rfl
theorem bj.L8(h:bj aH B b af ag o ak x D kv aM av az w):aG w b (o+26) x.cn.now:=h.cell (j:=26) ax rfl
theorem bj.Gc(h:bj aH B b af ag o ak x D kv aM av az w):aG w b (o+27) x.back:=h.cell (j:=27) ax rfl
theorem bj.Gd(h:bj aH B b af ag o ak x D kv aM av az w):aG w b (o+28) x.cd:=h.cell (j:=28) ax rfl
theorem bj.Qy(h:bj aH B b af ag o ak x D kv aM av az w):aG w b (o+29) x.j:=h.cell (j:=29) ax rfl
theorem bj.IW(h:bj aH B b af ag o ak x D kv aM av az w):aG w b (o+30) x.p5:=h.cell (j:=30) ax rfl
theorem bj.vJ(h:bj aH B b af ag o ak x D kv aM av az w):aG w b (o+31) x.idle:=h.cell (j:=31) ax rfl
theorem bj.L9(h:bj aH B b af ag o ak x D kv aM av az w):aG w b (o+32) (az):=h.cell (j:=32) ax rfl
theorem bj.L'(h:bj aH B b af ag o ak x D kv aM av az w):aG w b (o+33) x.done:=h.cell (j:=33) ax rfl
theorem bj.mO(h:bj aH B b af ag o ak x D kv aM av az w)(n:Nat):bj aH B b af ag o ak {x with ch:=n} D kv aM av az (w.setCell ⟨b,o+4,none⟩ n):=h.set (j:=4) ax rfl h.rows.1 h.rows.2.1 h.rows.2.2.1 h.rows.2.2.2
theorem bj.anv(h:bj aH B b af ag o ak x D kv aM av az w)(n:Nat):bj aH B b af ag o ak {x with sum:=n} D kv aM av az (w.setCell ⟨b,o+5,none⟩<|.int .u64 (n:Nat)):=h.set (j:=5) ax rfl h.rows.1 h.rows.2.1 h.rows.2.2.1 h.rows.2.2.2
theorem bj.abe(h:bj aH B b af ag o ak x D kv aM av az w)(n:Nat):bj aH B b af ag o ak {x with bk:={x.bk with pl:=n}} D kv aM av az (w.setCell ⟨b,o+6,none⟩ n):=h.set (j:=6) ax rfl h.rows.1 h.rows.2.1 h.rows.2.2.1 h.rows.2.2.2
theorem bj.abd(h:bj aH B b af ag o ak x D kv aM av az w)(n:Nat):bj aH B b af ag o ak {x with bk:={x.bk with aw:=n}} D kv aM av az (w.setCell ⟨b,o+7,none⟩ n):=h.set (j:=7) ax rfl h.rows.1 h.rows.2.1 h.rows.2.2.1 h.rows.2.2.2
theorem bj.abf(h:bj aH B b af ag o ak x D kv aM av az w)(n:Nat):bj aH B b af ag o ak {x with bk:={x.bk with shard:=n}} D kv aM av az (w.setCell ⟨b,o+8,none⟩ n):=h.set (j:=8) ax rfl h.rows.1 h.rows.2.1 h.rows.2.2.1 h.rows.2.2.2
theorem bj.abg(h:bj aH B b af ag o ak x D kv aM av az w)(n:Bool):bj aH B b af ag o ak {x with bk:={x.bk with upper:=n}} D kv aM av az (w.setCell ⟨b,o+9,none⟩ n):=h.set (j:=9) ax rfl h.rows.1 h.rows.2.1 h.rows.2.2.1 h.rows.2.2.2
theorem bj.abh(h:bj aH B b af ag o ak x D kv aM av az w)(n:Nat):bj aH B b af ag o ak {x with bk:={x.bk with v:=n}} D kv aM av az (w.setCell ⟨b,o+10,none⟩<|.int .u64 (n:Nat)):=h.set (j:=10) ax rfl h.rows.1 h.rows.2.1 h.rows.2.2.1 h.rows.2.2.2
theorem bj.abi(h:bj aH B b af ag o ak x D kv aM av az w)(n:Nat):bj aH B b af ag o ak {x with bk:={x.bk with ah:=n}} D kv aM av az (w.setCell ⟨b,o+11,none⟩ n):=h.set (j:=11) ax rfl h.rows.1 h.rows.2.1 h.rows.2.2.1 h.rows.2.2.2
theorem bj.anr(h:bj aH B b af ag o ak x D kv aM av az w)(n:Bool):bj aH B b af ag o ak {x with gn:=n} D kv aM av az (w.setCell ⟨b,o+17,none⟩ n):=h.set (j:=17) ax rfl h.rows.1 h.rows.2.1 h.rows.2.2.1 h.rows.2.2.2
theorem bj.ans(h:bj aH B b af ag o ak x D kv aM av az w)(n:Int):bj aH B b af ag o ak {x with a6:=n} D kv aM av az (w.setCell ⟨b,o+18,none⟩ n):=h.set (j:=18) ax rfl h.rows.1 h.rows.2.1 h.rows.2.2.1 h.rows.2.2.2
theorem bj.TK(h:bj aH B b af ag o ak x D kv aM av az w)(n:Int):bj aH B b af ag o ak {x with n:=n} D kv aM av az (w.setCell ⟨b,o+19,none⟩ n):=h.set (j:=19) ax rfl h.rows.1 h.rows.2.1 h.rows.2.2.1 h.rows.2.2.2
theorem bj.TL(h:bj aH B b af ag o ak x D kv aM av az w)(n:Int):bj aH B b af ag o ak {x with now:=n} D kv aM av az (w.setCell ⟨b,o+20,none⟩ n):=h.set (j:=20) ax rfl h.rows.1 h.rows.2.1 h.rows.2.2.1 h.rows.2.2.2
theorem bj.anl(h:bj aH B b af ag o ak x D kv aM av az w)(n:Int):bj aH B b af ag o ak {x with cn:={x.cn with e:=n}} D kv aM av az (w.setCell ⟨b,o+21,none⟩ n):=h.set (j:=21) ax rfl h.rows.1 h.rows.2.1 h.rows.2.2.1 h.rows.2.2.2
theorem bj.anm(h:bj aH B b af ag o ak x D kv aM av az w)(n:Bool):bj aH B b af ag o ak {x with cn:={x.cn with granted:=n}} D kv aM av az (w.setCell ⟨b,o+22,none⟩ n):=h.set (j:=22) ax rfl h.rows.1 h.rows.2.1 h.rows.2.2.1 h.rows.2.2.2
theorem bj.ann(h:bj aH B b af ag o ak x D kv aM av az w)(n:Int):bj aH B b af ag o ak {x with cn:={x.cn with left:=n}} D kv aM av az (w.setCell ⟨b,o+23,none⟩ n):=h.set (j:=23) ax rfl h.rows.1 h.rows.2.1 h.rows.2.2.1 h.rows.2.2.2
theorem bj.anq(h:bj aH B b af ag o ak x D kv aM av az w)(n:Int):bj aH B b af ag o ak {x with cn:={x.cn with wait:=n}} D kv aM av az (w.setCell ⟨b,o+24,none⟩ n):=h.set (j:=24) ax rfl h.rows.1 h.rows.2.1 h.rows.2.2.1 h.rows.2.2.2
theorem bj.anp(h:bj aH B b af ag o ak x D kv aM av az w)(n:Int):bj aH B b af ag o ak {x with cn:={x.cn with a6:=n}} D kv aM av az (w.setCell ⟨b,o+25,none⟩ n):=h.set (j:=25) ax rfl h.rows.1 h.rows.2.1 h.rows.2.2.1 h.rows.2.2.2
theorem bj.ano(h:bj aH B b af ag o ak x D kv aM av az w)(n:Int):bj aH B b af ag o ak {x with cn:={x.cn with now:=n}} D kv aM av az (w.setCell ⟨b,o+26,none⟩ n):=h.set (j:=26) ax rfl h.rows.1 h.rows.2.1 h.rows.2.2.1 h.rows.2.2.2
theorem bj.aa6(h:bj aH B b af ag o ak x D kv aM av az w)(n:Int):bj aH B b af ag o ak {x with back:=n} D kv aM av az (w.setCell ⟨b,o+27,none⟩ n):=h.set (j:=27) ax rfl h.rows.1 h.rows.2.1 h.rows.2.2.1 h.rows.2.2.2
theorem bj.ani(h:bj aH B b af ag o ak x D kv aM av az w)(n:Int):bj aH B b af ag o ak {x with cd:=n} D kv aM av az (w.setCell ⟨b,o+28,none⟩ n):=h.set (j:=28) ax rfl h.rows.1 h.rows.2.1 h.rows.2.2.1 h.rows.2.2.2
theorem bj.aa'(h:bj aH B b af ag o ak x D kv aM av az w)(n:Nat):bj aH B b af ag o ak {x with j:=n} D kv aM av az (w.setCell ⟨b,o+29,none⟩ n):=h.set (j:=29) ax rfl h.rows.1 h.rows.2.1 h.rows.2.2.1 h.rows.2.2.2
theorem bj.aa_(h:bj aH B b af ag o ak x D kv aM av az w)(n:Nat):bj aH B b af ag o ak {x with p5:=n} D kv aM av az (w.setCell ⟨b,o+30,none⟩ n):=h.set (j:=30) ax rfl h.rows.1 h.rows.2.1 h.rows.2.2.1 h.rows.2.2.2
theorem bj.aa9(h:bj aH B b af ag o ak x D kv aM av az w)(n:Int):bj aH B b af ag o ak {x with idle:=n} D kv aM av az (w.setCell ⟨b,o+31,none⟩ n):=h.set (j:=31) ax rfl h.rows.1 h.rows.2.1 h.rows.2.2.1 h.rows.2.2.2
theorem bj.TI(h:bj aH B b af ag o ak x D kv aM av az w)(n:Nat):bj aH B b af ag o ak {x with done:=n} D kv aM av az (w.setCell ⟨b,o+33,none⟩ n):=h.set (j:=33) ax rfl h.rows.1 h.rows.2.1 h.rows.2.2.1 h.rows.2.2.2
theorem bj.ank(h:bj aH B b af ag o ak x D kv aM av az w)(k:cC w u L):bj aH B b af ag o ak {x with af:=L} D kv aM av u (w.setCell ⟨b,o+32,none⟩ u):=h.set (j:=32) ax rfl h.rows.1 h.rows.2.1 h.rows.2.2.1 k
theorem bj.TH(h:bj aH B b af ag o ak x D kv aM av az w)(n:Int):bj aH B b af ag o ak x {D with count:=n} kv aM av az (w.setCell ⟨b,66,none⟩ n):=h.Fa ax rfl fun f k=>⟨by rw[cD _ _ ax];exact k.af,by rw[cD _ _ ax];exact k.ag,fun i hi=>by rw[cD _ _ ae];exact k.aZ i hi,k.dm,fun i hi=>by rw[cD _ _ ae];exact k.a_ i hi,k.e2,ht _ _ _,by rw[cD _ _ ax];exact k.a6,by rw[cD _ _ ax];exact k.now,by rw[cD _ _ ax];exact k.bS,by rw[cD _ _ ax];exact k.log,fun i hi=>by rw[cD _ _ ae];exact k.cF i hi⟩
theorem bj.ant(h:bj aH B b af ag o ak x D kv aM av az w)(n:Int):bj aH B b af ag o ak x {D with a6:=n} kv aM av az (w.setCell ⟨b,67,none⟩ n):=h.Fa ax rfl fun f k=>⟨by rw[cD _ _ ax];exact k.af,by rw[cD _ _ ax];exact k.ag,fun i hi=>by rw[cD _ _ ae];exact k.aZ i hi,k.dm,fun i hi=>by rw[cD _ _ ae];exact k.a_ i hi,k.e2,by rw[cD _ _ ax];exact k.count,ht _ _ _,by rw[cD _ _ ax];exact k.now,by rw[cD _ _ ax];exact k.bS,by rw[cD _ _ ax];exact k.log,fun i hi=>by rw[cD _ _ ae];exact k.cF i hi⟩
theorem bj.abb(h:bj aH B b af ag o ak x D kv aM av az w)(n:Int):bj aH B b af ag o ak x {D with now:=n} kv aM av az (w.setCell ⟨b,68,none⟩ n):=h.Fa ax rfl fun f k=>⟨by rw[cD _ _ ax];exact k.af,by rw[cD _ _ ax];exact k.ag,fun i hi=>by rw[cD _ _ ae];exact k.aZ i hi,k.dm,fun i hi=>by rw[cD _ _ ae];exact k.a_ i hi,k.e2,by rw[cD _ _ ax];exact k.count,by rw[cD _ _ ax];exact k.a6,ht _ _ _,by rw[cD _ _ ax];exact k.bS,by rw[cD _ _ ax];exact k.log,fun i hi=>by rw[cD _ _ ae];exact k.cF i hi⟩
theorem bj.anu(h:bj aH B b af ag o ak x D kv aM av az w)(n:Nat):bj aH B b af ag o ak x {D with bS:=n} kv aM av az (w.setCell ⟨b,69,none⟩ n):=h.Fa ax rfl fun f k=>⟨by rw[cD _ _ ax];exact k.af,by rw[cD _ _ ax];exact k.ag,fun i hi=>by rw[cD _ _ ae];exact k.aZ i hi,k.dm,fun i hi=>by rw[cD _ _ ae];exact k.a_ i hi,k.e2,by rw[cD _ _ ax];exact k.count,by rw[cD _ _ ax];exact k.a6,by rw[cD _ _ ax];exact k.now,ht _ _ _,by rw[cD _ _ ax];exact k.log,fun i hi=>by rw[cD _ _ ae];exact k.cF i hi⟩
theorem bj.TG(h:bj aH B b af ag o ak x D kv aM av az w)(n:Nat):bj aH B b af ag o ak x {D with cF:=cQ D.cF ak n} kv aM av az (w.setCell ⟨b,2247+ak,none⟩ n):=by have a:=h.hw;refine h.Fa ae rfl fun f k=>⟨by rw[cD _ _ ae];exact k.af,by rw[cD _ _ ae];exact k.ag,fun i hi=>by rw[cD _ _ ae];exact k.aZ i hi,k.dm,fun i hi=>by rw[cD _ _ ae];exact k.a_ i hi,k.e2,by rw[cD _ _ ae];exact k.count,by rw[cD _ _ ae];exact k.a6,by rw[cD _ _ ae];exact k.now,by rw[cD _ _ ae];exact k.bS,by rw[cD _ _ ae];exact k.log,fun i hi=>?_⟩;show cQ f _ _ _=.int .i64 ((cQ D.cF ak n i:Nat):Int);by_cases e:i=ak;{subst e;rw[ht,ht]};rw[cD _ _ ae,cD _ _ e];exact k.cF i hi
theorem bj.abj(h:bj aH B b af ag o ak x D kv aM av az w)(a':q<32)(n:Nat):bj aH B b af ag o ak x {D with aZ:=D.aZ.set q n} kv aM av az (w.setCell ⟨b,2+q,none⟩<|.int .u64 (n:Nat)):=by refine h.Fa ae rfl fun f k=>⟨by rw[cD _ _ ae];exact k.af,by rw[cD _ _ ae];exact k.ag,fun i hi=>?_,by simp[k.dm],fun i hi=>by rw[cD _ _ ae];exact k.a_ i hi,k.e2,by rw[cD _ _ ae];exact k.count,by rw[cD _ _ ae];exact k.a6,by rw[cD _ _ ae];exact k.now,by rw[cD _ _ ae];exact k.bS,by rw[cD _ _ ae];exact k.log,fun i hi=>by rw[cD _ _ ae];exact k.cF i hi⟩;rw[N8<|by rw[k.dm];exact a'];by_cases e:i=q;{subst e;rw[ht,aN rfl]};rw[cD _ _ ae,aC e];exact k.aZ i hi
theorem bj.TJ(h:bj aH B b af ag o ak x D kv aM av az w)(a':q<32)(bY:cC w u L):bj aH B b af ag o ak x {D with a_:=D.a_.set q L} kv aM av az (w.setCell ⟨b,34+q,none⟩ u):=by refine h.Fa ae rfl fun f k=>⟨by rw[cD _ _ ae];exact k.af,by rw[cD _ _ ae];exact k.ag,fun i hi=>by rw[cD _ _ ae];exact k.aZ i hi,k.dm,fun i hi=>?_,by simp[k.e2],by rw[cD _ _ ae];exact k.count,by rw[cD _ _ ae];exact k.a6,by rw[cD _ _ ae];exact k.now,by rw[cD _ _ ae];exact k.bS,by rw[cD _ _ ae];exact k.log,fun i hi=>by rw[cD _ _ ae];exact k.cF i hi⟩;rw[Ye<|by rw[k.e2];exact a'];by_cases e:i=q;{subst e;rw[ht,aN rfl];exact bY};rw[cD _ _ ae,aC e];exact k.a_ i hi
end
open Go.RowKit ai
variable{t:TypeId}{w w' aH w1:World}{o B b ag ak k p:Nat}{x e5:bC}{kv aM av az gU hx fX iY a0 cz a2 a3 a4 a5:Value}{af:List aA}{D:bf}{a gJ:Array Value}{dk:Nat->Value}{W:List Nat}{eA:kH}{e:Ending}
def N_(o:kH):bC:=match o.fin with
 |none=>o.x
 |some _=>rl
def IJ(ak:Nat)(o:kH):bf:=match o.fin with
 |none=>o.D
 |some r=>{o.D with log:=o.D.log++[⟨ak,o.x.aj,o.D.cF ak,o.x.done,o.D.bS,r⟩]}
def jW(aH:World)(B b:Nat)(af:List aA)(ag o ak:Nat)(eA:kH)(e:Ending)(w':World):Prop:=
 e=.returned (.tuple #[eA.fin.isSome,.agg<|dn<|eA.fin.getD<|err 0])/\∃kv aM av az,bj aH B b af ag o ak (N_ eA) (IJ ak eA) kv aM av az w'
theorem aj7:(prog.info? 66).map (fun i=>(i.zero,i.size,i.bytes))=some (some<|.agg #[bA,.int .u8 0,bA,(),bA,bA,bA,bA,bA,false,bA,bA,bA,bA],14,128):=b!
theorem kt.cells{base:Nat}(h:kt t base w w')(c:5≠t/\2≠t/\56≠t){v:Value}{L:List Cell}(k:cC w v L):cC w' v L:=by obtain⟨xs,h1,g,d,f⟩:=k;exact⟨xs,h1,h.row g c.2.2,fun x au=>⟨h.key (d x au).1 c.1,h.held (d x au).2 c.2.1⟩,f⟩
theorem amT(xs ys:List bT):s? (xs++ys)=s? xs++s? ys:=by simp[s?]
theorem mU.only{base:Nat}{f:Nat->Value}(k:mU w f o x kv aM av az)(h:kt 66 base w w'):mU w' f o x kv aM av az:=
 ⟨k.u!,h.key k.key ax,h.key k.er ax,h.held k.held ax,h.cells ax k.af⟩
theorem bj.akH{d:World}{D:bf}(h:bj aH B b af ag o ak x D kv aM av az w){m v':Value}{ys:List bT}(G:w.ownsRow B 66 14 m ys.length (s? ys))(F:ys.map bT.r=D.log)(hk:∀y∈ys,cb w y.kv y.r.aj.key)(y:bT)(hy:cb w y.kv y.r.aj.key)(aS:w.grownBy d m.ownBlock)(aE:d.ownsRow B 66 14 v' (ys.length+1) (s? ys++y.enc)):bj aH B b af ag o ak x {D with log:=D.log++[y.r]} kv aM av az (d.setCell ⟨b,70,none⟩ v'):=by obtain⟨f,⟨arr,h1,v⟩,c,n,s⟩:=h.st;(have br:B<=w:=by have:=h.lt;have:=h.mj;omega);have on:=kt.grown G aS br;have g:=on.hU h1 ax;have b1:eN b d (d.setCell ⟨b,70,none⟩ v'):=(eN.refl _ _).set _ _;have H:=h.a8;(have A:vi d B af ag (cQ f 70 v') {D with log:=D.log++[y.r]}:=by refine⟨by rw[cD _ _ ax];exact on.row c.af ax,by rw[cD _ _ ax];exact c.ag,fun i hi=>by rw[cD _ _ ae];exact c.aZ i hi,c.dm,fun i hi=>by rw[cD _ _ ae];exact on.cells ax<|c.a_ i hi,c.e2,by rw[cD _ _ ax];exact c.count,by rw[cD _ _ ax];exact c.a6,by rw[cD _ _ ax];exact c.now,by rw[cD _ _ ax];exact c.bS,?_,fun i hi=>by rw[cD _ _ ae];exact c.cF i hi⟩;refine⟨ys++[y],?_,by rw[List.map_append,F];rfl,fun z bd=>?_⟩;{rw[amT,gO];(have e:s? [y]=y.enc:=by simp[s?]);exact aE};rcases List.mem_append.1 bd with bd|bd;{exact on.key (hk z bd) ax};rw[List.mem_singleton]at bd;subst bd;exact on.key hy ax);refine⟨h.mj,h.hw,h.a8,⟨_,j9.set ⟨arr,g,v⟩ ax v',A.b1 b1 g sO,((n.only on).same fun q a'=>cD _ _ ae).b1 b1 g sO,fun j u hn=>?_⟩,?_⟩;{obtain⟨kv,aM,av,az,E⟩:=s j u hn;exact⟨kv,aM,av,az,((E.only on).same fun q a'=>cD _ _ ae).b1 b1 g sO⟩};refine h.bh.trans ⟨on.bn.trans<|(b5 _ _).setCell (p:=⟨b,70,none⟩) h.mj v',fun q aa hf l e t1 t2=>(b1.block q (fun C=>?_)<|lt_of_block<|on.kW q aa hf l e t2).trans<|on.kW q aa hf l e t2⟩;subst C;rw[h1]at e;injection e with e;injection e with _ e _;exact t1 e.symm
theorem j9.zM:∀(vs:List Value) {w:World} {f:Nat->Value} {i:Nat},j9 w b f->i+vs.length<=2311->∃g,j9 (w.setCells b i vs) b g/\(∀k,k<vs.length->g (i+k)=vs.getD k default)/\∀k,¬(i<=k/\k<i+vs.length)->g k=f k
 |[],w,f,i,h,_=>⟨f,h,fun k hk=>absurd hk<|Nat.not_lt_zero _,fun _ _=>rfl⟩
 |v::vs,w,f,i,h,d=>by rw[List.length_cons]at d;obtain⟨g,h1,j,c⟩:=j9.zM vs (h.set (i:=i) ae v) (show i+1+vs.length<=2311 by omega);refine⟨g,h1,fun k hk=>?_,fun k hk=>?_⟩;{cases k with|zero=>rw[Nat.add_zero,c i ae,ht];rfl|succ k=>rw[List.length_cons]at hk;have:=j k ae;rw[show i+(k+1)=i+1+k by omega,this];rfl};rw[List.length_cons]at hk;rw[c k ae,cD _ _ ae]
theorem eN.zM:∀(vs:List Value) {w w':World} {i:Nat},eN b w w'->eN b w (w'.setCells b i vs)
 |[],_,_,_,h=>h
 |v::vs,_,_,i,h=>eN.zM vs<|h.set i v
theorem bj.zM(h:bj aH B b af ag o ak x D kv aM av az w){j:Nat}{vs:List Value}(y:j+vs.length<=34)(e:(vy x kv aM av az).take j++(vs++(vy x kv aM av az).drop (j+vs.length))=vy e5 gU hx fX iY)(h1:cb w gU e5.aj.key)(n:cb w hx e5.cell.key)(r:b' w fX e5.cell.held)(m:cC w iY e5.af):bj aH B b af ag o ak e5 D gU hx fX iY (w.setCells b (o+j) vs):=by obtain⟨f,al,s,hc,d⟩:=h.st;have C:=h.a8;have A:=h.hw;obtain⟨g,aS,g1,g2⟩:=j9.zM vs al (i:=o+j) ae;have b1:eN b w (w.setCells b (o+j) vs):=eN.zM vs<|eN.refl b w;obtain⟨arr,bZ,a7⟩:=al;have c:(vy x kv aM av az).length=34:=rfl;(have l:mU w g o e5 gU hx fX iY:=by refine⟨fun i hi=>?_,h1,n,r,m⟩;rw[<-e,eh];by_cases aO:i<j;{rw[g2 _ ae,hc.u! i hi,tY<|by rw[fG,c];omega,List.getElem?_take,aN aO,eh]};rw[List.getElem?_append_right<|by rw[fG,c];omega,fG,c,Nat.min_eq_left ae];by_cases aU:i-j<vs.length;{rw[tY aU,show o+i=o+j+(i-j)by omega,g1 _ aU,eh]};rw[List.getElem?_append_right ae,List.getElem?_drop,g2 _ ae,hc.u! i hi,eh,show j+vs.length+(i-j-vs.length)=i by omega]);refine⟨h.mj,h.hw,h.a8,⟨g,aS,(s.same fun i hi=>g2 _ ae).b1 b1 bZ sO,l.b1 b1 bZ sO,fun q a' hn=>?_⟩,?_⟩;{obtain⟨kv,aM,av,az,v⟩:=d q a' hn;exact⟨kv,aM,av,az,(v.same fun i hi=>g2 _ ae).b1 b1 bZ sO⟩};refine h.bh.trans ⟨⟨b1.os,b1.tape,b1.output,b1.size,fun i hi=>b1.block i (by have:=h.mj;omega) (by have:=bZ.lt;have:=h.mj;omega)⟩,fun q aa hf z e t1 t2=>(b1.block q (fun u=>?_)<|lt_of_block e).trans e⟩;subst u;rw[bZ]at e;injection e with e;injection e with _ e _;exact t1 e.symm
theorem bj.there(h:bj aH B b af ag o ak x D kv aM av az w)(j n:Nat)(c:j+n<=34):w.there b (o+j) n:=fun i hi=>by rw[show o+j+i=o+(j+i)by omega,h.cell ae rfl];exact⟨rfl,h.free _⟩
theorem aq.Ku(hk:k≠b):∀(vs:List Value) {w:World} {i:Nat},aq w k t a->aq (w.setCells b i vs) k t a
 |[],_,_,h=>h
 |v::vs,_,i,h=>aq.Ku hk vs<|h.dj ⟨b,i,none⟩ v hk
theorem aa8(b:Nat):∀(vs:List Value) (w:World) (i:Nat),(w.setCells b i vs).heap.size=w.heap.size
 |[],_,_=>rfl
 |v::vs,w,i=>(aa8 b vs _ _).trans (by simp[World.setCell])
theorem S5(aH:World)(dk:Nat->Value)(b p:Nat)(W:List Nat)(x:fA)(w:World)(h:d_ aH dk b p W x w)(i:x.aw<=3)(aB:x.shard<2^x.aw):
 aR 218 #[.pointer<|some ⟨b,p,none⟩] w fun e w'=>e=.returned (.tuple #[])/\d_ aH dk b p W (qx x) w':=by obtain⟨j,c,xs,m,d,dK⟩:=x;obtain⟨bJ,c1,cw,dg,_,gu⟩:=h.cs;obtain⟨f0,f1,f2,f3,_,f5⟩:=h.fs;dsimp only at i aB bJ c1 cw dg gu;have H:=ad h;have N:=Ny xs;have g:2^c<=2^3:=lh i;have g:2^c<=8:=g;have l:xs<=16:=ae;cases m with|false=>have K:=ad<|PQ _ _ b p 0 W ⟨j,c,xs,false,d,dK⟩ true true w h i (fun _=>l) (fun h=>by cases h);clear h aB g l;go_enter func218,ntmps218;go_wp2_with(go_at_call 173;refine K.out.mono ?_;rintro e w1 ⟨rfl,aE⟩;have ej:=ad aE;clear aE);exact mD ⟨rfl,ej.out⟩|true=>clear h;obtain⟨two,f⟩:∃two:Nat,two=2^c:=⟨_,rfl⟩;(have hw:wrap64 (2^c:Int)=(two:Int):=by rw[f];exact T7 ae);have q:(c:Int)<64:=ae;by_cases a':xs+1=two;{(have au:qx ⟨j,c,xs,true,d,dK⟩=⟨8,c,xs+1,true,d,dK⟩:=by unfold qx;rw[aC bI,aN<|by rw[<-f];exact a']);rw[au];subst a';push_cast at hw;clear au aB f;go_enter func218,ntmps218;go_wp2_with fail;go_quiet (fail);go_wp2_with fail;all_goals exact mD ⟨rfl,((H.out.NU _).ec _).oW 8⟩};(have au:qx ⟨j,c,xs,true,d,dK⟩=⟨2,c,xs+1,true,d,iP c<|xs+1⟩:=by unfold qx;rw[aC bI,aC<|by rw[<-f];exact a']);rw[au];have n:¬((xs:Int)+1=(two:Int)):=ae;clear au a' aB f;go_enter func218,ntmps218;go_wp2_with fail;go_quiet (fail);go_wp2_with fail;refine sv ((H.out.NU<|xs+1).ec _) ?_;intro u hu;obtain⟨d0,d1,d2,_,_,d5⟩:=hu.cs;obtain⟨g0,_,_,_,_,g5⟩:=hu.fs;push_cast at d2;have ct:=ad hu;clear hu bJ c1 cw dg gu f0 f1 f2 f3 f5;go_region_with (first|(go_at_call 62;(with_reducible refine(y9 _ _ c (xs+1) rfl N.out.f? _ ae ae).mono ?_);rintro e w1 ⟨rfl,rfl⟩)|fail);all_goals exact bodyPost_end (v:=.tuple #[]) (by simp[results,results218,go_sem]) rfl ⟨rfl,(ct.out.drew.tT _).oW 2⟩
def mH(e:Fo):Array Value:=#[e.cut,e.from_,e.Fi,e.aw,e.shard,e.found,e.finished,e.refused]
theorem aeT(aH:World)(dk:Nat->Value)(b p sum:Nat)(W:List Nat)(x:fA)(split:Bool)(w:World)(h:d_ aH dk b p W x w)(aI:wd W 0<=8)(d:split=false->sum<18446744073709551616):
 aR 172 #[.pointer<|some ⟨b,2,none⟩,.pointer<|some ⟨b,p,none⟩,.int .u64 sum,split] w fun e w'=>e=.returned (.agg<|mH (tw W x sum split).2)/\d_ aH dk b p W (tw W x sum split).1 w':=by obtain⟨m,l,xs,q,n,dK⟩:=x;have j:=h.ah (i:=0) ax;rw[Nat.add_zero]at j;unfold tw;dsimp only;generalize wd W 0=v0 at*;have cc:=h.lt;have H:=ad h;obtain⟨bJ,c1,cw,dg,eV,gu⟩:=h.cs;obtain⟨f0,f1,f2,f3,f4,f5⟩:=h.fs;obtain⟨az,g⟩:∃az,v0/2=az:=⟨_,rfl⟩;rw[g];have aO:(v0:Int)/2=(az:Int):=ae;have N:=Ny az;have r:az<=4:=ae;clear h g;cases split with|true=>by_cases hm:v0%2=1;{rw[aN rfl,aN hm];have aU:(v0:Int)%2=1:=ae;clear hm;go_enter func172,ntmps172;go_wp2_with(go_at_call 62;(with_reducible refine(y9 _ _ az 0 rfl N.out.cI _ ae ax).mono ?_);rintro e w1 ⟨rfl,rfl⟩);exact cJ (v:=.agg (mH fl)) (by simp[results,results172,go_sem,mH,fl]) rfl ⟨rfl,(((((H.out.u? v0).Kt az).NU 0).tT _).oW 2).alloc _⟩};rw[aN rfl,aC hm];have aU:(v0:Int)%2=0:=ae;by_cases c:az=4;{rw[aN c];subst c;clear hm;go_enter func172,ntmps172;go_wp2_with fail;exact cJ (v:=.agg (mH {fl with finished:=true,refused:=true})) (by simp[results,results172,go_sem,mH,fl]) rfl ⟨rfl,(((H.out.u? v0).Kt 4).oW 11).alloc _⟩};rw[aC c];have f:¬((az:Int)=4):=ae;clear hm c;go_enter func172,ntmps172;go_wp2_with fail;exact cJ (v:=.agg (mH fl)) (by simp[results,results172,go_sem,mH,fl]) rfl ⟨rfl,(((H.out.u? v0).Kt az).oW 7).alloc _⟩|false=>have d:=d rfl;(have kK:Hid (kV sum az<=1048576):=by show kV sum az<=_;unfold kV;have:=Nat.mod_lt sum<|two_pos az;have f:2^az<=2^5:=lh ae;have f:2^az<=32:=f;omega);by_cases hm:v0%2=1;{rw[aC bI,aN hm];have aU:(v0:Int)%2=1:=ae;clear hm;go_enter func172,ntmps172;go_wp2_with(first|go_region_with (first|(go_at_call 62;(with_reducible refine(y9 _ _ az (kV sum az) rfl rfl _ ae kK.out).mono ?_);rintro e w1 ⟨rfl,rfl⟩)|(go_at_call 63;(with_reducible refine(J' _ sum az rfl _ ae d).mono ?_);rintro e w1 ⟨rfl,rfl⟩)|fail)|fail);all_goals exact cJ (v:=.agg (mH fl)) (by simp[results,results172,go_sem,mH,fl]) rfl ⟨rfl,((((H.out.u? v0).Kt az).drew.tT _).oW 2).alloc _⟩};rw[aC bI,aC hm];have aU:(v0:Int)%2=0:=ae;clear hm;go_enter func172,ntmps172;go_wp2_with(first|go_region_with (first|(go_at_call 62;(with_reducible refine(y9 _ _ az (kV sum az) rfl rfl _ ae kK.out).mono ?_);rintro e w1 ⟨rfl,rfl⟩)|(go_at_call 63;(with_reducible refine(J' _ sum az rfl _ ae d).mono ?_);rintro e w1 ⟨rfl,rfl⟩)|fail)|fail);all_goals exact cJ (v:=.agg (mH fl)) (by simp[results,results172,go_sem,mH,fl]) rfl ⟨rfl,((((H.out.u? v0).Kt az).drew.tT _).oW 1).alloc _⟩
theorem d_.self{x:fA}(h:d_ aH dk b p W x w):d_ w dk b p W x w:=⟨h.ex,eN.refl _ _,h.eY,h.eU⟩
theorem d_.on{c:List Nat}{x e5:fA}(h:d_ aH dk b p W x w)(k:d_ w dk b p c e5 w1):d_ aH dk b p c e5 w1:=⟨k.ex,h.b1.trans k.b1,k.eY,k.eU⟩
theorem aq.qQ(h:aq w b t a):aq w.drew b t a:=h
def lv:Array Value:=#[false,bA,bA,bA,bA,false,false,false]
theorem d_.agS{x:fA}(h:d_ w dk b p W x w1)(au:aq w k 234 lv)(hk:k≠b):aq w1 k 234 lv:=h.b1.hU au hk
theorem pT(h:aq w k 234 lv):aG w k 0 false/\aG w k 1 bA/\aG w k 2 bA/\aG w k 3 bA/\aG w k 4 bA/\aG w k 5 false/\aG w k 6 false/\aG w k 7 false:=
 ⟨h.cell 0,h.cell 1,h.cell 2,h.cell 3,h.cell 4,h.cell 5,h.cell 6,h.cell 7⟩
theorem rp(h:aq w k 234 lv):w.frozen? ⟨k,0,none⟩=false/\w.frozen? ⟨k,1,none⟩=false/\w.frozen? ⟨k,2,none⟩=false/\w.frozen? ⟨k,3,none⟩=false/\w.frozen? ⟨k,4,none⟩=false/\w.frozen? ⟨k,5,none⟩=false/\w.frozen? ⟨k,6,none⟩=false/\w.frozen? ⟨k,7,none⟩=false:=
 ⟨h.free 0,h.free 1,h.free 2,h.free 3,h.free 4,h.free 5,h.free 6,h.free 7⟩
theorem d_.kW{x:fA}(h:d_ aH dk b p W x w)(hk:k≠b)(m:aH<=k)(i:Nat)(u:Value):d_ aH dk b p W x (w.setCell ⟨k,i,none⟩ u):=by obtain⟨f,⟨arr,h1,g⟩,l⟩:=h.ex;refine⟨⟨f,⟨arr,(Below.heap_setCell w ⟨k,i,none⟩ u b fun e=>hk e.symm).trans h1,g⟩,l⟩,⟨h.b1.os,h.b1.tape,h.b1.output,by simpa[World.setCell]using h.b1.size,fun j d c=>?_⟩,h.eY,h.eU⟩;exact(Below.heap_setCell w ⟨k,i,none⟩ u j<|by show j≠k;omega).trans (h.b1.block j d c)
theorem d_.tP{x:fA}(h:d_ aH dk b p W x w)(hk:k≠b)(c:aH<=k)(a0 cz a2 a3 a4 a5 d f:Value):d_ aH dk b p W x ((((((((w.setCell k a0).setCell ⟨k,1,none⟩ cz).setCell ⟨k,2,none⟩ a2).setCell ⟨k,3,none⟩ a3).setCell ⟨k,4,none⟩ a4).setCell ⟨k,5,none⟩ a5).setCell ⟨k,6,none⟩ d).setCell ⟨k,7,none⟩ f):=
 (((((((h.kW hk c 0 a0).kW hk c 1 cz).kW hk c 2 a2).kW hk c 3 a3).kW hk c 4 a4).kW hk c 5 a5).kW hk c 6 d).kW hk c 7 f
theorem aeU(aH:World)(dk:Nat->Value)(b p:Nat)(W:List Nat)(x:fA)(split:Bool)(w:World)(h:d_ aH dk b p W x w)(hw:x.ah<32)(c:split=true->x.aw<=3/\x.shard<2^x.aw)(av:wd W x.ah<9223372036854775808):
 aR 174 #[.pointer<|some ⟨b,2,none⟩,.pointer<|some ⟨b,p,none⟩,split] w fun e w'=>e=.returned (.agg<|mH (tx W x split).2)/\d_ aH dk b p W (tx W x split).1 w':=by obtain⟨m,i,xs,q,F,dK⟩:=x;dsimp only at hw c av;have A:=h.ah hw;unfold tx;dsimp only;generalize wd W dK=v0 at*;have cc:=h.lt;have H:=ad h;obtain⟨bJ,c1,cw,dg,eV,gu⟩:=h.cs;obtain⟨f0,f1,f2,f3,f4,f5⟩:=h.fs;dsimp only at bJ c1 cw dg eV gu;have c8:(dK:Int)<32:=ae;clear h;have hF:c4=4611686018427387904:=rfl;by_cases bd:v0=0;{rw[aN bd];subst bd;go_enter func174,ntmps174;go_wp2_with(first|go_region_with fail|fail);all_goals exact cJ (by simp[results,results174,go_sem,mH,fl]) rfl ⟨rfl,(((H.out.u? 0).oW 5).alloc _).drew⟩};rw[aC bd];have dx:¬((v0:Int)=0):=ae;cases split with|true=>rw[aN rfl];obtain⟨l,n⟩:=c rfl;have cR:=ad<|((H.out.u? v0).alloc<|.cells lv 234).drew;(have dp:Hid (aq ((w.setCell ⟨b,p+4,none⟩<|.int .u64 v0).alloc<|.cells lv 234).drew w 234 lv):=by show aq _ _ _ _;have:=aq.new (w.setCell ⟨b,p+4,none⟩<|.int .u64 v0) 234 lv;(have e:(w.setCell ⟨b,p+4,none⟩<|.int .u64 v0).heap.size=w.heap.size:=by simp[World.setCell]);rw[e]at this;exact this);have K:=ad<|S5 _ _ b p W ⟨m,i,xs,q,v0,dK⟩ _ cR.out.self l n;clear bd;go_enter func174,ntmps174;go_wp2_with(first|go_region_with fail|(go_at_call 218;refine K.out.mono ?_;rintro e w1 ⟨rfl,aE⟩;have ej:=ad<|cR.out.on aE;have au:=aE.agS dp.out ae;obtain⟨bL,f,j,g,s,u,v,r⟩:=pT au;obtain⟨eb,E,C,G,J,I,L,z⟩:=rp au;have JA:=au.lt;have Hx:=ad au;clear aE au)|fail);all_goals exact cJ (by simp[results,results174,go_sem,mH,fl,bL,f,j,g,s,u,v,r]) rfl ⟨rfl,ej.out.tP ae H.out.b1.size _ _ _ _ _ _ _ _⟩|false=>rw[aC bI];by_cases d:c4<=v0;{rw[aN d];have y:(4611686018427387904:Int)<=v0:=ae;clear bd d c;go_enter func174,ntmps174;go_wp2_with(first|go_region_with fail|fail);all_goals exact cJ (by simp[results,results174,go_sem,mH,fl]) rfl ⟨rfl,(((H.out.u? v0).oW 0).alloc _).drew⟩};rw[aC d];have y:¬((4611686018427387904:Int)<=v0):=ae;clear bd d c;go_enter func174,ntmps174;go_wp2_with(first|go_region_with fail|fail);all_goals exact cJ (by simp[results,results174,go_sem,mH,fl]) rfl ⟨rfl,(((H.out.u? v0).oW 9).drew).alloc _⟩
theorem J5(w:World):cb w () []:=⟨fun x h=>(by cases h),Row.nil _ _ _ none 0 ax⟩
theorem uE(w:World):b' w () []:=Row.nil _ _ _ none 0 ax
theorem aq.pA{c d g i f j:Value}(h:aq w k t #[c,d,g,i,f,j])(a0 cz a2 a3 a4 a5:Value):aq ((((((w.setCell k a0).setCell ⟨k,1,none⟩ cz).setCell ⟨k,2,none⟩ a2).setCell ⟨k,3,none⟩ a3).setCell ⟨k,4,none⟩ a4).setCell ⟨k,5,none⟩ a5) k t #[a0,cz,a2,a3,a4,a5]:=by have:=(((((h.setCell 0 a0).setCell 1 cz).setCell 2 a2).setCell 3 a3).setCell 4 a4).setCell 5 a5;simpa using this
theorem fh(h:aq w k t #[a0,cz,a2,a3,a4,a5]):(w.cell? ⟨k,0,none⟩=some a0/\w.cell? ⟨k,1,none⟩=some cz/\w.cell? ⟨k,2,none⟩=some a2/\w.cell? ⟨k,3,none⟩=some a3/\w.cell? ⟨k,4,none⟩=some a4/\w.cell? ⟨k,5,none⟩=some a5)/\w.frozen? ⟨k,0,none⟩=false/\w.frozen? ⟨k,1,none⟩=false/\w.frozen? ⟨k,2,none⟩=false/\w.frozen? ⟨k,3,none⟩=false/\w.frozen? ⟨k,4,none⟩=false/\w.frozen? ⟨k,5,none⟩=false:=
 ⟨⟨h.cell 0,h.cell 1,h.cell 2,h.cell 3,h.cell 4,h.cell 5⟩,h.free 0,h.free 1,h.free 2,h.free 3,h.free 4,h.free 5⟩
theorem lb{fn:Func}{R:Ending->World->Prop}{a:Act}{s t:Nat}{d:Bool}(f:fn.results=#[.tmp s,.cell t 58])(aB:a.tmps.getD s undef=.bool d)(c:a.tmps.getD t undef=.pointer (some k))(au:aq w k 58 #[a0,cz,a2,a3,a4,a5])(aI:a.defers=[])(iK:R (.returned<|.tuple #[d,.agg #[a0,cz,a2,a3,a4,a5]]) w):bodyPost prog fn R .ret a w:=by have bJ:=(fh au).1;refine cJ ?_ aI iK;simp only[Array.getD_eq_getD_getElem?]at aB c;simp[results,f,go_sem,aB,c,bJ]
theorem bj.Kn(h:bj aH B b af ag o ak x D kv aM av az w)(au:aq w k 58 gJ)(c:aH<=k)(br:B<=k)(a0 cz a2 a3 a4 a5:Value):bj aH B b af ag o ak x D kv aM av az ((((((w.setCell k a0).setCell ⟨k,1,none⟩ cz).setCell ⟨k,2,none⟩ a2).setCell ⟨k,3,none⟩ a3).setCell ⟨k,4,none⟩ a4).setCell ⟨k,5,none⟩ a5):=
 h.b1 au (by unfold pF;decide) ax c br ((((((eN.refl k w).set 0 a0).set 1 cz).set 2 a2).set 3 a3|>.set 4 a4).set 5 a5)
def tf:Array Value:=#[.int .u8 0,.int .i64 0,.slice none 0 0,.int .i64 0,.int .i64 0,.int .u64 0,.int .i64 0,.int .i64 0,.int .i64 0,.bool false,.int .u64 0,.int .i64 0,.bool false,.int .i64 0,.slice none 0 0,.int .i64 0,.slice none 0 0,.bool false,.int .i64 0,.int .i64 0,.int .i64 0,.int .i64 0,.bool false,.int .i64 0,.int .i64 0,.int .i64 0,.int .i64 0,.int .i64 0,.int .i64 0,.int .i64 0,.int .i64 0,.int .i64 0,.slice none 0 0,.int .i64 0]
theorem bj.zero(h:bj aH B b af ag o ak x D kv aM av az w):bj aH B b af ag o ak rl D () () () () (w.setCells b o tf.toList):=
 h.zM (j:=0) (vs:=tf.toList) ax rfl (J5 _) (J5 _) (uE _) (cC.nil _)
theorem zf(aH:World)(B b:Nat)(af:List aA)(ag o ak:Nat)(x:bC)(D:bf)(kv aM av az:Value)(r:c2)(w:World)(h:bj aH B b af ag o ak x D kv aM av az w)(hn:D.log.length<=1048576):
 aR 128 #[.pointer<|some b,ak,.agg<|dn r] w (jW aH B b af ag o ak<|pS r x D):=by have cc:=h.lt;have hw:=h.hw;have vW:(ak:Int)<64:=ae;(have EI:71+ak*34=o:=by have:=h.a8;omega);have H:=ad h;clear h;obtain⟨i0,hi,dH,c0,dx⟩:=CX aj7;go_enter func128,ntmps128;go_wp2;refine Bn ((H.out.alloc _).alloc _) (lr w [_,_] rfl) (b3 w [_,_] 1 rfl) ?_;intro u hu au d;obtain⟨h1,k4,m_,l6,Z,U⟩:=hu.oH;obtain⟨q,P,ys,V,I,R⟩:=hu.log;have bJ:=hu.g0;have c1:=hu.g1;have cw:=hu.g2;have dg:=hu.g3;have O:=hu.L';have ia:=hu.lt;(have arV:ys.length<=1048576:=by have:=congrArg List.length I;rw[hE]at this;omega);obtain⟨b9,da,ef,ew,fa,fb⟩:=uv au;(have ap_:B<=u:=by have:=hu.mj;omega);have Q:=hu.rows.1.2;have ct:=ad hu;have Hx:=ad au;have M:=ad d;have A:=ad V;have hI:=ad I;have E:=ad R;have bO:=cm P<|cm bJ<|cm c1<|cm cw<|cm dg<|cm U<|cm O<|cm Z<|cm b9<|cm da<|cm ef<|cm ew<|cm fa<|jP fb;(have qK:Hid (∀W c,Below u u W->W.grownBy c q.ownBlock->(c.cell? ⟨b,70,none⟩=some q/\c.cell? ⟨b,o,none⟩=some (.int .u8 (x.aj.op:Nat))/\c.cell? ⟨b,o+1,none⟩=some (.int .i64 x.aj.pol)/\c.cell? ⟨b,o+2,none⟩=some kv/\c.cell? ⟨b,o+3,none⟩=some (.int .i64 x.aj.n)/\c.cell? ⟨b,2247+ak,none⟩=some (.int .i64 (D.cF ak:Nat))/\c.cell? ⟨b,o+33,none⟩=some (.int .i64 (x.done:Nat))/\c.cell? ⟨b,69,none⟩=some (.int .i64 (D.bS:Nat))/\c.cell? ⟨w,0,none⟩=some (.int .i64 r.e)/\c.cell? ⟨w,1,none⟩=some (.bool r.granted)/\c.cell? ⟨w,2,none⟩=some (.int .i64 r.left)/\c.cell? ⟨w,3,none⟩=some (.int .i64 r.wait)/\c.cell? ⟨w,4,none⟩=some (.int .i64 r.a6)/\c.cell? ⟨w,5,none⟩=some (.int .i64 r.now))/\c.frozen? ⟨b,70,none⟩=false):=fun W c al aS=>by have on:kt 66 B W c:=kt.grown (oe A.out al) aS (by have:=al.size;omega);have s:=ct.out.below al;obtain⟨f,⟨arr,g1,g2,g3⟩,_⟩:=s.st;have dv:=on.hU g1 ax;have m:=on.hU (Hx.out.below al Hx.out.lt) ax;(have l:∀i v,W.cell? ⟨b,i,none⟩=some v->c.cell? ⟨b,i,none⟩=some v:=fun i v e=>by rw[dv.cell,<-g1.cell,e]);have eF:=bO.out W al;obtain⟨dN,s1,s2,dr,ea,fi,u',wb,_⟩:=eF;exact⟨⟨l _ _ dN,l _ _ s1,l _ _ s2,l _ _ dr,l _ _ ea,l _ _ fi,l _ _ u',l _ _ wb,m.cell 0,m.cell 1,m.cell 2,m.cell 3,m.cell 4,m.cell 5⟩,dv.free 70⟩);(have me:Hid (∀(W c:World) (v':Value),Below u u W->W.grownBy c q.ownBlock->c.ownsRow B 66 14 v' (ys.length+1) (s? ys++[.int .i64 (ak:Nat),.int .u8 (x.aj.op:Nat),.int .i64 x.aj.pol,kv,.int .i64 x.aj.n,.int .i64 (D.cF ak:Nat),.int .i64 (x.done:Nat),.int .i64 (D.bS:Nat),.int .i64 r.e,.bool r.granted,.int .i64 r.left,.int .i64 r.wait,.int .i64 r.a6,.int .i64 r.now])->bj aH B b af ag o ak x {D with log:=D.log++[⟨ak,x.aj,D.cF ak,x.done,D.bS,r⟩]} kv aM av az (c.setCell ⟨b,70,none⟩ v')/\aq (c.setCell ⟨b,70,none⟩ v') w.heap.size 58 (dn r)/\aq (c.setCell ⟨b,70,none⟩ v') (w.heap.size+1) 58 (dn<|err 0)):=fun W c v' al aS aE=>by have on:=kt.grown (oe A.out al) aS (by have:=al.size;omega);have s:=ct.out.below al;have bU:w≠b:=ae;have J:w+1≠b:=ae;exact⟨s.akH (oe A.out al) hI.out (fun y hy=>(E.out y hy).keep<|bm al) ⟨⟨ak,x.aj,D.cF ak,x.done,D.bS,r⟩,kv⟩ s.rows.1 aS aE,(on.hU (Hx.out.below al Hx.out.lt) ax).dj _ _ bU,(on.hU (M.out.below al M.out.lt) ax).dj _ _ J⟩);have wA:Hid (∀W,Below u u W->W.ownsRow B 66 14 q ys.length (s? ys)/\B<=W):=fun W al=>⟨oe A.out al,by have:=al.size;omega⟩;clear hu au d V I R;have Pp:=ad<|Hx.out.lt;(have Lb:Hid (∀v∈[.int .i64 (ak:Nat),.int .u8 (x.aj.op:Nat),.int .i64 x.aj.pol,kv,.int .i64 x.aj.n,.int .i64 (D.cF ak:Nat),.int .i64 (x.done:Nat),.int .i64 (D.bS:Nat),.int .i64 r.e,.bool r.granted,.int .i64 r.left,.int .i64 r.wait,.int .i64 r.a6,.int .i64 r.now],v.oneCell'=true):=by obtain⟨_,_,_,e,_⟩:=Q;subst e;intro z bd;simp at bd;rcases bd with rfl|rfl|rfl|rfl|rfl|rfl|rfl|rfl|rfl|rfl|rfl|rfl|rfl|rfl<;>rfl);clear Q;refine wp_region_split 28 (S:=fun W=>W.cell? ⟨b,70,none⟩=some q/\W.cell? ⟨b,o,none⟩=some (.int .u8 (x.aj.op:Nat))/\W.cell? ⟨b,o+1,none⟩=some (.int .i64 x.aj.pol)/\W.cell? ⟨b,o+2,none⟩=some kv/\W.cell? ⟨b,o+3,none⟩=some (.int .i64 x.aj.n)/\W.cell? ⟨b,2247+ak,none⟩=some (.int .i64 (D.cF ak:Nat))/\W.cell? ⟨b,o+33,none⟩=some (.int .i64 (x.done:Nat))/\W.cell? ⟨b,69,none⟩=some (.int .i64 (D.bS:Nat))/\W.cell? ⟨w,0,none⟩=some (.int .i64 r.e)/\W.cell? ⟨w,1,none⟩=some (.bool r.granted)/\W.cell? ⟨w,2,none⟩=some (.int .i64 r.left)/\W.cell? ⟨w,3,none⟩=some (.int .i64 r.wait)/\W.cell? ⟨w,4,none⟩=some (.int .i64 r.a6)/\W.cell? ⟨w,5,none⟩=some (.int .i64 r.now)) b! b! ?_ fun Y=>?_;{exact bO.out _ bn};simp only[List.take_succ_cons,List.take_zero,List.drop_succ_cons,List.drop_zero,List.length_cons,List.length_nil,iQ,Nat.reduceAdd];refine dS 0 ?_;refine dS 1 ?_;refine dS 2 ?_;refine dS 3 ?_;refine dS 4 ?_;refine dS 5 ?_;refine dS 6 ?_;refine dS 7 ?_;refine dS 8 ?_;refine dS 9 ?_;refine dS 10 ?_;refine dS 11 ?_;refine dS 12 ?_;refine dS 13 ?_;refine dS 14 ?_;refine dS 15 ?_;refine dS 16 ?_;refine dS 17 ?_;refine dS 18 ?_;refine dS 19 ?_;refine dS 20 ?_;refine dS 21 ?_;refine dS 22 ?_;refine dS 23 ?_;refine dS 24 ?_;refine dS 25 ?_;refine AO (i:=26) rfl b! fun K j=>?_;go_simp;refine j.out _ _ ?_ fun Y=>?_;{(try dsimp only);exact bO.out _ bn};clear j K;(try simp only[Act.put,lW,lX,lE]);refine AO (i:=27) rfl b! fun K j=>?_;refine step_append_lies _ (by rfl) _ _ _ (by rfl) B 66 i0 (.agg #[bA,.int .u8 0,bA,(),bA,bA,bA,bA,bA,false,bA,bA,bA,bA]) 14 128 underlying51 hi dH c0 dx rfl ax q ys.length (s? ys) (by rfl) (wA.out ((u.alloc<|.cells #[ak,.int .u8 (x.aj.op:Nat),x.aj.pol,kv,x.aj.n,(D.cF ak:Nat),x.done,D.bS,r.e,r.granted,r.left,r.wait,r.a6,r.now] 66).drew) bn).1 u 1 1 [ak,.int .u8 (x.aj.op:Nat),x.aj.pol,kv,x.aj.n,(D.cF ak:Nat),x.done,D.bS,r.e,r.granted,r.left,r.wait,r.a6,r.now] (by rfl) rfl (World.news_of_block (w:=((u.alloc<|.cells #[ak,.int .u8 (x.aj.op:Nat),x.aj.pol,kv,x.aj.n,(D.cF ak:Nat),x.done,D.bS,r.e,r.granted,r.left,r.wait,r.a6,r.now] 66).drew))<|heap_alloc_new u _) Lb.out ax (by unfold maxLen;omega) ae (wA.out ((u.alloc<|.cells #[ak,.int .u8 (x.aj.op:Nat),x.aj.pol,kv,x.aj.n,(D.cF ak:Nat),x.done,D.bS,r.e,r.granted,r.left,r.wait,r.a6,r.now] 66).drew) bn).2 _ rfl ?_;intro g cap c ob C Q7 RG;have F:=F2 (y:=u) C bn;obtain⟨T,ap4⟩:=qK.out _ _ F C;have arX:=T.1;have X:=ad<|me.out _ _ _ F C ob;clear ob C F Q7 RG;refine j.out _ _ ?_ fun Y=>?_;{(try dsimp only);exact T};clear j K;(try simp only[Act.put,lW,lX,lE]);refine Gu b! ?_;simp only[List.cons_append,List.nil_append];go_upto_region 3 with fail;refine wp_name (fun y=>bj aH B b af ag o ak x {D with log:=D.log++[⟨ak,x.aj,D.cF ak,x.done,D.bS,r⟩]} kv aM av az y/\aq y w 58 (dn r)/\aq y (w+1) 58 (dn<|err 0)) X.out ?_;rintro y ⟨hy,au,d⟩;have G:=ad hy;have o1:=ad au;have L:=ad d;clear hy au d X h1 k4 m_ l6 Z U P bJ c1 cw dg O b9 da ef ew fa fb;refine wp_region_lit ?_;(iterate 3 refine wpList_plain rfl fun K j=>?_;go_simp;refine j _ _ ?_;clear j K);refine wpList_store_mid rfl _ _ _ rfl b o tf rfl rfl (G.out.there 0 34 ax) b! b! ?_;have bU:w≠b:=ae;have J:w+1≠b:=ae;have BA:=ad G.out.zero;have au:=aq.Ku bU tf.toList (i:=o) o1.out;have d:=aq.Ku J tf.toList (i:=o) L.out;have xa:=L.out.lt;rw[<-aa8 b tf.toList y o]at xa;generalize y.setCells b o tf.toList=z at*;obtain⟨⟨e3,ev,fg,fF,lB,oj⟩,_⟩:=fh au;obtain⟨⟨dN,s1,s2,dr,ea,fi⟩,t0,t1,t2,t3,t4,t5⟩:=fh d;have N:=ad d;clear au d G o1 L;refine wpList_nil ?_;go_wp2_with(first|go_region_with fail|fail);all_goals exact lb rfl rfl rfl (aq.pA N.out _ _ _ _ _ _).qQ rfl ⟨rfl,_,_,_,_,(BA.out.Kn N.out (by have:=H.out.bh.bn.size;omega) (by have:=H.out.mj;omega) _ _ _ _ _ _).drew⟩
theorem jn.hU(h:jn B w w')(al:aq w k t a)(h1:t≠64)(c:t≠66):aq w' k t a:=h.kW _ _ _ _ al h1 c
theorem bj.self(h:bj aH B b af ag o ak x D kv aM av az w):bj w B b af ag o ak x D kv aM av az w:=⟨h.mj,h.hw,h.a8,h.st,jn.refl _ _⟩
theorem bj.on{c:bf}(h:bj aH B b af ag o ak x D kv aM av az w)(k:bj w B b af ag o ak e5 c gU hx fX iY w1):bj aH B b af ag o ak e5 c gU hx fX iY w1:=⟨k.mj,k.hw,k.a8,k.st,h.bh.trans k.bh⟩
theorem jW.on(h:bj aH B b af ag o ak x D kv aM av az w)(k:jW w B b af ag o ak eA e w1):jW aH B b af ag o ak eA e w1:=by obtain⟨h1,kv,aM,av,az,c⟩:=k;exact⟨h1,kv,aM,av,az,h.on c⟩
theorem Bj(h:bj aH B b af ag o ak x D kv aM av az w)(q:jW w B b af ag o ak eA e w1)(au:aq w k 58 gJ)(f:aH<=k)(br:B<=k):∃r:c2,e=.returned (.tuple #[eA.fin.isSome,.agg #[r.e,r.granted,r.left,r.wait,r.a6,r.now]])/\aq w1 k 58 gJ/\k<w1/\∀aQ,aQ=((((((w1.setCell k r.e).setCell ⟨k,1,none⟩ r.granted).setCell ⟨k,2,none⟩ r.left).setCell ⟨k,3,none⟩ r.wait).setCell ⟨k,4,none⟩ r.a6).setCell ⟨k,5,none⟩ r.now)->jW aH B b af ag o ak eA (.returned<|.tuple #[eA.fin.isSome,.agg #[r.e,r.granted,r.left,r.wait,r.a6,r.now]]) aQ:=by obtain⟨h1,gU,hx,fX,iY,d⟩:=q;have c:=d.bh.hU au ax ax;refine⟨eA.fin.getD<|err 0,h1,c,c.lt,?_⟩;rintro aQ rfl;exact⟨rfl,_,_,_,_,(h.on d).Kn c f br _ _ _ _ _ _⟩
