import Derived.Test.YtoglcccmgnjchaaGreatTa03
import Derived.WalkKit
import Derived.ProofKit
import Derived.Lib.Hide
import Derived.Below
import Derived.OneCell
import Derived.Deep.Draws
import Derived.Test.YtoglcccmgnjchaaGreatChecked
import Derived.Laws.OwnMore
import Derived.Deep.AppendLies
import Derived.Laws.AppendOwn
import Derived.Laws.BitsAllLaws
set_option linter.all false
set_option maxHeartbeats 8000000
set_option maxRecDepth 100000
namespace Go.Proofs.YtoglcccmgnjchaaGreat
open Go.Proofs.Tryz PL
namespace ai
variable{L:List Cell}{pol:Int}{key:List Nat}{c:Cell}
theorem F':∀a b:List Nat,cT a b=-cT b a
 |[],[]=>rfl
 |[],_::_=>rfl
 |_::_,[]=>rfl
 |a::e,b::bs=>by unfold cT;by_cases h:a<b;{rw[aN h,aC ae,aN h]};by_cases d:b<a;{rw[aC h,aN d,aN d];rfl};rw[aC h,aC d,aC d,aC h];exact F' e bs
theorem Wf:∀a b:List Nat,cT a b=-1\/cT a b=0\/cT a b=1
 |[],[]=>by simp[cT]
 |[],_::_=>by simp[cT]
 |_::_,[]=>by simp[cT]
 |a::d,b::bs=>by unfold cT;split;{exact .inl rfl};split;{exact .inr (.inr rfl)};exact Wf d bs
theorem Cb:∀{a b c:List Nat},cT a b<0->cT b c<0->cT a c<0
 |[],[],c,h,_=>by simp[cT]at h
 |[],_::_,[],_,h=>by simp[cT]at h
 |[],_::_,_::_,_,_=>by simp[cT]
 |_::_,[],_,h,_=>by simp[cT]at h
 |_::_,_::_,[],_,h=>by simp[cT]at h
 |a::e,b::bs,c::cs,h,d=>by unfold cT at h d⊢;split at h;{split at d;{rw[aN ae];decide};split at d;{simp at d};rw[aN ae];decide};split at h;{simp at h};split at d;{rw[aN ae];decide};split at d;{simp at d};rw[aC ae,aC ae];exact Cb h d
theorem Na{p q:Int}{k l:List Nat}(oc:0<=p)(hp:p<32)(b:0<=q)(a':q<32)(h:cK p k=cK q l):p=q/\k=l:=by(injection h with h1 a);refine⟨?_,a⟩;omega
def bH(c:Cell):List Nat:=cK c.pol c.key
theorem L1:∀(L:List Cell) (id:List Nat) (c:Cell),c∈L.take (L.takeWhile fun c=>cT (bH c) id<0).length->cT (bH c) id<0
 |[],id,c,hc=>by simp at hc
 |a::L,id,c,hc=>by by_cases ha:cT (bH a) id<0;{simp only[List.takeWhile_cons,ha,decide_true,if_true,List.length_cons,List.take_succ_cons]at hc;rcases ik.1 hc with rfl|hc;{exact ha};exact L1 L id c hc};simp only[List.takeWhile_cons,ha,decide_false,Bool.false_eq_true,if_false,List.length_nil,List.take_zero]at hc;simp at hc
theorem Qt(L:List Cell)(id:List Nat)(h:L.Pairwise nf)(c:Cell)(hc:c∈L.drop (L.takeWhile fun c=>cT (bH c) id<0).length):¬cT (bH c) id<0:=by induction L with|nil=>simp at hc|cons a L b=>rw[List.pairwise_cons]at h;by_cases ha:cT (bH a) id<0;{simp only[List.takeWhile_cons,ha,decide_true,if_true,List.length_cons,List.drop_succ_cons]at hc;exact b h.2 hc};simp only[List.takeWhile_cons,ha,decide_false]at hc;rcases ik.1 hc with rfl|hc;{exact ha};intro cc;exact ha<|Cb (h.1 c hc) cc
theorem IQ(L:List Cell)(pol:Int)(key:List Nat):e6 L pol key=(L.takeWhile fun c=>cT (bH c) (cK pol key)<0).length:=rfl
theorem L0(L:List Cell)(pol:Int)(key:List Nat):e6 L pol key<=L.length:=by exact(List.takeWhile_prefix _).length_le
theorem xA(h:e0 L pol key=true):∃c,L[e6 L pol key]?=some c/\bH c=cK pol key/\ei L pol key=c/\c∈L:=by unfold e0 at h;split at h;{rename_i c hc;have b:=List.mem_of_getElem? hc;refine⟨c,hc,cmp_eq (a:=cK c.pol c.key)<|by simpa using h,?_,b⟩;unfold ei;rw[aN<|by unfold e0;rw[hc];exact h,eh,hc];rfl};cases h
theorem v8(hw:iA L)(h:e0 L pol key=false):ei L pol key=⟨pol,key,0,[]⟩/\∀c∈L,bH c≠cK pol key:=by refine⟨by unfold ei;rw[h];rfl,fun c hc e=>?_⟩;rw[<-List.take_append_drop (e6 L pol key) L,List.mem_append]at hc;rcases hc with hc|hc;{have:=L1 L (cK pol key) c hc;rw[e,rm]at this;omega};cases aI:L.drop (e6 L pol key)with|nil=>rw[aI]at hc;cases hc|cons a T=>rw[aI]at hc;(have g:L[e6 L pol key]?=some a:=by rw[<-List.head?_drop,aI];rfl);(have f:cT (bH a) (cK pol key)≠0:=by intro cI;unfold e0 at h;rw[g]at h;have d:(cT (bH a) (cK pol key)==0)=false:=h;rw[cI]at d;simp at d);have b:=Qt L (cK pol key) hw.order a (by show a∈L.drop (e6 L pol key);rw[aI];exact List.mem_cons_self ..);rcases ik.1 hc with rfl|hc;{rw[e,rm]at f;exact f rfl};(have hp:(a::T).Pairwise nf:=by rw[<-aI];exact List.Pairwise.sublist (List.drop_sublist _ _) hw.order);have:=(List.pairwise_cons.1 hp).1 c hc;have cc:cT (bH a) (bH c)<0:=this;rw[e]at cc;exact b cc
theorem Qr(hw:iA L)(d:0<=pol)(h1:pol<32):(ei L pol key).pol=pol/\(ei L pol key).key=key:=by cases a:e0 L pol key with|true=>obtain⟨c,_,e,f,b⟩:=xA a;have ok:=hw.ok c b;rw[f];exact Na ok.py ok.og d h1 e|false=>rw[(v8 hw a).1];exact⟨rfl,rfl⟩
theorem W7(hw:iA L)(e:0<=pol)(h1:pol<32)(hk:key.length<=255)(al:∀b∈key,b<256):eH (ei L pol key):=by cases a:e0 L pol key with|true=>obtain⟨c,_,g,f,d⟩:=xA a;rw[f];exact hw.ok c d|false=>rw[(v8 hw a).1];exact⟨e,h1,hk,al,Int.le_refl 0,(by decide:(0:Int)<=4611686018427387903),fun n hn=>by simp at hn,List.Pairwise.nil,bI⟩
theorem T?(hw:iA L)(hc:eH c)(q:L.length<1048576):iA (h9 L (e6 L c.pol c.key) (e0 L c.pol c.key) c):=by cases l:e0 L c.pol c.key with|true=>obtain⟨bx,aS,g,m,o⟩:=xA l;unfold h9;rw[aN rfl];refine⟨fun d aI=>?_,?_,by simpa using hw.e8⟩;{rcases List.mem_or_eq_of_mem_set aI with h|h;{exact hw.ok d h};rw[h];exact hc};have a8:=hw.order;rw[List.pairwise_iff_getElem]at a8⊢;intro i j hi f p;rw[List.length_set]at hi f;have n:=(qe.1 aS).2;(have key:∀k (hk:k<L.length),bH ((L.set (e6 L c.pol c.key) c)[k]'(by simpa using hk))=bH L[k]:=by intro k hk;rw[List.getElem_set];split;{rename_i e;subst e;rw[n,g];rfl};rfl);have:=a8 i j hi f p;unfold nf at this⊢;have aO:=key i hi;have aU:=key j f;unfold bH at aO aU;rw[aO,aU];exact this|false=>have hn:=(v8 hw l).2;unfold h9;rw[aC bI];refine⟨fun d aI=>?_,?_,by simp[fG,List.length_drop];have:=L0 L c.pol c.key;omega⟩;{rw[List.append_assoc,List.mem_append,List.mem_append]at aI;rcases aI with h|h|h;{exact hw.ok d (List.mem_of_mem_take h)};{rw[List.mem_singleton.1 h];exact hc};exact hw.ok d (List.mem_of_mem_drop h)};have a8:=hw.order;rw[<-List.take_append_drop (e6 L c.pol c.key) L,List.pairwise_append]at a8;rw[List.append_assoc,List.pairwise_append];refine⟨a8.1,?_,?_⟩;{rw[List.singleton_append,List.pairwise_cons];refine⟨fun d aI=>?_,a8.2.1⟩;have h1:=Qt L (cK c.pol c.key) hw.order d aI;have g:=hn d<|List.mem_of_mem_drop aI;have m:cT (bH d) (cK c.pol c.key)≠0:=fun e=>g<|cmp_eq e;show cT (bH c) (bH d)<0;have o:=F' (bH c)<|bH d;have e:cK c.pol c.key=bH c:=rfl;rw[e]at h1 m;omega};intro a ha b al;rw[List.singleton_append]at al;rcases ik.1 al with rfl|al;{exact L1 L (cK _ _) a ha};exact a8.2.2 a ha b al
theorem apg:(h9 L (e6 L c.pol c.key) (e0 L c.pol c.key) c).length=L.length+if e0 L c.pol c.key then 0 else 1:=by have:=L0 L c.pol c.key;unfold h9;split;{simp};simp[fG,List.length_drop];omega
theorem Nr(hw:iA L)(d:Cell):d∈h9 L (e6 L c.pol c.key) (e0 L c.pol c.key) c<->(if bH d=bH c then d=c else d∈L):=by cases j:e0 L c.pol c.key with|true=>obtain⟨bx,aS,f,l,k⟩:=xA j;have cc:=(qe.1 aS).1;have b:=(qe.1 aS).2;unfold h9;rw[aN rfl];(have uniq:∀d∈L,bH d=bH c->d=bx:=by intro d aI e;obtain⟨i,hi,rfl⟩:=List.getElem_of_mem aI;rcases Nat.lt_trichotomy i (e6 L c.pol c.key)with h|h|h;{have:=(List.pairwise_iff_getElem.1 hw.order) i _ hi cc h;have:cT (bH L[i]) (bH L[e6 L c.pol c.key])<0:=this;rw[b,f,e]at this;have e:cK c.pol c.key=bH c:=rfl;rw[e,rm]at this;omega};{subst h;exact b};have:=(List.pairwise_iff_getElem.1 hw.order) _ i cc hi h;have:cT (bH L[e6 L c.pol c.key]) (bH L[i])<0:=this;rw[b,f,e]at this;have e:cK c.pol c.key=bH c:=rfl;rw[e,rm]at this;omega);constructor;{intro aI;rw[List.mem_iff_getElem]at aI;obtain⟨i,hi,rfl⟩:=aI;rw[List.getElem_set];split;{rw[aN rfl]};rename_i bU;rw[List.length_set]at hi;have a:=fZ hi;split;{rename_i e;have g:=uniq _ a e;rcases Nat.lt_trichotomy i (e6 L c.pol c.key)with h|h|h;{have:=(List.pairwise_iff_getElem.1 hw.order) i _ hi cc h;have:cT (bH L[i]) (bH L[e6 L c.pol c.key])<0:=this;rw[b,g,rm]at this;omega};{exact absurd h.symm bU};have:=(List.pairwise_iff_getElem.1 hw.order) _ i cc hi h;have:cT (bH L[e6 L c.pol c.key]) (bH L[i])<0:=this;rw[b,g,rm]at this;omega};exact a};intro aI;split at aI;{subst aI;exact List.mem_iff_getElem.2 ⟨e6 L d.pol d.key,by simpa using cc,bI⟩};rename_i bU;obtain⟨i,hi,rfl⟩:=List.getElem_of_mem aI;refine List.mem_iff_getElem.2 ⟨i,by simpa using hi,?_⟩;rw[List.getElem_set_ne];intro e;subst e;rw[b]at bU;exact bU f|false=>have hn:=(v8 hw j).2;unfold h9;rw[aC bI,List.append_assoc,List.mem_append,List.singleton_append,ik];(have a:d∈L<->d∈L.take (e6 L c.pol c.key)\/d∈L.drop (e6 L c.pol c.key):=by rw[<-List.mem_append,List.take_append_drop]);constructor;{rintro(h|h|h);{have:¬bH d=bH c:=hn d<|a.2<|.inl h;rw[aC this];exact a.2 (.inl h)};{rw[h,aN rfl]};have:¬bH d=bH c:=hn d<|a.2<|.inr h;rw[aC this];exact a.2 (.inr h)};intro h;split at h;{exact .inr (.inl h)};rcases a.1 h with h|h;{exact .inl h};exact .inr<|.inr h
structure dA(m dI:Mem):Prop where
 dir:m.ah 0<=dI.ah 0
 grow:∀i,1<=i->i<32->m.ah i<=dI.ah i
 same:∀i,1<=i->i<32->dI.ah i=m.ah i->dI.b4 i=m.b4 i
 vI:∀i,1<=i->i<32->c4<=m.ah i->dI.ah i=m.ah i
theorem dA.refl(m:Mem):dA m m:=⟨bG _,fun _ _ _=>bG _,fun _ _ _ _=>rfl,fun _ _ _ _=>rfl⟩
theorem dA.bN(m:Mem):dA m m.bN:=⟨bG _,fun _ _ _=>bG _,fun _ _ _ _=>rfl,fun _ _ _ _=>rfl⟩
theorem dA.trans{a b c:Mem}(h:dA a b)(k:dA b c):dA a c:=by refine⟨eB h.dir k.dir,fun i h1 d=>eB (h.grow i h1 d)<|k.grow i h1 d,fun i h1 d e=>?_,fun i h1 d e=>?_⟩;{have g:=h.grow i h1 d;have f:=k.grow i h1 d;rw[k.same i h1 d ae,h.same i h1 d ae]};have:=h.vI i h1 d e;rw[k.vI i h1 d ae,this]
theorem dA.cy{m:Mem}{w v:Nat}{h:List Cell}(hw:m.aZ.length=34)(k:m.a_.length=34)(j:w<34)(d:w=0->m.ah 0<=v)(h1:1<=w->w<32->m.ah w<v/\m.ah w<c4):dA m (m.cy w v h):=by have b:w<m.aZ.length:=ae;have f:w<m.a_.length:=ae;refine⟨?_,fun i hi a=>?_,fun i hi a=>?_,fun i hi a g=>?_⟩;{rw[dY b];split;{rename_i e;exact d e.symm};exact bG _};{rw[dY b];split;{rename_i e;subst e;exact Nat.le_of_lt (h1 hi a).1};exact bG _};{rw[dY b,lA f];split;{rename_i e;subst e;intro e;have:=(h1 hi a).1;omega};intro _;rfl};rw[dY b];split;{rename_i e;subst e;have:=(h1 hi a).2;omega};rfl
def kL(p:aA):Prop:=(p.kind=1/\1<=p.T/\p.T<=4611686018427387903/\0<=p.tau/\p.tau<=4611686018427387903)\/(p.kind=2/\1<=p.bl/\p.bl<=64)
structure Sound(B:Below):Prop where
 aJ:∀p aJ now n,kL p->p.kind=1->0<=aJ->aJ<=4611686018427387903->0<=now->now<=4611686018427387903->0<=n->n<=4611686018427387903->0<=(B.decide p aJ now n).2.1/\(B.decide p aJ now n).2.1<=4611686018427387903
 take:∀p c n,kL p->p.kind=2->eH c->(c.held.length:Int)<=p.bl->eH (fI B p c n).2/\(((fI B p c n).2.held.length:Nat):Int)<=p.bl
 Ci:∀p c n,kL p->p.kind=2->eH c->(c.held.length:Int)<=p.bl->eH (g' B p c n).2/\(((g' B p c n).2.held.length:Nat):Int)<=p.bl
 has:∀p c n,(g' B p c n).1.e=0->c.held≠[]
 same:∀p c n,((fI B p c n).2.pol=c.pol/\(fI B p c n).2.key=c.key)/\((g' B p c n).2.pol=c.pol/\(g' B p c n).2.key=c.key)
end ai
namespace ai
variable (af : List aA) (ag:Nat)
structure gD:Prop where
 e8:af.length<=32
 good:∀p∈af,kL p
 aso:1<=ag
 zJ:ag<=4096
structure iT(x:Live):Prop where
 lV:1<=x.aj.op
 px:x.aj.op<=6
 pol:x.aj.op<=4->∃p:Nat,x.aj.pol=(p:Int)/\p<af.length
 nN:x.aj.op<=4->x.aj.key.length<=255
 oP:∀b∈x.aj.key,b<256
 n:x.aj.op=1->0<=x.aj.n/\x.aj.n<=4611686018427387903
 s':-9223372036854775808<=x.aj.n/\x.aj.n<=9223372036854775807
 Hq:0<=x.a6
 E?:x.a6<=4611686018427387903
 rI:x.aj.op=1->(c_ af x).kind=1
 nM:x.aj.op=2\/x.aj.op=3->(c_ af x).kind=2
 sum:x.sum=e4 (cK x.aj.pol x.aj.key)
 res:x.gn=true->x.aj.op=1\/x.aj.op=2
structure Uk(x:Live)(c:Cell):Prop where
 ok:eH c
 pol:c.pol=x.aj.pol
 key:c.key=x.aj.key
 perm:c.pol<af.length/\((af.getD c.pol.toNat default).kind=2->(c.held.length:Int)<=(af.getD c.pol.toNat default).bl)
structure y5(m:Mem)(w v:Nat)(h:List Cell):Prop where
 v1:1<=v
 v2:v<c4
 le:v<=m.ah w
 eq:m.ah w=v->m.b4 w=h
 iF:qO af w h
 e8:h.length<=ag
def rZ(x:Live)(sum:Nat):Then->Prop
 |.aj=>x.aj.op<=4/\sum=x.sum
 |.d? j b_ cd=>x.aj.op=5/\sum=j/\j<b_/\b_<=16/\0<=cd/\cd<=j*1048576
def Bt(m:Mem)(aw i:Nat):Prop:=∀a,a<i->c4<=m.ah (aW aw a)/\m.ah (aW (aw+1) a)≠0/\m.ah (aW (aw+1)<|a+2^aw)≠0
def yQ(m:Mem)(x:Live)(ah:Nat):nY->Prop
 |.find aw sum t=>rZ x sum t/\aw<=3/\ah=aW aw sum/\2*aw+1<=m.ah 0
 |.move aw i=>x.aj.op=6/\aw<=3/\i<2^aw/\ah=aW aw i/\2*aw+1<=m.ah 0/\Bt m aw i
def acQ(m:Mem)(x:Live)(l shard:Nat)(a_:List Cell):nt->Prop
 |.find sum t=>rZ x sum t/\shard=sum
 |.one a i h=>x.aj.op=6/\a=l/\shard=i/\i<2^l/\h=a_/\Bt m l i
 |.two a i=>x.aj.op=6/\a=l/\shard=i+2^l/\i<2^l/\Bt m l i/\m.ah (aW (l+1) i)≠0
def xI(m:Mem)(x:Live)(aw shard:Nat)(a_:List Cell)(t:nt):Prop:=
 ∃l,aw=l+1/\l<=3/\2*l+1<=m.ah 0/\c4<=m.ah (aW l shard)/\m.b4 (aW l shard)=a_/\acQ m x l shard a_ t
def tu(m:Mem)(x:Live)(f:hT)(at_:Nat)(there:Bool)(c:Cell):Prop:=
 x.aj.op<=4/\y5 af ag m f.ah f.v f.cells/\(∃aw,aw<=4/\f.ah=aW aw x.sum)/\at_=e6 f.cells x.aj.pol x.aj.key/\there=e0 f.cells x.aj.pol x.aj.key/\Uk af x c
def Ae(m:Mem)(x:Live)(ah de stop:Nat):lN->Prop
 |.back (.done r)=>x.aj.op<=4/\ah=ll/\de=neg 1/\stop=wP/\x.gn=true
 |.back (.d? j b_ cd)=>x.aj.op=5/\ah=ll/\stop=wP/\(∃n,1<=n/\n<=1048576/\de=neg n)/\j<b_/\b_<=16/\0<=cd/\cd<=(j+1)*1048576
 |.ag f at_ there c r=>ah=ll/\de=1/\stop=ag/\(x.aj.op=1\/x.aj.op=2)/\there=false/\x.gn=false/\tu af ag m x f at_ there c
 |.a6 f at_ there c=>ah=rX/\de=1/\stop=4611686018427387903/\x.aj.op=2/\tu af ag m x f at_ there c
def mB(m:Mem)(x:Live):c'->Prop
 |.find sum t=>rZ x sum t
 |.enter sum ah t=>rZ x sum t/\∃aw,aw<=4/\ah=aW aw sum
 |.lk ah t=>yQ m x ah t
 |.mZ ah v a_ t=>yQ m x ah t/\y5 af ag m ah v a_
 |.half aw shard a_ t=>xI m x aw shard a_ t
 |.m? aw shard a_ h t=>xI m x aw shard a_ t
 |.split=>x.aj.op=6
 |.om d aw=>x.aj.op=6/\d=2*aw/\aw<=3
 |.pr aw=>x.aj.op=6/\aw<=3/\2*aw+1<=m.ah 0/\Bt m aw (2^aw)
 |.h0 ah de stop t=>Ae af ag m x ah de stop t
 |.i' ah de stop v t=>Ae af ag m x ah de stop t/\v<e7/\v≠stop/\((∀b,t≠.back b)->v<=stop)
 |.put f at_ there c r=>tu af ag m x f at_ there c/\(there=true\/x.gn=true)
 |.allow f at_ there c=>x.aj.op=1/\tu af ag m x f at_ there c
 |.k? c=>x.aj.op=4
 |.n5=>x.aj.op=5
 |.mY j b_ cd ah v cells=>rZ x j (.d? j b_ cd)/\y5 af ag m ah v cells/\cells≠[]/\∃aw,aw<=4/\ah=aW aw j
 |.ke j b_ cd ah v rest n=>rZ x j (.d? j b_ cd)/\(∃aw,aw<=4/\ah=aW aw j)/\1<=n/\∃cells p,y5 af ag m ah v cells/\rest=cells.filter p/\n=cells.length-rest.length
def nC(x:Live):c'->Nat
 |.h0 _ de _ (.back<|.d? ..)=>e7-de
 |.i' _ de _ _ (.back<|.d? ..)=>e7-de
 |_=>if x.gn then 1 else 0
def afF(o:Out):Nat:=match o.1 with
 |.inl k=>nC o.2.1 k
 |.inr _=>0
structure fe(m:Mem)(gf:Nat):Prop where
 dir:eL m
 iF:jD af m
 oE:m.ah 32=size m+gf
 qP:m.ah 32<=ag
 b0:m.ah 33<=4611686018427387903
 o':0<=m.ca/\m.ca<=4611686018427387903
end ai
namespace ai
variable {af : List aA} {ag:Nat}
variable{aw s w v i ah gf Al:Nat}{m dI:Mem}{x:Live}{L:List Cell}
theorem fM(h:aw<=4):1<=aW aw s/\aW aw s<32:=by have h1:=l! aw s;have a:=two_pos aw;have b:=lh (show aw+1<=5 by omega);omega
theorem y5.later{h:List Cell}(k:dA m dI)(c8:1<=w)(a:w<32)(H:y5 af ag m w v h):y5 af ag dI w v h:=by have h1:=k.grow w c8 a;refine⟨H.v1,H.v2,eB H.le h1,fun e=>?_,H.iF,H.e8⟩;have b:=H.le;rw[k.same w c8 a ae];exact H.eq ae
theorem dA.S1(k:dA m dI)(h1:1<=i)(a:i<32)(h:m.ah i≠0):dI.ah i≠0:=by have:=k.grow i h1 a;omega
theorem dA.Xh(k:dA m dI)(h1:1<=i)(a:i<32)(h:c4<=m.ah i):c4<=dI.ah i/\dI.b4 i=m.b4 i:=by have e:=k.vI i h1 a h;exact⟨ae,k.same i h1 a e⟩
theorem Bt.later(k:dA m dI)(j:aw<=3)(h:Bt m aw i):Bt dI aw i:=by intro a g;obtain⟨h1,e,f⟩:=h a g;have b:=fM (s:=a) (show aw<=4 by omega);have c:=fM (s:=a) (show aw+1<=4 by omega);have d:=fM (s:=a+2^aw) (show aw+1<=4 by omega);exact⟨(k.Xh b.1 b.2 h1).1,k.S1 c.1 c.2 e,k.S1 d.1 d.2 f⟩
theorem yQ.later(k:dA m dI){t:nY}(h:yQ m x ah t):yQ dI x ah t:=by have:=k.dir;cases t with|find aw sum t=>exact⟨h.1,h.2.1,h.2.2.1,by have:=h.2.2.2;omega⟩|move aw i=>exact⟨h.1,h.2.1,h.2.2.1,h.2.2.2.1,by have:=h.2.2.2.2.1;omega,h.2.2.2.2.2.later k h.2.1⟩
theorem xI.later(k:dA m dI){shard:Nat}{a_:List Cell}{t:nt}(h:xI m x aw shard a_ t):xI dI x aw shard a_ t:=by obtain⟨l,h1,j,u,p,q,g⟩:=h;have:=k.dir;have n:=fM (s:=shard) (show l<=4 by omega);have bd:=k.Xh n.1 n.2 p;refine⟨l,h1,j,ae,bd.1,by rw[bd.2];exact q,?_⟩;cases t with|find sum t=>exact g|one r i h=>obtain⟨a,b,c,d,e,f⟩:=g;exact⟨a,b,c,d,e,f.later k j⟩|two r i=>obtain⟨a,b,c,d,e,f⟩:=g;have o:=fM (s:=i) (show l+1<=4 by omega);exact⟨a,b,c,d,e.later k j,k.S1 o.1 o.2 f⟩
theorem tu.later(k:dA m dI){f:hT}{at_:Nat}{there:Bool}{c:Cell}(h:tu af ag m x f at_ there c):tu af ag dI x f at_ there c:=by obtain⟨h1,j,⟨l,d,a⟩,e,g,n⟩:=h;have b:=fM (s:=x.sum) d;exact⟨h1,j.later k (by rw[a];exact b.1)<|by rw[a];exact b.2,⟨l,d,a⟩,e,g,n⟩
theorem Ae.later(k:dA m dI){de stop:Nat}{t:lN}(h:Ae af ag m x ah de stop t):Ae af ag dI x ah de stop t:=by cases t with|back t=>cases t<;>exact h|ag f at_ there c r=>exact⟨h.1,h.2.1,h.2.2.1,h.2.2.2.1,h.2.2.2.2.1,h.2.2.2.2.2.1,h.2.2.2.2.2.2.later k⟩|a6 f at_ there c=>exact⟨h.1,h.2.1,h.2.2.1,h.2.2.2.1,h.2.2.2.2.later k⟩
theorem mB.later(k:dA m dI){q:c'}(h:mB af ag m x q):mB af ag dI x q:=by have aI:=k.dir;cases q with|find sum t=>exact h|enter sum ah t=>exact h|lk ah t=>exact yQ.later k h|mZ ah v a_ t=>(refine⟨h.1.later k,?_⟩;obtain⟨h1,g⟩:=h;cases t with|find aw sum t=>have b:=fM (s:=sum) (show aw<=4 by have:=h1.2.1;omega);exact g.later k (by rw[h1.2.2.1];exact b.1) (by rw[h1.2.2.1];exact b.2)|move aw i=>have b:=fM (s:=i) (show aw<=4 by have:=h1.2.1;omega);exact g.later k (by rw[h1.2.2.2.1];exact b.1)<|by rw[h1.2.2.2.1];exact b.2)|half aw shard a_ t=>exact xI.later k h|m? aw shard a_ z t=>exact xI.later k h|split=>exact h|om d aw=>exact h|pr aw=>exact⟨h.1,h.2.1,by have:=h.2.2.1;omega,h.2.2.2.later k h.2.1⟩|h0 ah de stop t=>exact Ae.later k h|i' ah de stop v t=>exact⟨h.1.later k,h.2⟩|put f at_ there c r=>exact⟨h.1.later k,h.2⟩|allow f at_ there c=>exact⟨h.1,h.2.later k⟩|k? c=>exact h|n5=>exact h|mY j b_ cd ah v cells=>obtain⟨h1,g,bU,l,e,a⟩:=h;have b:=fM (s:=j) e;exact⟨h1,g.later k (by rw[a];exact b.1)<|by rw[a];exact b.2,bU,l,e,a⟩|ke j b_ cd ah v rest n=>obtain⟨h1,⟨l,e,a⟩,o,cells,p,u,y⟩:=h;have b:=fM (s:=j) e;exact⟨h1,⟨l,e,a⟩,o,cells,p,u.later k (by rw[a];exact b.1)<|by rw[a];exact b.2,y⟩
theorem fe.bN(h:fe af ag m gf):fe af ag m.bN gf:=⟨h.dir.bN,h.iF.bN,h.oE,h.qP,h.b0,h.o'⟩
theorem Kh(h:fe af ag m gf)(hw:w<32):(m.cy w v L).ah 32=m.ah 32/\(m.cy w v L).ah 33=m.ah 33:=by(have a:w<m.aZ.length:=by rw[h.dir.dm];omega);rw[dY a,dY a,aC ae,aC ae];exact⟨rfl,rfl⟩
theorem fe.lk(h:fe af ag m gf)(aI:m.ah 0%2=1)(c8:2^(m.ah 0/2)<=w)(c:w<2^(m.ah 0/2+1))(b:m.live w):fe af ag (m.cy w (m.ah w+c4)<|m.b4 w) gf:=by have d:=h.dir.size;have a:=Kh h (v:=m.ah w+c4) (L:=m.b4 w) (show w<32 by omega);exact⟨h.dir.lk _ aI c8 c b,h.iF.cy (by rw[h.dir.e2];omega) _<|h.iF.at_ w,by rw[a.1,anI h.dir h.iF aI c8 c b];exact h.oE,by rw[a.1];exact h.qP,by rw[a.2];exact h.b0,h.o'⟩
theorem fe.lay(h:fe af ag m gf){s:Nat}(aI:m.ah 0%2=1)(hp:c4<=m.ah (aW (m.ah 0/2) s))(bd:m.ah (aW (m.ah 0/2+1) s)=0):
 fe af ag (m.cy (aW (m.ah 0/2+1) s) 1<|cut (m.b4<|aW (m.ah 0/2) s) (m.ah 0/2+1)<|s%2^(m.ah 0/2+1)) gf:=by have c:=h.dir.uT aI;have b:=fM (s:=s) (show m.ah 0/2+1<=4 by omega);have al:=l! (m.ah 0/2+1) s;have a:=Kh h (v:=1) (L:=cut (m.b4<|aW (m.ah 0/2) s) (m.ah 0/2+1)<|s%2^(m.ah 0/2+1)) b.2;exact⟨h.dir.lay _ aI al.1 al.2 (by rw[Kc];exact hp) bd,h.iF.cy (by rw[h.dir.e2];omega) _<|(h.iF.at_ _).cut _ _,by rw[a.1,anJ h.dir aI hp bd];exact h.oE,by rw[a.1];exact h.qP,by rw[a.2];exact h.b0,h.o'⟩
theorem fe.split(h:fe af ag m gf)(aI:m.ah 0%2=0)(b:m.ah 0/2≠4):fe af ag (m.cy 0 (m.ah 0+1) []) gf:=by have a:=Kh h (v:=m.ah 0+1) (L:=[]) (show 0<32 by decide);exact⟨h.dir.split _ aI b,h.iF.cy (by rw[h.dir.e2];omega) _<|qO.nil _ _,by rw[a.1,anL h.dir _ aI];exact h.oE,by rw[a.1];exact h.qP,by rw[a.2];exact h.b0,h.o'⟩
theorem fe.SR(h:fe af ag m gf)(aI:m.ah 0%2=1)(b:∀i,2^(m.ah 0/2)<=i->i<2^(m.ah 0/2+1)->c4<=m.ah i)(hn:∀i,2^(m.ah 0/2+1)<=i->i<2^(m.ah 0/2+2)->m.ah i≠0):fe af ag (m.cy 0 (m.ah 0+1) []) gf:=by have a:=Kh h (v:=m.ah 0+1) (L:=[]) (show 0<32 by decide);exact⟨h.dir.SR _ aI b hn,h.iF.cy (by rw[h.dir.e2];omega) _<|qO.nil _ _,by rw[a.1,anK h.dir _ aI b hn];exact h.oE,by rw[a.1];exact h.qP,by rw[a.2];exact h.b0,h.o'⟩
theorem fe.go(h:fe af ag m gf){v:Nat}{L:List Cell}(c8:1<=w)(b:w<32)(c:m.live w)(d:1<=v)(e:v<c4)(k8:(v:Int)<=m.count+1)(bY:qO af w L)(f:gf+(m.b4 w).length=Al+L.length):fe af ag (m.cy w v L) Al:=by have a:=Kh h (v:=v) (L:=L) b;have aB:=abp h.dir L c8 b c d e;have hc:=h.oE;exact⟨h.dir.go _ c8 b c d e k8,h.iF.cy (by rw[h.dir.e2];omega) _ bY,by rw[a.1];omega,by rw[a.1];exact h.qP,by rw[a.2];exact h.b0,h.o'⟩
theorem fe.count(h:fe af ag m gf)(av:v=size m+Al)(aE:v<=ag):fe af ag (m.cy 32 v []) Al:=by(have a:32<m.aZ.length:=by rw[h.dir.dm];omega);(have aO:(m.cy 32 v []).ah 32=v:=by rw[dY a,aN rfl]);(have aU:(m.cy 32 v []).ah 33=m.ah 33:=by rw[dY a,aC ax]);exact⟨h.dir.num _ _ ax ax,h.iF.cy (by rw[h.dir.e2];omega) _<|qO.nil _ _,by rw[aO,abq h.dir _ _ ax ax];exact av,by rw[aO];exact aE,by rw[aU];exact h.b0,h.o'⟩
theorem fe.a6(h:fe af ag m gf)(av:v<=4611686018427387903):fe af ag (m.cy 33 v []) gf:=by(have a:33<m.aZ.length:=by rw[h.dir.dm];omega);(have aO:(m.cy 33 v []).ah 32=m.ah 32:=by rw[dY a,aC ax]);(have aU:(m.cy 33 v []).ah 33=v:=by rw[dY a,aN rfl]);exact⟨h.dir.num _ _ ax ax,h.iF.cy (by rw[h.dir.e2];omega) _<|qO.nil _ _,by rw[aO,abq h.dir _ _ ax ax];exact h.oE,by rw[aO];exact h.qP,by rw[aU];exact av,h.o'⟩
end ai
namespace ai
structure xU(af:List aA)(ag q:Nat)(m0:Mem)(bL:Live)(o:Out):Prop where
 inv:fe af ag o.2.2 (afF o+q)
 later:dA m0 o.2.2
 live:iT af o.2.1
 aj:o.2.1.aj=bL.aj
 ca:o.2.2.ca=m0.ca
 count:o.2.2.count=m0.count+1
 lT:∀k,o.1=.inl k->mB af ag o.2.2 o.2.1 k
end ai
namespace ai
variable {af : List aA} {ag:Nat}
variable{x bL:Live}{q w sum aw shard n:Nat}{m:Mem}{k:c'}{B:Below}{t:Then}{a_:List Cell}
def base(x:Live):Nat:=if x.gn then 1 else 0
theorem Aj(h:iT af x)(h1:x.aj.op≠1)(a:x.aj.op≠2):x.gn=false:=by cases e:x.gn with|false=>rfl|true=>rcases h.res e with h|h<;>omega
theorem wU(h:x.gn=false):base x=0:=by unfold base;rw[h];rfl
theorem VP(h:x.gn=true):base x=1:=by unfold base;rw[h];rfl
theorem k_{m0:Mem}(h1:fe af ag m (nC x k+q))(d:dA m0 m)(f:iT af x)(a:x.aj=bL.aj)(b:m.ca=m0.ca)(c:m.count=m0.count+1)(g:mB af ag m x k):xU af ag q m0 bL (more k x m):=
 ⟨h1,d,f,a,b,c,fun k' e=>by cases e;exact g⟩
theorem x1{m0:Mem}{r:c2}(h1:fe af ag m q)(d:dA m0 m)(f:iT af x)(a:x.aj=bL.aj)(b:m.ca=m0.ca)(c:m.count=m0.count+1):xU af ag q m0 bL (fin r x m):=
 ⟨by show fe af ag m (0+q);rw[iQ];exact h1,d,f,a,b,c,fun k' e=>by cases e⟩
theorem Nn{m0:Mem}(r:c2)(h1:fe af ag m (base x+q))(d:dA m0 m)(f:iT af x)(a:x.aj=bL.aj)(b:m.ca=m0.ca)(c:m.count=m0.count+1)(g:x.aj.op<=4):xU af ag q m0 bL (hN r x m):=by unfold hN;cases e:x.gn with|true=>exact k_ h1 d f a b c ⟨g,rfl,rfl,rfl,e⟩|false=>rw[wU e,iQ]at h1;exact x1 h1 d f a b c
theorem L6{m0:Mem}{j b_:Nat}{cd:Int}(h1:fe af ag m q)(e:dA m0 m)(a:iT af x)(b:x.aj=bL.aj)(c:m.ca=m0.ca)(d:m.count=m0.count+1)(f:x.aj.op=5)(h:j<b_)(aB:b_<=16)(g:0<=cd)(i:cd<=(j+1)*1048576):xU af ag q m0 bL (iC j b_ cd x m):=by unfold iC;split;{exact x1 h1 e a b c d};refine k_ ?_ e a b c d ⟨f,rfl,ae,aB,g,ae⟩;show fe af ag m (base x+q);rw[wU<|Aj a ae ae,iQ];exact h1
theorem xn(T:gD af ag)(h:iT af x)(a:x.aj.op<=4):kL (c_ af x)/\0<=x.aj.pol/\x.aj.pol<32:=by obtain⟨p,hp,cc⟩:=h.pol a;have:=T.e8;unfold c_;rw[hp];refine⟨T.good _ ?_,ae,ae⟩;rw[Int.toNat_natCast,eh,eG cc];exact fZ cc
theorem Qw(T:gD af ag)(h:iT af x)(a:x.aj.op<=4){L:List Cell}(bY:qO af w L):Uk af x (ei L x.aj.pol x.aj.key):=by have aS:=xn T h a;have hid:=Qr bY.wf (key:=x.aj.key) aS.2.1 aS.2.2;refine⟨W7 bY.wf aS.2.1 aS.2.2 (h.nN a) h.oP,hid.1,hid.2,?_⟩;cases b:e0 L x.aj.pol x.aj.key with|true=>obtain⟨c,_,_,e,d⟩:=xA b;rw[e];exact bY.perm c d|false=>rw[(v8 bY.wf b).1];obtain⟨p,hp,cc⟩:=h.pol a;refine⟨by show x.aj.pol<af.length;omega,fun hk=>?_⟩;have:=aS.1;unfold c_ at this;rcases this with h|h;{rw[h.1]at hk;cases hk};show((0:Nat):Int)<=_;have:=h.2.1;show(0:Int)<=(af.getD x.aj.pol.toNat default).bl;omega
theorem NM{m0:Mem}{f:hT}{at_:Nat}{there:Bool}{c:Cell}(r:c2)(h1:fe af ag m (base x+q))(i:dA m0 m)(j:iT af x)(b:x.aj=bL.aj)(d:m.ca=m0.ca)(g:m.count=m0.count+1)(hp:tu af ag m x f at_ there c)(l:(x.aj.op=1\/x.aj.op=2)\/there=true):xU af ag q m0 bL (more (kE ag f at_ there c r x) x m):=by unfold kE;cases e:(there||x.gn)with|true=>refine k_ h1 i j b d g ⟨hp,?_⟩;simpa using e|false=>(have a:there=false/\x.gn=false:=by simpa using e);refine k_ h1 i j b d g ⟨rfl,rfl,rfl,?_,a.1,a.2,hp⟩;rcases l with h|h;{exact h};rw[a.1]at h;cases h
theorem aoO(br:Sound B)(T:gD af ag)(h1:fe af ag m (base x+q))(g:iT af x)(o:rZ x sum t)(z:aw<=4)(u:m.live (aW aw sum)):
   xU af ag q m x (kG B af ag t (aW aw sum) (m.ah<|aW aw sum) (m.b4<|aW aw sum) x m.bN):=by
 have A:=fM (s:=sum) z;have r:=h1.iF.at_<|aW aw sum;have hlen:=Z_ h1.dir A.1 A.2 u;have av:y5 af ag m.bN (aW aw sum) (m.ah<|aW aw sum) (m.b4<|aW aw sum):=⟨u.1,u.2,bG _,fun _=>rfl,r,by have:=h1.oE;have:=h1.qP;omega⟩
 cases t with
 |d? j b_ cd=>obtain⟨a,b,c,d,e,f⟩:=o;have al:=wU<|Aj g ae ae;unfold kG;dsimp only;split;{rw[al,iQ]at h1;exact L6 h1.bN (dA.bN m) g rfl rfl rfl a c d e ae};·rename_i v;refine k_ h1.bN (dA.bN m) g rfl rfl rfl ⟨⟨a,rfl,c,d,e,f⟩,av,fun F=>v<|by rw[F];rfl,aw,z,?_⟩;rw[b]
 |aj=>
   obtain⟨p,H⟩:=o;have aS:=xn T g p;have h:=Qw T g p r;have i:tu af ag m.bN x ⟨aW aw sum,m.ah<|aW aw sum,m.b4<|aW aw sum⟩ (e6 (m.b4<|aW aw sum) x.aj.pol x.aj.key) (e0 (m.b4<|aW aw sum) x.aj.pol x.aj.key) (ei (m.b4<|aW aw sum) x.aj.pol x.aj.key):=⟨p,av,⟨aw,z,by rw[<-H]⟩,rfl,rfl,h⟩;generalize hc:ei (m.b4<|aW aw sum) x.aj.pol x.aj.key=c at i h;generalize G:e6 (m.b4<|aW aw sum) x.aj.pol x.aj.key=at_ at i;generalize y:e0 (m.b4<|aW aw sum) x.aj.pol x.aj.key=there at i;(have D:(c_ af x).kind=2->(c.held.length:Int)<=(c_ af x).bl:=by intro hk;have:=h.perm.2;rw[h.pol]at this;exact this hk);(have C:x.aj.pol<af.length:=by have:=h.perm.1;rwa[h.pol]at this);unfold kG;dsimp only;rw[hc,G,y];by_cases ly:x.aj.op=1;{rw[aN ly];exact k_ h1.bN (dA.bN m) g rfl rfl rfl ⟨ly,i⟩};rw[aC ly];by_cases lU:x.aj.op=2;{rw[aN lU];have hk:=g.nM<|.inl lU;unfold r0;split;{exact Nn _ h1.bN (dA.bN m) g rfl rfl rfl p};split;{have l:=br.take (c_ af x) c x.a6 aS.1 hk h.ok<|D hk;have aB:=(br.same (c_ af x) c x.a6).1;refine NM _ h1.bN (dA.bN m) g rfl rfl rfl ⟨i.1,i.2.1,i.2.2.1,i.2.2.2.1,i.2.2.2.2.1,⟨l.1,by rw[aB.1,h.pol],by rw[aB.2,h.key],by rw[aB.1,h.pol];exact C,fun _=>?_⟩⟩<|.inl<|.inr lU;rw[aB.1,h.pol];exact l.2};exact k_ h1.bN (dA.bN m) g rfl rfl rfl ⟨rfl,rfl,rfl,lU,i⟩};rw[aC lU];by_cases mL:x.aj.op=3
   . rw[aN mL];have hk:=g.nM<|.inr mL;have al:=wU<|Aj g ae ae;split;·rw[al,iQ]at h1;exact x1 h1.bN (dA.bN m) g rfl rfl rfl
     . rename_i he;have l:=br.Ci (c_ af x) c x.aj.n aS.1 hk h.ok<|D hk;have aB:=(br.same (c_ af x) c x.aj.n).2;have bU:=br.has (c_ af x) c x.aj.n ae
       have E:there=true:=by
         cases o:there with
         |true=>rfl
         |false=>
           rw[o]at y
           rw[(v8 r.wf y).1]at hc
           rw[<-hc]at bU
           exact absurd rfl bU
       refine NM _ h1.bN (dA.bN m) g rfl rfl rfl ⟨i.1,i.2.1,i.2.2.1,i.2.2.2.1,i.2.2.2.2.1,⟨l.1,by rw[aB.1,h.pol],by rw[aB.2,h.key],by rw[aB.1,h.pol];exact C,fun _=>?_⟩⟩<|.inr E;rw[aB.1,h.pol];exact l.2
   rw[aC mL];have al:=wU<|Aj g ae ae;split;{rw[al,iQ]at h1;exact x1 h1.bN (dA.bN m) g rfl rfl rfl};refine k_ h1.bN (dA.bN m) g rfl rfl rfl ?_;show x.aj.op=4;have:=g.lV;omega
theorem WV(br:Sound B)(T:gD af ag)(h1:fe af ag m (base x+q))(b:iT af x)(a:rZ x sum t)(c:aw<=4):
 xU af ag q m x (oG B af ag sum (aW aw sum) (m.ah<|aW aw sum) (m.b4<|aW aw sum) t x m.bN):=by unfold oG;split;{exact k_ h1.bN (dA.bN m) b rfl rfl rfl a};rename_i h;exact aoO br T h1 b a c ⟨ae,ae⟩
theorem Ns{i:Nat}(b:x.aj.op=6)(a:aw<=3)(hi:i<=2^aw)(aI:2*aw+1<=m.ah 0)(h:Bt m aw i):mB af ag m x (pv aw i):=by unfold pv;split;{rename_i e;subst e;exact⟨b,a,aI,h⟩};exact⟨b,a,ae,rfl,aI,h⟩
theorem LG(x:Live)(aw i:Nat):nC x (pv aw i)=base x:=by unfold pv;split<;>rfl
theorem Xi{t:nY}(h:yQ m x w t)(d:c4<=m.ah w):mB af ag m x (vG t<|m.b4 w):=by cases t with|find aw sum t=>obtain⟨h1,c,b,a⟩:=h;exact⟨aw,rfl,c,a,by rw[<-b];exact d,by rw[<-b],h1,rfl⟩|move aw i=>obtain⟨h1,c,b,a,e,f⟩:=h;exact⟨aw,rfl,c,e,by rw[<-a];exact d,by rw[<-a],h1,rfl,rfl,b,rfl,f⟩
theorem V?(x:Live)(t:nY)(h:List Cell):nC x (vG t h)=base x:=by cases t<;>rfl
theorem Hk(l i:Nat):aW l (i+2^l)=aW l i:=by unfold aW;rw[Nat.add_mod_right]
theorem ajv(br:Sound B)(T:gD af ag){t:nt}(h1:fe af ag m (base x+q))(c:iT af x)(hk:xI m x aw shard a_ t)(bd:m.ah (aW aw shard)≠0):
 xU af ag q m x (mK B af ag t (aW aw shard) (m.ah<|aW aw shard) (m.b4<|aW aw shard) x m.bN):=by obtain⟨l,rfl,j,aI,g,r,b⟩:=hk;cases t with|find sum t=>obtain⟨b,rfl⟩:=b;unfold mK;dsimp only;rw[aC bd];exact WV br T h1 c b ae|one o i h=>obtain⟨a,rfl,rfl,d,rfl,f⟩:=b;refine k_ h1.bN (dA.bN m) c rfl rfl rfl ⟨o,rfl,j,aI,?_,?_,a,rfl,rfl,d,f,bd⟩;{rw[Hk];exact g};rw[Hk];exact r|two o i=>obtain⟨a,rfl,rfl,d,e,f⟩:=b;refine k_ (by rw[LG];exact h1.bN) (dA.bN m) c rfl rfl rfl<|Ns a j ae aI ?_;intro p u;by_cases s:p=i;{subst s;rw[Hk]at g;exact⟨g,f,bd⟩};exact e p ae
theorem Zx{m0:Mem}{h:List Cell}{t:nt}(h1:fe af ag m (base x+q))(j:dA m0 m)(o:iT af x)(c:m.ca=m0.ca)(g:m.count=m0.count+1)(hk:xI m x aw shard a_ t)(bd:m.ah (aW aw shard)≠0):
 xU af ag q m0 x (mK B af ag t (aW aw shard) 0 h x m):=by obtain⟨l,rfl,r,aI,p,v,b⟩:=hk;cases t with|find sum t=>obtain⟨b,rfl⟩:=b;exact k_ h1 j o rfl c g ⟨b,l+1,ae,rfl⟩|one s i h=>obtain⟨a,rfl,rfl,d,rfl,f⟩:=b;refine k_ h1 j o rfl c g ⟨s,rfl,r,aI,?_,?_,a,rfl,rfl,d,f,bd⟩;{rw[Hk];exact p};rw[Hk];exact v|two s i=>obtain⟨a,rfl,rfl,d,e,f⟩:=b;refine k_ (by rw[LG];exact h1) j o rfl c g<|Ns a r ae aI ?_;intro u z;by_cases y:u=i;{subst y;rw[Hk]at p;exact⟨p,f,bd⟩};exact e u ae
theorem neg_add{v:Nat}(av:v<e7)(a:1<=n)(hn:n<=v):(v+neg n)%e7=v-n:=by unfold neg;unfold e7 at*;omega
theorem J_(h1:1<=n)(a:n<=1048576):e7-neg n=n:=by unfold neg e7;omega
theorem Ky(br:Sound B)(T:gD af ag){m:Mem}{x:Live}(h1:fe af ag m (nC x k+q))(o:iT af x)(hk:mB af ag m x k)(hc:m.count<4611686018427387900):
   xU af ag q m x (b7 B af ag k x m):=by
 have aI:=h1.dir;have mq:=T.zJ
 cases k with
 |find sum t=>unfold b7;dsimp only;split;{exact k_ h1.bN (dA.bN m) o rfl rfl rfl ⟨hk,_,aI.SL,rfl⟩};·exact k_ h1.bN (dA.bN m) o rfl rfl rfl ⟨hk,aI.uT ae,rfl,by show 2*(m.ah 0/2)+1<=m.ah 0;omega⟩
 |enter sum ah t=>obtain⟨K,l,D,rfl⟩:=hk;exact WV br T h1 o K D
 |lk ah t=>
   unfold b7;dsimp only
   have hw:∃l s,ah=aW l s/\l<=4:=by
     cases t with
     |find aw sum t=>exact⟨_,_,hk.2.2.1,by have:=hk.2.1;omega⟩
     |move aw i=>exact⟨_,_,hk.2.2.2.1,by have:=hk.2.1;omega⟩
   split;·rename_i M;exact k_ (by rw[V?];exact h1.bN) (dA.bN m) o rfl rfl rfl (Xi (m:=m.bN) hk M)
   . rename_i M;obtain⟨l,s,rfl,D⟩:=hw;have b:=fM (s:=s) D
     have Y:2*l+1<=m.ah 0:=by
       cases t with
       |find aw sum t=>have:=(Ke hk.2.2.1).1;have:=hk.2.2.2;omega
       |move aw i=>have:=(Ke hk.2.2.2.1).1;have:=hk.2.2.2.2.1;omega
     have E:=l! l s;have aP:=two_pos l;(have p1:1<=m.ah (aW l s):=by by_cases e:l=m.ah 0/2;{rw[e]at E⊢;exact(aI.cur _ E.1 E.2).1};have cc:2^(l+1)<=2^(m.ah 0/2):=lh ae;have:=aI.old (aW l s) ae ae;have:=IU;omega);have hX:m.live (aW l s):=⟨p1,ae⟩;refine k_ h1.bN (dA.bN m) o rfl rfl rfl ⟨hk,⟨p1,ae,bG _,fun _=>rfl,h1.iF.at_ _,?_⟩⟩;have:=Z_ aI b.1 b.2 hX;have:=h1.oE;have:=h1.qP;show(m.b4 (aW l s)).length<=ag;omega
 |mZ ah v a_ t=>
   obtain⟨hk,av⟩:=hk;unfold b7;dsimp only;by_cases e:m.ah ah=v
   . rw[ko e];dsimp only;rw[aN rfl];have G:=av.eq e;subst G;subst e
     have hw:∃l s,ah=aW l s/\l<=3/\2*l+1<=m.ah 0:=by
       cases t with
       |find aw sum t=>exact⟨_,_,hk.2.2.1,hk.2.1,hk.2.2.2⟩
       |move aw i=>exact⟨_,_,hk.2.2.2.1,hk.2.1,hk.2.2.2.2.1⟩
     obtain⟨l,s,rfl,D,Y⟩:=hw;have b:=fM (s:=s) (show l<=4 by omega);have E:=l! l s;have aP:=two_pos l;have X:=av.v1;have P:=av.v2;(have el:l=m.ah 0/2:=by refine q9 fun bU=>?_;have cc:2^(l+1)<=2^(m.ah 0/2):=lh ae;have:=aI.old (aW l s) ae ae;omega);(have S:m.ah 0%2=1:=by refine q9 fun bU=>?_;omega);have y:dA m (m.cy (aW l s) (m.ah (aW l s)+c4) (m.b4 (aW l s))):=dA.cy aI.dm aI.e2 ae ae (fun _ _=>⟨by have:=IU;omega,P⟩);(have N:aW l s<m.aZ.length:=by rw[aI.dm];omega);(have jK:aW l s<m.a_.length:=by rw[aI.e2];omega);have yf:=Xi (af:=af) (ag:=ag) (yQ.later y hk) (by rw[dY N,aN rfl];omega);rw[lA jK,aN rfl]at yf;refine k_ ?_ y o rfl rfl rfl yf;rw[V?];rw[el]at E⊢;exact h1.lk S E.1 E.2 (by rw[<-el];exact⟨X,P⟩)
   . rw[kF e];exact k_ h1.bN (dA.bN m) o rfl rfl rfl hk
 |half aw shard a_ t=>unfold b7;dsimp only;split;{rename_i bd;exact ajv br T h1 o hk bd};·exact k_ h1.bN (dA.bN m) o rfl rfl rfl hk
 |m? aw shard a_ h t=>unfold b7;dsimp only;by_cases e:m.ah (aW aw shard)=0;{rw[ko e];dsimp only;obtain⟨l,rfl,D,Y,M,G,K⟩:=id hk;have aX:=fM (s:=shard) (show l<=4 by omega);have bb:=fM (s:=shard) (show l+1<=4 by omega);have jf:=l! l shard;have Z:=l! (l+1) shard;(have el:l=m.ah 0/2:=by refine q9 fun bU=>?_;have hle:l+1<=m.ah 0/2:=ae;by_cases aU:l+1=m.ah 0/2;{rw[aU]at Z;have:=(aI.cur _ Z.1 Z.2).1;rw[<-aU]at this;omega};have cc:2^(l+1+1)<=2^(m.ah 0/2):=lh ae;have:=aI.old (aW (l+1) shard) ae ae;have:=IU;omega);(have S:m.ah 0%2=1:=by refine q9 fun bU=>?_;have aP:=two_pos l;have E:=jf;rw[el]at E;have:=(aI.cur _ E.1 E.2).2 ae;rw[<-el]at this;omega);(have hcut:cut a_ (l+1) (aW (l+1) shard-2^(l+1))=cut (m.b4 (aW l shard)) (l+1) (shard%2^(l+1)):=by rw[G];congr 1;unfold aW;omega);rw[hcut];(have N:aW (l+1) shard<m.aZ.length:=by rw[aI.dm];omega);have y:∀L,dA m (m.cy (aW (l+1) shard) 1 L):=fun L=>dA.cy aI.dm aI.e2 ae ae (fun _ _=>⟨ae,by rw[e];exact IU⟩);refine Zx ?_ (y _) o rfl rfl (xI.later (y _) hk) (by rw[dY N,aN rfl];decide);rw[el]at e M⊢;exact h1.lay S M e};· rw[kF e];exact Zx h1.bN (dA.bN m) o rfl rfl hk e
 | split =>unfold b7;dsimp only;have al:=wU (Aj o (by rw[show x.aj.op=6 from hk];decide)<|by rw[show x.aj.op=6 from hk];decide);split;{rename_i a8;refine k_ (by rw[LG];exact h1.bN) (dA.bN m) o rfl rfl rfl (Ns hk (aI.uT a8) (fw _) (by show _<=m.ah 0;omega) fun i hi=>absurd hi ae)};split;{have z:fe af ag m (base x+q):=h1;rw[al,iQ]at z;exact x1 z.bN (dA.bN m) o rfl rfl rfl};· refine k_ h1.bN (dA.bN m) o rfl rfl rfl ⟨hk,ae,?_⟩;have:=aI.d8;omega
 | om d aw =>obtain⟨A,rfl,D⟩:=hk;unfold b7;dsimp only;by_cases e:m.ah 0=2*aw;{rw[ko e];dsimp only;rw[aN rfl];(have N:0<m.aZ.length:=by rw[aI.dm];omega);have y:dA m (m.cy 0 (2*aw+1) []):=dA.cy aI.dm aI.e2 ae ae ae;refine k_ ?_ y o rfl rfl rfl<|Ns A D (fw _) (by rw[dY N,aN rfl];omega) fun i hi=>absurd hi ae;rw[LG,<-e];exact h1.split ae ae};· rw[kF e];exact k_ h1.bN (dA.bN m) o rfl rfl rfl A
 | pr aw =>obtain⟨A,D,Y,R⟩:=hk;have al:=wU<|Aj o ae ae;have z:fe af ag m (base x+q):=h1;rw[al,iQ]at z;unfold b7;dsimp only;by_cases e:m.ah 0=2*aw+1;{rw[ko e];have y:dA m (m.cy 0 (2*aw+2) []):=dA.cy aI.dm aI.e2 ae ae ae;refine x1 ?_ y o rfl rfl rfl;have el:aw=m.ah 0/2:=ae;rw[show 2*aw+2=m.ah 0+1 by omega];refine z.SR ae ?_ ?_;{rw[<-el];intro i hi pe;have QE:=wk aw;have:=(R (i-2^aw) ae).1;rwa[v? ae,show 2^aw+(i-2^aw)=i by omega]at this};rw[<-el];intro i hi pe;have QE:=wk aw;have I0:=Ff aw;by_cases cc:i-2^(aw+1)<2^aw;{have:=(R (i-2^(aw+1)) cc).2.1;rwa[v? ae,show 2^(aw+1)+(i-2^(aw+1))=i by omega]at this};have:=(R (i-2^(aw+1)-2^aw) ae).2.2;rwa[show i-2^(aw+1)-2^aw+2^aw=i-2^(aw+1)by omega,v? ae,show 2^(aw+1)+(i-2^(aw+1))=i by omega]at this};·rw[kF e];exact x1 z.bN (dA.bN m) o rfl rfl rfl
 |h0 ah de stop t=>
   unfold b7;dsimp only;have O:=h1.oE;have fB:=h1.qP;have V:=h1.b0;split;·rename_i es;cases t with|back t=>(have:ah=ll/\stop=wP:=by cases t with|done r=>exact⟨hk.2.1,hk.2.2.2.1⟩|d? j s g=>exact⟨hk.2.1,hk.2.2.1⟩);rw[this.1,this.2]at es;have apW:m.ah 32=18446744073709551615:=es;omega|ag f at_ there c r=>have z:fe af ag m (base x+q):=h1;rw[wU hk.2.2.2.2.2.1,iQ]at z;exact x1 z.bN (dA.bN m) o rfl rfl rfl|a6 f at_ there c=>exact Nn _ h1.bN (dA.bN m) o rfl rfl rfl (by have:=hk.2.2.2.1;omega)
   . rename_i es;refine k_ ?_ (dA.bN m) o rfl rfl rfl ⟨Ae.later (dA.bN m) hk,?_,es,?_⟩
     . have:nC x (.i' ah de stop (m.ah ah) t)=nC x (.h0 ah de stop t):=by
         cases t with
         |back t=>cases t<;>rfl
         |ag f at_ there c r=>rfl
         |a6 f at_ there c=>rfl
       rw[this];exact h1.bN
     {cases t with|back t=>(have:ah=32:=by cases t with|done r=>exact hk.2.1|d? j s g=>exact hk.2.1);rw[this];unfold e7;omega|ag f at_ there c r=>rw[show ah=32 from hk.1];unfold e7;omega|a6 f at_ there c=>rw[show ah=33 from hk.1];unfold e7;omega};·intro al;cases t with|back t=>exact absurd rfl (al t)|ag f at_ there c r=>rw[show ah=32 from hk.1,show stop=ag from hk.2.2.1];exact fB|a6 f at_ there c=>rw[show ah=33 from hk.1,show stop=4611686018427387903 from hk.2.2.1];exact V
 |i' ah de stop v t=>
   obtain⟨hk,JW,sd,M6⟩:=hk;unfold b7;dsimp only;have O:=h1.oE;have fB:=h1.qP;have V:=h1.b0;by_cases e:m.ah ah=v;·rw[ko e];dsimp only;rw[aN rfl];subst e;cases t with|back t=>(cases t with|done r=>obtain⟨A,rfl,rfl,rfl,f_⟩:=hk;have H:m.ah 32=size m+(base x+q):=O;rw[VP f_]at H;have aU:(m.ah ll+neg 1)%e7=m.ah 32-1:=neg_add JW ae (by show 1<=m.ah 32;omega);rw[aU];have y:dA m (m.cy ll (m.ah 32-1) []):=dA.cy aI.dm aI.e2 ax (by intro h;cases h) (by intro _ h;exact absurd h ax);exact x1 (h1.count ae ae) y o rfl rfl rfl|d? j b_ cd=>obtain⟨A,rfl,rfl,⟨n,s3,uJ,rfl⟩,a,b,c,d⟩:=hk;have H:m.ah 32=size m+(e7-neg n+q):=O;rw[J_ s3 uJ]at H;have aU:(m.ah ll+neg n)%e7=m.ah 32-n:=neg_add JW s3 (by show n<=m.ah 32;omega);rw[aU];have y:dA m (m.cy ll (m.ah 32-n) []):=dA.cy aI.dm aI.e2 ax (by intro h;cases h) (by intro _ h;exact absurd h ax);exact L6 (h1.count ae ae) y o rfl rfl rfl A a b c d)|ag f at_ there c r=>obtain⟨rfl,rfl,rfl,A,rfl,f_,hp⟩:=hk;have H:m.ah 32=size m+(base x+q):=O;rw[wU f_]at H;(have aU:(m.ah ll+1)%e7=m.ah 32+1:=by show(m.ah 32+1)%e7=_;unfold e7;omega);rw[aU];(have cc:m.ah 32<stop:=by have:m.ah ll<=stop:=M6 (by intro b h;cases h);have:m.ah ll≠stop:=sd;show m.ah ll<stop;omega);have y:dA m (m.cy ll (m.ah 32+1) []):=dA.cy aI.dm aI.e2 ax (by intro h;cases h) (by intro _ h;exact absurd h ax);have U:iT af {x with gn:=true}:=⟨o.lV,o.px,o.pol,o.nN,o.oP,o.n,o.s',o.Hq,o.E?,o.rI,o.nM,o.sum,fun _=>A⟩;refine k_ ?_ y U rfl rfl rfl ⟨?_,.inr rfl⟩;{show fe af stop _ (1+q);exact h1.count ae ae};·have C:=hp.later y;exact⟨C.1,C.2.1,C.2.2.1,C.2.2.2.1,C.2.2.2.2.1,⟨C.2.2.2.2.2.ok,C.2.2.2.2.2.pol,C.2.2.2.2.2.key,C.2.2.2.2.2.perm⟩⟩|a6 f at_ there c=>obtain⟨rfl,rfl,rfl,A,hp⟩:=hk;(have cc:m.ah 33<4611686018427387903:=by have:m.ah rX≠4611686018427387903:=sd;show m.ah rX<_;have:m.ah rX<=4611686018427387903:=V;omega);(have aU:(m.ah rX+1)%e7=m.ah 33+1:=by show(m.ah 33+1)%e7=_;unfold e7;omega);rw[aU];have y:dA m (m.cy rX (m.ah 33+1) []):=dA.cy aI.dm aI.e2 ax (by intro h;cases h) (by intro _ h;exact absurd h ax);have yi:x.aj.op<=4:=ae;have aS:=xn T o yi;have U:iT af {x with a6:=((m.ah 33+1:Nat):Int)}:=⟨o.lV,o.px,o.pol,o.nN,o.oP,o.n,o.s',by show(0:Int)<=((m.ah 33+1:Nat):Int);omega,by show((m.ah 33+1:Nat):Int)<=4611686018427387903;omega,o.rI,o.nM,o.sum,o.res⟩;have fW:=o.nM<|.inl A;have u:=hp.2.2.2.2.2;(have yl:(c.held.length:Int)<=(c_ af x).bl:=by have:=u.perm.2;rw[u.pol]at this;exact this fW);have oO:=br.take (c_ af x) c ((m.ah 33+1:Nat):Int) aS.1 fW u.ok yl;have aB:=(br.same (c_ af x) c ((m.ah 33+1:Nat):Int)).1;have C:=hp.later y;refine NM (x:={x with a6:=((m.ah 33+1:Nat):Int)}) _ (h1.a6 ae) y U rfl rfl rfl ⟨yi,C.2.1,C.2.2.1,C.2.2.2.1,C.2.2.2.2.1,⟨oO.1,by rw[aB.1];exact u.pol,by rw[aB.2];exact u.key,by rw[aB.1];exact u.perm.1,fun _=>?_⟩⟩<|.inl<|.inr A;rw[aB.1,u.pol];exact oO.2
   . rw[kF e];dsimp only;rw[aC bI];refine k_ ?_ (dA.bN m) o rfl rfl rfl<|Ae.later (dA.bN m) hk
     have:nC x (.i' ah de stop v t)=nC x (.h0 ah de stop t):=by
       cases t with
       |back t=>cases t<;>rfl
       |ag f at_ there c r=>rfl
       |a6 f at_ there c=>rfl
     rw[<-this];exact h1.bN
 |put f at_ there c r=>obtain⟨⟨A,av,⟨l,D,hw⟩,ho,nb,u⟩,f_⟩:=hk;have b:=fM (s:=x.sum) D;rw[<-hw]at b;unfold b7;dsimp only;by_cases e:m.ah f.ah=f.v;{rw[ko e];dsimp only;rw[aN rfl];have G:=av.eq e;have X:=av.v1;have P:=av.v2;have J:m.live f.ah:=⟨ae,ae⟩;have I:=aI.small f.ah b.1 b.2;rw[ov J.2,e]at I;have gb:=av.e8;have y:∀L,dA m (m.cy f.ah (f.v+1) L):=fun L=>dA.cy aI.dm aI.e2 ae ae fun _ _=>⟨ae,J.2⟩;(have rz:f.v+1<c4:=by have:=I.1;have aD:(f.v:Int)<4611686018427387900:=ae;unfold c4;omega);(have G6:h9 f.cells at_ there c=h9 f.cells (e6 f.cells c.pol c.key) (e0 f.cells c.pol c.key) c:=by rw[ho,nb,u.pol,u.key]);(have s0:qO af f.ah (h9 f.cells at_ there c):=by rw[G6];refine⟨T? av.iF.wf u.ok ae,fun aw s pg W d F=>?_,fun d F=>?_⟩;{rw[Nr av.iF.wf]at F;split at F;{subst F;rw[hw]at W;obtain⟨aO,aU⟩:=Ke W;subst aO;unfold lg;rw[u.pol,u.key,<-o.sum,aU]};exact av.iF.shard aw s pg W d F};rw[Nr av.iF.wf]at F;split at F;{subst F;exact u.perm};exact av.iF.perm d F);(have hlen:(h9 f.cells at_ there c).length=f.cells.length+if there then 0 else 1:=by rw[G6,apg,nb,u.pol,u.key]);have z:fe af ag m (base x+q):=h1;have AR:∀Q,base x+q+(m.b4 f.ah).length=Q+(h9 f.cells at_ there c).length->fe af ag (m.cy f.ah (f.v+1)<|h9 f.cells at_ there c) Q:=fun Q H=>z.go b.1 b.2 J ae rz (by have:=I.1;omega) s0 H;cases K:there with|true=>subst K;rw[aN rfl];rw[aN rfl]at hlen;exact Nn r (AR (base x+q)<|by rw[hlen,G];omega) (y _) o rfl rfl rfl A|false=>subst K;rw[aC bI];rw[aC bI]at hlen;(have aE:x.gn=true:=by rcases f_ with h|h;cases h;exact h);have bZ:=VP aE;exact x1 (AR q<|by rw[hlen,G];omega) (y _) o rfl rfl rfl};·rw[kF e];exact k_ h1.bN (dA.bN m) o rfl rfl rfl ⟨A,rfl⟩
 |allow f at_ there c=>obtain⟨A,hp⟩:=hk;have aS:=xn T o ae;have u:=hp.2.2.2.2.2;unfold b7;dsimp only;split;{exact Nn _ h1.bN (dA.bN m) o rfl rfl rfl ae};·have hn:=o.n A;have w5:=h1.o';have A6:=br.aJ (c_ af x) c.aJ m.ca x.aj.n aS.1 (o.rI A) u.ok.yI u.ok.yJ w5.1 w5.2 hn.1 hn.2;refine NM _ h1.bN (dA.bN m) o rfl rfl rfl ⟨hp.1,(hp.later<|dA.bN m).2.1,hp.2.2.1,hp.2.2.2.1,hp.2.2.2.2.1,⟨⟨u.ok.py,u.ok.og,u.ok.len,u.ok.bytes,A6.1,A6.2,u.ok.uE,u.ok.zI,u.ok.e8⟩,u.pol,u.key,u.perm⟩⟩<|.inl<|.inl A
 |k? c=>have al:=wU<|Aj o (by rw[show x.aj.op=4 from hk];decide) (by rw[show x.aj.op=4 from hk];decide);have z:fe af ag m (base x+q):=h1;rw[al,iQ]at z;exact x1 z.bN (dA.bN m) o rfl rfl rfl
 |n5=>have:=aI.d8;have I1:2^((m.ah 0+1)/2)<=16:=lh (show(m.ah 0+1)/2<=4 by omega);exact k_ h1.bN (dA.bN m) o rfl rfl rfl ⟨hk,rfl,two_pos _,I1,ax,ax⟩
 |mY j b_ cd ah v cells=>obtain⟨⟨a,_,c,d,e,f⟩,av,_,hw⟩:=hk;have al:=wU (Aj o ae ae);have z:fe af ag m (base x+q):=h1;unfold b7;dsimp only;split;{rw[al,iQ]at z;exact L6 z.bN (dA.bN m) o rfl rfl rfl a c d e ae};·rename_i bU;exact k_ h1.bN (dA.bN m) o rfl rfl rfl ⟨⟨a,rfl,c,d,e,f⟩,hw,ae,cells,_,⟨av.v1,av.v2,av.le,av.eq,av.iF,av.e8⟩,rfl,rfl⟩
 |ke j b_ cd ah v rest n=>obtain⟨⟨a,_,c,d,e,f⟩,⟨l,D,hw⟩,hn,cells,p,av,zx,RL⟩:=hk;have al:=wU (Aj o ae ae);have z:fe af ag m (base x+q):=h1;have b:=fM (s:=j) D;rw[<-hw]at b;unfold b7;dsimp only;by_cases es:m.ah ah=v;{rw[ko es];dsimp only;rw[aN rfl];have G:=av.eq es;have X:=av.v1;have P:=av.v2;have J:m.live ah:=⟨ae,ae⟩;have I:=aI.small ah b.1 b.2;rw[ov J.2,es]at I;have gb:=av.iF.wf.e8;have y:dA m (m.cy ah (v+1) rest):=dA.cy aI.dm aI.e2 ae ae (fun _ _=>⟨ae,J.2⟩);(have rz:v+1<c4:=by have:=I.1;have aD:(v:Int)<4611686018427387900:=ae;unfold c4;omega);(have EF:qO af ah rest:=by rw[zx];exact av.iF.filter p);(have hle:rest.length<=cells.length:=by rw[zx];exact List.length_filter_le _ _);refine k_ ?_ y o rfl rfl rfl ⟨a,rfl,rfl,⟨n,hn,ae,rfl⟩,c,d,ae,ae⟩;show fe af ag _ (e7-neg n+q);rw[J_ hn ae];exact z.go b.1 b.2 J ae rz (by have:=I.1;omega) EF (by rw[G,al];omega)};rw[kF es];rw[al,iQ]at z;exact L6 z.bN (dA.bN m) o rfl rfl rfl a c d e ae
end ai
section
open Go.RowKit
def nQ(t:TypeId)(n:Nat):Bool:=
 !(t==87)&&!(t==218)&&!(t==223)&&!(t==193)&&(n==1||(!(t==46)&&!(t==41)))
def C6(t:TypeId):Bool:=t==87||t==193
structure Fr(B:Nat)(X:List Nat)(w w':World):Prop where
 os:w'.os=w.os
 tape:w'.tape=w.tape
 output:w'.output=w.output
 size:w.heap.size<=w'.heap.size
 block:∀k,k<B->w'.heap[k]?=w.heap[k]?
 quiet:∀(k:Nat) (c:Array Value) (t:TypeId) (f:Nat×Nat),w.heap[k]?=some (.cells c t f)->(nQ t c.size=true\/(C6 t=true/\k∉X))->w'.heap[k]?=some (.cells c t f)
end
section
open Go.RowKit
variable {B : Nat} {X:List Nat}
variable{a:Array Value}{b:Nat}{w w':World}{p:Addr}{t:TypeId}
theorem Fr.refl(B:Nat)(X:List Nat)(w:World):Fr B X w w:=⟨rfl,rfl,rfl,bG _,fun _ _=>rfl,fun _ _ _ _ h _=>h⟩
theorem Fr.trans{a b c:World}(h:Fr B X a b)(k:Fr B X b c):Fr B X a c:=
 ⟨k.os.trans h.os,k.tape.trans h.tape,k.output.trans h.output,eB h.size k.size,fun i hi=>(k.block i hi).trans<|h.block i hi,fun i c t f hi a8=>k.quiet i c t f (h.quiet i c t f hi a8) a8⟩
theorem Fr.mono{d:Nat}{e:List Nat}(h:Fr B X w w')(br:d<=B)(g:∀x,x∈X->x∈e):Fr d e w w':=
 ⟨h.os,h.tape,h.output,h.size,fun k hk=>h.block k ae,fun k c t f hk a8=>h.quiet k c t f hk<|a8.imp id fun h=>⟨h.1,fun au=>h.2<|g k au⟩⟩
theorem Fr.drewN{a:World}(h:Fr B X a w)(n:Nat):Fr B X a (w.drewN n):=⟨h.os,h.tape,h.output,h.size,h.block,h.quiet⟩
theorem Fr.drew{a:World}(h:Fr B X a w):Fr B X a w.drew:=⟨h.os,h.tape,h.output,h.size,h.block,h.quiet⟩
theorem Fr.below{a:World}(h:Fr B X a w)(br:B<=w)(k:Below w w w'):Fr B X a w':=
 h.trans ⟨k.os,k.tape,k.output,k.size,fun i hi=>k.block i ae,fun i c t f hi _=>(k.block i<|lt_of_block hi).trans hi⟩
theorem Fr.alloc{a:World}(h:Fr B X a w)(br:B<=w)(o:Obj):Fr B X a (w.alloc o):=
 h.below br ((b5 _ _).alloc (bG _) o)
theorem Fr.pw(br:B<=w)(k:Below w w w'):Fr B X w w':=(Fr.refl B X w).below br k
theorem Fr.p_{a:World}(h:Fr B X a w)(br:B<=p.block)(hn:a<=p.block)(u:Value):Fr B X a (w.setCell p u):=
 ⟨h.os,h.tape,h.output,by simpa[World.setCell]using h.size,fun k hk=>by rw[Below.heap_setCell _ _ _ _ ae];exact h.block k hk,
  fun k c t f hk a8=>by have:=lt_of_block hk;rw[Below.heap_setCell _ _ _ _ ae];exact h.quiet k c t f hk a8⟩
theorem Fr.setCell{a:World}(h:Fr B X a w){c:Array Value}{f:Nat×Nat}(hp:w.heap[p.block]?=some (.cells c t f))(br:B<=p.block)(a':nQ t c.size=false)(d:C6 t=true->p.block∈X)(u:Value):Fr B X a (w.setCell p u):=
 h.trans ⟨rfl,rfl,rfl,by simp[World.setCell],fun k hk=>Below.heap_setCell _ _ _ _ ae,
   fun k bx hf g hk a8=>by
     rw[Below.heap_setCell _ _ _ _ fun e=>?_]
     . exact hk
     . subst e
       rw[hp]at hk
       cases hk
       rcases a8 with a8|⟨a8,hn⟩
       . rw[a']at a8;cases a8
       . exact hn<|d a8⟩
theorem Fr.grown{a:World}{row:Option Nat}(h:Fr B X a w)(br:B<=w)(aS:w.grownBy w' row)(aE:∀g,row=some g->B<=g/\∃c t f,w.heap[g]?=some (.cells c t f)/\nQ t c.size=false/\C6 t=false):Fr B X a w':=
 h.trans ⟨aS.os,aS.tape,aS.output,aS.size,fun k hk=>aS.block k ae fun e=>by have:=(aE k e.symm).1;omega,
   fun k c t f hk a8=>by
     rw[aS.block k (lt_of_block hk) fun e=>?_]
     . exact hk
     . obtain⟨_,bx,hf,j,d,hn,i⟩:=aE k e.symm
       rw[hk]at d
       cases d
       rcases a8 with a8|⟨a8,_⟩
       . rw[hn]at a8;cases a8
       . rw[i]at a8;cases a8⟩
def aq(w:World)(b:Nat)(t:TypeId)(a:Array Value):Prop:=w.heap[b]?=some (.cells a t (0,0))
theorem aq.dL{v:Value}(h:aq w b t #[v]):w.cell? ⟨b,0,none⟩=some v:=cell_of_one h
theorem aq.cell(h:aq w b t a)(i:Nat):w.cell? ⟨b,i,none⟩=a[i]?:=by unfold aq at h;simp[World.cell?,h]
theorem aq.free(h:aq w b t a)(i:Nat):w.frozen? ⟨b,i,none⟩=false:=by unfold aq at h;simp[World.frozen?,h]
theorem aq.lt(h:aq w b t a):b<w:=lt_of_block h
theorem aq.keep(h:Fr B X w w')(al:aq w b t a)(c:nQ t a.size=true):aq w' b t a:=h.quiet b a t _ al<|.inl c
theorem aq.below(al:aq w b t a){S:Nat}(h:Below S w w')(c:b<S):aq w' b t a:=(h.block b c).trans al
theorem aq.ne{d:Nat}{hf:TypeId}{e:Array Value}(h:aq w b t a)(c:aq w d hf e)(hn:t≠hf):b≠d:=by rintro rfl;unfold aq at h c;rw[h]at c;cases c;exact hn rfl
theorem aq.alloc(h:aq w b t a)(o:Obj):aq (w.alloc o) b t a:=(Below.heap_alloc w o b h.lt).trans h
theorem aq.new(w:World)(t:TypeId)(a:Array Value):aq (w.alloc<|.cells a t (0,0)) w t a:=heap_alloc_new w _
theorem aq.dj(h:aq w b t a)(p:Addr)(u:Value)(hn:b≠p.block):aq (w.setCell p u) b t a:=(Below.heap_setCell w p u b hn).trans h
theorem aq.setCell(h:aq w b t a)(i:Nat)(u:Value):aq (w.setCell ⟨b,i,none⟩ u) b t (a.setIfInBounds i u):=by unfold aq at*;have cc:=lt_of_block h;(have c:w.heap[b]=.cells a t (0,0):=by simpa[Array.getElem?_eq_getElem cc]using h);show(w.heap.modify b _)[b]?=_;rw[Array.getElem?_eq_getElem<|by simpa using cc,Array.getElem_modify_self,c];rfl
end
section
open Go.RowKit ai
variable{b i:Nat}{v:Value}{y:World}{L:List Nat}
theorem cB{W w':World}{o:Nat}(al:RowKit.Below W W w')(h:W.cell? ⟨b,o,none⟩=some v):w'.cell? ⟨b,o,none⟩=some v:=by(have cc:b<W:=by have:=qF _ _ h;simpa using this);exact(al.cell (p:=⟨b,o,none⟩) cc).trans h
theorem jP(d:y.cell? ⟨b,i,none⟩=some v):RowKit.Hid (∀W:World,RowKit.Below y y W->W.cell? ⟨b,i,none⟩=some v):=fun W al=>cB al d
theorem cm{T:World->Prop}(d:y.cell? ⟨b,i,none⟩=some v)(k:RowKit.Hid (∀W:World,RowKit.Below y y W->T W)):RowKit.Hid (∀W:World,RowKit.Below y y W->W.cell? ⟨b,i,none⟩=some v/\T W):=fun W al=>⟨cB al d,k W al⟩
def fj(w:World)(v:Value)(L:List Nat):Prop:=
 (∀x∈L,x<256)/\∃a c,v=.slice a L.length c/\L.length<=c/\c<=maxLen/\
  (0<L.length->∃b off,a=some ⟨b,off,none⟩/\∀j,j<L.length->w.cell? ⟨b,off+j,none⟩=some (.int .u8 (L.getD j 0:Nat)))
theorem V5(h:∀x∈L,x<256)(k:Nat):L.getD k 0<256:=by rw[eh];cases hk:L[k]? with|none=>decide|some x=>exact h x<|List.mem_of_getElem? hk
theorem TU{k:Nat}(h:k<L.length):L.take (k+1)=L.take k++[L.getD k 0]:=by rw[List.take_succ_eq_append_getElem h,eh,eG h];rfl
def rM(h:Nat)(l:List Nat):Nat:=l.foldl xx h
theorem aos(h b:Nat):xx h b<18446744073709551616:=by unfold xx e7;omega
theorem HB:∀(l:List Nat) {h:Nat},h<18446744073709551616->rM h l<18446744073709551616
 |[],h,a=>by unfold rM;exact a
 |b::l,h,a=>by(have e:rM h (b::l)=rM (xx h b) l:=by unfold rM;rw[List.foldl_cons]);exact HB l<|aos h b
theorem abZ(h:Nat)(l:List Nat)(b:Nat):rM h (l++[b])=xx (rM h l) b:=by unfold rM;rw[List.foldl_append,List.foldl_cons,List.foldl_nil]
theorem KI(ak ah aZ:Int)(w:World)(a:0<=ak)(h1:ak<64)(c:0<=ah)(d:ah<aZ):
 aR 111 #[ak,ah,aZ] w (ga bA w):=by go_enter func111,ntmps111;go_wp2;go_ret;exact⟨rfl,rfl⟩
theorem ao0(h:Nat)(v:Value)(L:List Nat)(w:World)(bY:fj w v L)(e:h<18446744073709551616):
 aR 114 #[.int .u64 h,v] w (ga (.int .u64 (rM h L:Nat)) w):=by obtain⟨d,a,c,rfl,o,hc,aE⟩:=bY;unfold maxLen at hc;have ej:=ad aE;have l:=ad d;have fz:=ad e;clear aE d e;go_enter func114,ntmps114;go_wp2;go_loop [0,6,9] (fun s _ i=>∃k:Nat,i=.int .i64 k/\k<=L.length/\s=.int .u64 (rM h (L.take k):Nat)) (fun _ _ i=>L.length-(intOf i).toNat);(case atStart=>exact⟨0,rfl,fw _,rfl⟩);case round=>obtain⟨k,rfl,hk,rfl⟩:=hrel;by_cases cg:k<L.length;{obtain⟨b,off,rfl,f⟩:=ej.out ae;have gx:=f k cg;have m:=ad (show rM h (L.take<|k+1)=xx (rM h<|L.take k) (L.getD k 0)by rw[TU cg,abZ]);have au:=V5 l.out k;have j:=HB (L.take k) fz.out;generalize rM h (L.take k)=S at*;clear f ej;generalize L.getD k 0=x at*;have g:=u64_xor_nat S x j ae;(have p:IntKind.u64.wrap (x:Int)=(x:Int):=by rw[IntKind.wrap_u64];omega);(have n:IntKind.u64.wrap (((S^^^x:Nat):Int)*1099511628211)=((xx S x:Nat):Int):=by rw[IntKind.wrap_u64];unfold xx e7;omega);go_wp2;go_roundw;(case rel=>exact⟨k+1,by go_num,ae,by rw[m.out]⟩);case measure=>simp[intOf];omega};obtain rfl:k=L.length:=ae;rw[ou];go_wp2;go_ret;exact⟨rfl,rfl⟩
theorem G_(n:Int)(m:Int)(l:Nat)(hm:(BitVec.ofInt 64 m).toNat=2^l-1)(a:l<=5):bits .and .i64 n m=n%2^l:=by(have key:(BitVec.ofInt 64 n&&&BitVec.ofInt 64 m).toNat=(n%((2^64:Nat):Int)).toNat%2^l:=by rw[BitVec.toNat_and,BitVec.toNat_ofInt,hm,Nat.and_two_pow_sub_one_eq_mod]);show IntKind.i64.wrap ((BitVec.ofInt 64 n&&&BitVec.ofInt 64 m).toNat:Nat)=_;rw[key,IntKind.wrap_i64];have h:l=0\/l=1\/l=2\/l=3\/l=4\/l=5:=ae;rcases h with rfl|rfl|rfl|rfl|rfl|rfl<;>omega
theorem abN(v:Value)(L:List Nat)(w:World)(bY:fj w v L):
 aR 76 #[v] w (ga (.int .u64 (e4 L:Nat)) w):=by have a:Hid (aR 114 #[.int .u64 14695981039346656037,v] w<|ga (.int .u64 (e4 L:Nat)) w):=ad (ao0 14695981039346656037 v L w bY ax);go_enter func76,ntmps76;go_wp2_with(go_at_call 114;refine a.out.mono ?_;rintro e w1 ⟨rfl,rfl⟩);go_ret;exact⟨rfl,rfl⟩
theorem E8(aw sum:Nat)(w:World)(a:aw<=5):
 aR 41 #[aw,.int .u64 sum] w (ga (aW aw sum:Nat) w):=by have h:aw=0\/aw=1\/aw=2\/aw=3\/aw=4\/aw=5:=ae;have m0:=fun n=>G_ n 0 0 ax ax;have m1:=fun n=>G_ n 1 1 ax ax;have m2:=fun n=>G_ n 3 2 ax ax;have m3:=fun n=>G_ n 7 3 ax ax;have m4:=fun n=>G_ n 15 4 ax ax;have m5:=fun n=>G_ n 31 5 ax ax;have M:=ad<|bw m0<|bw m1<|bw m2<|bw m3<|bw m4 m5;clear m0 m1 m2 m3 m4 m5 a;rcases h with rfl|rfl|rfl|rfl|rfl|rfl;{go_enter func41,ntmps41;go_wp2;(have bd:wrap64 (1+bits .and .i64 (wrap64 (sum:Int)) 0)=((aW 0 sum:Nat):Int):=by rw[M.out.1];unfold aW wrap64;omega);simp only[bd];go_ret;exact⟨rfl,rfl⟩};{go_enter func41,ntmps41;go_wp2;(have bd:wrap64 (2+bits .and .i64 (wrap64 (sum:Int)) 1)=((aW 1 sum:Nat):Int):=by rw[M.out.2.1];unfold aW wrap64;omega);simp only[bd];go_ret;exact⟨rfl,rfl⟩};{go_enter func41,ntmps41;go_wp2;(have bd:wrap64 (4+bits .and .i64 (wrap64 (sum:Int)) 3)=((aW 2 sum:Nat):Int):=by rw[M.out.2.2.1];unfold aW wrap64;omega);simp only[bd];go_ret;exact⟨rfl,rfl⟩};{go_enter func41,ntmps41;go_wp2;(have bd:wrap64 (8+bits .and .i64 (wrap64 (sum:Int)) 7)=((aW 3 sum:Nat):Int):=by rw[M.out.2.2.2.1];unfold aW wrap64;omega);simp only[bd];go_ret;exact⟨rfl,rfl⟩};{go_enter func41,ntmps41;go_wp2;(have bd:wrap64 (16+bits .and .i64 (wrap64 (sum:Int)) 15)=((aW 4 sum:Nat):Int):=by rw[M.out.2.2.2.2.1];unfold aW wrap64;omega);simp only[bd];go_ret;exact⟨rfl,rfl⟩};go_enter func41,ntmps41;go_wp2;(have bd:wrap64 (32+bits .and .i64 (wrap64 (sum:Int)) 31)=((aW 5 sum:Nat):Int):=by rw[M.out.2.2.2.2.2];unfold aW wrap64;omega);simp only[bd];go_ret;exact⟨rfl,rfl⟩
def aaJ(r:c2):Value:=.agg #[r.e,r.granted,r.left,r.wait,r.a6,r.now]
def NN(d:Bool)(r:c2):Value:=.agg #[d,r.e,r.granted,r.left,r.wait,r.a6,r.now]
theorem alo(v:Value)(w:World):
 aR 122 #[v] w (dM (.tuple #[v,NN false<|err 0]) w):=by go_enter func122,ntmps122;go_wp2;exact cJ (by simp[results,results122,go_sem,NN,err]) rfl ⟨rfl,(RowKit.Below.refl _ _).alloc (bG _) _⟩
theorem agL(r:c2)(w:World):
 aR 150 #[aaJ r] w (dM (.tuple #[.nilFunc,NN true r]) w):=by obtain⟨e,g,l,wt,s,n⟩:=r;unfold aaJ NN;go_enter func150,ntmps150;go_wp2;go_region;go_wp2;exact mD ⟨rfl,(((RowKit.Below.refl _ _).alloc (bG _) _).alloc bI _).drew⟩
theorem NZ(b:Nat)(ws l:Value)(a n c:Nat)(aM d:Int)(w:World)(h:w.heap[b]?=some (.cells #[.slice (some a) n c,aM,d,l] 218 (0,0))):
 aR 112 #[.pointer<|some b] w (ga n w):=by(have bJ:w.cell? ⟨b,0,none⟩=some (.slice (some a) n c):=by simp[World.cell?,h]);clear h;go_enter func112,ntmps112;go_wp2;go_ret;exact⟨rfl,rfl⟩
end
open Go.RowKit ai
variable {B : Nat} {X:List Nat}
variable{w w':World}{t:TypeId}{n:Nat}{v:Value}{xs:List Value}
def Row(w:World)(t:TypeId)(size n:Nat)(v:Value)(xs:List Value):Prop:=
 xs.length=n*size/\∃a c,v=.slice a n c/\n<=c/\c<=maxLen/\(0<n->∃b off arr,a=some ⟨b,off,none⟩/\aq w b t arr/\∀j u,xs[j]?=some u->arr[off+j]?=some u)
theorem Row.keep(h:Fr B X w w'){size:Nat}(aE:Row w t size n v xs)(f:∀n,nQ t n=true):Row w' t size n v xs:=by obtain⟨h1,a,c,i,j,d,e⟩:=aE;refine⟨h1,a,c,i,j,d,fun hn=>?_⟩;obtain⟨b,off,arr,g,l,k⟩:=e hn;exact⟨b,off,arr,g,l.keep h<|f _,k⟩
theorem Row.nil(w:World)(t:TypeId)(size:Nat)(a:Option Addr)(c:Nat)(hc:c<=maxLen):Row w t size 0 (.slice a 0 c) []:=⟨bI,a,c,rfl,fw _,hc,fun h=>absurd h ae⟩
theorem Row.own{base:Nat}{size:Nat}(h:w.ownsRow base t size v n xs):Row w t size n v xs:=by refine⟨h.1,?_⟩;rcases h.2 with⟨rfl,rfl⟩|⟨g,cap,cur,rfl,f,c,a,b,e,d⟩;{exact⟨none,0,rfl,bG _,fw _,fun h=>absurd h ae⟩};refine⟨_,_,rfl,a,b,fun _=>⟨g,0,cur,rfl,c,fun j u hu=>?_⟩⟩;rw[<-d,List.getElem?_take]at hu;split at hu;{rw[iQ];simpa using hu};cases hu
def cb(w:World)(v:Value)(L:List Nat):Prop:=(∀x∈L,x<256)/\Row w 5 1 L.length v (L.map fun(x:Nat)=>Value.int .u8 x)
def b'(w:World)(v:Value)(L:List Int):Prop:=Row w 2 1 L.length v<|L.map fun x=>Value.int .i64 x
theorem cb.keep(h:Fr B X w w'){L:List Nat}(k:cb w v L):cb w' v L:=⟨k.1,k.2.keep h<|by simp[nQ]⟩
theorem b'.keep(h:Fr B X w w'){L:List Int}(k:b' w v L):b' w' v L:=Row.keep h k (by simp[nQ])
