import Derived.Lib.Hide
import Derived.Test.YtoglcccmgnjchaaGreatProg
import Derived.WalkKit
import Derived.WalkSpells
import Derived.WalkLawsBesides
import Derived.Deep.QuietTactic
import Derived.BigQuiet
import Derived.Lib.Mul64
import Derived.Laws.Bits64b
import Derived.IntWalk
import Derived.Laws.MathBits
set_option linter.all false
set_option maxHeartbeats 8000000
set_option maxRecDepth 100000
namespace Go.Proofs.YtoglcccmgnjchaaGreat
open Go.Proofs.Tryz
section
variable{p:Prop}{v:Value}{n:Nat}
theorem ae(h:p:=by omega):p:=h
theorem ax(h:p:=by decide):p:=h
theorem bI(h:p:=by simp):p:=h
theorem b!(h:p:=by kernel_rfl):p:=h
theorem ad(h:p):RowKit.Hid p:=h
theorem e?(h:p)(k:p->∃a c,v=.slice a n c:=by rintro⟨_,a,c,e,_⟩;exact⟨a,c,e⟩):∃a c,v=.slice a n c:=k h
theorem jz(h:p)(k:p->∃a c,v=.slice a n c:=by rintro⟨_,_,a,c,e,_⟩;exact⟨a,c,e⟩):∃a c,v=.slice a n c:=k h
theorem tX{C:Nat->Value->Prop}{L:List Value}{v0 v1 v2 v3 v4 v5 v6 b c v9 v10 v11 v12:Value}(x:∀j v,j<13->L[j]?=some v->C j v)(cI:L[0]?=some v0:=by rfl)(aO:L[1]?=some v1:=by rfl)(aU:L[2]?=some v2:=by rfl)(cr:L[3]?=some v3:=by rfl)(eI:L[4]?=some v4:=by rfl)(h:L[5]?=some v5:=by rfl)(i:L[6]?=some v6:=by rfl)(k:L[7]?=some b:=by rfl)(f:L[8]?=some c:=by rfl)(g:L[9]?=some v9:=by rfl)(d:L[10]?=some v10:=by rfl)(e:L[11]?=some v11:=by rfl)(a:L[12]?=some v12:=by rfl):C 0 v0/\C 1 v1/\C 2 v2/\C 3 v3/\C 4 v4/\C 5 v5/\C 6 v6/\C 7 b/\C 8 c/\C 9 v9/\C 10 v10/\C 11 v11/\C 12 v12:=⟨x 0 _ ax cI,x 1 _ ax aO,x 2 _ ax aU,x 3 _ ax cr,x 4 _ ax eI,x 5 _ ax h,x 6 _ ax i,x 7 _ ax k,x 8 _ ax f,x 9 _ ax g,x 10 _ ax d,x 11 _ ax e,x 12 _ ax a⟩
abbrev aG(W:World)(b i:Nat)(v:Value):Prop:=W.cell? ⟨b,i,none⟩=some v
instance:Coe Int Value:=⟨fun n=>.int .i64 n⟩
instance:Coe Nat Value:=⟨fun n=>.int .i64 (n:Int)⟩
theorem mD{fn:Func}{Q:Ending->World->Prop}{a:Act}{w:World}(h:Q (.returned v) w)(av:(results fn a.tmps).run prog w=.ok v w:=by simp[results,results3,results4,results5,results6,results8,results10,results11,results12,results14,results15,results19,results23,results24,results28,results29,results30,results34,results35,results36,results37,results38,results42,results43,results44,results48,results49,results51,results52,results55,results56,results59,results66,results67,results68,results69,results72,results73,results74,results75,results77,results81,results82,results84,results92,results93,results107,results127,results130,results135,results136,results146,results150,results155,results157,results158,results168,results173,results178,results180,results183,results189,results190,results202,results203,results206,results218,results234,go_sem])(aI:a.defers=[]:=by rfl):bodyPost prog fn Q .ret a w:=bodyPost_ret av aI h
end
section
open Go.RowKit
variable{w w':World}{v:Value}{l:List Nat}{k:Nat}{t:Int}
inductive PL |dM(v:Value)(w:World)|ga(v:Value)(w:World)
open PL
instance(v:Value)(w:World):CoeDep PL (.dM v w) (Ending->World->Prop):=⟨fun e w'=>e=.returned v/\Below w.heap.size w w'⟩
instance(v:Value)(w:World):CoeDep PL (.ga v w) (Ending->World->Prop):=⟨fun e w'=>e=.returned v/\w=w'⟩
instance:Coe World Nat:=⟨fun w=>w.heap.size⟩
instance:Coe Nat Addr:=⟨fun b=>⟨b,0,none⟩⟩
instance:Coe Unit Value:=⟨fun _=>.slice none 0 0⟩
instance:Coe Bool Value:=⟨fun b=>.bool b⟩
inductive VF|bA
abbrev bA:=VF.bA
instance:Coe VF Value:=⟨fun _=>.int .i64 0⟩
abbrev aR:=Calls prog
abbrev aC:=@if_neg
abbrev aN:=@if_pos
abbrev bG:=@Nat.le_refl
abbrev eh:=@List.getD_eq_getElem?_getD
abbrev bw:=@And.intro
abbrev eG:=@List.getElem?_eq_getElem
abbrev b5:=@Below.refl
abbrev cJ:=@bodyPost_ret
abbrev fG:=@List.length_take
abbrev fZ:=@List.getElem_mem
abbrev gO:=@List.length_append
abbrev eB:=@Nat.le_trans
abbrev lW:=@List.setIfInBounds_toArray
abbrev hg:=@decide_eq_false
abbrev hE:=@List.length_map
abbrev hh:=@decide_eq_true
abbrev fw:=@Nat.zero_le
abbrev qe:=@List.getElem?_eq_some_iff
abbrev lE:=@List.set_cons_succ
abbrev lX:=@List.set_cons_zero
abbrev ik:=@List.mem_cons
abbrev q9:=@Classical.byContradiction
abbrev iQ:=@Nat.zero_add
abbrev qF:=@World.block_lt_of_cell?
abbrev o0:=@List.mem_cons_of_mem
abbrev nX:=@Nat.lt_of_lt_of_le
abbrev qG:=@List.take_of_length_le
abbrev ou:=@List.take_length
abbrev ov:=@Nat.mod_eq_of_lt
abbrev tY:=@List.getElem?_append_left
abbrev qH:=@beq_eq_false_iff_ne
abbrev pC:=@of_decide_eq_true
def ep:List Nat->Nat
 |[]=>0
 |d::l=>d+4294967296*ep l
def BS(l:List Nat):Prop:=(∀d∈l,d<4294967296)/\l.getLast?≠some 0
def yP(w:World)(v:Value)(l:List Nat):Prop:=
 ∃a c,v=.slice a l.length c/\l.length<=c/\c<=maxLen/\(0<l.length->∃b off,a=some ⟨b,off,none⟩/\∀i,i<l.length->w.cell? ⟨b,off+i,none⟩=some (.int .u64 (l.getD i 0:Nat)))
def k2(w:World)(v:Value)(n:Nat):Prop:=∃l,yP w v l/\BS l/\ep l=n
def Iz(w:World)(n:Nat)(e:Ending)(w':World):Prop:=∃v,e=.returned v/\k2 w' v n/\Below w w w'
theorem yP.later(h:yP w v l)(al:Below w w w'):yP w' v l:=by obtain⟨a,c,av,d,hc,aE⟩:=h;refine⟨a,c,av,d,hc,fun e=>?_⟩;obtain⟨b,off,ha,f⟩:=aE e;exact⟨b,off,ha,fun i hi=>cell_later al<|f i hi⟩
theorem k2.later{n:Nat}(h:k2 w v n)(al:Below w w w'):k2 w' v n:=by obtain⟨l,aI,hn,av⟩:=h;exact⟨l,aI.later al,hn,av⟩
theorem below_drewN{B:Nat}{a:World}(h:Below B a w)(n:Nat):Below B a (w.drewN n):=by exact Go.below_drewN h n
def sK(l:List Nat):Nat->List Nat
 |0=>[]
 |k+1=>if l.getD k 0=0 then sK l k else l.take (k+1)
theorem Wq(h:l.getD k 0=0):sK l (k+1)=sK l k:=by unfold sK;rw[aN h];cases k<;>rfl
theorem Ws(h:¬l.getD k 0=0):sK l (k+1)=l.take (k+1):=by unfold sK;rw[aC h]
theorem KF(l m:List Nat):ep (l++m)=ep l+4294967296^l.length*ep m:=by induction l with|nil=>simp[ep]|cons d l a=>simp only[List.cons_append,ep,a,List.length_cons,Nat.pow_succ,Nat.mul_add];rw[Nat.mul_comm (4294967296^l.length) 4294967296,Nat.mul_assoc];omega
theorem T4(l:List Nat)(h:∀d∈l,d<4294967296):ep l<4294967296^l.length:=by induction l with|nil=>simp[ep]|cons d l a=>have h1:=a fun x au=>h x<|o0 _ au;have b:=h d List.mem_cons_self;simp only[ep,List.length_cons,Nat.pow_succ];omega
theorem Ge(h:k<l.length):l.getD k 0∈l:=by rw[eh,eG h];exact fZ h
theorem N1(h:k<l.length):l.take (k+1)=l.take k++[l.getD k 0]:=by rw[List.take_succ_eq_append_getElem h,eh,eG h];rfl
theorem Wr(l:List Nat):∀k,k<=l.length->∃j,j<=k/\sK l k=l.take j/\(j=0\/l.getD (j-1) 0≠0)/\ep (l.take k)=ep (l.take j):=by intro k;induction k with|zero=>intro _;exact⟨0,bG _,by simp[sK],Or.inl rfl,rfl⟩|succ k d=>intro hk;by_cases aI:l.getD k 0=0;{obtain⟨j,h1,b,c,a⟩:=d ae;refine⟨j,ae,by rw[Wq aI,b],c,?_⟩;rw[N1 ae,KF,aI,<-a];simp[ep]};exact⟨k+1,bG _,Ws aI,Or.inr aI,rfl⟩
theorem af'(l:List Nat):ep (sK l l.length)=ep l:=by obtain⟨j,_,b,_,a⟩:=Wr l l.length<|bG _;rw[b,<-a,ou]
theorem af9(l:List Nat)(h:∀d∈l,d<4294967296):BS (sK l l.length):=by obtain⟨j,h1,c,a,_⟩:=Wr l l.length<|bG _;rw[c];refine⟨fun d aI=>h d<|List.mem_of_mem_take aI,?_⟩;rcases a with rfl|a;{simp};by_cases b:j=0;{subst b;simp};obtain⟨i,rfl⟩:=Nat.exists_eq_succ_of_ne_zero b;rw[N1 ae];simpa using a
theorem S0(h:BS l)(d:0<l.length):4294967296^(l.length-1)<=ep l:=by obtain⟨_,b⟩:=h;(have a:l=l.take (l.length-1)++[l.getD (l.length-1) 0]:=by rw[<-N1 ae];rw[show l.length-1+1=l.length by omega,ou]);(have bU:l.getD (l.length-1) 0≠0:=by intro c;apply b;rw[a,c];simp);(have av:ep l=ep (l.take<|l.length-1)+4294967296^(l.length-1)*l.getD (l.length-1) 0:=by(conv=>lhs;rw[a]);rw[KF];simp only[ep,fG];rw[show min (l.length-1) l.length=l.length-1 by omega];simp);rw[av];have:4294967296^(l.length-1)*1<=4294967296^(l.length-1)*l.getD (l.length-1) 0:=Nat.mul_le_mul_left _ ae;omega
theorem ao1(n:Nat):ep [n%4294967296,n/4294967296]=n:=by simp only[ep];omega
theorem agk(w:World)(x y:Int)(p q:Nat)(au:x=(p:Int))(hy:y=(q:Int)):
 yP (w.alloc<|.cells #[.int .u64 x,.int .u64 y] 46) (.slice (some w) 2 2) [p,q]:=by subst au hy;refine⟨_,2,rfl,bG _,ax,fun _=>⟨_,0,rfl,fun i hi=>?_⟩⟩;match i,hi with|0,_=>simp[go_sem]|1,_=>simp[go_sem]
theorem iB{o:Obj}(h:Below (w.alloc o) (w.alloc o) w'):Below w w w':=
 ((b5 _ w).alloc (bG _) o).trans (h.mono bI)
theorem WI(h:k<l.length):ep (l.drop k)=l.getD k 0+4294967296*ep (l.drop<|k+1):=by rw[List.drop_eq_getElem_cons h,eh,eG h];rfl
theorem akV(v d:Nat):(v%18446744073709551616*4294967296+d)%18446744073709551616=(d+4294967296*v)%18446744073709551616:=ae
theorem apm(y d:Nat):IntKind.u64.wrap (IntKind.u64.wrap ((y:Int)*4294967296)+(d:Int))=(((y*4294967296+d)%18446744073709551616:Nat):Int):=by simp only[IntKind.wrap_u64];omega
theorem aha(h:BS l):decide (((l.length:Nat):Int)<=2)=decide (ep l<18446744073709551616):=by have h1:=T4 l h.1;by_cases a:l.length<=2;{have:4294967296^l.length<=4294967296^2:=Nat.pow_le_pow_right ax a;have e:(4294967296:Nat)^2=18446744073709551616:=ax;rw[hh<|show((l.length:Nat):Int)<=2 by omega,hh ae]};have b:=S0 h ae;have:4294967296^2<=4294967296^(l.length-1):=Nat.pow_le_pow_right ax ae;have e:(4294967296:Nat)^2=18446744073709551616:=ax;rw[hg<|show¬((l.length:Nat):Int)<=2 by omega,hg ae]
def dJ(t:Int):Bool:=decide<|0<=t/\t<=4611686018427387903
theorem gX(h:dJ t=true):0<=t/\t<=4611686018427387903:=by simpa[dJ]using h
theorem ma(a:0<=t)(h1:t<=4611686018427387903):dJ t=true:=by simp[dJ,a,h1]
theorem zh(t:Int)(w:World):
 aR 116 #[t] w (ga (dJ t) w):=by by_cases a:0<=t;{by_cases h1:t<=4611686018427387903;{have e:dJ t=true:=ma a h1;rw[e];go_enter func116,ntmps116;go_wp2;go_ret;exact⟨rfl,rfl⟩};(have e:dJ t=false:=by simp[dJ];omega);go_enter func116,ntmps116;go_wp2;go_ret;exact⟨rfl,rfl⟩};(have e:dJ t=false:=by simp[dJ];omega);go_enter func116,ntmps116;go_wp2;go_ret;exact⟨rfl,rfl⟩
def gL(n:Int):Int:=if n<0 then 0 else if n<=4611686018427387903 then n else 4611686018427387903
theorem V!(n:Int)(w:World):
 aR 171 #[n] w (ga (gL n) w):=by by_cases a:n<0;{(have e:gL n=0:=by simp[gL,a]);rw[e];go_enter func171,ntmps171;go_wp2;go_ret;exact⟨rfl,rfl⟩};by_cases h1:n<=4611686018427387903;{(have e:gL n=n:=by simp[gL,a,h1]);go_enter func171,ntmps171;go_wp2;go_ret;exact⟨rfl,rfl⟩};(have e:gL n=4611686018427387903:=by simp[gL,a,h1]);go_enter func171,ntmps171;go_wp2;go_ret;exact⟨rfl,rfl⟩
theorem LH(n:Int):0<=gL n/\gL n<=4611686018427387903:=by unfold gL;split<;>(try split)<;>omega
theorem Cd{a b:Int}(a0:0<=a)(c:0<b):0<=a/b/\a/b<=a/\0<=a%b/\a%b<b:=
 ⟨Int.ediv_nonneg a0 ae,Int.ediv_le_self b a0,Int.emod_nonneg a ae,Int.emod_lt_of_pos a c⟩
theorem V1(a b:Int)(w:World)(ha:dJ a=true)(al:dJ b=true):
 aR 170 #[a,b] w (ga bA w):=by go_enter func170,ntmps170;go_wp2_with(go_at_call 116;refine(zh _ _).mono ?_;rintro e w' ⟨rfl,rfl⟩);go_ret;exact⟨rfl,rfl⟩
theorem aeH(a b:Int)(w:World)(ha:dJ a=true)(al:dJ b=true):
 aR 125 #[a,b] w (ga (.tuple #[.int .i64<|gL<|a+b,bA]) w):=by have a0:=(gX ha).1;have f:=(gX ha).2;have c:=(gX al).1;have d:=(gX al).2;go_enter func125,ntmps125;go_wp2_with(first|(go_at_call 170;refine(V1 _ _ _ ha al).mono ?_;rintro e w' ⟨rfl,rfl⟩)|(go_at_call 171;refine(V! _ _).mono ?_;rintro e w' ⟨rfl,rfl⟩));go_ret2;exact⟨rfl,rfl⟩
theorem aoo(a b:Int)(w:World)(ha:dJ a=true)(al:dJ b=true):
 aR 217 #[a,b] w (ga (.tuple #[.int .i64<|gL<|a-b,bA]) w):=by have a0:=(gX ha).1;have f:=(gX ha).2;have c:=(gX al).1;have d:=(gX al).2;go_enter func217,ntmps217;go_wp2_with(first|(go_at_call 170;refine(V1 _ _ _ ha al).mono ?_;rintro e w' ⟨rfl,rfl⟩)|(go_at_call 171;refine(V! _ _).mono ?_;rintro e w' ⟨rfl,rfl⟩));go_ret2;exact⟨rfl,rfl⟩
def aeo(w:World)(l:List Nat)(e:Ending)(w':World):Prop:=∃v,e=.returned v/\yP w' v (sK l l.length)/\∃n,w'=w.drewN n
theorem alg(v:Value)(l:List Nat)(w:World)(h:yP w v l):
   aR 79 #[v] w (aeo w l):=by
 obtain⟨a,c,rfl,q,hc,aE⟩:=h;unfold maxLen at hc;have ej:=ad aE;go_enter func79,ntmps79;go_wp2;go_loopw [3] (fun n w'=>∃k:Nat,k<=l.length/\n=.int .i64 k/\sK l k=sK l l.length/\∃d,w'=w.drewN d) (fun n _=>(intOf n).toNat);case atStart=>exact⟨l.length,bG _,rfl,rfl,0,rfl⟩
 case round=>
   obtain⟨k,hk,rfl,hcut,d,rfl⟩:=hrel
   have e:=ad hcut
   cases k with
   |zero=>
     go_wp2
     go_ret
     refine⟨_,rfl,?_,d,rfl⟩
     rw[<-e.out]
     exact⟨a,c,rfl,fw _,by unfold maxLen;omega,fun j=>absurd j<|by simp[sK]⟩
   |succ m=>
     obtain⟨b,off,rfl,g⟩:=ej.out ae
     have p:=g m ae
     have o:=ad g
     by_cases aI:l.getD m 0=0
     . have f:Hid (sK l m=sK l l.length):=(Wq aI).symm.trans e.out
       rw[aI]at p
       go_wp2
       go_roundw
       case rel=>exact⟨m,ae,by go_num,f.out,d,rfl⟩
       case measure=>simp[intOf]
     . have pX:((l.getD m 0:Nat):Int)≠0:=ae
       have pY:=qH.2 pX
       have f:=ad<|(Ws aI).symm.trans e.out
       generalize aS:l.getD m 0=x at*
       go_wp2
       go_ret
       refine⟨.slice (some ⟨b,off,none⟩) (m+1) c,rfl,?_,d,rfl⟩
       rw[<-f.out]
       have hlen:(l.take<|m+1).length=m+1:=by rw[fG];omega
       refine⟨_,c,by rw[hlen],ae,by unfold maxLen;omega,fun _=>⟨b,off,rfl,fun i hi=>?_⟩⟩
       simp at hi
       rw[World.cell?_drewN]
       rw[o.out i ae]
       simp[eh,show i<m+1 by omega]
theorem SZ(v:Value)(l:List Nat)(w:World)(h:yP w v l)(aI:∀d∈l,d<4294967296):
 aR 79 #[v] w (Iz w<|ep l):=by refine(alg v l w h).mono fun e w' aE=>?_;obtain⟨v',rfl,av,n,rfl⟩:=aE;exact⟨v',rfl,⟨_,av.later<|(b5 _ _),af9 l aI,af' l⟩,below_drewN (b5 _ _) n⟩
theorem N'(n:Nat)(w:World)(hn:n<18446744073709551616):
 aR 46 #[.int .u64 n] w (Iz w n):=by have al:(n:Int)<18446744073709551616:=ae;go_enter func46,ntmps46;go_wp2_with(go_at_call 79;refine(SZ _ [n%4294967296,n/4294967296] _ (agk _ _ _ _ _ ae ae) ?_).mono ?_);{intro d aI;simp at aI;omega};rintro e w' ⟨v,rfl,av,al⟩;rw[ao1]at av;have a:=ad<|iB al;go_wp2;go_ret;exact⟨v,rfl,av,a.out⟩
def acw(w:World)(n:Nat)(e:Ending)(w':World):Prop:=∃x:Nat,e=.returned (.tuple #[.int .u64 x,decide<|n<18446744073709551616])/\(n<18446744073709551616->x=n)/\x<18446744073709551616/\∃a,w'=w.drewN a
theorem ag_(v:Value)(n:Nat)(w:World)(h:k2 w v n):
  aR 78 #[v] w (acw w n):=by
 obtain⟨l,⟨a,c,rfl,p,hc,aE⟩,hn,rfl⟩:=h;unfold maxLen at hc;have o:=ad hn;have ej:=ad aE;go_enter func78,ntmps78;go_wp2;go_loopw [4,5] (fun x i w'=>∃(k y:Nat),k<=l.length/\i=.int .i64 ((k:Int)-1)/\x=.int .u64 y/\y=ep (l.drop k)%18446744073709551616/\∃e,w'=w.drewN e) (fun _ i _=>(intOf i+1).toNat);case atStart=>exact⟨l.length,0,bG _,rfl,rfl,by simp[ep],0,rfl⟩
 case round=>
  obtain⟨k,y,hk,rfl,rfl,hy,e,rfl⟩:=hrel
  have g:=ad hy
  clear hy
  cases k with
  |zero=>
   go_wp2
   go_ret2
   have cc:=g.out
   rw[List.drop_zero]at cc
   refine⟨y,?_,?_,?_,e,rfl⟩
   . rw[show decide (((l.length:Nat):Int)<=2)=decide (ep l<18446744073709551616)from aha o.out];rfl
   . intro h;rw[cc,ov h]
   . rw[cc];exact Nat.mod_lt _ ax
  |succ m=>
   obtain⟨b,off,rfl,j⟩:=ej.out ae
   have q:=j m ae
   have f:Hid ((y*4294967296+l.getD m 0)%18446744073709551616=ep (l.drop m)%18446744073709551616):=by
    rw[g.out,WI (l:=l) (k:=m) ae]
    exact akV _ _
   generalize aS:l.getD m 0=d at*
   go_wp2
   go_roundw
   case rel=>exact⟨m,(y*4294967296+d)%18446744073709551616,ae,rfl,by rw[apm],f.out,e,rfl⟩
   case measure=>simp[intOf]
def Cp(n:Nat):Nat:=if n<=4611686018427387903 then n else 4611686018427387903
def xS(w:World)(k:Int)(e:Ending)(w':World):Prop:=e=.returned k/\Below w w w'
def aes(w:World)(k f:Int)(e:Ending)(w':World):Prop:=e=.returned (.tuple #[k,f])/\Below w w w'
theorem Yj(v:Value)(n:Nat)(w:World)(h:k2 w v n):
 aR 45 #[v] w (xS w<|Cp n):=by have gQ:=ad<|ag_ v n w h;by_cases h1:n<18446744073709551616;{have d1:decide (n<18446744073709551616)=true:=hh h1;by_cases b:n<=4611686018427387903;{have e:Cp n=n:=aN b;rw[e];have d:(n:Int)<=4611686018427387903:=ae;have H1:=ad h1;have a:=ad d1;go_enter func45,ntmps45;go_wp2_with(go_at_call 78;refine gQ.out.mono ?_);rintro e w' ⟨x,rfl,au,_,c,rfl⟩;obtain rfl:=au H1.out;go_wp2;go_ret;exact⟨rfl,below_drewN (b5 _ _) _⟩};have e:Cp n=4611686018427387903:=aC b;rw[e];have d:4611686018427387903<(n:Int):=ae;have H1:=ad h1;have a:=ad d1;go_enter func45,ntmps45;go_wp2_with(go_at_call 78;refine gQ.out.mono ?_);rintro e w' ⟨x,rfl,au,_,c,rfl⟩;obtain rfl:=au H1.out;rw[a.out];go_wp2;go_ret;exact⟨rfl,below_drewN (b5 _ _) _⟩};have e:Cp n=4611686018427387903:=aC ae;rw[e];have d1:=hg h1;have a:=ad d1;go_enter func45,ntmps45;go_wp2_with(go_at_call 78;refine gQ.out.mono ?_);rintro e w' ⟨x,rfl,au,_,c,rfl⟩;rw[a.out];go_wp2;go_ret;exact⟨rfl,below_drewN (b5 _ _) _⟩
theorem Yi(n:Nat):((Cp n:Nat):Int)=gL n:=by unfold Cp gL;(repeat' split);all_goals omega
theorem amt(n:Int)(w:World)(hn:n<=9223372036854775807):
 aR 20 #[n] w (xS w<|gL n):=by by_cases a:n<0;{(have e:gL n=0:=by simp[gL,a]);rw[e];go_enter func20,ntmps20;go_wp2;go_ret;exact⟨rfl,b5 _ _⟩};obtain⟨k,rfl⟩:=Int.eq_ofNat_of_zero_le (show 0<=n by omega);have hk:k<18446744073709551616:=ae;rw[<-Yi];generalize b:Cp k=r;have fz:=ad b;have cV:=ad hk;go_enter func20,ntmps20;go_wp2_with(go_at_call 46;refine(N' _ _ cV.out).mono ?_);rintro e w1 ⟨v,rfl,av,al⟩;go_wp2_with(go_at_call 45;refine(Yj _ _ _ av).mono ?_);rintro e aQ ⟨rfl,a7⟩;go_wp2;go_ret;exact⟨rfl,al.trans<|a7.mono al.size⟩
theorem NP(t:Int)(w:World):
 aR 53 #[t] w (ga (dJ t) w):=by by_cases a:0<=t;{by_cases h1:t<=4611686018427387903;{have e:dJ t=true:=ma a h1;rw[e];go_enter func53,ntmps53;go_wp2;go_ret;exact⟨rfl,rfl⟩};(have e:dJ t=false:=by simp[dJ];omega);go_enter func53,ntmps53;go_wp2;go_ret;exact⟨rfl,rfl⟩};(have e:dJ t=false:=by simp[dJ];omega);go_enter func53,ntmps53;go_wp2;go_ret;exact⟨rfl,rfl⟩
end
open PL
namespace ui
open Go.RowKit
theorem maskN(a:Nat)(ha:a<18446744073709551616):bits .and .u64 (a:Int) 4294967295=((a%4294967296:Nat):Int):=by have h:=bits_and_u64_nat a 4294967295 ha ae;have e:=Nat.and_two_pow_sub_one_eq_mod a 32;rw[e]at h;exact h
theorem divN(a:Nat):(a:Int)/4294967296=((a/4294967296:Nat):Int):=ae
theorem mulN(a b:Nat):(a:Int)*(b:Int)=((a*b:Nat):Int):=(Int.natCast_mul a b).symm
theorem addN(a b:Nat):(a:Int)+(b:Int)=((a+b:Nat):Int):=(Int.natCast_add a b).symm
theorem wrapN(a:Nat)(ha:a<18446744073709551616):IntKind.u64.wrap (a:Int)=(a:Int):=by rw[IntKind.wrap_u64];omega
theorem wrapM(a:Nat):IntKind.u64.wrap (a:Int)=((a%18446744073709551616:Nat):Int):=by rw[IntKind.wrap_u64];omega
end ui
open Go.RowKit
variable{T tau aJ now n s:Int}{a b k B fV m p q d g i:Nat}{w1 w wr:World}{l b? bW cs:List Nat}{e:TypeId}{v:Value}
theorem ak1(x y:Nat)(au:x<18446744073709551616)(hy:y<18446744073709551616)(w:World):
 aR 256 #[.int .u64 x,.int .u64 y] w (ga (.tuple #[.int .u64 ((x*y/18446744073709551616:Nat):Int),.int .u64 ((x*y%18446744073709551616:Nat):Int)]) w):=by obtain⟨kc,B3,t,r⟩:=Lib.mul64_hi x y au hy;have ba:=Lib.half_mul_le (a:=x/4294967296) (b:=y/4294967296) ae ae;have j:x/4294967296*(y/4294967296)<18446744073709551616:=ae;have o:x/4294967296*(y%4294967296)<18446744073709551616:=ae;have c:x%4294967296*(y/4294967296)<18446744073709551616:=ae;have h:x/4294967296*(y/4294967296)+(x/4294967296*(y%4294967296)+x%4294967296*(y%4294967296)/4294967296)/4294967296<18446744073709551616:=ae;have f:x/4294967296*(y/4294967296)+(x/4294967296*(y%4294967296)+x%4294967296*(y%4294967296)/4294967296)/4294967296+((x/4294967296*(y%4294967296)+x%4294967296*(y%4294967296)/4294967296)%4294967296+x%4294967296*(y/4294967296))/4294967296<18446744073709551616:=ae;go_enter func256,ntmps256;go_wp2;simp only[ui.maskN x au,ui.maskN y hy,ui.divN,ui.mulN,ui.addN,ui.wrapN _ kc,ui.wrapN _ o,ui.wrapN _ B3,ui.maskN _ B3,ui.wrapN _ c,ui.wrapN _ t,ui.wrapN _ j,ui.wrapN _ h,ui.wrapN _ f,ui.wrapM<|x*y];rw[r];go_ret2;exact⟨rfl,rfl⟩
def kU(T tau:Int):Value:=.agg #[T,tau]
def mv(T tau:Int):Bool:=dJ T&&decide (1<=T)&&dJ tau
theorem xm(h:mv T tau=true):dJ T=true/\1<=T/\dJ tau=true:=by simp only[mv,Bool.and_eq_true,decide_eq_true_eq]at h;exact⟨h.1.1,h.1.2,h.2⟩
theorem aaH(T tau:Int)(w:World)(h:mv T tau=true):
 aR 110 #[kU T tau] w (xS w 0):=by obtain⟨h1,c,f⟩:=xm h;unfold kU;go_enter func110,ntmps110;go_wp2_with(go_at_call 116;refine(zh _ _).mono ?_;rintro e w' ⟨rfl,rfl⟩);go_ret;exact⟨rfl,(b5 _ _).alloc (bG _) _⟩
theorem ams(T tau:Int)(w:World)(h:mv T tau=false):
 aR 110 #[kU T tau] w (xS w 1):=by unfold kU;cases h1:dJ T with|false=>go_enter func110,ntmps110;go_wp2_with(go_at_call 116;refine(zh _ _).mono ?_;rintro e w' ⟨rfl,rfl⟩);go_ret;exact⟨rfl,(b5 _ _).alloc (bG _) _⟩|true=>by_cases c:1<=T;{(have f:dJ tau=false:=by simpa[mv,h1,c]using h);go_enter func110,ntmps110;go_wp2_with(go_at_call 116;refine(zh _ _).mono ?_;rintro e w' ⟨rfl,rfl⟩);go_ret;exact⟨rfl,(b5 _ _).alloc (bG _) _⟩};have f:T<1:=ae;go_enter func110,ntmps110;go_wp2_with(go_at_call 116;refine(zh _ _).mono ?_;rintro e w' ⟨rfl,rfl⟩);go_ret;exact⟨rfl,(b5 _ _).alloc (bG _) _⟩
def E2(T tau base now:Int):Int:=if tau<base-now then 0 else min ((tau-(base-now))/T+1) ((4611686018427387903-base)/T)
def gW(T tau aJ now:Int):Int:=E2 T tau (max aJ now) now
theorem Ho{a b:Int}(h:a=b):Ending.returned a=.returned b:=by rw[h]
theorem QC(T tau aJ now:Int)(w:World)(h:mv T tau=true)(c:dJ aJ=true)(hn:dJ now=true):
 aR 237 #[kU T tau,aJ,now] w (xS w<|gW T tau aJ now):=by obtain⟨h1,y,f⟩:=xm h;obtain⟨a0,z⟩:=gX h1;obtain⟨u,x⟩:=gX f;obtain⟨bJ,c1⟩:=gX c;obtain⟨d0,d1⟩:=gX hn;have bU:(T==0)=false:=qH.2 ae;unfold kU;clear h h1 f c hn;by_cases hm:aJ<now;{(have e:gW T tau aJ now=min (tau/T+1) ((4611686018427387903-now)/T):=by unfold gW E2;rw[show max aJ now=now by omega,aC ae,show tau-(now-now)=tau by omega]);rw[e];clear e;have aI:¬tau<0:=ae;obtain⟨t,j,_,_⟩:=Cd (a:=tau) (b:=T) ae ae;obtain⟨o,r,_,_⟩:=Cd (a:=4611686018427387903-now) (b:=T) ae ae;have aO:wrap64 (tau/T+1)=tau/T+1:=IntWalk.wrap64_in _ ae;go_enter func237,ntmps237;go_wp2;go_quiet (fail);go_wp2;all_goals go_ret;exact⟨Ho ae,below_drewN ((b5 _ _).alloc (bG _) _) _⟩};by_cases aI:tau<aJ-now;{(have e:gW T tau aJ now=0:=by unfold gW E2;rw[show max aJ now=aJ by omega,aN aI]);rw[e];clear e;go_enter func237,ntmps237;go_wp2;go_ret;exact⟨rfl,(b5 _ _).alloc (bG _) _⟩};(have e:gW T tau aJ now=min ((tau-(aJ-now))/T+1) ((4611686018427387903-aJ)/T):=by unfold gW E2;rw[show max aJ now=aJ by omega,aC aI]);rw[e];clear e;obtain⟨t,j,_,_⟩:=Cd (a:=tau-(aJ-now)) (b:=T) ae ae;obtain⟨o,r,_,_⟩:=Cd (a:=4611686018427387903-aJ) (b:=T) ae ae;have aO:wrap64 ((tau-(aJ-now))/T+1)=(tau-(aJ-now))/T+1:=IntWalk.wrap64_in _ ae;have aU:wrap64 (tau-(aJ-now))=tau-(aJ-now):=IntWalk.wrap64_in _ ae;have cr:0<=tau-(aJ-now):=ae;go_enter func237,ntmps237;go_wp2;go_quiet (fail);go_wp2;all_goals go_ret;exact⟨Ho ae,below_drewN ((b5 _ _).alloc (bG _) _) _⟩
def y7(T tau n:Int):Bool:=decide<|(n-1)*T<=tau
def aco(w:World)(T tau n:Int)(e:Ending)(w':World):Prop:=∃x:Int,e=.returned (.tuple #[x,y7 T tau n])/\(y7 T tau n=true->x=(n-1)*T)/\Below w w w'
theorem ahk(T tau n:Int)(w:World)(h:mv T tau=true)(hn:dJ n=true)(E:1<=n):
 aR 253 #[kU T tau,n] w (aco w T tau n):=by obtain⟨h1,G,r⟩:=xm h;obtain⟨a0,H⟩:=gX h1;obtain⟨A,F⟩:=gX r;have c1:=(gX hn).2;unfold kU;clear h h1 r hn;obtain⟨x,au⟩:∃x:Nat,n-1=(x:Int):=⟨(n-1).toNat,ae⟩;obtain⟨y,rfl⟩:=Int.eq_ofNat_of_zero_le a0;obtain⟨z,rfl⟩:=Int.eq_ofNat_of_zero_le A;have t:x<18446744073709551616:=ae;have o:y<18446744073709551616:=ae;(have hp:(n-1)*(y:Int)=((x*y:Nat):Int):=by rw[au,Int.natCast_mul]);have hc:=ak1 x y t o;(have ha:y7 (y:Int) (z:Int) n=decide (x*y<=z):=by unfold y7;rw[hp];exact decide_eq_decide.2 ae);have D:=ad hp;have fC:=ad ha;clear hp ha t o;generalize x*y=p at*;by_cases j:p/18446744073709551616=0;{have aO:p%18446744073709551616=p:=ae;rw[j,aO]at hc;have f:=ad hc;have u:p<18446744073709551616:=ae;clear hc aO j;by_cases bd:p<=z;{have CU:(p:Int)<=(z:Int):=ae;have c:=ad bd;have C:p<=4611686018427387903:=ae;clear bd u;go_enter func253,ntmps253;go_wp2_with(go_at_call 256;refine(f.out _).mono ?_;rintro e w' ⟨rfl,rfl⟩);go_quiet (fail);go_wp2;go_ret2;exact⟨(p:Int),by rw[fC.out,hh c.out];rfl,fun _=>D.out.symm,below_drewN ((b5 _ _).alloc (bG _) _) _⟩};have CU:¬(p:Int)<=(z:Int):=ae;have c:=ad bd;clear bd;go_enter func253,ntmps253;go_wp2_with(go_at_call 256;refine(f.out _).mono ?_;rintro e w' ⟨rfl,rfl⟩);go_quiet (fail);go_wp2;go_ret2;exact⟨_,by rw[fC.out,hg c.out];rfl,fun h=>by rw[fC.out,hg c.out]at h;simp at h,below_drewN ((b5 _ _).alloc (bG _) _) _⟩};have c:=ad (show¬p<=z by omega);have bZ:((p/18446744073709551616:Nat):Int)≠0:=ae;generalize p/18446744073709551616=hi at*;generalize p%18446744073709551616=lo at*;have a7:=qH.2 bZ;have f:=ad hc;clear hc j bZ;go_enter func253,ntmps253;go_wp2_with(go_at_call 256;refine(f.out _).mono ?_;rintro e w' ⟨rfl,rfl⟩);go_quiet (fail);go_wp2;go_ret2;exact⟨_,by rw[fC.out,hg c.out];rfl,fun h=>by rw[fC.out,hg c.out]at h;simp at h,below_drewN ((b5 _ _).alloc (bG _) _) _⟩
def rN(T tau aJ now n:Int):Int:=
 if y7 T tau n=false\/(4611686018427387903-max aJ now)/T<n then 4611686018427387903 else aJ-now-(tau-(n-1)*T)
theorem ahA(T tau aJ now n:Int)(w:World)(h:mv T tau=true)(r:dJ aJ=true)(u:dJ now=true)(hn:dJ n=true)(F:1<=n):
 aR 248 #[kU T tau,aJ,now,n] w (xS w<|rN T tau aJ now n):=by obtain⟨h1,I,t⟩:=xm h;have a0:=(gX h1).1;have J:=(gX h1).2;have G:=(gX t).1;have H:=(gX t).2;have bJ:=(gX r).1;have c1:=(gX r).2;have d0:=(gX u).1;have d1:=(gX u).2;have j:=ad fun v=>ahk T tau n v h hn F;have bU:(T==0)=false:=qH.2 ae;have f:Hid (rN T tau aJ now n=if y7 T tau n=false\/(4611686018427387903-max aJ now)/T<n then 4611686018427387903 else aJ-now-(tau-(n-1)*T)):=rfl;have hle:=decide_eq_true_iff (p:=(n-1)*T<=tau);have C:Hid (y7 T tau n=true->0<=(n-1)*T/\(n-1)*T<=tau):=fun h=>⟨Int.mul_nonneg ae a0,hle.1 h⟩;clear hle;generalize rN T tau aJ now n=W at*;unfold kU at*;cases ha:y7 T tau n with|false=>(have bQ:W=4611686018427387903:=by have:=f.out;rw[ha]at this;simpa using this);subst bQ;have fC:=ad ha;clear ha f h h1 t r u hn;go_enter func248,ntmps248;go_wp2_with fail;refine(j.out _).mono ?_;rintro e w1 ⟨x,rfl,au,al⟩;rw[fC.out];have c:=ad al;have z:aG w1 w.heap.size 0 T:=cell_later al (by simp[go_sem]);have A:aG w1 w.heap.size 1 tau:=cell_later al (by simp[go_sem]);clear au al;go_wp2;go_ret;exact⟨rfl,iB c.out⟩|true=>have fC:=ad ha;obtain⟨m0,m1⟩:=C.out ha;clear C;by_cases hm:aJ<now;{have y:max aJ now=now:=ae;obtain⟨D,E,_,_⟩:=Cd (a:=4611686018427387903-now) (b:=T) ae ae;have bQ:=f.out;rw[y,ha]at bQ;have a1:=ad bQ;clear ha f h h1 t r u hn y bQ;generalize o:(n-1)*T=m at*;have kK:=ad o;clear o;by_cases aI:(4611686018427387903-now)/T<n;{go_enter func248,ntmps248;go_wp2_with fail;refine(j.out _).mono ?_;rintro e w1 ⟨x,rfl,au,al⟩;rw[fC.out];have c:=ad al;have z:aG w1 w.heap.size 0 T:=cell_later al (by simp[go_sem]);have A:aG w1 w.heap.size 1 tau:=cell_later al (by simp[go_sem]);clear au al;go_wp2;go_ret;exact⟨Ho<|by rw[a1.out,aN<|Or.inr aI],iB c.out⟩};go_enter func248,ntmps248;go_wp2_with fail;refine(j.out _).mono ?_;rintro e w1 ⟨x,rfl,au,al⟩;obtain rfl:x=m:=(au fC.out).trans kK.out;rw[fC.out];have c:=ad al;have z:aG w1 w.heap.size 0 T:=cell_later al (by simp[go_sem]);have A:aG w1 w.heap.size 1 tau:=cell_later al (by simp[go_sem]);clear au al;go_wp2;go_ret;exact⟨Ho<|by rw[a1.out,aC<|by simp;omega],iB c.out⟩};have y:max aJ now=aJ:=ae;obtain⟨D,E,_,_⟩:=Cd (a:=4611686018427387903-aJ) (b:=T) ae ae;have bQ:=f.out;rw[y,ha]at bQ;have a1:=ad bQ;clear ha f h h1 t r u hn y bQ;generalize o:(n-1)*T=m at*;have kK:=ad o;clear o;by_cases aI:(4611686018427387903-aJ)/T<n;{go_enter func248,ntmps248;go_wp2_with fail;refine(j.out _).mono ?_;rintro e w1 ⟨x,rfl,au,al⟩;rw[fC.out];have c:=ad al;have z:aG w1 w.heap.size 0 T:=cell_later al (by simp[go_sem]);have A:aG w1 w.heap.size 1 tau:=cell_later al (by simp[go_sem]);clear au al;go_wp2;go_ret;exact⟨Ho<|by rw[a1.out,aN<|Or.inr aI],iB c.out⟩};go_enter func248,ntmps248;go_wp2_with fail;refine(j.out _).mono ?_;rintro e w1 ⟨x,rfl,au,al⟩;obtain rfl:x=m:=(au fC.out).trans kK.out;rw[fC.out];have c:=ad al;have z:aG w1 w.heap.size 0 T:=cell_later al (by simp[go_sem]);have A:aG w1 w.heap.size 1 tau:=cell_later al (by simp[go_sem]);clear au al;go_wp2;go_ret;exact⟨Ho<|by rw[a1.out,aC<|by simp;omega],iB c.out⟩
theorem pP{W:World}(al:Below W.heap.size W w1):(∀b o,b<W.heap.size->w1.cell? ⟨b,o,none⟩=W.cell? ⟨b,o,none⟩)/\(∀b o,b<W.heap.size->w1.frozen? ⟨b,o,none⟩=W.frozen? ⟨b,o,none⟩):=
 ⟨fun b o h=>al.cell (p:=⟨b,o,none⟩) h,fun b o h=>al.frozen (p:=⟨b,o,none⟩) h⟩
def r1(g:Bool)(aJ wait left:Int):Value:=.agg #[g,aJ,wait,left]
def kO(T tau aJ now n:Int):Bool:=decide<|n<=gW T tau aJ now
def ml(T tau aJ now n:Int):Int:=if n<=gW T tau aJ now/\0<n then max aJ now+n*T else aJ
def pR(T tau aJ now n:Int):Int:=if n<=gW T tau aJ now then 0 else rN T tau aJ now n
def mG(T tau aJ now n:Int):Int:=gW T tau (ml T tau aJ now n) now
theorem J9(h:mv T tau=true)(c:dJ aJ=true)(hn:dJ now=true):0<=gW T tau aJ now/\gW T tau aJ now<=4611686018427387903:=by obtain⟨h1,o,f⟩:=xm h;have j:=gX c;have r:=gX hn;have t:=gX f;unfold gW E2;split;{omega};obtain⟨bL,u,_,_⟩:=Cd (a:=tau-(max aJ now-now)) (b:=T) ae ae;obtain⟨eb,x,_,_⟩:=Cd (a:=4611686018427387903-max aJ now) (b:=T) ae ae;omega
def Ay(T tau aJ now n:Int):Prop:=n=0\/(max aJ now+(n-1)*T<=now+tau/\max aJ now+n*T<=4611686018427387903)
theorem C1(h:mv T tau=true)(c:dJ aJ=true)(hn:dJ now=true)(o:0<=n):n<=gW T tau aJ now<->Ay T tau aJ now n:=by obtain⟨h1,t,j⟩:=xm h;have r:=gX c;have u:=gX hn;have x:=gX j;have f:=J9 h c hn;unfold Ay;by_cases bd:n=0;{subst bd;simp[f.1]};unfold gW E2;split;{rename_i aI;have:0<=(n-1)*T:=Int.mul_nonneg ae ae;constructor;{omega};rintro(h|⟨h,_⟩)<;>omega};rename_i aI;have aO:n-1<=(tau-(max aJ now-now))/T<->(n-1)*T<=tau-(max aJ now-now):=Int.le_ediv_iff_mul_le ae;have aU:n<=(4611686018427387903-max aJ now)/T<->n*T<=4611686018427387903-max aJ now:=Int.le_ediv_iff_mul_le ae;omega
theorem Ww(h:mv T tau=true)(c:dJ aJ=true)(hn:dJ now=true)(f:dJ n=true):dJ (ml T tau aJ now n)=true:=by obtain⟨h1,j,o⟩:=xm h;unfold ml;split;{rename_i aI;have:=(C1 h c hn (gX f).1).1 aI.1;have r:=gX hn;have:0<=n*T:=Int.mul_nonneg ae ae;unfold Ay at*;exact ma ae ae};exact c
def Ui(w:World)(g:Bool)(aJ wait left:Int)(e:Ending)(w':World):Prop:=e=.returned (r1 g aJ wait left)/\Below w w w'
theorem ahl(T tau aJ now n:Int)(w:World)(h:mv T tau=true)(o:dJ aJ=true)(j:dJ now=true)(hn:dJ n=true):
 aR 241 #[kU T tau,aJ,now,n] w (Ui w (kO T tau aJ now n) (ml T tau aJ now n) (pR T tau aJ now n)<|mG T tau aJ now n):=by have z:=Ww h o j hn;have Q:=J9 h o j;have A:=C1 h o j (gX hn).1;have t:=ad fun v=>QC T tau aJ now v h o j;have f:=ad fun v=>QC T tau (ml T tau aJ now n) now v h z j;have nP:=(gX hn).1;have f?:=(gX hn).2;obtain⟨t0,t1⟩:=gX o;obtain⟨aH,N⟩:=gX j;by_cases aS:n<=gW T tau aJ now;{by_cases bd:0<n;{have r:kO T tau aJ now n=true:=hh aS;have c:ml T tau aJ now n=max aJ now+n*T:=aN ⟨aS,bd⟩;have bQ:pR T tau aJ now n=0:=aN aS;(have bY:mG T tau aJ now n=gW T tau (max aJ now+n*T) now:=by unfold mG;rw[c]);have I:=A.1 aS;unfold Ay at I;have hmul:0<=n*T:=Int.mul_nonneg nP (by have:=(xm h).2.1;omega);rw[c]at f;rw[r,c,bQ,bY];have K:0<=max aJ now:=ae;have V:n*T<=4611686018427387903:=ae;have H:max aJ now+n*T<=4611686018427387903:=ae;generalize gW T tau aJ now=G at*;generalize gW T tau (max aJ now+n*T) now=S at*;clear r c bQ bY I A z;unfold kU at*;by_cases hm:aJ<now;{have y:max aJ now=now:=ae;rw[y]at f H;rw[y];clear y K h o j hn;go_enter func241,ntmps241;go_wp2_with fail;refine(t.out _).mono ?_;rintro e w1 ⟨rfl,al⟩;obtain⟨hc,E⟩:=pP al;(have c0:w.heap.size+1<w1.heap.size:=by have:=al.size;simp at this;omega);have dH:w.heap.size<w1.heap.size:=ae;go_wp2_with fail;refine(f.out _).mono ?_;rintro e aQ ⟨rfl,a7⟩;obtain⟨x,F⟩:=pP a7;(have dx:w1.heap.size<aQ.heap.size:=by have:=a7.size;simp at this;omega);have u:Hid (Below w.heap.size w aQ):=(iB<|iB al).trans<|(iB a7).mono ae;clear al a7 t f;go_wp2;exact cJ (by simp[results,results241,go_sem,r1,x,hc,dH,c0]) rfl ⟨rfl,by repeat(first|exact u.out|refine Below.setCell ?_ (by first|(simp;done)|(simp;omega)) _)⟩};have y:max aJ now=aJ:=ae;rw[y]at f H;rw[y];clear y K h o j hn;go_enter func241,ntmps241;go_wp2_with fail;refine(t.out _).mono ?_;rintro e w1 ⟨rfl,al⟩;obtain⟨hc,E⟩:=pP al;(have c0:w.heap.size+1<w1.heap.size:=by have:=al.size;simp at this;omega);have dH:w.heap.size<w1.heap.size:=ae;go_wp2_with fail;refine(f.out _).mono ?_;rintro e aQ ⟨rfl,a7⟩;obtain⟨x,F⟩:=pP a7;(have dx:w1.heap.size<aQ.heap.size:=by have:=a7.size;simp at this;omega);have u:Hid (Below w.heap.size w aQ):=(iB<|iB al).trans<|(iB a7).mono ae;clear al a7 t f;go_wp2;exact cJ (by simp[results,results241,go_sem,r1,x,hc,dH,c0]) rfl ⟨rfl,by repeat(first|exact u.out|refine Below.setCell ?_ (by first|(simp;done)|(simp;omega)) _)⟩};obtain rfl:n=0:=ae;have r:kO T tau aJ now 0=true:=hh aS;have c:ml T tau aJ now 0=aJ:=aC ae;have bQ:pR T tau aJ now 0=0:=aN aS;(have bY:mG T tau aJ now 0=gW T tau aJ now:=by unfold mG;rw[c]);rw[c]at f;rw[r,c,bQ,bY];generalize gW T tau aJ now=G at*;clear r c bQ bY A z bd h o j hn;unfold kU at*;go_enter func241,ntmps241;go_wp2_with fail;refine(t.out _).mono ?_;rintro e w1 ⟨rfl,al⟩;obtain⟨hc,E⟩:=pP al;(have c0:w.heap.size+1<w1.heap.size:=by have:=al.size;simp at this;omega);have dH:w.heap.size<w1.heap.size:=ae;go_wp2_with fail;refine(f.out _).mono ?_;rintro e aQ ⟨rfl,a7⟩;obtain⟨x,F⟩:=pP a7;(have dx:w1.heap.size<aQ.heap.size:=by have:=a7.size;simp at this;omega);have u:Hid (Below w.heap.size w aQ):=(iB<|iB al).trans<|(iB a7).mono ae;clear al a7 t f;go_wp2;exact cJ (by simp[results,results241,go_sem,r1,x,hc,dH,c0]) rfl ⟨rfl,by repeat(first|exact u.out|refine Below.setCell ?_ (by first|(simp;done)|(simp;omega)) _)⟩};have P:1<=n:=ae;have J:=ad fun v=>ahA T tau aJ now n v h o j hn P;have r:kO T tau aJ now n=false:=hg aS;have c:ml T tau aJ now n=aJ:=aC ae;have bQ:pR T tau aJ now n=rN T tau aJ now n:=aC aS;(have bY:mG T tau aJ now n=gW T tau aJ now:=by unfold mG;rw[c]);rw[c]at f;rw[r,c,bQ,bY];generalize gW T tau aJ now=G at*;generalize rN T tau aJ now n=U at*;have R:decide (n<=G)=false:=hg aS;clear r c bQ bY A z h o j hn;unfold kU at*;go_enter func241,ntmps241;go_wp2_with fail;refine(t.out _).mono ?_;rintro e w1 ⟨rfl,al⟩;obtain⟨hc,E⟩:=pP al;(have c0:w.heap.size+1<w1.heap.size:=by have:=al.size;simp at this;omega);have dH:w.heap.size<w1.heap.size:=ae;go_wp2_with fail;refine(J.out _).mono ?_;rintro e D ⟨rfl,C⟩;obtain⟨O,M⟩:=pP C;(have W:w1.heap.size<D.heap.size:=by have:=C.size;simp at this;omega);have L:w.heap.size+1<D.heap.size:=ae;go_wp2_with fail;refine(f.out _).mono ?_;rintro e aQ ⟨rfl,a7⟩;obtain⟨x,F⟩:=pP a7;(have dx:D.heap.size<=aQ.heap.size:=by have:=a7.size;simp at this;omega);have u:Hid (Below w.heap.size w aQ):=((iB<|iB al).trans<|(iB C).mono ae).trans<|(((b5 _ _).setCell (by simp;omega) _).trans<|a7.mono<|by simp;omega);clear al C a7 t f J;go_wp2;exact cJ (by simp[results,results241,go_sem,r1,x,O,hc,dH,c0,L]) rfl ⟨rfl,by repeat(first|exact u.out|refine Below.setCell ?_ (by first|(simp;done)|(simp;omega)) _)⟩
def Ap(d:Nat):Value:=.int .u64 (d:Int)
theorem L_(h:¬k<l.length):l.getD k 0=0:=by rw[eh,List.getElem?_eq_none ae];rfl
theorem N2(l:List Nat)(k:Nat):ep (l.take<|k+1)=ep (l.take k)+4294967296^k*l.getD k 0:=by by_cases h:k<l.length;{rw[N1 h,KF];simp only[ep,fG];rw[show min k l.length=k by omega];simp};rw[qG ae,qG ae,eh,List.getElem?_eq_none ae];simp
theorem WB(h:w.ownsRow B e 1 v l.length (l.map Ap)):yP w v l:=by have f:=h;obtain⟨_,⟨rfl,c⟩|⟨g,cap,cur,rfl,_,_,hn,hm,_,_⟩⟩:=h;{exact⟨none,0,by rw[c],ae,ax,fun hp=>ae⟩};refine⟨_,cap,rfl,hn,hm,fun _=>⟨g,0,rfl,fun i hi=>?_⟩⟩;rw[iQ,f.cellAt i ae];simp[List.getElem?_map,eG hi,Ap]
theorem alN(h:w.ownsRow B e 1 v (k+1) (l.map Ap++[.int .u64 s]))(hk:l.length=k)(d:Nat)(aB:s=(d:Int)):
 w.ownsRow B e 1 v (l++[d]).length ((l++[d]).map Ap):=by subst aB hk;simpa[Ap]using h
def Vy(B:Nat)(w:World)(b? bW:List Nat)(k:Nat)(c:Value)(fV:Nat)(wr:World):Prop:=
 ∃cs:List Nat,cs.length=k/\(∀d∈cs,d<4294967296)/\wr.ownsRow B 46 1 c cs.length (cs.map Ap)/\
  ep cs+4294967296^k*fV=ep (b?.take k)+ep (bW.take k)/\Below B w wr
theorem NI{c c1:Value}
 (f:cs.length=k)(aI:∀d∈cs,d<4294967296)(av:ep cs+4294967296^k*fV=ep (b?.take k)+ep (bW.take k))(al:Below B w wr)(br:B<=wr)
 (hc:∀g,c.ownBlock=some g->B<=g)
 (o:Obj)(j:w1.ownsRow B 46 1 c1 (k+1) (cs.map Ap++[.int .u64 s]))(aS:(wr.alloc o).grownBy w1 c.ownBlock)
 (aB:s=(((fV+b?.getD k 0+bW.getD k 0)%4294967296:Nat):Int)):
 Vy B w b? bW (k+1) c1 ((fV+b?.getD k 0+bW.getD k 0)/4294967296) w1:=by refine⟨cs++[(fV+b?.getD k 0+bW.getD k 0)%4294967296],by simp[f],?_,alN j f _ aB,?_,?_⟩;{intro d h;rcases List.mem_append.1 h with h|h;{exact aI d h};simp at h;rw[h];exact Nat.mod_lt _ ax};{rw[KF,N2,N2,f,Nat.pow_succ];simp only[ep];generalize au:b?.getD k 0=x;generalize hy:bW.getD k 0=y;generalize 4294967296^k=p at*;have e:=Nat.div_add_mod (fV+x+y) 4294967296;(have aU:p*(fV+x+y)=p*fV+p*x+p*y:=by rw[Nat.mul_add,Nat.mul_add]);rw[Nat.mul_assoc p 4294967296 _,Nat.mul_zero,Nat.add_zero,Nat.add_assoc,<-Nat.mul_add,Nat.add_comm<|(fV+x+y)%4294967296,e,aU];omega};exact(al.alloc br o).grown aS (by simp;omega) hc
theorem No(h:BS l)(av:ep l<2^m):l.length<=m/32+1:=by by_cases f:0<l.length;{have h1:=S0 h f;have c:=Nat.lt_of_le_of_lt h1 av;rw[show(4294967296:Nat)=2^32 from rfl,<-Nat.pow_mul]at c;have j:=(Nat.pow_lt_pow_iff_right (by decide:1<2)).1 c;omega};omega
theorem getD_set_ne(h:q≠p):(l.set p d).getD q 0=l.getD q 0:=by rw[eh,eh,List.getElem?_set_ne ae]
theorem abl(l:List Nat):∀(p d:Nat),p<l.length->ep (l.set p d)+4294967296^p*l.getD p 0=ep l+4294967296^p*d:=by induction l with|nil=>intro p d h;simp at h|cons x l c=>intro p d h;cases p with|zero=>simp[ep];omega|succ p=>have:=c p d (by simpa using h);simp only[lE,ep,List.getD_cons_succ,Nat.pow_succ];rw[Nat.mul_comm (4294967296^p) 4294967296,Nat.mul_assoc,Nat.mul_assoc];omega
theorem abk(h:∀x∈l,x<4294967296)(aI:d<4294967296):∀x∈l.set p d,x<4294967296:=by intro x au;rcases List.mem_or_eq_of_mem_set au with au|rfl;{exact h x au};exact aI
theorem agl(x y:Nat)(au:x<4294967296)(hy:y<4294967296):x*y<=18446744065119617025:=Nat.mul_le_mul (by omega:x<=4294967295) (by omega:y<=4294967295)
theorem ao2(n:Nat):ep (List.replicate n 0)=0:=by induction n with|zero=>rfl|succ n c=>simp[List.replicate_succ,ep,c]
def qh(wr:World)(B g:Nat)(cs:List Nat):Prop:=wr.ownsRow B 46 1 (.slice (some g) cs.length cs.length) cs.length<|cs.map Ap
theorem qh.cell(h:qh wr B g cs)(a':q<cs.length):wr.cell? ⟨g,q,none⟩=some (.int .u64 (cs.getD q 0:Nat)):=by rw[World.ownsRow.cellAt h q ae];simp[List.getElem?_map,eG a',Ap]
theorem qh.free(h:qh wr B g cs)(q:Nat):wr.frozen? ⟨g,q,none⟩=false:=World.ownsRow.frozenAt h q
theorem qh.le(h:qh wr B g cs):B<=g:=(World.ownsRow.lt h g rfl).1
theorem qh.stored(h:qh wr B g cs)(q d:Nat):qh (wr.setCell ⟨g,q,none⟩<|.int .u64 (d:Nat)) B g (cs.set q d):=by have:=(World.ownsRow.stored h q<|.int .u64 (d:Nat)).1;unfold qh;rw[List.length_set,List.map_set];exact this
theorem qh.drewN(h:qh wr B g cs)(n:Nat):qh (wr.drewN n) B g cs:=h
theorem qh.agj(h:qh wr B g cs):yP wr (.slice (some g) cs.length cs.length) cs:=WB h
def PO(B g:Nat)(w:World)(b? bW:List Nat)(i j fV:Nat)(wr:World):Prop:=
 ∃cs:List Nat,cs.length=b?.length+bW.length/\(∀d∈cs,d<4294967296)/\(∀q,i+bW.length<=q->cs.getD q 0=0)/\qh wr B g cs/\
  ep cs+4294967296^(i+j)*fV=ep (b?.take i)*ep bW+4294967296^i*(b?.getD i 0*ep (bW.take j))/\Below B w wr
def Lt(B g:Nat)(w:World)(b? bW:List Nat)(i:Nat)(wr:World):Prop:=
 ∃cs:List Nat,cs.length=b?.length+bW.length/\(∀d∈cs,d<4294967296)/\(∀q,i+bW.length<=q->cs.getD q 0=0)/\qh wr B g cs/\
  ep cs=ep (b?.take i)*ep bW/\Below B w wr
theorem aoV(h:Lt B g w b? bW i wr):PO B g w b? bW i 0 0 wr:=by obtain⟨cs,h1,o,r,c,f,j⟩:=h;exact⟨cs,h1,o,r,c,by simp[f,ep],j⟩
theorem aoX{j:Nat}
 (h1:cs.length=b?.length+bW.length)(h:∀d∈cs,d<4294967296)(o:∀q,i+bW.length<=q->cs.getD q 0=0)(c:qh wr B g cs)
 (A:ep cs+4294967296^(i+j)*fV=ep (b?.take i)*ep bW+4294967296^i*(b?.getD i 0*ep (bW.take j)))(f:Below B w wr)
 (hi:i<b?.length)(C:j<bW.length)(n:Nat):
 PO B g w b? bW i (j+1) ((fV+(b?.getD i 0*bW.getD j 0+cs.getD (i+j) 0))/4294967296)
  ((wr.drewN n).setCell ⟨g,i+j,none⟩<|.int .u64 (((fV+(b?.getD i 0*bW.getD j 0+cs.getD (i+j) 0))%4294967296:Nat):Int)):=by refine⟨cs.set (i+j)<|(fV+(b?.getD i 0*bW.getD j 0+cs.getD (i+j) 0))%4294967296,by simp[h1],abk h<|Nat.mod_lt _ ax,?_,(c.drewN n).stored _ _,?_,?_⟩;{intro q a';rw[getD_set_ne ae];exact o q a'};{have e:=abl cs (i+j) ((fV+(b?.getD i 0*bW.getD j 0+cs.getD (i+j) 0))%4294967296) ae;rw[N2 bW j];generalize cs.getD (i+j) 0=z at*;generalize b?.getD i 0=x at*;generalize bW.getD j 0=y at*;generalize aE:ep (cs.set (i+j)<|(fV+(x*y+z))%4294967296)=r at*;generalize ep cs=vc at*;generalize ep (b?.take i)*ep bW=m at*;(have cr:4294967296^i*(x*(ep (bW.take j)+4294967296^j*y))=4294967296^i*(x*ep (bW.take j))+4294967296^(i+j)*(x*y):=by rw[Nat.mul_add,Nat.mul_add,Nat.pow_add];congr 1;rw[Nat.mul_left_comm x,Nat.mul_assoc]);rw[cr];generalize 4294967296^i*(x*ep (bW.take j))=t at*;rw[<-Nat.add_assoc i j 1,Nat.pow_succ];generalize 4294967296^(i+j)=p at*;have aU:=Nat.div_add_mod (fV+(x*y+z)) 4294967296;(have eI:p*(fV+(x*y+z))=p*fV+(p*(x*y)+p*z):=by rw[Nat.mul_add,Nat.mul_add]);(have u:p*(4294967296*((fV+(x*y+z))/4294967296)+(fV+(x*y+z))%4294967296)=p*4294967296*((fV+(x*y+z))/4294967296)+p*((fV+(x*y+z))%4294967296):=by rw[Nat.mul_add,Nat.mul_assoc]);rw[aU]at u;omega};exact(below_drewN f n).setCell (by exact c.le) _
theorem aoU{fV:Nat}
 (h1:cs.length=b?.length+bW.length)(o:∀d∈cs,d<4294967296)(f:∀q,i+bW.length<=q->cs.getD q 0=0)(c:qh wr B g cs)
 (h:ep cs+4294967296^(i+bW.length)*fV=ep (b?.take i)*ep bW+4294967296^i*(b?.getD i 0*ep (bW.take bW.length)))(j:Below B w wr)
 (hi:i<b?.length)(tF:fV<4294967296):
 Lt B g w b? bW (i+1) (wr.setCell ⟨g,i+bW.length,none⟩<|.int .u64 (fV:Nat)):=by refine⟨cs.set (i+bW.length) fV,by simp[h1],abk o tF,?_,c.stored _ _,?_,?_⟩;{intro q a';rw[getD_set_ne ae];exact f q ae};{have e:=abl cs (i+bW.length) fV ae;rw[f _<|bG _]at e;rw[ou]at h;rw[N2 b? i,Nat.add_mul,Nat.mul_assoc];omega};exact j.setCell (by exact c.le) _
theorem ZV:(prog.info? 46).map (fun i=>(i.zero,i.size,i.bytes))=some (some<|.int .u64 0,1,8):=b!
theorem NF{w:World}{x:Value}{t:TypeId}:∀(j:Nat) (u:Value),[x][j]?=some u->(w.alloc<|.cells #[x] t).cell? ((w:Addr).add j)=some u:=by intro j u c;match j,c with|0,c=>simp at c;subst c;simp[Addr.add]
theorem Bb(b2 c3:Value)(Q R:Nat)(w:World)(ha:k2 w b2 Q)(al:k2 w c3 R)(Z:Q<2^100000)(JN:R<2^100000):
 aR 91 #[b2,c3] w (Iz w<|Q+R):=by obtain⟨b?,⟨aa,fy,rfl,ED,qs,V⟩,S,rfl⟩:=ha;obtain⟨bW,⟨ab,pQ,rfl,oJ,Re,W⟩,P,rfl⟩:=al;have Mz:=No S Z;have qt:=No P JN;have OM:=ad S.1;have K0:=ad P.1;clear S P Z JN;have Ii:=ad V;have Y:=ad W;clear V W;obtain⟨i0,hi,dH,c0,dx⟩:=info_parts ZV;have Hi:=ad hi;have J:=ad dH;have M:=ad c0;have K:=ad dx;clear hi dH c0 dx;go_enter func91,ntmps91;go_wp2;go_loopw [5,6,7] (fun c y i wr=>∃k fV:Nat,i=.int .i64 k/\y=.int .u64 fV/\fV<=1/\k<=max b?.length bW.length+1/\(k=max b?.length bW.length+1->fV=0)/\Vy w w b? bW k c fV wr) (fun _ _ i _=>max b?.length bW.length+2-(intOf i).toNat);(case atStart=>exact⟨0,0,rfl,rfl,ae,ae,fun _=>rfl,[],rfl,bI,World.ownsRow_nil _ _ _ _,by simp[ep],b5 _ _⟩);case round=>obtain⟨k,fV,rfl,rfl,tF,aqK,Rm,cs,a!,X?,O,hq,f⟩:=hrel;have E:=f.size;have G:=ad O;have D:=ad X?;have H:=ad hq;have j:=ad a!;have K1:=ad Rm;have L:=ad fun g aS=>(O.lt g aS).1;clear O X? hq a! Rm;by_cases cg:k<b?.length;{obtain⟨ba,NA,rfl,X⟩:=Ii.out ae;have sS:=cell_later f<|X k cg;clear X;have G8:=OM.out _<|Ge cg;by_cases br:k<bW.length;{obtain⟨df,Hg,rfl,I⟩:=Y.out ae;have vM:=cell_later f<|I k br;clear I;have yr:=K0.out _<|Ge br;have t:=fun w1 c1 o h1 C=>ad<|NI (w1:=w1) (c1:=c1) (o:=o) (s:=((fV:Int)+(b?.getD k 0:Nat)+(bW.getD k 0:Nat))%4294967296) j.out D.out H.out f E L.out h1 C ae;have F:=ad f;clear f;generalize b?.getD k 0=x at*;generalize bW.getD k 0=y at*;go_wp2_with(at_builtin;refine wpList_append_own _ rfl _ _ 136 rfl w 46 i0 (.int .u64 0) 1 8 underlying136 Hi.out J.out M.out K.out rfl ax _ _ _ rfl (G.out.alloc _) wr 1 1 [.int .u64<|((fV:Int)+(x:Int)+(y:Int))%4294967296] rfl rfl NF ?_ ?_ ?_ ?_ ?_);{intro u hu;simp at hu;subst hu;rfl};{rw[j.out];unfold maxLen;omega};{rw[j.out];omega};{simp;omega};intro c1 w1 r z _;have A:=t w1 c1 _ (by rw[j.out]at r;exact r) z;clear r z t;go_wp2;go_roundw;(case rel=>exact⟨k+1,(fV+x+y)/4294967296,by go_num,by go_num,ae,ae,ae,A.out⟩);case measure=>simp[intOf];omega};have aO:bW.getD k 0=0:=L_ ae;have t:=fun w1 c1 o h1 C=>ad<|NI (w1:=w1) (c1:=c1) (o:=o) (s:=((fV:Int)+(b?.getD k 0:Nat))%4294967296) j.out D.out H.out f E L.out h1 C ae;simp only[aO,Nat.add_zero]at t;clear aO;have F:=ad f;clear f;generalize b?.getD k 0=x at*;go_wp2_with(at_builtin;refine wpList_append_own _ rfl _ _ 136 rfl w 46 i0 (.int .u64 0) 1 8 underlying136 Hi.out J.out M.out K.out rfl ax _ _ _ rfl (G.out.alloc _) wr 1 1 [.int .u64<|((fV:Int)+(x:Int))%4294967296] rfl rfl NF ?_ ?_ ?_ ?_ ?_);{intro u hu;simp at hu;subst hu;rfl};{rw[j.out];unfold maxLen;omega};{rw[j.out];omega};{simp;omega};intro c1 w1 r z _;have A:=t w1 c1 _ (by rw[j.out]at r;exact r) z;clear r z t;go_wp2;go_roundw;(case rel=>exact⟨k+1,(fV+x)/4294967296,by go_num,by go_num,ae,ae,ae,A.out⟩);case measure=>simp[intOf];omega};by_cases br:k<bW.length;{obtain⟨df,Hg,rfl,I⟩:=Y.out ae;have vM:=cell_later f<|I k br;clear I;have yr:=K0.out _<|Ge br;have cI:=L_ ae;have t:=fun w1 c1 o h1 C=>ad<|NI (w1:=w1) (c1:=c1) (o:=o) (s:=((fV:Int)+(bW.getD k 0:Nat))%4294967296) j.out D.out H.out f E L.out h1 C ae;simp only[cI,Nat.add_zero]at t;clear cI;have F:=ad f;clear f;generalize bW.getD k 0=y at*;go_wp2_with(at_builtin;refine wpList_append_own _ rfl _ _ 136 rfl w 46 i0 (.int .u64 0) 1 8 underlying136 Hi.out J.out M.out K.out rfl ax _ _ _ rfl (G.out.alloc _) wr 1 1 [.int .u64<|((fV:Int)+(y:Int))%4294967296] rfl rfl NF ?_ ?_ ?_ ?_ ?_);{intro u hu;simp at hu;subst hu;rfl};{rw[j.out];unfold maxLen;omega};{rw[j.out];omega};{simp;omega};intro c1 w1 r z _;have A:=t w1 c1 _ (by rw[j.out]at r;exact r) z;clear r z t;go_wp2;go_roundw;(case rel=>exact⟨k+1,(fV+y)/4294967296,by go_num,by go_num,ae,ae,ae,A.out⟩);case measure=>simp[intOf];omega};by_cases hc:0<fV;{(have aqJ:k≠max b?.length bW.length+1:=fun h=>by have:=K1.out h;omega);have cI:b?.getD k 0=0:=L_ ae;have aO:=L_ ae;have t:=fun w1 c1 o h1 C=>ad<|NI (w1:=w1) (c1:=c1) (o:=o) (s:=((fV:Int))%4294967296) j.out D.out H.out f E L.out h1 C ae;simp only[cI,aO,Nat.add_zero]at t;clear cI aO;have F:=ad f;clear f;go_wp2_with(at_builtin;refine wpList_append_own _ rfl _ _ 136 rfl w 46 i0 (.int .u64 0) 1 8 underlying136 Hi.out J.out M.out K.out rfl ax _ _ _ rfl (G.out.alloc _) wr 1 1 [.int .u64<|((fV:Int))%4294967296] rfl rfl NF ?_ ?_ ?_ ?_ ?_);{intro u hu;simp at hu;subst hu;rfl};{rw[j.out];unfold maxLen;omega};{rw[j.out];omega};{simp;omega};intro c1 w1 r z _;have A:=t w1 c1 _ (by rw[j.out]at r;exact r) z;clear r z t;go_wp2;go_roundw;(case rel=>exact⟨k+1,(fV)/4294967296,by go_num,by go_num,ae,ae,ae,A.out⟩);case measure=>simp[intOf];omega};have gx:fV=0:=ae;subst gx;have U:=H.out;rw[qG ae,qG ae,Nat.mul_zero,Nat.add_zero]at U;have N:=ad U;have F:=ad f;clear U f;go_wp2_with(go_at_call 79;refine(SZ _ cs _ (WB G.out) D.out).mono ?_;rintro e aQ ⟨v,rfl,av,a7⟩);rw[N.out]at av;have me:=ad<|F.out.trans<|a7.mono E;clear a7;go_wp2;go_ret;exact⟨v,rfl,av,me.out⟩
theorem aoW
 (h:w1.ownsRow w 46 1 (.slice (some w) (b?.length+bW.length)<|b?.length+bW.length) (b?.length+bW.length) (List.replicate (b?.length+bW.length)<|.int .u64 0))
 (aS:w.grownBy w1 none):Lt w w w b? bW 0 w1:=by refine⟨List.replicate (b?.length+bW.length) 0,bI,fun d aI=>by rw[List.eq_of_mem_replicate aI];decide,fun q _=>?_,?_,by simp[ep,ao2],(b5 _ _).grown aS (bG _) fun k hk=>by simp at hk⟩;{rw[eh,List.getElem?_replicate];split<;>rfl};unfold qh;rw[List.length_replicate,List.map_replicate];exact h
theorem N4(S V:Value)(H I:Nat)(w:World)(ha:k2 w S H)(al:k2 w V I)(O:H<2^100000)(P:I<2^100000):
 aR 239 #[S,V] w (Iz w<|H*I):=by obtain⟨b?,⟨aa,fy,rfl,ED,qs,L⟩,K,rfl⟩:=ha;obtain⟨bW,⟨ab,pQ,rfl,oJ,Re,M⟩,G,rfl⟩:=al;have Mz:=No K O;have qt:=No G P;have OM:=ad K.1;have K0:=ad G.1;clear K G O P;have Ii:=ad L;have FK:=ad M;clear L M;obtain⟨i0,hi,dH,c0,dx⟩:=info_parts ZV;have Hi:=ad hi;have Z:=ad dH;have uf:=ad c0;have BN:=ad dx;clear hi dH c0 dx;go_enter func239,ntmps239;go_wp2_with(at_make;refine wpList_make_full _ rfl _ _ 136 rfl w 46 i0 (.int .u64 0) 1 underlying136 Hi.out Z.out uf.out .i64 .i64 _ _ (b?.length+bW.length) rfl rfl bI bI (by rw[BN.out];omega) (by unfold maxLen;omega) (bG _) ?_);intro w1 J X;have U:=aoW (by rw[toList_madeCells_one]at J;exact J) X;have W:=ad U;clear J X U;go_wp2;go_loopw [6,7,8,17] (fun _ _ _ i wr=>∃k:Nat,i=.int .i64 k/\k<=b?.length/\Lt w w w b? bW k wr) (fun _ _ _ i _=>b?.length-(intOf i).toNat);(case atStart=>exact⟨0,rfl,fw _,W.out⟩);case round=>obtain⟨k,rfl,hk,R⟩:=hrel;have A:=ad R;clear R W;by_cases cg:k<b?.length;{have hle:k+bW.length<b?.length+bW.length:=ae;obtain⟨u,mr⟩:∃u:World,u=wr:=⟨_,rfl⟩;subst mr;go_wp2;go_loopw [7,8,22] (fun y _ j wr=>∃m fV:Nat,j=.int .i64 m/\y=.int .u64 fV/\m<=bW.length/\fV<4294967296/\PO w w w b? bW k m fV wr) (fun _ _ j _=>bW.length-(intOf j).toNat);(case atStart=>exact⟨0,0,rfl,rfl,fw _,ax,aoV A.out⟩);case round=>obtain⟨m,fV,rfl,rfl,hm,tF,cs,h1,r,t,c,o,f⟩:=hrel;obtain⟨ba,NA,rfl,N⟩:=Ii.out ae;have sS:=cell_later f<|N k cg;have G8:=OM.out _<|Ge cg;clear N A;by_cases br:m<bW.length;{obtain⟨df,Hg,rfl,Y⟩:=FK.out ae;have vM:=cell_later f<|Y m br;clear Y;have yr:=K0.out _<|Ge br;have Q:=c.cell (q:=k+m) ae;have F:=c.free<|k+m;have uQ:=r _<|Ge (l:=cs) (k:=k+m) ae;have Lg:=fun n=>ad<|aoX h1 r t c o f cg br n;have hmul:=agl _ _ G8 yr;clear h1 r t c o f;generalize b?.getD k 0=x at*;generalize bW.getD m 0=y at*;generalize cs.getD (k+m) 0=z at*;generalize hp:x*y=p at*;(have uM:(x:Int)*(y:Int)=(p:Int):=by rw[<-hp];exact(Int.natCast_mul x y).symm);clear hp;have aO:IntKind.i64.wrap ((k:Int)+(m:Int))=(k:Int)+(m:Int):=IntWalk.i64_in _ ae;have aU:((k:Int)+(m:Int)).toNat=k+m:=ae;have cr:(0:Int)<=(k:Int)+(m:Int):=ae;have eI:(k:Int)+(m:Int)<(b?.length:Int)+(bW.length:Int):=ae;go_wp2;go_quiet (fail);go_wp2;go_roundw;(case rel=>refine⟨m+1,(fV+(p+z))/4294967296,by go_num,by go_num,ae,ae,?_⟩;have h:=(Lg nq).out;rw[show(((fV+(p+z))%4294967296:Nat):Int)=((fV:Int)+((p:Int)+(z:Int)))%4294967296 by omega]at h;exact h);case measure=>simp[intOf];omega};obtain rfl:m=bW.length:=ae;have Q:=c.cell (q:=k+bW.length) ae;rw[t _<|bG _]at Q;have F:=c.free<|k+bW.length;have pI:=ad<|aoU h1 r t c o f cg tF;clear h1 r t c o f;have aO:IntKind.i64.wrap ((k:Int)+(bW.length:Int))=(k:Int)+(bW.length:Int):=IntWalk.i64_in _ ae;have aU:((k:Int)+(bW.length:Int)).toNat=k+bW.length:=ae;have cr:(0:Int)<=(k:Int)+(bW.length:Int):=ae;have eI:(k:Int)+(bW.length:Int)<(b?.length:Int)+(bW.length:Int):=ae;go_wp2;go_roundw;(case rel=>exact⟨k+1,by go_num,ae,pI.out⟩);case measure=>simp[intOf];omega};obtain rfl:k=b?.length:=ae;obtain⟨cs,h1,r,t,c,o,f⟩:=A.out;have C:=c.agj;rw[h1]at C;rw[ou]at o;have pG:=ad r;have sy:=ad o;have E:=ad f;have D:=ad C;have bR:=f.size;clear h1 r t c o f C A;go_wp2_with(go_at_call 79;refine(SZ _ cs _ D.out pG.out).mono ?_;rintro e aQ ⟨v,rfl,av,a7⟩);rw[sy.out]at av;have me:=ad<|E.out.trans<|a7.mono bR;clear a7;go_wp2;go_ret;exact⟨v,rfl,av,me.out⟩
theorem abA(h:m<l.length):ep l=ep (l.take m)+4294967296^m*(l.getD m 0+4294967296*ep (l.drop<|m+1)):=by rw[<-WI h];(conv=>lhs;rw[<-List.take_append_drop m l]);rw[KF,fG,show min m l.length=m by omega]
theorem aoJ(aI:∀d∈l,d<4294967296)(m:Nat)(h:m<=l.length):ep (l.take m)<4294967296^m:=by have:=T4 (l.take m) fun d au=>aI d<|List.mem_of_mem_take au;rwa[fG,show min m l.length=m by omega]at this
theorem Z9(ha:BS b?)(al:BS bW)(h:b?.length<bW.length):ep b?<ep bW:=by have h1:=T4 b? ha.1;have c:=S0 al ae;have f:4294967296^b?.length<=4294967296^(bW.length-1):=Nat.pow_le_pow_right ax ae;omega
theorem WC(ha:BS b?)(f:b?.length=bW.length){m:Nat}(hm:m<b?.length)
 (he:b?.drop (m+1)=bW.drop (m+1))(h:b?.getD m 0<bW.getD m 0):ep b?<ep bW:=by rw[abA hm,abA (l:=bW) (m:=m) ae,he];have h1:=aoJ ha.1 m ae;have c:4294967296^m*(b?.getD m 0+1)<=4294967296^m*bW.getD m 0:=Nat.mul_le_mul_left _ h;rw[Nat.mul_add]at c⊢;rw[Nat.mul_add];omega
def wW(a b:Nat):Int:=if a<b then-1 else if b<a then 1 else 0
theorem Wc(h:a<b):wW a b=-1:=aN h
theorem LJ(h:b<a):wW a b=1:=by unfold wW;rw[aC ae,aN h]
theorem afK(a:Nat):wW a a=0:=by unfold wW;rw[aC ae,aC ae]
theorem LK:wW a b<=0<->a<=b:=by unfold wW;split<;>(try split)<;>omega
theorem agE(ha:m<b?.length)(al:m<bW.length)(he:b?.drop (m+1)=bW.drop (m+1))(h:b?.getD m 0=bW.getD m 0):b?.drop m=bW.drop m:=by rw[List.drop_eq_getElem_cons ha,List.drop_eq_getElem_cons al,he];congr 1;rw[eh,eG ha,eh,eG al]at h;exact h
def acs(w:World)(k:Int)(e:Ending)(w':World):Prop:=e=.returned k/\∃n,w'=w.drewN n
theorem He(J K:Value)(N O:Nat)(w:World)(ha:k2 w J N)(al:k2 w K O):
   aR 240 #[J,K] w (acs w<|wW N O):=by
 obtain⟨b?,⟨aa,fy,rfl,Z,Y,D⟩,P,rfl⟩:=ha;obtain⟨bW,⟨ab,pQ,rfl,oJ,U,E⟩,L,rfl⟩:=al;unfold maxLen at Y U;have t:=ad P;have r:=ad L;have S:=ad D;have R:=ad E;clear D E P L;by_cases h1:b?.length<bW.length;·rw[Wc<|Z9 t.out r.out h1];(have bU:(((b?.length:Nat):Int)!=((bW.length:Nat):Int))=true:=by rw[bne_iff_ne];omega);go_enter func240,ntmps240;go_wp2;go_ret;exact⟨rfl,0,rfl⟩
 . by_cases I:bW.length<b?.length;·rw[LJ<|Z9 r.out t.out I];(have bU:(((b?.length:Nat):Int)!=((bW.length:Nat):Int))=true:=by rw[bne_iff_ne];omega);go_enter func240,ntmps240;go_wp2;go_ret;exact⟨rfl,0,rfl⟩
   . (have z:b?.length=bW.length:=by omega);have A:=ad z;(have bU:(((b?.length:Nat):Int)!=((bW.length:Nat):Int))=false:=by rw[z];simp);have X:b?.length<=bW.length:=ae;clear z h1 I;go_enter func240,ntmps240;go_wp2;clear bU;go_loopw [5] (fun i w'=>∃k:Nat,k<=b?.length/\i=.int .i64 ((k:Int)-1)/\b?.drop k=bW.drop k/\∃C,w'=w.drewN C) (fun i _=>(intOf i+1).toNat);case atStart=>exact⟨b?.length,bG _,rfl,by rw[List.drop_length,A.out,List.drop_length],0,rfl⟩
     case round=>
       obtain⟨k,hk,rfl,H,C,rfl⟩:=hrel
       have c:=ad H
       clear H
       cases k with
       |zero=>
         have he:ep b?=ep bW:=by have h:=c.out;rw[List.drop_zero,List.drop_zero]at h;rw[h]
         have lZ:=ad he
         clear he
         go_wp2
         go_ret
         exact⟨by rw[lZ.out,afK];rfl,C,rfl⟩
       |succ m=>
         obtain⟨ba,NA,rfl,F⟩:=S.out ae
         obtain⟨df,Hg,rfl,Q⟩:=R.out ae
         have sS:=F m ae
         have vM:=Q m ae
         have V:m<bW.length:=ae
         have yc:(0:Int)<=((m+1:Nat):Int)-1:=ae
         have pe:((m+1:Nat):Int)-1<(b?.length:Int):=ae
         have YA:((m+1:Nat):Int)-1<(bW.length:Int):=ae
         have YB:(((m+1:Nat):Int)-1).toNat=m:=ae
         clear F Q
         have j:=ad fun h=>WC t.out A.out (m:=m) ae c.out h
         have f:=ad fun h=>WC r.out A.out.symm (m:=m) ae c.out.symm h
         have o:=ad fun h=>agE (m:=m) ae ae c.out h
         clear c
         generalize b?.getD m 0=x at*
         generalize bW.getD m 0=y at*
         by_cases cc:x<y
         . have G:(x:Int)<(y:Int):=ae
           have ej:=ad<|j.out cc
           clear cc j f o
           go_wp2
           go_quiet (fail)
           go_wp2
           go_ret
           exact⟨by rw[Wc ej.out];rfl,_,World.drewN_drewN _ _ _⟩
         . have G:¬(x:Int)<(y:Int):=ae
           by_cases u:y<x
           . have W:(y:Int)<(x:Int):=ae
             have ej:=ad<|f.out u
             clear cc u j f o
             go_wp2
             go_quiet (fail)
             go_wp2
             go_quiet (fail)
             go_wp2
             go_ret
             exact⟨by rw[LJ ej.out];rfl,_,by rw[World.drewN_drewN,World.drewN_drewN]⟩
           . have M:x=y:=ae
             have ej:=ad<|o.out M
             subst M
             clear cc u j f o G
             have hn:¬(x:Int)<(x:Int):=ae
             go_wp2
             go_quiet (fail)
             go_wp2
             go_quiet (fail)
             go_wp2
             go_roundw
             case rel=>exact⟨m,ae,by go_num,ej.out,_,rfl⟩
             case measure=>simp[intOf]
theorem Fc{a:Int}(h:dJ a=true):∃k:Nat,a=(k:Int)/\k<=4611686018427387903:=by have:=gX h;exact⟨a.toNat,ae,ae⟩
theorem pB(h:k<18446744073709551616):k<2^100000:=
 nX h (Nat.pow_le_pow_right (n:=2) ax (by decide:64<=100000))
