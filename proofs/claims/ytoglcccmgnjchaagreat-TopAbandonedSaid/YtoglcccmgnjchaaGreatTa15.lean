import Derived.Test.YtoglcccmgnjchaaGreatTa14
import Derived.Test.YtoglcccmgnjchaaGreatRows
import Derived.OpenShut
import Derived.Lib.SmallJoins
import Derived.Deep.Slices
import Derived.ChangeSame
import Derived.Deep.AppendLies
import Derived.Deep.QuietTactic
import Derived.WalkSmall
import Derived.Lib.AppendZeros
import Derived.Deep.AppendSrc
set_option linter.all false
set_option maxHeartbeats 8000000
set_option maxRecDepth 100000
namespace Go.Proofs.YtoglcccmgnjchaaGreat
open Go.Proofs.Tryz PL
section
open Go.RowKit ai Go.Sort
theorem anN(g cap:Nat)(ys:List bV)(w:World)(base:Nat)(h:uj w base (.slice (some g) ys.length cap) ys)(N:∀y∈ys,eH y.c)(W:ys.length<4611686018427387904):
 aR 30 #[.slice (some g) ys.length cap,.func (.func 31) #[] #[]] w fun e w'=>e=.returned (.tuple #[])/\
  ∃o:List bV,o.Perm ys/\o.Pairwise (fun a b=>¬cT (bH b.c) (bH a.c)<0)/\uj w' base (.slice (some g) o.length cap) o/\(∀B,B<=g->B<=w->Below B w w'):=by obtain⟨L,O⟩:=h;obtain⟨hlen,⟨e,_⟩|⟨Y,Z,cur,e,P,hc,X,J,z,I⟩⟩:=L;{cases e};injection e with aO aU cr;injection aO with aO;injection aO with aO;subst aO cr;(obtain⟨d,aI⟩:∃d:List (Fq w),d.map Subtype.val=ys:=by refine⟨ys.attach.map fun y=>⟨y.val,O y.val y.property,N y.val y.property⟩,?_⟩;rw[List.map_map];exact List.attach_map_subtype_val ys);(have r:d.toArray.size=ys.length:=by rw[<-aI];simp);have p:aq w g 56 cur:=hc;(have V:∀i,i<ys.length->(d.toArray[i]!).val=ys[i]!:=by intro i hi;(have s:i<d.length:=by rw[<-aI,hE]at hi;exact hi);rw[List.getElem!_toArray,getElem!_pos d i s,getElem!_pos ys i hi];(have:ys[i]=(d.map Subtype.val)[i]'(by rw[hE];exact s):=by simp only[aI]);rw[this,List.getElem_map]);(have T:(flatK (tD w) 4 d.toArray).toList=fk ys:=by rw[W?,aI]);(have hH:HoldsK (tD w) 4 w g 0 d.toArray:=by intro j f;rw[size_flatK,r]at f;refine⟨?_,p.free _⟩;rw[iQ,p.cell];(have aO:(fk ys)[j]?=some (flatK (tD w) 4 d.toArray)[j]!:=by rw[<-T,Array.getElem?_toList,getElem!_pos _ j<|by rw[size_flatK,r];exact f,Array.getElem?_eq_getElem]);rw[<-I,List.getElem?_take_of_lt f]at aO;rw[<-Array.getElem?_toList];exact aO);(have R:CmpLays prog 31 #[] (tD w) 4 (F8 w) g 0 d.toArray.size w:=by intro m os u _ x y;have aS:=abt (tD w) 4 w g 0 m u os;(have aE:∀q,some g=some q->∃c,w.heap[q]?=some (.cells c 56 (0,0)):=fun q a'=>by(injection a' with a');subst a';exact⟨cur,hc⟩);have au:=x.property.1.grown aS aE;have hy:=y.property.1.grown aS aE;obtain⟨_,ha,D,eE,_⟩:=id au.2;obtain⟨_,E,F,M,_⟩:=id hy.2;refine(alB x.val.c y.val.c x.val.kv x.val.av y.val.kv y.val.av (sortWorldK (tD w) 4 w g 0 m u os) au.1 hy.1 x.property.2 y.property.2 ⟨ha,_,D,eE⟩ ⟨E,_,F,M⟩).mono ?_;rintro e w' ⟨he,al,H⟩;obtain⟨q,t,hw⟩:=ahw al H;exact⟨he,q,t,hw⟩);have k:=Tryz.slices_SortFunc (α:=Fq w) 4 Tryz.isAgg56 Tryz.sizeOf56 (tD w) (fun _=>rfl) (fun x=>bV.one x.val w x.property.1) (F8 w) (aoA w) 31 #[] g 0 cap d.toArray w (enters_of func31 b! rfl) R hH p.lt ae;rw[r]at k;refine k.mono ?_;rintro e w' ⟨rfl,d',n,os,hp,aB,rfl⟩;(have C:d'.size=ys.length:=by rw[hp.1,r]);(have A:(d'.toList.map Subtype.val).length=ys.length:=by simp[C]);have aS:=abt (tD w) 4 w g 0 n d' os;(have aE:∀q,some g=some q->∃c,w.heap[q]?=some (.cells c 56 (0,0)):=fun q a'=>by(injection a' with a');subst a';exact⟨cur,hc⟩);(have v:∀i (hi:i<d'.size),(d'.toList.map Subtype.val)[i]'(by simpa using hi)=d'[i]!.val:=fun i hi=>by rw[List.getElem_map,Array.getElem_toList,getElem!_pos d' i hi]);refine⟨rfl,d'.toList.map Subtype.val,?_,?_,⟨⟨x0 _,.inr ⟨g,cap,_,rfl,P,anO (tD w) 4 w g 0 n d' os p,ae,J,by rw[show(putCells id 0 (flatK (tD w) 4 d') cur).size=cur.size by simp[putCells]];exact z,?_⟩⟩,fun y hy=>?_⟩,fun B br hw=>?_⟩;{have l:=hp.2.2;(have aO:(d'.extract 0 ys.length).toList=d'.toList:=by rw[Array.extract_eq_self_of_le ae]);(have aU:(d.toArray.extract 0 ys.length).toList=d:=by rw[Array.extract_eq_self_of_le ae]);rw[aO,aU]at l;have K:=l.map Subtype.val;rwa[aI]at K};{rw[List.pairwise_iff_getElem];intro i j hi f Q;(have s:i<d'.size:=by simpa using hi);(have S:j<d'.size:=by simpa using f);have l:=aB i j (fw _) Q ae;rw[v i s,v j S];unfold ltOf F8 at l;exact of_decide_eq_false l};{rw[<-W?];apply List.ext_getElem?;intro j;(have U:(flatK (tD w) 4 d').size=ys.length*4:=by rw[size_flatK,C]);rw[List.getElem?_take];split;{rename_i f;rw[A]at f;(have G:j<cur.size:=by rw[z];omega);rw[Array.getElem?_toList,Array.getElem?_toList];unfold putCells;rw[Array.getElem?_mapIdx,Array.getElem?_eq_getElem G,Option.map_some,aN ⟨fw _,ae⟩,Nat.sub_zero,getElem!_pos _ j ae,Array.getElem?_eq_getElem ae];rfl};rename_i f;rw[A]at f;rw[Array.getElem?_toList,Array.getElem?_eq_none ae]};{obtain⟨x,au,rfl⟩:=List.mem_map.1 hy;exact x.property.1.grown aS aE};exact((b5 B w).grown aS hw fun q a'=>by injection a' with a';omega)
end
section
open Go.RowKit ai
theorem insert_nil(a:Value)(w:World):aR 93 #[(),bA,bA,a] w (dM (.tuple #[]) w):=by go_enter func93,ntmps93;go_wp2;go_loopw [8] (fun i wr=>i=.int .i64 1/\Below w w wr) (fun _ _=>0);(case atStart=>exact⟨rfl,b5 _ _⟩);case round=>obtain⟨rfl,al⟩:=hrel;go_wp2;exact bodyPost_end (v:=.tuple #[]) (by simp[results,results93,go_sem]) rfl ⟨rfl,al⟩
theorem alY(d:Value)(w:World):aR 59 #[(),bA,bA,bA,d] w (dM (.tuple #[]) w):=by go_enter func59,ntmps59;go_wp2;go_loopw [1,2] (fun a b wr=>a=.int .i64 0/\b=.int .i64 0/\wr=w) (fun _ _ _=>0);(case atStart=>exact⟨rfl,rfl,rfl⟩);case round=>obtain⟨rfl,rfl,rfl⟩:=hrel;go_wp2_with(go_at_call 93;refine(insert_nil _ _).mono ?_;rintro e aQ ⟨rfl,al⟩;have c:=ad al);exact mD ⟨rfl,c.out⟩
theorem anP(d:Value)(w:World):aR 30 #[(),d] w (dM (.tuple #[]) w):=by
 have c:Hid (∀W,aR 60 #[.int .u64 0] W<|ga bA W):=fun W=>(Tryz.bits_Len 0 W ax ax).mono fun _ _ ⟨h1,a⟩=>⟨h1,a.symm⟩;go_enter func30,ntmps30
 go_wp2_with(first
  |(go_at_call 60;refine(c.out _).mono ?_;rintro e aQ ⟨rfl,rfl⟩)
  |(go_at_call 59;refine(alY _ _).mono ?_;rintro e aQ ⟨rfl,al⟩;have b:=ad al))
 exact bodyPost_end (v:=.tuple #[]) (by simp[results,results30,go_sem]) rfl ⟨rfl,b.out⟩
end
section
open Go.RowKit ai
variable {af : List aA}
variable{L:List Cell}{m:Mem}{j i:Nat}{c:Cell}
theorem T'(h:iA L):L.Pairwise fun a b=>bH a≠bH b:=h.order.imp fun{a b} d e=>by unfold nf at d;unfold bH at e;rw[e,rm]at d;omega
theorem XN(bY:jD af m)(h:iA L)(j:Nat):iA (n? m L j):=by unfold n?;split;{exact h.filter _};exact bY.wf _
theorem XM(bY:jD af m)(b:c9 m<=3)(a:j<2^(c9 m+1)):∀c∈n? m L j,lg c (c9 m+1)=j:=by intro c hc;unfold n? at hc;split at hc;{unfold cut at hc;simpa using(List.mem_filter.1 hc).2};have:=bY.shard (c9 m+1) j ae c hc;rwa[ov a]at this
theorem TN{l:Nat}(h:lg c (l+1)=j):lg c l=j%2^l:=by unfold lg at*;rw[<-h,wk,Nat.mul_comm 2,Nat.mod_mul_right_mod]
structure aer(m:Mem)(i:Nat):Prop where
 own:∀c∈(my m i).flatten,lg c (c9 m)=i
 ne:(my m i).flatten.Pairwise fun a b=>bH a≠bH b
 has:∀c,lg c (c9 m)=i->(c∈(my m i).flatten<->Has m c)
theorem NV(c:Cell)(l:Nat):lg c l=eu c%2^l:=rfl
theorem anD(bY:jD af m)(du:eL m)(hi:i<2^c9 m):aer m i:=by
 (have t:c9 m<=4:=by have:=du.d8;unfold c9;omega);by_cases hc:s9 m=false\/m.ah (aW (c9 m) i)<c4;·have e:my m i=[m.b4<|aW (c9 m) i]:=aN hc;(have f:(my m i).flatten=m.b4 (aW (c9 m) i):=by rw[e];simp);refine⟨fun c h=>?_,?_,fun c h=>?_⟩;{rw[f]at h;have:=bY.shard (c9 m) i t c h;rwa[ov hi]at this};{rw[f];exact T' (bY.wf _)};·rw[f];(have g:aW (c9 m) (eu c)=aW (c9 m) i:=by rw[<-S9 (c9 m) (eu c),<-NV,h]);(have hw:gR m (eu c)=aW (c9 m) i:=by unfold gR;rw[aC];{exact g};rintro⟨h1,k⟩;rcases hc with hc|hc;{unfold s9 at hc;exact of_decide_eq_false hc h1};have k:c4<=m.ah (aW (c9 m)<|eu c):=k;rw[g]at k;omega);have r:=l! (c9 m) i;have bU:=(du.cur (aW (c9 m) i) r.1 r.2).1;unfold Has mX;rw[hw,aC ae]
 . have dw:s9 m=true:=by
     cases e:s9 m with
     |true=>rfl
     |false=>exact absurd (.inl e) hc
   (have v:c4<=m.ah (aW (c9 m) i):=by refine q9 fun h=>hc<|.inr ae);(have a8:m.ah 0%2=1:=by unfold s9 at dw;exact pC dw);have q:=du.uT a8;have k:=wk<|c9 m;have e:my m i=[n? m (m.b4<|aW (c9 m) i) i,n? m (m.b4<|aW (c9 m) i)<|i+2^c9 m]:=aC hc;(have f:(my m i).flatten=n? m (m.b4<|aW (c9 m) i) i++n? m (m.b4<|aW (c9 m) i) (i+2^c9 m):=by rw[e];simp);have eE:=XM bY q (L:=m.b4 (aW (c9 m) i)) (show i<2^(c9 m+1)by omega);have p:=XM bY q (L:=m.b4 (aW (c9 m) i)) (show i+2^c9 m<2^(c9 m+1)by omega);have hp:=two_pos (c9 m);refine⟨fun c h=>?_,?_,fun c h=>?_⟩;{rw[f,List.mem_append]at h;rcases h with h|h;{rw[TN<|eE c h,ov hi]};rw[TN<|p c h,Nat.add_mod_right,ov hi]};{rw[f,List.pairwise_append];refine⟨T'<|XN bY (bY.wf _) _,T'<|XN bY (bY.wf _) _,fun a ha b al e=>?_⟩;have h1:=eE a ha;have k:=p b al;(have:lg a (c9 m+1)=lg b (c9 m+1):=by unfold lg;unfold bH at e;rw[e]);omega};(have g:aW (c9 m) (eu c)=aW (c9 m) i:=by rw[<-S9 (c9 m) (eu c),<-NV,h]);obtain⟨j,l⟩:∃j,lg c (c9 m+1)=j:=⟨_,rfl⟩;(have u:j<2^(c9 m+1):=by rw[<-l];exact Nat.mod_lt _<|two_pos _);have n:=TN l;rw[h]at n;(have w:mX m (eu c)=n? m (m.b4<|aW (c9 m) i) j:=by(have o:aW (c9 m+1) (eu c)=aW (c9 m+1) j:=by rw[<-S9 (c9 m+1) (eu c),<-NV,l]);(have hw:gR m (eu c)=aW (c9 m+1) j:=by unfold gR;rw[aN];{exact o};refine⟨a8,?_⟩;show c4<=m.ah (aW (c9 m)<|eu c);rw[g];exact v);unfold mX n?;rw[hw];show(if m.ah (aW (c9 m+1) j)=0 then cut (m.b4<|aW (c9 m)<|eu c) (c9 m+1) (eu c%2^(c9 m+1))else m.b4 (aW (c9 m+1) j))=_;rw[g,<-NV,l]);(have s:j=i\/j=i+2^c9 m:=by by_cases cc:j<2^c9 m;{rw[ov cc]at n;exact .inl n.symm};(have:j%2^c9 m=j-2^c9 m:=by rw[Nat.mod_eq_sub_mod ae,ov ae]);exact .inr ae);unfold Has;rw[w,f,List.mem_append];rcases s with rfl|rfl;{refine⟨fun d=>?_,.inl⟩;rcases d with d|d;{exact d};have:=p c d;omega};refine⟨fun d=>?_,.inr⟩;rcases d with d|d;{have:=eE c d;omega};exact d
theorem TO(bY:jD af m)(du:eL m):∀k,k<=2^c9 m->(∀c∈(lC m k).flatten,lg c (c9 m)<k)/\((lC m k).flatten.Pairwise fun a b=>bH a≠bH b)/\∀c,lg c (c9 m)<k->(c∈(lC m k).flatten<->Has m c)
 |0,_=>⟨fun c h=>by simp[lC]at h,by simp[lC],fun c h=>ae⟩
 |k+1,hk=>by obtain⟨h1,f,g⟩:=TO bY du k ae;have aB:=anD bY du (show k<2^c9 m by omega);rw[NW,List.flatten_append];refine⟨fun c h=>?_,?_,fun c h=>?_⟩;{rcases List.mem_append.1 h with h|h;{have:=h1 c h;omega};have:=aB.own c h;omega};{rw[List.pairwise_append];refine⟨f,aB.ne,fun a ha b al e=>?_⟩;have g1:=h1 a ha;have g2:=aB.own b al;(have:lg a (c9 m)=lg b (c9 m):=by unfold lg;unfold bH at e;rw[e]);omega};rw[List.mem_append];by_cases e:lg c (c9 m)=k;{rw[<-aB.has c e];refine⟨fun d=>?_,.inr⟩;rcases d with d|d;{have:=h1 c d;omega};exact d};rw[<-g c ae];refine⟨fun d=>?_,.inl⟩;rcases d with d|d;{exact d};exact absurd (aB.own c d) e
def Af(m:Mem):List Cell:=(lC m<|2^c9 m).flatten
theorem PS(bY:jD af m)(du:eL m)(c:Cell):c∈Af m<->Has m c:=(TO bY du _<|bG _).2.2 c<|Nat.mod_lt _<|two_pos _
theorem aeM(bY:jD af m)(du:eL m):(Af m).Pairwise fun a b=>bH a≠bH b:=(TO bY du _<|bG _).2.1
theorem VM(bY:jD af m)(du:eL m)(h:c∈Af m):eH c:=(Ei bY _).ok c<|(PS bY du c).1 h
theorem XL(a:j<2^(c9 m+1))(hi:i<2^c9 m)(bY:L=m.b4 (aW (c9 m) i)):(n? m L j).length=q2 m (c9 m) i j:=by unfold n? q2;rw[v? a,bY,v? hi];split<;>rfl
theorem anC(hi:i<2^c9 m):(my m i).flatten.length=under m i:=by
 have hp:=v? hi;by_cases hc:s9 m=false\/m.ah (aW (c9 m) i)<c4;·have e:my m i=[m.b4<|aW (c9 m) i]:=aN hc;(have aU:under m i=(m.b4<|2^c9 m+i).length:=by refine aC ?_;rintro⟨h1,a⟩;rcases hc with hc|hc;{unfold s9 at hc;exact of_decide_eq_false hc h1};rw[hp]at hc;have a:c4<=m.ah (2^c9 m+i):=a;omega);rw[e,aU,hp];simp
 . have dw:s9 m=true:=by
     cases e:s9 m with
     |true=>rfl
     |false=>exact absurd (.inl e) hc
   have e:my m i=[n? m (m.b4<|aW (c9 m) i) i,n? m (m.b4<|aW (c9 m) i)<|i+2^c9 m]:=aC hc;(have aU:under m i=q2 m (c9 m) i i+q2 m (c9 m) i (i+2^c9 m):=by refine aN ⟨by unfold s9 at dw;exact pC dw,?_⟩;show c4<=m.ah (2^c9 m+i);rw[<-hp];exact q9 fun h=>hc<|.inr ae);rw[e,aU];simp only[List.flatten_cons,List.flatten_nil,List.append_nil,gO];rw[XL ae hi rfl,XL ae hi rfl]
theorem abo:∀k,k<=2^c9 m->(lC m k).flatten.length=q8 k (under m)
 |0,_=>by simp[lC,q8]
 |k+1,h=>by rw[NW,List.flatten_append,gO,abo k ae,anC ae];rfl
theorem PT(m:Mem):(Af m).length=size m:=abo _<|bG _
theorem anQ(h1:L.Pairwise fun a b=>¬cT (bH b) (bH a)<0)(f:L.Pairwise fun a b=>bH a≠bH b):L.Pairwise nf:=by refine(h1.and f).imp ?_;rintro a b ⟨h,d⟩;have:=F' (bH a)<|bH b;have g:cT (bH a) (bH b)≠0:=fun e=>d<|cmp_eq e;show cT (bH a) (bH b)<0;omega
theorem aeR(w:World)(c:Nat):∀ty,(Builtin.append_ #[41,41] ty #[(),.slice none 0 c]).run prog w=.ok () w:=by obtain⟨i0,hi,dH,c0,dx⟩:=info_parts E0;intro ty;have aB:=Src.ofNil (P:=prog) (size:=4) w underlying41 c;simp[Builtin.append_,run_underlying underlying41,sizeOf,typeInfo,hi,c0,aB.len,aB.cells]
theorem abu:∀{L d:List Cell},L.Pairwise nf->d.Pairwise nf->(∀c,c∈L<->c∈d)->L=d
 |[],[],_,_,_=>rfl
 |[],b::d,_,_,h=>by have:=(h b).2 bI;simp at this
 |a::L,[],_,_,h=>by have:=(h a).1 bI;simp at this
 |a::L,b::d,h1,k,h=>by(have f:∀c:Cell,¬nf c c:=fun c hc=>by unfold nf at hc;rw[rm]at hc;omega);obtain⟨g1,g2⟩:=List.pairwise_cons.1 h1;obtain⟨g3,g4⟩:=List.pairwise_cons.1 k;(have l:a=b:=by rcases ik.1 ((h a).1 bI)with e|e;{exact e};rcases ik.1 ((h b).2 bI)with g|g;{exact g.symm};exact absurd (Cb (g1 b g)<|g3 a e)<|f a);subst l;rw[abu g2 g4 fun c=>⟨fun hc=>?_,fun hc=>?_⟩];{rcases ik.1 ((h c).1<|by simp[hc])with e|e;{subst e;exact absurd (g1 c hc) (f c)};exact e};rcases ik.1 ((h c).2<|by simp[hc])with e|e;{subst e;exact absurd (g3 c hc) (f c)};exact e
theorem aoI(a:List (List Cell))(k:Nat):(a.take k).flatten.length<=a.flatten.length:=by(conv=>rhs;rw[<-List.take_append_drop k a]);rw[List.flatten_append,gO];omega
theorem abn(m:Mem):∀k,(lC m k).length<=2*k
 |0=>bG _
 |k+1=>by(have h:(my m k).length<=2:=by unfold my;split<;>simp);have:=abn m k;rw[NW,gO];omega
theorem aeQ{w:World}{base n:Nat}{v:Value}{xs:List Value}(h:w.ownsRow base 56 4 v n xs)(ty:TypeId):(Builtin.append_ #[41,41] ty #[v,()]).run prog w=.ok v w:=by rcases h.2 with⟨rfl,_⟩|⟨g,cap,cur,rfl,_,hc,b,_⟩;{exact aeR w 0 ty};obtain⟨i0,hi,dH,c0,dx⟩:=info_parts E0;have:=run_append_room_src w 41 41 ty 56 i0 underlying41 hi g 0 n cap () 0 [] (Src.ofNil w underlying41 0) ae (fun j a=>by simp at a) (fun j a=>by simp at a);exact this
theorem afD(B:Nat)(A:c6)(m:Mem)(w:World)(aB:cX w B A m)(du:eL m)(eD:∀c∈Af m,eH c)(J:(Af m).length<=1048576):
   aR 11 #[P A.K] w fun e w'=>∃v base ys,e=.returned v/\uj w' base v ys/\(ys.map bV.c).Perm (Af m)/\ys.Pairwise (fun a b=>¬cT (bH b.c) (bH a.c)<0)/\Below w w w':=by
 obtain⟨i0,hi,dH,c0,dx⟩:=info_parts E0;have tt:=ad<|aeJ B A m w aB du;have cw:=aB.core.cw;have M:Af m=(lC m<|2^c9 m).flatten:=rfl;have jm:=ad eD;rw[M]at J;have xK:=ad M;(have EE:(lC m<|2^c9 m).length<=1000:=by have h1:=abn m<|2^c9 m;have o:=lh (show c9 m<=4 by have:=du.d8;unfold c9;omega);omega);generalize lC m (2^c9 m)=d at*;have V:=ad J;clear aB du eD J M;go_enter func11,ntmps11;go_upto_region 5 with(go_at_call 28;refine tt.out.mono ?_;rintro e u ⟨az,rfl,F,dB⟩;obtain⟨b?,lc,rfl⟩:∃a c,az=.slice a d.length c:=s_ F.choose_spec.1;have DP:=ad F;have sz:=ad dB;clear F dB);obtain⟨vs,G,sd⟩:=DP.out;(have yp:vs.length=d.length:=by have:=G.1;rwa[Nat.mul_one]at this);have H:=ad G;have BL:=ad sd;have BK:=ad yp;clear G sd yp;go_loopw [3,14] (fun Ba iv wr=>∃(k:Nat) (ys:List bV),iv=.int .i64 k/\k<=d.length/\ys.map bV.c=(d.take k).flatten/\uj wr u Ba ys/\Below u u wr) (fun _ iv _=>d.length-(intOf iv).toNat);case atStart=>exact⟨0,[],rfl,fw _,bI,uj.nil _ _,b5 _ _⟩
 case round=>
   obtain⟨k,ys,rfl,hk,f,S,Z⟩:=hrel;have C:=ad f;have l:=ad S;have h:=ad Z;clear f S Z;by_cases cg:k<d.length
   . (have oI:k<vs.length:=by have:=BK.out;omega);obtain⟨z,t⟩:∃z,vs[k]?=some z:=⟨_,eG oI⟩;have au:=BL.out k z d[k] t<|eG cg;(have x:∃g,b?=some ⟨g,0,none⟩/\u.cell? ⟨g,k,none⟩=some z:=by rcases H.out.2 with⟨e,aP⟩|⟨g,cap,cur,e,_,hc,_,_,_,aT⟩;{omega};injection e with aO aU cr;refine⟨g,aO,?_⟩;rw[<-aT,List.getElem?_take_of_lt ae,Array.getElem?_toList]at t;simp[World.cell?,hc,t]);obtain⟨g,rfl,x⟩:=x;have eb:=cB h.out x;obtain⟨xs,mQ,mR,_,rfl,_⟩:=au.parts;have gB:=ad<|afQ _ d[k] wr<|au.keep<|bm h.out;(have R:Hid ((d.take<|k+1).flatten=(d.take k).flatten++d[k]):=by show _=_;rw[List.take_succ_eq_append_getElem cg,List.flatten_append];simp);have DM:=ad<|eB (aoI d<|k+1) V.out;clear au x oI t;generalize d[k]=apK at*;obtain⟨NA,alh,rfl⟩:∃a c,u3=.slice a ys.length c:=s_ l.out.1
     go_wp2_with(first
       |(go_at_call 29;refine gB.out.mono ?_;rintro e aQ ⟨v2,n,rfl,O,oM,a7⟩;have h3:=ad O;have E:=ad oM;have cU:=ad a7;have U:ys.length+n.length<=1048576:=(by have h1:=congrArg List.length C.out;have o:=congrArg List.length O;have ar:=DM.out;rw[R.out,gO]at ar;rw[hE]at h1 o;omega);have T:=ad U;have fE:=eB h.out.size a7.size;have r:=ad<|oe l.out.1 a7;clear O a7 U;rcases oM.1.2 with⟨rfl,X⟩|⟨g2,s,I,rfl,Q⟩)
       |(have RL:=X;at_builtin;refine Lib.wpList_append_run _ rfl _ _ _ _ rfl _ _ rfl rfl _ _ (aeQ r.out _) ?_)
       |(have RL:=Q;at_builtin;refine wpList_append_own _ rfl _ _ 41 rfl u 56 i0 (.agg #[bA,(),bA,()]) 4 64 underlying41 hi dH c0 dx rfl ax _ ys.length (fk ys) rfl r.out g2 n.length s (fk n) rfl (x0 n) (fun j v av=>E.out.1.cells (g:=g2) rfl j v av) (Qk E.out.2) (by have:=T.out;unfold maxLen;omega) (by have:=T.out;omega) fE ?_;intro v' dy yk N JD))
     {have dH:n=[]:=List.eq_nil_of_length_eq_zero X;have Y:=h3.out;rw[dH]at Y;refine⟨⟨k+1,ys,by go_num,ae,?_,⟨r.out,fun y hy=>(l.out.2 y hy).keep<|bm cU.out⟩,ez h.out cU.out⟩,?_⟩;{rw[R.out,C.out,<-Y];simp};simp[intOf];omega};·have aE:=C7 r.out;refine⟨⟨k+1,ys++n,by go_num,ae,?_,⟨?_,fun y hy=>?_⟩,?_⟩,?_⟩;{rw[R.out,List.map_append,C.out,h3.out]};{rw[Cg,gO];exact yk};{rcases List.mem_append.1 hy with hy|hy;{exact((l.out.2 y hy).keep<|bm cU.out).grown N aE};exact(E.out.2 y hy).grown N aE};{exact(ez h.out cU.out).grown N fE (fun q a'=>(r.out.lt q a').1)};·simp[intOf];omega
   . obtain rfl:k=d.length:=ae;have f:=C.out;rw[ou,<-xK.out]at f;have D:∀y∈ys,eH y.c:=fun y hy=>jm.out y.c (by rw[<-f];exact List.mem_map_of_mem hy);(have s6:ys.length<=1048576:=by have h1:=congrArg List.length f;have o:=V.out;rw[<-xK.out]at o;rw[hE]at h1;omega);have W:=ad f;rcases l.out.1.2 with⟨rfl,bd⟩|⟨g2,s,I,rfl,Q,fB,_⟩;{have M9:ys=[]:=List.eq_nil_of_length_eq_zero bd;clear f D s6 bd;subst M9;go_wp2_with(go_at_call 30;refine(anP _ _).mono ?_;rintro e aQ ⟨rfl,al⟩;have cS:=ad al;clear al);exact mD ⟨_,rfl,u,[],l.out.later cS.out,by rw[<-W.out],List.Pairwise.nil,ez sz.out<|ez h.out cS.out⟩};have gC:=ad<|anN g2 s ys wr u l.out D ae;clear f D s6 fB;go_wp2_with(go_at_call 30;refine gC.out.mono ?_;rintro e aQ ⟨rfl,HI,hp,uN,a8,al⟩;have p:=ad<|bw hp<|bw uN<|bw a8 al;clear hp uN a8 al);have aF:=p.out.1.length_eq;refine cJ (v:=.slice (some g2) ys.length s) (by simp[results,results11,go_sem]) rfl ⟨_,rfl,u,HI,?_,?_,p.out.2.1,?_⟩;{rw[<-aF];exact p.out.2.2.1};{rw[<-W.out];exact p.out.1.map _};have h1:=p.out.2.2.2 u Q h.out.size;have o:=h.out.trans h1;exact ez sz.out o
theorem afC(B:Nat)(A:c6)(m:Mem)(w:World)(aB:cX w B A m)(du:eL m)(bY:jD af m)(f:size m<=1048576):
 aR 11 #[P A.K] w fun e w'=>∃v L,e=.returned v/\cC w' v L/\(∀c,c∈L<->Has m c)/\Below w w w':=by refine(afD B A m w aB du (fun c h=>VM bY du h)<|by rw[PT];exact f).mono ?_;rintro e w' ⟨v,base,ys,rfl,a8,hp,g,al⟩;have bU:=(hp.pairwise_iff fun h e=>h e.symm).2<|aeM bY du;have d:(ys.map bV.c).Pairwise fun a b=>¬cT (bH b) (bH a)<0:=List.pairwise_map.2 g;refine⟨v,ys.map bV.c,rfl,⟨ys,rfl,Row.own a8.1,a8.2,⟨fun c hc=>VM bY du<|hp.mem_iff.1 hc,anQ d bU,?_⟩⟩,fun c=>hp.mem_iff.trans<|PS bY du c,al⟩;rw[hp.length_eq,PT];exact f
end
section
open Go.RowKit ai
theorem η(i:Nat):m0.ah i=if i=1 then 1 else 0:=by have h:∀i,i<34->m0.ah i=if i=1 then 1 else 0:=ax;by_cases hi:i<34;{exact h i hi};unfold Mem.ah;rw[eh,List.getElem?_eq_none<|by show 34<=i;omega,aC ae];rfl
theorem agm:eL m0:=by have aH:m0.ah 0=0:=rfl;refine⟨rfl,rfl,by rw[aH];decide,fun i h1 a=>?_,fun i h1 a=>?_,fun i h1 a=>?_,fun i h1 a=>?_,ax⟩;{rw[aH]at a;have a:=a;omega};{rw[aH]at h1 a;have h1:=h1;obtain rfl:i=1:=ae;exact⟨ax,fun _=>ax⟩};{rw[aH]at h1;rw[η,aC ae];exact⟨ax,fun h=>absurd rfl h⟩};rw[η];split;{exact⟨ax,ax⟩};exact⟨ax,ax⟩
theorem aoB(af:List aA)(ag:Nat):pM af ag ⟨m0,fun _=>none⟩ 1:=by refine⟨⟨agm,⟨fun i=>by rw[A_];exact iA.nil,fun l s a c hc=>(by rw[A_]at hc;cases hc),fun i c hc=>(by rw[A_]at hc;cases hc)⟩,?_,?_,?_,ax⟩,fun ak x k _ h=>(by cases h),ax⟩;{show m0.ah 32=size m0+rL (fun _=>none) 64;rfl};{show m0.ah 32<=ag;exact fw _};show m0.ah 33<=_;decide
theorem ag'{p:o6}(h:FX p)(hk:∀b∈p.c.key,b<256):D6 bP (r8 p)/\(r8 p).ak<5:=by obtain⟨h1,k,l,g,i,j,f,d,m,o⟩:=h;(have a8:1<=lO p.c.op/\lO p.c.op<=6:=by unfold lO;split<;>constructor<;>omega);have hw:0<=p.ak%18446744073709551616%5/\p.ak%18446744073709551616%5<5:=ae;refine⟨⟨?_,⟨(p.ak%18446744073709551616%5).toNat,?_,?_⟩,fun _=>⟨⟨a8.1,a8.2,fun e=>?_,?_,?_,fun aO aU=>?_⟩,fun b al=>hk b<|List.mem_of_mem_take al,?_⟩,?_,?_⟩,hw.2⟩;{show p.kind%3<3;omega};{show p.ak%18446744073709551616%5=_;omega};{omega};{have e:lO p.c.op=1:=e;show 0<=Aw (lO p.c.op) p.c.n/\Aw (lO p.c.op) p.c.n<=4611686018427387903;rw[e];exact LH _};{show(p.c.key.take 2).length<=255;rw[fG];omega};{show∃q:Nat,Ax (lO p.c.op) p.c.pol=(q:Int)/\q<2;unfold Ax;split;{exact⟨1,rfl,ax⟩};exact⟨0,rfl,ax⟩};{have aO:lO p.c.op<=4:=aO;have aU:CY (lO p.c.op)≠0:=aU;show(bP.getD (Ax (lO p.c.op) p.c.pol).toNat default).kind=CY (lO p.c.op);have a:lO p.c.op=1\/lO p.c.op=2\/lO p.c.op=3\/lO p.c.op=4:=ae;rcases a with e|e|e|e;{rw[e];rfl};{rw[e];rfl};{rw[e];rfl};rw[e]at aU;exact absurd rfl aU};{show-9223372036854775808<=Aw (lO p.c.op) p.c.n/\Aw (lO p.c.op) p.c.n<=9223372036854775807;unfold Aw;split;{have:=LH p.c.n;omega};exact⟨f,d⟩};{show 0<=p.N%18446744073709551616%40;omega};show p.N%18446744073709551616%40<=4611686018427387903;omega
end
section
open Go.ChangeShapes Go.WideShapes Go.Deep Go.RowKit Go.Joins ai
variable{x:Int}
def PJ(w:World)(v:Value)(L:List o6):Prop:=
 (∀p∈L,FX p)/\∃a c,v=.slice a L.length c/\L.length<=c/\c<=maxLen/\
  (0<L.length->∃b off,a=some ⟨b,off,none⟩/\∀j p,L[j]?=some p->∃kv,fj w kv p.c.key/\aG w b (off+j*7) (.int .u8 (p.kind:Nat))/\aG w b (off+j*7+1) p.ak/\aG w b (off+j*7+2) (.int .u8 (p.c.op:Nat))/\aG w b (off+j*7+3) p.c.pol/\aG w b (off+j*7+4) kv/\aG w b (off+j*7+5) p.c.n/\aG w b (off+j*7+6) p.N)
theorem M?(h:(Lit.int .i64 x).wf=true):-9223372036854775808<=x/\x<=9223372036854775807:=by have aO:IntKind.i64.min=-9223372036854775808:=ax;have aU:IntKind.i64.max=9223372036854775807:=ax;simp only[Lit.wf,aO,aU,Bool.and_eq_true,decide_eq_true_eq]at h;omega
theorem KD(h:(Lit.int .u8 x).wf=true):∃n:Nat,x=n/\n<256:=by have aO:IntKind.u8.min=0:=ax;have aU:IntKind.u8.max=255:=ax;simp only[Lit.wf,aO,aU,Bool.and_eq_true,decide_eq_true_eq]at h;exact⟨x.toNat,ae,ae⟩
theorem SS{α:Type}{P:Nat->α->Prop}:∀n,(∀i,i<n->∃x,P i x)->∃L:List α,L.length=n/\∀i,i<n->∃x,L[i]?=some x/\P i x
 |0,_=>⟨[],rfl,fun i hi=>ae⟩
 |n+1,h=>by obtain⟨L,a,bY⟩:=SS n fun i hi=>h i ae;obtain⟨x,au⟩:=h n ae;refine⟨L++[x],by simp[a],fun i hi=>?_⟩;by_cases b:i<n;{rw[tY ae];exact bY i b};obtain rfl:i=n:=ae;exact⟨x,by simp[a],au⟩
end
section
open Go.ChangeShapes Go.WideShapes Go.Deep Go.RowKit Go.Joins ai
variable {H : Type} {enc:TypeId×Value->H} {W:World}
variable{cs:List Value}{x:DataW H×List MemPlace}
theorem akm{fuel:Nat}(h:DataW.trod enc prog W 0 (fun _=>true) true fuel 32 cs=some x):∃v L,cs=[v]/\fj W v L:=by rcases open_slice1 underlying32 b! h with⟨rfl,_⟩|⟨a,len,cap,m,q,V,D,p,rfl,_,l,hm,t,_,r⟩;{exact⟨_,[],rfl,fun x h=>(by cases h),none,0,rfl,bG _,ax,fun h=>by cases h⟩};simp at t;(have s:∀i,i<len->∃n:Nat,W.cell? (a.add i)=some (.int .u8 (n:Nat))/\n<256:=by intro i hi;obtain⟨gx,k⟩:=r i ae;obtain⟨x,f0,aI,aH⟩:=DataW.trod_int underlying5 k;simp at f0;rw[f0]at gx;obtain⟨n,rfl,hn⟩:=KD aH;exact⟨n,gx,hn⟩);obtain⟨L,rfl,bY⟩:=SS len s;refine⟨_,L,rfl,fun x au=>?_,a,cap,rfl,l,hm,fun o=>?_⟩;{obtain⟨j,c,rfl⟩:=List.getElem_of_mem au;obtain⟨y,h1,d,e⟩:=bY j c;rw[eG c]at h1;injection h1 with h1;rw[h1];exact e};obtain⟨b,off,spot⟩:=a;obtain⟨eb,_,hc,_⟩:=bY 0 o;(have g:spot=none:=by simpa[Addr.add]using World.cell?_spot hc);subst g;(have f:∀j,(⟨b,off,none⟩:Addr).add j=⟨b,off+j,none⟩:=by intro j;unfold Addr.add;split<;>simp_all);refine⟨b,off,rfl,fun j c=>?_⟩;obtain⟨y,h1,d,e⟩:=bY j c;rw[f]at d;rw[d,eh,h1];rfl
theorem al8{n:Nat}(h:DataW.trod enc prog W 0 (fun _=>true) true n 36 cs=some x):∃(p:o6) (kv:Value),cs=(qy p kv).toList/\FX p/\fj W kv p.c.key:=by
 obtain⟨ys,f?,rfl,_,hlen,v,a⟩:=DataW.trod_struct underlying36 h;have hc:prog.cellsOf 36=7:=b!;rw[hc]at hlen
 obtain⟨bJ,c1,cw,dg,eV,gu,mE,rfl⟩:∃bJ c1 cw dg eV gu mE,cs=[bJ,c1,cw,dg,eV,gu,mE]:=by
  match cs,hlen with
  |[bJ,c1,cw,dg,eV,gu,mE],_=>exact⟨_,_,_,_,_,_,_,rfl⟩
 have k1:prog.cellsOf 5=1:=b!;have k:prog.cellsOf 3=1:=b!;have r:prog.cellsOf 34=4:=b!;have l:prog.cellsOf 2=1:=b!;have t:prog.cellsOf 32=1:=b!;have t0:DataW.trod enc prog W 0 (fun _=>true) true f? 5 (([bJ,c1,cw,dg,eV,gu,mE].drop 0).take<|prog.cellsOf 5)=ys[0]?:=a 0 _ rfl;have t1:DataW.trod enc prog W 0 (fun _=>true) true f? 3 (([bJ,c1,cw,dg,eV,gu,mE].drop 1).take<|prog.cellsOf 3)=ys[1]?:=a 1 _ rfl;have t2:DataW.trod enc prog W 0 (fun _=>true) true f? 34 (([bJ,c1,cw,dg,eV,gu,mE].drop 2).take<|prog.cellsOf 34)=ys[2]?:=a 2 _ rfl;have t3:DataW.trod enc prog W 0 (fun _=>true) true f? 2 (([bJ,c1,cw,dg,eV,gu,mE].drop 6).take<|prog.cellsOf 2)=ys[3]?:=a 3 _ rfl;have aB:∀i,i<4->∃y,ys[i]?=some y:=fun i hi=>⟨_,eG<|by rw[v];exact hi⟩;obtain⟨eb,cI⟩:=aB 0 ax;obtain⟨z,aO⟩:=aB 1 ax;obtain⟨w,aU⟩:=aB 2 ax;obtain⟨B,cr⟩:=aB 3 ax;rw[cI]at t0;rw[aO]at t1;rw[aU]at t2;rw[cr]at t3;rw[k1]at t0;rw[k]at t1;rw[r]at t2;rw[l]at t3;simp only[List.drop_zero,List.drop_succ_cons,List.take_succ_cons,List.take_zero]at t0 t1 t2 t3;obtain⟨bL,f0,_,aH⟩:=DataW.trod_int underlying5 t0;obtain⟨o,f1,_,w1⟩:=DataW.trod_int underlying3 t1;obtain⟨q,f3,_,dy⟩:=DataW.trod_int underlying2 t3;obtain⟨zs,fq,rfl,_,_,b,aS⟩:=DataW.trod_struct underlying34 t2;have dN:DataW.trod enc prog W 0 (fun _=>true) true fq 5 (([cw,dg,eV,gu].drop 0).take<|prog.cellsOf 5)=zs[0]?:=aS 0 _ rfl;have s1:DataW.trod enc prog W 0 (fun _=>true) true fq 3 (([cw,dg,eV,gu].drop 1).take<|prog.cellsOf 3)=zs[1]?:=aS 1 _ rfl;have s2:DataW.trod enc prog W 0 (fun _=>true) true fq 32 (([cw,dg,eV,gu].drop 2).take<|prog.cellsOf 32)=zs[2]?:=aS 2 _ rfl;have dr:DataW.trod enc prog W 0 (fun _=>true) true fq 2 (([cw,dg,eV,gu].drop 3).take<|prog.cellsOf 2)=zs[3]?:=aS 3 _ rfl;have bd:∀i,i<4->∃y,zs[i]?=some y:=fun i hi=>⟨_,eG<|by rw[b];exact hi⟩;obtain⟨z0,g0⟩:=bd 0 ax;obtain⟨A,g1⟩:=bd 1 ax;obtain⟨z2,g2⟩:=bd 2 ax;obtain⟨z3,g3⟩:=bd 3 ax;rw[g0]at dN;rw[g1]at s1;rw[g2]at s2;rw[g3]at dr;rw[k1]at dN;rw[k]at s1;rw[t]at s2;rw[l]at dr;simp only[List.drop_zero,List.drop_succ_cons,List.take_succ_cons,List.take_zero]at dN s1 s2 dr;obtain⟨u0,d,_,v0⟩:=DataW.trod_int underlying5 dN;obtain⟨u1,h1,_,v1⟩:=DataW.trod_int underlying3 s1;obtain⟨u3,g,_,v3⟩:=DataW.trod_int underlying2 dr;obtain⟨kv,key,f,hk⟩:=akm s2;simp only[List.cons.injEq,and_true]at f0 f1 f3 d h1 f g;subst f0 f1 f3 d h1 f g;obtain⟨u,rfl,s⟩:=KD aH;obtain⟨op,rfl,m⟩:=KD v0;have e:=M? w1;have j:=M? dy;have d1:=M? v1;have d3:=M? v3;exact⟨⟨u,o,⟨op,u1,key,u3⟩,q⟩,_,rfl,⟨s,e.1,e.2,m,d1.1,d1.2,d3.1,d3.2,j.1,j.2⟩,hk⟩
theorem al9{d:DataW H}{p:List MemPlace}{v:Value}(h:DataW.Trod enc prog W 0 (fun _=>true) true 22 v d p)(av:∃a n c,v=.slice a n c):∃L,PJ W v L:=by obtain⟨fuel,G⟩:=h;obtain⟨a,n,c,rfl⟩:=av;have l:prog.cellsOf 36=7:=b!;rcases open_slice underlying22 G with⟨f,_⟩|⟨k,len,cap,m,q,D,E,f,_,A,hm,O,_,J⟩;{simp[Value.cells]at f;obtain⟨rfl,rfl,rfl⟩:=f;exact⟨[],fun x h=>(by cases h),none,0,rfl,bG _,ax,fun h=>by cases h⟩};simp[Value.cells]at f;obtain⟨rfl,rfl,rfl⟩:=f;simp at O;(have K:∀i,i<n->∃p:o6,FX p/\∃kv,fj W kv p.c.key/\∀j u,(qy p kv)[j]?=some u->W.cell? ((k.add<|i*7).add j)=some u:=by intro i hi;obtain⟨F,t,C⟩:=J i ae;rw[l]at t;obtain⟨N,kv,rfl,I,hk⟩:=al8 C;obtain⟨_,_,M⟩:=World.cells?_some t;refine⟨N,I,kv,hk,fun j u hu=>?_⟩;(have e:j<7:=by have:=(Array.getElem?_eq_some_iff.1 hu).1;simpa[qy]using this);rw[M j e,Array.getElem?_toList];exact hu);obtain⟨L,rfl,bY⟩:=SS n (P:=fun i p=>FX p/\∃kv,fj W kv p.c.key/\∀j u,(qy p kv)[j]?=some u->W.cell? ((k.add<|i*7).add j)=some u) K;refine⟨L,fun x au=>?_,k,c,rfl,A,hm,fun B=>?_⟩;{obtain⟨j,e,rfl⟩:=List.getElem_of_mem au;obtain⟨y,h1,r,_⟩:=bY j e;rw[eG e]at h1;injection h1 with h1;rw[h1];exact r};obtain⟨b,off,spot⟩:=k;obtain⟨eb,_,_,Q,_,hc⟩:=bY 0 B;have hc:=hc 0 _ rfl;(have z:spot=none:=by simpa[Addr.add]using World.cell?_spot hc);subst z;(have s:∀o j,(⟨b,o,none⟩:Addr).add j=⟨b,o+j,none⟩:=by intro o j;unfold Addr.add;split<;>simp_all);(have w:∀j q,((⟨b,off,none⟩:Addr).add j).add q=⟨b,off+j+q,none⟩:=fun j q=>by rw[s,s]);refine⟨b,off,rfl,fun j p hp=>?_⟩;have e:=(qe.1 hp).1;obtain⟨y,h1,_,kv,hk,r⟩:=bY j e;rw[hp]at h1;injection h1 with h1;subst h1;(have g:=fun q u hu=>by have:=r q u hu;rwa[w]at this);exact⟨kv,hk,g 0 _ rfl,g 1 _ rfl,g 2 _ rfl,g 3 _ rfl,g 4 _ rfl,g 5 _ rfl,g 6 _ rfl⟩
end
section
open Go.RowKit ai
variable{t hf:TypeId}{w w':World}{b n:Nat}{a:Act}{v:Value}{xs:List Value}{L:List Nat}{ops:Array Oper}{Q:Exit->Act->World->Prop}
structure kt(t:TypeId)(base:Nat)(w w':World):Prop where
 bn:Below base w w'
 kW:∀(b:Nat) (a:Array Value) (hf:TypeId) (f:Nat×Nat),w.heap[b]?=some (.cells a hf f)->hf≠t->w'.heap[b]?=some (.cells a hf f)
theorem kt.hU{base:Nat}(h:kt t base w w'){a:Array Value}(al:aq w b hf a)(c:hf≠t):aq w' b hf a:=h.kW _ _ _ _ al c
theorem kt.row{base:Nat}(h:kt t base w w'){size:Nat}(aE:Row w hf size n v xs)(f:hf≠t):Row w' hf size n v xs:=by obtain⟨h1,a,c,i,j,d,e⟩:=aE;refine⟨h1,a,c,i,j,d,fun hn=>?_⟩;obtain⟨b,off,arr,g,l,k⟩:=e hn;exact⟨b,off,arr,g,h.hU l f,k⟩
theorem kt.refl(t:TypeId)(base:Nat)(w:World):kt t base w w:=⟨b5 _ _,fun _ _ _ _ h _=>h⟩
theorem kt.trans{base:Nat}{a b c:World}(h:kt t base a b)(k:kt t base b c):kt t base a c:=⟨h.bn.trans k.bn,fun q x hf f e d=>k.kW q x hf f (h.kW q x hf f e d) d⟩
theorem kt.below{base:Nat}(h:Below w w w')(al:base<=w):kt t base w w':=⟨h.mono al,fun b a hf f e _=>(h.block b<|lt_of_block e).trans e⟩
theorem kt.grown{base:Nat}{e:TypeId}{size:Nat}(aE:w.ownsRow base e size v n xs)(aS:w.grownBy w' v.ownBlock)(al:base<=w):kt e base w w':=by refine⟨(b5 base w).grown aS al fun q a'=>(aE.lt q a').1,fun b a hf f d g=>(aS.block b (lt_of_block d) fun c=>?_).trans d⟩;rcases aE.2 with⟨rfl,_⟩|⟨h,cap,cur,rfl,_,g2,_⟩;{cases c};(have c:b=h:=by simpa[Value.ownBlock]using c);subst c;rw[d]at g2;injection g2 with g2;injection g2 with _ g2 _;exact g g2
theorem kt.key{base:Nat}(h:kt t base w w')(k:cb w v L)(c:5≠t):cb w' v L:=⟨k.1,h.row k.2 c⟩
theorem kt.held{base:Nat}(h:kt t base w w'){L:List Int}(k:b' w v L)(c:2≠t):b' w' v L:=h.row k c
theorem CX{P:Program}{z:Value}{s:Nat}(h:(P.info? t).map (fun i=>(i.zero,i.size,i.bytes))=some (some z,s,b)):∃i0,P.info? t=some i0/\i0.zero=some z/\i0.size=s/\i0.bytes=b:=by obtain⟨i,hi,he⟩:=Option.map_eq_some_iff.1 h;simp only[Prod.mk.injEq]at he;exact⟨i,hi,he.1,he.2.1,he.2.2⟩
theorem wS{rest:List Oper}{o:Oper}(p:o.guard=none)(s x:Operand)(t:TypeId)
 (a8:o.op=.call {callee:=.builtin .append,args:=#[s,x],argTypes:=#[t,t]})
 (base:Nat)(e:TypeId)(z:Value)(size bytes:Nat)(r:prog.underlying t=some (.slice e))(hi:(prog.info? e).map (fun i=>(i.zero,i.size,i.bytes))=some (some z,size,bytes))(l:z.cells.size=size)(f:0<size/\bytes<=1000)
 (v:Value)(n:Nat)(xs:List Value)(aB:a.eval s=v)(k:w.ownsRow base e size v n xs)
 (b:Nat)(news:List Value)(au:a.eval x=.slice (some ⟨b,0,none⟩) 1 1)(A:news.length=size)(m:aq w b e news.toArray)(h1:∀u∈news,u.oneCell'=true)
 (hn:n<=1048576)(c:base<=w.heap.size)
 (h:∀g cap w',w'.ownsRow base e size (.slice (some ⟨g,0,none⟩) (n+1) cap) (n+1) (xs++news)->kt e base w w'->(∀b t arr,aq w b t arr->v.ownBlock≠some b->aq w' b t arr)->wpList prog ops Q rest (a.put o.dst<|.slice (some ⟨g,0,none⟩) (n+1) cap) w'):wpList prog ops Q (o::rest) a w:=by obtain⟨i0,hi,dH,c0,dx⟩:=CX hi;refine wpList_append_lies w p s x t a8 base e i0 z size bytes r hi dH c0 dx l f.1 v n xs aB k b 1 1 news au ae (fun j u q=>?_) h1 ax (by unfold maxLen;omega) ?_ c _ rfl fun g cap w' y d _ _=>h g cap w' y (kt.grown k d c) fun b t arr al bU=>(d.block b al.lt fun e=>bU e.symm).trans al;{rw[Addr.add_lit,iQ,m.cell];simpa using q};have:(n+1)*bytes<=1048577*1000:=Nat.mul_le_mul ae f.2;omega
theorem BZ{rest:List Oper}{o:Oper}(j:o.guard=none)(s x:Operand)(t:TypeId)
  (a8:o.op=.call {callee:=.builtin .append,args:=#[s,x],argTypes:=#[t,t]})
  (base:Nat)(e:TypeId)(z:Value)(size bytes:Nat)(l:prog.underlying t=some (.slice e))(hi:(prog.info? e).map (fun i=>(i.zero,i.size,i.bytes))=some (some z,size,bytes))(c:z.cells.size=size)(q:0<size/\bytes<=1000)
  (v:Value)(n:Nat)(xs:List Value)(aB:a.eval s=v)(r:w.ownsRow base e size v n xs)
  (b:Nat)(news:List Value)(au:a.eval x=.slice (some ⟨b,0,none⟩) 1 1)(k:news.length=size)(f:aq w b e news.toArray)(h1:∀u∈news,u.oneCell'=true)
  (hn:n<=1048576)(d:base<=w.heap.size)
  (h:∀g cap w',w'.ownsRow base e size (.slice (some ⟨g,0,none⟩) (n+1) cap) (n+1) (xs++news)->kt e base w w'->wpList prog ops Q rest (a.put o.dst<|.slice (some ⟨g,0,none⟩) (n+1) cap) w'):wpList prog ops Q (o::rest) a w:=
 wS j s x t a8 base e z size bytes l hi c q v n xs aB r b news au k f h1 hn d fun g cap w' m p _=>h g cap w' m p
theorem apq(h b:Nat)(al:b<256):h^^^b=h/256*256+(h%256^^^b):=by(have h1:(h^^^b)/256=h/256:=by have:(h^^^b)>>>8=h>>>8^^^b>>>8:=Nat.shiftRight_xor_distrib;simp only[Nat.shiftRight_eq_div_pow]at this;rw[show(2^8:Nat)=256 from rfl,show b/256=0 by omega,Nat.xor_zero]at this;exact this);(have c:(h^^^b)%256=h%256^^^b:=by have:=Nat.xor_mod_two_pow (a:=h) (b:=b) (n:=8);rw[show(2^8:Nat)=256 from rfl,show b%256=b by omega]at this;exact this);have:=Nat.div_add_mod (h^^^b) 256;omega
theorem amN(S x:Nat)(c:S<18446744073709551616)(au:x<256):
 IntKind.u64.wrap (IntKind.u64.wrap (bits BinOp.and IntKind.u64 (IntKind.u64.wrap<|(S:Int)/256*256+IntKind.u64.wrap (bits BinOp.xor IntKind.u8 ((S:Int)%256) x)) 4294967295*435)+
  IntKind.u64.wrap (IntKind.u64.wrap (IntKind.u64.wrap (IntKind.u64.wrap ((S:Int)/256*256+IntKind.u64.wrap (bits BinOp.xor IntKind.u8 ((S:Int)%256) x))/4294967296*435)+
   IntKind.u64.wrap (bits BinOp.and IntKind.u64 (IntKind.u64.wrap<|(S:Int)/256*256+IntKind.u64.wrap (bits BinOp.xor IntKind.u8 ((S:Int)%256) x)) 4294967295*256))*4294967296))=((xx S x:Nat):Int):=by(have aO:bits BinOp.xor IntKind.u8 ((S:Int)%256) x=((S%256^^^x:Nat):Int):=by exact u8_xor_nat _ _ (Nat.mod_lt _ ax) au);have hy:S^^^x<18446744073709551616:=Nat.xor_lt_two_pow (n:=64) c ae;(have aU:IntKind.u64.wrap ((S:Int)/256*256+IntKind.u64.wrap (bits BinOp.xor IntKind.u8 ((S:Int)%256) x))=((S^^^x:Nat):Int):=by rw[aO,apq S x au]at*;rw[IntKind.wrap_u64,IntKind.wrap_u64];omega);(have cr:bits BinOp.and IntKind.u64 ((S^^^x:Nat):Int) 4294967295=(((S^^^x)%4294967296:Nat):Int):=by have:=u64_and_nat (S^^^x) 4294967295 hy ax;rw[show(4294967295:Nat)=2^32-1 from rfl,Nat.and_two_pow_sub_one_eq_mod]at this;exact this);rw[aU,cr];unfold xx e7;generalize S^^^x=y at*;simp only[IntKind.wrap_u64];omega
theorem amR(h:Nat)(v:Value)(L:List Nat)(w:World)(bY:fj w v L)(f:h<18446744073709551616):
 aR 64 #[.int .u64 h,v] w (ga (.int .u64 (rM h L:Nat)) w):=by obtain⟨e,a,c,rfl,m,hc,aE⟩:=bY;unfold maxLen at hc;have ej:=ad aE;have j:=ad e;have fz:=ad f;go_enter func64,ntmps64;go_wp2;go_loop [0,6,7,8,9,12] (fun s _ _ _ _ i=>∃k:Nat,i=.int .i64 k/\k<=L.length/\s=.int .u64 (rM h (L.take k):Nat)) (fun _ _ _ _ _ i=>L.length-(intOf i).toNat);(case atStart=>exact⟨0,rfl,fw _,rfl⟩);case round=>obtain⟨k,rfl,hk,rfl⟩:=hrel;by_cases cg:k<L.length;{obtain⟨b,off,rfl,d⟩:=ej.out ae;have gx:=d k cg;have l:=ad (show rM h (L.take<|k+1)=xx (rM h<|L.take k) (L.getD k 0)by rw[TU cg,abZ]);have au:=V5 j.out k;have g:=HB (L.take k) fz.out;generalize rM h (L.take k)=S at*;clear d ej;generalize L.getD k 0=x at*;have o3:=ad<|amN S x g au;go_wp2;go_roundw;(case rel=>exact⟨k+1,by go_num,ae,by rw[l.out,o3.out]⟩);case measure=>simp[intOf];omega};obtain rfl:k=L.length:=ae;go_wp2;go_ret;exact⟨rfl,rfl⟩
theorem Tx(v:Value)(L:List Nat)(w:World)(bY:fj w v L):
 aR 33 #[v] w (ga (.int .u64 (e4 L:Nat)) w):=by have K:Hid (aR 64 #[.int .u64 14695981039346656037,v] w<|ga (.int .u64 (e4 L:Nat)) w):=ad<|amR 14695981039346656037 v L w bY ax;go_enter func33,ntmps33;go_wp2_with(go_at_call 64;refine K.out.mono ?_;rintro e w1 ⟨rfl,rfl⟩);go_ret;exact⟨rfl,rfl⟩
theorem P_:∀(a b:List Nat) (k:Nat),(∀j,j<k->a.getD j 0=b.getD j 0)->k<=a.length->k<=b.length->cT a b=cT (a.drop k) (b.drop k)
 |_,_,0,_,_,_=>rfl
 |[],_,k+1,_,h,_=>by simp at h
 |_::_,[],k+1,_,_,h=>by simp at h
 |a::d,b::c,k+1,h,ha,al=>by have e:=h 0 ae;subst e;have f:=P_ d c k (fun j g=>h (j+1) ae) (by simpa using ha) (by simpa using al);show(if a<a then-1 else if a<a then 1 else cT d c)=cT (d.drop k) (c.drop k);rw[aC ae,aC ae,f]
theorem afL{a b:List Nat}{k:Nat}(h:∀j,j<k->a.getD j 0=b.getD j 0)(ha:k<a.length)(al:k<b.length):(a.getD k 0<b.getD k 0->cT a b=-1)/\(b.getD k 0<a.getD k 0->cT a b=1):=by rw[P_ a b k h ae ae,List.drop_eq_getElem_cons ha,List.drop_eq_getElem_cons al,eh,eG ha,eh,eG al];unfold cT;refine⟨fun h=>aN h,fun h=>?_⟩;have h:b[k]<a[k]:=h;rw[aC ae,aN h]
theorem afM{a b:List Nat}{k:Nat}(h:∀j,j<k->a.getD j 0=b.getD j 0)(ha:k<=a.length)(al:k<=b.length)(he:k=a.length\/k=b.length):cT a b=if a.length<b.length then-1 else if b.length<a.length then 1 else 0:=by rw[P_ a b k h ha al];rcases he with rfl|rfl;{rw[List.drop_length];by_cases e:a.length=b.length;{rw[aC ae,aC ae,e,List.drop_length];rfl};rw[aN ae,List.drop_eq_getElem_cons<|show a.length<b.length by omega];rfl};rw[List.drop_length];by_cases e:b.length=a.length;{rw[aC ae,aC ae,e,List.drop_length];rfl};rw[aC ae,aN ae,List.drop_eq_getElem_cons<|show b.length<a.length by omega];rfl
theorem amI(o r:Value)(a b:List Nat)(w:World)(ha:fj w o a)(al:fj w r b):
 aR 104 #[o,r] w (dM (cT a b) w):=by obtain⟨a0,aa,ac,rfl,N,a2,a3⟩:=ha;obtain⟨K,ba,bc,rfl,M,B,C⟩:=al;unfold maxLen at a2 B;have fc:=ad a3;have F:=ad C;have z:=ad fun k h=>@afL a b k h;have g:=ad fun k h=>@afM a b k h;generalize cT a b=R at*;go_enter func104,ntmps104;go_wp2;go_loopw [5] (fun i wr=>∃k:Nat,i=.int .i64 k/\k<=a.length/\k<=b.length/\Below w w wr/\∀j,j<k->a.getD j 0=b.getD j 0) (fun i _=>a.length-(intOf i).toNat);(case atStart=>exact⟨0,rfl,fw _,fw _,b5 _ _,fun j h=>ae⟩);case round=>obtain⟨k,rfl,l,s,D,heq⟩:=hrel;have c:=ad D;have f:=ad heq;by_cases cg:k<a.length;{by_cases br:k<b.length;{obtain⟨p,O,rfl,H⟩:=fc.out ae;obtain⟨q,P,rfl,dC⟩:=F.out ae;have bL:=cB c.out<|H k cg;have eb:=cB c.out<|dC k br;obtain⟨h1,A⟩:=z.out k f.out cg br;have H1:=ad h1;have G:=ad A;(have I:Hid (a.getD k 0=b.getD k 0->∀j,j<k+1->a.getD j 0=b.getD j 0):=fun e j J=>by by_cases E:j=k;{subst E;exact e};exact f.out j ae);generalize a.getD k 0=x at*;generalize b.getD k 0=y at*;rcases Nat.lt_trichotomy x y with d|d|d;{have e:=H1.out d;subst e;have hi:(x:Int)<y:=ae;go_wp2;go_region;go_wp2;go_ret;exact⟨rfl,below_drewN c.out _⟩};{have u:=ad<|I.out d;subst d;go_wp2;go_region;go_wp2;go_region;go_wp2;go_roundw;(case rel=>exact⟨k+1,by go_num,ae,ae,below_drewN (below_drewN c.out _) _,u.out⟩);case measure=>simp[intOf];omega};have e:=G.out d;subst e;go_wp2;go_region;go_wp2;go_region;go_wp2;go_ret;exact⟨rfl,below_drewN (below_drewN c.out _) _⟩};obtain rfl:k=b.length:=ae;have e:=g.out _ f.out l s<|.inr rfl;subst e;go_wp2;go_ret;exact⟨rfl,c.out⟩};obtain rfl:k=a.length:=ae;have e:=g.out _ f.out l s<|.inl rfl;by_cases m:a.length<b.length;{rw[aN m]at e;subst e;go_wp2;go_ret;exact⟨rfl,c.out⟩};rw[aC m,aC ae]at e;subst e;go_wp2;go_ret;exact⟨rfl,c.out⟩
theorem ZW:(prog.info? 5).map (fun i=>(i.zero,i.size,i.bytes))=some (some<|.int .u8 0,1,1):=b!
def z?(w:World)(base:Nat)(v:Value)(L:List Nat):Prop:=w.ownsRow base 5 1 v L.length<|L.map fun(x:Nat)=>Value.int .u8 x
theorem z?.key{base:Nat}(h:z? w base v L)(al:∀x∈L,x<256):cb w v L:=⟨al,Row.own h⟩
theorem Ko(pol:Int)(kv:Value)(k:List Nat)(w:World)(h:fj w kv k)(hk:k.length<=255)(H:0<=pol)(h1:pol<32):
 aR 34 #[pol,kv] w fun e w'=>∃v,e=.returned v/\cb w' v (cK pol k)/\Below w w w':=by obtain⟨a0,a,c,rfl,I,a2,a3⟩:=h;have B:=ad a0;have cR:=ad a3;(have hw:IntKind.u8.wrap pol=pol:=by rw[IntKind.wrap_u8];omega);have hp:pol=((pol.toNat%256:Nat):Int):=ae;clear a0 a3 hp;(have G:z? (w.alloc<|.cells #[.int .u8 pol] 5) w (.slice (some w) 1 1) (cK pol<|k.take 0):=by(have e:(cK pol<|k.take 0).map (fun(x:Nat)=>Value.int .u8 x)=[.int .u8 pol]:=by unfold cK;simp;omega);unfold z?;rw[e];exact⟨rfl,.inr ⟨w,1,#[.int .u8 pol],rfl,bG _,heap_alloc_new w _,bG _,ax,rfl,rfl⟩⟩);have F:=ad G;go_enter func34,ntmps34;go_wp2;go_loopw [5,7,13] (fun v _ i wr=>∃q:Nat,i=.int .i64 q/\q<=k.length/\z? wr w v (cK pol<|k.take q)/\Below w w wr) (fun _ _ i _=>k.length-(intOf i).toNat);(case atStart=>exact⟨0,rfl,fw _,F.out,(b5 _ w).alloc (bG _) _⟩);case round=>obtain⟨q,rfl,a',z,s⟩:=hrel;have l:=ad z;have d:=ad s;by_cases cg:q<k.length;{obtain⟨b,off,rfl,o⟩:=cR.out ae;have bL:=cB d.out<|o q cg;(have Hx:Hid ((cK pol<|k.take<|q+1).map (fun(x:Nat)=>Value.int .u8 x)=(cK pol<|k.take q).map (fun(x:Nat)=>Value.int .u8 x)++[.int .u8 (k.getD q 0:Nat)]):=by show _=_;unfold cK;rw[TU cg];simp);(have j:Hid ((cK pol<|k.take q).length=q+1/\(cK pol<|k.take<|q+1).length=q+1+1):=by show _/\_;unfold cK;simp;omega);generalize k.getD q 0=x at*;have r:w<=(wr.alloc<|.cells #[.int .u8 (x:Int)] 5).heap.size:=(d.out.alloc d.out.size _).size;(have hn:(cK pol<|k.take q).length<=1048576:=by have:=j.out;omega);go_wp2_with(at_builtin;refine BZ rfl _ _ 32 rfl w 5 (.int .u8 0) 1 1 underlying32 ZW rfl ax _ (cK pol<|k.take q).length _ rfl (l.out.alloc _) wr [.int .u8 (x:Int)] rfl rfl (aq.new wr _ _) (by intro u hu;simp at hu;subst hu;rfl) hn r ?_;rintro g cap y D E;have C:=ad D;have m:=ad E);have f:=(d.out.alloc d.out.size _).trans m.out.bn;(have gg:z? y w (.slice (some g) ((cK pol<|k.take q).length+1) cap) (cK pol<|k.take<|q+1):=by unfold z?;rw[Hx.out,j.out.2,show q+1+1=(cK pol<|k.take q).length+1 by have:=j.out;omega];exact C.out);have dD:=ad gg;have A:=ad f;go_roundw;(case rel=>exact⟨q+1,by go_num,ae,dD.out,A.out⟩);case measure=>simp[intOf];omega};obtain rfl:q=k.length:=ae;(have p:cb wr u5 (cK pol k):=by have:=l.out;rw[ou]at this;refine this.key fun x au=>?_;unfold cK at au;rcases ik.1 au with rfl|au;{exact Nat.mod_lt _ ax};exact B.out x au);have dD:=ad p;go_wp2;exact mD ⟨_,rfl,dD.out,d.out⟩
theorem amM(v:Value)(L:List Nat)(aw:Nat)(w:World)(h:fj w v L)(f:aw<=5):
 aR 176 #[v,aw] w (ga (.int .i64 (e4 L%2^aw:Nat)) w):=by have K:=ad<|Tx v L w h;have m:=lh f;have d:=two_pos aw;generalize e4 L=s at*;go_enter func176,ntmps176;go_wp2;go_loopw [5,7] (fun n i wr=>∃q:Nat,i=.int .i64 q/\q<=aw/\n=.int .i64 (2^q:Nat)/\wr=w) (fun _ i _=>aw-(intOf i).toNat);(case atStart=>exact⟨0,rfl,fw _,rfl,rfl⟩);case round=>obtain⟨q,rfl,a',rfl,rfl⟩:=hrel;by_cases cg:q<aw;{have h1:2^(q+1)=2*2^q:=wk q;have c:=lh ae;have c:=c;have g:((2^(q+1):Nat):Int)=((2^q:Nat):Int)*2:=ae;have k:=ad g;have l:=lh ae;generalize 2^q=y at*;go_wp2;go_roundw;(case rel=>exact⟨q+1,by go_num,ae,by rw[k.out],by first|rfl|trivial⟩);case measure=>simp[intOf];omega};obtain rfl:q=aw:=ae;generalize hy:2^q=y at*;have j:=ad hy;(have aO:IntKind.u64.wrap (y:Int)=(y:Int):=by rw[IntKind.wrap_u64];omega);go_wp2_with(go_at_call 33;refine K.out.mono ?_;rintro e w1 ⟨rfl,rfl⟩);(have aU:wrap64 ((s:Int)%(y:Int))=((s%y:Nat):Int):=by have:=Nat.mod_lt s d;unfold wrap64;omega);rw[aU];go_ret;exact⟨by rw[j.out];rfl,rfl⟩
theorem aaT(kv:Value)(k:List Nat)(w:World)(h:fj w kv k)(hk:k.length<=1048576):
  aR 52 #[kv] w fun e w'=>∃v,e=.returned v/\cb w' v k/\Below w w w':=by
 obtain⟨i0,hi,dH,c0,dx⟩:=CX ZW;obtain⟨a0,a,c,rfl,D,a2,a3⟩:=h;have m:=ad a0;have A:z? (w.alloc<|.cells #[] 5) w (.slice (some w) 0 0) []:=⟨rfl,.inr ⟨w,0,#[],rfl,bG _,heap_alloc_new w _,bG _,ax,rfl,rfl⟩⟩;have i:=ad A;go_enter func52,ntmps52
 cases a with
 |none=>
  have p:k=[]:=by
   cases k with
   |nil=>rfl
   |cons x k=>obtain⟨b,off,e,_⟩:=a3 bI;cases e
  subst p;have B:∀ty,(Builtin.append_ #[32,32] ty #[.slice (some w) 0 0,.slice none 0 c]).run prog (w.alloc<|.cells #[] 5)=.ok (.slice (some w) 0 0) (w.alloc<|.cells #[] 5):=fun ty=>run_append_room_src (w.alloc<|.cells #[] 5) 32 32 ty 5 i0 underlying32 hi w 0 0 0 (.slice none 0 c) 0 [] (Src.ofNil _ underlying32 c) ax (by intro j d;simp at d) (by intro j d;simp at d);go_wp2_with(at_builtin;refine Lib.wpList_append_run _ rfl _ _ _ _ rfl _ _ rfl rfl _ _ (B _) ?_);exact mD ⟨_,rfl,i.out.key m.out,(b5 _ w).alloc (bG _) _⟩
 |some o=>(have cR:Hid (∀j u,(k.map fun(x:Nat)=>Value.int .u8 x)[j]?=some u->(w.alloc<|.cells #[] 5).cell? (o.add j)=some u):=fun j u d=>by(have g:j<k.length:=by simpa using(qe.1 d).1);obtain⟨b,off,aU,r⟩:=a3 ae;injection aU with aU;subst aU;rw[Addr.add_lit];rw[List.getElem?_map,eG g]at d;have:=r j g;rw[eh,eG g]at this;rw[<-d];exact cB ((b5 _ w).alloc (bG _) _) this);have l:w<=(w.alloc<|.cells #[] 5).heap.size:=((b5 w w).alloc (bG _) _).size;go_wp2_with(at_builtin;refine wpList_append_own _ rfl _ _ 32 rfl w 5 i0 (.int .u8 0) 1 1 underlying32 hi dH c0 dx rfl ax _ 0 [] rfl i.out o k.length c (k.map fun(x:Nat)=>Value.int .u8 x) rfl bI cR.out (by intro u hu;obtain⟨x,_,rfl⟩:=List.mem_map.1 hu;rfl) (by unfold maxLen;omega) ae l ?_;intro v' w1 f z C);rw[iQ,List.nil_append]at f;have s:z? w1 w v' k:=f;have al:=(((b5 w w).alloc (bG _)<|.cells #[] 5).grown z l fun q a'=>(i.out.lt q a').1);(obtain⟨dT,dC,rfl⟩:∃a bx,v'=.slice a k.length bx:=by obtain⟨_,a,bx,e,_⟩:=Row.own f;exact⟨a,bx,e⟩);have dD:=ad s;have y:=ad al;exact mD ⟨_,rfl,dD.out.key m.out,y.out⟩
end
namespace ai
variable{a b:Int}{L:List Cell}{m:Mem}
def kb(b:Int)(L:List Cell):Prop:=∀c∈L,c.aJ<=b
theorem kb.nil(b:Int):kb b []:=fun c h=>by cases h
theorem kb.mono(h:kb a L)(d:a<=b):kb b L:=fun c hc=>by have:=h c hc;omega
theorem kb.filter(h:kb b L)(p:Cell->Bool):kb b (L.filter p):=fun c hc=>h c (List.mem_filter.1 hc).1
theorem kb.cut(h:kb b L)(l s:Nat):kb b (cut L l s):=h.filter _
theorem kb.with(h:kb b L)(a:Nat)(t:Bool){c:Cell}(hc:c.aJ<=b):kb b (h9 L a t c):=by intro d aI;unfold h9 at aI;split at aI;{rcases List.mem_or_eq_of_mem_set aI with h1|h1;{exact h d h1};rw[h1];exact hc};simp only[List.mem_append,List.mem_singleton]at aI;rcases aI with(h1|h1)|h1;{exact h d (List.mem_of_mem_take h1)};{rw[h1];exact hc};exact h d<|List.mem_of_mem_drop h1
theorem kb.found(h:kb b L)(d:0<=b)(pol:Int)(key:List Nat):(ei L pol key).aJ<=b:=by unfold ei;split;{rename_i e;unfold e0 at e;cases a':L[e6 L pol key]? with|none=>rw[a']at e;cases e|some c=>rw[eh,a'];exact h c (List.mem_of_getElem? a')};exact d
def k0(b:Int):nt->Prop
 |.one _ _ h=>kb b h
 |_=>True
def D'(b:Int):lN->Prop
 |.back _=>True
 |.ag f _ _ c _=>kb b f.cells/\c.aJ<=b
 |.a6 f _ _ c=>kb b f.cells/\c.aJ<=b
def BP(b:Int):c'->Prop
 |.mZ _ _ h _=>kb b h
 |.half _ _ h t=>kb b h/\k0 b t
 |.m? _ _ h d t=>kb b h/\kb b d/\k0 b t
 |.h0 _ _ _ t=>D' b t
 |.i' _ _ _ _ t=>D' b t
 |.put f _ _ c _=>kb b f.cells/\c.aJ<=b
 |.allow f _ _ c=>kb b f.cells/\c.aJ<=b
 |.mY _ _ _ _ _ cells=>kb b cells
 |.ke _ _ _ _ _ rest _=>kb b rest
 |_=>True
theorem k0.mono{t:nt}(h:k0 a t)(c:a<=b):k0 b t:=by cases t with|one l i d=>exact kb.mono h c|find=>trivial|two=>trivial
theorem D'.mono{t:lN}(h:D' a t)(d:a<=b):D' b t:=by cases t with|back=>trivial|ag f a t c r=>exact⟨h.1.mono d,Int.le_trans h.2 d⟩|a6 f a t c=>exact⟨h.1.mono d,Int.le_trans h.2 d⟩
theorem BP.mono{k:c'}(h:BP a k)(c:a<=b):BP b k:=by cases k with|mZ=>exact kb.mono h c|half=>exact⟨h.1.mono c,h.2.mono c⟩|m?=>exact⟨h.1.mono c,h.2.1.mono c,h.2.2.mono c⟩|h0=>exact D'.mono h c|i'=>exact D'.mono h c|put=>exact⟨h.1.mono c,Int.le_trans h.2 c⟩|allow=>exact⟨h.1.mono c,Int.le_trans h.2 c⟩|mY=>exact kb.mono h c|ke=>exact kb.mono h c|_=>trivial
def FW(b:Int)(m:Mem):Prop:=∀i,kb b<|m.b4 i
theorem FW.bN(h:FW b m):FW b m.bN:=h
theorem FW.swap(h:FW b m)(i o n:Nat)(bY:kb b L):FW b (m.swap i o n L).2:=by unfold Mem.swap;split;{intro j;show kb b ((m.a_.set i L).getD j []);rw[eh,List.getElem?_set];split;{split;{exact bY};exact kb.nil b};rw[<-eh];exact h j};exact h
end ai
namespace ai
variable {af : List aA} {ag:Nat}
variable{B:Below}{m:Mem}{bL x:Live}
def xW(B:Below)(af:List aA)(m:Mem)(x:Live):Bool×Int×Int×Int:=B.decide (c_ af x) (cellAt m x.aj.pol x.aj.key).aJ m.ca x.aj.n
def vw(d:Bool×Int×Int×Int)(now:Int):c2:=⟨0,d.1,d.2.2.1,d.2.2.2,0,now⟩
def Uh(B:Below)(af:List aA)(m:Mem)(x:Live):c'->Prop
 |.put f at_ there c r=>m.ah f.ah=f.v/\(xW B af m x).1=true/\r=vw (xW B af m x) m.ca/\(there=true->x.gn=false)
 |.allow f at_ there c=>m.ah f.ah=f.v/\c=cellAt m x.aj.pol x.aj.key/\there=G! m x.aj.pol x.aj.key/\x.gn=false
 |.h0 _ _ _ (.ag f at_ there c r)=>m.ah f.ah=f.v/\G! m x.aj.pol x.aj.key=false/\(xW B af m x).1=true/\r=vw (xW B af m x) m.ca
 |.i' _ _ _ _ (.ag f at_ there c r)=>m.ah f.ah=f.v/\G! m x.aj.pol x.aj.key=false/\(xW B af m x).1=true/\r=vw (xW B af m x) m.ca
 |.h0 _ _ _ _=>False
 |.i' _ _ _ _ _=>False
 |_=>x.gn=false
structure KK(B:Below)(af:List aA)(m0:Mem)(bL:Live)(o:Out):Prop where
 on:∀k,o.1=.inl k->(∀c,Has o.2.2 c<->Has m0 c)/\Uh B af o.2.2 o.2.1 k
 fin:∀r,o.1=.inr r->(r=err 10/\(xW B af m0 bL).1=true/\G! m0 bL.aj.pol bL.aj.key=false)\/(r=vw (xW B af m0 bL) m0.ca/\((xW B af m0 bL).1=false->∀c,Has o.2.2 c<->Has m0 c))
theorem KK.more{m0:Mem}{k:c'}(h1:∀c,Has m c<->Has m0 c)(a:Uh B af m x k):KK B af m0 bL (more k x m):=
 ⟨fun k' e=>by cases e;exact⟨h1,a⟩,fun r e=>by cases e⟩
theorem KK.done{m0:Mem}{r:c2}(h1:r=vw (xW B af m0 bL) m0.ca)(a:(xW B af m0 bL).1=false->∀c,Has m c<->Has m0 c):KK B af m0 bL (.inr r,x,m):=
 ⟨fun k' e=>(by cases e),fun r e=>by cases e;exact .inr ⟨h1,a⟩⟩
end ai
namespace ai
variable{α:Type}
def cQ{α:Type}(f:Nat->α)(i:Nat)(v:α):Nat->α:=fun j=>if j=i then v else f j
theorem ht(f:Nat->α)(i:Nat)(v:α):cQ f i v i=v:=aN rfl
theorem cD(f:Nat->α){i j:Nat}(v:α)(h:j≠i):cQ f i v j=f j:=aC h
structure Rec where
 ak:Nat
 aj:Call
 first:Nat
 at_:Nat
 ft:Nat
 cn:c2
structure GS where
 s:Sys
 bS:Nat
 cF:Nat->Nat
 done:Nat->Nat
 log:List Rec
 kR:Nat->Mem
def marks(k:c')(m:Mem):Bool:=
 match k with
 |.put f _ _ _ _=>decide<|m.ah f.ah=f.v
 |.ke _ _ _ ah v _ _=>decide<|m.ah ah=v
 |.h0 ..=>false
 |.i' ..=>false
 |.allow ..=>false
 |.k? ..=>false
 |.n5=>false
 |.mY ..=>false
 |_=>true
def o_(k:c')(m:Mem)(n d:Nat):Nat:=if marks k m then n+1 else d
def counts(c:Call)(r:c2):Bool:=
 if c.op=1 then decide (r.e≠10)else if c.op=2 then decide (r.e≠10/\r.e≠5)else decide (c.op=3\/c.op=4)
def dq(af:List aA)(c:Call):aA:=af.getD c.pol.toNat default
end ai
namespace ai
variable (B : Below) (af:List aA) (ag:Nat)
def sQ(G:GS)(ak:Nat):GS:=
 match G.s.bz ak with
 |none=>G
 |some (x,k)=>
  let t:=G.bS+1
  let o:=b7 B af ag k x G.s.m
  let b:=if G.cF ak=0 then t else G.cF ak
  let d:=o_ k G.s.m G.bS<|G.done ak
  ⟨(tc ak G.s o).1,t,cQ G.cF ak b,cQ G.done ak d,(match o.1 with|.inl _=>G.log|.inr r=>G.log++[⟨ak,x.aj,b,d,t,r⟩]),cQ G.kR t o.2.2⟩
def vK(G:GS)(ak:Nat)(c:Call):GS:=
 match G.s.bz ak with
 |none=>⟨q6 G.s ak c,G.bS,cQ G.cF ak 0,cQ G.done ak 0,G.log,G.kR⟩
 |some _=>G
def IZ(G:GS)(t:Int):GS:=⟨⟨G.s.m.at_ t,G.s.bz⟩,G.bS,G.cF,G.done,G.log,G.kR⟩
structure Oe(aj:Call)(c:Cell)(r:c2)(bx:Cell):Prop where
 ly:aj.op=1->r=vw (B.decide (dq af aj) c.aJ r.now aj.n) r.now/\bx=if(B.decide (dq af aj) c.aJ r.now aj.n).1=false\/aj.n=0 then c else{c with aJ:=(B.decide (dq af aj) c.aJ r.now aj.n).2.1}
 lU:aj.op=2->(r.a6≠0/\fI B (dq af aj) c r.a6=(r,bx)/\r.e=0)\/(r=err 9/\(c.held.length:Int)=(dq af aj).bl/\bx=c)
 mL:aj.op=3->g' B (dq af aj) c aj.n=(r,bx)
 uV:aj.op=4->r=k! B (dq af aj) c r.now/\bx=c
structure vq(H:Nat->Mem)(aj:Call)(d:Nat)(r:c2):Prop where
 pos:1<=d
 ok:∃t0,t0<d/\(∀t,t0<=t->t<d->cellAt (H t) aj.pol aj.key=cellAt (H<|d-1) aj.pol aj.key)/\((dq af aj).kind=1->(H t0).ca<=r.now)/\(0<=r.now/\r.now<=4611686018427387903)
 vB:Oe B af aj (cellAt (H<|d-1) aj.pol aj.key) r (cellAt (H d) aj.pol aj.key)
def ku(x:Live)(f:hT):Cell:=ei f.cells x.aj.pol x.aj.key
structure rR(H:Nat->Mem)(n d:Nat)(P:List Int)(x:Live)(f:hT):Prop where
 d1:1<=d
 d2:d<=n
 was:cellAt (H<|d-1) x.aj.pol x.aj.key=ku x f
 is:cellAt (H d) x.aj.pol x.aj.key=ku x f
 still:(H n).ah f.ah=f.v->∀t,d<=t->t<=n->cellAt (H t) x.aj.pol x.aj.key=ku x f
 old:∀s∈(ku x f).held,s∈P
structure sF(H:Nat->Mem)(n d:Nat)(P:List Int)(x:Live)(f:hT)(c:Cell)(r:c2):Prop where
 fo:rR H n d P x f
 ok:r.e=0
 vB:Oe B af x.aj (ku x f) r c
 now:(dq af x.aj).kind=1->(H d).ca<=r.now
 tick:0<=r.now/\r.now<=4611686018427387903
 b0:x.aj.op=2->r.a6=x.a6
def wR(H:Nat->Mem)(n d:Nat)(P:List Int)(x:Live):lN->Prop
 |.back (.done r)=>d<=n/\(counts x.aj r=true->vq B af H x.aj d r)
 |.back (.d? ..)=>True
 |.ag f _ _ c r=>sF B af H n d P x f c r
 |.a6 f _ _ c=>rR H n d P x f/\c=ku x f/\(c.held.length:Int)<(dq af x.aj).bl
def o5(H:Nat->Mem)(n d:Nat)(P:List Int)(m:Mem)(x:Live):c'->Prop
 |.allow f _ _ c=>rR H n d P x f/\c=ku x f
 |.k? c=>1<=d/\d<=n/\cellAt (H<|d-1) x.aj.pol x.aj.key=c/\cellAt (H d) x.aj.pol x.aj.key=c/\(dq af x.aj).kind=1
 |.h0 _ _ _ w=>wR B af H n d P x w
 |.i' _ _ _ _ w=>wR B af H n d P x w
 |.put f _ _ c r=>sF B af H n d P x f c r
 |.ke _ _ _ ah v rest _=>∃cells now,rest=cells.filter (fun c=>!kC af c now)/\now<=m.ca/\y5 af ag m ah v cells
 |_=>True
end ai
namespace ai
variable {B : Below} {af:List aA} {ag:Nat}
variable{H H':Nat->Mem}{n d a:Nat}{c:Cell}{r:c2}{m dI:Mem}{x e5:Live}{t:Bool}{mg:List Int}
def wu(H H':Nat->Mem)(n:Nat):Prop:=∀t,t<=n->H' t=H t
theorem wu.cQ(H:Nat->Mem)(n:Nat)(m:Mem):wu H (cQ H (n+1) m) n:=fun t h=>cD H m ae
theorem vq.later{c:Call}(a:wu H H' n)(aI:d<=n)(h:vq B af H c d r):vq B af H' c d r:=by obtain⟨h1,⟨t0,g,i,b,e⟩,f⟩:=h;refine⟨h1,⟨t0,g,fun t p q=>?_,by rw[a t0 ae];exact b,e⟩,by rw[a _ ae,a _ aI];exact f⟩;rw[a t ae,a _ ae];exact i t p q
theorem amj{f:hT}(aI:eL m)(aB:x.sum=e4 (cK x.aj.pol x.aj.key))(hp:tu af ag m x f a t c)(e:m.ah f.ah=f.v):cellAt m x.aj.pol x.aj.key=ku x f:=by obtain⟨i,av,⟨l,b,hw⟩,k,o,j⟩:=hp;have h1:=av.v1;have h:=av.v2;(have g:m.live (aW l x.sum):=by rw[<-hw];exact⟨ae,ae⟩);have:=Qc aI b g;rw[<-hw,av.eq e,aB]at this;unfold ai.cellAt ku;rw[this]
theorem rR.later{P:List Int}{f:hT}(h:rR H n d P x f)(ha:wu H H' n)(hw:(H n).aZ=m.aZ)(j:H' (n+1)=dI)(u:∀s∈P,s∈mg)(i:dA m dI)(aI:eL dI)(aB:x.sum=e4 (cK x.aj.pol x.aj.key))(hp:tu af ag m x f a t c):rR H' (n+1) d mg x f:=by have w:=h.d2;refine⟨h.d1,ae,by rw[ha _ ae];exact h.was,by rw[ha _ w];exact h.is,fun e t g z=>?_,fun s q=>u s<|h.old s q⟩;rw[j]at e;have p:=hp.later i;have av:=hp.2.1;obtain⟨l,k,y⟩:=hp.2.2.1;have b:=fM (s:=x.sum) k;rw[<-y]at b;have aS:=i.grow f.ah b.1 b.2;have hle:=av.le;by_cases o:t=n+1;{rw[o,j];exact amj aI aB p e};rw[ha t ae];refine h.still ?_ t g ae;show(H n).aZ.getD f.ah 0=f.v;rw[hw];show m.ah f.ah=f.v;omega
theorem rR.same{P:List Int}{f:hT}(h:rR H n d P x f)(e:e5.aj=x.aj):rR H n d P e5 f:=by(have b:ku e5 f=ku x f:=by unfold ku;rw[e]);refine⟨h.d1,h.d2,?_,?_,?_,?_⟩;(all_goals rw[b]);(all_goals try rw[e]);{exact h.was};{exact h.is};{exact h.still};exact h.old
theorem sF.same{P:List Int}{f:hT}(h:sF B af H n d P x f c r)(e:e5.aj=x.aj)(es:e5.a6=x.a6):sF B af H n d P e5 f c r:=by(have b:ku e5 f=ku x f:=by unfold ku;rw[e]);refine⟨h.fo.same e,h.ok,?_,?_,h.tick,?_⟩;{rw[e,b];exact h.vB};{rw[e];exact h.now};rw[e,es];exact h.b0
theorem sF.later{P:List Int}{f:hT}(h:sF B af H n d P x f c r)(ha:wu H H' n)(hw:(H n).aZ=m.aZ)(g:H' (n+1)=dI)(e:∀s∈P,s∈mg)(b:dA m dI)(aI:eL dI)(aB:x.sum=e4 (cK x.aj.pol x.aj.key))(hp:tu af ag m x f a t c):sF B af H' (n+1) d mg x f c r:=
 ⟨h.fo.later ha hw g e b aI aB hp,h.ok,h.vB,by rw[ha d h.fo.d2];exact h.now,h.tick,h.b0⟩
theorem wR.later{P:List Int}{w b s:Nat}{t:lN}(h:wR B af H n d P x t)(ha:wu H H' n)(hw:(H n).aZ=m.aZ)(i:H' (n+1)=dI)(g:∀s∈P,s∈mg)(e:dA m dI)(aI:eL dI)(aB:x.sum=e4 (cK x.aj.pol x.aj.key))(hk:Ae af ag m x w b s t):wR B af H' (n+1) d mg x t:=by cases t with|back t=>(cases t with|done r=>exact⟨by have:=h.1;omega,fun hc=>(h.2 hc).later ha h.1⟩|d?=>trivial)|ag f a j c r=>exact sF.later h ha hw i g e aI aB hk.2.2.2.2.2.2|a6 f a j c=>exact⟨h.1.later ha hw i g e aI aB hk.2.2.2.2,h.2⟩
