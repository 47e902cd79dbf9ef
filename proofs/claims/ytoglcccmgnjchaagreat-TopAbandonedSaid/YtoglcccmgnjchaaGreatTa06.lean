import Derived.Test.YtoglcccmgnjchaaGreatTa05
import Derived.Shelf.Spec.SlicesInsert
import Derived.Lib.AppendZerosOnto
import Derived.Laws.CopyRow
import Derived.Laws.CopyOwn
import Derived.StillTailTactics
set_option linter.all false
set_option maxHeartbeats 8000000
set_option maxRecDepth 100000
namespace Go.Proofs.YtoglcccmgnjchaaGreat
open Go.Proofs.Tryz PL
section
open Go.RowKit ai
variable{w w' w1 u:World}{B k M b i q at_:Nat}{last v:Value}{a:Array Value}{t:TypeId}{A:c6}{m:Mem}{e:Ending}{c:Cell}{L:List Cell}{X:List Nat}{there:Bool}
theorem akg(base g cap n i:Nat)(xs:List Value)(f:Nat)(news:List Value)(w:World)(h:w.ownsRow base 2 1 (.slice (some ⟨g,0,none⟩) n cap) n xs)(al:w.heap[f]?=some (.cells news.toArray 2 (0,0)))(J:f≠g)(s:news.length=1)(h1:∀u∈news,u.oneCell'=true)(y:∀u∈xs,u.oneCell'=true)(hi:i<n)(qu:n+1<=cap)(nG:n<1048577):
  aR 243 #[.slice (some ⟨g,0,none⟩) n cap,.int .i64 i,.slice (some ⟨f,0,none⟩) 1 1] w fun e w'=>∃a c,e=.returned (.slice a (n+1) c)/\w'.ownsRow base 2 1 (.slice a (n+1) c) (n+1) (xs.take (i)++(news++xs.drop (i)))/\Below base w w'/\(∀k,k<w.heap.size->Value.ownBlock (.slice (some ⟨g,0,none⟩) n cap)≠some k->w'.heap[k]?=w.heap[k]?):=by
 obtain⟨i0,Z,dH,c0,dx⟩:=info_parts Sr;(have G:(prog.info? 2).map (·.size)=some 1:=by rw[Z];simp[c0]);obtain⟨l,au⟩:=h;(have l:xs.length=n:=by simpa using l);(obtain⟨cur,I,aS,pW,O,r,P⟩:∃cur:Array Value,base<=g/\w.heap[g]?=some (.cells cur 2 (0,0))/\n<=cap/\cap<=maxLen/\cur.size=cap/\cur.toList.take (n)=xs:=by rcases au with⟨e,_⟩|⟨n9,vz,cur,e,h1,y,ar,aD,aK,aY⟩;{cases e};injection e with aO aU cr;injection aO with aO;injection aO with aO;subst aO cr;exact⟨cur,h1,y,ar,aD,by simpa using aK,by simpa using aY⟩);(have aie:cap<=9223372036854775807:=by unfold maxLen at O;omega);(have z:(xs.drop<|i).length=(n-i):=by rw[List.length_drop,l]<;>omega);(have c8:IntKind.i64.wrap ((i:Int)+1)=(i:Int)+1:=by rw[IntKind.wrap_i64];omega);(have bK:IntKind.i64.wrap ((n:Int)+1)=(n:Int)+1:=by rw[IntKind.wrap_i64];omega);have bZ:(0:Int)<=(i:Int)+1:=ae;have qX:i<=n:=ae;have bd:¬((i:Int)=(n:Int)):=ae;have a7:¬(cap=i+1):=ae;have jt:¬(cap=i):=ae;have ju:(i:Int)<=(n:Int)+1:=ae;have JQ:((i:Int)+1).toNat=i+1:=ae;(have Y:Nat.min (n+1-i) (n-i)=n-i:=by show min _ _=_;omega);have U:Nat.min 1 (n+1-i)=1:=by show min _ _=_;omega
 have F:∀W:World,W.heap[g]?=some (.cells cur 2 (0,0))->∀ty dc K,(Builtin.copy_ #[54,54] ty #[.slice (some ⟨g,(i+1),none⟩) (n-i) dc,.slice (some ⟨g,i,none⟩) (n+1-i) K]).run prog W=.ok (goInt ((n-i:Nat):Int)) (W.setRow g (splice cur.toList ((i+1))<|xs.drop<|i).toArray):=fun W aS ty dc K=>by
  have:=C? W 54 54 ty 2 1 g ((i+1)) (n-i) dc ⟨g,i,none⟩ (n+1-i) K cur 2 (xs.drop<|i) underlying54 G aS (by rw[z,Y]<;>omega)
   (fun j v p=>by
    rw[Addr.add_lit,World.cell?,aS]
    rw[List.getElem?_drop,<-P,List.getElem?_take]at p
    split at p
    . simpa using p
    . cases p) (by rw[z,r];omega) (fun v av=>y v<|List.mem_of_mem_drop av)
  rw[this,Y]
 have Q:∀(W:World) (x:List Value),x.length=cap->W.heap[g]?=some (.cells x.toArray 2 (0,0))->W.heap[f]?=some (.cells news.toArray 2 (0,0))->∀ty dc,(Builtin.copy_ #[54,54] ty #[.slice (some ⟨g,i,none⟩) (n+1-i) dc,.slice (some f) 1 1]).run prog W=.ok (goInt 1) (W.setRow g (splice x (i) news).toArray):=fun W x eS aS av ty dc=>by
  have:=C? W 54 54 ty 2 1 g (i) (n+1-i) dc f 1 1 x.toArray 2 news underlying54 G aS (by rw[s,U]<;>omega)
   (fun j v p=>by
    rw[Addr.add_lit,World.cell?,av]
    simpa using p) (by rw[s];simp only[List.size_toArray];omega) h1
  rw[this,U];rfl
 (have eE:(splice cur.toList ((i+1))<|xs.drop<|i).length=cap:=by rw[length_splice _ _ _<|by rw[z,Array.length_toList,r];omega,Array.length_toList,r]);have GM:∀bW N o,(callFunc 249 #[.slice (some f) 1 1,.slice (some ⟨g,o,none⟩) bW N]).run prog w=.ok (.value false) w:=fun bW N o=>alK w g f o bW N cur news.toArray aS al J (by rw[r];omega);obtain⟨d,D⟩:∃d,d=splice cur.toList ((i+1)) (xs.drop<|i):=⟨_,rfl⟩;rw[<-D]at F eE;(have gg:(splice d (i) news).take ((n+1))=xs.take (i)++(news++xs.drop (i)):=by have:=abw cur.toList xs news (i) 1 (by rw[l];omega) s (by rw[l,Array.length_toList,r];omega) (by rw[l];exact P);rw[l,show i+1=(i+1)by omega,show n+1=(n+1)by omega,<-D]at this;exact this);(have H:(splice d (i) news).length=cap:=by rw[length_splice _ _ _<|by rw[eE,s];omega,eE]);have Sf:w.drew.heap[f]?=some (.cells news.toArray 2 (0,0)):=al;(have T:(w.drew.setRow g d.toArray).heap[f]?=some (.cells news.toArray 2 (0,0)):=by rw[setRow_other _ _ _ _ J];exact al);have w7:(w.drew.setRow g d.toArray).heap[g]?=some (.cells d.toArray 2 (0,0)):=setRow_heap w.drew g cur _ 2 _ aS;have V:Hid (∀W:World,W.heap[g]?=some (.cells d.toArray 2 (0,0))->RowKit.Below base w W->(W.setRow g (splice d (i) news).toArray).ownsRow base 2 1 (.slice (some g) (n+1) cap) (n+1) (xs.take (i)++(news++xs.drop (i)))/\RowKit.Below base w (W.setRow g (splice d (i) news).toArray)):=fun W bQ n!=>⟨⟨by rw[<-gg,fG,H];omega,.inr ⟨g,cap,_,rfl,I,setRow_heap W g _ _ 2 _ bQ,qu,O,by rw[List.size_toArray,H]<;>omega,by simpa using gg⟩⟩,below_setRow n! I _⟩;have S:Hid (RowKit.Below base w<|w.drew.setRow g d.toArray):=below_setRow ((RowKit.Below.refl base w).drew) I _;have mixed:prog.follows Departure.mixedOrders=true:=b!;have OG:=ad<|F w.drew aS;have OH:=ad Q;have oz:=ad eE;have C:=ad w7;have ny:=ad T;clear F Q gg H eE w7 T Sf D z l au P r aS al h1 y G dH c0 dx Z s J O;go_enter func243,ntmps243;go_wp2_with(simp only[GM]);go_region_law_o (refine step_copy_runI rfl _ _ 54 54 rfl (.slice (some ⟨g,(i+1),none⟩) (n-i)<|cap-(i+1)) (.slice (some ⟨g,i,none⟩) (n+1-i)<|cap-i) (by simp[Act.eval,Act.put]) (by simp[Act.eval,Act.put]) (OG.out 3 (cap-(i+1))<|cap-i) ?_);have fB:=OH.out (w.drew.setRow g d.toArray) d oz.out C.out ny.out 3<|cap-i;go_wp2_with(simp only[fB]);go_ret
 exact⟨_,_,rfl,(V.out _ C.out S.out).1,(V.out _ C.out S.out).2,fun k _ bU=>by
  have R:k≠g:=fun e=>bU<|by rw[e];rfl
  rw[setRow_other _ _ _ _ R,setRow_other _ _ _ _ R]
  rfl⟩
theorem akf(base g cap n i:Nat)(xs:List Value)(C:Nat)(news:List Value)(w:World)(h:w.ownsRow base 2 1 (.slice (some ⟨g,0,none⟩) n cap) n xs)(al:w.heap[C]?=some (.cells news.toArray 2 (0,0)))(r:news.length=1)(h1:∀u∈news,u.oneCell'=true)(O:∀u∈xs,u.oneCell'=true)(hi:i<n)(qu:cap<n+1)(nG:n<1048577)(br:base<=w.heap.size):
  aR 243 #[.slice (some ⟨g,0,none⟩) n cap,.int .i64 i,.slice (some ⟨C,0,none⟩) 1 1] w fun e w'=>∃a c,e=.returned (.slice a (n+1) c)/\w'.ownsRow base 2 1 (.slice a (n+1) c) (n+1) (xs.take (i)++(news++xs.drop (i)))/\Below base w w'/\(∀k,k<w.heap.size->Value.ownBlock (.slice (some ⟨g,0,none⟩) n cap)≠some k->w'.heap[k]?=w.heap[k]?):=by
 obtain⟨i0,sW,dH,c0,dx⟩:=info_parts Sr;(have W:(prog.info? 2).map (·.size)=some 1:=by rw[sW];simp[c0]);obtain⟨p,au⟩:=h;(have p:xs.length=n:=by simpa using p);(obtain⟨cur,hR,aS,pW,sa,g_,sc⟩:∃cur:Array Value,base<=g/\w.heap[g]?=some (.cells cur 2 (0,0))/\n<=cap/\cap<=maxLen/\cur.size=cap/\cur.toList.take (n)=xs:=by rcases au with⟨e,_⟩|⟨n9,vz,cur,e,h1,O,ar,aD,aK,aY⟩;{cases e};injection e with aO aU cr;injection aO with aO;injection aO with aO;subst aO cr;exact⟨cur,h1,O,ar,aD,by simpa using aK,by simpa using aY⟩);(have uQ:∀j v,xs[j]?=some v->w.cell? ⟨g,j,none⟩=some v:=fun j v f=>by rw[World.cell?,aS];rw[<-sc,List.getElem?_take]at f;split at f;{simpa using f};cases f);have fE:g<w.heap.size:=lt_of_block aS;have CP:C<w.heap.size:=lt_of_block al;(have yf:IntKind.i64.wrap ((n:Int)+1-(i:Int))=((n+1-i:Nat):Int):=by rw[IntKind.wrap_i64];omega);have zr:i+(n+1-i)=n+1:=ae
 have b4:(Builtin.firstCells i0.size i<|.slice (some ⟨g,0,none⟩) i cap).run prog w.drew=.ok (xs.take<|i).toArray w.drew:=by
  rw[c0]
  exact run_firstCells_some w.drew 1 i ⟨g,0,none⟩ i cap (xs.take<|i) (by rw[fG,p]<;>omega) (fun j v f=>by
   rw[Addr.add_lit,iQ]
   rw[List.getElem?_take]at f
   split at f
   . exact uQ j v f
   . cases f)
 obtain⟨G,P⟩:∃G,G=grownCap w (n+1) cap 2:=⟨_,rfl⟩;obtain⟨o,D⟩:∃o,o=w.drew.alloc (.cells ((xs.take<|i).toArray++Builtin.zeroCells (.int .i64 0:Value).cells (n+1-i)++Builtin.zeroCells (.int .i64 0:Value).cells (G-(n+1))) 2):=⟨_,rfl⟩
 have H:(Builtin.append_ #[54,3] 54 #[.slice (some ⟨g,0,none⟩) i cap,.int .i64 ((n+1-i:Nat):Int)]).run prog w=
   .ok (.slice (some ⟨w.heap.size,0,none⟩) (n+1) G) o:=by
  have h:=Lib.run_append_grow_zeros w 54 3 54 2 i0 _ .i64 .i64 underlying54 underlying3 sW dH (some ⟨g,0,none⟩) i cap (xs.take<|i) b4 (n+1-i) ae (by rw[c0];decide) ae ae (by rw[dx];omega)<|by rw[dx,zr];exact growslice_fits qu ae
  rw[zr]at h
  rw[D,P]
  exact h
 (have QK:n+1<=G:=by rw[P];exact grownCap_ge w _ _ _);(have U:G<=maxLen:=by rw[P];exact grownCap_le_maxLen w _ _ _<|by unfold maxLen;omega);(have ahR:G<=9223372036854775807:=by unfold maxLen at U;omega);obtain⟨s,K⟩:∃s:List Value,s=xs.take (i)++((Builtin.zeroCells (.int .i64 0:Value).cells<|n+1-i).toList++(Builtin.zeroCells (.int .i64 0:Value).cells<|G-(n+1)).toList):=⟨_,rfl⟩;(have Y:o.heap[w.heap.size]?=some (.cells s.toArray 2 (0,0)):=by rw[D,K];have:=heap_alloc_new w.drew<|.cells ((xs.take<|i).toArray++Builtin.zeroCells (.int .i64 0:Value).cells (n+1-i)++Builtin.zeroCells (.int .i64 0:Value).cells (G-(n+1))) 2;rw[show w.drew.heap.size=w.heap.size from rfl]at this;rw[this];congr 2;apply Array.ext';simp);(have z:s.length=G:=by rw[K];simp only[gO,fG,p,Array.length_toList,size_zeroCells];rw[show(.int .i64 0:Value).cells.size=1 from rfl];omega);(have I8:s.take (i)=xs.take (i):=by rw[K,List.take_append_of_le_length<|by rw[fG,p];omega,qG<|by rw[fG];omega]);(have R:∀k,k<w.heap.size->o.heap[k]?=w.heap[k]?:=fun k hk=>by rw[D];exact Below.heap_alloc w.drew _ k hk);(have I?:RowKit.Below base w o:=by rw[D];exact((RowKit.Below.refl base w).drew).alloc (show base<=w.drew.heap.size from br) _);(have x:(xs.drop (i)).length=(n-i):=by rw[List.length_drop,p]<;>omega);have Z:Nat.min 1 (n+1-i)=1:=by show min _ _=_;omega
 have y:(Builtin.copy_ #[54,54] 3 #[.slice (some ⟨w.heap.size,i,none⟩) (n+1-i) (G-i),.slice (some ⟨C,0,none⟩) 1 1]).run prog o=.ok (goInt 1) (o.setRow w.heap.size (splice s (i) news).toArray):=by
  have:=C? o 54 54 3 2 1 w.heap.size (i) (n+1-i) (G-i) ⟨C,0,none⟩ 1 1 s.toArray 2 news underlying54 W Y (by rw[r,Z]<;>omega)
   (fun j v f=>by
    rw[Addr.add_lit,World.cell?,R _ CP,al]
    simpa using f) (by rw[r,List.size_toArray,z];omega) h1
  rw[this,Z];rfl
 obtain⟨l,I⟩:∃l,l=splice s (i) news:=⟨_,rfl⟩;rw[<-I]at y;(have J:l.length=G:=by rw[I,length_splice _ _ _<|by rw[z,r];omega,z]);obtain⟨d,F⟩:∃d,d=o.setRow w.heap.size l.toArray:=⟨_,rfl⟩;rw[<-F]at y;(have T:d.heap[w.heap.size]?=some (.cells l.toArray 2 (0,0)):=by rw[F];exact setRow_heap o _ _ _ 2 _ Y);(have S:∀k,k<w.heap.size->d.heap[k]?=w.heap[k]?:=fun k hk=>by rw[F,setRow_other _ _ _ _ ae];exact R k hk);(have I!:RowKit.Below base w d:=by rw[F];exact below_setRow I? br _);have oL:Nat.min (n-i) (n-i)=n-i:=by show min _ _=_;omega
 have Q:(Builtin.copy_ #[54,54] 3 #[.slice (some ⟨w.heap.size,(i+1),none⟩) (n-i)<|G-(i+1),.slice (some ⟨g,i,none⟩) (n-i)<|cap-i]).run prog d.drew=.ok (goInt ((n-i:Nat):Int)) (d.drew.setRow w.heap.size (splice l ((i+1))<|xs.drop<|i).toArray):=by
  have:=C? d.drew 54 54 3 2 1 w.heap.size ((i+1)) (n-i) (G-(i+1)) ⟨g,i,none⟩ (n-i) (cap-i) l.toArray 2 (xs.drop<|i) underlying54 W T (by rw[x,oL]<;>omega)
   (fun j v f=>by
    rw[List.getElem?_drop]at f
    rw[Addr.add_lit,World.cell?,show d.drew.heap=d.heap from rfl,S _ fE]
    have:=uQ _ v f
    rwa[World.cell?]at this) (by rw[x,List.size_toArray,J];omega) (fun v av=>O v (List.mem_of_mem_drop av))
  rw[this,oL]
 (have gg:(splice l ((i+1)) (xs.drop (i))).take ((n+1))=xs.take (i)++(news++xs.drop (i)):=by(have aO:l.take ((i+1))=xs.take (i)++news:=by rw[I];unfold splice;rw[<-List.append_assoc,List.take_append_of_le_length (by rw[gO,fG,z,r];omega),qG<|by rw[gO,fG,z,r];omega,I8]);unfold splice;rw[aO,List.append_assoc,<-List.append_assoc news,<-List.append_assoc (xs.take<|i),List.take_append_of_le_length<|by simp only[gO,fG,x,r,p];omega,qG<|by simp only[gO,fG,x,r,p];omega]);(have V:(splice l ((i+1))<|xs.drop<|i).length=G:=by rw[length_splice _ _ _<|by rw[J,x];omega,J]);(have Ic:Hid (∀k,k<w.heap.size->(d.drew.setRow w.heap.size (splice l ((i+1))<|xs.drop<|i).toArray).heap[k]?=w.heap[k]?):=fun k hk=>by rw[setRow_other _ _ _ _ ae];exact S k hk);have me:Hid ((d.drew.setRow w.heap.size (splice l ((i+1))<|xs.drop<|i).toArray).ownsRow base 2 1 (.slice (some ⟨w.heap.size,0,none⟩) (n+1) G) (n+1) (xs.take (i)++(news++xs.drop (i)))/\RowKit.Below base w (d.drew.setRow w.heap.size (splice l ((i+1))<|xs.drop<|i).toArray)):=⟨⟨by rw[<-gg,fG,V];omega,.inr ⟨w.heap.size,G,_,rfl,br,setRow_heap d.drew _ _ _ 2 _ T,QK,U,by rw[List.size_toArray,V]<;>omega,by simpa using gg⟩⟩,below_setRow I!.drew br _⟩;obtain⟨ID,I9⟩:∃ID,ID=d.drew.setRow w.heap.size (splice l ((i+1))<|xs.drop<|i).toArray:=⟨_,rfl⟩;rw[<-I9]at me Q Ic;have mixed:prog.follows Departure.mixedOrders=true:=b!;(have bK:IntKind.i64.wrap ((n:Int)+1)=(n:Int)+1:=by rw[IntKind.wrap_i64];omega);(have c8:IntKind.i64.wrap ((i:Int)+1)=(i:Int)+1:=by rw[IntKind.wrap_i64];omega);have ajU:¬((i:Int)=(n:Int)):=ae;have J3:(cap:Int)<(n:Int)+1:=ae;have qX:i<=n:=ae;have Q8:(0:Int)<=(i:Int)+1:=ae;have cW:(i:Int)<=(n:Int):=ae;have ju:(i:Int)<=(n:Int)+1:=ae;have JQ:((i:Int)+1).toNat=i+1:=ae;have ahS:¬(G=i):=ae;have ahT:¬(G=i+1):=ae;have X!:¬(cap=i):=ae;have DW:=ad H;have OC:=ad y;have H4:=ad Q;clear Y T R S I? I! D F I9 I K gg V J z I8 P b4 x oL Z zr uQ au p sc g_ aS al h1 O W dH c0 dx sW r sa U H y Q;generalize w.heap.size=N at*;go_enter func243,ntmps243;have H:=DW.out;have y:=OC.out;have Q:=H4.out;go_wp2_with(first|(at_builtin;refine Lib.wpList_append_run _ rfl _ _ _ _ rfl _ _ rfl rfl _ _ H ?_)|simp only[y]);go_region_law_o (refine step_copy_runI rfl _ _ 54 54 rfl (.slice (some ⟨N,(i+1),none⟩) (n-i)<|G-(i+1)) (.slice (some ⟨g,i,none⟩) (n-i)<|cap-i) (by simp[Act.eval,Act.put]) (by simp[Act.eval,Act.put]) H4.out ?_);go_wp2;go_ret;exact⟨_,_,rfl,me.out.1,me.out.2,fun k hk _=>Ic.out k hk⟩
theorem akd(base:Nat)(v:Value)(n i:Nat)(xs:List Value)(d:Nat)(news:List Value)(w:World)(h:w.ownsRow base 2 1 v n xs)(al:w.heap[d]?=some (.cells news.toArray 2 (0,0)))(o:∀g,v.ownBlock=some g->g≠d)(f:news.length=1)(h1:∀u∈news,u.oneCell'=true)(l:∀u∈xs,u.oneCell'=true)(hi:i<=n)(j:n<1048577)(br:base<=w.heap.size):
 aR 243 #[v,.int .i64 i,.slice (some ⟨d,0,none⟩) 1 1] w fun e w'=>∃a c,e=.returned (.slice a (n+1) c)/\w'.ownsRow base 2 1 (.slice a (n+1) c) (n+1) (xs.take (i)++(news++xs.drop (i)))/\Below base w w'/\(∀k,k<w.heap.size->Value.ownBlock v≠some k->w'.heap[k]?=w.heap[k]?):=by(have r:xs.length=n:=by simpa using h.1);(have av:∃a c,v=.slice a n c:=by rcases h.2 with⟨rfl,rfl⟩|⟨g,cap,cur,rfl,_⟩;{exact⟨_,_,rfl⟩};exact⟨_,_,rfl⟩);by_cases p:i=n;{subst p;have k:=ake base v i xs d news w h av al o f h1 j br;rw[qG ae,List.drop_eq_nil_of_le ae,List.append_nil];exact k};rcases id h.2 with⟨rfl,rfl⟩|⟨g,cap,cur,rfl,_⟩;{omega};by_cases aE:n+1<=cap;{exact akg base g cap n i xs d news w h al (fun e=>o g rfl e.symm) f h1 l ae aE j};exact akf base g cap n i xs d news w h al f h1 l ae ae j br
theorem o4.amJ(h:o4 w B last)(hk:xl last k):B<=k:=by obtain⟨n,xs,h,_⟩:=h;exact(h.lt k hk).1
theorem o4.aaN(h:o4 w B last)(hk:xl last k):∃a,aq w k 223 a:=by obtain⟨n,xs,h,_⟩:=h;unfold xl at hk;rcases h.2 with⟨rfl,_⟩|⟨g,cap,cur,rfl,_,aS,_⟩;{simp[Value.ownBlock]at hk};simp[Value.ownBlock]at hk;subst hk;exact⟨cur,aS⟩
theorem jU.bh(h:jU (fun k=>k=M\/xl last k) w w')(d:o4 w B last)(hm:aq w M 218 a)(br:B<=M)(g:B<=w)(X:List Nat):Fr B X w w' where
 os:=h.os
 tape:=h.tape
 output:=h.output
 size:=h.size
 block:=fun k hk=>h.block k ae (by
  rintro(rfl|aE)
  . omega
  . have:=d.amJ aE;omega)
 quiet:=fun k c t f hk a8=>by rw[h.block k<|lt_of_block hk];{exact hk};rintro(rfl|aE);{unfold aq at hm;rw[hk]at hm;cases hm;rcases a8 with a8|⟨a8,_⟩;{simp[nQ]at a8};simp[C6]at a8};obtain⟨j,al⟩:=d.aaN aE;unfold aq at al;rw[hk]at al;cases al;rcases a8 with a8|⟨a8,_⟩;{simp[nQ]at a8};simp[C6]at a8
theorem jU.hU(h:jU (fun k=>k=M\/xl last k) w w')(d:o4 w B last){am:Array Value}(hm:aq w M 218 am)(al:aq w b t a)(h1:t≠218)(f:t≠223):aq w' b t a:=
 (h.block b al.lt (by
   rintro(rfl|aE)
   . exact al.ne hm h1 rfl
   . obtain⟨j,g⟩:=d.aaN aE
     exact al.ne g f rfl)).trans al
theorem o4.later(h:o4 w B last)(k:Below w w w'):o4 w' B last:=by obtain⟨n,xs,h1,l,o⟩:=h;refine⟨n,xs,⟨h1.1,?_⟩,l,o⟩;rcases h1.2 with d|⟨g,cap,cur,d,j,f,p⟩;{exact .inl d};exact .inr ⟨g,cap,cur,d,j,(k.block g<|lt_of_block f).trans f,p⟩
theorem cX.later(h:cX w B A m)(k:Below w w w'):cX w' B A m:=by have d:Fr B [] w w':=Fr.pw h.below.2.2.2 k;obtain⟨last,hm,j⟩:=h.hb;refine⟨h.eT.keep d rfl,h.kd.keep d rfl,⟨last,hm.below k hm.lt,j.later k⟩,h.aZ.below k h.aZ.lt,h.xp,h.xD,?_,h.yC,⟨h.below.1,h.below.2.1,h.below.2.2.1,eB h.below.2.2.2 k.size⟩,h.ca,h.count,h.core.keep d bI⟩;obtain⟨aB,h1,f,n⟩:=h.a_;refine⟨aB,h1,f.below k f.lt,fun i hi=>?_⟩;obtain⟨v,g,l⟩:=n i hi;exact⟨v,g,l.keep d⟩
theorem cX.drew(h:cX w B A m):cX w.drew B A m:=h.later (b5 _ _).drew
theorem cX.note(h:cX w B A m)(hm:aq w A.hb 218 (nO A.aZ m.ca m.count last))(f:o4 w B last)
 (aE:PG w B A.hb A.aZ m.ca m.count last e w')(X:List Nat):cX w' B A m.bN/\Fr B X w w':=by obtain⟨_,hk,r,p,o⟩:=aE;have d:=fun X=>hk.bh f hm h.below.1 h.below.2.2.2 X;refine⟨⟨h.eT.keep (d []) rfl,h.kd.keep (d []) rfl,⟨r,p,o⟩,hk.hU f hm h.aZ ax ax,h.xp,h.xD,?_,h.yC,⟨h.below.1,h.below.2.1,h.below.2.2.1,eB h.below.2.2.2 hk.size⟩,h.ca,by have:=h.count;show 0<=m.count+1;omega,h.core.keep (d []) bI⟩,d X⟩;obtain⟨aB,h1,l,n⟩:=h.a_;refine⟨aB,h1,hk.hU f hm l ax ax,fun i hi=>?_⟩;obtain⟨v,g,j⟩:=n i hi;exact⟨v,g,j.keep<|d []⟩
theorem Ua(h:cX w B A m)(hi:i<34):w.cell? ⟨A.aZ,i,none⟩=some (.int .u64 (m.ah i:Nat)):=by rw[h.aZ.cell];have d:=h.xp;rw[List.getElem?_toArray,List.getElem?_map,eG ae];unfold Mem.ah;rw[eh,eG ae];rfl
def Acc(w:World)(B:Nat)(A:c6)(m:Mem)(w':World):Prop:=cX w' B A m/\Fr B [] w w'
theorem Acc.later(h:Acc w B A m w1)(k:Below w1 w1 w'):Acc w B A m w':=⟨h.1.later k,h.2.below h.1.below.2.2.2 k⟩
theorem Acc.drew(h:Acc w B A m w1):Acc w B A m w1.drew:=h.later (b5 _ _).drew
theorem Acc.alloc(h:Acc w B A m w1)(o:Obj):Acc w B A m (w1.alloc o):=h.later<|(b5 _ _).alloc (bG _) o
theorem Acc.trans{a b c:World}{dI:Mem}(h:Acc a B A m b)(k:Acc b B A dI c):Acc a B A dI c:=⟨k.1,h.2.trans k.2⟩
theorem Acc.start(h:cX w B A m):Acc w B A m w:=⟨h,Fr.refl _ _ _⟩
def fu(w:World)(B:Nat)(A:c6)(m:Mem)(w':World):Prop:=
 ∃last,aq w A.hb 218 (nO A.aZ m.ca m.count last)/\o4 w B last/\jU (fun k=>k=A.hb\/xl last k) w w'/\∃d,aq w' A.hb 218 (nO A.aZ m.ca (m.count+1) d)/\o4 w' B d
theorem fu.mk'(hm:aq w A.hb 218 (nO A.aZ m.ca m.count last))(d:o4 w B last)(aE:PG w B A.hb A.aZ m.ca m.count last e w'):fu w B A m w':=⟨last,hm,d,aE.2.1,aE.2.2⟩
theorem fu.acc(n:fu w B A m w')(h:cX w B A m):Acc w B A m.bN w':=by obtain⟨last,hm,d,hk,aE⟩:=n;exact h.note (e:=.returned (.tuple #[])) hm d ⟨rfl,hk,aE⟩ []
theorem fu.later{d:World}(n:fu w B A m w')(k:Below w' w' d):fu w B A m d:=by obtain⟨last,hm,g,hk,j,f,h⟩:=n;exact⟨last,hm,g,hk.below k,j,f.below k f.lt,h.later k⟩
theorem fu.drew(n:fu w B A m w'):fu w B A m w'.drew:=n.later (b5 _ _).drew
theorem fu.alloc(n:fu w B A m w')(o:Obj):fu w B A m (w'.alloc o):=n.later<|(b5 _ _).alloc (bG _) o
theorem o4.pw(d:o4 u B last)(k:Below u u w):o4 w B last:=d.later k
theorem fu.pre(h:cX u B A m)(k:Below u u w)(n:fu w B A m w'):fu u B A m w':=by obtain⟨last,hm,j,hk,aE⟩:=n;obtain⟨f,d,g⟩:=h.hb;(have e:f=last:=by have h1:=d.below k d.lt;unfold aq at h1 hm;rw[h1]at hm;simp[nO]at hm;exact hm);subst e;exact⟨f,d,g,⟨hk.os.trans k.os,hk.tape.trans k.tape,hk.output.trans k.output,eB k.size hk.size,fun i hi aB=>(hk.block i (nX hi k.size) aB).trans<|k.block i hi⟩,aE⟩
theorem fu.wh(n:fu w B A m w')(a':w<=q)(al:aq w' q t a)(h1:t≠218)(g:t≠223)(v:Value):fu w B A m (w'.setCell ⟨q,i,none⟩ v):=by obtain⟨last,hm,f,hk,l,d,h,xs,a8,hn,j⟩:=n;exact⟨last,hm,f,hk.setCell ⟨q,i,none⟩ (.inr a') v,l,d.dj _ _ fun e=>d.ne al (fun e=>h1 e.symm) e,h,xs,ownsRow_setCell_other a8 (uX a8 al g) _,hn,j⟩
theorem akT(B:Nat)(A:c6)(m:Mem)(ak:Int)(i:Nat)(w:World)(h:cX w B A m)(f:0<=ak)(h1:ak<64)(hi:i<34)(hc:m.count<4611686018427387904):
 aR 190 #[.pointer<|some A.hb,ak,i] w fun e w'=>e=.returned (.tuple #[.int .u64 (m.ah i:Nat),bA])/\fu w B A m w':=by obtain⟨last,hm,d⟩:=h.hb;have bJ:w.cell? ⟨A.hb,0,none⟩=some (.slice (some A.aZ) 34 34):=hm.cell 0;have o:=Ua h hi;have g:=ad<|NZ A.hb last last A.aZ 34 34 m.ca m.count w hm;have n:=ad<|KI ak i 34 w f h1 ae ae;have l:=ad fun a b c=>J? B A.hb A.aZ m.ca m.count last ak a b c 0 true w hm d ⟨h.count,hc⟩ h.below.2.2.2;have kK:=ad hm;have j:=ad d;go_enter func190,ntmps190;go_wp2_with(first|(go_at_call 112;refine g.out.mono ?_;rintro e w1 ⟨rfl,rfl⟩)|(go_at_call 111;refine n.out.mono ?_;rintro e w1 ⟨rfl,rfl⟩)|(go_at_call 113;refine(l.out 1 i<|m.ah i).mono ?_;rintro e w1 aE;obtain rfl:=aE.1;have ej:=ad aE));exact mD ⟨rfl,fu.mk' kK.out j.out ej.out⟩
theorem akS(B:Nat)(A:c6)(m:Mem)(ak:Int)(w:World)(h:cX w B A m)(g:0<=ak)(h1:ak<64)(hc:m.count<4611686018427387904):
 aR 202 #[.pointer<|some A.hb,ak] w fun e w'=>e=.returned (.tuple #[m.ca,bA])/\fu w B A m w':=by obtain⟨last,hm,f⟩:=h.hb;have c1:w.cell? ⟨A.hb,1,none⟩=some (.int .i64 m.ca):=hm.cell 1;have n:=ad<|KI ak 0 1 w g h1 ae ae;have l:=ad fun a b c d=>J? B A.hb A.aZ m.ca m.count last ak a d b c true w hm f ⟨h.count,hc⟩ h.below.2.2.2;have kK:=ad hm;have j:=ad f;go_enter func202,ntmps202;go_wp2_with(first|(go_at_call 111;refine n.out.mono ?_;rintro e w1 ⟨rfl,rfl⟩)|(go_at_call 113;refine(l.out 3 _ _ 0).mono ?_;rintro e w1 aE;obtain rfl:=aE.1;have k1:w1.cell? ⟨A.hb,1,none⟩=some (.int .i64 m.ca):=(aE.2.2.choose_spec.1).cell 1;have ej:=ad aE));exact mD ⟨rfl,fu.mk' kK.out j.out ej.out⟩
theorem aeS(l:List Nat)(i x:Nat):(l.map fun(x:Nat)=>Value.int .u64 x).toArray.setIfInBounds i (.int .u64 (x:Nat))=((l.set i x).map fun(x:Nat)=>Value.int .u64 x).toArray:=by simp[List.map_set]
theorem Qz{α}(l:List α)(i j:Nat)(x d:α)(hi:i<l.length):(l.set i x).getD j d=if j=i then x else l.getD j d:=by by_cases h:j=i;{subst h;simp[hi]};have f:¬i=j:=fun e=>h e.symm;simp[h,f]
def Mem.tT(m:Mem)(i x:Nat):Mem:={m with aZ:=m.aZ.set i x}
def Mem.Ks(m:Mem)(i:Nat)(h:List Cell):Mem:={m with a_:=m.a_.set i h}
theorem cX.Xf(h:cX w B A m)(i:Nat)(u:Value)(X:List Nat):Fr B X w (w.setCell ⟨A.aZ,i,none⟩ u):=by have hw:=h.aZ;refine(Fr.refl B X w).setCell (p:=⟨A.aZ,i,none⟩) hw h.below.2.1 ?_ (by intro a8;simp[C6]at a8) u;have:=h.xp;simp[nQ,this]
theorem cX.tT(h:cX w B A m){x:Nat}(hi:i<34)(au:x<18446744073709551616):cX (w.setCell ⟨A.aZ,i,none⟩<|.int .u64 (x:Nat)) B A (Mem.tT m i x):=by have d:=h.Xf i (.int .u64 (x:Nat)) [];(have r:(w.setCell ⟨A.aZ,i,none⟩<|.int .u64 (x:Nat)).heap.size=w.heap.size:=by simp[World.setCell]);obtain⟨last,hm,l⟩:=h.hb;refine⟨h.eT.keep d rfl,h.kd.keep d rfl,⟨last,hm.dj _ _<|hm.ne h.aZ ax,?_⟩,?_,by simpa[Mem.tT]using h.xp,fun j=>?_,?_,h.yC,⟨h.below.1,h.below.2.1,h.below.2.2.1,by rw[r];exact h.below.2.2.2⟩,h.ca,h.count,h.core.keep d bI⟩;{obtain⟨n,xs,a8,hn,h1⟩:=l;exact⟨n,xs,ownsRow_setCell_other a8 (uX a8 h.aZ ax) _,hn,h1⟩};{have:=h.aZ.setCell i<|.int .u64 (x:Nat);rw[aeS]at this;exact this};{show(m.aZ.set i x).getD j 0<_;rw[Qz _ _ _ _ _<|by rw[h.xp];exact hi];split;{exact au};exact h.xD j};obtain⟨aB,h1,f,p⟩:=h.a_;refine⟨aB,h1,f.dj _ _<|f.ne h.aZ ax,fun i hi=>?_⟩;obtain⟨v,g,o⟩:=p i hi;exact⟨v,g,o.keep d⟩
theorem cX.Xe(h:cX w B A m)(i:Nat)(u:Value)(X:List Nat):Fr B X w (w.setCell ⟨A.a_,i,none⟩ u):=by obtain⟨aB,h1,d,f⟩:=h.a_;refine(Fr.refl B X w).setCell (p:=⟨A.a_,i,none⟩) d h.below.2.2.1 ?_ (by intro a8;simp[C6]at a8) u;simp[nQ,h1]
theorem cX.Ks(h:cX w B A m)(hi:i<34)(av:cC w v L):cX (w.setCell ⟨A.a_,i,none⟩ v) B A (Mem.Ks m i L):=by have d:=h.Xe i v [];(have s:(w.setCell ⟨A.a_,i,none⟩ v).heap.size=w.heap.size:=by simp[World.setCell]);obtain⟨last,hm,o⟩:=h.hb;obtain⟨aB,h1,f,r⟩:=h.a_;refine⟨h.eT.keep d rfl,h.kd.keep d rfl,⟨last,hm.dj _ _<|hm.ne f ax,?_⟩,h.aZ.dj _ _<|h.aZ.ne f ax,h.xp,h.xD,⟨aB.setIfInBounds i v,by simpa using h1,f.setCell i v,fun j g=>?_⟩,by simpa[Mem.Ks]using h.yC,⟨h.below.1,h.below.2.1,h.below.2.2.1,by rw[s];exact h.below.2.2.2⟩,h.ca,h.count,h.core.keep d bI⟩;{obtain⟨n,xs,a8,hn,h1⟩:=o;exact⟨n,xs,ownsRow_setCell_other a8 (uX a8 f ax) _,hn,h1⟩};by_cases e:j=i;{subst e;refine⟨v,by simp[h1,g],?_⟩;show cC _ v ((m.a_.set j L).getD j []);rw[Qz _ _ _ _ _<|by rw[h.yC];exact g,aN rfl];exact av.keep d};obtain⟨v',l,p⟩:=r j g;refine⟨v',by rw[Array.getElem?_setIfInBounds,aC fun x=>e x.symm];exact l,?_⟩;show cC _ v' ((m.a_.set i L).getD j []);rw[Qz _ _ _ _ _<|by rw[h.yC];exact hi,aC e];exact p.keep d
def Bh(m:Mem)(i old new:Nat):Mem:=if m.ah i=old then(Mem.tT m i new).bN else m.bN
theorem akZ(B:Nat)(A:c6)(m:Mem)(ak:Int)(i old new:Nat)(w:World)(h:cX w B A m)(j:0<=ak)(h1:ak<64)(hi:i<34)(hn:new<18446744073709551616)(hc:m.count<4611686018427387904):
 aR 75 #[.pointer<|some A.hb,ak,i,.int .u64 old,.int .u64 new] w fun e w'=>e=.returned (.tuple #[decide<|m.ah i=old,bA])/\Acc w B A (Bh m i old new) w':=by obtain⟨last,hm,f⟩:=h.hb;have bJ:w.cell? ⟨A.hb,0,none⟩=some (.slice (some A.aZ) 34 34):=hm.cell 0;have G:=Ua h hi;have F:=h.aZ.free i;have s:=ad<|NZ A.hb last last A.aZ 34 34 m.ca m.count w hm;have z:=ad<|KI ak i 34 w j h1 ae ae;have cc:=h.xD i;by_cases aI:m.ah i=old;{have g:=h.tT (x:=new) hi hn;obtain⟨C,p,n⟩:=g.hb;have r:=ad fun a b c d=>J? B A.hb A.aZ m.ca m.count C ak a b c d true (w.setCell ⟨A.aZ,i,none⟩<|.int .u64 (new:Nat)) p n ⟨h.count,hc⟩ g.below.2.2.2;have H:=ad h;have D:=ad g;have kK:=ad p;have o:=ad n;(have eF:Bh m i old new=(Mem.tT m i new).bN:=by unfold Bh;rw[aN aI]);have lI:=ad eF;subst aI;clear h g hm f p n hc j h1 eF;go_enter func75,ntmps75;go_wp2_with(first|(go_at_call 112;refine s.out.mono ?_;rintro e w1 ⟨rfl,rfl⟩)|(go_at_call 111;refine z.out.mono ?_;rintro e w1 ⟨rfl,rfl⟩)|(go_at_call 113;refine(r.out 2 i _ _).mono ?_;rintro e w1 aE;obtain rfl:=aE.1;have ej:=ad aE;clear aE));refine cJ (v:=.tuple #[true,bA]) (by simp[results,results75,go_sem]) rfl ⟨bI,?_⟩;rw[lI.out];have k:=D.out.note kK.out o.out ej.out [];exact⟨k.1,(H.out.Xf i _ []).trans k.2⟩};have r:=ad fun a b c d=>J? B A.hb A.aZ m.ca m.count last ak a b c d false w hm f ⟨h.count,hc⟩ h.below.2.2.2;have H:=ad h;have kK:=ad hm;have o:=ad f;(have eF:Bh m i old new=m.bN:=by unfold Bh;rw[aC aI]);have lI:=ad eF;have I:¬((m.ah i:Nat):Int)=(old:Int):=ae;have y:=hg aI;have l:=ad y;clear h hm f hc j h1 eF y aI;go_enter func75,ntmps75;go_wp2_with(first|(go_at_call 112;refine s.out.mono ?_;rintro e w1 ⟨rfl,rfl⟩)|(go_at_call 111;refine z.out.mono ?_;rintro e w1 ⟨rfl,rfl⟩)|(go_at_call 113;refine(r.out 2 i _ _).mono ?_;rintro e w1 aE;obtain rfl:=aE.1;have ej:=ad aE;clear aE));rw[l.out,lI.out];exact cJ (by simp[results,results75,go_sem]) rfl ⟨rfl,H.out.note kK.out o.out ej.out []⟩
theorem μ(B:Nat)(A:c6)(m:Mem)(i:Nat)(w:World)(h:cX w B A m)(hi:i<34):
 aR 92 #[.pointer<|some A.hb,i] w (ga (.tuple #[.int .u64 (m.ah i:Nat),bA]) w):=by obtain⟨last,hm,j⟩:=h.hb;have bJ:w.cell? ⟨A.hb,0,none⟩=some (.slice (some A.aZ) 34 34):=hm.cell 0;have g:=Ua h hi;have d:=ad<|NZ A.hb last last A.aZ 34 34 m.ca m.count w hm;have f:=ad<|KI 0 i 34 w ae ae ae ae;go_enter func92,ntmps92;go_wp2_with(first|(go_at_call 112;refine d.out.mono ?_;rintro e w1 ⟨rfl,rfl⟩)|(go_at_call 111;refine f.out.mono ?_;rintro e w1 ⟨rfl,rfl⟩)|fail);exact cJ (by simp[results,results92,go_sem]) rfl ⟨rfl,rfl⟩
theorem zv(h:cX w B A m)(hi:i<34):∃a n c,w.cell? ⟨A.a_,i,none⟩=some (.slice a n c)/\cC w (.slice a n c) (m.b4 i):=by obtain⟨aB,h1,j,l⟩:=h.a_;obtain⟨v,f,d⟩:=l i hi;have g:=d;obtain⟨xs,_,⟨_,a,c,rfl,_⟩,_⟩:=g;exact⟨a,xs.length,c,(j.cell i).trans f,d⟩
theorem fu.b4(n:fu w B A m w')(h:cX w B A m)(av:w.cell? ⟨A.a_,i,none⟩=some v):w'.cell? ⟨A.a_,i,none⟩=some v:=by obtain⟨last,hm,f,hk,_⟩:=n;obtain⟨aB,h1,d,g⟩:=h.a_;have al:=hk.hU f hm d ax ax;rw[al.cell,<-d.cell];exact av
theorem F3(B:Nat)(A:c6)(m:Mem)(ak:Int)(i:Nat)(a:Option Addr)(n c:Nat)(w:World)(h:cX w B A m)(g:0<=ak)(h1:ak<64)(hi:i<34)(hc:m.count<4611686018427387904)(f:w.cell? ⟨A.a_,i,none⟩=some (.slice a n c)):
 aR 146 #[.pointer<|some A.kd,ak,i] w fun e w'=>e=.returned (.tuple #[.int .u64 (m.ah i:Nat),.slice a n c])/\fu w B A m w':=by have bJ:=h.kd.cell 0;have j:=ad<|akT B A m ak i w h g h1 hi hc;have H:=ad h;have fz:=ad f;go_enter func146,ntmps146;go_wp2_with(go_at_call 190;refine j.out.mono ?_;rintro e w1 ⟨rfl,d⟩;have aB:=d.acc H.out;have f:=d.b4 H.out fz.out;have k1:=aB.1.kd.cell 1;have l:=ad d);go_region;go_wp2;exact cJ (by simp[results,results146,go_sem]) rfl ⟨rfl,l.out.drew⟩
theorem ae_(B:Nat)(A:c6)(m:Mem)(i:Nat)(w:World)(h:cX w B A m)(hi:i<34):
 aR 56 #[.pointer<|some A.kd,i] w fun e w'=>∃a n c,e=.returned (.tuple #[.int .u64 (m.ah i:Nat),.slice a n c])/\cC w (.slice a n c) (m.b4 i)/\∃q,w'=w.drewN q:=by have bJ:=h.kd.cell 0;have d:=ad<|μ B A m i w h hi;obtain⟨a,n,c,f,hk⟩:=zv h hi;have k1:=h.kd.cell 1;have cV:=ad hk;go_enter func56,ntmps56;go_wp2_with(go_at_call 92;refine d.out.mono ?_;rintro e w1 ⟨rfl,rfl⟩);go_region;go_wp2;exact cJ (by simp[results,results56,go_sem]) rfl ⟨a,n,c,rfl,cV.out,1,rfl⟩
theorem Ea(B:Nat)(A:c6)(m:Mem)(ak:Int)(i old new:Nat)(v:Value)(L:List Cell)(w:World)(h:cX w B A m)(o:0<=ak)(h1:ak<64)(hi:i<34)(hn:new<18446744073709551616)(av:cC w v L)(hc:m.count<4611686018427387904):
 aR 40 #[.pointer<|some A.kd,ak,i,.int .u64 old,.int .u64 new,v] w fun e w'=>e=.returned ((m.swap i old new L).1)/\Acc w B A (m.swap i old new L).2 w':=by have bJ:=h.kd.cell 0;have d:=ad<|akZ B A m ak i old new w h o h1 hi hn hc;have p:=av;obtain⟨xs,_,⟨_,r,vc,rfl,_⟩,_⟩:=p;have j?:=ad av;by_cases aI:m.ah i=old;{(have eF:Bh m i old new=(Mem.tT m i new).bN:=by unfold Bh;rw[aN aI]);(have f:m.swap i old new L=(true,Mem.Ks (Mem.tT m i new).bN i L):=by unfold Mem.swap;rw[aN aI];rfl);have g:=ad f;have lI:=ad eF;have l:=hh aI;rw[l,eF]at d;go_enter func40,ntmps40;go_wp2_with(go_at_call 75;refine d.out.mono ?_;rintro e w1 ⟨rfl,aB⟩;obtain⟨a,n,c,s,hk⟩:=zv aB.1 hi;have f1:=aB.1.a_.choose_spec.2.1.free i;have k1:=aB.1.kd.cell 1;have j:=ad aB);go_ret;rw[g.out];have k:=j.out;exact⟨rfl,k.1.Ks hi<|j?.out.keep k.2,k.2.trans<|k.1.Xe i _ []⟩};(have eF:Bh m i old new=m.bN:=by unfold Bh;rw[aC aI]);(have f:m.swap i old new L=(false,m.bN):=by unfold Mem.swap;rw[aC aI]);have g:=ad f;have l:=hg aI;rw[l,eF]at d;go_enter func40,ntmps40;go_wp2_with(go_at_call 75;refine d.out.mono ?_;rintro e w1 ⟨rfl,aB⟩;have j:=ad aB);go_ret;rw[g.out];exact⟨rfl,j.out⟩
abbrev P(b:Nat):Value:=.pointer (some b)
structure Env where
 A:c6
 ak:Int
 x:Nat
 pol:aA
variable{E:Env}
abbrev hd(p:aA):Array Value:=#[.int .u8 (p.kind:Nat),p.T,p.tau,p.bl]
abbrev dn(r:c2):Array Value:=#[r.e,r.granted,r.left,r.wait,r.a6,r.now]
abbrev nT(d:Bool)(r:c2):Array Value:=#[d,r.e,r.granted,r.left,r.wait,r.a6,r.now]
abbrev cY(c:Cell)(k h:Value):Array Value:=#[c.pol,k,c.aJ,h]
def xG(w:World)(E:Env)(v:Value)(j b_:Nat):Prop:=∃(d:Nat) (f:Nat) (g:Nat),v=.func (.func 149) #[] #[P d,P f,P g]/\aq w d 3 #[j]/\aq w f 3 #[b_]/\aq w g 190 #[P E.x]
theorem xG.keep(d:Fr B X w w'){j s:Nat}:xG w E v j s->xG w' E v j s
 |⟨f,g,h,cx,g0,g1,g2⟩=>⟨f,g,h,cx,g0.keep d rfl,g1.keep d rfl,g2.keep d rfl⟩
def pO(w:World)(E:Env)(v:Value):Then->Prop
 |.aj=>∃(d:Nat) (f:Nat),v=.func (.func 162) #[] #[P d,P f]/\aq w d 190 #[P E.x]/\aq w f 78 (hd E.pol)
 |.d? j b_ cd=>∃(d:Nat) (v0:Value) (f:Nat) (g:Nat),v=.func (.func 152) #[] #[P d,P f,P g]/\aq w d 257 #[v0]/\xG w E v0 j b_/\aq w f 2 #[cd]/\aq w g 190 #[P E.x]
theorem pO.keep(d:Fr B X w w'):∀{t:Then},pO w E v t->pO w' E v t
 |.aj,⟨f,g,cx,g0,g1⟩=>⟨f,g,cx,g0.keep d rfl,g1.keep d rfl⟩
 |.d? j b_ cd,⟨f,v0,g,h,cx,g0,l,g1,g2⟩=>⟨f,v0,g,h,cx,g0.keep d rfl,l.keep d,g1.keep d rfl,g2.keep d rfl⟩
def sx(w:World)(E:Env)(v:Value):nY->Prop
 |.find aw sum t=>∃(d:Nat) (f:Nat) (h:Nat) (j:Nat) (g:Nat) (v4:Value) (l:Nat),v=.func (.func 199) #[] #[P d,P f,P h,P j,P g,P l]/\aq w d 79 #[P E.A.eT]/\aq w f 3 #[E.ak]/\aq w h 3 #[aw]/\aq w j 46 #[.int .u64 (sum:Nat)]/\aq w g 294 #[v4]/\pO w E v4 t/\aq w l 96 (nT false<|err 0)
 |.move aw i=>∃(d:Nat) (f:Nat) (h:Nat) (j:Nat) (g:Nat) (l:Nat),v=.func (.func 193) #[] #[P d,P f,P h,P j,P g,P l]/\aq w d 79 #[P E.A.eT]/\aq w f 3 #[E.ak]/\aq w h 3 #[aw]/\aq w j 3 #[i]/\aq w g 228 #[.func (.func 119) #[] #[]]/\aq w l 96 (nT false<|err 0)
theorem sx.keep(d:Fr B X w w'):∀{t:nY},sx w E v t->sx w' E v t
 |.find aw sum t,⟨f,g,j,l,h,v4,n,cx,g0,g1,g2,g3,g4,o,g5⟩=>⟨f,g,j,l,h,v4,n,cx,g0.keep d rfl,g1.keep d rfl,g2.keep d rfl,g3.keep d rfl,g4.keep d rfl,o.keep d,g5.keep d rfl⟩
 |.move aw i,⟨f,g,j,l,h,n,cx,g0,g1,g2,g3,g4,g5⟩=>⟨f,g,j,l,h,n,cx,g0.keep d rfl,g1.keep d rfl,g2.keep d rfl,g3.keep d rfl,g4.keep d rfl,g5.keep d rfl⟩
def qL(w:World)(E:Env)(v:Value):nt->Prop
 |.find sum t=>∃(d:Nat) (f:Nat) (h:Nat) (j:Nat) (v3:Value) (g:Nat),v=.func (.func 200) #[] #[P d,P f,P h,P j,P g]/\aq w d 79 #[P E.A.eT]/\aq w f 3 #[E.ak]/\aq w h 46 #[.int .u64 (sum:Nat)]/\aq w j 294 #[v3]/\pO w E v3 t/\aq w g 96 (nT false<|err 0)
 |.one aw i a_=>∃(d:Nat) (f:Nat) (h:Nat) (j:Nat) (g:Nat) (v4:Value) (l:Nat) (n:Nat),v=.func (.func 195) #[] #[P d,P f,P h,P j,P g,P l,P n]/\aq w d 79 #[P E.A.eT]/\aq w f 3 #[E.ak]/\aq w h 3 #[aw]/\aq w j 3 #[i]/\aq w g 41 #[v4]/\cC w v4 a_/\aq w l 228 #[.func (.func 119) #[] #[]]/\aq w n 96 (nT false<|err 0)
 |.two aw i=>∃(d:Nat) (f:Nat) (h:Nat) (j:Nat) (g:Nat) (l:Nat),v=.func (.func 196) #[] #[P d,P f,P h,P j,P g,P l]/\aq w d 79 #[P E.A.eT]/\aq w f 3 #[E.ak]/\aq w h 3 #[aw]/\aq w j 3 #[i]/\aq w g 228 #[.func (.func 119) #[] #[]]/\aq w l 96 (nT false<|err 0)
theorem qL.keep(d:Fr B X w w'):∀{t:nt},qL w E v t->qL w' E v t
 |.find sum t,⟨f,g,j,l,v3,h,cx,g0,g1,g2,g3,o,g4⟩=>⟨f,g,j,l,v3,h,cx,g0.keep d rfl,g1.keep d rfl,g2.keep d rfl,g3.keep d rfl,o.keep d,g4.keep d rfl⟩
 |.one aw i a_,⟨f,g,j,l,h,v4,n,p,cx,g0,g1,g2,g3,g4,r,g5,g6⟩=>⟨f,g,j,l,h,v4,n,p,cx,g0.keep d rfl,g1.keep d rfl,g2.keep d rfl,g3.keep d rfl,g4.keep d rfl,r.keep d,g5.keep d rfl,g6.keep d rfl⟩
 |.two aw i,⟨f,g,j,l,h,n,cx,g0,g1,g2,g3,g4,g5⟩=>⟨f,g,j,l,h,n,cx,g0.keep d rfl,g1.keep d rfl,g2.keep d rfl,g3.keep d rfl,g4.keep d rfl,g5.keep d rfl⟩
def z!(w:World)(E:Env)(v:Value)(f:ai.hT)(at_:Nat)(there:Bool)(c:Cell)(r:c2):Prop:=∃(g:Nat) (h:Nat) (v1:Value) (l:Nat) (n:Nat) (j:Nat) (v4:Value) (d:Value) (o:Nat),v=.func (.func 213) #[] #[P g,P h,P l,P n,P j,P o]/\aq w g 190 #[P E.x]/\aq w h 266 #[f.ah,.int .u64 (f.v:Nat),v1]/\cC w v1 f.cells/\aq w l 3 #[at_]/\aq w n 4 #[there]/\aq w j 56 (cY c v4 d)/\cb w v4 c.key/\b' w d c.held/\aq w o 58 (dn r)/\xV f at_ there c
theorem z!.keep(d:Fr B X w w'){f:ai.hT}{r:c2}:z! w E v f at_ there c r->z! w' E v f at_ there c r
 |⟨h,j,v1,n,o,l,v4,g,p,cx,g0,g1,k1,g2,g3,g4,s,x,g5,ex⟩=>⟨h,j,v1,n,o,l,v4,g,p,cx,g0.keep d rfl,g1.keep d rfl,k1.keep d,g2.keep d rfl,g3.keep d rfl,g4.keep d rfl,s.keep d,x.keep d,g5.keep d rfl,ex⟩
def Ad(w:World)(E:Env)(v:Value)(f:ai.hT)(at_:Nat)(there:Bool)(c:Cell):Prop:=∃(d:Nat) (g:Nat) (v1:Value) (h1:Value) (j:Nat) (l:Nat) (v3:Value) (h:Nat) (n:Nat),v=.func (.func 209) #[] #[P d,P g,P j,P l,P h,P n]/\aq w d 78 (hd E.pol)/\aq w g 56 (cY c v1 h1)/\cb w v1 c.key/\b' w h1 c.held/\aq w j 190 #[P E.x]/\aq w l 266 #[f.ah,.int .u64 (f.v:Nat),v3]/\cC w v3 f.cells/\aq w h 3 #[at_]/\aq w n 4 #[there]/\xV f at_ there c
theorem Ad.keep(d:Fr B X w w'){f:ai.hT}:Ad w E v f at_ there c->Ad w' E v f at_ there c
 |⟨g,h,v1,h1,l,n,v3,j,o,cx,g0,g1,k1,r,g2,g3,p,g4,g5,ex⟩=>⟨g,h,v1,h1,l,n,v3,j,o,cx,g0.keep d rfl,g1.keep d rfl,k1.keep d,r.keep d,g2.keep d rfl,g3.keep d rfl,p.keep d,g4.keep d rfl,g5.keep d rfl,ex⟩
def wx(w:World)(E:Env)(v:Value):wv->Prop
 |.done r=>∃(d:Nat),v=.func (.func 232) #[] #[P d]/\aq w d 58 (dn r)
 |.d? j b_ cd=>∃(a0:Int) (n:Nat),cd=a0+n/\∃(d:Nat) (v0:Value) (f:Nat) (g:Nat),v=.func (.func 161) #[] #[P d,P f,P g]/\aq w d 257 #[v0]/\xG w E v0 j b_/\aq w f 2 #[a0]/\aq w g 3 #[n]
theorem wx.keep(d:Fr B X w w'):∀{t:wv},wx w E v t->wx w' E v t
 |.done r,⟨f,cx,g0⟩=>⟨f,cx,g0.keep d rfl⟩
 |.d? j b_ cd,⟨a0,n,e,f,v0,g,h,cx,g0,l,g1,g2⟩=>⟨a0,n,e,f,v0,g,h,cx,g0.keep d rfl,l.keep d,g1.keep d rfl,g2.keep d rfl⟩
def sH(w:World)(E:Env)(v:Value):lN->Prop
 |.back t=>∃(d:Nat) (v0:Value),v=.func (.func 205) #[] #[P d]/\aq w d 82 #[v0]/\wx w E v0 t
 |.ag f at_ there c r=>∃(d:Nat) (g:Nat) (v1:Value),v=.func (.func 215) #[] #[P d,P g]/\aq w d 190 #[P E.x]/\aq w g 82 #[v1]/\z! w E v1 f at_ there c r
 |.a6 f at_ there c=>∃(d:Nat) (g:Nat) (v1:Value),v=.func (.func 211) #[] #[P d,P g]/\aq w d 190 #[P E.x]/\aq w g 194 #[v1]/\Ad w E v1 f at_ there c
theorem sH.keep(d:Fr B X w w'):∀{t:lN},sH w E v t->sH w' E v t
 |.back t,⟨g,v0,cx,g0,j⟩=>⟨g,v0,cx,g0.keep d rfl,j.keep d⟩
 |.ag f at_ there c r,⟨g,h,v1,cx,g0,g1,k1⟩=>⟨g,h,v1,cx,g0.keep d rfl,g1.keep d rfl,k1.keep d⟩
 |.a6 f at_ there c,⟨g,h,v1,cx,g0,g1,k1⟩=>⟨g,h,v1,cx,g0.keep d rfl,g1.keep d rfl,k1.keep d⟩
def uk(w:World)(E:Env)(v:Value):lN->Prop
 |.back _=>v=.nilFunc
 |.ag ..=>v=.func (.func 214) #[] #[]
 |.a6 ..=>∃(d:Nat),v=.func (.func 210) #[] #[P d]/\aq w d 190 #[P E.x]
theorem uk.keep(f:Fr B X w w'):∀{t:lN},uk w E v t->uk w' E v t
 |.back _,h=>h
 |.ag ..,h=>h
 |.a6 ..,⟨d,cx,g0⟩=>⟨d,cx,g0.keep f rfl⟩
def h!(w:World)(E:Env)(v:Value):c'->Prop
 |.find sum t=>∃(g:Nat) (l:Nat) (o:Nat) (p:Nat) (v3:Value),v=.func (.func 197) #[] #[P g,P l,P o,P p]/\aq w g 79 #[P E.A.eT]/\aq w l 3 #[E.ak]/\aq w o 46 #[.int .u64 (sum:Nat)]/\aq w p 294 #[v3]/\pO w E v3 t
 |.enter sum ah t=>∃(g:Nat) (l:Nat) (o:Nat) (p:Nat) (s:Nat) (v4:Value),v=.func (.func 228) #[] #[P g,P l,P o,P p,P s]/\aq w g 79 #[P E.A.eT]/\aq w l 3 #[E.ak]/\aq w o 3 #[ah]/\aq w p 46 #[.int .u64 (sum:Nat)]/\aq w s 294 #[v4]/\pO w E v4 t
 |.lk ah t=>∃(g:Nat) (l:Nat) (o:Nat) (p:Nat) (v3:Value),v=.func (.func 224) #[] #[P g,P l,P o,P p]/\aq w g 79 #[P E.A.eT]/\aq w l 3 #[E.ak]/\aq w o 3 #[ah]/\aq w p 293 #[v3]/\sx w E v3 t
 |.mZ ah u a_ t=>∃(g:Nat) (l:Nat) (o:Nat) (p:Nat) (s:Nat) (v4:Value) (y:Nat) (v5:Value) (z:Nat),v=.func (.func 225) #[] #[P g,P l,P o,P p,P s,P y,P z]/\aq w g 79 #[P E.A.eT]/\aq w l 3 #[E.ak]/\aq w o 3 #[ah]/\aq w p 46 #[.int .u64 (u:Nat)]/\aq w s 41 #[v4]/\cC w v4 a_/\aq w y 293 #[v5]/\sx w E v5 t/\aq w z 96 (nT false<|err 0)
 |.half aw shard a_ t=>∃(g:Nat) (l:Nat) (o:Nat) (p:Nat) (v3:Value) (s:Nat) (v4:Value) (y:Nat),v=.func (.func 226) #[] #[P g,P l,P o,P p,P s,P y]/\aq w g 79 #[P E.A.eT]/\aq w l 3 #[E.ak]/\aq w o 3 #[(aW aw shard:Nat)]/\aq w p 294 #[v3]/\qL w E v3 t/\aq w s 41 #[v4]/\cC w v4 a_/\aq w y 3 #[aw]
 |.m? aw shard a_ h t=>∃(g:Nat) (l:Nat) (o:Nat) (p:Nat) (v3:Value) (s:Nat) (y:Nat) (v5:Value) (z:Nat) (v6:Value),v=.func (.func 227) #[] #[P g,P l,P o,P p,P s,P y,P z]/\aq w g 79 #[P E.A.eT]/\aq w l 3 #[E.ak]/\aq w o 3 #[(aW aw shard:Nat)]/\aq w p 41 #[v3]/\cC w v3 a_/\aq w s 3 #[aw]/\aq w y 294 #[v5]/\qL w E v5 t/\aq w z 41 #[v6]/\cC w v6 h
 |.split=>∃(g:Nat) (l:Nat) (o:Nat),v=.func (.func 145) #[] #[P g,P l,P o]/\aq w g 79 #[P E.A.eT]/\aq w l 3 #[E.ak]/\aq w o 228 #[.func (.func 119) #[] #[]]
 |.om d aw=>∃(g:Nat) (l:Nat) (o:Nat) (p:Nat) (s:Nat) (y:Nat),v=.func (.func 148) #[] #[P g,P l,P o,P p,P s,P y]/\aq w g 79 #[P E.A.eT]/\aq w l 3 #[E.ak]/\aq w o 46 #[.int .u64 (d:Nat)]/\aq w p 228 #[.func (.func 119) #[] #[]]/\aq w s 96 (nT false<|err 0)/\aq w y 3 #[aw]
 |.pr aw=>∃(g:Nat) (l:Nat) (o:Nat) (p:Nat),v=.func (.func 191) #[] #[P g,P l,P o,P p]/\aq w g 79 #[P E.A.eT]/\aq w l 3 #[E.ak]/\aq w o 3 #[aw]/\aq w p 228 #[.func (.func 119) #[] #[]]
 |.h0 ah de stop t=>∃(g:Nat) (l:Nat) (o:Nat) (p:Nat) (v3:Value) (s:Nat) (y:Nat) (v5:Value),v=.func (.func 229) #[] #[P g,P l,P o,P p,P s,P y]/\aq w g 190 #[P E.x]/\aq w l 3 #[ah]/\aq w o 46 #[.int .u64 (stop:Nat)]/\aq w p 82 #[v3]/\uk w E v3 t/\aq w s 46 #[.int .u64 (de:Nat)]/\aq w y 300 #[v5]/\sH w E v5 t
 |.i' ah de stop u t=>∃(g:Nat) (l:Nat) (o:Nat) (p:Nat) (s:Nat) (y:Nat) (v5:Value) (z:Nat) (v6:Value),v=.func (.func 230) #[] #[P g,P l,P o,P p,P s,P y,P z]/\aq w g 190 #[P E.x]/\aq w l 3 #[ah]/\aq w o 46 #[.int .u64 (u:Nat)]/\aq w p 46 #[.int .u64 (de:Nat)]/\aq w s 46 #[.int .u64 (stop:Nat)]/\aq w y 82 #[v5]/\uk w E v5 t/\aq w z 300 #[v6]/\sH w E v6 t
 |.put f at_ there c r=>∃(g:Nat) (l:Nat) (v1:Value) (o:Nat) (p:Nat) (s:Nat) (v4:Value) (C:Value) (y:Nat),v=.func (.func 213) #[] #[P g,P l,P o,P p,P s,P y]/\aq w g 190 #[P E.x]/\aq w l 266 #[f.ah,.int .u64 (f.v:Nat),v1]/\cC w v1 f.cells/\aq w o 3 #[at_]/\aq w p 4 #[there]/\aq w s 56 (cY c v4 C)/\cb w v4 c.key/\b' w C c.held/\aq w y 58 (dn r)/\xV f at_ there c
 |.allow f at_ there c=>∃(g:Nat) (l:Nat) (v1:Value) (h1:Value) (o:Nat) (p:Nat) (v3:Value) (s:Nat) (y:Nat),v=.func (.func 207) #[] #[P g,P l,P o,P p,P s,P y]/\aq w g 78 (hd E.pol)/\aq w l 56 (cY c v1 h1)/\cb w v1 c.key/\b' w h1 c.held/\aq w o 190 #[P E.x]/\aq w p 266 #[f.ah,.int .u64 (f.v:Nat),v3]/\cC w v3 f.cells/\aq w s 3 #[at_]/\aq w y 4 #[there]/\xV f at_ there c
 |.k? c=>∃(g:Nat) (l:Nat) (v1:Value) (h1:Value) (o:Nat),v=.func (.func 169) #[] #[P g,P l,P o]/\aq w g 78 (hd E.pol)/\aq w l 56 (cY c v1 h1)/\cb w v1 c.key/\b' w h1 c.held/\aq w o 190 #[P E.x]/\eH c
 |.n5=>∃(g:Nat),v=.func (.func 120) #[] #[P g]/\aq w g 190 #[P E.x]
 |.mY j b_ cd ah u cs=>∃(g:Nat) (l:Nat) (v1:Value) (o:Nat) (v2:Value) (p:Nat) (s:Nat) (y:Nat),v=.func (.func 153) #[] #[P g,P l,P o,P p,P s,P y]/\aq w g 190 #[P E.x]/\aq w l 41 #[v1]/\cC w v1 cs/\aq w o 257 #[v2]/\xG w E v2 j b_/\aq w p 2 #[cd]/\aq w s 3 #[ah]/\aq w y 46 #[.int .u64 (u:Nat)]
 |.ke j b_ cd ah u rest n=>∃(g:Nat) (l:Nat) (o:Nat) (p:Nat) (v3:Value) (s:Nat) (v4:Value) (y:Nat) (z:Nat),v=.func (.func 159) #[] #[P g,P l,P o,P p,P s,P y,P z]/\aq w g 190 #[P E.x]/\aq w l 3 #[ah]/\aq w o 46 #[.int .u64 (u:Nat)]/\aq w p 41 #[v3]/\cC w v3 rest/\aq w s 257 #[v4]/\xG w E v4 j b_/\aq w y 2 #[cd]/\aq w z 3 #[n]
theorem h!.keep(g:Fr B X w w'):∀{t:c'},h! w E v t->h! w' E v t
 |.find sum t,⟨l,o,p,s,v3,cx,g0,g1,g2,g3,z⟩=>⟨l,o,p,s,v3,cx,g0.keep g rfl,g1.keep g rfl,g2.keep g rfl,g3.keep g rfl,z.keep g⟩
 |.enter sum ah t,⟨l,o,p,s,x,v4,cx,g0,g1,g2,g3,g4,C⟩=>⟨l,o,p,s,x,v4,cx,g0.keep g rfl,g1.keep g rfl,g2.keep g rfl,g3.keep g rfl,g4.keep g rfl,C.keep g⟩
 |.lk ah t,⟨l,o,p,s,v3,cx,g0,g1,g2,g3,z⟩=>⟨l,o,p,s,v3,cx,g0.keep g rfl,g1.keep g rfl,g2.keep g rfl,g3.keep g rfl,z.keep g⟩
 |.mZ ah u a_ t,⟨l,o,p,s,x,v4,y,v5,D,cx,g0,g1,g2,g3,g4,C,g5,F,g6⟩=>⟨l,o,p,s,x,v4,y,v5,D,cx,g0.keep g rfl,g1.keep g rfl,g2.keep g rfl,g3.keep g rfl,g4.keep g rfl,C.keep g,g5.keep g rfl,F.keep g,g6.keep g rfl⟩
 |.half aw shard a_ t,⟨l,o,p,s,v3,x,v4,y,cx,g0,g1,g2,g3,z,g4,C,g5⟩=>⟨l,o,p,s,v3,x,v4,y,cx,g0.keep g rfl,g1.keep g rfl,g2.keep g rfl,g3.keep g rfl,z.keep g,g4.keep g rfl,C.keep g,g5.keep g rfl⟩
 |.m? aw shard a_ h t,⟨l,o,p,s,v3,x,y,v5,D,v6,cx,g0,g1,g2,g3,z,g4,g5,F,g6,H⟩=>⟨l,o,p,s,v3,x,y,v5,D,v6,cx,g0.keep g rfl,g1.keep g rfl,g2.keep g rfl,g3.keep g rfl,z.keep g,g4.keep g rfl,g5.keep g rfl,F.keep g,g6.keep g rfl,H.keep g⟩
 |.split,⟨l,o,p,cx,g0,g1,g2⟩=>⟨l,o,p,cx,g0.keep g rfl,g1.keep g rfl,g2.keep g rfl⟩
 |.om d aw,⟨l,o,p,s,x,y,cx,g0,g1,g2,g3,g4,g5⟩=>⟨l,o,p,s,x,y,cx,g0.keep g rfl,g1.keep g rfl,g2.keep g rfl,g3.keep g rfl,g4.keep g rfl,g5.keep g rfl⟩
 |.pr aw,⟨l,o,p,s,cx,g0,g1,g2,g3⟩=>⟨l,o,p,s,cx,g0.keep g rfl,g1.keep g rfl,g2.keep g rfl,g3.keep g rfl⟩
 |.h0 ah de stop t,⟨l,o,p,s,v3,x,y,v5,cx,g0,g1,g2,g3,z,g4,g5,F⟩=>⟨l,o,p,s,v3,x,y,v5,cx,g0.keep g rfl,g1.keep g rfl,g2.keep g rfl,g3.keep g rfl,z.keep g,g4.keep g rfl,g5.keep g rfl,F.keep g⟩
 |.i' ah de stop u t,⟨l,o,p,s,x,y,v5,D,v6,cx,g0,g1,g2,g3,g4,g5,F,g6,H⟩=>⟨l,o,p,s,x,y,v5,D,v6,cx,g0.keep g rfl,g1.keep g rfl,g2.keep g rfl,g3.keep g rfl,g4.keep g rfl,g5.keep g rfl,F.keep g,g6.keep g rfl,H.keep g⟩
 |.put f at_ there c r,⟨l,o,v1,p,s,x,v4,I,y,cx,g0,g1,k1,g2,g3,g4,C,K,g5,ex⟩=>⟨l,o,v1,p,s,x,v4,I,y,cx,g0.keep g rfl,g1.keep g rfl,k1.keep g,g2.keep g rfl,g3.keep g rfl,g4.keep g rfl,C.keep g,K.keep g,g5.keep g rfl,ex⟩
 |.allow f at_ there c,⟨l,o,v1,h1,p,s,v3,x,y,cx,g0,g1,k1,G,g2,g3,z,g4,g5,ex⟩=>⟨l,o,v1,h1,p,s,v3,x,y,cx,g0.keep g rfl,g1.keep g rfl,k1.keep g,G.keep g,g2.keep g rfl,g3.keep g rfl,z.keep g,g4.keep g rfl,g5.keep g rfl,ex⟩
 |.k? c,⟨l,o,v1,h1,p,cx,g0,g1,k1,G,g2,ex⟩=>⟨l,o,v1,h1,p,cx,g0.keep g rfl,g1.keep g rfl,k1.keep g,G.keep g,g2.keep g rfl,ex⟩
 |.n5,⟨l,cx,g0⟩=>⟨l,cx,g0.keep g rfl⟩
 |.mY j b_ cd ah u cs,⟨l,o,v1,p,v2,s,x,y,cx,g0,g1,k1,g2,J,g3,g4,g5⟩=>⟨l,o,v1,p,v2,s,x,y,cx,g0.keep g rfl,g1.keep g rfl,k1.keep g,g2.keep g rfl,J.keep g,g3.keep g rfl,g4.keep g rfl,g5.keep g rfl⟩
 |.ke j b_ cd ah u rest n,⟨l,o,p,s,v3,x,v4,y,D,cx,g0,g1,g2,g3,z,g4,C,g5,g6⟩=>⟨l,o,p,s,v3,x,v4,y,D,cx,g0.keep g rfl,g1.keep g rfl,g2.keep g rfl,g3.keep g rfl,z.keep g,g4.keep g rfl,C.keep g,g5.keep g rfl,g6.keep g rfl⟩
def P3(E:Env)(x:Live)(key:Value):Array Value:=#[.int .u8 (x.aj.op:Nat),x.aj.pol,key,x.aj.n,P E.A.K,E.ak,.int .u64 (x.sum:Nat),x.gn,x.a6]
def dO(w:World)(E:Env)(x:Live):Prop:=∃key,aq w E.x 193 (P3 E x key)/\cb w key x.aj.key
theorem dO.keep{x:Live}(d:Fr B X w w')(au:E.x∉X)(h:dO w E x):dO w' E x:=by obtain⟨key,h1,f⟩:=h;exact⟨key,d.quiet _ _ _ _ h1<|.inr ⟨rfl,au⟩,f.keep d⟩
def pK(w:World)(E:Env)(k:c')(e:Ending)(w':World):Prop:=∃v,e=.returned v/\h! w' E v k/\Below w w w'
def wQ(w:World)(E:Env)(v:Value)(d:Bool)(a:c2):c'⊕c2->Prop
 |.inl k=>h! w E v k/\d=false/\a=err 0
 |.inr r=>v=.nilFunc/\d=true/\a=r
def jb(w:World)(B:Nat)(E:Env)(o:Out)(e:Ending)(w':World):Prop:=∃v d a,e=.returned (.tuple #[v,.agg<|nT d a])/\wQ w' E v d a o.1/\dO w' E o.2.1/\cX w' B E.A o.2.2/\Fr B [E.x] w w'
theorem heap_alloc(w:World)(o:Obj):(w.alloc o).heap=w.heap.push o:=rfl
def wy(v:Value):Prop:=∃f ps,v=.func f #[] ps
theorem pO.func:∀{t:Then},pO w E v t->wy v
 |.aj,⟨_,_,h,_⟩=>⟨_,_,h⟩
 |.d? ..,⟨_,_,_,_,h,_⟩=>⟨_,_,h⟩
theorem sx.func:∀{t:nY},sx w E v t->wy v
 |.find ..,⟨_,_,_,_,_,_,_,h,_⟩=>⟨_,_,h⟩
 |.move ..,⟨_,_,_,_,_,_,h,_⟩=>⟨_,_,h⟩
theorem qL.func:∀{t:nt},qL w E v t->wy v
 |.find ..,⟨_,_,_,_,_,_,h,_⟩=>⟨_,_,h⟩
 |.one ..,⟨_,_,_,_,_,_,_,_,h,_⟩=>⟨_,_,h⟩
 |.two ..,⟨_,_,_,_,_,_,h,_⟩=>⟨_,_,h⟩
theorem cC.slice(h:cC w v L):∃a n c,v=.slice a n c:=by obtain⟨xs,_,⟨_,a,c,rfl,_⟩,_⟩:=h;exact⟨_,_,_,rfl⟩
theorem bm(h:Below w w w'):Fr 0 [] w w':=Fr.pw (fw _) h
def BY(w:World):List Obj->World
 |[]=>w
 |o::l=>BY (w.alloc o) l
theorem ck:∀(l:List Obj) (w:World),Below w w<|BY w l
 |[],w=>b5 _ _
 |o::l,w=>by have h:=(b5 w w).alloc (bG _) o;exact h.trans<|(ck l<|w.alloc o).mono h.size
theorem Rl:∀(l:List Obj) (w:World) (i:Nat) (o:Obj),l[i]?=some o->(BY w l).heap[w+i]?=some o
 |[],w,i,o,h=>by simp at h
 |a::l,w,0,o,h=>by simp at h;subst h;exact((ck l<|w.alloc a).block w bI).trans (heap_alloc_new w a)
 |a::l,w,i+1,o,h=>by have:=Rl l (w.alloc a) i o (by simpa using h);rw[show w+(i+1)=(w.alloc a)+i by simp;omega];exact this
theorem b3(w:World)(l:List Obj)(i:Nat)(h:l[i]?=some (.cells a t (0,0))):aq (BY w l) (w+i) t a:=Rl l w i _ h
theorem aq.ec(h:aq w b t a):aq (w.drewN q) b t a:=h
end
end Go.Proofs.YtoglcccmgnjchaaGreat
namespace Go.RowKit
theorem Below.ec{B q:Nat}{w w':World}(h:Below B w w'):Below B w (w'.drewN q):=⟨h.os,h.tape,h.output,h.size,h.block⟩
end Go.RowKit
namespace Go.Proofs.YtoglcccmgnjchaaGreat
open Go.Proofs.Tryz PL
open Go.RowKit ai
variable{c:Code}{Q:Exit->Act->World->Prop}{a:Act}{w u oq:World}{S:World->Prop}{aV aX B b i:Nat}{t0 t1 t:TypeId}{a0 cz:Array Value}{E:Env}{x:Live}{m:Mem}{v:Value}
theorem Qs(E:Env)(sum:Nat)(t:Then)(v:Value)(w:World)(h:pO w E v t):
 aR 151 #[P E.A.eT,E.ak,.int .u64 sum,v] w (pK w E<|.find sum t):=by obtain⟨f,ps,rfl⟩:=h.func;have H:=ad h;go_enter func151,ntmps151;go_wp2;go_ret;exact⟨_,rfl,⟨w,w+1,w+2,w+3,_,rfl,b3 w [_,_,_,_] 0 rfl,b3 w [_,_,_,_] 1 rfl,b3 w [_,_,_,_] 2 rfl,b3 w [_,_,_,_] 3 rfl,H.out.keep<|bm<|ck [_,_,_,_] w⟩,ck [_,_,_,_] w⟩
theorem WS(E:Env)(sum ah:Nat)(t:Then)(v:Value)(w:World)(h:pO w E v t):
 aR 198 #[P E.A.eT,E.ak,.int .u64 sum,ah,v] w (pK w E<|.enter sum ah t):=by obtain⟨f,ps,rfl⟩:=h.func;have H:=ad h;go_enter func198,ntmps198;go_wp2;go_ret;exact⟨_,rfl,⟨w,w+1,w+3,w+2,w+4,_,rfl,b3 w [_,_,_,_,_] 0 rfl,b3 w [_,_,_,_,_] 1 rfl,b3 w [_,_,_,_,_] 3 rfl,b3 w [_,_,_,_,_] 2 rfl,b3 w [_,_,_,_,_] 4 rfl,H.out.keep<|bm<|ck [_,_,_,_,_] w⟩,ck [_,_,_,_,_] w⟩
theorem Qx(E:Env)(ah:Nat)(t:nY)(v:Value)(w:World)(h:sx w E v t):
 aR 192 #[P E.A.eT,E.ak,ah,v] w (pK w E<|.lk ah t):=by obtain⟨f,ps,rfl⟩:=h.func;have H:=ad h;go_enter func192,ntmps192;go_wp2;go_ret;exact⟨_,rfl,⟨w,w+1,w+2,w+3,_,rfl,b3 w [_,_,_,_] 0 rfl,b3 w [_,_,_,_] 1 rfl,b3 w [_,_,_,_] 2 rfl,b3 w [_,_,_,_] 3 rfl,H.out.keep<|bm<|ck [_,_,_,_] w⟩,ck [_,_,_,_] w⟩
theorem abx(E:Env)(w:World):
 aR 118 #[P E.A.eT,E.ak,.func (.func 119) #[] #[]] w (pK w E .split):=by go_enter func118,ntmps118;go_wp2;go_ret;exact⟨_,rfl,⟨w,w+1,w+2,rfl,b3 w [_,_,_] 0 rfl,b3 w [_,_,_] 1 rfl,b3 w [_,_,_] 2 rfl⟩,ck [_,_,_] w⟩
theorem QX(E:Env)(aw shard:Nat)(L:List Cell)(t:nt)(v dt:Value)(w:World)(h:qL w E v t)(hc:cC w dt L)(d:aw<=5):
 aR 194 #[P E.A.eT,E.ak,aw,.int .u64 shard,dt,v] w (pK w E<|.half aw shard L t):=by obtain⟨f,ps,rfl⟩:=h.func;obtain⟨a,n,c,rfl⟩:=hc.slice;have H:=ad h;have j:=ad hc;have g:=ad fun W=>E8 aw shard W d;go_enter func194,ntmps194;go_wp2_with(go_at_call 41;refine(g.out _).mono ?_;rintro e w1 ⟨rfl,rfl⟩);go_ret;exact⟨_,rfl,⟨w,w+1,w+5,w+4,_,w+3,_,w+2,rfl,b3 w [_,_,_,_,_,_] 0 rfl,b3 w [_,_,_,_,_,_] 1 rfl,b3 w [_,_,_,_,_,_] 5 rfl,b3 w [_,_,_,_,_,_] 4 rfl,H.out.keep<|bm<|ck [_,_,_,_,_,_] w,b3 w [_,_,_,_,_,_] 3 rfl,j.out.keep<|bm<|ck [_,_,_,_,_,_] w,b3 w [_,_,_,_,_,_] 2 rfl⟩,ck [_,_,_,_,_,_] w⟩
theorem NY(aw:Nat)(h:aw<=5):IntKind.i64.wrap (2^aw:Int)=(2^aw:Nat):=by have h:aw=0\/aw=1\/aw=2\/aw=3\/aw=4\/aw=5:=ae;rcases h with rfl|rfl|rfl|rfl|rfl|rfl<;>decide
theorem akW(E:Env)(aw:Nat)(w:World)(d:aw<=4):
 aR 147 #[P E.A.eT,E.ak,aw,(2^aw:Nat),.func (.func 119) #[] #[]] w (pK w E<|.pr aw):=by have h:aw=0\/aw=1\/aw=2\/aw=3\/aw=4:=ae;rcases h with rfl|rfl|rfl|rfl|rfl;all_goals go_enter func147,ntmps147;go_wp2;go_quiet (fail);go_wp2;go_ret;exact⟨_,rfl,⟨w,w+1,w+2,w+4,rfl,(b3 w [_,_,_,_,_,_] 0 rfl).ec,(b3 w [_,_,_,_,_,_] 1 rfl).ec,(b3 w [_,_,_,_,_,_] 2 rfl).ec,(b3 w [_,_,_,_,_,_] 4 rfl).ec⟩,(ck [_,_,_,_,_,_] w).ec⟩
theorem akX(E:Env)(aw i:Nat)(w:World)(k:aw<=4)(hi:i<2^aw):
 aR 147 #[P E.A.eT,E.ak,aw,i,.func (.func 119) #[] #[]] w (pK w E<|.lk (aW aw i)<|.move aw i):=by have aB:=NY aw ae;(have hu:IntKind.u64.wrap (i:Int)=(i:Int):=by have:(2:Nat)^aw<=2^4:=Nat.pow_le_pow_right ax k;rw[IntKind.wrap_u64];omega);(have bU:¬(i:Int)=(2:Int)^aw:=by(have e:((2^aw:Nat):Int)=(2:Int)^aw:=by rw[Int.natCast_pow];rfl);omega);have q:=ad fun W=>E8 aw i W ae;have gQ:=ad fun v W h=>Qx E (aW aw i) (.move aw i) v W h;have r:(0:Int)<=aw:=ae;have s:(aw:Int)<64:=ae;clear k hi;go_enter func147,ntmps147;go_wp2;go_quiet (fail);go_wp2;refine wp_name (fun u=>aq u w 79 #[P E.A.eT]/\aq u (w+1) 3 #[E.ak]/\aq u (w+2) 3 #[aw]/\aq u (w+3) 3 #[i]/\aq u (w+4) 228 #[.func (.func 119) #[] #[]]/\aq u (w+5) 96 (nT false<|err 0)/\Below w w u) ⟨(b3 w [_,_,_,_,_,_] 0 rfl).ec,(b3 w [_,_,_,_,_,_] 1 rfl).ec,(b3 w [_,_,_,_,_,_] 2 rfl).ec,(b3 w [_,_,_,_,_,_] 3 rfl).ec,(b3 w [_,_,_,_,_,_] 4 rfl).ec,(b3 w [_,_,_,_,_,_] 5 rfl).ec,(ck [_,_,_,_,_,_] w).ec⟩ ?_;rintro u ⟨d,h1,f,g,j,l,al⟩;have bJ:=d.dL;have c1:=h1.dL;have cw:=f.dL;have dg:=g.dL;have dD:Hid (sx u.drew E (.func (.func 193) #[] #[P w,P<|w+1,P<|w+2,P<|w+3,P<|w+4,P<|w+5])<|.move aw i):=⟨_,_,_,_,_,_,rfl,d,h1,f,g,j,l⟩;have n:=ad al;clear d h1 f g j l al;refine wp_region_still_tail 7 b! b! ?_;simp only[List.take_succ_cons,List.take_zero,List.drop_succ_cons,List.drop_zero];show wpStill _ _ u.drew (fun p=>wpList _ _ _ _ p u.drew) _ _;(repeat(first|still_step|still_call ((q.out _).mono fun _ _ h=>bw h.1 h.2.symm)));(try refine wpStill_nil ?_);change wpList _ _ _ _ _ u.drew;go_wp2_with(go_at_call 192;refine(gQ.out _ _ dD.out).mono ?_;rintro e w1 ⟨v,rfl,hk,al⟩;have cV:=ad hk;have o:=ad al;clear hk al);go_ret;exact⟨v,rfl,cV.out,n.out.drew.trans<|o.out.mono n.out.size⟩
theorem sv{P:Program}(aB:S w)(h:∀u,S u->Code.wp P c Q a u):Code.wp P c Q a w:=h w aB
theorem kX{P:Program}(aB:S w)(d:aq w aV t0 a0)(h:∀u,S u->aq u aV t0 a0->Code.wp P c Q a u):Code.wp P c Q a w:=h w aB d
theorem Bn{P:Program}(aB:S w)(d:aq w aV t0 a0)(h1:aq w aX t1 cz)(h:∀u,S u->aq u aV t0 a0->aq u aX t1 cz->Code.wp P c Q a u):Code.wp P c Q a w:=h w aB d h1
theorem ab7{P:Program}{d:Nat}{t2:TypeId}{a2:Array Value}(aB:S w)(e:aq w aV t0 a0)(h1:aq w aX t1 cz)(f:aq w d t2 a2)(h:∀u,S u->aq u aV t0 a0->aq u aX t1 cz->aq u d t2 a2->Code.wp P c Q a u):Code.wp P c Q a w:=h w aB e h1 f
theorem lr(w:World)(l:List Obj){a:Array Value}(h:l[0]?=some (.cells a t (0,0))):aq (BY w l) w t a:=Rl l w 0 _ h
structure db(w:World)(B:Nat)(E:Env)(x:Live)(m:Mem)(u:World):Prop where
 st:cX u B E.A m
 aj:dO u E x
 bh:Fr B [E.x] w u
theorem db.later(h:db w B E x m u)(k:Below u u oq):db w B E x m oq:=
 ⟨h.st.later k,h.aj.keep (bm k) bI,h.bh.below h.st.below.2.2.2 k⟩
theorem db.acc{dI:Mem}(h:db w B E x m u)(k:Acc u B E.A dI oq):db w B E x dI oq:=
 ⟨k.1,h.aj.keep k.2 bI,h.bh.trans<|k.2.mono (bG _) bI⟩
theorem db.drew(h:db w B E x m u):db w B E x m u.drew:=h.later (b5 _ _).drew
theorem db.A!(h:db w B E x m u)(n:fu u B E.A m oq):db w B E x m.bN oq:=h.acc<|n.acc h.st
theorem db.start(h1:cX w B E.A m)(d:dO w E x):db w B E x m w:=⟨h1,d,Fr.refl _ _ _⟩
structure Env.Ok(E:Env)(m:Mem):Prop where
 p?:0<=E.ak
 p!:E.ak<64
 count:m.count<4611686018427387904
theorem ah5(d:Nat)(h:d<=9):(d:Int).tdiv 2=((d/2:Nat):Int)/\(d:Int).tmod 2=((d%2:Nat):Int):=by have h:d=0\/d=1\/d=2\/d=3\/d=4\/d=5\/d=6\/d=7\/d=8\/d=9:=ae;rcases h with rfl|rfl|rfl|rfl|rfl|rfl|rfl|rfl|rfl|rfl<;>decide
theorem B?{r j:Nat}(h:b≠r):(w.setCell ⟨r,i,none⟩ v).cell? ⟨b,j,none⟩=w.cell? ⟨b,j,none⟩:=World.cell?_setCell_other _ _ _ _ (by intro e;injection e with aO;exact h aO.symm)
theorem aq.sM{a:Array Value}(h:aq w b t a):aq w.drew b t a:=h
theorem ae2{a:World}{o:Obj}(br:B<=w)(h:RowKit.Below B a w):RowKit.Below B a (w.alloc o):=h.alloc br o
theorem B2{q:Nat}{a:World}(a':B<=q)(h:RowKit.Below B a w):RowKit.Below B a (w.setCell ⟨q,i,none⟩ v):=h.setCell a' v
