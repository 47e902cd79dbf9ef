import Derived.Test.YtoglcccmgnjchaaGreatTa17
set_option linter.all false
set_option maxHeartbeats 8000000
set_option maxRecDepth 100000
namespace Go.Proofs.YtoglcccmgnjchaaGreat
open Go.Proofs.Tryz PL
section
open Go.RowKit ai
variable{ys:List bV}{L:List Cell}{k B:Nat}{v:Value}{wr:World}
theorem aaR(v:Value)(L:List Cell)(c:Cell)(kv av:Value)(w:World)(h:cC w v L)(hc:(⟨c,kv,av⟩:bV).ok w)(ok:eH c)(gb:L.length<1048576):
   aR 35 #[v,.agg<|cY c kv av] w fun e w'=>∃v',e=.returned v'/\cC w' v' (iO L c)/\Below w w w':=by
 obtain⟨xs,a,lu,rfl,rfl,aK,aY,cP,cG,hl⟩:=h.parts;(obtain⟨bt,bq,rfl⟩:∃a bx,kv=.slice a c.key.length bx:=by obtain⟨⟨_,_,a,bx,e,_⟩,_⟩:=hc;exact⟨a,bx,e⟩);(obtain⟨ha,r,rfl⟩:∃a bx,av=.slice a c.held.length bx:=by obtain⟨_,_,a,bx,e,_⟩:=hc;exact⟨a,bx,e⟩);rw[hE]at gb;have sC:=ad hl;have i?:=ad cP;have jm:=ad cG;have cR:=ad hc;have Ok:=ad ok;(have aeh:Hid (∀(x:bV),x∈xs->∀W,Below w.heap.size w W->aR 65 #[c.pol,.slice bt c.key.length bq,x.c.pol,x.kv] W (dM (.int .i64<|cT (bH c)<|bH x.c) W)):=fun x au W al=>by have k9:=hl.ok x.c<|List.mem_map_of_mem au;exact amH _ _ _ _ _ _ W (hc.1.by.below al) ((cG x au).1.by.below al) ok.len k9.len ok.py ok.og k9.py k9.og);clear h cP cG hc ok hl;have bZ:=(b5 w.heap.size w).alloc (bG _)<|.cells (cY c (.slice bt c.key.length bq)<|.slice ha c.held.length r) 56;have en:=aq.new w 56<|cY c (.slice bt c.key.length bq)<|.slice ha c.held.length r;have eE:=od w<|.cells (cY c (.slice bt c.key.length bq)<|.slice ha c.held.length r) 56;have I:=ad bZ;have S:=ad en;have M:=ad eE;clear bZ en eE;obtain⟨g,aM,l,f⟩:=c;go_enter func35,ntmps35;go_wp2;dsimp only[cY]at*;generalize w.alloc (.cells #[g,.slice bt aM.length bq,l,.slice ha f.length r] 56)=jc at*;have eS:=S.out.lt;go_loopw [5,6,8,9,12] (fun v d _ _ i wr=>∃k:Nat,i=.int .i64 k/\k<=xs.length/\Aa (w.heap.size+1) (xs.map bV.c) ⟨g,aM,l,f⟩ k v d wr/\Below (w.heap.size+1) jc wr) (fun _ _ _ _ i _=>xs.length-(intOf i).toNat);case atStart=>exact⟨0,rfl,fw _,⟨false,[],rfl,lp.nil _ _,rfl,fun _ y hy=>(by cases hy),fun h=>(by cases h)⟩,b5 _ _⟩
 case round=>
   obtain⟨k,rfl,hk,⟨done,ys,rfl,p,O,pX,pY⟩,cN⟩:=hrel;have fD:=ad p;have R:=ad cN;have hI:=ad O;have il:=ad pX;have j':=ad pY;(have s6:ys.length<=1048576/\(done=false->ys.length<=1048575):=by have h:=congrArg List.length O;(have ao:(C_ ((xs.map bV.c).take k) ⟨g,aM,l,f⟩ done).length<=((xs.map bV.c).take k).length+1/\(done=false->(C_ ((xs.map bV.c).take k) ⟨g,aM,l,f⟩ done).length<=((xs.map bV.c).take k).length):=by unfold C_;split;{rename_i aI;exact⟨aaC _ _,fun h=>by rw[h]at aI;cases aI⟩};exact⟨ae,fun _=>bG _⟩);rw[hE]at h;rw[fG,hE,<-h]at ao;exact⟨ae,fun e=>by have:=ao.2 e;omega⟩);obtain⟨s6,ajP⟩:=s6;clear p cN O pX pY;(have JP:w.heap.size+1<=wr.heap.size:=by have:=R.out.size;omega);by_cases cg:k<xs.length
   . obtain⟨b,off,rfl,a!⟩:=i?.out ae;have fE:=y_ I.out M.out R.out;obtain⟨bL,cE,dZ,dP⟩:=uu (fun j u hu=>cB fE<|a! j u hu) k cg;have zB:=fZ cg;have dp:=ad<|jm.out xs[k] zB;(have uy:k<(xs.map bV.c).length:=by simpa using cg);(have t?:Hid ((xs.map bV.c)[k]=xs[k].c):=by show _=_;simp);(have Px:Hid (∀W,Below w.heap.size w W->aR 65 #[g,.slice bt aM.length bq,.int .i64 xs[k].c.pol,xs[k].kv] W (dM (.int .i64<|cT (bH ⟨g,aM,l,f⟩)<|bH (xs.map bV.c)[k]) W)):=by rw[t?.out];exact aeh.out xs[k] zB);have ade:=ad fun(e:done=true)=>amk sC.out.order uy<|j'.out e;have wH:=ad<|Wf (bH ⟨g,aM,l,f⟩)<|bH (xs.map bV.c)[k];clear a! zB;generalize xs[k]=x at*;obtain⟨⟨A,s,C,t⟩,N!,N?⟩:=x;obtain⟨⟨_,_,dT,dC,aO,_⟩,_,D,E,aU,_⟩:=id dp.out;dsimp only at aO aU bL cE dZ dP Px;subst aO aU;have T:=ad<|R.out.alloc JP<|.cells #[A,.slice dT s.length dC,C,.slice D t.length E] 56;have D4:=ad<|Px.out _<|y_ I.out M.out T.out;have P:=ad<|aq.new wr 56 #[A,.slice dT s.length dC,C,.slice D t.length E];have U:=ad<|fD.out.below<|(b5 wr.heap.size wr).alloc (bG _)<|.cells #[A,.slice dT s.length dC,C,.slice D t.length E] 56;have xL:=ad fD.out.free;have xe:=eB eS T.out.size;generalize a8:cT (bH ⟨g,aM,l,f⟩) (bH (xs.map bV.c)[k])=o at*;have nx:=ad a8;have Vo:=ad<|S.out.below R.out<|Nat.lt_succ_self _;obtain⟨eY,eU,hr,h7⟩:=eO Vo.out;have EF:=Vo.out.lt;clear a8 Px
     cases done with
     |true=>
       have cc:=ade.out rfl;have vS:¬o=0:=ae;have hle:o<=0:=ae
       go_wp2_with(first
         |(go_at_call 65;(with_reducible refine D4.out.mono ?_);rintro e dy ⟨rfl,m⟩;have q:=ad<|(T.out).trans<|m.mono xe;have N:=ad<|S.out.below q.out<|Nat.lt_succ_self _;have F:=ad<|P.out.below m P.out.lt;have z:=ad<|U.out.below m;have nK:=m.size;have nI:=F.out.lt;obtain⟨eY,eU,hr,h7⟩:=eO N.out;obtain⟨eb,Y,X,Z⟩:=eO F.out;clear m)
         |(at_builtin;refine wS rfl _ _ 41 rfl (w.heap.size+1) 56 (.agg #[.int .i64 0,.slice none 0 0,.int .i64 0,.slice none 0 0]) 4 64 underlying41 CW rfl ax _ ys.length _ rfl (z.out.1.alloc _) dy.heap.size [.int .i64 A,.slice dT s.length dC,.int .i64 C,.slice D t.length E] rfl rfl (aq.new dy _ _) (by intro u hu;simp at hu;rcases hu with rfl|rfl|rfl|rfl<;>rfl) ae (by have:=od dy<|.cells [.int .i64 A,.slice dT s.length dC,.int .i64 C,.slice D t.length E].toArray 56;omega) ?_;rintro g5 Q H p n G;have J:=ad<|(q.out.alloc ae<|.cells [.int .i64 A,.slice dT s.length dC,.int .i64 C,.slice D t.length E].toArray 56).trans n.bn;have K:=ad<|lp.snoc (z.out.below<|(b5 _ _).alloc (bG _) _) (dp.out.below<|y_ I.out M.out<|q.out.alloc ae _) p n;skip;clear p n G))
       go_roundw;(case rel=>exact⟨k+1,by go_num,ae,Aa.on uy hI.out (fun h=>by cases h) (fun _=>j'.out trivial) (fun h=>by cases h) t?.out.symm K.out,J.out⟩);case measure=>simp[intOf];omega
     |false=>
       have s6:=ajP rfl;by_cases hle:o<=0
       . by_cases bd:o=0
         . have dx:=ad bd;subst bd
           go_wp2_with(first
             |(go_at_call 65;(with_reducible refine D4.out.mono ?_);rintro e dy ⟨rfl,m⟩;have q:=ad<|(T.out).trans<|m.mono xe;have N:=ad<|S.out.below q.out<|Nat.lt_succ_self _;have F:=ad<|P.out.below m P.out.lt;have z:=ad<|U.out.below m;have nK:=m.size;have nI:=F.out.lt;obtain⟨eY,eU,hr,h7⟩:=eO N.out;obtain⟨eb,Y,X,Z⟩:=eO F.out;clear m)
             |(at_builtin;refine wS rfl _ _ 41 rfl (w.heap.size+1) 56 (.agg #[.int .i64 0,.slice none 0 0,.int .i64 0,.slice none 0 0]) 4 64 underlying41 CW rfl ax _ ys.length _ rfl (z.out.1.alloc _) dy.heap.size [.int .i64 g,.slice bt aM.length bq,.int .i64 l,.slice ha f.length r] rfl rfl (aq.new dy _ _) (by intro u hu;simp at hu;rcases hu with rfl|rfl|rfl|rfl<;>rfl) ae (by have:=od dy<|.cells [.int .i64 g,.slice bt aM.length bq,.int .i64 l,.slice ha f.length r].toArray 56;omega) ?_;rintro g5 Q H p n G;have J:=ad<|(q.out.alloc ae<|.cells [.int .i64 g,.slice bt aM.length bq,.int .i64 l,.slice ha f.length r].toArray 56).trans n.bn;have K:=ad<|lp.snoc (z.out.below<|(b5 _ _).alloc (bG _) _) (cR.out.below<|y_ I.out M.out<|q.out.alloc ae _) p n;have V:=ad<|G _ _ _ (F.out.o8) (by have:=U.out.free;have e:=xL.out;exact e);obtain⟨eb,Y,X,Z⟩:=eO V.out;have AX:=V.out.lt;clear p n G))
           go_roundw;(case rel=>exact⟨k+1,by go_num,ae,Aa.first uy hI.out (il.out trivial) (by rw[nx.out];decide) (by rw[aN nx.out];rfl) K.out,J.out⟩);case measure=>simp[intOf];omega
         . have cc:o<0:=ae
           go_wp2_with(first
             |(go_at_call 65;(with_reducible refine D4.out.mono ?_);rintro e dy ⟨rfl,m⟩;have q:=ad<|(T.out).trans<|m.mono xe;have N:=ad<|S.out.below q.out<|Nat.lt_succ_self _;have F:=ad<|P.out.below m P.out.lt;have z:=ad<|U.out.below m;have nK:=m.size;have nI:=F.out.lt;obtain⟨eY,eU,hr,h7⟩:=eO N.out;obtain⟨eb,Y,X,Z⟩:=eO F.out;clear m)
             |(at_builtin;refine wS rfl _ _ 41 rfl (w.heap.size+1) 56 (.agg #[.int .i64 0,.slice none 0 0,.int .i64 0,.slice none 0 0]) 4 64 underlying41 CW rfl ax _ ys.length _ rfl (z.out.1.alloc _) dy.heap.size [.int .i64 g,.slice bt aM.length bq,.int .i64 l,.slice ha f.length r] rfl rfl (aq.new dy _ _) (by intro u hu;simp at hu;rcases hu with rfl|rfl|rfl|rfl<;>rfl) ae (by have:=od dy<|.cells [.int .i64 g,.slice bt aM.length bq,.int .i64 l,.slice ha f.length r].toArray 56;omega) ?_;rintro g5 Q H p n G;have J:=ad<|(q.out.alloc ae<|.cells [.int .i64 g,.slice bt aM.length bq,.int .i64 l,.slice ha f.length r].toArray 56).trans n.bn;have K:=ad<|lp.snoc (z.out.below<|(b5 _ _).alloc (bG _) _) (cR.out.below<|y_ I.out M.out<|q.out.alloc ae _) p n;have V:=ad<|G _ _ _ (F.out.o8) (by have:=U.out.free;have e:=xL.out;exact e);obtain⟨eb,Y,X,Z⟩:=eO V.out;have AX:=V.out.lt;clear p n G)
             |(at_builtin;refine wS rfl _ _ 41 rfl (w.heap.size+1) 56 (.agg #[.int .i64 0,.slice none 0 0,.int .i64 0,.slice none 0 0]) 4 64 underlying41 CW rfl ax _ (ys++[(⟨⟨g,aM,l,f⟩,.slice bt aM.length bq,.slice ha f.length r⟩:bV)]).length _ rfl (K.out.1.alloc _) H.heap.size [.int .i64 A,.slice dT s.length dC,.int .i64 C,.slice D t.length E] rfl rfl (aq.new H _ _) (by intro u hu;simp at hu;rcases hu with rfl|rfl|rfl|rfl<;>rfl) (by rw[gO];show _+1<=_;omega) (by have:=od H<|.cells [.int .i64 A,.slice dT s.length dC,.int .i64 C,.slice D t.length E].toArray 56;omega) ?_;rintro g6 LA xC p n G;have HT:=ad<|(J.out.alloc ae<|.cells [.int .i64 A,.slice dT s.length dC,.int .i64 C,.slice D t.length E].toArray 56).trans n.bn;have O8:=ad<|lp.snoc (K.out.below<|(b5 _ _).alloc (bG _) _) (dp.out.below<|y_ I.out M.out<|J.out.alloc ae _) p n;skip;clear p n G))
           have dD:=O8.out;simp only[gO,List.length_cons,List.length_nil,iQ,List.append_assoc]at dD;go_roundw;(case rel=>exact⟨k+1,by go_num,ae,Aa.first uy hI.out (il.out trivial) (by rw[nx.out];exact hle) (by rw[aC<|by rw[nx.out];exact bd,t?.out];rfl) dD,HT.out⟩);case measure=>simp[intOf];omega
       . have vS:¬o=0:=ae
         go_wp2_with(first
           |(go_at_call 65;(with_reducible refine D4.out.mono ?_);rintro e dy ⟨rfl,m⟩;have q:=ad<|(T.out).trans<|m.mono xe;have N:=ad<|S.out.below q.out<|Nat.lt_succ_self _;have F:=ad<|P.out.below m P.out.lt;have z:=ad<|U.out.below m;have nK:=m.size;have nI:=F.out.lt;obtain⟨eY,eU,hr,h7⟩:=eO N.out;obtain⟨eb,Y,X,Z⟩:=eO F.out;clear m)
           |(at_builtin;refine wS rfl _ _ 41 rfl (w.heap.size+1) 56 (.agg #[.int .i64 0,.slice none 0 0,.int .i64 0,.slice none 0 0]) 4 64 underlying41 CW rfl ax _ ys.length _ rfl (z.out.1.alloc _) dy.heap.size [.int .i64 A,.slice dT s.length dC,.int .i64 C,.slice D t.length E] rfl rfl (aq.new dy _ _) (by intro u hu;simp at hu;rcases hu with rfl|rfl|rfl|rfl<;>rfl) ae (by have:=od dy<|.cells [.int .i64 A,.slice dT s.length dC,.int .i64 C,.slice D t.length E].toArray 56;omega) ?_;rintro g5 Q H p n G;have J:=ad<|(q.out.alloc ae<|.cells [.int .i64 A,.slice dT s.length dC,.int .i64 C,.slice D t.length E].toArray 56).trans n.bn;have K:Hid (lp H (w.heap.size+1) (.slice (some ⟨g5,0,none⟩) (ys.length+1) Q)<|ys++[⟨⟨A,s,C,t⟩,.slice dT s.length dC,.slice D t.length E⟩]):=lp.snoc (z.out.below<|(b5 _ _).alloc (bG _) _) (dp.out.below<|y_ I.out M.out<|q.out.alloc ae _) p n;skip;clear p n G))
         go_roundw;(case rel=>exact⟨k+1,by go_num,ae,Aa.on uy hI.out (fun _=>il.out trivial) (fun h=>by cases h) (fun _=>by rw[nx.out];omega) t?.out.symm K.out,J.out⟩);case measure=>simp[intOf];omega
   . obtain rfl:k=xs.length:=ae;have O:=hI.out;have d0:=il.out;have oO:(xs.map bV.c).take xs.length=xs.map bV.c:=qG bI;rw[oO]at O d0;have fE:Below w.heap.size w wr:=y_ I.out M.out R.out;have mz:=ad fE;cases done with|true=>(have dD:Hid (cC wr u5<|iO (xs.map bV.c) ⟨g,aM,l,f⟩):=by have hw:=ab6 sC.out Ok.out (by simpa using gb);have e:ys.map bV.c=iO (xs.map bV.c) ⟨g,aM,l,f⟩:=O;rw[<-e]at hw⊢;exact fD.out.at_ hw);clear O d0 fE;go_wp2;exact mD ⟨_,rfl,dD.out,mz.out⟩|false=>(have e:(ys++[(⟨⟨g,aM,l,f⟩,.slice bt aM.length bq,.slice ha f.length r⟩:bV)]).map bV.c=iO (xs.map bV.c) ⟨g,aM,l,f⟩:=by have:=S? (xs.map bV.c) [] ⟨g,aM,l,f⟩<|d0 rfl;rw[List.append_nil]at this;rw[List.map_append,O,this];rfl);have lZ:=ad e;have hw:=ab6 sC.out Ok.out (by simpa using gb);rw[<-e]at hw;have rh:=ad hw;have q:=R;have z:=fD;have N:=S.out.below R.out<|Nat.lt_succ_self _;obtain⟨eY,eU,hr,h7⟩:=eO N;clear O d0 fE e hw N;go_wp2_with(at_builtin;refine wS rfl _ _ 41 rfl (w.heap.size+1) 56 (.agg #[.int .i64 0,.slice none 0 0,.int .i64 0,.slice none 0 0]) 4 64 underlying41 CW rfl ax _ ys.length _ rfl (z.out.1.alloc _) wr.heap.size [.int .i64 g,.slice bt aM.length bq,.int .i64 l,.slice ha f.length r] rfl rfl (aq.new wr _ _) (by intro u hu;simp at hu;rcases hu with rfl|rfl|rfl|rfl<;>rfl) ae (by have:=od wr<|.cells [.int .i64 g,.slice bt aM.length bq,.int .i64 l,.slice ha f.length r].toArray 56;omega) ?_;rintro g5 Q H p n G;have J:=ad<|(q.out.alloc ae<|.cells [.int .i64 g,.slice bt aM.length bq,.int .i64 l,.slice ha f.length r].toArray 56).trans n.bn;have K:Hid (lp H (w.heap.size+1) (.slice (some ⟨g5,0,none⟩) (ys.length+1) Q)<|ys++[⟨⟨g,aM,l,f⟩,.slice bt aM.length bq,.slice ha f.length r⟩]):=lp.snoc (z.out.below<|(b5 _ _).alloc (bG _) _) (cR.out.below<|y_ I.out M.out<|q.out.alloc ae _) p n;skip;clear p n G);(have dD:Hid (cC H (.slice (some ⟨g5,0,none⟩) (ys.length+1) Q)<|iO (xs.map bV.c) ⟨g,aM,l,f⟩):=by show cC _ _ _;rw[<-lZ.out];exact K.out.at_ rh.out);exact mD ⟨_,rfl,dD.out,y_ I.out M.out J.out⟩
structure yR(B:Nat)(L:List Cell)(P:Cell->Bool)(k:Nat)(v:Value)(wr:World):Prop where
 ex:∃ys:List bV,lp wr B v ys/\ys.map bV.c=(L.take k).filter P
theorem W2{P:Cell->Bool}(h:ys.map bV.c=(L.take k).filter P)(bY:L.length<=1048576):ys.length<=1048576:=by have h1:=congrArg List.length h;rw[hE]at h1;have:=List.length_filter_le P<|L.take k;rw[fG]at this;omega
theorem yR.on{P:Cell->Bool}{y:bV}(hk:k<L.length)(hy:ys.map bV.c=(L.take k).filter P)(hc:L[k]=y.c)(hp:P y.c=true)(h:lp wr B v (ys++[y])):yR B L P (k+1) v wr:=by refine⟨_,h,?_⟩;rw[Bk hk,List.filter_append,List.map_append,hy,hc,List.filter_cons_of_pos hp];rfl
theorem yR.off{P:Cell->Bool}{c:Cell}(hk:k<L.length)(hy:ys.map bV.c=(L.take k).filter P)(hc:L[k]=c)(hp:P c=false)(h:lp wr B v ys):yR B L P (k+1) v wr:=by refine⟨_,h,?_⟩;rw[Bk hk,List.filter_append,hy,hc,List.filter_cons_of_neg<|by rw[hp];simp];simp
theorem akM(v:Value)(L:List Cell)(aw shard:Nat)(w:World)(h:cC w v L)(oK:aw<=5):
   aR 127 #[v,aw,shard] w fun e w'=>∃v',e=.returned v'/\cC w' v' (C2 L aw shard)/\Below w w w':=by
 obtain⟨xs,a,lu,rfl,rfl,aK,aY,cP,cG,N⟩:=h.parts;have gb:=N.e8;have T:=ad N;have i?:=ad cP;have jm:=ad cG;obtain⟨Q,O⟩:∃Q:Cell->Bool,Q=fun c=>decide (lg c aw=shard):=⟨_,rfl⟩;(have I:Hid (∀c,Q c=decide (lg c aw=shard)):=fun c=>by rw[O]);(have iR:Hid ((xs.map bV.c).filter Q=C2 (xs.map bV.c) aw shard):=by rw[O];rfl);go_enter func127,ntmps127;go_wp2;go_loopw [7,9,12] (fun v _ i wr=>∃k:Nat,i=.int .i64 k/\k<=xs.length/\yR w (xs.map bV.c) Q k v wr/\Below w w wr) (fun v _ i _=>xs.length-(intOf i).toNat);case atStart=>exact⟨0,rfl,fw _,⟨[],lp.nil _ _,rfl⟩,b5 _ _⟩
 case round=>
   obtain⟨k,rfl,hk,⟨ys,E,o⟩,J⟩:=hrel;have K:=ad E;have D:=ad J;have F:=ad o;have s6:=W2 o (by simpa using gb);have JP:=J.size;by_cases cg:k<xs.length
   . obtain⟨b,off,rfl,a!⟩:=i?.out ae;obtain⟨bL,cE,dZ,dP⟩:=uu (fun j u hu=>cB D.out<|a! j u hu) k cg;have Z:=fZ cg;have dp:=ad<|jm.out xs[k] Z;(have X:k<(xs.map bV.c).length:=by simpa using cg);(have U:Hid ((xs.map bV.c)[k]=xs[k].c):=by show _=_;simp);have k9:=T.out.ok xs[k].c<|List.mem_map_of_mem Z;have H:=ad k9;generalize xs[k]=x at*;obtain⟨⟨f,d,l,m⟩,N!,N?⟩:=x;obtain⟨⟨_,_,dT,dC,aO,_⟩,_,p,q,aU,_⟩:=id dp.out;dsimp only at aO aU bL cE dZ dP;subst aO aU;have t:=ad<|D.out.alloc JP<|.cells #[f,.slice dT d.length dC,l,.slice p m.length q] 56;have r:=ad<|aq.new wr 56 #[f,.slice dT d.length dC,l,.slice p m.length q];have S:=ad<|K.out.below<|(b5 wr wr).alloc (bG _)<|.cells #[f,.slice dT d.length dC,l,.slice p m.length q] 56;have Y:=t.out.size;have V:=ad<|Ko _ _ _ _ ((dp.out.below t.out).1.by) H.out.len H.out.py H.out.og;have P:lg ⟨f,d,l,m⟩ aw=e4 (cK f d)%2^aw:=rfl;have M:=ad fun W v (av:fj W v (cK f d))=>amM v _ aw W av oK;generalize e4 (cK f d)%2^aw=sh at*;by_cases bd:sh=shard
     . (have G:Q ⟨f,d,l,m⟩=true:=by rw[I.out];exact hh<|by rw[P];exact bd);have A:=ad G;subst bd
       go_wp2_with(first
         |(go_at_call 34;refine V.out.mono ?_;rintro e dy ⟨v3,rfl,kB,n⟩;obtain⟨yu,yv,rfl⟩:∃a bx,v3=.slice a (d.length+1) bx:=(by obtain⟨_,_,a,bx,e,_⟩:=kB;exact⟨a,bx,by rw[e];rfl⟩);have C:=ad kB;have s:=ad<|t.out.trans<|n.mono Y;have z:=ad<|r.out.below n r.out.lt;have y:=ad<|S.out.below n;have nK:=n.size;have nI:=z.out.lt;obtain⟨eb,fJ,dz,gi⟩:=eO z.out)
         |(go_at_call 176;refine(M.out _ _ C.out.by).mono ?_;rintro e gq ⟨rfl,rfl⟩)
         |(at_builtin;refine wS rfl _ _ 41 rfl w 56 (.agg #[bA,(),bA,.slice none 0 0]) 4 64 underlying41 CW rfl ax _ ys.length _ rfl (y.out.1.alloc _) dy.heap.size [.int .i64 f,.slice dT d.length dC,.int .i64 l,.slice p m.length q] rfl rfl (aq.new dy _ _) (by intro u hu;simp at hu;rcases hu with rfl|rfl|rfl|rfl<;>rfl) s6 (by have:=od dy<|.cells [.int .i64 f,.slice dT d.length dC,.int .i64 l,.slice p m.length q].toArray 56;omega) ?_;rintro g cap cp E R rB;have iI:=ad<|(s.out.alloc ae<|.cells [.int .i64 f,.slice dT d.length dC,.int .i64 l,.slice p m.length q].toArray 56).trans R.bn;have mf:=ad<|lp.snoc (y.out.below<|(b5 _ _).alloc (bG _) _) (dp.out.below<|s.out.alloc ae _) E R))
       go_roundw;(case rel=>exact⟨k+1,by go_num,ae,yR.on X F.out U.out A.out mf.out,iI.out⟩);case measure=>simp[intOf];omega
     . (have G:Q ⟨f,d,l,m⟩=false:=by rw[I.out];exact hg<|by rw[P];exact bd);have A:=ad G;have ajS:¬(sh:Int)=(shard:Int):=ae
       go_wp2_with(first
         |(go_at_call 34;(with_reducible refine V.out.mono ?_);rintro e dy ⟨v3,rfl,kB,n⟩;obtain⟨yu,yv,rfl⟩:∃a bx,v3=.slice a (d.length+1) bx:=(by obtain⟨_,_,a,bx,e,_⟩:=kB;exact⟨a,bx,by rw[e];rfl⟩);have C:=ad kB;have s:=ad<|t.out.trans<|n.mono Y;have z:=ad<|r.out.below n r.out.lt;have y:=ad<|S.out.below n;obtain⟨eb,fJ,dz,gi⟩:=eO z.out)
         |(go_at_call 176;(with_reducible refine(M.out _ _ C.out.by).mono ?_);rintro e gq ⟨rfl,rfl⟩))
       go_roundw;(case rel=>exact⟨k+1,by go_num,ae,yR.off X F.out U.out A.out y.out,s.out⟩);case measure=>simp[intOf];omega
   . obtain rfl:k=xs.length:=ae;have oO:(xs.map bV.c).take xs.length=xs.map bV.c:=qG bI;have o:=F.out;rw[oO]at o;(have dD:Hid (cC wr u7<|C2 (xs.map bV.c) aw shard):=by rw[<-iR.out,<-o];exact K.out.at_<|by rw[o];exact T.out.filter _);go_wp2;exact mD ⟨_,rfl,dD.out,D.out⟩
theorem amE(af:List aA)(az:Value)(c:Cell)(kv av:Value)(now:Int)(w:World)(d:hv w az af)(hk:∃a n c,kv=.slice a n c)(h:b' w av c.held)(m:c.held.length<=64)(eY:0<=c.pol)(eU:c.pol<af.length):
 aR 183 #[az,.agg<|cY c kv av,now] w (dM (kC af c now) w):=by obtain⟨bt,h6,bq,rfl⟩:=hk;obtain⟨ha,hc,rfl⟩:=e? h;obtain⟨b?,lc,rfl⟩:=e? d;obtain⟨p,hp⟩:∃p:Nat,c.pol=(p:Int):=⟨c.pol.toNat,ae⟩;have f:p<af.length:=ae;obtain⟨_,b,off,rfl,gx⟩:=aan d p f;have r:=qF _ _ gx;(have i:af.getD c.pol.toNat default=af[p]:=by rw[hp,Int.toNat_natCast,eh,eG f];rfl);(have g:kC af c now=if af[p].kind=2 then c.held.isEmpty else decide (c.aJ<=now):=by unfold kC;rw[i]);rw[g];obtain⟨q,aM,o,l⟩:=c;subst hp;generalize af[p].kind=j at*;by_cases bd:j=2;{subst bd;go_enter func183,ntmps183;go_wp2;exact cJ (by cases l<;>simp[results,results183,go_sem]<;>omega) rfl ⟨rfl,ck [_] w⟩};rw[aC bd];go_enter func183,ntmps183;go_wp2;exact cJ (by simp[results,results183,go_sem]) rfl ⟨rfl,ck [_] w⟩
theorem PZ(v:Value)(L:List Cell)(af:List aA)(az:Value)(now:Int)(w:World)(h:cC w v L)(K:hv w az af)(dh:∀c∈L,c.pol<af.length):
   aR 136 #[az,v,now] w fun e w'=>∃v',e=.returned v'/\cC w' v' (y? af L now)/\Below w w w':=by
 obtain⟨xs,a,lu,rfl,rfl,aK,aY,cP,cG,O⟩:=h.parts;have gb:=O.e8;(obtain⟨b?,eX,lc,rfl⟩:∃a n bx,az=.slice a n bx:=by obtain⟨_,a,bx,e,_⟩:=K;exact⟨a,_,bx,e⟩);have gP:=ad K;have D:=ad dh;have U:=ad O;have i?:=ad cP;have jm:=ad cG;obtain⟨Q,P⟩:∃Q:Cell->Bool,Q=fun c=>!kC af c now:=⟨_,rfl⟩;(have Bz:Hid (∀c,Q c=!kC af c now):=fun c=>by rw[P]);(have iR:Hid ((xs.map bV.c).filter Q=y? af (xs.map bV.c) now):=by rw[P];rfl);go_enter func136,ntmps136;go_wp2;go_loopw [7,9,12] (fun v _ i wr=>∃k:Nat,i=.int .i64 k/\k<=xs.length/\yR w (xs.map bV.c) Q k v wr/\Below w w wr) (fun v _ i _=>xs.length-(intOf i).toNat);case atStart=>exact⟨0,rfl,fw _,⟨[],lp.nil _ _,rfl⟩,b5 _ _⟩
 case round=>
   obtain⟨k,rfl,hk,⟨ys,F,r⟩,M⟩:=hrel;have N:=ad F;have E:=ad M;have G:=ad r;have s6:=W2 r (by simpa using gb);have JP:=M.size;by_cases cg:k<xs.length
   . obtain⟨b,off,rfl,a!⟩:=i?.out ae;obtain⟨bL,cE,dZ,dP⟩:=uu (fun j u hu=>cB E.out<|a! j u hu) k cg;have I:=fZ cg;have dp:=ad<|jm.out xs[k] I;(have W:k<(xs.map bV.c).length:=by simpa using cg);(have V:Hid ((xs.map bV.c)[k]=xs[k].c):=by show _=_;simp);have k9:=U.out.ok xs[k].c<|List.mem_map_of_mem I;have S:=ad k9;have Z:=ad<|D.out _<|List.mem_map_of_mem I;generalize xs[k]=x at*;obtain⟨⟨d,f,l,m⟩,N!,N?⟩:=x;obtain⟨⟨_,_,dT,dC,aO,_⟩,_,o,p,aU,_⟩:=id dp.out;dsimp only at aO aU bL cE dZ dP;subst aO aU;have s:=ad<|E.out.alloc JP<|.cells #[d,.slice dT f.length dC,l,.slice o m.length p] 56;have t:=ad<|aq.new wr 56 #[d,.slice dT f.length dC,l,.slice o m.length p];have T:=ad<|N.out.below<|(b5 wr wr).alloc (bG _)<|.cells #[d,.slice dT f.length dC,l,.slice o m.length p] 56;have X:=s.out.size;have H:Hid (aR 183 #[.slice b? eX lc,.agg #[d,.slice dT f.length dC,l,.slice o m.length p],now] (wr.alloc<|.cells #[d,.slice dT f.length dC,l,.slice o m.length p] 56) fun e w'=>e=.returned (kC af ⟨d,f,l,m⟩ now)/\Below (wr.alloc<|.cells #[d,.slice dT f.length dC,l,.slice o m.length p] 56) (wr.alloc<|.cells #[d,.slice dT f.length dC,l,.slice o m.length p] 56) w'):=amE af _ ⟨d,f,l,m⟩ _ _ now _ (gP.out.keep<|bm s.out) ⟨_,_,_,rfl⟩ (dp.out.below s.out).2 S.out.e8 S.out.py Z.out;(have C:Hid (∀b,kC af ⟨d,f,l,m⟩ now=b->Q ⟨d,f,l,m⟩=!b):=fun b h=>by rw[Bz.out,h]);generalize hid:kC af ⟨d,f,l,m⟩ now=Y at H;have J:=ad<|C.out Y hid
     cases Y with
     |false=>
       go_wp2_with(first
         |(go_at_call 183;refine H.out.mono ?_;rintro e dy ⟨rfl,q⟩;have y:=ad<|s.out.trans<|q.mono X;have A:=ad<|t.out.below q t.out.lt;have z:=ad<|T.out.below q;have nK:=q.size;have nI:=A.out.lt;obtain⟨eb,fJ,dz,gi⟩:=eO A.out)
         |(at_builtin;refine wS rfl _ _ 41 rfl w 56 (.agg #[bA,(),.int .i64 0,.slice none 0 0]) 4 64 underlying41 CW rfl ax _ ys.length _ rfl (z.out.1.alloc _) dy.heap.size [d,.slice dT f.length dC,l,.slice o m.length p] rfl rfl (aq.new dy _ _) (by intro u hu;simp at hu;rcases hu with rfl|rfl|rfl|rfl<;>rfl) s6 (by have:=od dy<|.cells [.int .i64 d,.slice dT f.length dC,.int .i64 l,.slice o m.length p].toArray 56;omega) ?_;rintro g cap cp F R rB;have iI:=ad<|(y.out.alloc ae<|.cells [.int .i64 d,.slice dT f.length dC,.int .i64 l,.slice o m.length p].toArray 56).trans R.bn;have mf:=ad<|lp.snoc (z.out.below<|(b5 _ _).alloc (bG _) _) (dp.out.below<|y.out.alloc ae _) F R))
       go_roundw;(case rel=>exact⟨k+1,by go_num,ae,yR.on W G.out V.out J.out mf.out,iI.out⟩);case measure=>simp[intOf];omega
     |true=>
       go_wp2_with(first
         |(go_at_call 183;(with_reducible refine H.out.mono ?_);rintro e dy ⟨rfl,q⟩;have y:=ad<|s.out.trans<|q.mono X;have A:=ad<|t.out.below q t.out.lt;have z:=ad<|T.out.below q;obtain⟨eb,fJ,dz,gi⟩:=eO A.out))
       go_roundw;(case rel=>exact⟨k+1,by go_num,ae,yR.off W G.out V.out J.out z.out,y.out⟩);case measure=>simp[intOf];omega
   . obtain rfl:k=xs.length:=ae;have oO:(xs.map bV.c).take xs.length=xs.map bV.c:=qG bI;have r:=G.out;rw[oO]at r;(have dD:Hid (cC wr u7<|y? af (xs.map bV.c) now):=by rw[<-iR.out,<-r];exact N.out.at_<|by rw[r];exact U.out.filter _);go_wp2;exact mD ⟨_,rfl,dD.out,E.out⟩
end
namespace ai
variable (B : Below) (af:List aA)
def iG(c:Cell)(aj:Call)(now b0:Int):c2×Cell:=
 if aj.op=1 then(vw (B.decide (dq af aj) c.aJ now aj.n) now,if(B.decide (dq af aj) c.aJ now aj.n).1=false\/aj.n=0 then c else{c with aJ:=(B.decide (dq af aj) c.aJ now aj.n).2.1})
 else if aj.op=2 then fI B (dq af aj) c b0
 else if aj.op=3 then g' B (dq af aj) c aj.n
 else(k! B (dq af aj) c now,c)
def jy(spare:Int)(r:c2):Int:=if r.a6=0 then spare else r.a6
def runs(spare:Int):Cell->List Rec->Prop
 |_,[]=>True
 |c,e::l=>(iG B af c e.aj e.cn.now<|jy spare e.cn).1=e.cn/\runs spare (iG B af c e.aj e.cn.now<|jy spare e.cn).2 l
end ai
namespace ai
variable {B : Below} {af:List aA} {ag:Nat}
variable{p:aA}{c d S:Cell}{H:Nat->Mem}{spare pol:Int}{key:List Nat}{T:Nat}{G:GS}{E:List Rec}{un:Nat->Bool}
theorem aoH(h:c.held=d.held)(n:Int):(fI B p c n).1=(fI B p d n).1/\(fI B p c n).2.held=(fI B p d n).2.held:=by unfold fI;rw[h];dsimp only;split;{exact⟨rfl,rfl⟩};exact⟨rfl,h⟩
theorem ahp(h:c.held=d.held)(n:Int):(g' B p c n).1=(g' B p d n).1/\(g' B p c n).2.held=(g' B p d n).2.held:=by unfold g';rw[h];dsimp only;split;{exact⟨rfl,rfl⟩};exact⟨rfl,h⟩
structure vt(af:List aA)(H:Nat->Mem)(spare:Int)(pol:Int)(key:List Nat)(T:Nat)(S:Cell):Prop where
 Tg:(af.getD pol.toNat default).kind=1->S.aJ=(cellAt (H T) pol key).aJ\/((cellAt (H T) pol key).aJ=0/\∃te,te<T/\S.aJ<=(H<|te+1).ca/\cellAt (H<|te+1) pol key≠cellAt (H te) pol key)
 perm:(af.getD pol.toNat default).kind=2->S.held=(cellAt (H T) pol key).held
 spare:spare∉S.held
theorem vt.on(h:vt af H spare pol key T S)(e:HQ af H T pol key):vt af H spare pol key (T+1) S:=by by_cases a:cellAt (H<|T+1) pol key=cellAt (H T) pol key;{refine⟨fun hk=>?_,fun hk=>by rw[a];exact h.perm hk,h.spare⟩;have h1:=h.Tg hk;rw[a];refine h1.imp id ?_;rintro⟨f,te,g,b⟩;exact⟨f,te,ae,b⟩};obtain⟨aO,aU⟩:=e.resolve_left a;unfold Nb at aU;refine⟨fun hk=>?_,fun hk=>?_,h.spare⟩;{rw[aC ae]at aU;have aU:=pC aU;have h1:=h.Tg hk;rw[aO];refine .inr ⟨rfl,?_⟩;rcases h1 with f|⟨f,te,g,b⟩;{exact⟨T,ae,ae,a⟩};exact⟨te,ae,b⟩};rw[aN hk]at aU;rw[aO,h.perm hk];exact List.isEmpty_iff.1 aU
theorem vt.rq(h:vt af H spare pol key T S):∀k,(∀t,T<=t->t<T+k->HQ af H t pol key)->vt af H spare pol key (T+k) S
 |0,_=>h
 |k+1,he=>(vt.rq h k fun t h1 a=>he t h1 ae).on<|he (T+k) ae ae
theorem vt.vB(br:vo B af){n:Nat}{aj:Call}{a:Nat}{r:c2}(o:yN af aj)(N:aj.op<=4)(aS:∀p∈af,kL p)(hm:∀i j,i<=j->j<=n->(H i).ca<=(H j).ca)(M:a+1<=n)(aB:spare≠r.a6)(eE:1<=spare/\spare<=4611686018427387903)
   (h:vt af H spare aj.pol aj.key a S)(hp:vq B af H aj (a+1) r):
   (iG B af S aj r.now<|jy spare r).1=r/\vt af H spare aj.pol aj.key (a+1) (iG B af S aj r.now<|jy spare r).2:=by
 obtain⟨_,⟨t0,U,hconst,z,u⟩,k⟩:=hp;rw[Nat.add_sub_cancel]at hconst k;generalize cg:cellAt (H a) aj.pol aj.key=A at*;generalize t:cellAt (H<|a+1) aj.pol aj.key=F at*;(have D:dq af aj∈af:=by obtain⟨p,e,hp⟩:=o.pol N;unfold dq;rw[e,Int.toNat_natCast,eh,eG hp];exact fZ hp);have P:=(aS _ D).imp (fun h=>h.1) fun h=>h.1;have g:(dq af aj).kind=(af.getD aj.pol.toNat default).kind:=rfl;have R:=o.lV;rcases P with hk|hk
 . have h1:=h.Tg (g▸hk);have I:=u.1;rw[cg]at h1;(have K:aj.op≠2:=fun e=>by have:=o.nM<|.inl e;rw[<-g]at this;omega);(have y:aj.op≠3:=fun e=>by have:=o.nM<|.inr e;rw[<-g]at this;omega);(have heq:S.aJ=A.aJ\/(A.aJ=0/\S.aJ<=r.now/\∃te,te<a/\S.aJ<=(H<|te+1).ca/\cellAt (H<|te+1) aj.pol aj.key≠cellAt (H te) aj.pol aj.key):=by refine h1.imp id ?_;rintro⟨b,te,m,v,l⟩;refine⟨b,?_,te,m,v,l⟩;have J:te+1<=t0:=q9 fun cc=>l (by rw[hconst (te+1) ae ae,hconst te ae ae]);have:=hm (te+1) t0 J ae;have:=z hk;omega);(have keep:∀c:Cell,c.aJ=S.aJ->c.held=S.held->F=A->vt af H spare aj.pol aj.key (a+1) c:=fun c hc f w=>by refine⟨fun _=>?_,fun C=>by rw[<-g]at C;omega,by rw[f];exact h.spare⟩;rw[hc,t,w];refine heq.imp id ?_;rintro⟨b,_,te,m,v⟩;exact⟨b,te,ae,v⟩);by_cases ly:aj.op=1
   . obtain⟨d1,d2⟩:=k.ly ly;have hn:=o.n ly;(have aI:(B.decide (dq af aj) S.aJ r.now aj.n).1=(B.decide (dq af aj) A.aJ r.now aj.n).1/\(B.decide (dq af aj) S.aJ r.now aj.n).2.2=(B.decide (dq af aj) A.aJ r.now aj.n).2.2/\((B.decide (dq af aj) S.aJ r.now aj.n).1=true->aj.n≠0->(B.decide (dq af aj) S.aJ r.now aj.n).2.1=(B.decide (dq af aj) A.aJ r.now aj.n).2.1):=by rcases heq with b|⟨b,m,_⟩;{rw[b];exact⟨rfl,rfl,fun _ _=>rfl⟩};rw[b];have:=br.idle _ D hk S.aJ r.now aj.n I m u.2 hn.1 hn.2;exact⟨this.1,this.2.1,this.2.2.1⟩);unfold iG;rw[aN ly];dsimp only;refine⟨?_,?_⟩;·rw[d1];unfold vw;dsimp only;rw[d1]at aI;have aO:=aI.1;have aU:=aI.2.1;unfold vw at aO aU;dsimp only at aO aU;rw[aO,aU]
     . by_cases q:(B.decide (dq af aj) A.aJ r.now aj.n).1=false\/aj.n=0;·rw[aN<|by rw[aI.1];exact q];exact keep S rfl rfl<|by rw[d2,aN q]
       . rw[aC<|by rw[aI.1];exact q];rw[aC q]at d2
         have Q:(B.decide (dq af aj) S.aJ r.now aj.n).1=true:=by
           rw[aI.1]
           cases e:(B.decide (dq af aj) A.aJ r.now aj.n).1 with
           |true=>rfl
           |false=>exact absurd (.inl e) q
         have L:=aI.2.2 Q fun e=>q<|.inr e;refine⟨fun _=>.inl ?_,fun C=>by rw[<-g]at C;omega,h.spare⟩;rw[t,d2];exact L
   . have uV:aj.op=4:=ae;obtain⟨d1,d2⟩:=k.uV uV;unfold iG;rw[aC ly,aC K,aC y];refine⟨?_,keep S rfl rfl d2⟩;dsimp only;rcases heq with b|⟨b,m,_⟩;{(conv=>rhs;rw[d1]);unfold k!;rw[aC ae,aC ae,b]};·have:=br.idle _ D hk S.aJ r.now 0 I m u.2 ax ax;(conv=>rhs;rw[d1]);unfold k!;rw[aC ae,aC ae,b,this.2.2.2.1,this.2.2.2.2]
 . have f:=h.perm<|g▸hk;rw[cg]at f;(have x:aj.op≠1:=fun e=>by have:=o.rI e;rw[<-g]at this;omega);have keep:∀c:Cell,c.held=F.held->spare∉c.held->vt af H spare aj.pol aj.key (a+1) c:=fun c hc s=>⟨fun O=>by rw[<-g]at O;omega,fun _=>by rw[t];exact hc,s⟩;unfold iG;rw[aC x];by_cases lU:aj.op=2;{rw[aN lU];have hc:=fun n=>aoH (B:=B) (p:=dq af aj) f n;rcases k.lU lU with⟨d1,d2,d3⟩|⟨d1,d2,d3⟩;{have es:jy spare r=r.a6:=aC d1;rw[es];have:=hc r.a6;rw[d2]at this;refine⟨this.1,keep _ this.2 fun s=>?_⟩;rcases(br.held (dq af aj) S r.a6).1 _ s with l|l;{exact h.spare l};exact aB l};(have es:jy spare r=spare:=by rw[d1];rfl);rw[es,br.full (dq af aj) S spare (by rw[f];exact d2) eE.1 eE.2 h.spare];exact⟨d1.symm,keep _ (by rw[d3];exact f) h.spare⟩};rw[aC lU];by_cases mL:aj.op=3;{rw[aN mL];have hc:=ahp (B:=B) (p:=dq af aj) f aj.n;rw[k.mL mL]at hc;exact⟨hc.1,keep _ hc.2 fun s=>h.spare<|(br.held (dq af aj) S aj.n).2 _ s⟩};rw[aC mL];obtain⟨d1,d2⟩:=k.uV ae;refine⟨?_,keep S (by rw[d2];exact f) h.spare⟩;(conv=>rhs;rw[d1]);unfold k!;rw[aN hk,aN hk,f]
def G?(e:Rec):List Rec->List Rec
 |[]=>[e]
 |a::l=>if e.at_<a.at_ then e::a::l else a::G? e l
def Kw:List Rec->List Rec
 |[]=>[]
 |a::l=>G? a<|Kw l
theorem St(e:Rec):∀l,(G? e l).Perm (e::l)
 |[]=>List.Perm.refl _
 |a::l=>by unfold G?;split;{exact List.Perm.refl _};exact((St e l).cons a).trans (List.Perm.swap _ _ _)
theorem TP:∀l,(Kw l).Perm l
 |[]=>List.Perm.refl _
 |a::l=>(St a<|Kw l).trans<|(TP l).cons a
theorem ZX(e:Rec):∀l,l.Pairwise (fun a b=>a.at_<b.at_)->(∀a∈l,a.at_≠e.at_)->(G? e l).Pairwise fun a b=>a.at_<b.at_
 |[],_,_=>List.pairwise_singleton _ _
 |a::l,h,bU=>by have f:=List.pairwise_cons.1 h;unfold G?;split;{rename_i cc;refine List.pairwise_cons.2 ⟨fun b al=>?_,h⟩;rcases ik.1 al with rfl|al;{exact cc};have:=f.1 b al;omega};rename_i cc;refine List.pairwise_cons.2 ⟨fun b al=>?_,ZX e l f.2 fun b al=>bU b<|o0 _ al⟩;rcases ik.1 ((St e l).mem_iff.1 al)with rfl|al;{have:=bU a List.mem_cons_self;omega};exact f.1 b al
theorem abr:∀l:List Rec,l.Pairwise (fun a b=>a.at_≠b.at_)->(Kw l).Pairwise fun a b=>a.at_<b.at_
 |[],_=>List.Pairwise.nil
 |a::l,h=>by have e:=List.pairwise_cons.1 h;exact ZX a _ (abr l e.2) fun b al=>(e.1 b<|(TP l).mem_iff.1 al).symm
def sn(pol:Int)(key:List Nat)(e:Rec):Bool:=decide (e.aj.op<=4)&&counts e.aj e.cn&&decide (e.aj.pol=pol)&&decide (e.aj.key=key)
theorem J!{e:Rec}:sn pol key e=true<->e.aj.op<=4/\counts e.aj e.cn=true/\e.aj.pol=pol/\e.aj.key=key:=by unfold sn;simp[and_assoc]
theorem aaV(br:vo B af)(T:gD af ag){P:List Int}(h:tZ B af ag G P)(y:um G)(a':∀ak,ak<64->G.s.bz ak=none)(w:0<=pol)(C:pol<32)(eE:1<=spare/\spare<=4611686018427387903)(F:∀e∈G.log,sn pol key e=true->spare≠e.cn.a6):
  ∀(l:List Rec) (t:Nat) (S:Cell),vt af G.kR spare pol key t S->l.Pairwise (fun a b=>a.at_<b.at_)->(∀e∈l,e∈G.log/\sn pol key e=true/\t<e.at_)->(∀e∈G.log,sn pol key e=true->t<e.at_->e∈l)->runs B af spare S l
 |[],_,_,_,_,_,_=>trivial
 |e::l,t,S,aE,o,v,A=>by
  obtain⟨he,hid,R⟩:=v e List.mem_cons_self;obtain⟨z,K,D,q⟩:=J!.1 hid;have m:=List.pairwise_cons.1 o;have N:=y.log e he;obtain⟨a,n⟩:∃a,e.at_=a+1:=⟨e.at_-1,ae⟩;(have j:=aE.rq (a-t) fun u gd yo=>by rcases h.LZ u ae pol key w C with i|⟨f,L,U,O⟩|⟨ak,x,k,r,hw,I,_⟩;{exact i};{exfalso;have hm:=A f L (J!.2 O) ae;rcases ik.1 hm with rfl|hm;{omega};have:=m.1 f hm;omega};rw[a' ak hw]at I;cases I);rw[show t+(a-t)=a by omega]at j;have J:=h.log e he z K;rw[n]at J;rw[<-D,<-q]at j;have aI:=j.vB br (h.c7 e he) z T.good h.mono ae (F e he hid) eE J;refine⟨aI.1,?_⟩;rw[D,q]at aI
  exact aaV br T h y a' w C eE F l (a+1) _ aI.2 m.2 (fun f g=>by
   have i:=v f<|o0 _ g
   exact⟨i.1,i.2.1,by have:=m.1 f g;omega⟩) (fun f g Q M=>by
   rcases ik.1 (A f g Q ae)with rfl|hm
   . omega
   . exact hm)
theorem alC(br:vo B af)(T:gD af ag){P:List Int}(h:tZ B af ag G P)(f:um G)(a':∀ak,ak<64->G.s.bz ak=none)(q:0<=pol)(u:pol<32)(eE:1<=spare/\spare<=4611686018427387903)(v:∀e∈G.log,sn pol key e=true->spare≠e.cn.a6):
 ∃l:List Rec,l.Perm (G.log.filter<|sn pol key)/\l.Pairwise (fun a b=>a.first<=b.ft)/\runs B af spare ⟨pol,key,0,[]⟩ l:=by(have i:∀e∈G.log,sn pol key e=true->1<=e.at_:=fun e he hid=>by obtain⟨t,n,_⟩:=J!.1 hid;exact(h.log e he t n).pos);(have w:(G.log.filter<|sn pol key).Pairwise fun a b=>a.at_≠b.at_:=by rw[List.pairwise_filter];exact List.Pairwise.imp_of_mem (fun{a b} ha al k x y e=>by have:=i a ha x;have:=k e;omega) f.one);have m:=TP<|G.log.filter<|sn pol key;have j:=abr _ w;(have g:∀e,e∈Kw (G.log.filter<|sn pol key)<->e∈G.log/\sn pol key e=true:=fun e=>by rw[m.mem_iff,List.mem_filter]);refine⟨_,m,?_,?_⟩;{refine List.Pairwise.imp_of_mem (fun{a b} ha al k=>?_) j;have h1:=(g a).1 ha;have r:=(g b).1 al;have A:=f.log a h1.1;have z:=f.log b r.1;have:=i a h1.1 h1.2;omega};refine aaV br T h f a' q u eE v _ 0 _ ⟨fun _=>.inl ?_,fun _=>?_,fun o=>by cases o⟩ j (fun e he=>?_) fun e he hid _=>(g e).2 ⟨he,hid⟩;{rw[h.init]};{rw[h.init]};have h1:=(g e).1 he;exact⟨h1.1,h1.2,i e h1.1 h1.2⟩
instance:Inhabited Rec:=⟨⟨0,⟨0,0,[],0⟩,0,0,0,err 0⟩⟩
theorem al6{α β:Type}{f:α->β}{l n:List β}(h:l.Perm n):∀m:List α,n=m.map f->∃dI:List α,dI.Perm m/\dI.map f=l:=by
 induction h with
 |nil=>intro m e;cases m with
  |nil=>exact⟨[],List.Perm.refl _,rfl⟩
  |cons=>cases e
 |cons x _ r=>intro m e;cases m with
  |nil=>cases e
  |cons a m=>
   injection e with aO aU
   obtain⟨dI,h1,k⟩:=r m aU
   exact⟨a::dI,h1.cons a,by rw[List.map_cons,k,aO]⟩
 |swap x y l=>intro m e;cases m with
  |nil=>cases e
  |cons a m=>cases m with
   |nil=>cases e
   |cons b m=>
    injection e with aO aU
    injection aU with aU cr
    exact⟨b::a::m,List.Perm.swap _ _ _,by rw[List.map_cons,List.map_cons,aO,aU,cr]⟩
 |trans _ _ g i=>
  intro m e
  obtain⟨dI,h1,k⟩:=i m e
  obtain⟨j,q,o⟩:=g dI k.symm
  exact⟨j,q.trans h1,o⟩
theorem amq:E=(List.range E.length).map fun i=>E.getD i default:=by apply List.ext_getElem;{simp};intro i h1 a;simp[h1]
def jG(E:List Rec)(i:Nat):Rec:=E.getD i default
def Ord(B:Below)(af:List aA)(E:List Rec)(spare:Int)(un:Nat->Bool)(S:Cell):Prop:=
 ∃is:List Nat,is.Perm ((List.range E.length).filter un)/\(is.Pairwise fun i j=>(jG E i).first<=(jG E j).ft)/\runs B af spare S (is.map<|jG E)
theorem Ord.next(h:Ord B af E spare un S)(he:∀i,i<E.length->(jG E i).first<=(jG E i).ft):
 (∀i,i<E.length->un i=false)\/∃k,k<E.length/\un k=true/\(∀j,j<E.length->un j=true->(jG E k).first<=(jG E j).ft)/\(iG B af S (jG E k).aj (jG E k).cn.now<|jy spare (jG E k).cn).1=(jG E k).cn/\
  Ord B af E spare (fun i=>un i&&decide (i≠k)) (iG B af S (jG E k).aj (jG E k).cn.now<|jy spare (jG E k).cn).2:=by obtain⟨is,hp,hw,aE⟩:=h;(have mem:∀i,i∈is<->i<E.length/\un i=true:=fun i=>by rw[hp.mem_iff,List.mem_filter,List.mem_range]);cases is with|nil=>(refine .inl fun i hi=>?_;cases e:un i with|false=>rfl|true=>exact absurd ((mem i).2 ⟨hi,e⟩) bI)|cons k is=>refine .inr ⟨k,((mem k).1 List.mem_cons_self).1,((mem k).1 List.mem_cons_self).2,fun j a hu=>?_,aE.1,is,?_,(List.pairwise_cons.1 hw).2,aE.2⟩;{rcases ik.1 ((mem j).2 ⟨a,hu⟩)with rfl|h;{exact he _ a};exact(List.pairwise_cons.1 hw).1 j h};have b:(k::is).Nodup:=hp.nodup_iff.2<|List.nodup_range.filter _;have hk:=(List.nodup_cons.1 b).1;have h1:=hp.filter fun i=>decide<|i≠k;rw[List.filter_filter,List.filter_cons_of_neg bI,List.filter_eq_self.2 fun i hi=>by simp;rintro rfl;exact hk hi]at h1;(have f:((List.range E.length).filter fun i=>decide (i≠k)&&un i)=(List.range E.length).filter fun i=>un i&&decide (i≠k):=by congr 1;funext i;exact Bool.and_comm _ _);rw[f]at h1;exact h1
theorem Ord.congr{a:Nat->Bool}(h:Ord B af E spare un S)(he:∀i,i<E.length->a i=un i):Ord B af E spare a S:=by obtain⟨is,hp,aE⟩:=h;refine⟨is,?_,aE⟩;rw[show(List.range E.length).filter a=(List.range E.length).filter un from List.filter_congr fun i hi=>he i<|List.mem_range.1 hi];exact hp
def yz(E:List Rec)(un:Nat->Bool):Nat:=((List.range E.length).filter un).length
theorem Z8{k:Nat}(hk:k<E.length)(hu:un k=true):yz E (fun i=>un i&&decide (i≠k))<yz E un:=by unfold yz;(have a:((List.range E.length).filter fun i=>un i&&decide (i≠k))=((List.range E.length).filter un).filter fun i=>decide (i≠k):=by rw[List.filter_filter];congr 1;funext i;exact Bool.and_comm _ _);rw[a];exact List.length_filter_lt_length_iff_exists.2 ⟨k,List.mem_filter.2 ⟨List.mem_range.2 hk,hu⟩,bI⟩
theorem aly(br:vo B af)(T:gD af ag){P:List Int}(h:tZ B af ag G P)(j:um G)(a':∀ak,ak<64->G.s.bz ak=none)(i:0<=pol)(k:pol<32)(eE:1<=spare/\spare<=4611686018427387903)(m:∀e∈G.log,sn pol key e=true->spare≠e.cn.a6):
 Ord B af (G.log.filter<|sn pol key) spare (fun _=>true) ⟨pol,key,0,[]⟩:=by obtain⟨l,h1,b,f⟩:=alC br T h j a' i k eE m;obtain⟨is,g,a⟩:=al6 h1 _ amq;refine⟨is,?_,?_,?_⟩;{rw[List.filter_eq_self.2 fun _ _=>rfl];exact g};{rw[<-a,List.pairwise_map]at b;exact b};rw[<-a]at f;exact f
end ai
open Go.RowKit ai
variable{bl n T tau aJ now:Int}{af:List aA}{ag q ak j k b i B o:Nat}{G:GS}{D:bf}{t t0:TypeId}{w x y w':World}{f g:Nat->Value}{v kv aM av az:Value}{a gJ:Array Value}{xs:List Value}
theorem abU{held:List Int}(h1:(held.length:Int)<bl)(d:1<=n)(e:n<=4611686018427387903)(c:n∉held):iy bl held n=(0,held.take (held.countP (·<n))++([n]++held.drop (held.countP (·<n)))):=by unfold iy;rw[aC ae,aC ae,aC<|by simpa using c,aC ae]
theorem abT{held:List Int}(h1:(held.length:Int)=bl)(d:1<=n)(e:n<=4611686018427387903)(c:n∉held):iy bl held n=(9,[]):=by unfold iy;rw[aC ae,aC ae,aC<|by simpa using c,aN h1]
theorem aaE:∀{l:List Int} {n:Int},l.Pairwise (·<·)->n∉l->l.take (l.countP (·<n))++([n]++l.drop (l.countP (·<n)))=oh l n
 |[],n,_,_=>rfl
 |x::l,n,h,hn=>by have c:=List.pairwise_cons.1 h;have bU:x≠n:=fun e=>hn (by rw[e];exact List.mem_cons_self);unfold oh;by_cases au:x<n;{have:=aaE c.2 (n:=n) fun hm=>hn<|o0 _ hm;rw[aC ae,List.countP_cons_of_pos<|by simpa using au,List.take_succ_cons,List.drop_succ_cons,List.cons_append,this]};(have bd:(x::l).countP (·<n)=0:=by rw[List.countP_eq_zero];intro y hy;rcases ik.1 hy with rfl|hy;{simpa using au};have:=c.1 y hy;simp;omega);rw[aN ae,bd];rfl
theorem WH:∀{l:List Int} {n:Int},l.Pairwise (·<·)->n∈l->l.take (l.countP (·<n))++l.drop (l.countP (·<n)+1)=o? l n
 |[],n,_,hn=>by cases hn
 |x::l,n,h,hn=>by have c:=List.pairwise_cons.1 h;by_cases au:x<n;{have hm:n∈l:=(ik.1 hn).resolve_left ae;have:=WH c.2 hm;rw[List.countP_cons_of_pos<|by simpa using au,List.take_succ_cons,List.drop_succ_cons,List.cons_append,this];unfold o?;rw[List.filter_cons_of_pos<|by simp;omega]};(have e:x=n:=(ik.1 hn).elim (fun e=>e.symm) fun hm=>by have:=c.1 n hm;omega);(have bd:(x::l).countP (·<n)=0:=by rw[List.countP_eq_zero];intro y hy;rcases ik.1 hy with rfl|hy;{simpa using au};have:=c.1 y hy;simp;omega);rw[bd];unfold o?;rw[List.filter_cons_of_neg<|by simp[e],List.filter_eq_self.2 fun y hy=>by have:=c.1 y hy;simp;omega];rfl
theorem Qg(af:List aA):Fk bM af:=by refine⟨fun p c n ok h1 e l d=>?_,fun p c n ok h1=>?_⟩;{have h:=abU h1 e l d;rw[Hw<|by rw[h],h,aaE ok.zI d]};by_cases h:n∈c.held;{(have aS:kP p.bl c.held n=(0,c.held.take (c.held.countP (·<n))++c.held.drop (c.held.countP (·<n)+1)):=by unfold kP;rw[aC ae,aN<|by simpa using h]);rw[aN h,IY<|by rw[aS],aS,WH ok.zI h]};(have aS:kP p.bl c.held n=(11,[]):=by unfold kP;rw[aC ae,aC<|by simpa using h]);rw[aC h,Gf<|by rw[aS];decide,aS]
theorem akA(h:aJ<=now)(c:0<=now):gW T tau aJ now=gW T tau 0 now:=by unfold gW;rw[show max aJ now=now by omega,show max 0 now=now by omega]
theorem ab4(p:1<=T)(l:0<=tau)(h:aJ<=now)(e:0<=now)(hn:¬n<=gW T tau 0 now):rN T tau aJ now n=4611686018427387903:=by unfold rN;rw[aN];rw[show max aJ now=now by omega];unfold gW E2 at hn;rw[show max 0 now=now by omega,aC ae,show tau-(now-now)=tau by omega]at hn;by_cases h1:(4611686018427387903-now)/T<n;{exact .inr h1};refine .inl ?_;refine hg fun hle=>?_;have c:tau/T+1<=n-1:=ae;have m:(tau/T+1)*T<=(n-1)*T:=Int.mul_le_mul_of_nonneg_right c ae;have d:=Int.lt_ediv_add_one_mul_self tau (show 0<T by omega);omega
theorem SJ(aS:∀p∈af,kL p):vo bM af:=by refine⟨fun p c n h1 r u l=>?_,fun p c n h1 r u l=>?_,fun p c n=>⟨fun s aB=>?_,fun s aB=>?_⟩,fun p hp hk aJ now n m h1 r u l=>?_⟩;{have h:=abU h1 r u l;rw[Hw<|by rw[h]];exact⟨rfl,rfl,rfl⟩};{have h:=abT h1 r u l;rw[Dd<|by rw[h];decide,h]};{by_cases h:(iy p.bl c.held n).1=0;{rw[Hw h]at aB;have aB:=aB;rw[(TS h).2.2.2.2]at aB;simp only[List.mem_append,List.mem_singleton]at aB;rcases aB with aB|aB|aB;{exact .inl (List.mem_of_mem_take aB)};{exact .inr aB};exact .inl (List.mem_of_mem_drop aB)};rw[Dd h]at aB;exact .inl aB};{by_cases h:(kP p.bl c.held n).1=0;{rw[IY h]at aB;have aB:=aB;rw[(QA h).2.2]at aB;rcases List.mem_append.1 aB with aB|aB;{exact List.mem_of_mem_take aB};exact List.mem_of_mem_drop aB};rw[Gf h]at aB;exact aB};(have z:1<=p.T/\0<=p.tau:=by rcases aS p hp with h|h;exact⟨h.2.1,h.2.2.2.1⟩;omega);have d:=akA (T:=p.T) (tau:=p.tau) h1 m;(have aI:kO p.T p.tau aJ now n=kO p.T p.tau 0 now n:=by unfold kO;rw[d]);(have A:n<=gW p.T p.tau 0 now->n≠0->ml p.T p.tau aJ now n=ml p.T p.tau 0 now n:=fun aO aU=>by unfold ml;rw[d,aN ⟨aO,ae⟩,aN ⟨aO,ae⟩,show max aJ now=now by omega,show max 0 now=now by omega]);refine⟨aI,?_,fun aO aU=>?_,d,?_⟩;{show(mG p.T p.tau aJ now n,pR p.T p.tau aJ now n)=(mG p.T p.tau 0 now n,pR p.T p.tau 0 now n);(have aO:mG p.T p.tau aJ now n=mG p.T p.tau 0 now n:=by unfold mG;by_cases e:n<=gW p.T p.tau 0 now/\0<n;{rw[A e.1 ae]};unfold ml;rw[d,aC e,aC e,d]);(have aU:pR p.T p.tau aJ now n=pR p.T p.tau 0 now n:=by unfold pR;rw[d];split;{rfl};rename_i e;rw[ab4 z.1 z.2 h1 m e,ab4 z.1 z.2 m m e]);rw[aO,aU]};{have aO:kO p.T p.tau aJ now n=true:=aO;rw[aI]at aO;exact A (pC aO) aU};show gL (aJ-now)=gL (0-now);unfold gL;by_cases C:aJ=now;{by_cases E:now=0;{subst C;rw[E]};rw[aC ae,aN ae,aN ae];omega};rw[aN ae];split;{rfl};rw[aN ae];omega
structure pD(ag q:Nat)(G:GS)(D:bf):Prop where
 ok:pM bP ag G.s q
 inv:∃P,tZ bM bP ag G P
 times:um G
 rel:yO bM bP D G
 e8:G.log.length<=G.bS
 bS:G.bS<=q
 rq:∀j,5<=j->G.s.bz j=none
theorem pD.mono{c:Nat}(h:pD ag q G D)(a':q<=c):pD ag c G D:=⟨h.ok.mono a',h.inv,h.times,h.rel,h.e8,eB h.bS a',h.rq⟩
theorem Ma(ag:Nat)(G:GS)(ak:Nat):(sQ bM bP ag G ak).s=(qC bP ag bM G.s ak).1:=by unfold sQ qC;cases e:G.s.bz ak with|none=>rfl|some v=>rfl
theorem QD(G:GS)(ak:Nat)(c:ai.Call):(vK G ak c).s=q6 G.s ak c:=by unfold vK q6;cases e:G.s.bz ak with|none=>dsimp only|some v=>rfl
theorem abE(ag:Nat)(s:ai.Sys)(h:j≠ak):(qC bP ag bM s ak).1.bz j=s.bz j:=by unfold qC;split;{rfl};exact abD h
theorem pD.step(T:gD bP ag)(h:pD ag q G D)(a':q<4611686018427387900)(hw:ak<5):pD ag (q+1) (sQ bM bP ag G ak) (r4 bM bP ag D ak):=by obtain⟨P,hi⟩:=h.inv;have h1:=h.ok.step yF T (show ak<64 by omega) a';refine⟨by rw[Ma];exact h1,hi.step yF (SJ T.good) T h.times h.ok ae a',h.times.step ae,h.rel.step yF (SJ T.good) (Qg _) T hi h.ok ae a',?_,?_,fun j c=>?_⟩;{cases e:G.s.bz ak with|none=>rw[Gh e];exact h.e8|some v=>obtain⟨x,k⟩:=v;rw[Em e];show List.length (match(b7 bM bP ag k x G.s.m).1 with|.inl _=>G.log|.inr r=>G.log++[_])<=G.bS+1;have:=h.e8;split;{omega};rw[gO];show G.log.length+1<=_;omega};{have:=h.bS;cases e:G.s.bz ak with|none=>rw[Gh e];omega|some v=>obtain⟨x,k⟩:=v;rw[Em e];show G.bS+1<=q+1;omega};rw[Ma,abE ag G.s ae];exact h.rq j c
theorem pD.start(h:pD ag q G D)(hw:ak<5){c:ai.Call}(hc:yN bP c):pD ag q (vK G ak c) (vC D ak c):=by obtain⟨P,hi⟩:=h.inv;refine⟨by rw[QD];exact h.ok.start ae hc,⟨P,hi.start⟩,h.times.start,h.rel.start ae hc fun x k e=>(h.ok.live ak x k ae e).1,?_,?_,fun j d=>?_⟩;{unfold vK;split;{exact h.e8};exact h.e8};{unfold vK;split;{exact h.bS};exact h.bS};rw[QD];unfold q6;split;{show ih G.s.bz ak _ j=none;rw[nk _ _ ae];exact h.rq j d};exact h.rq j d
theorem pD.tick(h:pD ag q G D){t:Int}(c:G.s.m.ca<=t)(h1:t<=4611686018427387903):pD ag q (IZ G t) (F_ D t):=by obtain⟨P,hi⟩:=h.inv;have hc:=h.ok.inv.o';exact⟨h.ok.tick ae h1,⟨P,hi.tick c⟩,h.times.tick t,h.rel.tick t,h.e8,h.bS,h.rq⟩
def r9(ag:Nat)(G:GS)(p:o6):GS:=if p.kind=0 then sQ bM bP ag G p.ak.toNat else if p.kind=1 then vK G p.ak.toNat p.c else IZ G (gL<|G.s.m.ca+p.N)
def r5(ag:Nat)(D:bf)(p:o6):bf:=if p.kind=0 then r4 bM bP ag D p.ak.toNat else if p.kind=1 then vC D p.ak.toNat p.c else F_ D (gL<|D.now+p.N)
theorem ahs(ag:Nat)(G:GS)(p:o6):(r9 ag G p).s=zE bP ag G.s p:=by unfold r9 zE;split;{exact Ma ag G _};split;{exact QD G _ _};rfl
theorem pD.Kf(T:gD bP ag)(h:pD ag q G D)(a':q<4611686018427387900){p:o6}(hp:D6 bP p)(hw:p.ak.toNat<5):pD ag (q+1) (r9 ag G p) (r5 ag D p):=by unfold r9 r5;split;{exact h.step T a' hw};split;{exact(h.start hw (hp.aj<|by assumption).Sp).mono ae};have hc:=h.ok.inv.o';have d:=hp.D5;have c:=LH<|G.s.m.ca+p.N;rw[h.rel.kD.now];refine(h.tick ?_ c.2).mono ae;unfold gL;split<;>omega
def HR(ak k:Nat)(G:GS):Prop:=k<=501/\((G.s.bz ak).isSome=true->∃x c,G.s.bz ak=some (x,c)/\cost G.s.m c+k<=500)
theorem pD.fin{ag q:Nat}{G:GS}{D:bf}(h:pD ag q G D){ak:Nat}(hw:ak<5):HR ak 0 G:=by refine⟨ax,fun e=>?_⟩;obtain⟨⟨x,c⟩,e⟩:=Option.isSome_iff_exists.1 e;exact⟨x,c,e,afY (h.ok.live ak x c ae e).2⟩
theorem pD.Qu(T:gD bP ag)(h:pD ag q G D)(a':q<4611686018427387900)(hw:ak<5)(u:HR ak k G)(hp:(G.s.bz ak).isSome=true):HR ak (k+1) (sQ bM bP ag G ak)/\k<=500:=by obtain⟨x,c,e,hc⟩:=u.2 hp;refine⟨⟨ae,fun aU=>?_⟩,ae⟩;have hi:=h.ok.inv;rw[Fe G.s.bz<|show ak<64 by omega,e]at hi;have l:=h.ok.live ak x c ae e;have d:=an1 (B:=bM) hi l.1 l.2;rw[Em e]at aU⊢;have aU:=aU;generalize b7 bM bP ag c x G.s.m=o at*;obtain⟨ly,p,m1⟩:=o;cases ly with|inl k1=>refine⟨p,k1,abC rfl,?_⟩;have d:cost m1 k1<cost G.s.m c:=d;show cost m1 k1+_<=_;omega|inr r=>have cr:(tc ak G.s (.inr r,p,m1)).1.bz ak=none:=q5 _ _ _;rw[cr]at aU;cases aU
theorem ahy(ag:Nat)(G:GS)(h:j≠ak):(sQ bM bP ag G ak).s.bz j=G.s.bz j:=by rw[Ma];exact abE ag G.s h
def L!:GS:=⟨⟨m0,fun _=>none⟩,0,fun _=>0,fun _=>0,[],fun _=>m0⟩
def ze:bf:=⟨(List.replicate 32 0).set 1 1,List.replicate 32 [],0,0,0,0,[],fun _=>rl,fun _=>0⟩
theorem aex(ag:Nat):pD ag 1 L! ze:=by(have m:∀pol key,cellAt m0 pol key=⟨pol,key,0,[]⟩:=fun pol key=>by(have l:mX m0 (e4<|cK pol key)=[]:=by unfold mX;split;{rw[A_];rfl};rw[A_]);unfold ai.cellAt;rw[l];rfl);refine⟨aoB _ _,⟨[],⟨⟨0,rfl⟩,fun i j _ _=>Int.le_refl _,fun t _=>Int.le_refl _,fun ak x k _ e=>(by cases e),fun c hc=>?_,fun s aB=>(by cases aB),fun ak x k _ e=>(by cases e),fun i j qa rH ij h5 _ _ _ e=>(by cases e),fun e he=>(by cases he),fun e he=>(by cases he),m,fun t d=>absurd d<|Nat.not_lt_zero _⟩⟩,⟨fun e he=>(by cases he),List.Pairwise.nil,fun ak x k _ e=>(by cases e),fun ak x k _ e=>(by cases e),fun i j qa rH ij h5 _ _ _ e=>(by cases e)⟩,⟨⟨rfl,rfl,fun i hi=>?_,fun i _ hi=>?_,rfl,rfl,rfl⟩,rfl,rfl,fun ak _ _=>rfl,fun ak x k _ e=>(by cases e)⟩,bG _,ax,fun _ _=>rfl⟩;{have hc:Has m0 c:=hc;unfold Has mX at hc;split at hc;{rw[A_]at hc;cases hc};rw[A_]at hc;cases hc};{have h:∀i,i<32->wd ze.aZ i=m0.ah i:=ax;exact h i hi};show(List.replicate 32 ([]:List Cell)).getD i []=m0.b4 i;rw[A_,eh,List.getElem?_replicate];split<;>rfl
def j9(w:World)(b:Nat)(f:Nat->Value):Prop:=∃arr:Array Value,aq w b 64 arr/\arr.size=2311/\∀i,i<2311->arr[i]?=some (f i)
theorem j9.cell(h:j9 w b f)(hi:i<2311)(e:f i=v):w.cell? ⟨b,i,none⟩=some v:=by obtain⟨arr,h1,d,c⟩:=h;rw[h1.cell,c i hi,e]
theorem j9.free(h:j9 w b f)(i:Nat):w.frozen? ⟨b,i,none⟩=false:=by obtain⟨arr,h1,_⟩:=h;exact h1.free i
theorem j9.lt(h:j9 w b f):b<w:=by obtain⟨arr,h1,_⟩:=h;exact h1.lt
theorem j9.set(h:j9 w b f)(hi:i<2311)(u:Value):j9 (w.setCell ⟨b,i,none⟩ u) b (cQ f i u):=by obtain⟨arr,h1,c,l⟩:=h;refine⟨_,h1.setCell i u,by simp[c],fun j d=>?_⟩;rw[Array.getElem?_setIfInBounds];unfold cQ;by_cases e:j=i;{rw[aN e.symm,aN<|by rw[c];exact hi,aN e]};rw[aC fun h=>e h.symm,aC e];exact l j d
theorem j9.congr(h:j9 w b f)(e:∀i,i<2311->g i=f i):j9 w b g:=by obtain⟨arr,h1,c,d⟩:=h;exact⟨arr,h1,c,fun i hi=>by rw[d i hi,e i hi]⟩
structure eN(b:Nat)(w w':World):Prop where
 os:w'.os=w.os
 tape:w'.tape=w.tape
 output:w'.output=w.output
 size:w.heap.size<=w'.heap.size
 block:∀k,k≠b->k<w.heap.size->w'.heap[k]?=w.heap[k]?
theorem eN.refl(b:Nat)(w:World):eN b w w:=⟨rfl,rfl,rfl,bG _,fun _ _ _=>rfl⟩
theorem eN.trans{z:World}(h:eN b x y)(k:eN b y z):eN b x z:=
 ⟨k.os.trans h.os,k.tape.trans h.tape,k.output.trans h.output,eB h.size k.size,fun i hi c=>(k.block i hi<|nX c h.size).trans<|h.block i hi c⟩
theorem eN.set(h:eN b w w')(i:Nat)(u:Value):eN b w (w'.setCell ⟨b,i,none⟩ u):=
 ⟨h.os,h.tape,h.output,by simpa[World.setCell]using h.size,fun k hk c=>(Below.heap_setCell w' ⟨b,i,none⟩ u k hk).trans<|h.block k hk c⟩
theorem eN.below(h:eN b w x)(k:Below x x y):eN b w y:=
 h.trans ⟨k.os,k.tape,k.output,k.size,fun i _ c=>k.block i c⟩
theorem eN.drew(h:eN b w x):eN b w x.drew:=⟨h.os,h.tape,h.output,h.size,h.block⟩
theorem eN.hU(h:eN b w w')(al:aq w k t a)(hk:k≠b):aq w' k t a:=(h.block k hk al.lt).trans al
theorem j9.ne(h:j9 w b f)(al:aq w k t a)(c:t≠64):k≠b:=by obtain⟨arr,h1,_⟩:=h;exact al.ne h1 c
def pF(t:TypeId):Prop:=5≠t/\2≠t/\56≠t/\78≠t/\66≠t
theorem eN.row(h:eN b w w')(u:aq w b t0 gJ){size n:Nat}(aE:Row w t size n v xs)(m:t≠t0):Row w' t size n v xs:=by obtain⟨h1,a,c,r,s,e,l⟩:=aE;refine⟨h1,a,c,r,s,e,fun hn=>?_⟩;obtain⟨q,off,arr,p,d,z⟩:=l hn;exact⟨q,off,arr,p,h.hU d<|d.ne u m,z⟩
theorem eN.own(h:eN b w w')(l:aq w b t0 gJ){bs:Nat}{e:TypeId}{size n:Nat}(aE:w.ownsRow bs e size v n xs)(c:e≠t0):w'.ownsRow bs e size v n xs:=by obtain⟨h1,d⟩:=aE;refine⟨h1,d.imp id ?_⟩;rintro⟨g,cap,cur,rfl,g1,g2,g3,g4,g5,g6⟩;exact⟨g,cap,cur,rfl,g1,h.hU g2<|aq.ne g2 l c,g3,g4,g5,g6⟩
theorem eN.key(h:eN b w w')(d:aq w b t0 gJ)(c:pF t0){L:List Nat}(k:cb w v L):cb w' v L:=⟨k.1,h.row d k.2 c.1⟩
theorem eN.held(h:eN b w w')(d:aq w b t0 gJ)(c:pF t0){L:List Int}(k:b' w v L):b' w' v L:=h.row d k c.2.1
theorem eN.cells(h:eN b w w')(d:aq w b t0 gJ)(c:pF t0){L:List Cell}(k:cC w v L):cC w' v L:=by obtain⟨xs,h1,m,e,l⟩:=k;exact⟨xs,h1,h.row d m c.2.2.1,fun x au=>⟨h.key d c (e x au).1,h.held d c (e x au).2⟩,l⟩
theorem eN.yE(h:eN b w w')(d:aq w b t0 gJ)(c:pF t0){L:List aA}(k:hv w v L):hv w' v L:=h.row d k c.2.2.2.1
theorem j9.below(h:j9 w b f)(k:Below w w w'):j9 w' b f:=by obtain⟨arr,h1,c⟩:=h;exact⟨arr,h1.below k h1.lt,c⟩
theorem j9.drew(h:j9 w b f):j9 w.drew b f:=h
def vy(x:bC)(kv aM av az:Value):List Value:=
 [.int .u8 (x.aj.op:Nat),.int .i64 x.aj.pol,kv,.int .i64 x.aj.n,.int .i64 (x.ch:Nat),.int .u64 (x.sum:Nat),
  .int .i64 (x.bk.pl:Nat),.int .i64 (x.bk.aw:Nat),.int .i64 (x.bk.shard:Nat),.bool x.bk.upper,.int .u64 (x.bk.v:Nat),.int .i64 (x.bk.ah:Nat),
  .bool x.there,.int .i64 x.cell.pol,aM,.int .i64 x.cell.aJ,av,.bool x.gn,.int .i64 x.a6,.int .i64 x.n,.int .i64 x.now,
  .int .i64 x.cn.e,.bool x.cn.granted,.int .i64 x.cn.left,.int .i64 x.cn.wait,.int .i64 x.cn.a6,.int .i64 x.cn.now,
  .int .i64 x.back,.int .i64 x.cd,.int .i64 (x.j:Nat),.int .i64 (x.p5:Nat),.int .i64 x.idle,az,.int .i64 (x.done:Nat)]
structure mU(w:World)(f:Nat->Value)(o:Nat)(x:bC)(kv aM av az:Value):Prop where
 u!:∀j,j<34->f (o+j)=(vy x kv aM av az).getD j default
 key:cb w kv x.aj.key
 er:cb w aM x.cell.key
 held:b' w av x.cell.held
 af:cC w az x.af
structure bT where
 r:Rec
 kv:Value
deriving Inhabited
def bT.enc(y:bT):List Value:=
 [y.r.ak,.int .u8 (y.r.aj.op:Nat),y.r.aj.pol,y.kv,y.r.aj.n,y.r.first,y.r.at_,y.r.ft,
  y.r.cn.e,y.r.cn.granted,y.r.cn.left,y.r.cn.wait,y.r.cn.a6,y.r.cn.now]
def s?(ys:List bT):List Value:=ys.flatMap bT.enc
def BR(w:World)(B:Nat)(v:Value)(L:List Rec):Prop:=∃ys:List bT,w.ownsRow B 66 14 v ys.length (s? ys)/\ys.map bT.r=L/\∀y∈ys,cb w y.kv y.r.aj.key
structure vi(w:World)(B:Nat)(af:List aA)(ag:Nat)(f:Nat->Value)(D:bf):Prop where
 af:hv w (f 0) af
 ag:f 1=.int .i64 (ag:Nat)
 aZ:∀i,i<32->f (2+i)=.int .u64 (wd D.aZ i:Nat)
 dm:D.aZ.length=32
 a_:∀i,i<32->cC w (f<|34+i) (D.a_.getD i [])
 e2:D.a_.length=32
 count:f 66=.int .i64 D.count
 a6:f 67=.int .i64 D.a6
 now:f 68=.int .i64 D.now
 bS:f 69=.int .i64 (D.bS:Nat)
 log:BR w B (f 70) D.log
 cF:∀ak,ak<64->f (2247+ak)=.int .i64 (D.cF ak:Nat)
structure DA(w:World)(B:Nat)(af:List aA)(ag:Nat)(f:Nat->Value)(D:bf):Prop where
 head:vi w B af ag f D
 c7:∀ak,ak<64->∃kv aM av az,mU w f (71+34*ak) (D.c7 ak) kv aM av az
def mb(w:World)(B b:Nat)(af:List aA)(ag:Nat)(D:bf):Prop:=B<=b/\∃f,j9 w b f/\DA w B af ag f D
theorem BR.b1{L:List Rec}(k:BR w B v L)(h:eN b w w')(d:aq w b t0 gJ)(c:pF t0):BR w' B v L:=by obtain⟨ys,h1,e,l⟩:=k;exact⟨ys,h.own d h1 c.2.2.2.2,e,fun y hy=>h.key d c<|l y hy⟩
theorem mU.b1{x:bC}(k:mU w f o x kv aM av az)(h:eN b w w')(d:aq w b t0 gJ)(c:pF t0):mU w' f o x kv aM av az:=
 ⟨k.u!,h.key d c k.key,h.key d c k.er,h.held d c k.held,h.cells d c k.af⟩
theorem vi.b1(k:vi w B af ag f D)(h:eN b w w')(d:aq w b t0 gJ)(c:pF t0):vi w' B af ag f D:=
 ⟨h.yE d c k.af,k.ag,k.aZ,k.dm,fun i hi=>h.cells d c<|k.a_ i hi,k.e2,k.count,k.a6,k.now,k.bS,k.log.b1 h d c,k.cF⟩
theorem DA.b1(k:DA w B af ag f D)(h:eN b w w')(d:aq w b t0 gJ)(c:pF t0):DA w' B af ag f D:=
 ⟨k.head.b1 h d c,fun ak hw=>by obtain⟨kv,aM,av,az,hc⟩:=k.c7 ak hw;exact⟨kv,aM,av,az,hc.b1 h d c⟩⟩
theorem sO:pF 64:=by unfold pF;decide
theorem mU.same{x:bC}(k:mU w f o x kv aM av az)(e:∀j,j<34->g (o+j)=f (o+j)):mU w g o x kv aM av az:=
 ⟨fun j c=>(e j c).trans<|k.u! j c,k.key,k.er,k.held,k.af⟩
theorem vi.same(k:vi w B af ag f D)(e:∀i,(i<71\/2247<=i)->g i=f i):vi w B af ag g D:=
 ⟨by rw[e 0 ae];exact k.af,by rw[e 1 ae];exact k.ag,fun i hi=>by rw[e _ ae];exact k.aZ i hi,k.dm,fun i hi=>by rw[e _ ae];exact k.a_ i hi,k.e2,by rw[e 66 ae];exact k.count,by rw[e 67 ae];exact k.a6,by rw[e 68 ae];exact k.now,by rw[e 69 ae];exact k.bS,by rw[e 70 ae];exact k.log,fun ak hw=>by rw[e _ ae];exact k.cF ak hw⟩
def amg(D:bf)(ak:Nat)(x:bC):bf:={D with c7:=cQ D.c7 ak x}
