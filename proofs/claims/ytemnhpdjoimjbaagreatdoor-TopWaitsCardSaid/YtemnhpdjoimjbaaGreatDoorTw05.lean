import Derived.Test.YtemnhpdjoimjbaaGreatDoorTw04
section
namespace Go.Proofs.YtemnhpdjoimjbaaGreatDoor.Top
set_option linter.unusedVariables false
theorem cmp_self : ∀a:List Nat,cmpB a a=0
 |[]=>rfl
 |a::as=>by unfold cmpB;rw[if_neg (by omega),if_neg (by omega)];exact cmp_self as
theorem cmp_eq : ∀ {a b:List Nat},cmpB a b=0→a=b
 |[],[],_=>rfl
 |[],_::_,h=>by simp [cmpB]at h
 |_::_,[],h=>by simp [cmpB]at h
 |a::as,b::bs,h=>by
   unfold cmpB at h
   split at h
   · simp at h
   split at h
   · simp at h
   rw[cmp_eq h,show a=b by omega]
theorem cmp_anti : ∀a b:List Nat,cmpB a b= -cmpB b a
 |[],[]=>rfl
 |[],_::_=>rfl
 |_::_,[]=>rfl
 |a::as,b::bs=>by
   unfold cmpB
   by_cases h:a<b
   · rw[if_pos h,if_neg (by omega),if_pos h]
   · by_cases h':b<a
     · rw[if_neg h,if_pos h',if_pos h'];rfl
     · rw[if_neg h,if_neg h',if_neg h',if_neg h];exact cmp_anti as bs
theorem cmp_three : ∀a b:List Nat,cmpB a b= -1∨cmpB a b=0∨cmpB a b=1
 |[],[]=>by simp [cmpB]
 |[],_::_=>by simp [cmpB]
 |_::_,[]=>by simp [cmpB]
 |a::as,b::bs=>by
   unfold cmpB
   split
   · exact .inl rfl
   split
   · exact .inr (.inr rfl)
   · exact cmp_three as bs
theorem cmp_trans : ∀ {a b c:List Nat},cmpB a b<0→cmpB b c<0→cmpB a c<0
 |[],[],c,h,_=>by simp [cmpB]at h
 |[],_::_,[],_,h=>by simp [cmpB]at h
 |[],_::_,_::_,_,_=>by simp [cmpB]
 |_::_,[],_,h,_=>by simp [cmpB]at h
 |_::_,_::_,[],_,h=>by simp [cmpB]at h
 |a::as,b::bs,c::cs,h,h'=>by
   unfold cmpB at h h' ⊢
   split at h
   · split at h'
     · rw[if_pos (by omega)];decide
     · split at h'
       · simp at h'
       · rw[if_pos (by omega)];decide
   · split at h
     · simp at h
     · split at h'
       · rw[if_pos (by omega)];decide
       · split at h'
         · simp at h'
         · rw[if_neg (by omega),if_neg (by omega)];exact cmp_trans h h'
theorem ident_eq {p q:Int} {k l:List Nat} (hp0:0≤p) (hp:p<32) (hq0:0≤q) (hq:q<32) (h:ident p k=ident q l):p=q∧k=l:=by
 unfold ident at h
 injection h with h1 h2
 refine⟨?_,h2⟩
 omega
def cid (c:Cell):List Nat:=ident c.pol c.key
theorem find_lt : ∀(L:List Cell) (id:List Nat) (c:Cell),c∈L.take (L.takeWhile fun c=>cmpB (cid c) id<0).length→cmpB (cid c) id<0
 |[],id,c,hc=>by simp at hc
 |a::L,id,c,hc=>by
   by_cases ha:cmpB (cid a) id<0
   · simp only[List.takeWhile_cons,ha,decide_true,if_true,List.length_cons,List.take_succ_cons]at hc
     rcases List.mem_cons.1 hc with rfl|hc
     · exact ha
     · exact find_lt L id c hc
   · simp only[List.takeWhile_cons,ha,decide_false,Bool.false_eq_true,if_false,List.length_nil,List.take_zero]at hc
     simp at hc
theorem find_ge (L:List Cell) (id:List Nat) (h:L.Pairwise identLt) (c:Cell) (hc:c∈L.drop (L.takeWhile fun c=>cmpB (cid c) id<0).length): ¬cmpB (cid c) id<0:=by
 induction L with
 |nil=>simp at hc
 |cons a L ih=>
   rw[List.pairwise_cons]at h
   by_cases ha:cmpB (cid a) id<0
   · simp only[List.takeWhile_cons,ha,decide_true,if_true,List.length_cons,List.drop_succ_cons]at hc
     exact ih h.2 hc
   · simp only[List.takeWhile_cons,ha,decide_false]at hc
     simp only[Bool.false_eq_true,if_false,List.length_nil,List.drop_zero]at hc
     rcases List.mem_cons.1 hc with rfl|hc
     · exact ha
     · intro hlt
       exact ha (cmp_trans (h.1 c hc) hlt)
theorem findAt_eq (L:List Cell) (pol:Int) (key:List Nat):findAt L pol key=(L.takeWhile fun c=>cmpB (cid c) (ident pol key)<0).length:=rfl
theorem findAt_le (L:List Cell) (pol:Int) (key:List Nat):findAt L pol key≤L.length:=by
 rw[findAt_eq]
 exact(List.takeWhile_prefix _).length_le
theorem there_get {L:List Cell} {pol:Int} {key:List Nat} (h:findThere L pol key=true): ∃c,L[findAt L pol key]? =some c∧cid c=ident pol key∧findCell L pol key=c∧c∈L:=by
 unfold findThere at h
 split at h
 · rename_i c hc
   have hmem:c∈L:=List.mem_of_getElem? hc
   refine⟨c,hc,cmp_eq (a:=ident c.pol c.key) (by simpa using h),?_,hmem⟩
   unfold findCell
   rw[if_pos (by unfold findThere;rw[hc];exact h),List.getD_eq_getElem?_getD,hc]
   rfl
 · cases h
theorem not_there {L:List Cell} (hw:WfL L) {pol:Int} {key:List Nat} (h:findThere L pol key=false):findCell L pol key=⟨pol,key,0,[]⟩∧ ∀c∈L,cid c≠ident pol key:=by
 refine⟨by unfold findCell;rw[h];rfl,fun c hc e=> ?_⟩
 rw[← List.take_append_drop (findAt L pol key) L,List.mem_append]at hc
 rcases hc with hc|hc
 · have:=find_lt L (ident pol key) c hc
   rw[e,cmp_self]at this
   omega
 · cases hd:L.drop (findAt L pol key)with
   |nil=>rw[hd]at hc;cases hc
   |cons a T=>
     rw[hd]at hc
     have hget:L[findAt L pol key]? =some a:=by rw[← List.head?_drop,hd];rfl
     have hna:cmpB (cid a) (ident pol key)≠0:=by
       intro e0
       unfold findThere at h
       rw[hget]at h
       have h':(cmpB (cid a) (ident pol key)==0)=false:=h
       rw[e0]at h'
       simp at h'
     have hga: ¬cmpB (cid a) (ident pol key)<0:=find_ge L (ident pol key) hw.order a (by show a∈L.drop (findAt L pol key);rw[hd];exact List.mem_cons_self ..)
     rcases List.mem_cons.1 hc with rfl|hc
     · rw[e,cmp_self]at hna;exact hna rfl
     · have hp:(a::T).Pairwise identLt:=by rw[← hd];exact List.Pairwise.sublist (List.drop_sublist _ _) hw.order
       have:=(List.pairwise_cons.1 hp).1 c hc
       have hlt:cmpB (cid a) (cid c)<0:=this
       rw[e]at hlt
       exact hga hlt
theorem findCell_id {L:List Cell} (hw:WfL L) {pol:Int} {key:List Nat} (h0:0≤pol) (h1:pol<32):(findCell L pol key).pol=pol∧(findCell L pol key).key=key:=by
 cases ht:findThere L pol key with
 |true=>
   obtain⟨c,_,h2,h3,h4⟩:=there_get ht
   have ok:=hw.ok c h4
   rw[h3]
   exact ident_eq ok.pol0 ok.pol1 h0 h1 h2
 |false=>rw[(not_there hw ht).1];exact⟨rfl,rfl⟩
theorem findCell_ok {L:List Cell} (hw:WfL L) {pol:Int} {key:List Nat} (h0:0≤pol) (h1:pol<32) (hk:key.length≤255) (hb: ∀b∈key,b<256):CellOk (findCell L pol key):=by
 cases ht:findThere L pol key with
 |true=>
   obtain⟨c,_,h2,h3,h4⟩:=there_get ht
   rw[h3]
   exact hw.ok c h4
 |false=>
   rw[(not_there hw ht).1]
   exact⟨h0,h1,hk,hb,Int.le_refl 0,(by decide:(0:Int)≤4611686018427387903),fun n hn=>by simp at hn,List.Pairwise.nil,by simp⟩
theorem withCell_ok {L:List Cell} (hw:WfL L) {c:Cell} (hc:CellOk c) (hfew:L.length<1048576):WfL (withCell L (findAt L c.pol c.key) (findThere L c.pol c.key) c):=by
 cases ht:findThere L c.pol c.key with
 |true=>
   obtain⟨c',hg,h2,h3,h4⟩:=there_get ht
   unfold withCell
   rw[if_pos rfl]
   refine⟨fun d hd=> ?_,?_,by simpa using hw.few⟩
   · rcases List.mem_or_eq_of_mem_set hd with h|h
     · exact hw.ok d h
     · rw[h];exact hc
   · have ho:=hw.order
     rw[List.pairwise_iff_getElem]at ho ⊢
     intro i j hi hj hij
     rw[List.length_set]at hi hj
     have hlt:findAt L c.pol c.key<L.length:=(List.getElem?_eq_some_iff.1 hg).1
     have hgc:L[findAt L c.pol c.key]=c':=(List.getElem?_eq_some_iff.1 hg).2
     have key: ∀k (hk:k<L.length),cid ((L.set (findAt L c.pol c.key) c)[k]'(by simpa using hk))=cid L[k]:=by
       intro k hk
       rw[List.getElem_set]
       split
       · rename_i e
         subst e
         rw[hgc,h2]
         rfl
       · rfl
     have:=ho i j hi hj hij
     unfold identLt at this ⊢
     have e1:=key i hi
     have e2:=key j hj
     unfold cid at e1 e2
     rw[e1,e2]
     exact this
 |false=>
   have hn:=(not_there hw ht).2
   unfold withCell
   rw[if_neg (by simp)]
   refine⟨fun d hd=> ?_,?_,by simp [List.length_take,List.length_drop];have:=findAt_le L c.pol c.key;omega⟩
   · rw[List.append_assoc,List.mem_append,List.mem_append]at hd
     rcases hd with h|h|h
     · exact hw.ok d (List.mem_of_mem_take h)
     · rw[List.mem_singleton.1 h];exact hc
     · exact hw.ok d (List.mem_of_mem_drop h)
   · have ho:=hw.order
     rw[← List.take_append_drop (findAt L c.pol c.key) L,List.pairwise_append]at ho
     rw[List.append_assoc,List.pairwise_append]
     refine⟨ho.1,?_,?_⟩
     · rw[List.singleton_append,List.pairwise_cons]
       refine⟨fun d hd=> ?_,ho.2.1⟩
       have h1:=find_ge L (ident c.pol c.key) hw.order d hd
       have h2:=hn d (List.mem_of_mem_drop hd)
       have h3:cmpB (cid d) (ident c.pol c.key)≠0:=fun e=>h2 (cmp_eq e)
       show cmpB (cid c) (cid d)<0
       have h4:=cmp_anti (cid c) (cid d)
       have h5:=cmp_three (cid d) (cid c)
       have e:ident c.pol c.key=cid c:=rfl
       rw[e]at h1 h3
       omega
     · intro a ha b hb
       rw[List.singleton_append]at hb
       rcases List.mem_cons.1 hb with rfl|hb
       · exact find_lt L (ident _ _) a ha
       · exact ho.2.2 a ha b hb
theorem withCell_length {L:List Cell} {c:Cell}:(withCell L (findAt L c.pol c.key) (findThere L c.pol c.key) c).length=L.length+if findThere L c.pol c.key then 0 else 1:=by
 have:=findAt_le L c.pol c.key
 unfold withCell
 split
 · simp
 · simp [List.length_take,List.length_drop];omega
theorem mem_with {L:List Cell} {c:Cell} (hw:WfL L) (d:Cell):d∈withCell L (findAt L c.pol c.key) (findThere L c.pol c.key) c↔(if cid d=cid c then d=c else d∈L):=by
 cases ht:findThere L c.pol c.key with
 |true=>
   obtain⟨c',hg,h2,h3,h4⟩:=there_get ht
   have hlt:findAt L c.pol c.key<L.length:=(List.getElem?_eq_some_iff.1 hg).1
   have hgc:L[findAt L c.pol c.key]=c':=(List.getElem?_eq_some_iff.1 hg).2
   unfold withCell
   rw[if_pos rfl]
   have uniq: ∀d∈L,cid d=cid c→d=c':=by
     intro d hd e
     obtain⟨i,hi,rfl⟩:=List.getElem_of_mem hd
     rcases Nat.lt_trichotomy i (findAt L c.pol c.key)with h|h|h
     · have:=(List.pairwise_iff_getElem.1 hw.order) i _ hi hlt h
       have:cmpB (cid L[i]) (cid L[findAt L c.pol c.key])<0:=this
       rw[hgc,h2,e]at this
       have e:ident c.pol c.key=cid c:=rfl
       rw[e,cmp_self]at this
       omega
     · subst h;exact hgc
     · have:=(List.pairwise_iff_getElem.1 hw.order) _ i hlt hi h
       have:cmpB (cid L[findAt L c.pol c.key]) (cid L[i])<0:=this
       rw[hgc,h2,e]at this
       have e:ident c.pol c.key=cid c:=rfl
       rw[e,cmp_self]at this
       omega
   constructor
   · intro hd
     rw[List.mem_iff_getElem]at hd
     obtain⟨i,hi,rfl⟩:=hd
     rw[List.getElem_set]
     split
     · rw[if_pos rfl]
     · rename_i hne
       rw[List.length_set]at hi
       have hmem:L[i]∈L:=List.getElem_mem hi
       split
       · rename_i e
         have h5:=uniq _ hmem e
         rcases Nat.lt_trichotomy i (findAt L c.pol c.key)with h|h|h
         · have:=(List.pairwise_iff_getElem.1 hw.order) i _ hi hlt h
           have:cmpB (cid L[i]) (cid L[findAt L c.pol c.key])<0:=this
           rw[hgc,h5,cmp_self]at this
           omega
         · exact absurd h.symm hne
         · have:=(List.pairwise_iff_getElem.1 hw.order) _ i hlt hi h
           have:cmpB (cid L[findAt L c.pol c.key]) (cid L[i])<0:=this
           rw[hgc,h5,cmp_self]at this
           omega
       · exact hmem
   · intro hd
     split at hd
     · subst hd
       exact List.mem_iff_getElem.2 ⟨findAt L d.pol d.key,by simpa using hlt,by simp⟩
     · rename_i hne
       obtain⟨i,hi,rfl⟩:=List.getElem_of_mem hd
       refine List.mem_iff_getElem.2 ⟨i,by simpa using hi,?_⟩
       rw[List.getElem_set_ne]
       intro e
       subst e
       rw[hgc]at hne
       exact hne h2
 |false=>
   have hn:=(not_there hw ht).2
   unfold withCell
   rw[if_neg (by simp),List.append_assoc,List.mem_append,List.singleton_append,List.mem_cons]
   have hmem:d∈L↔d∈L.take (findAt L c.pol c.key)∨d∈L.drop (findAt L c.pol c.key):=by
     rw[← List.mem_append,List.take_append_drop]
   constructor
   · rintro(h|h|h)
     · have: ¬cid d=cid c:=hn d (hmem.2 (.inl h))
       rw[if_neg this]
       exact hmem.2 (.inl h)
     · rw[h,if_pos rfl]
     · have: ¬cid d=cid c:=hn d (hmem.2 (.inr h))
       rw[if_neg this]
       exact hmem.2 (.inr h)
   · intro h
     split at h
     · exact .inr (.inl h)
     · rcases hmem.1 h with h|h
       · exact .inl h
       · exact .inr (.inr h)
end Go.Proofs.YtemnhpdjoimjbaaGreatDoor.Top
end
section
namespace Go.Proofs.YtemnhpdjoimjbaaGreatDoor.Top
set_option linter.unusedVariables false
structure Later (m m':Mem):Prop where
 dir:m.word 0≤m'.word 0
 grow: ∀i,1≤i→i<32→m.word i≤m'.word i
 same: ∀i,1≤i→i<32→m'.word i=m.word i→m'.hold i=m.hold i
 fz: ∀i,1≤i→i<32→FRZ≤m.word i→m'.word i=m.word i
theorem Later.refl (m:Mem):Later m m:=⟨Nat.le_refl _,fun _ _ _=>Nat.le_refl _,fun _ _ _ _=>rfl,fun _ _ _ _=>rfl⟩
theorem Later.touch (m:Mem):Later m m.touch:=⟨Nat.le_refl _,fun _ _ _=>Nat.le_refl _,fun _ _ _ _=>rfl,fun _ _ _ _=>rfl⟩
theorem Later.trans {a b c:Mem} (h:Later a b) (k:Later b c):Later a c:=by
 refine⟨Nat.le_trans h.dir k.dir,fun i h1 h2=>Nat.le_trans (h.grow i h1 h2) (k.grow i h1 h2),fun i h1 h2 e=> ?_,fun i h1 h2 e=> ?_⟩
 · have h3:=h.grow i h1 h2
   have h4:=k.grow i h1 h2
   rw[k.same i h1 h2 (by omega),h.same i h1 h2 (by omega)]
 · have:=h.fz i h1 h2 e
   rw[k.fz i h1 h2 (by omega),this]
theorem Later.put1 {m:Mem} {w v:Nat} {h:List Cell} (hw:m.words.length=34) (hh:m.holds.length=34) (hw2:w<34) (h0:w=0→m.word 0≤v) (h1:1≤w→w<32→m.word w<v∧m.word w<FRZ):Later m (m.put1 w v h):=by
 have hwl:w<m.words.length:=by omega
 have hwh:w<m.holds.length:=by omega
 refine⟨?_,fun i hi hi2=> ?_,fun i hi hi2=> ?_,fun i hi hi2 hf=> ?_⟩
 · rw[put1_word hwl];split
   · rename_i e;exact h0 e.symm
   · exact Nat.le_refl _
 · rw[put1_word hwl];split
   · rename_i e;subst e;exact Nat.le_of_lt (h1 hi hi2).1
   · exact Nat.le_refl _
 · rw[put1_word hwl,put1_hold hwh];split
   · rename_i e;subst e;intro e;have:=(h1 hi hi2).1;omega
   · intro _;rfl
 · rw[put1_word hwl];split
   · rename_i e;subst e;have:=(h1 hi hi2).2;omega
   · rfl
def PolGood (p:Pol):Prop:=(p.kind=1∧1≤p.T∧p.T≤4611686018427387903∧0≤p.tau∧p.tau≤4611686018427387903)∨(p.kind=2∧1≤p.permits∧p.permits≤64)
structure Sound (B:Below):Prop where
 tat: ∀p tat now n,PolGood p→p.kind=1→0≤tat→tat≤4611686018427387903→0≤now→now≤4611686018427387903→0≤n→n≤4611686018427387903→0≤(B.decide p tat now n).2.1∧(B.decide p tat now n).2.1≤4611686018427387903
 take: ∀p c n,PolGood p→p.kind=2→CellOk c→(c.held.length:Int)≤p.permits→CellOk (takeF B p c n).2∧(((takeF B p c n).2.held.length:Nat):Int)≤p.permits
 give: ∀p c n,PolGood p→p.kind=2→CellOk c→(c.held.length:Int)≤p.permits→CellOk (giveF B p c n).2∧(((giveF B p c n).2.held.length:Nat):Int)≤p.permits
 has: ∀p c n,(giveF B p c n).1.e=0→c.held≠[]
 same: ∀p c n,((takeF B p c n).2.pol=c.pol∧(takeF B p c n).2.key=c.key)∧((giveF B p c n).2.pol=c.pol∧(giveF B p c n).2.key=c.key)
section
variable (list : List Pol) (room:Nat)
structure TabOk :Prop where
 few:list.length≤32
 good: ∀p∈list,PolGood p
 room1:1≤room
 room2:room≤4096
structure LiveOk (x:Live):Prop where
 op0:1≤x.call.op
 op1:x.call.op≤6
 pol:x.call.op≤4→ ∃p:Nat,x.call.pol=(p:Int)∧p<list.length
 klen:x.call.op≤4→x.call.key.length≤255
 kb: ∀b∈x.call.key,b<256
 n:x.call.op=1→0≤x.call.n∧x.call.n≤4611686018427387903
 n64: -9223372036854775808≤x.call.n∧x.call.n≤9223372036854775807
 se0:0≤x.serial
 se1:x.serial≤4611686018427387903
 kind1:x.call.op=1→(polOf list x).kind=1
 kind2:x.call.op=2∨x.call.op=3→(polOf list x).kind=2
 sum:x.sum=sumB (ident x.call.pol x.call.key)
 res:x.reserved=true→x.call.op=1∨x.call.op=2
structure CPut (x:Live) (c:Cell):Prop where
 ok:CellOk c
 pol:c.pol=x.call.pol
 key:c.key=x.call.key
 perm:c.pol<list.length∧((list.getD c.pol.toNat default).kind=2→(c.held.length:Int)≤(list.getD c.pol.toNat default).permits)
structure Ver (m:Mem) (w v:Nat) (h:List Cell):Prop where
 v1:1≤v
 v2:v<FRZ
 le:v≤m.word w
 eq:m.word w=v→m.hold w=h
 lies:LiesL list w h
 few:h.length≤room
def TOkP (x:Live) (sum:Nat):Then→Prop
 | .call=>x.call.op≤4∧sum=x.sum
 | .evict j shards gone=>x.call.op=5∧sum=j∧j<shards∧shards≤16∧0≤gone∧gone≤j*1048576
def Done (m:Mem) (level i:Nat):Prop:= ∀i',i'<i→FRZ≤m.word (place level i')∧m.word (place (level+1) i')≠0∧m.word (place (level+1) (i'+2^level))≠0
def FOk (m:Mem) (x:Live) (word:Nat):FThen→Prop
 | .find level sum t=>TOkP x sum t∧level≤3∧word=place level sum∧2*level+1≤m.word 0
 | .move level i=>x.call.op=6∧level≤3∧i<2^level∧word=place level i∧2*level+1≤m.word 0∧Done m level i
def HTOk (m:Mem) (x:Live) (l shard:Nat) (holds:List Cell):HThen→Prop
 | .find sum t=>TOkP x sum t∧shard=sum
 | .one l' i h=>x.call.op=6∧l'=l∧shard=i∧i<2^l∧h=holds∧Done m l i
 | .two l' i=>x.call.op=6∧l'=l∧shard=i+2^l∧i<2^l∧Done m l i∧m.word (place (l+1) i)≠0
def HOkP (m:Mem) (x:Live) (level shard:Nat) (holds:List Cell) (t:HThen):Prop:=
 ∃l,level=l+1∧l≤3∧2*l+1≤m.word 0∧FRZ≤m.word (place l shard)∧m.hold (place l shard)=holds∧HTOk m x l shard holds t
def PutP (m:Mem) (x:Live) (f:Found) (at_:Nat) (there:Bool) (c:Cell):Prop:=
 x.call.op≤4∧Ver list room m f.word f.v f.cells∧(∃level,level≤4∧f.word=place level x.sum)∧at_=findAt f.cells x.call.pol x.call.key∧there=findThere f.cells x.call.pol x.call.key∧CPut list x c
def WOkP (m:Mem) (x:Live) (word by_ stop:Nat):WThen→Prop
 | .back (.done r)=>x.call.op≤4∧word=COUNT∧by_=neg 1∧stop=NEVER∧x.reserved=true
 | .back (.evict j shards gone)=>x.call.op=5∧word=COUNT∧stop=NEVER∧(∃n,1≤n∧n≤1048576∧by_=neg n)∧j<shards∧shards≤16∧0≤gone∧gone≤(j+1)*1048576
 | .room f at_ there c r=>word=COUNT∧by_=1∧stop=room∧(x.call.op=1∨x.call.op=2)∧there=false∧x.reserved=false∧PutP list room m x f at_ there c
 | .serial f at_ there c=>word=SERIAL∧by_=1∧stop=4611686018427387903∧x.call.op=2∧PutP list room m x f at_ there c
def KOk (m:Mem) (x:Live):Kont→Prop
 | .find sum t=>TOkP x sum t
 | .enter sum word t=>TOkP x sum t∧ ∃level,level≤4∧word=place level sum
 | .freeze word t=>FOk m x word t
 | .freezeSwap word v holds t=>FOk m x word t∧Ver list room m word v holds
 | .half level shard holds t=>HOkP m x level shard holds t
 | .halfSwap level shard holds h t=>HOkP m x level shard holds t
 | .split=>x.call.op=6
 | .splitSwap d level=>x.call.op=6∧d=2*level∧level≤3
 | .moveEnd level=>x.call.op=6∧level≤3∧2*level+1≤m.word 0∧Done m level (2^level)
 | .wordLoad word by_ stop t=>WOkP list room m x word by_ stop t
 | .wordSwap word by_ stop v t=>WOkP list room m x word by_ stop t∧v<U64∧v≠stop∧((∀b,t≠ .back b)→v≤stop)
 | .put f at_ there c r=>PutP list room m x f at_ there c∧(there=true∨x.reserved=true)
 | .allow f at_ there c=>x.call.op=1∧PutP list room m x f at_ there c
 | .peek c=>x.call.op=4
 | .evictStart=>x.call.op=5
 | .evictClock j shards gone word v cells=>TOkP x j (.evict j shards gone)∧Ver list room m word v cells∧cells≠[]∧ ∃level,level≤4∧word=place level j
 | .evictSwap j shards gone word v rest n=>TOkP x j (.evict j shards gone)∧(∃level,level≤4∧word=place level j)∧1≤n∧ ∃cells p,Ver list room m word v cells∧rest=cells.filter p∧n=cells.length-rest.length
def claim (x:Live):Kont→Nat
 | .wordLoad _ by_ _ (.back (.evict ..))=>U64-by_
 | .wordSwap _ by_ _ _ (.back (.evict ..))=>U64-by_
 |_=>if x.reserved then 1 else 0
def claimO (o:Out):Nat:=match o.1 with
 | .inl k=>claim o.2.1 k
 | .inr _=>0
structure SInv (m:Mem) (cl:Nat):Prop where
 dir:Dir m
 lies:Lies list m
 cnt:m.word 32=size m+cl
 cnt2:m.word 32≤room
 ser:m.word 33≤4611686018427387903
 clk:0≤m.clock∧m.clock≤4611686018427387903
end
variable {list : List Pol} {room:Nat}
theorem place_bd {level s:Nat} (h:level≤4):1≤place level s∧place level s<32:=by
 have h1:=place_lt level s
 have h2:=two_pos level
 have h3:2^(level+1)≤32:=two_le (show level+1≤5 by omega)
 omega
theorem Ver.later {m m':Mem} {w v:Nat} {h:List Cell} (k:Later m m') (hw1:1≤w) (hw2:w<32) (H:Ver list room m w v h):Ver list room m' w v h:=by
 have h1:=k.grow w hw1 hw2
 refine⟨H.v1,H.v2,Nat.le_trans H.le h1,fun e=> ?_,H.lies,H.few⟩
 have h2:=H.le
 rw[k.same w hw1 hw2 (by omega)]
 exact H.eq (by omega)
theorem Later.nz {m m':Mem} (k:Later m m') {i:Nat} (h1:1≤i) (h2:i<32) (h:m.word i≠0):m'.word i≠0:=by
 have:=k.grow i h1 h2;omega
theorem Later.frz {m m':Mem} (k:Later m m') {i:Nat} (h1:1≤i) (h2:i<32) (h:FRZ≤m.word i):FRZ≤m'.word i∧m'.hold i=m.hold i:=by
 have e:=k.fz i h1 h2 h
 exact⟨by omega,k.same i h1 h2 e⟩
theorem Done.later {m m':Mem} (k:Later m m') {level i:Nat} (hl:level≤3) (h:Done m level i):Done m' level i:=by
 intro i' hi'
 obtain⟨h1,h2,h3⟩:=h i' hi'
 have b1:=place_bd (s:=i') (show level≤4 by omega)
 have b2:=place_bd (s:=i') (show level+1≤4 by omega)
 have b3:=place_bd (s:=i'+2^level) (show level+1≤4 by omega)
 exact⟨(k.frz b1.1 b1.2 h1).1,k.nz b2.1 b2.2 h2,k.nz b3.1 b3.2 h3⟩
theorem FOk.later {m m':Mem} (k:Later m m') {x:Live} {word:Nat} {t:FThen} (h:FOk m x word t):FOk m' x word t:=by
 have:=k.dir
 cases t with
 |find level sum t=>exact⟨h.1,h.2.1,h.2.2.1,by have:=h.2.2.2;omega⟩
 |move level i=>exact⟨h.1,h.2.1,h.2.2.1,h.2.2.2.1,by have:=h.2.2.2.2.1;omega,h.2.2.2.2.2.later k h.2.1⟩
theorem HOkP.later {m m':Mem} (k:Later m m') {x:Live} {level shard:Nat} {holds:List Cell} {t:HThen} (h:HOkP m x level shard holds t):HOkP m' x level shard holds t:=by
 obtain⟨l,h1,h2,h3,h4,h5,h6⟩:=h
 have:=k.dir
 have b1:=place_bd (s:=shard) (show l≤4 by omega)
 have hz:=k.frz b1.1 b1.2 h4
 refine⟨l,h1,h2,by omega,hz.1,by rw[hz.2];exact h5,?_⟩
 cases t with
 |find sum t=>exact h6
 |one l' i h=>obtain⟨a,b,c,d,e,f⟩:=h6;exact⟨a,b,c,d,e,f.later k h2⟩
 |two l' i=>
   obtain⟨a,b,c,d,e,f⟩:=h6
   have b2:=place_bd (s:=i) (show l+1≤4 by omega)
   exact⟨a,b,c,d,e.later k h2,k.nz b2.1 b2.2 f⟩
theorem PutP.later {m m':Mem} (k:Later m m') {x:Live} {f:Found} {at_:Nat} {there:Bool} {c:Cell} (h:PutP list room m x f at_ there c):PutP list room m' x f at_ there c:=by
 obtain⟨h1,h2,⟨l,h3,h4⟩,h5,h6,h7⟩:=h
 have b:=place_bd (s:=x.sum) h3
 exact⟨h1,h2.later k (by rw[h4];exact b.1) (by rw[h4];exact b.2),⟨l,h3,h4⟩,h5,h6,h7⟩
theorem WOkP.later {m m':Mem} (k:Later m m') {x:Live} {word by_ stop:Nat} {t:WThen} (h:WOkP list room m x word by_ stop t):WOkP list room m' x word by_ stop t:=by
 cases t with
 |back t=>cases t<;>exact h
 |room f at_ there c r=>exact⟨h.1,h.2.1,h.2.2.1,h.2.2.2.1,h.2.2.2.2.1,h.2.2.2.2.2.1,h.2.2.2.2.2.2.later k⟩
 |serial f at_ there c=>exact⟨h.1,h.2.1,h.2.2.1,h.2.2.2.1,h.2.2.2.2.later k⟩
theorem KOk.later {m m':Mem} (k:Later m m') {x:Live} {q:Kont} (h:KOk list room m x q):KOk list room m' x q:=by
 have hd:=k.dir
 cases q with
 |find sum t=>exact h
 |enter sum word t=>exact h
 |freeze word t=>exact FOk.later k h
 |freezeSwap word v holds t=>
   refine⟨h.1.later k,?_⟩
   obtain⟨h1,h2⟩:=h
   cases t with
   |find level sum t=>have b:=place_bd (s:=sum) (show level≤4 by have:=h1.2.1;omega);exact h2.later k (by rw[h1.2.2.1];exact b.1) (by rw[h1.2.2.1];exact b.2)
   |move level i=>have b:=place_bd (s:=i) (show level≤4 by have:=h1.2.1;omega);exact h2.later k (by rw[h1.2.2.2.1];exact b.1) (by rw[h1.2.2.2.1];exact b.2)
 |half level shard holds t=>exact HOkP.later k h
 |halfSwap level shard holds h' t=>exact HOkP.later k h
 |split=>exact h
 |splitSwap d level=>exact h
 |moveEnd level=>exact⟨h.1,h.2.1,by have:=h.2.2.1;omega,h.2.2.2.later k h.2.1⟩
 |wordLoad word by_ stop t=>exact WOkP.later k h
 |wordSwap word by_ stop v t=>exact⟨h.1.later k,h.2⟩
 |put f at_ there c r=>exact⟨h.1.later k,h.2⟩
 |allow f at_ there c=>exact⟨h.1,h.2.later k⟩
 |peek c=>exact h
 |evictStart=>exact h
 |evictClock j shards gone word v cells=>
   obtain⟨h1,h2,hne,l,h3,h4⟩:=h
   have b:=place_bd (s:=j) h3
   exact⟨h1,h2.later k (by rw[h4];exact b.1) (by rw[h4];exact b.2),hne,l,h3,h4⟩
 |evictSwap j shards gone word v rest n=>
   obtain⟨h1,⟨l,h3,h4⟩,h5,cells,p,h6,h7⟩:=h
   have b:=place_bd (s:=j) h3
   exact⟨h1,⟨l,h3,h4⟩,h5,cells,p,h6.later k (by rw[h4];exact b.1) (by rw[h4];exact b.2),h7⟩
theorem SInv.touch {m:Mem} {cl:Nat} (h:SInv list room m cl):SInv list room m.touch cl:=⟨h.dir.touch,h.lies.touch,h.cnt,h.cnt2,h.ser,h.clk⟩
theorem put1_far {m:Mem} {cl:Nat} (h:SInv list room m cl) {w v:Nat} {L:List Cell} (hw:w<32):(m.put1 w v L).word 32=m.word 32∧(m.put1 w v L).word 33=m.word 33:=by
 have hwl:w<m.words.length:=by rw[h.dir.nw];omega
 rw[put1_word hwl,put1_word hwl,if_neg (by omega),if_neg (by omega)]
 exact⟨rfl,rfl⟩
theorem SInv.freeze {m:Mem} {cl:Nat} (h:SInv list room m cl) {w:Nat} (hd:m.word 0%2=1) (hw1:2^(m.word 0/2)≤w) (hw2:w<2^(m.word 0/2+1)) (hl:m.live w):SInv list room (m.put1 w (m.word w+FRZ) (m.hold w)) cl:=by
 have h32:=h.dir.size
 have hf:=put1_far h (v:=m.word w+FRZ) (L:=m.hold w) (show w<32 by omega)
 exact⟨h.dir.freeze _ hd hw1 hw2 hl,h.lies.put1 (by rw[h.dir.nh];omega) _ (h.lies.at_ w),by rw[hf.1,size_freeze h.dir h.lies hd hw1 hw2 hl];exact h.cnt,by rw[hf.1];exact h.cnt2,by rw[hf.2];exact h.ser,h.clk⟩
theorem SInv.lay {m:Mem} {cl:Nat} (h:SInv list room m cl) {s:Nat} (hd:m.word 0%2=1) (hp:FRZ≤m.word (place (m.word 0/2) s)) (hz:m.word (place (m.word 0/2+1) s)=0):
   SInv list room (m.put1 (place (m.word 0/2+1) s) 1 (cut (m.hold (place (m.word 0/2) s)) (m.word 0/2+1) (s%2^(m.word 0/2+1)))) cl:=by
 have h3:=h.dir.lvl3 hd
 have b:=place_bd (s:=s) (show m.word 0/2+1≤4 by omega)
 have hb:=place_lt (m.word 0/2+1) s
 have hf:=put1_far h (v:=1) (L:=cut (m.hold (place (m.word 0/2) s)) (m.word 0/2+1) (s%2^(m.word 0/2+1))) b.2
 exact⟨h.dir.lay _ hd hb.1 hb.2 (by rw[par_place];exact hp) hz,h.lies.put1 (by rw[h.dir.nh];omega) _ ((h.lies.at_ _).cut _ _),by rw[hf.1,size_lay h.dir hd hp hz];exact h.cnt,by rw[hf.1];exact h.cnt2,by rw[hf.2];exact h.ser,h.clk⟩
theorem SInv.split {m:Mem} {cl:Nat} (h:SInv list room m cl) (hd:m.word 0%2=0) (h4:m.word 0/2≠4):SInv list room (m.put1 0 (m.word 0+1) []) cl:=by
 have hf:=put1_far h (v:=m.word 0+1) (L:=[]) (show 0<32 by decide)
 exact⟨h.dir.split _ hd h4,h.lies.put1 (by rw[h.dir.nh];omega) _ (LiesL.nil _ _),by rw[hf.1,size_split h.dir _ hd];exact h.cnt,by rw[hf.1];exact h.cnt2,by rw[hf.2];exact h.ser,h.clk⟩
theorem SInv.moved {m:Mem} {cl:Nat} (h:SInv list room m cl) (hd:m.word 0%2=1) (hf: ∀i,2^(m.word 0/2)≤i→i<2^(m.word 0/2+1)→FRZ≤m.word i) (hn: ∀i,2^(m.word 0/2+1)≤i→i<2^(m.word 0/2+2)→m.word i≠0):SInv list room (m.put1 0 (m.word 0+1) []) cl:=by
 have hff:=put1_far h (v:=m.word 0+1) (L:=[]) (show 0<32 by decide)
 exact⟨h.dir.moved _ hd hf hn,h.lies.put1 (by rw[h.dir.nh];omega) _ (LiesL.nil _ _),by rw[hff.1,size_moved h.dir _ hd hf hn];exact h.cnt,by rw[hff.1];exact h.cnt2,by rw[hff.2];exact h.ser,h.clk⟩
theorem SInv.go {m:Mem} {cl cl':Nat} (h:SInv list room m cl) {w v:Nat} {L:List Cell} (hw1:1≤w) (hw2:w<32) (hl:m.live w) (hv1:1≤v) (hv2:v<FRZ) (hv3:(v:Int)≤m.count+1) (hL:LiesL list w L) (hcl:cl+(m.hold w).length=cl'+L.length):SInv list room (m.put1 w v L) cl':=by
 have hf:=put1_far h (v:=v) (L:=L) hw2
 have hs:=size_go h.dir L hw1 hw2 hl hv1 hv2
 have hc:=h.cnt
 exact⟨h.dir.go _ hw1 hw2 hl hv1 hv2 hv3,h.lies.put1 (by rw[h.dir.nh];omega) _ hL,by rw[hf.1];omega,by rw[hf.1];exact h.cnt2,by rw[hf.2];exact h.ser,h.clk⟩
theorem SInv.count {m:Mem} {cl cl' v:Nat} (h:SInv list room m cl) (hv:v=size m+cl') (hr:v≤room):SInv list room (m.put1 32 v []) cl':=by
 have hwl:32<m.words.length:=by rw[h.dir.nw];omega
 have e1:(m.put1 32 v []).word 32=v:=by rw[put1_word hwl,if_pos rfl]
 have e2:(m.put1 32 v []).word 33=m.word 33:=by rw[put1_word hwl,if_neg (by decide)]
 exact⟨h.dir.num _ _ (by decide) (by decide),h.lies.put1 (by rw[h.dir.nh];omega) _ (LiesL.nil _ _),by rw[e1,size_num h.dir _ _ (by decide) (by decide)];exact hv,by rw[e1];exact hr,by rw[e2];exact h.ser,h.clk⟩
theorem SInv.serial {m:Mem} {cl v:Nat} (h:SInv list room m cl) (hv:v≤4611686018427387903):SInv list room (m.put1 33 v []) cl:=by
 have hwl:33<m.words.length:=by rw[h.dir.nw];omega
 have e1:(m.put1 33 v []).word 32=m.word 32:=by rw[put1_word hwl,if_neg (by decide)]
 have e2:(m.put1 33 v []).word 33=v:=by rw[put1_word hwl,if_pos rfl]
 exact⟨h.dir.num _ _ (by decide) (by decide),h.lies.put1 (by rw[h.dir.nh];omega) _ (LiesL.nil _ _),by rw[e1,size_num h.dir _ _ (by decide) (by decide)];exact h.cnt,by rw[e1];exact h.cnt2,by rw[e2];exact hv,h.clk⟩
end Go.Proofs.YtemnhpdjoimjbaaGreatDoor.Top
end
