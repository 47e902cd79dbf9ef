import Derived.Test.YtemnhpdjoimjbaaGreatDoorTw03
namespace Go.Proofs.YtemnhpdjoimjbaaGreatDoor.Top
set_option linter.unusedVariables false
structure Lies (list:List Pol) (m:Mem):Prop where
 wf: ∀i,WfL (m.hold i)
 shard: ∀level s,level≤4→ ∀c∈m.hold (place level s),shardOf c level=s%2^level
 perm: ∀i,∀c∈m.hold i,c.pol<list.length∧((list.getD c.pol.toNat default).kind=2→(c.held.length:Int)≤(list.getD c.pol.toNat default).permits)
structure LiesL (list:List Pol) (w:Nat) (L:List Cell):Prop where
 wf:WfL L
 shard: ∀level s,level≤4→place level s=w→ ∀c∈L,shardOf c level=s%2^level
 perm: ∀c∈L,c.pol<list.length∧((list.getD c.pol.toNat default).kind=2→(c.held.length:Int)≤(list.getD c.pol.toNat default).permits)
theorem Lies.at_ {list:List Pol} {m:Mem} (h:Lies list m) (i:Nat):LiesL list i (m.hold i):=
 ⟨h.wf i,fun level s hl e c hc=>h.shard level s hl c (by rw[e];exact hc),h.perm i⟩
theorem LiesL.nil (list:List Pol) (w:Nat):LiesL list w []:=⟨WfL.nil,fun _ _ _ _ c hc=>by simp at hc,fun c hc=>by simp at hc⟩
theorem LiesL.filter {list:List Pol} {w:Nat} {L:List Cell} (h:LiesL list w L) (p:Cell→Bool):LiesL list w (L.filter p):=
 ⟨h.wf.filter p,fun level s hl e c hc=>h.shard level s hl e c (List.mem_filter.1 hc).1,fun c hc=>h.perm c (List.mem_filter.1 hc).1⟩
theorem Lies.put1 {list:List Pol} {m:Mem} (h:Lies list m) {w:Nat} (hw:w<m.holds.length) (v:Nat) {L:List Cell} (hL:LiesL list w L):Lies list (m.put1 w v L):=by
 refine⟨fun i=> ?_,fun level s hl c hc=> ?_,fun i c hc=> ?_⟩
 · rw[put1_hold hw];split
   · exact hL.wf
   · exact h.wf i
 · rw[put1_hold hw]at hc
   split at hc
   · rename_i e;exact hL.shard level s hl e c hc
   · exact h.shard level s hl c hc
 · rw[put1_hold hw]at hc
   split at hc
   · exact hL.perm c hc
   · exact h.perm i c hc
theorem Lies.touch {list:List Pol} {m:Mem} (h:Lies list m):Lies list m.touch:=⟨h.wf,h.shard,h.perm⟩
theorem place_inj {a b s t:Nat} (h:place a s=place b t):a=b∧s%2^a=t%2^b:=by
 have h1:=place_lt a s
 have h2:=place_lt b t
 have e:=lvl_inj h1.1 h1.2 (by rw[h];exact h2.1) (by rw[h];exact h2.2)
 subst e
 refine⟨rfl,?_⟩
 unfold place at h
 omega
theorem LiesL.cut {list:List Pol} {w:Nat} {L:List Cell} (h:LiesL list w L) (level s:Nat):LiesL list (place level s) (cut L level (s%2^level)):=by
 refine⟨h.wf.filter _,fun l t hl e c hc=> ?_,fun c hc=>h.perm c (List.mem_filter.1 hc).1⟩
 obtain⟨rfl,e2⟩:=place_inj e
 have:=(List.mem_filter.1 hc).2
 rw[e2]
 simpa using this
theorem mem_cut {L:List Cell} {c:Cell} {level:Nat}:c∈cut L level (idSum c%2^level)↔c∈L:=by
 unfold cut
 rw[List.mem_filter]
 exact⟨fun h=>h.1,fun h=>⟨h,by simp [shardOf,idSum]⟩⟩
theorem has_freeze {m:Mem} (H:Dir m) {w:Nat} (hd:m.word 0%2=1) (hw1:2^(m.word 0/2)≤w) (hw2:w<2^(m.word 0/2+1)) (hl:m.live w) (c:Cell):
   Has (m.put1 w (m.word w+FRZ) (m.hold w)) c↔Has m c:=by
 have h32:=H.size
 have h0:=two_pos (m.word 0/2)
 have hwl:w<m.words.length:=by rw[H.nw];omega
 have hwh:w<m.holds.length:=by rw[H.nh];omega
 have e0:=put1_zero H (show 1≤w by omega) (by omega) (m.word w+FRZ) (m.hold w)
 have eh: ∀j,(m.put1 w (m.word w+FRZ) (m.hold w)).hold j=m.hold j:=by
   intro j;rw[put1_hold hwh];split
   · rename_i e;rw[e]
   · rfl
 obtain⟨hl1,hl2⟩:=hl
 unfold Has
 have hp:=place_lt (m.word 0/2) (idSum c)
 have hp2:=place_lt (m.word 0/2+1) (idSum c)
 by_cases e:place (m.word 0/2) (idSum c)=w
 · have c1:curWord m (idSum c)=w:=by
     unfold curWord
     rw[e,if_neg (by rintro⟨_,h⟩;omega)]
   have c2:curWord (m.put1 w (m.word w+FRZ) (m.hold w)) (idSum c)=place (m.word 0/2+1) (idSum c):=by
     unfold curWord
     rw[e0,e,put1_word hwl,if_pos rfl,if_pos ⟨hd,by omega⟩]
   have hz:m.word (place (m.word 0/2+1) (idSum c))=0:=by
     refine Classical.byContradiction fun hne=> ?_
     have h3:=H.lvl3 hd
     have h32:2^(m.word 0/2+1+1)≤32:=two_le (show m.word 0/2+1+1≤5 by omega)
     have:=((H.nxt _ hp2.1 (by omega)).2 hne).2.2
     rw[par_place,e]at this
     omega
   unfold curHold
   rw[c1,c2,e0,if_neg (show ¬m.word w=0 by omega),put1_word hwl,if_neg (show ¬place (m.word 0/2+1) (idSum c)=w by omega),if_pos hz,e,eh]
   exact mem_cut
 · have ec:curWord (m.put1 w (m.word w+FRZ) (m.hold w)) (idSum c)=curWord m (idSum c):=by
     unfold curWord
     rw[e0,put1_word hwl,if_neg e]
   unfold curHold
   rw[ec,e0,eh,eh]
   have:(m.put1 w (m.word w+FRZ) (m.hold w)).word (curWord m (idSum c))=m.word (curWord m (idSum c)):=by
     rw[put1_word hwl,if_neg]
     unfold curWord
     split
     · omega
     · exact e
   rw[this]
theorem has_lay {m:Mem} (H:Dir m) {s:Nat} (hd:m.word 0%2=1) (hp:FRZ≤m.word (place (m.word 0/2) s)) (hz:m.word (place (m.word 0/2+1) s)=0) (c:Cell):
   Has (m.put1 (place (m.word 0/2+1) s) 1 (cut (m.hold (place (m.word 0/2) s)) (m.word 0/2+1) (s%2^(m.word 0/2+1)))) c↔Has m c:=by
 have h3:=H.lvl3 hd
 have h32:2^(m.word 0/2+1+1)≤32:=two_le (show m.word 0/2+1+1≤5 by omega)
 have h0:=two_pos (m.word 0/2)
 have h01:=two_succ (m.word 0/2)
 have hw:=place_lt (m.word 0/2+1) s
 generalize hL:cut (m.hold (place (m.word 0/2) s)) (m.word 0/2+1) (s%2^(m.word 0/2+1))=L
 have hwl:place (m.word 0/2+1) s<m.words.length:=by rw[H.nw];omega
 have hwh:place (m.word 0/2+1) s<m.holds.length:=by rw[H.nh];omega
 have e0:=put1_zero H (show 1≤place (m.word 0/2+1) s by omega) (by omega) 1 L
 have hpl:=place_lt (m.word 0/2) (idSum c)
 unfold Has
 have ec:curWord (m.put1 (place (m.word 0/2+1) s) 1 L) (idSum c)=curWord m (idSum c):=by
   unfold curWord
   rw[e0,put1_word hwl,if_neg (show ¬place (m.word 0/2) (idSum c)=place (m.word 0/2+1) s by omega)]
 unfold curHold
 rw[ec,e0,put1_word hwl]
 by_cases e:curWord m (idSum c)=place (m.word 0/2+1) s
 · have e1:place (m.word 0/2+1) (idSum c)=place (m.word 0/2+1) s:=by
     unfold curWord at e
     split at e
     · exact e
     · omega
   have e2:=(place_inj e1).2
   rw[if_pos e,if_neg (by decide),e,if_pos hz,put1_hold hwh,if_pos rfl,←hL]
   have e3:place (m.word 0/2) s=place (m.word 0/2) (idSum c):=by rw[← par_place (m.word 0/2) s,←par_place (m.word 0/2) (idSum c),e1]
   rw[e2,e3]
 · rw[if_neg e,put1_hold hwh (j:=curWord m (idSum c)),if_neg e]
   by_cases ez:m.word (curWord m (idSum c))=0
   · rw[if_pos ez,if_pos ez,put1_hold hwh,if_neg (by omega)]
   · rw[if_neg ez,if_neg ez]
theorem has_split {m:Mem} (H:Dir m) (h:List Cell) (hd:m.word 0%2=0) (c:Cell):Has (m.put1 0 (m.word 0+1) h) c↔Has m c:=by
 have hwl:0<m.words.length:=by rw[H.nw];omega
 have hwh:0<m.holds.length:=by rw[H.nh];omega
 have e0:(m.put1 0 (m.word 0+1) h).word 0=m.word 0+1:=by rw[put1_word hwl,if_pos rfl]
 have eh:(m.word 0+1)/2=m.word 0/2:=by omega
 have hp:=two_pos (m.word 0/2)
 have hpl:=place_lt (m.word 0/2) (idSum c)
 have hlt:=(H.cur _ hpl.1 hpl.2).2 hd
 have h1:=(H.cur _ hpl.1 hpl.2).1
 have c1:curWord m (idSum c)=place (m.word 0/2) (idSum c):=by
   unfold curWord
   rw[if_neg (by rintro⟨h,_⟩;omega)]
 have c2:curWord (m.put1 0 (m.word 0+1) h) (idSum c)=place (m.word 0/2) (idSum c):=by
   unfold curWord
   rw[e0,eh,put1_word hwl,if_neg (show ¬place (m.word 0/2) (idSum c)=0 by omega),if_neg (by rintro⟨_,h⟩;omega)]
 unfold Has curHold
 rw[c1,c2,put1_word hwl,if_neg (show ¬place (m.word 0/2) (idSum c)=0 by omega),if_neg (by omega),if_neg (by omega),put1_hold hwh,if_neg (by omega)]
theorem has_moved {m:Mem} (H:Dir m) (h:List Cell) (hd:m.word 0%2=1) (hf: ∀i,2^(m.word 0/2)≤i→i<2^(m.word 0/2+1)→FRZ≤m.word i) (hn: ∀i,2^(m.word 0/2+1)≤i→i<2^(m.word 0/2+2)→m.word i≠0) (c:Cell):
   Has (m.put1 0 (m.word 0+1) h) c↔Has m c:=by
 have hwl:0<m.words.length:=by rw[H.nw];omega
 have hwh:0<m.holds.length:=by rw[H.nh];omega
 have e0:(m.put1 0 (m.word 0+1) h).word 0=m.word 0+1:=by rw[put1_word hwl,if_pos rfl]
 have eh:(m.word 0+1)/2=m.word 0/2+1:=by omega
 have hp:=two_pos (m.word 0/2)
 have hp1:=two_pos (m.word 0/2+1)
 have hpl:=place_lt (m.word 0/2) (idSum c)
 have hpl1:=place_lt (m.word 0/2+1) (idSum c)
 have hfz:=hf _ hpl.1 hpl.2
 have hnz:=hn _ hpl1.1 hpl1.2
 have c1:curWord m (idSum c)=place (m.word 0/2+1) (idSum c):=by
   unfold curWord
   rw[if_pos ⟨hd,hfz⟩]
 have c2:curWord (m.put1 0 (m.word 0+1) h) (idSum c)=place (m.word 0/2+1) (idSum c):=by
   unfold curWord
   rw[e0,eh,if_neg (by rintro⟨h,_⟩;omega)]
 unfold Has curHold
 rw[c1,c2,put1_word hwl,if_neg (show ¬place (m.word 0/2+1) (idSum c)=0 by omega),if_neg hnz,if_neg hnz,put1_hold hwh,if_neg (by omega)]
theorem has_num {m:Mem} (H:Dir m) {w:Nat} (v:Nat) (h:List Cell) (hw1:32≤w) (hw2:w<34) (c:Cell):Has (m.put1 w v h) c↔Has m c:=by
 have hwl:w<m.words.length:=by rw[H.nw];omega
 have hwh:w<m.holds.length:=by rw[H.nh];omega
 have ew: ∀i,i<32→(m.put1 w v h).word i=m.word i:=fun i hi=>by rw[put1_word hwl,if_neg (by omega)]
 have eh: ∀i,i<32→(m.put1 w v h).hold i=m.hold i:=fun i hi=>by rw[put1_hold hwh,if_neg (by omega)]
 have h32:=H.size
 have hpl:=place_lt (m.word 0/2) (idSum c)
 have hcw:=curWord_lt H (idSum c)
 have ec:curWord (m.put1 w v h) (idSum c)=curWord m (idSum c):=by
   unfold curWord
   rw[ew 0 (by omega),ew _ (by omega)]
 unfold Has curHold
 rw[ec,ew _ hcw.2,ew 0 (by omega),eh _ hcw.2,eh _ (by omega)]
def sumN :Nat→(Nat→Nat)→Nat
 |0,_=>0
 |n+1,f=>sumN n f+f n
theorem sumN_congr {n:Nat} {f g:Nat→Nat} (h: ∀i,i<n→f i=g i):sumN n f=sumN n g:=by
 induction n with
 |zero=>rfl
 |succ n ih=>simp only[sumN];rw[ih (fun i hi=>h i (by omega)),h n (by omega)]
theorem sumN_set {n:Nat} {f g:Nat→Nat} (k:Nat) (hk:k<n) (h: ∀i,i<n→i≠k→f i=g i):sumN n f+g k=sumN n g+f k:=by
 induction n with
 |zero=>omega
 |succ n ih=>
   simp only[sumN]
   by_cases e:k=n
   · subst e
     rw[sumN_congr (fun i hi=>h i (by omega) (by omega))]
     omega
   · have:=ih (by omega) (fun i hi=>h i (by omega))
     have:=h n (by omega) (fun e'=>e e'.symm)
     omega
theorem sumN_add (a b:Nat) (f:Nat→Nat):sumN (a+b) f=sumN a f+sumN b (fun i=>f (a+i)):=by
 induction b with
 |zero=>simp [sumN]
 |succ b ih=>rw[Nat.add_succ];simp only[sumN];rw[ih];omega
theorem sumN_two (n:Nat) (f g:Nat→Nat):sumN n (fun i=>f i+g i)=sumN n f+sumN n g:=by
 induction n with
 |zero=>rfl
 |succ n ih=>simp only[sumN];rw[ih];omega
def kid (m:Mem) (L i j:Nat):Nat:=if m.word (2^(L+1)+j)=0 then(cut (m.hold (2^L+i)) (L+1) j).length else(m.hold (2^(L+1)+j)).length
def under (m:Mem) (i:Nat):Nat:=
 if m.word 0%2=1∧FRZ≤m.word (2^(m.word 0/2)+i)then kid m (m.word 0/2) i i+kid m (m.word 0/2) i (i+2^(m.word 0/2))else(m.hold (2^(m.word 0/2)+i)).length
def size (m:Mem):Nat:=sumN (2^(m.word 0/2)) (under m)
theorem cut_halves {L:List Cell} {level i:Nat} (hi:i<2^level) (h: ∀c∈L,shardOf c level=i):(cut L (level+1) i).length+(cut L (level+1) (i+2^level)).length=L.length:=by
 unfold cut
 induction L with
 |nil=>rfl
 |cons c L ih=>
   have hc:=h c (by simp)
   have ih:=ih (fun c hc=>h c (by simp [hc]))
   have hs:shardOf c (level+1)=i∨shardOf c (level+1)=i+2^level:=by
     unfold shardOf at hc ⊢
     have h2:=two_succ level
     generalize sumB (ident c.pol c.key)=s at hc ⊢
     rw[show (2:Nat)^(level+1)=2^level*2 by omega,Nat.mod_mul,hc]
     have:=Nat.mod_lt (s/2^level) (show 0<2 by omega)
     have h3:s/2^level%2=0∨s/2^level%2=1:=by omega
     rcases h3 with h3|h3
     · left;rw[h3];omega
     · right;rw[h3];omega
   have hp:=two_pos level
   simp only[List.filter_cons]
   rcases hs with hs|hs
   · rw[hs,if_pos (by simp),if_neg (by simp<;>omega)]
     simp only[List.length_cons]
     omega
   · rw[hs,if_neg (by simp<;>omega),if_pos (by simp)]
     simp only[List.length_cons]
     omega
theorem Lies.own {list:List Pol} {m:Mem} (h:Lies list m) {level i:Nat} (hl:level≤4) (hi:i<2^level): ∀c∈m.hold (2^level+i),shardOf c level=i:=by
 intro c hc
 have:=h.shard level i hl c (by rw[place_self hi];exact hc)
 rwa [Nat.mod_eq_of_lt hi]at this
theorem size_freeze {list:List Pol} {m:Mem} (H:Dir m) (hL:Lies list m) {w:Nat} (hd:m.word 0%2=1) (hw1:2^(m.word 0/2)≤w) (hw2:w<2^(m.word 0/2+1)) (hl:m.live w):
   size (m.put1 w (m.word w+FRZ) (m.hold w))=size m:=by
 have h32:=H.size
 have h0:=two_pos (m.word 0/2)
 have h01:=two_succ (m.word 0/2)
 have hwl:w<m.words.length:=by rw[H.nw];omega
 have hwh:w<m.holds.length:=by rw[H.nh];omega
 have e0:=put1_zero H (show 1≤w by omega) (by omega) (m.word w+FRZ) (m.hold w)
 have eh: ∀j,(m.put1 w (m.word w+FRZ) (m.hold w)).hold j=m.hold j:=by
   intro j;rw[put1_hold hwh];split
   · rename_i e;rw[e]
   · rfl
 obtain⟨hl1,hl2⟩:=hl
 unfold size
 rw[e0]
 refine sumN_congr fun i hi=> ?_
 unfold under kid
 rw[e0,put1_word hwl,put1_word hwl,put1_word hwl,if_neg (show ¬2^(m.word 0/2+1)+i=w by omega),if_neg (show ¬2^(m.word 0/2+1)+(i+2^(m.word 0/2))=w by omega)]
 simp only[eh]
 by_cases e:2^(m.word 0/2)+i=w
 · rw[if_pos e,if_pos ⟨hd,by omega⟩,if_neg (show ¬(m.word 0%2=1∧FRZ≤m.word (2^(m.word 0/2)+i))by rw[e];rintro⟨_,h⟩;omega)]
   have h3:=H.lvl3 hd
   have h32:2^(m.word 0/2+2)≤32:=two_le (show m.word 0/2+2≤5 by omega)
   have h02:=two_succ2 (m.word 0/2)
   have hpp: ∀j,j<2^(m.word 0/2+1)→j%2^(m.word 0/2)=i→m.word (2^(m.word 0/2+1)+j)=0:=by
     intro j hj hji
     refine Classical.byContradiction fun hne=> ?_
     have:=((H.nxt _ (Nat.le_add_right _ _) (by omega)).2 hne).2.2
     have e2:par (m.word 0/2) (2^(m.word 0/2+1)+j)=w:=by
       unfold par
       rw[show 2^(m.word 0/2+1)+j=2^(m.word 0/2)*2+j by omega,Nat.mul_add_mod,hji]
       exact e
     rw[e2]at this
     omega
   rw[if_pos (hpp i (by omega) (Nat.mod_eq_of_lt hi)),if_pos (hpp (i+2^(m.word 0/2)) (by omega) (by rw[Nat.add_mod_right];exact Nat.mod_eq_of_lt hi))]
   exact cut_halves hi (hL.own H.lvl4 hi)
 · rw[if_neg e]
theorem size_lay {m:Mem} (H:Dir m) {s:Nat} (hd:m.word 0%2=1) (hp:FRZ≤m.word (place (m.word 0/2) s)) (hz:m.word (place (m.word 0/2+1) s)=0):
   size (m.put1 (place (m.word 0/2+1) s) 1 (cut (m.hold (place (m.word 0/2) s)) (m.word 0/2+1) (s%2^(m.word 0/2+1))))=size m:=by
 have h3:=H.lvl3 hd
 have h32:2^(m.word 0/2+1+1)≤32:=two_le (show m.word 0/2+1+1≤5 by omega)
 have h0:=two_pos (m.word 0/2)
 have h01:=two_succ (m.word 0/2)
 have hw:=place_lt (m.word 0/2+1) s
 have hsm:=Nat.mod_lt s (two_pos (m.word 0/2+1))
 generalize hL:cut (m.hold (place (m.word 0/2) s)) (m.word 0/2+1) (s%2^(m.word 0/2+1))=L
 have hwl:place (m.word 0/2+1) s<m.words.length:=by rw[H.nw];omega
 have hwh:place (m.word 0/2+1) s<m.holds.length:=by rw[H.nh];omega
 have e0:=put1_zero H (show 1≤place (m.word 0/2+1) s by omega) (by omega) 1 L
 have kidE: ∀i j,i<2^(m.word 0/2)→j%2^(m.word 0/2)=i→kid (m.put1 (place (m.word 0/2+1) s) 1 L) (m.word 0/2) i j=kid m (m.word 0/2) i j:=by
   intro i j hi hj
   unfold kid
   rw[put1_word hwl,put1_hold hwh,put1_hold hwh,if_neg (show ¬2^(m.word 0/2)+i=place (m.word 0/2+1) s by omega)]
   by_cases e:2^(m.word 0/2+1)+j=place (m.word 0/2+1) s
   · rw[if_pos e,if_neg (by decide),if_pos e,e,if_pos hz,←hL]
     have ej:j=s%2^(m.word 0/2+1):=by unfold place at e;omega
     have ei:2^(m.word 0/2)+i=place (m.word 0/2) s:=by
       unfold place
       rw[← hj,ej,show 2^(m.word 0/2+1)=2^(m.word 0/2)*2 by omega,Nat.mod_mul_right_mod]
     rw[ej,ei]
   · rw[if_neg e,if_neg e]
 unfold size
 rw[e0]
 refine sumN_congr fun i hi=> ?_
 unfold under
 rw[e0,put1_word hwl,if_neg (show ¬2^(m.word 0/2)+i=place (m.word 0/2+1) s by omega),put1_hold hwh,if_neg (show ¬2^(m.word 0/2)+i=place (m.word 0/2+1) s by omega),kidE i i hi (Nat.mod_eq_of_lt hi),kidE i (i+2^(m.word 0/2)) hi (by rw[Nat.add_mod_right];exact Nat.mod_eq_of_lt hi)]
theorem size_split {m:Mem} (H:Dir m) (h:List Cell) (hd:m.word 0%2=0):size (m.put1 0 (m.word 0+1) h)=size m:=by
 have hwl:0<m.words.length:=by rw[H.nw];omega
 have hwh:0<m.holds.length:=by rw[H.nh];omega
 have e0:(m.put1 0 (m.word 0+1) h).word 0=m.word 0+1:=by rw[put1_word hwl,if_pos rfl]
 have eh:(m.word 0+1)/2=m.word 0/2:=by omega
 have hp:=two_pos (m.word 0/2)
 have h01:=two_succ (m.word 0/2)
 unfold size
 rw[e0,eh]
 refine sumN_congr fun i hi=> ?_
 have hlt:=(H.cur (2^(m.word 0/2)+i) (by omega) (by omega)).2 hd
 unfold under
 rw[e0,eh,put1_word hwl,if_neg (show ¬2^(m.word 0/2)+i=0 by omega),if_neg (by rintro⟨_,h⟩;omega),if_neg (by rintro⟨h,_⟩;omega),put1_hold hwh,if_neg (by omega)]
theorem size_moved {m:Mem} (H:Dir m) (h:List Cell) (hd:m.word 0%2=1) (hf: ∀i,2^(m.word 0/2)≤i→i<2^(m.word 0/2+1)→FRZ≤m.word i) (hn: ∀i,2^(m.word 0/2+1)≤i→i<2^(m.word 0/2+2)→m.word i≠0):
   size (m.put1 0 (m.word 0+1) h)=size m:=by
 have hwl:0<m.words.length:=by rw[H.nw];omega
 have hwh:0<m.holds.length:=by rw[H.nh];omega
 have e0:(m.put1 0 (m.word 0+1) h).word 0=m.word 0+1:=by rw[put1_word hwl,if_pos rfl]
 have eh:(m.word 0+1)/2=m.word 0/2+1:=by omega
 have hp:=two_pos (m.word 0/2)
 have h01:=two_succ (m.word 0/2)
 have h02:=two_succ2 (m.word 0/2)
 unfold size
 rw[e0,eh,show 2^(m.word 0/2+1)=2^(m.word 0/2)+2^(m.word 0/2)by omega,sumN_add,←sumN_two]
 refine sumN_congr fun i hi=> ?_
 have hlt:=hf (2^(m.word 0/2)+i) (by omega) (by omega)
 have hn1:=hn (2^(m.word 0/2+1)+i) (by omega) (by omega)
 have hn2:=hn (2^(m.word 0/2+1)+(i+2^(m.word 0/2))) (by omega) (by omega)
 unfold under kid
 rw[e0,eh,if_pos (show m.word 0%2=1∧FRZ≤m.word (2^(m.word 0/2)+i)from⟨hd,hlt⟩),if_neg (by rintro⟨h,_⟩;omega),if_neg (by rintro⟨h,_⟩;omega),if_neg hn1,if_neg hn2,put1_hold hwh,if_neg (by omega),put1_hold hwh,if_neg (by omega),Nat.add_comm (2^(m.word 0/2)) i]
theorem size_num {m:Mem} (H:Dir m) {w:Nat} (v:Nat) (h:List Cell) (hw1:32≤w) (hw2:w<34):size (m.put1 w v h)=size m:=by
 have hwl:w<m.words.length:=by rw[H.nw];omega
 have hwh:w<m.holds.length:=by rw[H.nh];omega
 have h32:=H.size
 have h01:=two_succ (m.word 0/2)
 have ew: ∀i,i<32→(m.put1 w v h).word i=m.word i:=fun i hi=>by rw[put1_word hwl,if_neg (by omega)]
 have eh: ∀i,i<32→(m.put1 w v h).hold i=m.hold i:=fun i hi=>by rw[put1_hold hwh,if_neg (by omega)]
 unfold size
 rw[ew 0 (by omega)]
 refine sumN_congr fun i hi=> ?_
 unfold under
 rw[ew 0 (by omega),ew _ (by omega),eh _ (by omega)]
 by_cases hc:m.word 0%2=1∧FRZ≤m.word (2^(m.word 0/2)+i)
 · rw[if_pos hc,if_pos hc]
   have h3:=H.lvl3 hc.1
   have h32:2^(m.word 0/2+2)≤32:=two_le (show m.word 0/2+2≤5 by omega)
   have h02:=two_succ2 (m.word 0/2)
   unfold kid
   rw[ew _ (by omega),ew _ (by omega),eh _ (by omega),eh _ (by omega),eh _ (by omega)]
 · rw[if_neg hc,if_neg hc]
theorem size_go {m:Mem} (H:Dir m) {w v:Nat} (h:List Cell) (hw1:1≤w) (hw2:w<32) (hl:m.live w) (hv1:1≤v) (hv2:v<FRZ):
   size (m.put1 w v h)+(m.hold w).length=size m+h.length:=by
 have hwl:w<m.words.length:=by rw[H.nw];omega
 have hwh:w<m.holds.length:=by rw[H.nh];omega
 have e0:=put1_zero H hw1 hw2 v h
 have h0:=two_pos (m.word 0/2)
 have h01:=two_succ (m.word 0/2)
 have h02:=two_succ2 (m.word 0/2)
 have hat:=H.live_at hw1 hw2 hl
 have ew: ∀j,j≠w→(m.put1 w v h).word j=m.word j:=fun j hj=>by rw[put1_word hwl,if_neg hj]
 have eh: ∀j,j≠w→(m.put1 w v h).hold j=m.hold j:=fun j hj=>by rw[put1_hold hwh,if_neg hj]
 obtain⟨hl1,hl2⟩:=hl
 unfold size
 rw[e0]
 rcases hat with ⟨h1,h2⟩|⟨h1,h2,h3,h4⟩
 · have hk:w-2^(m.word 0/2)<2^(m.word 0/2):=by omega
   have:=sumN_set (f:=under (m.put1 w v h)) (g:=under m) _ hk (fun i hi hne=>by
     have hne': ¬2^(m.word 0/2)+i=w:=by omega
     unfold under kid
     rw[e0,ew (2^(m.word 0/2)+i) hne',eh (2^(m.word 0/2)+i) hne',ew (2^(m.word 0/2+1)+i) (by omega),eh (2^(m.word 0/2+1)+i) (by omega),ew (2^(m.word 0/2+1)+(i+2^(m.word 0/2))) (by omega),eh (2^(m.word 0/2+1)+(i+2^(m.word 0/2))) (by omega)])
   have e1:under (m.put1 w v h) (w-2^(m.word 0/2))=h.length:=by
     unfold under
     rw[e0,show 2^(m.word 0/2)+(w-2^(m.word 0/2))=w by omega,put1_word hwl,if_pos rfl,put1_hold hwh,if_pos rfl,if_neg (by rintro⟨_,h⟩;omega)]
   have e2:under m (w-2^(m.word 0/2))=(m.hold w).length:=by
     unfold under
     rw[show 2^(m.word 0/2)+(w-2^(m.word 0/2))=w by omega,if_neg (by rintro⟨_,h⟩;omega)]
   omega
 · have hpl:=par_lt (m.word 0/2) w
   have hk:par (m.word 0/2) w-2^(m.word 0/2)<2^(m.word 0/2):=by omega
   have hj:w-2^(m.word 0/2+1)<2^(m.word 0/2+1):=by omega
   have hmod:par (m.word 0/2) w-2^(m.word 0/2)=(w-2^(m.word 0/2+1))%2^(m.word 0/2):=by
     unfold par
     rw[Nat.add_sub_cancel_left]
     conv=>lhs;rw[show w=2^(m.word 0/2)*2+(w-2^(m.word 0/2+1))by omega]
     rw[Nat.mul_add_mod]
   have kidN: ∀i j,i<2^(m.word 0/2)→2^(m.word 0/2+1)+j≠w→kid (m.put1 w v h) (m.word 0/2) i j=kid m (m.word 0/2) i j:=by
     intro i j hi hj
     unfold kid
     rw[ew (2^(m.word 0/2+1)+j) hj,eh (2^(m.word 0/2+1)+j) hj,eh (2^(m.word 0/2)+i) (by omega)]
   have kidY: ∀i j,i<2^(m.word 0/2)→2^(m.word 0/2+1)+j=w→kid (m.put1 w v h) (m.word 0/2) i j=h.length∧kid m (m.word 0/2) i j=(m.hold w).length:=by
     intro i j hi hj
     unfold kid
     rw[hj,put1_word hwl,if_pos rfl,if_neg (by omega),if_neg (by omega),put1_hold hwh,if_pos rfl]
     exact⟨rfl,rfl⟩
   have hstay: ∀i,i<2^(m.word 0/2)→(m.put1 w v h).word (2^(m.word 0/2)+i)=m.word (2^(m.word 0/2)+i)∧(m.put1 w v h).hold (2^(m.word 0/2)+i)=m.hold (2^(m.word 0/2)+i):=by
     intro i hi
     rw[put1_word hwl,if_neg (by omega),put1_hold hwh,if_neg (by omega)]
     exact⟨rfl,rfl⟩
   have hmm:(w-2^(m.word 0/2+1))%2^(m.word 0/2)=w-2^(m.word 0/2+1)∨(w-2^(m.word 0/2+1))%2^(m.word 0/2)+2^(m.word 0/2)=w-2^(m.word 0/2+1):=by
     by_cases hlt:w-2^(m.word 0/2+1)<2^(m.word 0/2)
     · left;exact Nat.mod_eq_of_lt hlt
     · right
       rw[Nat.mod_eq_sub_mod (by omega),Nat.mod_eq_of_lt (by omega)]
       omega
   have:=sumN_set (f:=under (m.put1 w v h)) (g:=under m) _ hk (fun i hi hne=>by
     unfold under
     rw[e0,(hstay i hi).1,(hstay i hi).2,kidN i i hi (by omega),kidN i _ hi (by omega)])
   have e4:2^(m.word 0/2)+(par (m.word 0/2) w-2^(m.word 0/2))=par (m.word 0/2) w:=by omega
   have hi:=hk
   have e1:under (m.put1 w v h) (par (m.word 0/2) w-2^(m.word 0/2))+(m.hold w).length=under m (par (m.word 0/2) w-2^(m.word 0/2))+h.length:=by
     unfold under
     rw[e0,(hstay _ hi).1,e4,if_pos ⟨h1,h4⟩,if_pos ⟨h1,h4⟩]
     rcases hmm with hmm|hmm
     · have ky:=kidY _ (par (m.word 0/2) w-2^(m.word 0/2)) hi (by omega)
       rw[ky.1,ky.2,kidN _ (par (m.word 0/2) w-2^(m.word 0/2)+2^(m.word 0/2)) hi (by omega)]
       omega
     · have ky:=kidY (par (m.word 0/2) w-2^(m.word 0/2)) (par (m.word 0/2) w-2^(m.word 0/2)+2^(m.word 0/2)) hi (by omega)
       rw[ky.1,ky.2,kidN _ (par (m.word 0/2) w-2^(m.word 0/2)) hi (by omega)]
       omega
   omega
theorem live_size {m:Mem} (H:Dir m) {w:Nat} (hw1:1≤w) (hw2:w<32) (hl:m.live w):(m.hold w).length≤size m:=by
 have:=size_go H [] hw1 hw2 hl (v:=1) (by omega) (by decide)
 simp at this
 omega
end Go.Proofs.YtemnhpdjoimjbaaGreatDoor.Top
