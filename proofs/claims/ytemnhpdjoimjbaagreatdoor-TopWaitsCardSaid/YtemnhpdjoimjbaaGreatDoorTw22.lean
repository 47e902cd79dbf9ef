import Derived.Test.YtemnhpdjoimjbaaGreatDoorTw02
import Derived.Test.YtemnhpdjoimjbaaGreatDoorTw06
import Derived.Test.YtemnhpdjoimjbaaGreatDoorTw21
namespace Go.Proofs.YtemnhpdjoimjbaaGreatDoor
section
open Go.RowKit Top
set_option linter.unusedVariables false
def takeB (permits:Int) (held:List Int) (n:Int):Int×List Int:=
 if n<1∨4611686018427387903<n then(1,[])else if permits<held.length then(3,[])else if held.contains n then(8,[])else if(held.length:Int)=permits then(9,[])else(0,held.take (held.countP (· <n))++([n]++held.drop (held.countP (· <n))))
def giveB (permits:Int) (held:List Int) (n:Int):Int×List Int:=
 if permits<held.length then(3,[])else if held.contains n then(0,held.take (held.countP (· <n))++held.drop (held.countP (· <n)+1))else(11,[])
def BlV :Top.Below:=⟨fun p tat now n=>(decG p.T p.tau tat now n,decTat p.T p.tau tat now n,decLeft p.T p.tau tat now n,decWait p.T p.tau tat now n),fun p tat now=>leftI p.T p.tau tat now,fun a b=>clampI (a-b),takeB,giveB⟩
theorem count_le (l:List Int) (n:Int):l.countP (· <n)≤l.length:=List.countP_le_length
theorem rise_lt : ∀ {l:List Int} {n:Int},l.Pairwise (· < ·)→ ∀x∈l.take (l.countP (· <n)),x<n
 |[],n,_,x,hx=>by simp at hx
 |a::l,n,h,x,hx=>by
   rw[List.pairwise_cons]at h
   by_cases ha:a<n
   · rw[List.countP_cons_of_pos (by simpa using ha),List.take_succ_cons]at hx
     rcases List.mem_cons.1 hx with rfl|hx
     · exact ha
     · exact rise_lt h.2 x hx
   · have hz:(a::l).countP (· <n)=0:=by
       rw[List.countP_eq_zero]
       intro y hy
       rcases List.mem_cons.1 hy with rfl|hy
       · simpa using ha
       · have:=h.1 y hy;simp;omega
     rw[hz]at hx
     simp at hx
theorem rise_ge : ∀ {l:List Int} {n:Int},l.Pairwise (· < ·)→ ∀x∈l.drop (l.countP (· <n)),n≤x
 |[],n,_,x,hx=>by simp at hx
 |a::l,n,h,x,hx=>by
   rw[List.pairwise_cons]at h
   by_cases ha:a<n
   · rw[List.countP_cons_of_pos (by simpa using ha),List.drop_succ_cons]at hx
     exact rise_ge h.2 x hx
   · have hz:(a::l).countP (· <n)=0:=by
       rw[List.countP_eq_zero]
       intro y hy
       rcases List.mem_cons.1 hy with rfl|hy
       · simpa using ha
       · have:=h.1 y hy;simp;omega
     rw[hz,List.drop_zero]at hx
     rcases List.mem_cons.1 hx with rfl|hx
     · omega
     · have:=h.1 x hx;omega
theorem take_rises {l:List Int} {n:Int} (h:l.Pairwise (· < ·)) (hn:l.contains n=false):(l.take (l.countP (· <n))++([n]++l.drop (l.countP (· <n)))).Pairwise (· < ·):=by
 have h0:=h
 rw[← List.take_append_drop (l.countP (· <n)) l,List.pairwise_append]at h0
 have hne: ∀x∈l,x≠n:=fun x hx e=>by
   rw[e]at hx
   have:l.contains n=true:=by simpa using hx
   rw[hn]at this
   cases this
 rw[List.pairwise_append]
 refine⟨h0.1,?_,?_⟩
 · rw[List.singleton_append,List.pairwise_cons]
   refine⟨fun x hx=> ?_,h0.2.1⟩
   have h1:=rise_ge h x hx
   have h2:=hne x (List.mem_of_mem_drop hx)
   omega
 · intro a ha b hb
   rw[List.singleton_append]at hb
   rcases List.mem_cons.1 hb with rfl|hb
   · exact rise_lt h a ha
   · exact h0.2.2 a ha b hb
theorem give_rises {l:List Int} {k:Nat} (h:l.Pairwise (· < ·)):(l.take k++l.drop (k+1)).Pairwise (· < ·):=by
 refine h.sublist ?_
 conv=>rhs;rw[← List.take_append_drop k l]
 refine(List.Sublist.refl _).append ?_
 rw[← List.tail_drop]
 exact List.tail_sublist _
theorem pol_limB {p:Pol} (h:PolGood p) (hk:p.kind=1):limB p.T p.tau=true:=by
 rcases h with h|h
 · unfold limB
   rw[tickB_mk (by omega) h.2.2.1,tickB_mk h.2.2.2.1 h.2.2.2.2]
   simpa using h.2.1
 · omega
theorem takeF_yes {p:Pol} {c:Cell} {n:Int} (h:(takeB p.permits c.held n).1=0):takeF BlV p c n=(⟨0,true,p.permits-(takeB p.permits c.held n).2.length,0,n,0⟩,{c with held:=(takeB p.permits c.held n).2 }):=by
 show(if (takeB p.permits c.held n).1=0 then _ else _)=_
 exact if_pos h
theorem takeF_no {p:Pol} {c:Cell} {n:Int} (h:(takeB p.permits c.held n).1≠0):takeF BlV p c n=(err (takeB p.permits c.held n).1,c):=by
 show(if (takeB p.permits c.held n).1=0 then _ else _)=_
 exact if_neg h
theorem giveF_yes {p:Pol} {c:Cell} {n:Int} (h:(giveB p.permits c.held n).1=0):giveF BlV p c n=(⟨0,true,p.permits-(giveB p.permits c.held n).2.length,0,0,0⟩,{c with held:=(giveB p.permits c.held n).2 }):=by
 show(if (giveB p.permits c.held n).1=0 then _ else _)=_
 exact if_pos h
theorem giveF_no {p:Pol} {c:Cell} {n:Int} (h:(giveB p.permits c.held n).1≠0):giveF BlV p c n=(err (giveB p.permits c.held n).1,c):=by
 show(if (giveB p.permits c.held n).1=0 then _ else _)=_
 exact if_neg h
theorem takeB_zero {permits:Int} {held:List Int} {n:Int} (h:(takeB permits held n).1=0): ¬(n<1∨4611686018427387903<n)∧ ¬permits<held.length∧held.contains n=false∧ ¬(held.length:Int)=permits∧(takeB permits held n).2=held.take (held.countP (· <n))++([n]++held.drop (held.countP (· <n))):=by
 unfold takeB at h ⊢
 by_cases h1:n<1∨4611686018427387903<n
 · rw[if_pos h1]at h;cases h
 rw[if_neg h1]at h ⊢
 by_cases h2:permits<held.length
 · rw[if_pos h2]at h;cases h
 rw[if_neg h2]at h ⊢
 by_cases h3:held.contains n=true
 · rw[if_pos h3]at h;cases h
 rw[if_neg h3]at h ⊢
 by_cases h4:(held.length:Int)=permits
 · rw[if_pos h4]at h;cases h
 rw[if_neg h4]at h ⊢
 exact⟨h1,h2,by simpa using h3,h4,rfl⟩
theorem giveB_zero {permits:Int} {held:List Int} {n:Int} (h:(giveB permits held n).1=0): ¬permits<held.length∧held.contains n=true∧(giveB permits held n).2=held.take (held.countP (· <n))++held.drop (held.countP (· <n)+1):=by
 unfold giveB at h ⊢
 by_cases h2:permits<held.length
 · rw[if_pos h2]at h;cases h
 rw[if_neg h2]at h ⊢
 by_cases h3:held.contains n=true
 · rw[if_pos h3]at h ⊢;exact⟨h2,h3,rfl⟩
 · rw[if_neg h3]at h;cases h
theorem takeF_same (p:Pol) (c:Cell) (n:Int):(takeF BlV p c n).2.pol=c.pol∧(takeF BlV p c n).2.key=c.key:=by
 by_cases h:(takeB p.permits c.held n).1=0
 · rw[takeF_yes h];exact⟨rfl,rfl⟩
 · rw[takeF_no h];exact⟨rfl,rfl⟩
theorem giveF_same (p:Pol) (c:Cell) (n:Int):(giveF BlV p c n).2.pol=c.pol∧(giveF BlV p c n).2.key=c.key:=by
 by_cases h:(giveB p.permits c.held n).1=0
 · rw[giveF_yes h];exact⟨rfl,rfl⟩
 · rw[giveF_no h];exact⟨rfl,rfl⟩
theorem takeF_ok {p:Pol} {c:Cell} (n:Int) (hp:p.permits≤64) (hc:CellOk c):CellOk (takeF BlV p c n).2∧((c.held.length:Int)≤p.permits→(((takeF BlV p c n).2.held.length:Nat):Int)≤p.permits):=by
 by_cases h:(takeB p.permits c.held n).1=0
 · rw[takeF_yes h]
   obtain⟨h1,h2,h3,h4,h5⟩:=takeB_zero h
   have hcl:=count_le c.held n
   have hlen:(c.held.take (c.held.countP (· <n))++([n]++c.held.drop (c.held.countP (· <n)))).length=c.held.length+1:=by
     simp only[List.length_append,List.length_take,List.length_drop,List.length_singleton];omega
   dsimp only
   rw[h5]
   refine⟨⟨hc.pol0,hc.pol1,hc.len,hc.bytes,hc.tat0,hc.tat1,?_,take_rises hc.rises h3,?_⟩,fun _=> ?_⟩
   · intro x hx
     dsimp only at hx
     simp only[List.mem_append,List.mem_singleton]at hx
     rcases hx with hx|rfl|hx
     · exact hc.held0 x (List.mem_of_mem_take hx)
     · omega
     · exact hc.held0 x (List.mem_of_mem_drop hx)
   · dsimp only
     rw[hlen];omega
   · rw[hlen];omega
 · rw[takeF_no h]
   exact⟨hc,fun h=>h⟩
theorem giveF_ok {p:Pol} {c:Cell} (n:Int) (hc:CellOk c):CellOk (giveF BlV p c n).2∧((c.held.length:Int)≤p.permits→(((giveF BlV p c n).2.held.length:Nat):Int)≤p.permits):=by
 by_cases h:(giveB p.permits c.held n).1=0
 · rw[giveF_yes h]
   obtain⟨h1,h2,h5⟩:=giveB_zero h
   have hfew:=hc.few
   have hle:(c.held.take (c.held.countP (· <n))++c.held.drop (c.held.countP (· <n)+1)).length≤c.held.length:=by
     simp only[List.length_append,List.length_take,List.length_drop];omega
   dsimp only
   rw[h5]
   refine⟨⟨hc.pol0,hc.pol1,hc.len,hc.bytes,hc.tat0,hc.tat1,?_,give_rises hc.rises,?_⟩,fun _=> ?_⟩
   · intro x hx
     dsimp only at hx
     rcases List.mem_append.1 hx with hx|hx
     · exact hc.held0 x (List.mem_of_mem_take hx)
     · exact hc.held0 x (List.mem_of_mem_drop hx)
   · exact Nat.le_trans hle hfew
   · omega
 · rw[giveF_no h]
   exact⟨hc,fun h=>h⟩
theorem sound_V :Sound BlV:=by
 refine⟨fun p tat now n hp hk t0 t1 n0 n1 k0 k1=> ?_,fun p c n hp hk hc hl=> ?_,fun p c n hp hk hc hl=> ?_,fun p c n he hh=> ?_,fun p c n=>⟨takeF_same p c n,giveF_same p c n⟩⟩
 · show 0≤decTat p.T p.tau tat now n∧decTat p.T p.tau tat now n≤4611686018427387903
   have hl:=pol_limB hp hk
   have hg:=left_grant (n:=n) hl (tickB_mk t0 t1) (tickB_mk n0 n1) k0
   unfold decTat
   split
   · rename_i h
     rcases hg.1 h.1 with h2|⟨_,h3⟩
     · omega
     · have h4:0≤n*p.T:=by
         obtain⟨h5,h6,h7⟩:=limB_yes hl
         exact Int.mul_nonneg k0 (by omega)
       exact⟨by omega,h3⟩
   · exact⟨t0,t1⟩
 · have hp64:p.permits≤64:=by rcases hp with h|h;omega;exact h.2.2
   exact⟨(takeF_ok n hp64 hc).1,(takeF_ok n hp64 hc).2 hl⟩
 · exact⟨(giveF_ok n hc).1,(giveF_ok n hc).2 hl⟩
 · by_cases h:(giveB p.permits c.held n).1=0
   · have:=(giveB_zero h).2.1
     rw[hh]at this
     simp at this
   · rw[giveF_no h]at he
     exact h he
end
section
open Go.RowKit Top
set_option linter.unusedVariables false
theorem serial_b (n:Int) (b:Bool) (hb:(1≤n∧n≤4611686018427387903)↔b=true) (w:World):Calls Tryz.prog 169 #[.int .i64 n] w fun e w'=>e= .returned (.bool b)∧w=w':=by
 by_cases h1:n<1
 · have h1': ¬1≤n:=by omega
   have hf:b=false:=by cases b with|false=>rfl|true=>have:=hb.2 rfl;omega
   subst hf
   clear hb
   go_enter Tryz.func169,Tryz.ntmps169
   go_wp2
   go_ret
   exact⟨rfl,rfl⟩
 · have h1':1≤n:=by omega
   by_cases h2:n≤4611686018427387903
   · have hf:b=true:=hb.1 ⟨h1',h2⟩
     subst hf
     clear hb
     go_enter Tryz.func169,Tryz.ntmps169
     go_wp2
     go_ret
     exact⟨rfl,rfl⟩
   · have hf:b=false:=by cases b with|false=>rfl|true=>have:=hb.2 rfl;omega
     subst hf
     clear hb
     go_enter Tryz.func169,Tryz.ntmps169
     go_wp2
     go_ret
     exact⟨rfl,rfl⟩
def lastI (l:List Int) (k:Nat):Int:=if k=0 then 0 else l.getD (k-1) 0
theorem lastI_succ (l:List Int) (k:Nat):lastI l (k+1)=l.getD k 0:=by unfold lastI;rw[if_neg (by omega),Nat.add_sub_cancel]
theorem last_lt {l:List Int} (h:l.Pairwise (· < ·)) (h0: ∀x∈l,1≤x∧x≤4611686018427387903) (k:Nat) (hk:k<l.length):lastI l k<l.getD k 0∧1≤l.getD k 0∧l.getD k 0≤4611686018427387903:=by
 have e:l.getD k 0=l[k]:=by rw[List.getD_eq_getElem?_getD,List.getElem?_eq_getElem hk];rfl
 have hr:=h0 _ (List.getElem_mem hk)
 rw[e]
 refine⟨?_,hr.1,hr.2⟩
 unfold lastI
 split
 · omega
 · rw[List.getD_eq_getElem?_getD,List.getElem?_eq_getElem (by omega)]
   exact List.pairwise_iff_getElem.1 h (k-1) k (by omega) hk (by omega)
theorem HeldAt.cells {w:World} {a:Option Addr} {m c:Nat} {L:List Int} (h:HeldAt w (.slice a m c) L):m=L.length∧L.length≤c∧c≤maxLen∧(0<L.length→ ∃b off,a=some ⟨b,off,none⟩∧ ∀j,j<L.length→w.cell? ⟨b,off+j,none⟩=some (.int .i64 (L.getD j 0))):=by
 obtain⟨h1,h2,h3,h4⟩:=Row.cells h
 refine⟨h1,h2,h3,fun hn=> ?_⟩
 obtain⟨b,off,h5,h6⟩:=h4 hn
 refine⟨b,off,h5,fun j hj=>h6 j _ ?_⟩
 rw[List.getElem?_map,List.getElem?_eq_getElem hj,List.getD_eq_getElem?_getD,List.getElem?_eq_getElem hj]
 rfl
set_option maxHeartbeats 2000000 in
set_option maxRecDepth 100000 in
theorem check_any (permits:Int) (hv:Value) (L:List Int) (w:World) (h:HeldAt w hv L) (hr:L.Pairwise (· < ·)) (h0: ∀x∈L,1≤x∧x≤4611686018427387903) (p0:1≤permits) (p1:permits≤64):
   Calls Tryz.prog 160 #[.agg #[.int .i64 permits,hv]] w fun e w'=>e= .returned (.int .i64 (if permits<L.length then 3 else 0))∧Below w.heap.size w w':=by
 obtain⟨a,c,rfl⟩: ∃a c',hv= .slice a L.length c':=by obtain⟨_,a,c',e,_⟩:=h;exact⟨a,c',e⟩
 obtain⟨_,hc1,hc2,hcell⟩:=h.cells
 have Hcell:Hid (∀u,Below w.heap.size w u→0<L.length→ ∃b off,a=some ⟨b,off,none⟩∧ ∀j,j<L.length→u.cell? ⟨b,off+j,none⟩=some (.int .i64 (L.getD j 0))):=fun u hb hn=>by
   obtain⟨b,off,e,h2⟩:=hcell hn
   exact⟨b,off,e,fun j hj=>cell_later hb (h2 j hj)⟩
 have Hl:Hid (∀k,k<L.length→lastI L k<L.getD k 0∧1≤L.getD k 0∧L.getD k 0≤4611686018427387903):=fun k hk=>last_lt hr h0 k hk
 have Ks:=Lib.hid serial_b
 have hp0: ¬permits<1:=by omega
 have hp1: ¬64<permits:=by omega
 clear h hcell hr h0 hc1
 unfold maxLen at hc2
 by_cases hlen:permits<L.length
 · rw[if_pos hlen]
   go_enter Tryz.func160,Tryz.ntmps160
   go_wp2
   go_ret
   exact⟨rfl,below_allocs [_] w⟩
 · rw[if_neg hlen]
   go_enter Tryz.func160,Tryz.ntmps160
   go_wp2
   go_loopw [3,5,25] (fun last _ i wr=> ∃k:Nat,i= .int .i64 k∧k≤L.length∧last= .int .i64 (lastI L k)∧Below w.heap.size w wr) (fun _ _ i _=>L.length-(intOf i).toNat)
   case atStart=>exact⟨0,rfl,Nat.zero_le _,rfl,below_allocs [_] w⟩
   case round=>
     obtain⟨k,rfl,hk,rfl,hbel⟩:=hrel
     have Hbel:=Lib.hid hbel
     clear hbel
     by_cases hA:k<L.length
     · obtain⟨b,off,rfl,hc⟩:=Hcell.out wr Hbel.out (by omega)
       have hc0:=hc k hA
       have hl:=Hl.out k hA
       have Hls:=Lib.hid (lastI_succ L k)
       clear hc
       generalize L.getD k 0=x at*
       generalize lastI L k=y at*
       have h1: ¬x≤y:=by omega
       have hsx:=hl.2
       go_wp2_with (go_at_call 169;(refine (Ks.out x true ⟨fun _=>rfl,fun _=>hsx⟩ _).mono ?_);rintro e w1 ⟨rfl,rfl⟩)
       go_roundw
       case rel=>exact⟨k+1,by go_num,by omega,by rw[Hls.out],Hbel.out⟩
       case measure=>simp [intOf];omega
     · obtain rfl:k=L.length:=by omega
       go_wp2
       go_ret
       exact⟨rfl,Hbel.out⟩
end
section
open Go.RowKit Top
set_option linter.unusedVariables false
set_option maxHeartbeats 2000000 in
set_option maxRecDepth 100000 in
theorem bsearch_zero (a:Option Addr) (c:Nat) (n:Int) (w:World):
   Calls Tryz.prog 161 #[.slice a 0 c,.int .i64 n] w fun e w'=>e= .returned (.tuple #[.int .i64 0,.bool false])∧ ∃q,w'=w.drewN q:=by
 go_enter Tryz.func161,Tryz.ntmps161
 go_wp2
 go_loopw [7,8,9] (fun i j _ wr=>i= .int .i64 0∧j= .int .i64 0∧wr=w) (fun _ _ _ _=>0)
 case atStart=>exact⟨rfl,rfl,rfl⟩
 case round=>
   obtain⟨rfl,rfl,rfl⟩:=hrel
   go_wp2_with fail
   exact bodyPost_ret (v:= .tuple #[.int .i64 0,.bool false]) (by simp [results,Tryz.results161,go_sem]) rfl ⟨rfl,0,rfl⟩
theorem bsearch_int (hv:Value) (L:List Int) (n:Int) (w:World) (h:HeldAt w hv L) (hr:L.Pairwise (· < ·)) (hf:L.length≤64):
   Calls Tryz.prog 161 #[hv,.int .i64 n] w fun e w'=>e= .returned (.tuple #[.int .i64 (L.countP (· <n):Nat),.bool (L.contains n)])∧ ∃q,w'=w.drewN q:=by
 obtain⟨a,c,rfl⟩: ∃a c',hv= .slice a L.length c':=by obtain⟨_,a,c',e,_⟩:=h;exact⟨a,c',e⟩
 obtain⟨_,hc1,hc2,hcell⟩:=h.cells
 by_cases hz:L.length=0
 · have hx:L=[]:=List.eq_nil_of_length_eq_zero hz
   subst hx
   exact bsearch_zero a c n w
 · obtain⟨b,off,rfl,hcl⟩:=hcell (by omega)
   have k:=Tryz.slices_BinarySearch_int b off L.length c L n w (Nat.le_refl _) (by omega) hcl (by rw[List.take_length];exact hr.imp (fun h=>Int.le_of_lt h))
   rw[List.take_length]at k
   exact k
set_option maxHeartbeats 2000000 in
theorem clone_held (hv:Value) (L:List Int) (w:World) (h:HeldAt w hv L) (hf:L.length≤64):
   Calls Tryz.prog 163 #[hv] w fun e w'=> ∃v',e= .returned v'∧w'.ownsRow w.heap.size 2 1 v' L.length (L.map fun(x:Int)=>Value.int .i64 x)∧Below w.heap.size w w':=by
 obtain⟨a,c,rfl⟩: ∃a c',hv= .slice a L.length c':=by obtain⟨_,a,c',e,_⟩:=h;exact⟨a,c',e⟩
 obtain⟨_,hc1,hc2,hcell⟩:=h.cells
 by_cases hz:L.length=0
 · have hx:L=[]:=List.eq_nil_of_length_eq_zero hz
   subst hx
   cases a with
   |none=>
     refine(Tryz.slices_Clone_int_nil 0 c w).mono ?_
     rintro e w' ⟨rfl,rfl⟩
     exact⟨_,rfl,World.ownsRow_nil _ _ _ _,Below.refl _ _⟩
   |some a=>
     refine(Tryz.slices_Clone_int_zero a c w).mono ?_
     rintro e w' ⟨v',rfl,h1,_,h2⟩
     exact⟨v',rfl,h1,h2⟩
 · obtain⟨b,off,rfl,hcl⟩:=hcell (by omega)
   refine(Tryz.slices_Clone_int b off L.length c L w (Nat.le_refl _) (by omega) hcl).mono ?_
   rintro e w' ⟨v',rfl,h1,_,h2⟩
   rw[List.take_length]at h1
   exact⟨v',rfl,h1,h2⟩
theorem held_cells {w:World} {base:Nat} {t:TypeId} {g cap n:Nat} {L:List Int} (h:w.ownsRow base t 1 (.slice (some ⟨g,0,none⟩) n cap) n (L.map fun(x:Int)=>Value.int .i64 x)):(∀j,j<L.length→w.cell? ⟨g,0+j,none⟩=some (.int .i64 (L.getD j 0)))∧ ∀j,w.frozen? ⟨g,0+j,none⟩=false:=by
 have hl:=h.1
 refine⟨fun j hj=> ?_,fun j=> ?_⟩
 · have:=h.cells (g:=g) rfl j (.int .i64 (L.getD j 0)) (by rw[List.getElem?_map,List.getElem?_eq_getElem hj,List.getD_eq_getElem?_getD,List.getElem?_eq_getElem hj];rfl)
   rwa [Addr.add_lit]at this
 · rcases h.2 with ⟨e,_⟩|⟨g',cap',cur,e,_,h3,_⟩
   · cases e
   · injection e with e1
     injection e1 with e1
     injection e1 with e1
     subst e1
     exact(show Bx w g t cur from h3).free _
theorem setCells_row {w:World} {g:Nat} {t:TypeId} {cur:Array Value} (o:Nat): ∀(vs:List Value) (w:World) (cur:Array Value),Bx w g t cur→ ∃cur',Bx (w.setCells g o vs) g t cur'∧cur'.size=cur.size:=by
 intro vs
 induction vs generalizing o with
 |nil=>intro w cur h;exact⟨cur,h,rfl⟩
 |cons v vs ih=>
   intro w cur h
   obtain⟨cur',h1,h2⟩:=ih (o+1) _ _ (h.setCell o v)
   exact⟨cur',h1,by rw[h2];simp⟩
theorem setCells_below {B g:Nat} (hB:B≤g): ∀(vs:List Value) (o:Nat) (w0 w:World),Below B w0 w→Below B w0 (w.setCells g o vs)
 |[],_,_,_,h=>h
 |v::vs,o,w0,w,h=>setCells_below hB vs (o+1) w0 _ (h.setCell (p:=⟨g,o,none⟩) hB v)
theorem delete_own (base:Nat) (v:Value) (L:List Int) (i:Nat) (w:World) (h:w.ownsRow base 2 1 v L.length (L.map fun(x:Int)=>Value.int .i64 x)) (hi:i<L.length) (hf:L.length≤64):
   Calls Tryz.prog 162 #[v,.int .i64 i,.int .i64 (i+1:Nat)] w fun e w'=> ∃a n c,e= .returned (.slice a n c)∧HeldAt w' (.slice a n c) (L.take i++L.drop (i+1))∧Below base w w':=by
 rcases id h.2 with ⟨rfl,h0⟩|⟨g,cap,cur,rfl,hbg,hg,hcap,hmax,hcs,htk⟩
 · omega
 · obtain⟨hc,hfz⟩:=held_cells h
   unfold maxLen at hmax
   refine(Tryz.slices_Delete_int_cells g 0 L.length cap i (i+1) L w (Nat.le_refl _) hcap (by omega) (by omega) (by omega) hc (fun j _=>hfz j)).mono ?_
   rintro e w' ⟨rfl,q,rfl⟩
   rw[List.take_length]
   have hb:Bx (w.drewN q) g 2 cur:=hg
   obtain⟨cur',h1,h2⟩:=setCells_row (w:=w.drewN q) (cur:=cur) 0 ((L.take i++L.drop (i+1)++List.replicate (i+1-i) 0).map (Value.int .i64)) _ _ hb
   have hlen:(L.take i++L.drop (i+1)).length=L.length-(i+1-i):=by rw[List.length_append,List.length_take,List.length_drop];omega
   refine⟨_,_,_,rfl,⟨by simp,some ⟨g,0,none⟩,cap,by rw[hlen],by rw[hlen];omega,by unfold maxLen;omega,fun _=>⟨g,0,cur',rfl,h1,fun j u hj=> ?_⟩⟩,setCells_below hbg _ _ _ _ (below_drewN (Below.refl _ _) q)⟩
   have hjl:=(List.getElem?_eq_some_iff.1 hj).1
   rw[List.length_map]at hjl
   rw[← h1.cell]
   have:=World.cell?_setCells_in g ((L.take i++L.drop (i+1)++List.replicate (i+1-i) 0).map (Value.int .i64)) 0 (w.drewN q) (fun k hk=>by
     rw[hb.cell,Array.getElem?_eq_getElem (show 0+k<cur.size by
       simp only[List.length_map,List.length_append,List.length_take,List.length_drop,List.length_replicate]at hk
       omega)]
     rfl) j (by simp only[List.length_map,List.length_append,List.length_replicate]at hjl ⊢;omega)
   rw[this,←List.getElem?_eq_getElem,List.map_append,List.getElem?_append_left (by rw[List.length_map];exact hjl)]
   exact hj
end
end Go.Proofs.YtemnhpdjoimjbaaGreatDoor
