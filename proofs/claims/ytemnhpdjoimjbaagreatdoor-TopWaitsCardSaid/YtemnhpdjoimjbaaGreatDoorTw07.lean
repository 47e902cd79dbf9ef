import Derived.Test.YtemnhpdjoimjbaaGreatDoorTw03
import Derived.WalkKit
import Derived.ProofKit
import Derived.Lib.Hide
import Derived.Below
import Derived.OneCell
import Derived.Deep.Draws
import Derived.Test.YtemnhpdjoimjbaaGreatDoorChecked
import Derived.Laws.OwnMore
import Derived.Deep.AppendLies
import Derived.Laws.AppendOwn
import Derived.Laws.BitsAllLaws
namespace Go.Proofs.YtemnhpdjoimjbaaGreatDoor
section
open Go.RowKit
set_option linter.unusedVariables false
def okT (t:TypeId) (n:Nat):Bool:=
 !(t==71)&& !(t==121)&& !(t==156)&& !(t==110)&&(n==1||(!(t==61)&& !(t==64)))
def ownT (t:TypeId):Bool:=t==71||t==110
structure Fr (B:Nat) (X:List Nat) (w w':World):Prop where
 os:w'.os=w.os
 tape:w'.tape=w.tape
 output:w'.output=w.output
 size:w.heap.size≤w'.heap.size
 block: ∀k,k<B→w'.heap[k]? =w.heap[k]?
 quiet: ∀(k:Nat) (c:Array Value) (t:TypeId) (f:Nat×Nat),w.heap[k]? =some (.cells c t f)→(okT t c.size=true∨(ownT t=true∧k∉X))→w'.heap[k]? =some (.cells c t f)
variable {B : Nat} {X:List Nat}
theorem Fr.refl (B:Nat) (X:List Nat) (w:World):Fr B X w w:=⟨rfl,rfl,rfl,Nat.le_refl _,fun _ _=>rfl,fun _ _ _ _ h _=>h⟩
theorem Fr.trans {a b c:World} (h:Fr B X a b) (k:Fr B X b c):Fr B X a c:=
 ⟨k.os.trans h.os,k.tape.trans h.tape,k.output.trans h.output,Nat.le_trans h.size k.size,fun i hi=>(k.block i hi).trans (h.block i hi),fun i c t f hi ho=>k.quiet i c t f (h.quiet i c t f hi ho) ho⟩
theorem Fr.mono {B':Nat} {X':List Nat} {w w':World} (h:Fr B X w w') (hB:B'≤B) (hX: ∀x,x∈X→x∈X'):Fr B' X' w w':=
 ⟨h.os,h.tape,h.output,h.size,fun k hk=>h.block k (by omega),fun k c t f hk ho=>h.quiet k c t f hk (ho.imp id fun h=>⟨h.1,fun hx=>h.2 (hX k hx)⟩)⟩
theorem Fr.drewN {a w:World} (h:Fr B X a w) (n:Nat):Fr B X a (w.drewN n):=⟨h.os,h.tape,h.output,h.size,h.block,h.quiet⟩
theorem Fr.drew {a w:World} (h:Fr B X a w):Fr B X a w.drew:=⟨h.os,h.tape,h.output,h.size,h.block,h.quiet⟩
theorem Fr.below {a w w':World} (h:Fr B X a w) (hB:B≤w.heap.size) (k:Below w.heap.size w w'):Fr B X a w':=
 h.trans ⟨k.os,k.tape,k.output,k.size,fun i hi=>k.block i (by omega),fun i c t f hi _=>(k.block i (lt_of_block hi)).trans hi⟩
theorem Fr.alloc {a w:World} (h:Fr B X a w) (hB:B≤w.heap.size) (o:Obj):Fr B X a (w.alloc o):=
 h.below hB ((Below.refl _ _).alloc (Nat.le_refl _) o)
theorem Fr.of_below {w w':World} (hB:B≤w.heap.size) (k:Below w.heap.size w w'):Fr B X w w':=(Fr.refl B X w).below hB k
theorem Fr.setNew {a w:World} (h:Fr B X a w) {p:Addr} (hB:B≤p.block) (hn:a.heap.size≤p.block) (u:Value):Fr B X a (w.setCell p u):=
 ⟨h.os,h.tape,h.output,by simpa [World.setCell]using h.size,fun k hk=>by rw[Below.heap_setCell _ _ _ _ (by omega)];exact h.block k hk,
   fun k c t f hk ho=>by have:=lt_of_block hk;rw[Below.heap_setCell _ _ _ _ (by omega)];exact h.quiet k c t f hk ho⟩
theorem Fr.setCell {a w:World} (h:Fr B X a w) {p:Addr} {c:Array Value} {t:TypeId} {f:Nat×Nat} (hp:w.heap[p.block]? =some (.cells c t f)) (hB:B≤p.block) (hq:okT t c.size=false) (hX:ownT t=true→p.block∈X) (u:Value):Fr B X a (w.setCell p u):=
 h.trans ⟨rfl,rfl,rfl,by simp [World.setCell],fun k hk=>Below.heap_setCell _ _ _ _ (by omega),
   fun k c' t' f' hk ho=>by
     rw[Below.heap_setCell _ _ _ _ (fun e=> ?_)]
     · exact hk
     · subst e
       rw[hp]at hk
       cases hk
       rcases ho with ho|⟨ho,hn⟩
       · rw[hq]at ho;cases ho
       · exact hn (hX ho)⟩
theorem Fr.grown {a w w':World} {row:Option Nat} (h:Fr B X a w) (hB:B≤w.heap.size) (hg:w.grownBy w' row) (hr: ∀g,row=some g→B≤g∧ ∃c t f,w.heap[g]? =some (.cells c t f)∧okT t c.size=false∧ownT t=false):Fr B X a w':=
 h.trans ⟨hg.os,hg.tape,hg.output,hg.size,fun k hk=>hg.block k (by omega) (fun e=>by have:=(hr k e.symm).1;omega),
   fun k c t f hk ho=>by
     rw[hg.block k (lt_of_block hk) (fun e=> ?_)]
     · exact hk
     · obtain⟨_,c',t',f',hk',hn,hn'⟩:=hr k e.symm
       rw[hk]at hk'
       cases hk'
       rcases ho with ho|⟨ho,_⟩
       · rw[hn]at ho;cases ho
       · rw[hn']at ho;cases ho⟩
def Bx (w:World) (b:Nat) (t:TypeId) (a:Array Value):Prop:=w.heap[b]? =some (.cells a t (0,0))
theorem Bx.at0 {w:World} {b:Nat} {t:TypeId} {v:Value} (h:Bx w b t #[v]):w.cell? ⟨b,0,none⟩=some v:=cell_of_one h
theorem Bx.cell {w:World} {b:Nat} {t:TypeId} {a:Array Value} (h:Bx w b t a) (i:Nat):w.cell? ⟨b,i,none⟩=a[i]? :=by
 unfold Bx at h
 simp [World.cell?,h]
theorem Bx.free {w:World} {b:Nat} {t:TypeId} {a:Array Value} (h:Bx w b t a) (i:Nat):w.frozen? ⟨b,i,none⟩=false:=by
 unfold Bx at h
 simp [World.frozen?,h]
theorem Bx.lt {w:World} {b:Nat} {t:TypeId} {a:Array Value} (h:Bx w b t a):b<w.heap.size:=lt_of_block h
theorem Bx.keep {w w':World} (h:Fr B X w w') {b:Nat} {t:TypeId} {a:Array Value} (hb:Bx w b t a) (ht:okT t a.size=true):Bx w' b t a:=h.quiet b a t _ hb (.inl ht)
theorem Bx.below {w w':World} {b:Nat} {t:TypeId} {a:Array Value} (hb:Bx w b t a) {S:Nat} (h:Below S w w') (hS:b<S):Bx w' b t a:=(h.block b hS).trans hb
theorem Bx.ne {w:World} {b b':Nat} {t t':TypeId} {a a':Array Value} (h:Bx w b t a) (h':Bx w b' t' a') (hn:t≠t'):b≠b':=by
 rintro rfl
 unfold Bx at h h'
 rw[h]at h'
 cases h'
 exact hn rfl
theorem Bx.alloc {w:World} {b:Nat} {t:TypeId} {a:Array Value} (h:Bx w b t a) (o:Obj):Bx (w.alloc o) b t a:=(Below.heap_alloc w o b h.lt).trans h
theorem Bx.new (w:World) (t:TypeId) (a:Array Value):Bx (w.alloc (.cells a t (0,0))) w.heap.size t a:=heap_alloc_new w _
theorem Bx.setCell_ne {w:World} {b:Nat} {t:TypeId} {a:Array Value} (h:Bx w b t a) (p:Addr) (u:Value) (hn:b≠p.block):Bx (w.setCell p u) b t a:=(Below.heap_setCell w p u b hn).trans h
theorem Bx.setCell {w:World} {b:Nat} {t:TypeId} {a:Array Value} (h:Bx w b t a) (i:Nat) (u:Value):Bx (w.setCell ⟨b,i,none⟩ u) b t (a.setIfInBounds i u):=by
 unfold Bx at*
 have hlt:=lt_of_block h
 have h':w.heap[b]= .cells a t (0,0):=by simpa [Array.getElem?_eq_getElem hlt]using h
 show(w.heap.modify b _)[b]? =_
 rw[Array.getElem?_eq_getElem (by simpa using hlt),Array.getElem_modify_self,h']
 rfl
end
section
open Go.RowKit Top
set_option linter.unusedVariables false
theorem cell_later {W w':World} {b o:Nat} {v:Value} (hb:RowKit.Below W.heap.size W w') (h:W.cell? ⟨b,o,none⟩=some v):w'.cell? ⟨b,o,none⟩=some v:=by
 have hlt:b<W.heap.size:=by
   have:=World.block_lt_of_cell? _ _ h
   simpa using this
 exact(hb.cell (p:=⟨b,o,none⟩) hlt).trans h
def ByAt (w:World) (v:Value) (L:List Nat):Prop:=
 (∀x∈L,x<256)∧ ∃a c,v= .slice a L.length c∧L.length≤c∧c≤maxLen∧
   (0<L.length→ ∃b off,a=some ⟨b,off,none⟩∧ ∀j,j<L.length→w.cell? ⟨b,off+j,none⟩=some (.int .u8 (L.getD j 0:Nat)))
theorem by_getD {L:List Nat} (h: ∀x∈L,x<256) (k:Nat):L.getD k 0<256:=by
 rw[List.getD_eq_getElem?_getD]
 cases hk:L[k]? with
 |none=>decide
 |some x=>exact h x (List.mem_of_getElem? hk)
theorem take_snocB {L:List Nat} {k:Nat} (h:k<L.length):L.take (k+1)=L.take k++[L.getD k 0]:=by
 rw[List.take_succ_eq_append_getElem h,List.getD_eq_getElem?_getD,List.getElem?_eq_getElem h];rfl
def updB (h:Nat) (l:List Nat):Nat:=l.foldl sumStep h
theorem sumStep_lt (h b:Nat):sumStep h b<18446744073709551616:=by unfold sumStep U64;omega
theorem updB_lt : ∀(l:List Nat) {h:Nat},h<18446744073709551616→updB h l<18446744073709551616
 |[],h,hh=>by unfold updB;rw[List.foldl_nil];exact hh
 |b::l,h,hh=>by
   have e:updB h (b::l)=updB (sumStep h b) l:=by unfold updB;rw[List.foldl_cons]
   rw[e]
   exact updB_lt l (sumStep_lt h b)
theorem updB_snoc (h:Nat) (l:List Nat) (b:Nat):updB h (l++[b])=sumStep (updB h l) b:=by unfold updB;rw[List.foldl_append,List.foldl_cons,List.foldl_nil]
theorem worker_ok (who word words:Int) (w:World) (h0:0≤who) (h1:who<64) (h2:0≤word) (h3:word<words):
   Calls Tryz.prog 78 #[.int .i64 who,.int .i64 word,.int .i64 words] w fun e w'=>e= .returned (.int .i64 0)∧w=w':=by
 go_enter Tryz.func78,Tryz.ntmps78
 go_wp2
 go_ret
 exact⟨rfl,rfl⟩
set_option maxHeartbeats 1000000 in
theorem update_any (h:Nat) (v:Value) (L:List Nat) (w:World) (hL:ByAt w v L) (hh:h<18446744073709551616):
   Calls Tryz.prog 81 #[.int .u64 h,v] w fun e w'=>e= .returned (.int .u64 (updB h L:Nat))∧w=w':=by
 obtain⟨h0,a,c,rfl,hl,hc,hr⟩:=hL
 unfold maxLen at hc
 have Hr:=Lib.hid hr
 have H0:=Lib.hid h0
 have Hh:=Lib.hid hh
 clear hr h0 hh
 go_enter Tryz.func81,Tryz.ntmps81
 go_wp2
 go_loop [0,6,9] (fun s _ i=> ∃k:Nat,i= .int .i64 k∧k≤L.length∧s= .int .u64 (updB h (L.take k):Nat)) (fun _ _ i=>L.length-(intOf i).toNat)
 case atStart=>exact⟨0,rfl,Nat.zero_le _,rfl⟩
 case round=>
   obtain⟨k,rfl,hk,rfl⟩:=hrel
   by_cases hA:k<L.length
   · obtain⟨b,off,rfl,hcell⟩:=Hr.out (by omega)
     have hc0:=hcell k hA
     have Hs:=Lib.hid (show updB h (L.take (k+1))=sumStep (updB h (L.take k)) (L.getD k 0)by rw[take_snocB hA,updB_snoc])
     have hx:=by_getD H0.out k
     have hS:=updB_lt (L.take k) Hh.out
     generalize updB h (L.take k)=S at*
     clear hcell Hr
     generalize L.getD k 0=x at*
     have hxor:bits .xor .u64 (S:Int) (x:Int)=((S ^^^ x:Nat):Int):=u64_xor_nat S x hS (by omega)
     have hwx:IntKind.u64.wrap (x:Int)=(x:Int):=by rw[IntKind.wrap_u64];omega
     have hend:IntKind.u64.wrap (((S ^^^ x:Nat):Int)*1099511628211)=((sumStep S x:Nat):Int):=by rw[IntKind.wrap_u64];unfold sumStep U64;omega
     go_wp2
     go_roundw
     case rel=>exact⟨k+1,by go_num,by omega,by rw[Hs.out]⟩
     case measure=>simp [intOf];omega
   · obtain rfl:k=L.length:=by omega
     rw[List.take_length]
     go_wp2
     go_ret
     exact⟨rfl,rfl⟩
end
section
open Go.RowKit Top
set_option linter.unusedVariables false
theorem i64_mask (n:Int) (m:Int) (l:Nat) (hm:(BitVec.ofInt 64 m).toNat=2^l-1) (hl:l≤5):bits .and .i64 n m=n%2^l:=by
 have key:(BitVec.ofInt 64 n &&& BitVec.ofInt 64 m).toNat=(n%((2^64:Nat):Int)).toNat%2^l:=by
   rw[BitVec.toNat_and,BitVec.toNat_ofInt,hm,Nat.and_two_pow_sub_one_eq_mod]
 show IntKind.i64.wrap ((BitVec.ofInt 64 n &&& BitVec.ofInt 64 m).toNat:Nat)=_
 rw[key,IntKind.wrap_i64]
 have h:l=0∨l=1∨l=2∨l=3∨l=4∨l=5:=by omega
 rcases h with rfl|rfl|rfl|rfl|rfl|rfl<;>omega
theorem sum_any (v:Value) (L:List Nat) (w:World) (hL:ByAt w v L):
   Calls Tryz.prog 57 #[v] w fun e w'=>e= .returned (.int .u64 (sumB L:Nat))∧w=w':=by
 have Ku:Hid (Calls Tryz.prog 81 #[.int .u64 14695981039346656037,v] w fun e w'=>e= .returned (.int .u64 (sumB L:Nat))∧w=w'):=
   Lib.hid (update_any 14695981039346656037 v L w hL (by decide))
 clear hL
 go_enter Tryz.func57,Tryz.ntmps57
 go_wp2_with (go_at_call 81;(with_reducible refine Ku.out.mono ?_);rintro e w1 ⟨rfl,rfl⟩)
 go_ret
 exact⟨rfl,rfl⟩
theorem place_any (level sum:Nat) (w:World) (hl:level≤5):
   Calls Tryz.prog 33 #[.int .i64 level,.int .u64 sum] w fun e w'=>e= .returned (.int .i64 (place level sum:Nat))∧w=w':=by
 have h:level=0∨level=1∨level=2∨level=3∨level=4∨level=5:=by omega
 have m0:=fun n=>i64_mask n 0 0 (by decide) (by decide)
 have m1:=fun n=>i64_mask n 1 1 (by decide) (by decide)
 have m2:=fun n=>i64_mask n 3 2 (by decide) (by decide)
 have m3:=fun n=>i64_mask n 7 3 (by decide) (by decide)
 have m4:=fun n=>i64_mask n 15 4 (by decide) (by decide)
 have m5:=fun n=>i64_mask n 31 5 (by decide) (by decide)
 have M:=Lib.hid (And.intro m0 (And.intro m1 (And.intro m2 (And.intro m3 (And.intro m4 m5)))))
 clear m0 m1 m2 m3 m4 m5 hl
 rcases h with rfl|rfl|rfl|rfl|rfl|rfl
 · go_enter Tryz.func33,Tryz.ntmps33
   go_wp2
   have hz:wrap64 (1+bits .and .i64 (wrap64 (sum:Int)) 0)=((place 0 sum:Nat):Int):=by
     rw[M.out.1]
     unfold place wrap64
     omega
   simp only[hz]
   go_ret
   exact⟨rfl,rfl⟩
 · go_enter Tryz.func33,Tryz.ntmps33
   go_wp2
   have hz:wrap64 (2+bits .and .i64 (wrap64 (sum:Int)) 1)=((place 1 sum:Nat):Int):=by
     rw[M.out.2.1]
     unfold place wrap64
     omega
   simp only[hz]
   go_ret
   exact⟨rfl,rfl⟩
 · go_enter Tryz.func33,Tryz.ntmps33
   go_wp2
   have hz:wrap64 (4+bits .and .i64 (wrap64 (sum:Int)) 3)=((place 2 sum:Nat):Int):=by
     rw[M.out.2.2.1]
     unfold place wrap64
     omega
   simp only[hz]
   go_ret
   exact⟨rfl,rfl⟩
 · go_enter Tryz.func33,Tryz.ntmps33
   go_wp2
   have hz:wrap64 (8+bits .and .i64 (wrap64 (sum:Int)) 7)=((place 3 sum:Nat):Int):=by
     rw[M.out.2.2.2.1]
     unfold place wrap64
     omega
   simp only[hz]
   go_ret
   exact⟨rfl,rfl⟩
 · go_enter Tryz.func33,Tryz.ntmps33
   go_wp2
   have hz:wrap64 (16+bits .and .i64 (wrap64 (sum:Int)) 15)=((place 4 sum:Nat):Int):=by
     rw[M.out.2.2.2.2.1]
     unfold place wrap64
     omega
   simp only[hz]
   go_ret
   exact⟨rfl,rfl⟩
 · go_enter Tryz.func33,Tryz.ntmps33
   go_wp2
   have hz:wrap64 (32+bits .and .i64 (wrap64 (sum:Int)) 31)=((place 5 sum:Nat):Int):=by
     rw[M.out.2.2.2.2.2]
     unfold place wrap64
     omega
   simp only[hz]
   go_ret
   exact⟨rfl,rfl⟩
end
section
open Go.RowKit Top
set_option linter.unusedVariables false
def replyV (r:Reply):Value:= .agg #[.int .i64 r.e,.bool r.granted,.int .i64 r.left,.int .i64 r.wait,.int .i64 r.serial,.int .i64 r.now]
def resV (d:Bool) (r:Reply):Value:= .agg #[.bool d,.int .i64 r.e,.bool r.granted,.int .i64 r.left,.int .i64 r.wait,.int .i64 r.serial,.int .i64 r.now]
theorem on_any (v:Value) (w:World):
   Calls Tryz.prog 63 #[v] w fun e w'=>e= .returned (.tuple #[v,resV false (err 0)])∧Below w.heap.size w w':=by
 go_enter Tryz.func63,Tryz.ntmps63
 go_wp2
 exact bodyPost_ret (v:= .tuple #[v,resV false (err 0)]) (by simp [results,Tryz.results63,go_sem,resV,err]) rfl ⟨rfl,(RowKit.Below.refl _ _).alloc (Nat.le_refl _) _⟩
theorem end_any (r:Reply) (w:World):
   Calls Tryz.prog 87 #[replyV r] w fun e w'=>e= .returned (.tuple #[.nilFunc,resV true r])∧Below w.heap.size w w':=by
 obtain⟨e,g,l,wt,s,n⟩:=r
 unfold replyV resV
 go_enter Tryz.func87,Tryz.ntmps87
 go_wp2
 go_region
 go_wp2
 exact bodyPost_ret (v:= .tuple #[.nilFunc,.agg #[.bool true,.int .i64 e,.bool g,.int .i64 l,.int .i64 wt,.int .i64 s,.int .i64 n]]) (by simp [results,Tryz.results87,go_sem]) rfl ⟨rfl,(((RowKit.Below.refl _ _).alloc (Nat.le_refl _) _).alloc (by simp) _).drew⟩
end
section
open Go.RowKit Top
set_option linter.unusedVariables false
theorem size_any (b:Nat) (ws l:Value) (a n c:Nat) (ck ct:Int) (w:World) (h:w.heap[b]? =some (.cells #[.slice (some ⟨a,0,none⟩) n c,.int .i64 ck,.int .i64 ct,l] 121 (0,0))):
   Calls Tryz.prog 79 #[.pointer (some ⟨b,0,none⟩)] w fun e w'=>e= .returned (.int .i64 n)∧w=w':=by
 have c0:w.cell? ⟨b,0,none⟩=some (.slice (some ⟨a,0,none⟩) n c):=by simp [World.cell?,h]
 clear h
 go_enter Tryz.func79,Tryz.ntmps79
 go_wp2
 go_ret
 exact⟨rfl,rfl⟩
end
section
open Go.RowKit Top
set_option linter.unusedVariables false
variable {B : Nat} {X:List Nat}
def Row (w:World) (t:TypeId) (size n:Nat) (v:Value) (xs:List Value):Prop:=
 xs.length=n*size∧ ∃a c,v= .slice a n c∧n≤c∧c≤maxLen∧(0<n→ ∃b off arr,a=some ⟨b,off,none⟩∧Bx w b t arr∧ ∀j u,xs[j]? =some u→arr[off+j]? =some u)
theorem Row.keep {w w':World} (h:Fr B X w w') {t:TypeId} {size n:Nat} {v:Value} {xs:List Value} (hr:Row w t size n v xs) (ht: ∀n,okT t n=true):Row w' t size n v xs:=by
 obtain⟨h1,a,c,h2,h3,h4,h5⟩:=hr
 refine⟨h1,a,c,h2,h3,h4,fun hn=> ?_⟩
 obtain⟨b,off,arr,h6,h7,h8⟩:=h5 hn
 exact⟨b,off,arr,h6,h7.keep h (ht _),h8⟩
theorem Row.nil (w:World) (t:TypeId) (size:Nat) (a:Option Addr) (c:Nat) (hc:c≤maxLen):Row w t size 0 (.slice a 0 c) []:=⟨by simp,a,c,rfl,Nat.zero_le _,hc,fun h=>absurd h (by omega)⟩
theorem Row.own {w:World} {base:Nat} {t:TypeId} {size n:Nat} {v:Value} {xs:List Value} (h:w.ownsRow base t size v n xs):Row w t size n v xs:=by
 refine⟨h.1,?_⟩
 rcases h.2 with ⟨rfl,rfl⟩|⟨g,cap,cur,rfl,h2,h3,h4,h5,h6,h7⟩
 · exact⟨none,0,rfl,Nat.le_refl _,Nat.zero_le _,fun h=>absurd h (by omega)⟩
 · refine⟨_,_,rfl,h4,h5,fun _=>⟨g,0,cur,rfl,h3,fun j u hu=> ?_⟩⟩
   rw[← h7,List.getElem?_take]at hu
   split at hu
   · rw[Nat.zero_add];simpa using hu
   · cases hu
def KeyAt (w:World) (v:Value) (L:List Nat):Prop:=(∀x∈L,x<256)∧Row w 5 1 L.length v (L.map fun(x:Nat)=>Value.int .u8 x)
def HeldAt (w:World) (v:Value) (L:List Int):Prop:=Row w 2 1 L.length v (L.map fun x=>Value.int .i64 x)
theorem KeyAt.keep {w w':World} (h:Fr B X w w') {v:Value} {L:List Nat} (k:KeyAt w v L):KeyAt w' v L:=⟨k.1,k.2.keep h (by simp [okT])⟩
theorem HeldAt.keep {w w':World} (h:Fr B X w w') {v:Value} {L:List Int} (k:HeldAt w v L):HeldAt w' v L:=Row.keep h k (by simp [okT])
theorem KeyAt.by {w:World} {v:Value} {L:List Nat} (k:KeyAt w v L):ByAt w v L:=by
 obtain⟨h0,h1,a,c,h2,h3,h4,h5⟩:=k
 refine⟨h0,a,c,h2,h3,h4,fun hn=> ?_⟩
 obtain⟨b,off,arr,h6,h7,h8⟩:=h5 hn
 refine⟨b,off,h6,fun j hj=> ?_⟩
 rw[h7.cell,h8 j (.int .u8 (L.getD j 0:Nat))]
 rw[List.getElem?_map,List.getD_eq_getElem?_getD,List.getElem?_eq_getElem hj]
 rfl
structure CV where
  c:Cell
  kv:Value
  hv:Value
deriving Inhabited
def CV.enc (x:CV):List Value:=[.int .i64 x.c.pol,x.kv,.int .i64 x.c.tat,x.hv]
def CV.ok (w:World) (x:CV):Prop:=KeyAt w x.kv x.c.key∧HeldAt w x.hv x.c.held
theorem CV.ok.keep {w w':World} (h:Fr B X w w') {x:CV} (k:x.ok w):x.ok w':=⟨k.1.keep h,k.2.keep h⟩
def encs (xs:List CV):List Value:=xs.flatMap CV.enc
theorem encs_cons (x:CV) (xs:List CV):encs (x::xs)=x.enc++encs xs:=by simp [encs]
theorem encs_append (xs ys:List CV):encs (xs++ys)=encs xs++encs ys:=by simp [encs]
theorem encs_length (xs:List CV):(encs xs).length=xs.length*4:=by
 induction xs with
 |nil=>rfl
 |cons x xs ih=>rw[encs_cons,List.length_append,ih];simp [CV.enc];omega
theorem encs_get : ∀(xs:List CV) (i k:Nat) (h:i<xs.length),k<4→(encs xs)[4*i+k]? =xs[i].enc[k]?
 |[],i,k,h,_=>by simp at h
 |x::xs,0,k,h,hk=>by
   rw[encs_cons,Nat.mul_zero,Nat.zero_add,List.getElem?_append_left (by simpa [CV.enc]using hk)]
   rfl
 |x::xs,i+1,k,h,hk=>by
   rw[encs_cons,List.getElem?_append_right (by simp [CV.enc];omega)]
   have e:4*(i+1)+k-x.enc.length=4*i+k:=by simp [CV.enc];omega
   rw[e,encs_get xs i k (by simpa using h) hk]
   simp
def CellsAt (w:World) (v:Value) (L:List Cell):Prop:= ∃xs:List CV,xs.map CV.c=L∧Row w 100 4 xs.length v (encs xs)∧(∀x∈xs,x.ok w)∧WfL L
theorem CellsAt.keep {w w':World} (h:Fr B X w w') {v:Value} {L:List Cell} (k:CellsAt w v L):CellsAt w' v L:=by
 obtain⟨xs,h1,h2,h3,h4⟩:=k
 exact⟨xs,h1,h2.keep h (by simp [okT]),fun x hx=>(h3 x hx).keep h,h4⟩
theorem CellsAt.wf {w:World} {v:Value} {L:List Cell} (k:CellsAt w v L):WfL L:=k.choose_spec.2.2.2
theorem CellsAt.nil (w:World):CellsAt w (.slice none 0 0) []:=⟨[],rfl,Row.nil w _ _ none 0 (by decide),fun x hx=>(by cases hx),WfL.nil⟩
def LastOk (w:World) (B:Nat) (last:Value):Prop:=
 ∃n xs,w.ownsRow B 156 6 last n xs∧n≤128∧ ∀u∈xs,u.oneCell'=true
def lastRow (last:Value) (k:Nat):Prop:=last.ownBlock=some k
def machV (W:Nat) (ck ct:Int) (last:Value):Array Value:= #[.slice (some ⟨W,0,none⟩) 34 34,.int .i64 ck,.int .i64 ct,last]
structure Adr where
 K:Nat
 lanes:Nat
 board:Nat
 mach:Nat
 words:Nat
 holds:Nat
 list:List Pol
 room:Nat
def polEnc (p:Pol):List Value:=[.int .u8 (p.kind:Nat),.int .i64 p.T,.int .i64 p.tau,.int .i64 p.permits]
def PolsAt (w:World) (v:Value) (L:List Pol):Prop:=Row w 60 4 L.length v (L.flatMap polEnc)
theorem PolsAt.keep {w w':World} (h:Fr B X w w') {v:Value} {L:List Pol} (k:PolsAt w v L):PolsAt w' v L:=Row.keep h k (by simp [okT])
def CoreAt (w:World) (A:Adr):Prop:=
 ∃arr lv,Bx w A.K 71 arr∧arr.size=67∧arr[0]? =some lv∧arr[1]? =some (.int .u64 (A.room:Nat))∧arr[2]? =some (.pointer (some ⟨A.lanes,0,none⟩))∧PolsAt w lv A.list
theorem CoreAt.keep {w w':World} {A:Adr} (hf:Fr B X w w') (hK:A.K∉X) (h:CoreAt w A):CoreAt w' A:=by
 obtain⟨arr,lv,h1,h2,h3,h4,h5,h6⟩:=h
 exact⟨arr,lv,hf.quiet _ _ _ _ h1 (.inr ⟨rfl,hK⟩),h2,h3,h4,h5,h6.keep hf⟩
structure St (w:World) (B:Nat) (A:Adr) (m:Mem):Prop where
 lanes:Bx w A.lanes 84 #[.pointer (some ⟨A.board,0,none⟩),.func (.func 18) #[] #[]]
 board:Bx w A.board 81 #[.pointer (some ⟨A.mach,0,none⟩),.slice (some ⟨A.holds,0,none⟩) 34 34]
 mach: ∃last,Bx w A.mach 121 (machV A.words m.clock m.count last)∧LastOk w B last
 words:Bx w A.words 61 (m.words.map fun(x:Nat)=>Value.int .u64 x).toArray
 nwords:m.words.length=34
 wordlt: ∀i,m.word i<18446744073709551616
 holds: ∃hs:Array Value,hs.size=34∧Bx w A.holds 64 hs∧ ∀i,i<34→ ∃v,hs[i]? =some v∧CellsAt w v (m.hold i)
 nholds:m.holds.length=34
 below:B≤A.mach∧B≤A.words∧B≤A.holds∧B≤w.heap.size
 clock:0≤m.clock∧m.clock≤4611686018427387903
 count:0≤m.count
 core:CoreAt w A
end
end Go.Proofs.YtemnhpdjoimjbaaGreatDoor
