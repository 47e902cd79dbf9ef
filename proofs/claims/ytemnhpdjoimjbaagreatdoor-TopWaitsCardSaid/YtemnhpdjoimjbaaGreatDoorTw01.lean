import Derived.Test.YtemnhpdjoimjbaaGreatDoorProg
import Derived.WalkKit
import Derived.WalkSpells
import Derived.WalkLawsBesides
import Derived.Lib.Hide
import Derived.Deep.QuietTactic
import Derived.BigQuiet
import Derived.Lib.Mul64
import Derived.Laws.Bits64b
namespace Go.Proofs.YtemnhpdjoimjbaaGreatDoor
section
open Go.RowKit
def valL :List Nat→Nat
 |[]=>0
 |d::l=>d+4294967296*valL l
def NormL (l:List Nat):Prop:=(∀d∈l,d<4294967296)∧l.getLast? ≠some 0
def Dig (w:World) (v:Value) (l:List Nat):Prop:=
 ∃a c,v= .slice a l.length c∧l.length≤c∧c≤maxLen∧(0<l.length→ ∃b off,a=some ⟨b,off,none⟩∧ ∀i,i<l.length→w.cell? ⟨b,off+i,none⟩=some (.int .u64 (l.getD i 0:Nat)))
def IsN (w:World) (v:Value) (n:Nat):Prop:= ∃l,Dig w v l∧NormL l∧valL l=n
def NatRes (w:World) (n:Nat) (e:Ending) (w':World):Prop:= ∃v,e= .returned v∧IsN w' v n∧Below w.heap.size w w'
theorem Dig.later {w w':World} {v:Value} {l:List Nat} (h:Dig w v l) (hb:Below w.heap.size w w'):Dig w' v l:=by
 obtain⟨a,c,hv,hl,hc,hr⟩:=h
 refine⟨a,c,hv,hl,hc,fun h0=> ?_⟩
 obtain⟨b,off,ha,hcell⟩:=hr h0
 exact⟨b,off,ha,fun i hi=>cell_later hb (hcell i hi)⟩
theorem IsN.later {w w':World} {v:Value} {n:Nat} (h:IsN w v n) (hb:Below w.heap.size w w'):IsN w' v n:=by
 obtain⟨l,hd,hn,hv⟩:=h
 exact⟨l,hd.later hb,hn,hv⟩
theorem below_drewN {B:Nat} {a w:World} (h:Below B a w) (n:Nat):Below B a (w.drewN n):=by
 exact Go.below_drewN h n
def cutL (l:List Nat):Nat→List Nat
 |0=>[]
 |k+1=>if l.getD k 0=0 then cutL l k else l.take (k+1)
theorem cutL_no {l:List Nat} {k:Nat} (h:l.getD k 0=0):cutL l (k+1)=cutL l k:=by unfold cutL;rw[if_pos h];cases k<;>rfl
theorem cutL_yes {l:List Nat} {k:Nat} (h: ¬l.getD k 0=0):cutL l (k+1)=l.take (k+1):=by unfold cutL;rw[if_neg h]
theorem valL_append (l m:List Nat):valL (l++m)=valL l+4294967296^l.length*valL m:=by
 induction l with
 |nil=>simp [valL]
 |cons d l ih=>simp only[List.cons_append,valL,ih,List.length_cons,Nat.pow_succ,Nat.mul_add];rw[Nat.mul_comm (4294967296^l.length) 4294967296,Nat.mul_assoc];omega
theorem valL_lt (l:List Nat) (h: ∀d∈l,d<4294967296):valL l<4294967296^l.length:=by
 induction l with
 |nil=>simp [valL]
 |cons d l ih=>
   have h1:=ih fun x hx=>h x (List.mem_cons_of_mem _ hx)
   have h2:=h d List.mem_cons_self
   simp only[valL,List.length_cons,Nat.pow_succ]
   omega
theorem getD_mem {l:List Nat} {k:Nat} (h:k<l.length):l.getD k 0∈l:=by
 rw[List.getD_eq_getElem?_getD,List.getElem?_eq_getElem h]
 exact List.getElem_mem h
theorem take_snoc {l:List Nat} {k:Nat} (h:k<l.length):l.take (k+1)=l.take k++[l.getD k 0]:=by
 rw[List.take_succ_eq_append_getElem h,List.getD_eq_getElem?_getD,List.getElem?_eq_getElem h];rfl
theorem cutL_take (l:List Nat): ∀k,k≤l.length→ ∃j,j≤k∧cutL l k=l.take j∧(j=0∨l.getD (j-1) 0≠0)∧valL (l.take k)=valL (l.take j):=by
 intro k
 induction k with
 |zero=>intro _;exact⟨0,Nat.le_refl _,by simp [cutL],Or.inl rfl,rfl⟩
 |succ k ih=>
   intro hk
   by_cases hd:l.getD k 0=0
   · obtain⟨j,h1,h2,h3,h4⟩:=ih (by omega)
     refine⟨j,by omega,by rw[cutL_no hd,h2],h3,?_⟩
     rw[take_snoc (by omega),valL_append,hd,←h4]
     simp [valL]
   · exact⟨k+1,Nat.le_refl _,cutL_yes hd,Or.inr hd,rfl⟩
theorem cutL_val (l:List Nat):valL (cutL l l.length)=valL l:=by
 obtain⟨j,_,h2,_,h4⟩:=cutL_take l l.length (Nat.le_refl _)
 rw[h2,←h4,List.take_length]
theorem cutL_norm (l:List Nat) (h: ∀d∈l,d<4294967296):NormL (cutL l l.length):=by
 obtain⟨j,h1,h2,h3,_⟩:=cutL_take l l.length (Nat.le_refl _)
 rw[h2]
 refine⟨fun d hd=>h d (List.mem_of_mem_take hd),?_⟩
 rcases h3 with rfl|h3
 · simp
 · by_cases hj:j=0
   · subst hj;simp
   · obtain⟨i,rfl⟩:=Nat.exists_eq_succ_of_ne_zero hj
     rw[take_snoc (by omega)]
     simpa using h3
theorem norm_ge {l:List Nat} (h:NormL l) (h0:0<l.length):4294967296^(l.length-1)≤valL l:=by
 obtain⟨_,h2⟩:=h
 have hl:l=l.take (l.length-1)++[l.getD (l.length-1) 0]:=by
   rw[← take_snoc (by omega)]
   rw[show l.length-1+1=l.length by omega,List.take_length]
 have hne:l.getD (l.length-1) 0≠0:=by
   intro h3
   apply h2
   rw[hl,h3]
   simp
 have hv:valL l=valL (l.take (l.length-1))+4294967296^(l.length-1)*l.getD (l.length-1) 0:=by
   conv=>lhs;rw[hl]
   rw[valL_append]
   simp only[valL,List.length_take]
   rw[show min (l.length-1) l.length=l.length-1 by omega]
   simp
 rw[hv]
 have:4294967296^(l.length-1)*1≤4294967296^(l.length-1)*l.getD (l.length-1) 0:=Nat.mul_le_mul_left _ (by omega)
 omega
theorem valL_two (n:Nat):valL [n%4294967296,n/4294967296]=n:=by simp only[valL];omega
theorem dig_two (w:World) (x y:Int) (p q:Nat) (hx:x=(p:Int)) (hy:y=(q:Int)):
   Dig (w.alloc (.cells #[.int .u64 x,.int .u64 y] 61)) (.slice (some ⟨w.heap.size,0,none⟩) 2 2) [p,q]:=by
 subst hx hy
 refine⟨_,2,rfl,Nat.le_refl _,by decide,fun _=>⟨_,0,rfl,fun i hi=> ?_⟩⟩
 match i,hi with
 |0,_=>simp [go_sem]
 |1,_=>simp [go_sem]
theorem below_past {w w':World} {o:Obj} (h:Below (w.alloc o).heap.size (w.alloc o) w'):Below w.heap.size w w':=
 ((Below.refl _ w).alloc (Nat.le_refl _) o).trans (h.mono (by simp))
theorem drop_val {l:List Nat} {k:Nat} (h:k<l.length):valL (l.drop k)=l.getD k 0+4294967296*valL (l.drop (k+1)):=by
 rw[List.drop_eq_getElem_cons h,List.getD_eq_getElem?_getD,List.getElem?_eq_getElem h];rfl
theorem mod_step (v d:Nat):(v%18446744073709551616*4294967296+d)%18446744073709551616=(d+4294967296*v)%18446744073709551616:=by omega
theorem wrap_two (y d:Nat):IntKind.u64.wrap (IntKind.u64.wrap ((y:Int)*4294967296)+(d:Int))=(((y*4294967296+d)%18446744073709551616:Nat):Int):=by
 simp only[IntKind.wrap_u64];omega
theorem fits_iff {l:List Nat} (h:NormL l):decide (((l.length:Nat):Int)≤2)=decide (valL l<18446744073709551616):=by
 have h1:=valL_lt l h.1
 by_cases hl:l.length≤2
 · have:4294967296^l.length≤4294967296^2:=Nat.pow_le_pow_right (by decide) hl
   have e:(4294967296:Nat)^2=18446744073709551616:=by decide
   rw[decide_eq_true (show ((l.length:Nat):Int)≤2 by omega),decide_eq_true (by omega)]
 · have h2:=norm_ge h (by omega)
   have:4294967296^2≤4294967296^(l.length-1):=Nat.pow_le_pow_right (by decide) (by omega)
   have e:(4294967296:Nat)^2=18446744073709551616:=by decide
   rw[decide_eq_false (show ¬((l.length:Nat):Int)≤2 by omega),decide_eq_false (by omega)]
end
section
open Go.RowKit
def tickB (t:Int):Bool:=decide (0≤t∧t≤4611686018427387903)
theorem tickB_yes {t:Int} (h:tickB t=true):0≤t∧t≤4611686018427387903:=by simpa [tickB]using h
theorem tickB_mk {t:Int} (h0:0≤t) (h1:t≤4611686018427387903):tickB t=true:=by simp [tickB,h0,h1]
set_option maxHeartbeats 400000 in
theorem form_any (t:Int) (w:World):
   Calls Tryz.prog 42 #[.int .i64 t] w fun e w'=>e= .returned (.bool (tickB t))∧w=w':=by
 by_cases h0:0≤t
 · by_cases h1:t≤4611686018427387903
   · have e:tickB t=true:=tickB_mk h0 h1
     rw[e]
     go_enter Tryz.func42,Tryz.ntmps42
     go_wp2
     go_ret
     exact⟨rfl,rfl⟩
   · have e:tickB t=false:=by simp [tickB];omega
     rw[e]
     go_enter Tryz.func42,Tryz.ntmps42
     go_wp2
     go_ret
     exact⟨rfl,rfl⟩
 · have e:tickB t=false:=by simp [tickB];omega
   rw[e]
   have hd:decide (0≤t)=false:=by simpa using h0
   go_enter Tryz.func42,Tryz.ntmps42
   go_wp2
   go_ret
   exact⟨rfl,rfl⟩
def clampI (n:Int):Int:=if n<0 then 0 else if n≤4611686018427387903 then n else 4611686018427387903
set_option maxHeartbeats 400000 in
theorem clamp_any (n:Int) (w:World):
   Calls Tryz.prog 67 #[.int .i64 n] w fun e w'=>e= .returned (.int .i64 (clampI n))∧w=w':=by
 by_cases h0:n<0
 · have e:clampI n=0:=by simp [clampI,h0]
   rw[e]
   go_enter Tryz.func67,Tryz.ntmps67
   go_wp2
   go_ret
   exact⟨rfl,rfl⟩
 · by_cases h1:n≤4611686018427387903
   · have e:clampI n=n:=by simp [clampI,h0,h1]
     rw[e]
     go_enter Tryz.func67,Tryz.ntmps67
     go_wp2
     go_ret
     exact⟨rfl,rfl⟩
   · have e:clampI n=4611686018427387903:=by simp [clampI,h0,h1]
     rw[e]
     go_enter Tryz.func67,Tryz.ntmps67
     go_wp2
     go_ret
     exact⟨rfl,rfl⟩
theorem clampI_tick (n:Int):0≤clampI n∧clampI n≤4611686018427387903:=by unfold clampI;split<;>(try split)<;>omega
theorem clampI_id {n:Int} (h0:0≤n) (h1:n≤4611686018427387903):clampI n=n:=by unfold clampI;split<;>(try split)<;>omega
def ceilI (a b:Int):Int:=if 0<a%b then a/b+1 else a/b
theorem div_tick {a b:Int} (a0:0≤a) (h0:0<b):0≤a/b∧a/b≤a∧0≤a%b∧a%b<b:=
 ⟨Int.ediv_nonneg a0 (by omega),Int.ediv_le_self b a0,Int.emod_nonneg a (by omega),Int.emod_lt_of_pos a h0⟩
set_option maxHeartbeats 400000 in
theorem both_yes (a b:Int) (w:World) (ha:tickB a=true) (hb:tickB b=true):
   Calls Tryz.prog 66 #[.int .i64 a,.int .i64 b] w fun e w'=>e= .returned (.int .i64 0)∧w=w':=by
 go_enter Tryz.func66,Tryz.ntmps66
 go_wp2_with (go_at_call 42;with_reducible refine(form_any _ _).mono ?_;rintro e w' ⟨rfl,rfl⟩)
 go_ret
 exact⟨rfl,rfl⟩
set_option maxHeartbeats 400000 in
theorem add_yes (a b:Int) (w:World) (ha:tickB a=true) (hb:tickB b=true):
   Calls Tryz.prog 43 #[.int .i64 a,.int .i64 b] w fun e w'=>e= .returned (.tuple #[.int .i64 (clampI (a+b)),.int .i64 0])∧w=w':=by
 have a0:=(tickB_yes ha).1;have a1:=(tickB_yes ha).2;have b0:=(tickB_yes hb).1;have b1:=(tickB_yes hb).2
 go_enter Tryz.func43,Tryz.ntmps43
 go_wp2_with (first|(go_at_call 66;with_reducible refine(both_yes _ _ _ ha hb).mono ?_;rintro e w' ⟨rfl,rfl⟩)|(go_at_call 67;with_reducible refine(clamp_any _ _).mono ?_;rintro e w' ⟨rfl,rfl⟩))
 go_ret2
 exact⟨rfl,rfl⟩
set_option maxHeartbeats 400000 in
theorem sub_yes (a b:Int) (w:World) (ha:tickB a=true) (hb:tickB b=true):
   Calls Tryz.prog 147 #[.int .i64 a,.int .i64 b] w fun e w'=>e= .returned (.tuple #[.int .i64 (clampI (a-b)),.int .i64 0])∧w=w':=by
 have a0:=(tickB_yes ha).1;have a1:=(tickB_yes ha).2;have b0:=(tickB_yes hb).1;have b1:=(tickB_yes hb).2
 go_enter Tryz.func147,Tryz.ntmps147
 go_wp2_with (first|(go_at_call 66;with_reducible refine(both_yes _ _ _ ha hb).mono ?_;rintro e w' ⟨rfl,rfl⟩)|(go_at_call 67;with_reducible refine(clamp_any _ _).mono ?_;rintro e w' ⟨rfl,rfl⟩))
 go_ret2
 exact⟨rfl,rfl⟩
end
section
open Go.RowKit
def NormRes (w:World) (l:List Nat) (e:Ending) (w':World):Prop:= ∃v,e= .returned v∧Dig w' v (cutL l l.length)∧ ∃n,w'=w.drewN n
set_option maxHeartbeats 400000 in
theorem norm_any (v:Value) (l:List Nat) (w:World) (h:Dig w v l):
   Calls Tryz.prog 41 #[v] w (NormRes w l):=by
 obtain⟨a,c,rfl,hl,hc,hr⟩:=h
 unfold maxLen at hc
 have HL:Hid (∃L,L=l.length):=⟨_,rfl⟩
 have Hr:=Lib.hid hr
 clear hr
 go_enter Tryz.func41,Tryz.ntmps41
 go_wp2
 go_loopw [3] (fun n w'=> ∃k:Nat,k≤l.length∧n= .int .i64 k∧cutL l k=cutL l l.length∧ ∃nd,w'=w.drewN nd) (fun n _=>(intOf n).toNat)
 case atStart=>exact⟨l.length,Nat.le_refl _,rfl,rfl,0,rfl⟩
 case round=>
   obtain⟨k,hk,rfl,hcut,nd,rfl⟩:=hrel
   have Hcut:=Lib.hid hcut
   clear hcut
   cases k with
   |zero=>
     go_wp2
     go_ret
     refine⟨_,rfl,?_,nd,rfl⟩
     rw[← Hcut.out]
     exact⟨a,c,rfl,Nat.zero_le _,by unfold maxLen;omega,fun h0=>absurd h0 (by simp [cutL])⟩
   |succ m=>
     obtain⟨b,off,rfl,hcell⟩:=Hr.out (by omega)
     have hcm:=hcell m (by omega)
     have Hcell:=Lib.hid hcell
     clear hcell
     by_cases hd:l.getD m 0=0
     · have Hcut':Hid (cutL l m=cutL l l.length):=(cutL_no hd).symm.trans Hcut.out
       rw[hd]at hcm
       clear hd Hcut
       go_wp2
       go_roundw
       case rel=>exact⟨m,by omega,by go_num,Hcut'.out,nd,rfl⟩
       case measure=>simp [intOf]
     · have hd0:((l.getD m 0:Nat):Int)≠0:=by omega
       have hd1:(((l.getD m 0:Nat):Int)==0)=false:=beq_eq_false_iff_ne.2 hd0
       have Hcut':Hid (l.take (m+1)=cutL l l.length):=(cutL_yes hd).symm.trans Hcut.out
       generalize hg:l.getD m 0=x at*
       have Hg:=Lib.hid hg
       clear hg hd hd0 Hcut
       go_wp2
       go_ret
       refine⟨.slice (some ⟨b,off,none⟩) (m+1) c,rfl,?_,nd,rfl⟩
       rw[← Hcut'.out]
       have hlen:(l.take (m+1)).length=m+1:=by rw[List.length_take];omega
       refine⟨_,c,by rw[hlen],by omega,by unfold maxLen;omega,fun _=>⟨b,off,rfl,fun i hi=> ?_⟩⟩
       simp at hi
       rw[World.cell?_drewN]
       rw[Hcell.out i (by omega)]
       simp [List.getD_eq_getElem?_getD,show i<m+1 by omega]
theorem norm_N (v:Value) (l:List Nat) (w:World) (h:Dig w v l) (hd: ∀d∈l,d<4294967296):
   Calls Tryz.prog 41 #[v] w (NatRes w (valL l)):=by
 refine(norm_any v l w h).mono fun e w' hr=> ?_
 obtain⟨v',rfl,hv,n,rfl⟩:=hr
 exact⟨v',rfl,⟨_,hv.later ((Below.refl _ _)),cutL_norm l hd,cutL_val l⟩,below_drewN (Below.refl _ _) n⟩
set_option maxHeartbeats 400000 in
theorem word_any (n:Nat) (w:World) (hn:n<18446744073709551616):
   Calls Tryz.prog 23 #[.int .u64 n] w (NatRes w n):=by
 have hb:(n:Int)<18446744073709551616:=by omega
 go_enter Tryz.func23,Tryz.ntmps23
 go_wp2_with (go_at_call 41;with_reducible refine(norm_N _ [n%4294967296,n/4294967296] _ (dig_two _ _ _ _ _ (by omega) (by omega)) ?_).mono ?_)
 · intro d hd
   simp at hd
   omega
 · rintro e w' ⟨v,rfl,hv,hb⟩
   rw[valL_two]at hv
   have Hb:=Lib.hid (below_past hb)
   clear hb
   go_wp2
   go_ret
   exact⟨v,rfl,hv,Hb.out⟩
def FitsRes (w:World) (n:Nat) (e:Ending) (w':World):Prop:= ∃x:Nat,e= .returned (.tuple #[.int .u64 x,.bool (decide (n<18446744073709551616))])∧(n<18446744073709551616→x=n)∧x<18446744073709551616∧ ∃nd,w'=w.drewN nd
set_option maxHeartbeats 400000 in
theorem fits_any (v:Value) (n:Nat) (w:World) (h:IsN w v n):
   Calls Tryz.prog 40 #[v] w (FitsRes w n):=by
 obtain⟨l,⟨a,c,rfl,hl,hc,hr⟩,hn,rfl⟩:=h
 unfold maxLen at hc
 have Hn:=Lib.hid hn
 have Hr:=Lib.hid hr
 clear hr hn
 go_enter Tryz.func40,Tryz.ntmps40
 go_wp2
 go_loopw [4,5] (fun x i w'=> ∃(k y:Nat),k≤l.length∧i= .int .i64 ((k:Int)-1)∧x= .int .u64 y∧y=valL (l.drop k)%18446744073709551616∧ ∃nd,w'=w.drewN nd) (fun _ i _=>(intOf i+1).toNat)
 case atStart=>exact⟨l.length,0,Nat.le_refl _,rfl,rfl,by simp [valL],0,rfl⟩
 case round=>
   obtain⟨k,y,hk,rfl,rfl,hy,nd,rfl⟩:=hrel
   have Hy:=Lib.hid hy
   clear hy
   cases k with
   |zero=>
     go_wp2
     go_ret2
     have hlt:=Hy.out
     rw[List.drop_zero]at hlt
     refine⟨y,?_,?_,?_,nd,rfl⟩
     · rw[show decide (((l.length:Nat):Int)≤2)=decide (valL l<18446744073709551616)from fits_iff Hn.out];rfl
     · intro h;rw[hlt,Nat.mod_eq_of_lt h]
     · rw[hlt];exact Nat.mod_lt _ (by decide)
   |succ m=>
     obtain⟨b,off,rfl,hcell⟩:=Hr.out (by omega)
     have hcm:=hcell m (by omega)
     clear hcell
     have Hval:Hid ((y*4294967296+l.getD m 0)%18446744073709551616=valL (l.drop m)%18446744073709551616):=by
       rw[Hy.out,drop_val (l:=l) (k:=m) (by omega)]
       exact mod_step _ _
     generalize hg:l.getD m 0=d at*
     have Hg:=Lib.hid hg
     clear hg
     go_wp2
     go_roundw
     case rel=>exact⟨m,(y*4294967296+d)%18446744073709551616,by omega,rfl,by rw[wrap_two],Hval.out,nd,rfl⟩
     case measure=>simp [intOf]
def heldN (n:Nat):Nat:=if n≤4611686018427387903 then n else 4611686018427387903
def IntRes (w:World) (k:Int) (e:Ending) (w':World):Prop:=e= .returned (.int .i64 k)∧Below w.heap.size w w'
def TwoRes (w:World) (k f:Int) (e:Ending) (w':World):Prop:=e= .returned (.tuple #[.int .i64 k,.int .i64 f])∧Below w.heap.size w w'
def ThreeRes (w:World) (a b f:Int) (e:Ending) (w':World):Prop:=e= .returned (.tuple #[.int .i64 a,.int .i64 b,.int .i64 f])∧Below w.heap.size w w'
set_option maxHeartbeats 400000 in
theorem held_any (v:Value) (n:Nat) (w:World) (h:IsN w v n):
   Calls Tryz.prog 22 #[v] w (IntRes w (heldN n)):=by
 have Kf:=Lib.hid (fits_any v n w h)
 by_cases h1:n<18446744073709551616
 · have d1:decide (n<18446744073709551616)=true:=decide_eq_true h1
   by_cases h2:n≤4611686018427387903
   · have e:heldN n=n:=if_pos h2
     rw[e]
     have h3:(n:Int)≤4611686018427387903:=by omega
     have H1:=Lib.hid h1;have D1:=Lib.hid d1
     clear h e h1 d1 h2
     go_enter Tryz.func22,Tryz.ntmps22
     go_wp2_with (go_at_call 40;with_reducible refine Kf.out.mono ?_)
     rintro e w' ⟨x,rfl,hx,_,nd,rfl⟩
     obtain rfl:=hx H1.out
     rw[D1.out]
     clear hx
     go_wp2
     go_ret
     exact⟨rfl,below_drewN (Below.refl _ _) _⟩
   · have e:heldN n=4611686018427387903:=if_neg h2
     rw[e]
     have h3:4611686018427387903<(n:Int):=by omega
     have H1:=Lib.hid h1;have D1:=Lib.hid d1
     clear h e h1 d1 h2
     go_enter Tryz.func22,Tryz.ntmps22
     go_wp2_with (go_at_call 40;with_reducible refine Kf.out.mono ?_)
     rintro e w' ⟨x,rfl,hx,_,nd,rfl⟩
     obtain rfl:=hx H1.out
     rw[D1.out]
     clear hx
     go_wp2
     go_ret
     exact⟨rfl,below_drewN (Below.refl _ _) _⟩
 · have e:heldN n=4611686018427387903:=if_neg (by omega)
   rw[e]
   have d1:decide (n<18446744073709551616)=false:=decide_eq_false h1
   have D1:=Lib.hid d1
   clear h e h1 d1
   go_enter Tryz.func22,Tryz.ntmps22
   go_wp2_with (go_at_call 40;with_reducible refine Kf.out.mono ?_)
   rintro e w' ⟨x,rfl,hx,_,nd,rfl⟩
   rw[D1.out]
   clear hx
   go_wp2
   go_ret
   exact⟨rfl,below_drewN (Below.refl _ _) _⟩
theorem heldN_clamp (n:Nat):((heldN n:Nat):Int)=clampI n:=by
 unfold heldN clampI
 repeat' split
 all_goals omega
set_option maxHeartbeats 400000 in
theorem rclamp_any (n:Int) (w:World) (hn:n≤9223372036854775807):
   Calls Tryz.prog 10 #[.int .i64 n] w (IntRes w (clampI n)):=by
 by_cases h0:n<0
 · have e:clampI n=0:=by simp [clampI,h0]
   rw[e]
   clear e
   go_enter Tryz.func10,Tryz.ntmps10
   go_wp2_with fail
   go_ret
   exact⟨rfl,Below.refl _ _⟩
 · obtain⟨k,rfl⟩:=Int.eq_ofNat_of_zero_le (show 0≤n by omega)
   have hk:k<18446744073709551616:=by omega
   rw[← heldN_clamp]
   generalize hh:heldN k=r
   have Hh:=Lib.hid hh
   have hk0: ¬(k:Int)<0:=h0
   have Hk:=Lib.hid hk
   clear hh hk
   go_enter Tryz.func10,Tryz.ntmps10
   go_wp2_with (go_at_call 23;with_reducible refine(word_any _ _ Hk.out).mono ?_)
   rintro e w1 ⟨v,rfl,hv,hb⟩
   go_wp2_with (go_at_call 22;with_reducible refine(held_any _ _ _ hv).mono ?_)
   rintro e w2 ⟨rfl,hb2⟩
   rw[Hh.out]
   go_wp2
   go_ret
   exact⟨rfl,hb.trans (hb2.mono hb.size)⟩
end
section
open Go.RowKit
namespace M64
theorem maskN (a:Nat) (ha:a<18446744073709551616):bits .and .u64 (a:Int) 4294967295=((a%4294967296:Nat):Int):=by
 have h:=bits_and_u64_nat a 4294967295 ha (by omega)
 have e:a &&& 4294967295=a%4294967296:=Nat.and_two_pow_sub_one_eq_mod a 32
 rw[e]at h
 exact h
theorem divN (a:Nat):(a:Int)/4294967296=((a/4294967296:Nat):Int):=by omega
theorem mulN (a b:Nat):(a:Int)*(b:Int)=((a*b:Nat):Int):=(Int.natCast_mul a b).symm
theorem addN (a b:Nat):(a:Int)+(b:Int)=((a+b:Nat):Int):=(Int.natCast_add a b).symm
theorem wrapN (a:Nat) (ha:a<18446744073709551616):IntKind.u64.wrap (a:Int)=(a:Int):=by rw[IntKind.wrap_u64];omega
theorem wrapM (a:Nat):IntKind.u64.wrap (a:Int)=((a%18446744073709551616:Nat):Int):=by rw[IntKind.wrap_u64];omega
end M64
set_option maxHeartbeats 1000000 in
theorem mul64_any (x y:Nat) (hx:x<18446744073709551616) (hy:y<18446744073709551616) (w:World):
   Calls Tryz.prog 184 #[.int .u64 x,.int .u64 y] w fun e w'=>e= .returned (.tuple #[.int .u64 ((x*y/18446744073709551616:Nat):Int),.int .u64 ((x*y%18446744073709551616:Nat):Int)])∧w=w':=by
 obtain⟨bd,bt,bw,hhi⟩:=Lib.mul64_hi x y hx hy
 have ba:=Lib.half_mul_le (a:=x/4294967296) (b:=y/4294967296) (by omega) (by omega)
 have bb:=Lib.half_mul_le (a:=x/4294967296) (b:=y%4294967296) (by omega) (by omega)
 have bc:=Lib.half_mul_le (a:=x%4294967296) (b:=y/4294967296) (by omega) (by omega)
 have ba':x/4294967296*(y/4294967296)<18446744073709551616:=by omega
 have bb':x/4294967296*(y%4294967296)<18446744073709551616:=by omega
 have bc':x%4294967296*(y/4294967296)<18446744073709551616:=by omega
 have bh1:x/4294967296*(y/4294967296)+(x/4294967296*(y%4294967296)+x%4294967296*(y%4294967296)/4294967296)/4294967296<18446744073709551616:=by omega
 have bh:x/4294967296*(y/4294967296)+(x/4294967296*(y%4294967296)+x%4294967296*(y%4294967296)/4294967296)/4294967296+((x/4294967296*(y%4294967296)+x%4294967296*(y%4294967296)/4294967296)%4294967296+x%4294967296*(y/4294967296))/4294967296<18446744073709551616:=by omega
 go_enter Tryz.func184,Tryz.ntmps184
 go_wp2
 simp only[M64.maskN x hx,M64.maskN y hy,M64.divN,M64.mulN,M64.addN,M64.wrapN _ bd,M64.wrapN _ bb',M64.wrapN _ bt,M64.maskN _ bt,M64.wrapN _ bc',M64.wrapN _ bw,M64.wrapN _ ba',M64.wrapN _ bh1,M64.wrapN _ bh,M64.wrapM (x*y)]
 rw[hhi]
 go_ret2
 exact⟨rfl,rfl⟩
end
end Go.Proofs.YtemnhpdjoimjbaaGreatDoor
