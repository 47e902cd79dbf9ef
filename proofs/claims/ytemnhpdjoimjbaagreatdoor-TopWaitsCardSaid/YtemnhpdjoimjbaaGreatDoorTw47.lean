import Derived.Test.YtemnhpdjoimjbaaGreatDoorTw01
import Derived.Laws.MathBits
import Derived.Deep.QuietTactic
import Derived.BigQuiet
import Derived.IntWalk
namespace Go.Proofs.YtemnhpdjoimjbaaGreatDoor
section
open Go.RowKit
def dgt (d:Nat):Value:= .int .u64 (d:Int)
theorem getD_past {l:List Nat} {k:Nat} (h: ¬k<l.length):l.getD k 0=0:=by
 rw[List.getD_eq_getElem?_getD,List.getElem?_eq_none (by omega)];rfl
theorem take_val (l:List Nat) (k:Nat):valL (l.take (k+1))=valL (l.take k)+4294967296^k*l.getD k 0:=by
 by_cases h:k<l.length
 · rw[take_snoc h,valL_append]
   simp only[valL,List.length_take]
   rw[show min k l.length=k by omega]
   simp
 · rw[List.take_of_length_le (by omega),List.take_of_length_le (by omega),List.getD_eq_getElem?_getD,List.getElem?_eq_none (by omega)]
   simp
theorem dig_of_own {w:World} {B:Nat} {e:TypeId} {v:Value} {l:List Nat} (h:w.ownsRow B e 1 v l.length (l.map dgt)):Dig w v l:=by
 have h':=h
 obtain⟨_,⟨rfl,h0⟩|⟨g,cap,cur,rfl,_,_,hn,hm,_,_⟩⟩:=h
 · exact⟨none,0,by rw[h0],by omega,by decide,fun hp=>by omega⟩
 · refine⟨_,cap,rfl,hn,hm,fun _=>⟨g,0,rfl,fun i hi=> ?_⟩⟩
   rw[Nat.zero_add,h'.cellAt i (by omega)]
   simp [List.getElem?_map,List.getElem?_eq_getElem hi,dgt]
theorem own_snoc {w:World} {B:Nat} {e:TypeId} {v:Value} {l:List Nat} {k:Nat} {s:Int} (h:w.ownsRow B e 1 v (k+1) (l.map dgt++[.int .u64 s])) (hk:l.length=k) (d:Nat) (hs:s=(d:Int)):
   w.ownsRow B e 1 v (l++[d]).length ((l++[d]).map dgt):=by
 subst hs hk
 simpa [dgt]using h
def PlusRel (B:Nat) (w:World) (la lb:List Nat) (k:Nat) (c:Value) (cy:Nat) (wr:World):Prop:=
 ∃cs:List Nat,cs.length=k∧(∀d∈cs,d<4294967296)∧wr.ownsRow B 61 1 c cs.length (cs.map dgt)∧
   valL cs+4294967296^k*cy=valL (la.take k)+valL (lb.take k)∧Below B w wr
theorem len_le {l:List Nat} {m:Nat} (h:NormL l) (hv:valL l<2^m):l.length≤m/32+1:=by
 by_cases h0:0<l.length
 · have h1:=norm_ge h h0
   have h2:(4294967296:Nat)^(l.length-1)<2^m:=Nat.lt_of_le_of_lt h1 hv
   rw[show (4294967296:Nat)=2^32 from rfl,←Nat.pow_mul]at h2
   have h3:=(Nat.pow_lt_pow_iff_right (by decide:1<2)).1 h2
   omega
 · omega
theorem getD_set_ne {l:List Nat} {p q d:Nat} (h:q≠p):(l.set p d).getD q 0=l.getD q 0:=by
 rw[List.getD_eq_getElem?_getD,List.getD_eq_getElem?_getD,List.getElem?_set_ne (by omega)]
theorem set_val (l:List Nat): ∀(p d:Nat),p<l.length→valL (l.set p d)+4294967296^p*l.getD p 0=valL l+4294967296^p*d:=by
 induction l with
 |nil=>intro p d h;simp at h
 |cons x l ih=>
   intro p d h
   cases p with
   |zero=>simp [valL];omega
   |succ p=>
     have:=ih p d (by simpa using h)
     simp only[List.set_cons_succ,valL,List.getD_cons_succ,Nat.pow_succ]
     rw[Nat.mul_comm (4294967296^p) 4294967296,Nat.mul_assoc,Nat.mul_assoc]
     omega
theorem set_digits {l:List Nat} {p d:Nat} (h: ∀x∈l,x<4294967296) (hd:d<4294967296): ∀x∈l.set p d,x<4294967296:=by
 intro x hx
 rcases List.mem_or_eq_of_mem_set hx with hx|rfl
 · exact h x hx
 · exact hd
theorem digit_mul (x y:Nat) (hx:x<4294967296) (hy:y<4294967296):x*y≤18446744065119617025:=Nat.mul_le_mul (by omega:x≤4294967295) (by omega:y≤4294967295)
theorem valL_zeros (n:Nat):valL (List.replicate n 0)=0:=by
 induction n with
 |zero=>rfl
 |succ n ih=>simp [List.replicate_succ,valL,ih]
def OwnD (wr:World) (B g:Nat) (cs:List Nat):Prop:=wr.ownsRow B 61 1 (.slice (some ⟨g,0,none⟩) cs.length cs.length) cs.length (cs.map dgt)
theorem OwnD.cell {wr:World} {B g:Nat} {cs:List Nat} (h:OwnD wr B g cs) {q:Nat} (hq:q<cs.length):wr.cell? ⟨g,q,none⟩=some (.int .u64 (cs.getD q 0:Nat)):=by
 rw[World.ownsRow.cellAt h q (by omega)]
 simp [List.getElem?_map,List.getElem?_eq_getElem hq,dgt]
theorem OwnD.free {wr:World} {B g:Nat} {cs:List Nat} (h:OwnD wr B g cs) (q:Nat):wr.frozen? ⟨g,q,none⟩=false:=World.ownsRow.frozenAt h q
theorem OwnD.le {wr:World} {B g:Nat} {cs:List Nat} (h:OwnD wr B g cs):B≤g:=(World.ownsRow.lt h g rfl).1
theorem OwnD.stored {wr:World} {B g:Nat} {cs:List Nat} (h:OwnD wr B g cs) (q d:Nat):OwnD (wr.setCell ⟨g,q,none⟩ (.int .u64 (d:Nat))) B g (cs.set q d):=by
 have:=(World.ownsRow.stored h q (.int .u64 (d:Nat))).1
 unfold OwnD
 rw[List.length_set,List.map_set]
 exact this
theorem OwnD.drewN {wr:World} {B g:Nat} {cs:List Nat} (h:OwnD wr B g cs) (n:Nat):OwnD (wr.drewN n) B g cs:=h
theorem OwnD.dig {wr:World} {B g:Nat} {cs:List Nat} (h:OwnD wr B g cs):Dig wr (.slice (some ⟨g,0,none⟩) cs.length cs.length) cs:=dig_of_own h
def TimesIn (B g:Nat) (w:World) (la lb:List Nat) (i j cy:Nat) (wr:World):Prop:=
 ∃cs:List Nat,cs.length=la.length+lb.length∧(∀d∈cs,d<4294967296)∧(∀q,i+lb.length≤q→cs.getD q 0=0)∧OwnD wr B g cs∧
   valL cs+4294967296^(i+j)*cy=valL (la.take i)*valL lb+4294967296^i*(la.getD i 0*valL (lb.take j))∧Below B w wr
def TimesOut (B g:Nat) (w:World) (la lb:List Nat) (i:Nat) (wr:World):Prop:=
 ∃cs:List Nat,cs.length=la.length+lb.length∧(∀d∈cs,d<4294967296)∧(∀q,i+lb.length≤q→cs.getD q 0=0)∧OwnD wr B g cs∧
   valL cs=valL (la.take i)*valL lb∧Below B w wr
theorem times_in {B g:Nat} {w wr:World} {la lb:List Nat} {i:Nat} (h:TimesOut B g w la lb i wr):TimesIn B g w la lb i 0 0 wr:=by
 obtain⟨cs,h1,h2,h3,h4,h5,h6⟩:=h
 exact⟨cs,h1,h2,h3,h4,by simp [h5,valL],h6⟩
theorem times_step {B g:Nat} {w wr:World} {la lb cs:List Nat} {i j cy:Nat}
   (h1:cs.length=la.length+lb.length) (h2: ∀d∈cs,d<4294967296) (h3: ∀q,i+lb.length≤q→cs.getD q 0=0) (h4:OwnD wr B g cs)
   (h5:valL cs+4294967296^(i+j)*cy=valL (la.take i)*valL lb+4294967296^i*(la.getD i 0*valL (lb.take j))) (h6:Below B w wr)
   (hi:i<la.length) (hj:j<lb.length) (n:Nat):
   TimesIn B g w la lb i (j+1) ((cy+(la.getD i 0*lb.getD j 0+cs.getD (i+j) 0))/4294967296)
     ((wr.drewN n).setCell ⟨g,i+j,none⟩ (.int .u64 (((cy+(la.getD i 0*lb.getD j 0+cs.getD (i+j) 0))%4294967296:Nat):Int))):=by
 refine⟨cs.set (i+j) ((cy+(la.getD i 0*lb.getD j 0+cs.getD (i+j) 0))%4294967296),by simp [h1],set_digits h2 (Nat.mod_lt _ (by decide)),?_,(h4.drewN n).stored _ _,?_,?_⟩
 · intro q hq
   rw[getD_set_ne (by omega)]
   exact h3 q hq
 · have e:=set_val cs (i+j) ((cy+(la.getD i 0*lb.getD j 0+cs.getD (i+j) 0))%4294967296) (by omega)
   rw[take_val lb j]
   generalize cs.getD (i+j) 0=z at*
   generalize la.getD i 0=x at*
   generalize lb.getD j 0=y at*
   generalize hr:valL (cs.set (i+j) ((cy+(x*y+z))%4294967296))=r at*
   generalize valL cs=vc at*
   generalize valL (la.take i)*valL lb=m at*
   have e3:4294967296^i*(x*(valL (lb.take j)+4294967296^j*y))=4294967296^i*(x*valL (lb.take j))+4294967296^(i+j)*(x*y):=by
     rw[Nat.mul_add,Nat.mul_add,Nat.pow_add]
     congr 1
     rw[Nat.mul_left_comm x,Nat.mul_assoc]
   rw[e3]
   generalize 4294967296^i*(x*valL (lb.take j))=t at*
   rw[← Nat.add_assoc i j 1,Nat.pow_succ]
   generalize 4294967296^(i+j)=p at*
   have e2:=Nat.div_add_mod (cy+(x*y+z)) 4294967296
   have e4:p*(cy+(x*y+z))=p*cy+(p*(x*y)+p*z):=by rw[Nat.mul_add,Nat.mul_add]
   have e5:p*(4294967296*((cy+(x*y+z))/4294967296)+(cy+(x*y+z))%4294967296)=p*4294967296*((cy+(x*y+z))/4294967296)+p*((cy+(x*y+z))%4294967296):=by
     rw[Nat.mul_add,Nat.mul_assoc]
   rw[e2]at e5
   omega
 · exact(below_drewN h6 n).setCell (by exact h4.le) _
theorem times_close {B g:Nat} {w wr:World} {la lb cs:List Nat} {i cy:Nat}
   (h1:cs.length=la.length+lb.length) (h2: ∀d∈cs,d<4294967296) (h3: ∀q,i+lb.length≤q→cs.getD q 0=0) (h4:OwnD wr B g cs)
   (h5:valL cs+4294967296^(i+lb.length)*cy=valL (la.take i)*valL lb+4294967296^i*(la.getD i 0*valL (lb.take lb.length))) (h6:Below B w wr)
   (hi:i<la.length) (hcy:cy<4294967296):
   TimesOut B g w la lb (i+1) (wr.setCell ⟨g,i+lb.length,none⟩ (.int .u64 (cy:Nat))):=by
 refine⟨cs.set (i+lb.length) cy,by simp [h1],set_digits h2 hcy,?_,h4.stored _ _,?_,?_⟩
 · intro q hq
   rw[getD_set_ne (by omega)]
   exact h3 q (by omega)
 · have e:=set_val cs (i+lb.length) cy (by omega)
   rw[h3 _ (Nat.le_refl _)]at e
   rw[List.take_length]at h5
   rw[take_val la i,Nat.add_mul,Nat.mul_assoc]
   omega
 · exact h6.setCell (by exact h4.le) _
end
section
open Go.RowKit
theorem split_val {l:List Nat} {m:Nat} (h:m<l.length):valL l=valL (l.take m)+4294967296^m*(l.getD m 0+4294967296*valL (l.drop (m+1))):=by
 rw[← drop_val h]
 conv=>lhs;rw[← List.take_append_drop m l]
 rw[valL_append,List.length_take,show min m l.length=m by omega]
theorem take_lt {l:List Nat} (hd: ∀d∈l,d<4294967296) (m:Nat) (h:m≤l.length):valL (l.take m)<4294967296^m:=by
 have:=valL_lt (l.take m) (fun d hx=>hd d (List.mem_of_mem_take hx))
 rwa [List.length_take,show min m l.length=m by omega]at this
theorem len_lt {la lb:List Nat} (ha:NormL la) (hb:NormL lb) (h:la.length<lb.length):valL la<valL lb:=by
 have h1:=valL_lt la ha.1
 have h2:=norm_ge hb (by omega)
 have h3:4294967296^la.length≤4294967296^(lb.length-1):=Nat.pow_le_pow_right (by decide) (by omega)
 omega
theorem digit_lt {la lb:List Nat} (ha:NormL la) (hl:la.length=lb.length) {m:Nat} (hm:m<la.length)
   (he:la.drop (m+1)=lb.drop (m+1)) (h:la.getD m 0<lb.getD m 0):valL la<valL lb:=by
 rw[split_val hm,split_val (l:=lb) (m:=m) (by omega),he]
 have h1:=take_lt ha.1 m (by omega)
 have h2:4294967296^m*(la.getD m 0+1)≤4294967296^m*lb.getD m 0:=Nat.mul_le_mul_left _ h
 rw[Nat.mul_add]at h2 ⊢
 rw[Nat.mul_add]
 omega
def cmpI (a b:Nat):Int:=if a<b then -1 else if b<a then 1 else 0
theorem cmpI_lt {a b:Nat} (h:a<b):cmpI a b= -1:=if_pos h
theorem cmpI_gt {a b:Nat} (h:b<a):cmpI a b=1:=by unfold cmpI;rw[if_neg (by omega),if_pos h]
theorem cmpI_eq (a:Nat):cmpI a a=0:=by unfold cmpI;rw[if_neg (by omega),if_neg (by omega)]
theorem cmpI_le {a b:Nat}:cmpI a b≤0↔a≤b:=by unfold cmpI;split<;>(try split)<;>omega
theorem drop_eq_step {la lb:List Nat} {m:Nat} (ha:m<la.length) (hb:m<lb.length) (he:la.drop (m+1)=lb.drop (m+1)) (h:la.getD m 0=lb.getD m 0):la.drop m=lb.drop m:=by
 rw[List.drop_eq_getElem_cons ha,List.drop_eq_getElem_cons hb,he]
 congr 1
 rw[List.getD_eq_getElem?_getD,List.getElem?_eq_getElem ha,List.getD_eq_getElem?_getD,List.getElem?_eq_getElem hb]at h
 exact h
def MinusRel (B g:Nat) (w:World) (la lb:List Nat) (k bw:Nat) (wr:World):Prop:=
 ∃cs:List Nat,cs.length=la.length∧(∀d∈cs,d<4294967296)∧(∀q,k≤q→cs.getD q 0=0)∧OwnD wr B g cs∧
   valL cs+valL (lb.take k)=valL (la.take k)+4294967296^k*bw∧Below B w wr
theorem minus_step {B g:Nat} {w wr:World} {la lb cs:List Nat} {k bw:Nat}
   (h1:cs.length=la.length) (h2: ∀d∈cs,d<4294967296) (h3: ∀q,k≤q→cs.getD q 0=0) (h4:OwnD wr B g cs)
   (h5:valL cs+valL (lb.take k)=valL (la.take k)+4294967296^k*bw) (h6:Below B w wr) (hk:k<la.length) (hbw:bw≤1)
   (hx:la.getD k 0<4294967296) (hy:lb.getD k 0<4294967296):
   MinusRel B g w la lb (k+1) (1-(la.getD k 0+4294967296-bw-lb.getD k 0)/4294967296)
     (wr.setCell ⟨g,k,none⟩ (.int .u64 (((la.getD k 0+4294967296-bw-lb.getD k 0)%4294967296:Nat):Int))):=by
 refine⟨cs.set k ((la.getD k 0+4294967296-bw-lb.getD k 0)%4294967296),by simp [h1],set_digits h2 (Nat.mod_lt _ (by decide)),?_,h4.stored _ _,?_,h6.setCell (by exact h4.le) _⟩
 · intro q hq
   rw[getD_set_ne (by omega)]
   exact h3 q (by omega)
 · have e:=set_val cs k ((la.getD k 0+4294967296-bw-lb.getD k 0)%4294967296) (by omega)
   rw[h3 _ (Nat.le_refl _)]at e
   rw[take_val la k,take_val lb k,Nat.pow_succ]
   generalize la.getD k 0=x at*
   generalize lb.getD k 0=y at*
   generalize valL (cs.set k ((x+4294967296-bw-y)%4294967296))=r at*
   generalize 4294967296^k=p at*
   have e1:=Nat.div_add_mod (x+4294967296-bw-y) 4294967296
   have hq:(x+4294967296-bw-y)/4294967296≤1:=by omega
   generalize (x+4294967296-bw-y)/4294967296=q at*
   generalize (x+4294967296-bw-y)%4294967296=z at*
   have e2:bw+z+y=x+4294967296*(1-q):=by omega
   have e3:p*(bw+z+y)=p*(x+4294967296*(1-q)):=by rw[e2]
   rw[Nat.mul_add,Nat.mul_add,Nat.mul_add,←Nat.mul_assoc]at e3
   omega
theorem minus_end {la lb cs:List Nat} {bw:Nat} (hl:cs.length=la.length) (hd: ∀d∈cs,d<4294967296) (hb:lb.length≤la.length)
   (h5:valL cs+valL (lb.take la.length)=valL (la.take la.length)+4294967296^la.length*bw) (h:valL lb≤valL la):valL cs=valL la-valL lb:=by
 rw[List.take_length,List.take_of_length_le hb]at h5
 have h1:=valL_lt cs hd
 rw[hl]at h1
 cases bw with
 |zero=>omega
 |succ b=>
   rw[Nat.mul_add]at h5
   have:=Nat.zero_le (4294967296^la.length*b)
   omega
def LeftRel (B:Nat) (w:World) (la:List Nat) (q s k:Nat) (c:Value) (cy:Nat) (wr:World):Prop:=
 ∃cs:List Nat,cs.length=q+k∧(∀d∈cs,d<4294967296)∧wr.ownsRow B 61 1 c cs.length (cs.map dgt)∧
   valL cs+4294967296^(q+k)*cy=4294967296^q*(2^s*valL (la.take k))∧Below B w wr
theorem left_step {B:Nat} {w wr w1:World} {la cs:List Nat} {q s k cy:Nat} {c c1:Value} {x:Int}
   (hl:cs.length=q+k) (hd: ∀d∈cs,d<4294967296) (hv:valL cs+4294967296^(q+k)*cy=4294967296^q*(2^s*valL (la.take k))) (hb:Below B w wr) (hB:B≤wr.heap.size)
   (hc: ∀g,c.ownBlock=some g→B≤g)
   (o:Obj) (hown:w1.ownsRow B 61 1 c1 (q+k+1) (cs.map dgt++[.int .u64 x])) (hg:(wr.alloc o).grownBy w1 c.ownBlock)
   (hx:x=(((la.getD k 0*2^s+cy)%4294967296:Nat):Int)):
   LeftRel B w la q s (k+1) c1 ((la.getD k 0*2^s+cy)/4294967296) w1:=by
 refine⟨cs++[(la.getD k 0*2^s+cy)%4294967296],by simp [hl];omega,?_,own_snoc hown hl _ hx,?_,?_⟩
 · intro d h
   rcases List.mem_append.1 h with h|h
   · exact hd d h
   · simp at h;rw[h];exact Nat.mod_lt _ (by decide)
 · rw[valL_append,take_val,hl,←Nat.add_assoc q k 1,Nat.pow_succ]
   simp only[valL]
   generalize la.getD k 0=y
   have e3:4294967296^q*(2^s*(valL (la.take k)+4294967296^k*y))=4294967296^q*(2^s*valL (la.take k))+4294967296^(q+k)*(y*2^s):=by
     rw[Nat.mul_add,Nat.mul_add,Nat.pow_add]
     congr 1
     rw[Nat.mul_left_comm (2^s),Nat.mul_assoc,Nat.mul_comm (2^s) y]
   rw[e3]
   generalize 4294967296^q*(2^s*valL (la.take k))=m at*
   generalize 4294967296^(q+k)=p at*
   generalize y*2^s=z at*
   have e:=Nat.div_add_mod (z+cy) 4294967296
   rw[Nat.mul_assoc p 4294967296 _,Nat.mul_zero,Nat.add_zero,Nat.add_assoc,←Nat.mul_add,Nat.add_comm ((z+cy)%4294967296),e,Nat.mul_add]
   omega
 · exact(hb.alloc hB o).grown hg (by simp;omega) hc
theorem left_end {la cs:List Nat} {q s k cy:Nat} (hl:cs.length=q+k) (hk:la.length≤k) (n:Nat) (hq:n=32*q+s)
   (hv:valL cs+4294967296^(q+k)*cy=4294967296^q*(2^s*valL (la.take k))):valL (cs++[cy])=valL la*2^n:=by
 rw[valL_append,hl]
 simp only[valL,Nat.mul_zero,Nat.add_zero]
 rw[hv,List.take_of_length_le hk,show(4294967296:Nat)=2^32 from rfl,←Nat.pow_mul,←Nat.mul_assoc,←Nat.pow_add,hq,Nat.mul_comm]
theorem carry_lt {y p cy:Nat} (hy:y<4294967296) (hc:cy<p):(y*p+cy)/4294967296<p:=by
 apply Nat.div_lt_of_lt_mul
 have:(y+1)*p≤4294967296*p:=Nat.mul_le_mul_right _ hy
 rw[Nat.add_mul]at this
 omega
theorem size_val {l:List Nat} (h:NormL l) (h0:0<l.length):bitLen (valL l)=32*(l.length-1)+bitLen (l.getD (l.length-1) 0):=by
 have hs:=split_val (l:=l) (m:=l.length-1) (by omega)
 rw[show l.length-1+1=l.length by omega,List.drop_length]at hs
 simp only[valL,Nat.mul_zero,Nat.add_zero]at hs
 have ht:=take_lt h.1 (l.length-1) (by omega)
 have hdiv:valL l/2^(32*(l.length-1))=l.getD (l.length-1) 0:=by
   rw[Nat.pow_mul,show(2:Nat)^32=4294967296 from rfl,hs,Nat.add_mul_div_left _ _ (Nat.pow_pos (by decide)),Nat.div_eq_of_lt ht,Nat.zero_add]
 have hne:l.getD (l.length-1) 0≠0:=by
   intro h3
   have h2:=norm_ge h h0
   rw[hs,h3]at h2
   omega
 rw[bitLen_shift (valL l) (32*(l.length-1)) (by rw[hdiv];exact hne),hdiv]
theorem bitLen_step {x:Nat} (h:0<x):bitLen x=bitLen (x/2)+1:=by
 by_cases h2:x/2=0
 · have:x=1:=by omega
   subst this
   decide
 · have:=bitLen_shift x 1 (by simpa using h2)
   simp at this
   omega
theorem bitLen_lt {n m:Nat} (h:n<2^m):bitLen n≤m:=by
 unfold bitLen
 split
 · omega
 · rename_i h0
   have:=(Nat.log2_lt h0).2 h
   omega
theorem quo_start {na nb:Nat} (hb:0<nb) {j:Nat} (hj:bitLen na≤bitLen nb+j):na<nb*2^(j+1):=by
 have h1:=(bitLen_spec na).1
 have h2:=(bitLen_spec nb).2 (by omega)
 have h3:(2:Nat)^bitLen na≤2^(bitLen nb-1+(j+1)):=Nat.pow_le_pow_right (by decide) (by omega)
 rw[Nat.pow_add]at h3
 have h4:2^(bitLen nb-1)*2^(j+1)≤nb*2^(j+1):=Nat.mul_le_mul_right _ h2
 omega
theorem quo_small {na nb:Nat} (hj:bitLen na<bitLen nb):na<nb:=by
 have h1:=(bitLen_spec na).1
 have hb:nb≠0:=by intro h;subst h;simp [bitLen]at hj
 have h2:=(bitLen_spec nb).2 hb
 have h3:(2:Nat)^bitLen na≤2^(bitLen nb-1):=Nat.pow_le_pow_right (by decide) (by omega)
 omega
theorem quo_end {na nb q r:Nat} (h:na=q*nb+r) (hr:r<nb):q=na/nb∧r=na%nb:=by
 subst h
 rw[Nat.mul_comm,Nat.mul_add_div (by omega),Nat.mul_add_mod,Nat.div_eq_of_lt hr,Nat.mod_eq_of_lt hr]
 simp
end
section
open Go.RowKit
theorem info_u64 :(Tryz.prog.info? 61).map (fun i=>(i.zero,i.size,i.bytes))=some (some (.int .u64 0),1,8):=by kernel_rfl
theorem one_news {w:World} {x:Value} {t:TypeId}: ∀(j:Nat) (u:Value),[x][j]? =some u→(w.alloc (.cells #[x] t)).cell? ((⟨w.heap.size,0,none⟩:Addr).add j)=some u:=by
 intro j u hj
 match j,hj with
 |0,hj=>simp at hj;subst hj;simp [Addr.add]
end
section
open Go.RowKit
def CmpRes (w:World) (k:Int) (e:Ending) (w':World):Prop:=e= .returned (.int .i64 k)∧ ∃n,w'=w.drewN n
end
section
open Go.RowKit
def lenV :Value→Nat
 | .slice _ n _=>n
 |_=>0
def PNormRes (w:World) (l:List Nat) (e:Ending) (w':World):Prop:= ∃v,e= .returned v∧Dig w v (cutL l l.length)∧w=w'
set_option maxHeartbeats 400000 in
theorem pnorm_any (v:Value) (l:List Nat) (w:World) (h:Dig w v l):
   Calls Tryz.prog 53 #[v] w (PNormRes w l):=by
 obtain⟨a,c,rfl,hl,hc,hr⟩:=h
 unfold maxLen at hc
 have HL:Hid (∃L,L=l.length):=⟨_,rfl⟩
 have Hr:=Lib.hid hr
 clear hr
 go_enter Tryz.func53,Tryz.ntmps53
 go_wp2
 go_loop [0] (fun v=> ∃k:Nat,k≤l.length∧v= .slice a k c∧cutL l k=cutL l l.length) (fun v=>lenV v)
 case atStart=>exact⟨l.length,Nat.le_refl _,rfl,rfl⟩
 case round=>
   obtain⟨k,hk,rfl,hcut⟩:=hrel
   have Hcut:=Lib.hid hcut
   clear hcut
   cases k with
   |zero=>
     go_wp2
     go_ret
     refine⟨_,rfl,?_,rfl⟩
     rw[← Hcut.out]
     exact⟨a,c,rfl,Nat.zero_le _,by unfold maxLen;omega,fun h0=>absurd h0 (by simp [cutL])⟩
   |succ m=>
     obtain⟨b,off,rfl,hcell⟩:=Hr.out (by omega)
     have hcm:=hcell m (by omega)
     have Hcell:=Lib.hid hcell
     have hi1:(0:Int)≤((m+1:Nat):Int)-1:=by omega
     have hi2:((m+1:Nat):Int)-1<((m+1:Nat):Int):=by omega
     have hi4:(((m+1:Nat):Int)-1).toNat=m:=by omega
     clear hcell
     by_cases hd:l.getD m 0=0
     · have Hcut':Hid (cutL l m=cutL l l.length):=(cutL_no hd).symm.trans Hcut.out
       rw[hd]at hcm
       clear hd Hcut
       go_wp2
       go_round
       case rel=>exact⟨m,by omega,rfl,Hcut'.out⟩
       case measure=>simp [lenV]
     · have hd0:((l.getD m 0:Nat):Int)≠0:=by omega
       have hd1:(((l.getD m 0:Nat):Int)==0)=false:=beq_eq_false_iff_ne.2 hd0
       have Hcut':Hid (l.take (m+1)=cutL l l.length):=(cutL_yes hd).symm.trans Hcut.out
       generalize hg:l.getD m 0=x at*
       have Hg:=Lib.hid hg
       clear hg hd hd0 Hcut
       go_wp2
       go_ret
       refine⟨.slice (some ⟨b,off,none⟩) (m+1) c,rfl,?_,rfl⟩
       rw[← Hcut'.out]
       have hlen:(l.take (m+1)).length=m+1:=by rw[List.length_take];omega
       refine⟨_,c,by rw[hlen],by omega,by unfold maxLen;omega,fun _=>⟨b,off,rfl,fun i hi=> ?_⟩⟩
       simp at hi
       rw[Hcell.out i (by omega)]
       simp [List.getD_eq_getElem?_getD,show i<m+1 by omega]
theorem pnorm_N (v:Value) (l:List Nat) (w:World) (h:Dig w v l) (hd: ∀d∈l,d<4294967296):
   Calls Tryz.prog 53 #[v] w (NatRes w (valL l)):=by
 refine(pnorm_any v l w h).mono fun e w' hr=> ?_
 obtain⟨v',rfl,hv,rfl⟩:=hr
 exact⟨v',rfl,⟨_,hv,cutL_norm l hd,cutL_val l⟩,Below.refl _ _⟩
set_option maxHeartbeats 400000 in
theorem pof_any (n:Nat) (w:World) (hn:n<18446744073709551616):
   Calls Tryz.prog 44 #[.int .u64 n] w (NatRes w n):=by
 have hb:(n:Int)<18446744073709551616:=by omega
 go_enter Tryz.func44,Tryz.ntmps44
 go_wp2_with (go_at_call 53;with_reducible refine(pnorm_N _ [n%4294967296,n/4294967296] _ (dig_two _ _ _ _ _ (by omega) (by omega)) ?_).mono ?_)
 · intro d hd
   simp at hd
   omega
 · rintro e w' ⟨v,rfl,hv,hb⟩
   rw[valL_two]at hv
   have Hb:=Lib.hid (below_past hb)
   clear hb
   go_wp2
   go_ret
   exact⟨v,rfl,hv,Hb.out⟩
set_option maxHeartbeats 1000000 in
set_option maxRecDepth 100000 in
theorem pcompare_any (va vb:Value) (na nb:Nat) (w:World) (ha:IsN w va na) (hb:IsN w vb nb):
   Calls Tryz.prog 52 #[va,vb] w (CmpRes w (cmpI na nb)):=by
 obtain⟨la,⟨aa,ca,rfl,hla,hca,hra⟩,hna,rfl⟩:=ha
 obtain⟨lb,⟨ab,cb,rfl,hlb,hcb,hrb⟩,hnb,rfl⟩:=hb
 unfold maxLen at hca hcb
 have Hna:=Lib.hid hna
 have Hnb:=Lib.hid hnb
 have Hra:=Lib.hid hra
 have Hrb:=Lib.hid hrb
 clear hra hrb hna hnb
 by_cases h1:la.length<lb.length
 · rw[cmpI_lt (len_lt Hna.out Hnb.out h1)]
   go_enter Tryz.func52,Tryz.ntmps52
   go_wp2
   go_ret
   exact⟨rfl,0,rfl⟩
 · by_cases h2:lb.length<la.length
   · rw[cmpI_gt (len_lt Hnb.out Hna.out h2)]
     go_enter Tryz.func52,Tryz.ntmps52
     go_wp2
     go_ret
     exact⟨rfl,0,rfl⟩
   · have hl:la.length=lb.length:=by omega
     have Hl:=Lib.hid hl
     have hle1:la.length≤lb.length:=by omega
     clear hl
     go_enter Tryz.func52,Tryz.ntmps52
     go_wp2
     clear h1 h2
     go_loopw [5] (fun i w'=> ∃k:Nat,k≤la.length∧i= .int .i64 ((k:Int)-1)∧la.drop k=lb.drop k∧ ∃nd,w'=w.drewN nd) (fun i _=>(intOf i+1).toNat)
     case atStart=>exact⟨la.length,Nat.le_refl _,rfl,by rw[List.drop_length,Hl.out,List.drop_length],0,rfl⟩
     case round=>
       obtain⟨k,hk,rfl,hdrop,nd,rfl⟩:=hrel
       have Hdrop:=Lib.hid hdrop
       clear hdrop
       cases k with
       |zero=>
         have he:valL la=valL lb:=by have h:=Hdrop.out;rw[List.drop_zero,List.drop_zero]at h;rw[h]
         have He:=Lib.hid he
         clear he
         go_wp2
         go_ret
         exact⟨by rw[He.out,cmpI_eq];rfl,nd,rfl⟩
       |succ m=>
         obtain⟨ba,oa,rfl,hcella⟩:=Hra.out (by omega)
         obtain⟨bb,ob,rfl,hcellb⟩:=Hrb.out (by omega)
         have hcA:=hcella m (by omega)
         have hcB:=hcellb m (by omega)
         have hmb:m<lb.length:=by omega
         have hi1:(0:Int)≤((m+1:Nat):Int)-1:=by omega
         have hi2:((m+1:Nat):Int)-1<(la.length:Int):=by omega
         have hi3:((m+1:Nat):Int)-1<(lb.length:Int):=by omega
         have hi4:(((m+1:Nat):Int)-1).toNat=m:=by omega
         clear hcella hcellb
         have Hlt:=Lib.hid (fun h=>digit_lt Hna.out Hl.out (m:=m) (by omega) Hdrop.out h)
         have Hgt:=Lib.hid (fun h=>digit_lt Hnb.out Hl.out.symm (m:=m) (by omega) Hdrop.out.symm h)
         have Heq:=Lib.hid (fun h=>drop_eq_step (m:=m) (by omega) (by omega) Hdrop.out h)
         clear Hdrop
         generalize la.getD m 0=x at*
         generalize lb.getD m 0=y at*
         by_cases hlt:x<y
         · have hlt':(x:Int)<(y:Int):=by omega
           have Hr:=Lib.hid (Hlt.out hlt)
           clear hlt Hlt Hgt Heq
           go_wp2
           go_quiet (fail)
           go_wp2
           go_ret
           exact⟨by rw[cmpI_lt Hr.out];rfl,_,World.drewN_drewN _ _ _⟩
         · have hlt': ¬(x:Int)<(y:Int):=by omega
           by_cases hgt:y<x
           · have hgt':(y:Int)<(x:Int):=by omega
             have Hr:=Lib.hid (Hgt.out hgt)
             clear hlt hgt Hlt Hgt Heq
             go_wp2
             go_quiet (fail)
             go_wp2
             go_quiet (fail)
             go_wp2
             go_ret
             exact⟨by rw[cmpI_gt Hr.out];rfl,_,by rw[World.drewN_drewN,World.drewN_drewN]⟩
           · have hxy:x=y:=by omega
             have Hr:=Lib.hid (Heq.out hxy)
             subst hxy
             clear hlt hgt Hlt Hgt Heq hlt'
             have hn: ¬(x:Int)<(x:Int):=by omega
             go_wp2
             go_quiet (fail)
             go_wp2
             go_quiet (fail)
             go_wp2
             go_roundw
             case rel=>exact⟨m,by omega,by go_num,Hr.out,_,rfl⟩
             case measure=>simp [intOf]
set_option maxHeartbeats 1000000 in
set_option maxRecDepth 100000 in
theorem pbits_any (v:Value) (n:Nat) (w:World) (h:IsN w v n) (hsn:n<2^1000000):
   Calls Tryz.prog 46 #[v] w fun e w'=>e= .returned (.int .i64 (bitLen n:Nat))∧w=w':=by
 obtain⟨l,⟨a,c,rfl,hl,hc,hr⟩,hn,rfl⟩:=h
 have hk:=len_le hn hsn
 clear hsn
 have Hr:=Lib.hid hr
 clear hr
 by_cases h0:l.length=0
 · have e:bitLen (valL l)=0:=by rw[List.length_eq_zero_iff.1 h0];decide
   have He:=Lib.hid e
   have hne:(((l.length:Nat):Int)==0)=true:=by rw[h0];rfl
   clear e h0 hn
   go_enter Tryz.func46,Tryz.ntmps46
   go_wp2
   go_ret
   exact⟨by rw[He.out];rfl,rfl⟩
 · have Hs:=Lib.hid (size_val hn (by omega))
   have hne:(((l.length:Nat):Int)==0)=false:=beq_eq_false_iff_ne.2 (by omega)
   obtain⟨b,off,rfl,hcell⟩:=Hr.out (by omega)
   have hcm:=hcell (l.length-1) (by omega)
   have hd:=hn.1 _ (getD_mem (l:=l) (k:=l.length-1) (by omega))
   obtain⟨m,hm⟩: ∃m,l.length=m+1:=⟨l.length-1,by omega⟩
   rw[hm]at hcm hd Hs hne
   rw[Nat.add_sub_cancel]at hcm hd Hs
   have hi1:(0:Int)≤((m+1:Nat):Int)-1:=by omega
   have hi4:(((m+1:Nat):Int)-1).toNat=m:=by omega
   have hi2:((m+1:Nat):Int)-1<((m+1:Nat):Int):=by omega
   have hm2:m≤100000:=by omega
   clear hcell hn Hr h0 hl hc
   generalize l.length=L at*
   subst hm
   generalize valL l=V at*
   generalize l.getD m 0=x at*
   clear hk
   go_enter Tryz.func46,Tryz.ntmps46
   go_wp2
   go_loop [3,4] (fun n y=> ∃k z:Nat,n= .int .i64 k∧y= .int .u64 z∧z<4294967296∧k+bitLen z=bitLen V∧bitLen V≤32*m+32) (fun _ y=>(intOf y).toNat)
   case atStart=>exact⟨32*m,x,by go_num,rfl,hd,Hs.out.symm,by rw[Hs.out];have:=bitLen_lt (n:=x) (m:=32) hd;omega⟩
   case round=>
     obtain⟨k,z,rfl,rfl,hz,hkz,hkm⟩:=hrel
     have Hkz:=Lib.hid hkz
     have hk1:k≤32*m+32:=by omega
     clear hkz
     by_cases h0:0<z
     · have Hst:=Lib.hid (bitLen_step h0)
       have h0':(0:Int)<(z:Int):=by omega
       go_wp2
       go_round
       case rel=>exact⟨k+1,z/2,by go_num,by go_num,by omega,by rw[← Hkz.out,Hst.out];omega,hkm⟩
       case measure=>simp [intOf];omega
     · have hz0:z=0:=by omega
       subst hz0
       have He:Hid (bitLen V=k):=by rw[← Hkz.out];show k+0=k;omega
       clear h0 Hkz
       go_wp2
       go_ret
       exact⟨by rw[He.out];rfl,rfl⟩
end
section
open Go.RowKit
theorem made_row {w w1:World} {B n:Nat} (h:w1.ownsRow B 61 1 (.slice (some ⟨w.heap.size,0,none⟩) n n) n (madeCells #[Value.int IntKind.u64 0] n).toList):
   OwnD w1 B w.heap.size (List.replicate n 0):=by
 rw[toList_madeCells_one]at h
 unfold OwnD
 rw[List.length_replicate,List.map_replicate]
 exact h
theorem digits_snoc {l:List Nat} {d:Nat} (h: ∀x∈l,x<4294967296) (hd:d<4294967296): ∀x∈l++[d],x<4294967296:=by
 intro x hx
 rcases List.mem_append.1 hx with hx|hx
 · exact h x hx
 · simp at hx;rw[hx];exact hd
theorem zeros_digits (n:Nat): ∀d∈List.replicate n 0,d<4294967296:=fun d hd=>by rw[List.eq_of_mem_replicate hd];decide
theorem zeros_get (n q:Nat):(List.replicate n 0).getD q 0=0:=by rw[List.getD_eq_getElem?_getD,List.getElem?_replicate];split<;>rfl
end
end Go.Proofs.YtemnhpdjoimjbaaGreatDoor
