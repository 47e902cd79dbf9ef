import Derived.Test.YtoglcccmgnjchaaGreatTa02
import Derived.StillTail
import Derived.Deep.RegionHeld
set_option linter.all false
set_option maxHeartbeats 8000000
set_option maxRecDepth 100000
namespace Go.Proofs.YtoglcccmgnjchaaGreat
open Go.Proofs.Tryz PL
section
variable {P : Program} {pre tail:List Oper} {Q:Exit->Act->World->Prop}
variable{i fuel:Nat}{o:Oper}{a:Act}{w:World}{A B e1:Array Bool}{ops:Array Oper}{S:World->Prop}{l T:List Oper}{v:Value}{q:Prop}
def vr(P:Program)(pre tail:List Oper)(Q:Exit->Act->World->Prop):Exit->Act->World->Prop
 |.normal,a,w=>wpList P (pre++tail).toArray Q tail a w
 |.panic _,_,_=>False
 |e,a,w=>Q e a w
def LV(pre:List Oper):Bool:=
 (List.range pre.length).all fun i=>match pre[i]? with
  |some o=>(o.after.all fun e=>!Region.binds .any e||decide (e.on<i))&&(match o.guard with|none=>true|some (j,_)=>decide<|j<pre.length)
  |none=>false
def Kx(pre tail:List Oper):Bool:=
 LV pre&&((List.range pre.length).all fun i=>Region.waitsFor .any (pre++tail).toArray pre.length i)&&Region.chainB .any (pre++tail).toArray pre.length&&
  Region.seqB .any (pre++tail).toArray tail.length pre.length (Array.replicate pre.length true++Array.replicate tail.length false)&&decide (0<tail.length)
theorem LW(h:LV pre=true)(hi:pre[i]?=some o):(∀e∈o.after,Region.binds .any e=true->e.on<i)/\∀j b,o.guard=some (j,b)->j<pre.length:=by have d:=(qe.1 hi).1;have h1:=List.all_eq_true.1 h i<|List.mem_range.2 d;rw[hi]at h1;simp only[Bool.and_eq_true]at h1;refine⟨fun e he al=>?_,fun j b aS=>?_⟩;{have:=Array.all_eq_true'.1 h1.1 e he;rw[al]at this;simpa using this};have c:=h1.2;rw[aS]at c;simpa using c
theorem NK(h:i<pre.length):(pre++tail).toArray[i]?=pre.toArray[i]?:=by simp[tY h]
theorem aps{j:Nat}(h:j<pre.length)(tmps:Array Value):yielded (pre++tail).toArray tmps j=yielded pre.toArray tmps j:=by unfold yielded;rw[NK h]
theorem apf(h:LV pre=true)(hi:pre[i]?=some o)(tmps:Array Value):Region.wanted o (yielded (pre++tail).toArray tmps)=Region.wanted o (yielded pre.toArray tmps):=by unfold Region.wanted;cases aS:o.guard with|none=>rfl|some g=>obtain⟨j,b⟩:=g;dsimp only;rw[aps<|(LW h hi).2 j b aS]
theorem akB(h:LetsOut (vr P pre tail Q)):LetsOut Q:=h
theorem alx{K:Act->World->Prop}(h:o.wp P a w K (vr P pre tail Q)):o.wp P a w K Q:=by
 unfold Oper.wp at*;generalize(execOp a.eval o).run P w=r at*
 cases r with
 |ok n w'=>
  cases n<;>simp only[Oper.upon]at h⊢<;>
   first
    |exact h
    |exact Calls.mono h fun e b he=>by cases e<;>first|exact he|exact(he:False).elim
 |halt x w'=>cases x<;>simp only[Oper.upon]at h⊢<;>first|exact h|exact(h:False).elim
theorem IX(d:Bool)(h:i<A.size):(A++B).getD i d=A.getD i d:=by simp[Array.getElem?_append_left h]
theorem ahm{g:Nat}(h1:A.size<=i)(b:i<A.size+g)(d:Bool):(A++Array.replicate g false).getD i d=false:=by rw[Array.getD_eq_getD_getElem?,Array.getElem?_append_right h1,Array.getElem?_replicate,aN ae];rfl
theorem anz(h:i<A.size):(A++B).setIfInBounds i true=A.setIfInBounds i true++B:=by apply Array.ext_getElem?;intro j;rw[Array.getElem?_setIfInBounds];by_cases b:j<A.size;{rw[Array.getElem?_append_left (xs:=A) b,Array.getElem?_append_left (xs:=A.setIfInBounds i true)<|by simpa using b,Array.getElem?_setIfInBounds];split;{rw[aN<|by simp;omega]};rfl};rw[aC ae,Array.getElem?_append_right ae,Array.getElem?_append_right<|by simp;omega];simp
theorem all_true(h:∀i,i<A.size->A.getD i true=true):A=Array.replicate A.size true:=by apply Array.ext_getElem?;intro j;rw[Array.getElem?_replicate];by_cases b:j<A.size;{rw[aN b];have:=h j b;rw[Array.getD_eq_getD_getElem?,Array.getElem?_eq_getElem b]at this;rw[Array.getElem?_eq_getElem b];simpa using this};rw[aC b,Array.getElem?_eq_none ae]
theorem amx(h:LV pre=true)(aB:e1.size=pre.length):∀(i:Nat),i<pre.length->e1.getD i true=false->∃j,j∈Region.ready .any pre.toArray e1:=by intro i;induction i using Nat.strongRecOn with|_ i f=>intro hi b;obtain⟨o,a8⟩:∃o,pre[i]?=some o:=⟨_,eG hi⟩;by_cases c:∀e∈o.after,Region.binds .any e=true->e1.getD e.on false=true;{exact⟨i,mem_ready.2 ⟨b,o,by simpa using a8,c⟩⟩};simp only[Classical.not_forall]at c;obtain⟨e,he,al,d⟩:=c;have cc:=(LW h a8).1 e he al;(have g:e1.getD e.on false=false:=by simpa using d);exact f e.on cc ae<|getD_in ae g
theorem ab9:∀(f:Nat) (e1:Array Bool) (a:Act) (w:World),wpAny P .any ops Q f e1 a w->wpAny P .any ops Q (f+1) e1 a w
 |0,e1,a,w,h=>⟨fun _=>h.2,fun i hi=>(by rw[h.1]at hi;cases hi)⟩
 |f+1,e1,a,w,h=>⟨h.1,fun i hi=>wpOp_mono (fun c w' b=>ab9 f _ c w' b)<|h.2 i hi⟩
theorem ab'{f:Nat}(h:wpAny P .any ops Q f e1 a w):∀g,wpAny P .any ops Q (g+f) e1 a w
 |0=>by rw[iQ];exact h
 |g+1=>by rw[show g+1+f=(g+f)+1 by omega];exact ab9 _ _ _ _<|ab' h g
theorem abz(br:Kx pre tail=true)(aB:e1.size=pre.length)(aE:Region.ready .any pre.toArray e1=[])(h:wpList P (pre++tail).toArray Q tail a w):wpAny P .any (pre++tail).toArray Q tail.length (e1++Array.replicate tail.length false) a w:=by
 simp only[Kx,Bool.and_eq_true,decide_eq_true_eq]at br;obtain⟨⟨⟨⟨d,_⟩,_⟩,a'⟩,_⟩:=br
 have e:e1=Array.replicate pre.length true:=by
  rw[<-aB]
  refine all_true fun i hi=>?_
  cases c:e1.getD i true with
  |true=>rfl
  |false=>
   obtain⟨j,b⟩:=amx d aB i ae c
   rw[aE]at b
   cases b
 rw[e];exact wpAny_of_seq (md:=.any) tail pre.length _ a w (fun j=>by simp[List.getElem?_append_right]) a' h
theorem ab_(br:Kx pre tail=true):∀(f:Nat) (e1:Array Bool) (a:Act) (w:World),e1.size=pre.length->
  wpAny P .any pre.toArray (vr P pre tail Q) f e1 a w->wpAny P .any (pre++tail).toArray Q (f+tail.length) (e1++Array.replicate tail.length false) a w
 |0,e1,a,w,aB,h=>by rw[iQ];exact abz br aB h.1 h.2
 |f+1,e1,a,w,aB,h=>by by_cases aE:Region.ready .any pre.toArray e1=[];{exact ab' (abz br aB aE<|h.1 aE) (f+1)};have u:=br;simp only[Kx,Bool.and_eq_true,decide_eq_true_eq]at u;obtain⟨⟨⟨⟨r,hw⟩,hc⟩,_⟩,N⟩:=u;obtain⟨i0,z⟩:=List.exists_mem_of_ne_nil _ aE;obtain⟨K,M,n,_⟩:=mem_ready.1 z;(have y:i0<pre.length:=by simpa using(Array.getElem?_eq_some_iff.1 n).1);(have k:∀t,pre.length<=t->t∉Region.ready .any (pre++tail).toArray (e1++Array.replicate tail.length false):=fun t O hm=>by obtain⟨_,d,j,c⟩:=mem_ready.1 hm;have x:=(Array.getElem?_eq_some_iff.1 j).1;(have H:t<pre.length+tail.length:=by simpa using x);by_cases D:t=pre.length;{subst D;have h1:=List.all_eq_true.1 hw i0<|List.mem_range.2 y;obtain⟨p,F,e,he,al,s⟩:=Region.waitsFor_spec h1;have:p=d:=Option.some.inj<|F.symm.trans j;subst this;have b:=c e he al;rw[s,IX _ ae,getD_both K]at b;cases b};have h1:=List.all_eq_true.1 hc t<|List.mem_range.2 x;simp only[Bool.or_eq_true,decide_eq_true_eq]at h1;rcases h1 with h1|h1;{omega};obtain⟨G,m,e,he,al,s⟩:=Region.waitsFor_spec h1;have:G=d:=Option.some.inj<|m.symm.trans j;subst this;have b:=c e he al;rw[s,ahm ae ae]at b;cases b);rw[show f+1+tail.length=(f+tail.length)+1 by omega];(have key:∀i,i∈Region.ready .any (pre++tail).toArray (e1++Array.replicate tail.length false)->i<pre.length/\i∈Region.ready .any pre.toArray e1:=fun i hi=>by(have cc:i<pre.length:=by rcases Nat.lt_or_ge i pre.length with h|h;{exact h};exact absurd hi<|k i h);obtain⟨hu,o,a8,c⟩:=mem_ready.1 hi;rw[NK cc]at a8;rw[IX _ ae]at hu;refine⟨cc,mem_ready.2 ⟨hu,o,a8,fun e he al=>?_⟩⟩;have:=c e he al;have E:=(LW r<|by simpa using a8).1 e he al;rwa[IX _ ae]at this);refine⟨fun h1=>?_,fun i hi=>?_⟩;{exfalso;(have:i0∈Region.ready .any (pre++tail).toArray (e1++Array.replicate tail.length false):=by obtain⟨hu,o,a8,c⟩:=mem_ready.1 z;refine mem_ready.2 ⟨by rw[IX _ ae];exact hu,o,by rw[NK y];exact a8,fun e he al=>?_⟩;have E:=(LW r<|by simpa using a8).1 e he al;rw[IX _ ae];exact c e he al);rw[h1]at this;cases this};obtain⟨cc,L⟩:=key i hi;have b:=h.2 i L;obtain⟨o,a8⟩:∃o,pre[i]?=some o:=⟨_,eG cc⟩;(have C:wpOp P (pre++tail).toArray Q i (wpAny P .any pre.toArray (vr P pre tail Q) f<|e1.setIfInBounds i true) a w:=by unfold wpOp at b⊢;rw[NK cc];rw[show pre.toArray[i]?=some o by simpa using a8]at b⊢;dsimp only at b⊢;rw[apf r a8];split;{rename_i g;rw[aN g]at b;exact b.imp alx fun h=>⟨h.1,akB h.2⟩};rename_i g;rw[aC g]at b;exact b);refine wpOp_mono (fun J w' I=>?_) C;rw[anz ae];exact ab_ br f _ J w' (by simpa using aB) I
theorem wp_region_split{id:Nat}(n:Nat)(hm:P.follows .mixedOrders=true)(br:Kx (l.take n) (l.drop n)=true)(b:S w.drew)
 (h:S w.drew->wpAnyH P .any (l.take n).toArray (vr P (l.take n) (l.drop n) Q) S (l.take n).length (Array.replicate (l.take n).length false) a w.drew):(Code.region id l.toArray true).wp P Q a w:=by refine wp_region_any hm ?_;have h1:=ab_ (Q:=Q) br _ _ a _ bI<|wpAny_of_held _ _ _ _<|h b;(have aO:(l.take n).length+(l.drop n).length=l.toArray.size:=by simp;omega);(have aU:Array.replicate (l.take n).length false++Array.replicate (l.drop n).length false=Array.replicate l.toArray.size false:=by rw[Array.replicate_append_replicate,aO]);rw[List.take_append_drop,aO,aU]at h1;exact h1
theorem ais(hi:l[i]?=some o)(aB:Region.noSelect l.toArray=true)(b:Region.free .any l.toArray e1 i=true)
  (aE:(Region.ready .any l.toArray e1).contains i=true)(hw:Region.wanted o (yielded l.toArray a.tmps)=true)(hy:∀w,S w->(execOp a.eval o).run P w=.ok (.value v) w)(c:S w)
  (h:wpAnyH P .any l.toArray (vr P l T Q) S fuel (e1.setIfInBounds i true) (a.put o.dst v) w):wpAnyH P .any l.toArray (vr P l T Q) S (fuel+1) e1 a w:=
 wpAnyH_take (by simpa using hi) aB b aE (fun _ _ _ h=>h) (Or.inl ⟨hw,hy⟩) c h
theorem AO(hi:l[i]?=some o)(aE:Region.ready .any l.toArray e1=[i])
  (h:∀b:Act->World->Prop,Shut (∀a w,S w->(S w->wpAnyH P .any l.toArray (vr P l T Q) S fuel (e1.setIfInBounds i true) a w)->b a w)->if Region.wanted o (yielded l.toArray a.tmps)=true then Oper.wp P o a w b (vr P l T Q)else b (a.put o.dst undef) w):
  wpAnyH P .any l.toArray (vr P l T Q) S (fuel+1) e1 a w:=
 wpAnyH_ready aE bI (AllReadyH.cons (by simpa using hi) h AllReadyH.nil)
theorem Gu(aE:Region.ready .any l.toArray e1=[])(h:wpList P (l++T).toArray Q T a w):wpAnyH P .any l.toArray (vr P l T Q) S fuel e1 a w:=
 wpAnyH_done aE h _
theorem dS(i:Nat)(h:q)(hi:l[i]?=some o:=by exact rfl)(aB:Region.noSelect l.toArray=true:=by kernel_rfl)(b:Region.free .any l.toArray e1 i=true:=by kernel_rfl)
 (aE:(Region.ready .any l.toArray e1).contains i=true:=by kernel_rfl)(hw:Region.wanted o (yielded l.toArray a.tmps)=true:=by rfl)(hy:∀w,S w->(execOp a.eval o).run P w=.ok (.value v) w:=by(intro W AG;(try dsimp only at AG);go_simp;try with_reducible rfl))(c:S w:=by assumption)
 (a':q->wpAnyH P .any l.toArray (vr P l T Q) S fuel (e1.setIfInBounds i true) (a.put o.dst v) w:=by intro h;(try simp only[Act.put,lW,lX,lE]);exact h):wpAnyH P .any l.toArray (vr P l T Q) S (fuel+1) e1 a w:=ais hi aB b aE hw hy c<|a' h
theorem gN(i:Nat){md:Region.Mode}(h:q)(hi:ops[i]?=some o:=by exact rfl)(aB:Region.noSelect ops=true:=by kernel_rfl)(b:Region.free md ops e1 i=true:=by kernel_rfl)
 (aE:(Region.ready md ops e1).contains i=true:=by kernel_rfl)(e:∀c a w,Q (.panic c) (a.put o.dst v) w->Q (.panic c) a w:=by exact fun _ _ _ h=>h)(hw:Region.wanted o (yielded ops a.tmps)=true:=by rfl)(hy:∀w,S w->(execOp a.eval o).run P w=.ok (.value v) w:=by(intro W AG;(try dsimp only at AG);go_simp;try with_reducible rfl))(d:S w:=by assumption)
 (a':q->wpAnyH P md ops Q S fuel (e1.setIfInBounds i true) (a.put o.dst v) w:=by intro h;(try simp only[Act.put,lW,lX,lE]);exact h):wpAnyH P md ops Q S (fuel+1) e1 a w:=wpAnyH_take hi aB b aE e (Or.inl ⟨hw,hy⟩) d<|a' h
theorem Bl(i:Nat){md:Region.Mode}(h:q)(hi:ops[i]?=some o:=by exact rfl)(aB:Region.noSelect ops=true:=by kernel_rfl)(b:Region.free md ops e1 i=true:=by kernel_rfl)
 (aE:(Region.ready md ops e1).contains i=true:=by kernel_rfl)(e:∀c a w,Q (.panic c) (a.put o.dst v) w->Q (.panic c) a w:=by exact fun _ _ _ h=>h)(hw:Region.wanted o (yielded ops a.tmps)=true:=by rfl)(hy:∀w,S w->(execOp a.eval o).run P w=.ok (.value v) w:=by(intro W AG;(try dsimp only at AG);go_simp;try with_reducible rfl))(d:S w:=by assumption)
 (a':q->wpAnyH P md ops Q S fuel (e1.setIfInBounds i true) (a.put o.dst v) w:=by intro h;(try simp only[Act.put,List.getElem_toArray,List.getElem_cons_succ,List.getElem_cons_zero,lW,lX,lE]);exact h):wpAnyH P md ops Q S (fuel+1) e1 a w:=wpAnyH_take hi aB b aE e (Or.inl ⟨hw,hy⟩) d<|a' h
theorem Hy(i:Nat){md:Region.Mode}(h:q)(hi:ops[i]?=some o:=by exact rfl)(aB:Region.noSelect ops=true:=by kernel_rfl)(b:Region.free md ops e1 i=true:=by kernel_rfl)
 (aE:(Region.ready md ops e1).contains i=true:=by kernel_rfl)(e:∀c a w,Q (.panic c) (a.put o.dst v) w->Q (.panic c) a w:=by exact fun _ _ _ h=>h)(hw:Region.wanted o (yielded ops a.tmps)=true:=by kernel_rfl)(hy:∀w,S w->(execOp a.eval o).run P w=.ok (.value v) w:=by(intro W AG;(try dsimp only at AG);go_simp;try with_reducible rfl))(d:S w:=by assumption)
 (a':q->wpAnyH P md ops Q S fuel (e1.setIfInBounds i true) (a.put o.dst v) w:=by intro h;(try simp only[Act.put,lW,lX,lE]);exact h):wpAnyH P md ops Q S (fuel+1) e1 a w:=wpAnyH_take hi aB b aE e (Or.inl ⟨hw,hy⟩) d<|a' h
theorem xy(i:Nat){md:Region.Mode}(h:q)(hi:ops[i]?=some o:=by exact rfl)(aB:Region.noSelect ops=true:=by kernel_rfl)(b:Region.free md ops e1 i=true:=by kernel_rfl)
 (aE:(Region.ready md ops e1).contains i=true:=by kernel_rfl)(e:∀c a w,Q (.panic c) (a.put o.dst v) w->Q (.panic c) a w:=by exact fun _ _ _ h=>h)(hw:Region.wanted o (yielded ops a.tmps)=true:=by kernel_rfl)(hy:∀w,S w->(execOp a.eval o).run P w=.ok (.value v) w:=by(intro W AG;(try dsimp only at AG);go_simp;try with_reducible rfl))(d:S w:=by assumption)
 (a':q->wpAnyH P md ops Q S fuel (e1.setIfInBounds i true) (a.put o.dst v) w:=by intro h;(try simp only[Act.put,List.getElem_toArray,List.getElem_cons_succ,List.getElem_cons_zero,lW,lX,lE]);exact h):wpAnyH P md ops Q S (fuel+1) e1 a w:=wpAnyH_take hi aB b aE e (Or.inl ⟨hw,hy⟩) d<|a' h
theorem h8(i:Nat){md:Region.Mode}(h:q)(hi:ops[i]?=some o:=by exact rfl)(aB:Region.noSelect ops=true:=by kernel_rfl)(b:Region.free md ops e1 i=true:=by kernel_rfl)
 (aE:(Region.ready md ops e1).contains i=true:=by kernel_rfl)(e:∀c a w,Q (.panic c) (a.put o.dst undef) w->Q (.panic c) a w:=by exact fun _ _ _ h=>h)(hw:Region.wanted o (yielded ops a.tmps)=false:=by kernel_rfl)(d:S w:=by assumption)
 (a':q->wpAnyH P md ops Q S fuel (e1.setIfInBounds i true) (a.put o.dst undef) w:=by intro h;(try simp only[Act.put,lW,lX,lE]);exact h):wpAnyH P md ops Q S (fuel+1) e1 a w:=wpAnyH_take hi aB b aE e (Or.inr ⟨hw,rfl⟩) d<|a' h
end
section
open Go.RowKit
def P!(b:Bool):Int:=if b then 0 else 1
theorem aeK{h8:List Int}(h:∀i,i<h8.length->dJ (h8.getD i 0)=true):h8.all dJ=true:=by rw[List.all_eq_true];intro x au;obtain⟨i,hi,rfl⟩:=List.getElem_of_mem au;have:=h i hi;rwa[eh,eG hi]at this
theorem aeL{h8:List Int}{i:Nat}(hi:i<h8.length)(h:dJ (h8.getD i 0)=false):h8.all dJ=false:=by rw[Bool.eq_false_iff];intro a;rw[List.all_eq_true]at a;have:=a (h8.getD i 0) (by rw[eh,eG hi];exact fZ hi);rw[h]at this;simp at this
theorem Xl(T tau:Int)(h8:List Int)(b c:Nat)(w:World)(hlen:h8.length<=10)(hc:∀i,i<h8.length->w.cell? ⟨b,i,none⟩=some (.int .i64<|h8.getD i 0)):
 aR 236 #[kU T tau,.slice (some b) h8.length c] w (xS w<|P!<|h8.all dJ&&mv T tau):=by have q:=ad hc;have o:=ad fun h v=>aaH T tau v h;have r:=ad fun h v=>ams T tau v h;have t:=ad<|@aeK h8;have s:=ad fun i=>@aeL h8 i;generalize h8.all dJ=A at*;generalize mv T tau=L at*;unfold kU at*;go_enter func236,ntmps236;go_wp2;go_loopw [6,9] (fun _ i wr=>∃k:Nat,i=.int .i64 k/\k<=h8.length/\(∀j,j<k->dJ (h8.getD j 0)=true)/\wr=w.alloc (.cells #[T,tau] 76)) (fun _ i _=>h8.length-(intOf i).toNat);(case atStart=>exact⟨0,rfl,fw _,fun j f=>absurd f ae,rfl⟩);case round=>obtain⟨k,rfl,hk,p,rfl⟩:=hrel;have cV:=ad p;by_cases l:k<h8.length;{have g:=q.out k l;have cc:=qF _ _ g;(have n:(w.alloc<|.cells #[T,tau] 76).cell? ⟨b,k,none⟩=some (.int .i64<|h8.getD k 0):=by rw[World.cell?_alloc_past _ _ _ cc];exact g);(have m:Hid (dJ (h8.getD k 0)=true->∀j,j<k+1->dJ (h8.getD j 0)=true):=fun h j f=>by by_cases e:j=k;{subst e;exact h};exact cV.out j ae);have a:=ad fun h=>s.out k l h;generalize h8.getD k 0=x at*;cases au:dJ x with|true=>go_wp2_with(go_at_call 116;refine(zh _ _).mono ?_;rintro e w' ⟨rfl,rfl⟩);go_roundw;(case rel=>exact⟨k+1,by go_num,ae,m.out au,by first|rfl|trivial⟩);case measure=>simp[intOf];omega|false=>have cg:=a.out au;subst cg;go_wp2_with(go_at_call 116;refine(zh _ _).mono ?_;rintro e w' ⟨rfl,rfl⟩);go_ret;exact⟨rfl,(b5 _ _).alloc (bG _) _⟩};obtain rfl:k=h8.length:=ae;have cg:=t.out cV.out;subst cg;cases L with|true=>go_wp2_with fail;refine(o.out (by first|rfl|trivial) _).mono ?_;rintro e w1 ⟨rfl,al⟩;have d:=ad<|iB al;go_wp2;go_ret;exact⟨rfl,d.out⟩|false=>go_wp2_with fail;refine(r.out (by first|rfl|trivial) _).mono ?_;rintro e w1 ⟨rfl,al⟩;have d:=ad<|iB al;go_wp2;go_ret;exact⟨rfl,d.out⟩
def acp(w:World)(g:Bool)(aJ wait left f:Int)(e:Ending)(w':World):Prop:=e=.returned (.tuple #[r1 g aJ wait left,f])/\Below w w w'
theorem aoS{w:World}{t:TypeId}{x y z:Int}:∀i,i<[x,y,z].length->(w.alloc<|.cells #[x,y,z] t).cell? ⟨w,i,none⟩=some (.int .i64<|[x,y,z].getD i 0):=by intro i hi;match i,hi with|0,_=>simp[go_sem]|1,_=>simp[go_sem]|2,_=>simp[go_sem]
theorem aoZ{w:World}{t:TypeId}{x y:Int}:∀i,i<[x,y].length->(w.alloc<|.cells #[x,y] t).cell? ⟨w,i,none⟩=some (.int .i64<|[x,y].getD i 0):=by intro i hi;match i,hi with|0,_=>simp[go_sem]|1,_=>simp[go_sem]
theorem anH(w:World)(a b:Obj):((w.alloc a).alloc b).heap.size=w.heap.size+2:=bI
theorem ahi(T tau aJ now n:Int)(w:World)(h:mv T tau=true)(a:dJ aJ=true)(d:dJ now=true)(hn:dJ n=true):
 aR 221 #[kU T tau,aJ,now,n] w (acp w (kO T tau aJ now n) (ml T tau aJ now n) (pR T tau aJ now n) (mG T tau aJ now n) 0):=by have k:=ad fun v=>ahl T tau aJ now n v h a d hn;(have m:([aJ,now,n].all dJ&&mv T tau)=true:=by simp[a,d,hn,h]);have cV:=ad fun b v hc=>Xl T tau [aJ,now,n] b 3 v bI hc;generalize kO T tau aJ now n=g at*;generalize ml T tau aJ now n=d1 at*;generalize pR T tau aJ now n=d2 at*;generalize mG T tau aJ now n=d3 at*;unfold kU at*;go_enter func221,ntmps221;go_wp2_with fail;have f:=anH w (.cells #[.int .i64 T,.int .i64 tau] 76)<|.cells #[.bool false,.int .i64 0,.int .i64 0,.int .i64 0] 310;have c:=@aoS ((w.alloc<|.cells #[.int .i64 T,.int .i64 tau] 76).alloc<|.cells #[.bool false,.int .i64 0,.int .i64 0,.int .i64 0] 310) 2 aJ now n;rw[f]at c;refine(cV.out (w.heap.size+2) _ c).mono ?_;rintro e w1 ⟨rfl,al⟩;obtain⟨hc,l⟩:=pP al;(have c0:w.heap.size+1<w1.heap.size:=by have:=al.size;simp at this;omega);have i:=ad<|iB<|iB<|iB al;go_wp2_with fail;refine(k.out _).mono ?_;rintro e aQ ⟨rfl,a7⟩;unfold r1;obtain⟨j,o⟩:=pP a7;(have dx:w.heap.size+1<aQ.heap.size:=by have:=a7.size;omega);have cU:=ad<|i.out.trans<|a7.mono ae;go_wp2;exact cJ (by simp[results,results221,go_sem,r1,j,hc,c0]) rfl ⟨rfl,by repeat(first|exact cU.out|refine Below.setCell ?_ (by first|(simp;done)|(simp;omega)) _)⟩
theorem ahj(T tau aJ now k:Int)(w:World)(b:Bool)(a:([aJ,now].all dJ&&mv T tau)=b)(hk:b=true->k=gW T tau aJ now)(f:b=false->k=0):
 aR 216 #[kU T tau,aJ,now] w (aes w k<|P! b):=by have cV:=ad fun b v hc=>Xl T tau [aJ,now] b 2 v bI hc;(have j:Hid (b=true->∀v,aR 237 #[kU T tau,.int .i64 aJ,.int .i64 now] v<|xS v k):=fun al v=>by rw[al]at a;simp only[List.all_cons,List.all_nil,Bool.and_true,Bool.and_eq_true]at a;rw[hk al];exact QC T tau aJ now v a.2 a.1.1 a.1.2);rw[a]at cV;have h:=ad f;clear hk f;unfold kU at*;go_enter func216,ntmps216;go_wp2_with fail;have g:=@aoZ (w.alloc<|.cells #[.int .i64 T,.int .i64 tau] 76) 2 aJ now;rw[show(w.alloc<|.cells #[.int .i64 T,.int .i64 tau] 76).heap.size=w.heap.size+1 by simp]at g;refine(cV.out (w.heap.size+1) _ g).mono ?_;rintro e w1 ⟨rfl,al⟩;obtain⟨hc,l⟩:=pP al;have d:=ad<|iB<|iB al;cases b with|true=>have c:=ad<|j.out rfl;have i:P! true=0:=rfl;go_wp2_with fail;refine(c.out _).mono ?_;rintro e aQ ⟨rfl,a7⟩;have cU:=ad<|d.out.trans<|a7.mono d.out.size;go_wp2;go_ret2;exact⟨rfl,cU.out⟩|false=>obtain rfl:=h.out rfl;go_wp2;go_ret2;exact⟨rfl,d.out⟩
end
namespace ai
def e7:Nat:=18446744073709551616
def c4:Nat:=4611686018427387904
def wP:Nat:=18446744073709551615
structure Cell where
 pol:Int
 key:List Nat
 aJ:Int
 held:List Int
deriving Inhabited, DecidableEq
structure aA where
 kind:Nat
 T:Int
 tau:Int
 bl:Int
deriving Inhabited, DecidableEq
structure c2 where
 e:Int
 granted:Bool
 left:Int
 wait:Int
 a6:Int
 now:Int
deriving Inhabited, DecidableEq
def err(e:Int):c2:=⟨e,false,0,0,0,0⟩
structure Call where
 op:Nat
 pol:Int
 key:List Nat
 n:Int
deriving Inhabited, DecidableEq
structure Mem where
 aZ:List Nat
 a_:List (List Cell)
 ca:Int
 count:Int
deriving Inhabited
def Mem.ah(m:Mem)(i:Nat):Nat:=m.aZ.getD i 0
def Mem.b4(m:Mem)(i:Nat):List Cell:=m.a_.getD i []
def Mem.bN(m:Mem):Mem:={m with count:=m.count+1}
def Mem.swap(m:Mem)(i old new:Nat)(h:List Cell):Bool×Mem:=
 if m.ah i=old then(true,{m with aZ:=m.aZ.set i new,a_:=m.a_.set i h,count:=m.count+1})else(false,m.bN)
def xx(h b:Nat):Nat:=(h^^^b)*1099511628211%e7
def e4(l:List Nat):Nat:=l.foldl xx 14695981039346656037
def cK(pol:Int)(key:List Nat):List Nat:=pol.toNat%256::key
def cT:List Nat->List Nat->Int
 |[],[]=>0
 |[],_::_=>-1
 |_::_,[]=>1
 |a::c,b::bs=>if a<b then-1 else if b<a then 1 else cT c bs
def lg(c:Cell)(aw:Nat):Nat:=e4 (cK c.pol c.key)%2^aw
def cut(l:List Cell)(aw shard:Nat):List Cell:=l.filter fun c=>lg c aw==shard
def aW(aw shard:Nat):Nat:=2^aw+shard%2^aw
def e6(l:List Cell)(pol:Int)(key:List Nat):Nat:=(l.takeWhile fun c=>cT (cK c.pol c.key) (cK pol key)<0).length
def e0(l:List Cell)(pol:Int)(key:List Nat):Bool:=
 match l[e6 l pol key]? with
 |some c=>cT (cK c.pol c.key) (cK pol key)==0
 |none=>false
def ei(l:List Cell)(pol:Int)(key:List Nat):Cell:=if e0 l pol key then l.getD (e6 l pol key) default else⟨pol,key,0,[]⟩
def h9(l:List Cell)(at_:Nat)(there:Bool)(c:Cell):List Cell:=if there then l.set at_ c else l.take at_++[c]++l.drop at_
structure eH(c:Cell):Prop where
 py:0<=c.pol
 og:c.pol<32
 len:c.key.length<=255
 bytes:∀b∈c.key,b<256
 yI:0<=c.aJ
 yJ:c.aJ<=4611686018427387903
 uE:∀n∈c.held,1<=n/\n<=4611686018427387903
 zI:c.held.Pairwise (·<·)
 e8:c.held.length<=64
def nf(a b:Cell):Prop:=cT (cK a.pol a.key) (cK b.pol b.key)<0
structure iA(L:List Cell):Prop where
 ok:∀c∈L,eH c
 order:L.Pairwise nf
 e8:L.length<=1048576
theorem iA.nil:iA []:=⟨fun c h=>(by cases h),List.Pairwise.nil,bI⟩
theorem iA.filter{L:List Cell}(h:iA L)(p:Cell->Bool):iA (L.filter p):=⟨fun c hc=>h.ok c (List.mem_filter.1 hc).1,h.order.filter p,eB (List.length_filter_le _ _) h.e8⟩
structure Below where
 decide:aA->Int->Int->Int->Bool×Int×Int×Int   --granted,aJ,left,wait
 left:aA->Int->Int->Int
 sub:Int->Int->Int
 take:Int->List Int->Int->Int×List Int               --error,held
 Ci:Int->List Int->Int->Int×List Int
inductive Then where
 |aj
 |d? (j b_:Nat) (cd:Int)
inductive nY where
 |find (aw sum:Nat) (t:Then)
 |move (aw i:Nat)
inductive nt where
 |find (sum:Nat) (t:Then)
 |one (aw i:Nat) (a_:List Cell)
 |two (aw i:Nat)
structure hT where
 ah:Nat
 v:Nat
 cells:List Cell
structure xV(f:hT)(at_:Nat)(there:Bool)(c:Cell):Prop where
 cell:eH c
 aW:at_=e6 f.cells c.pol c.key
 N3:there=e0 f.cells c.pol c.key
inductive wv where
 |done (r:c2)
 |d? (j b_:Nat) (cd:Int)
inductive lN where
 |back (t:wv)
 |ag (f:hT) (at_:Nat) (there:Bool) (c:Cell) (r:c2)
 |a6 (f:hT) (at_:Nat) (there:Bool) (c:Cell)
inductive c' where
 |find (sum:Nat) (t:Then)
 |enter (sum ah:Nat) (t:Then)
 |lk (ah:Nat) (t:nY)
 |mZ (ah v:Nat) (a_:List Cell) (t:nY)
 |half (aw shard:Nat) (a_:List Cell) (t:nt)
 |m? (aw shard:Nat) (a_ h:List Cell) (t:nt)
 |split
 |om (d aw:Nat)
 |pr (aw:Nat)
 |h0 (ah de stop:Nat) (t:lN)
 |i' (ah de stop v:Nat) (t:lN)
 |put (f:hT) (at_:Nat) (there:Bool) (c:Cell) (r:c2)
 |allow (f:hT) (at_:Nat) (there:Bool) (c:Cell)
 |k? (c:Cell)
 |n5
 |mY (j b_:Nat) (cd:Int) (ah v:Nat) (cells:List Cell)
 |ke (j b_:Nat) (cd:Int) (ah v:Nat) (rest:List Cell) (n:Nat)
structure Live where
 aj:Call
 sum:Nat
 gn:Bool
 a6:Int
abbrev Out:=(c'⊕c2)×Live×Mem
end ai
namespace ai
variable (B : Below) (af:List aA) (ag:Nat)
def more(k:c')(x:Live)(m:Mem):Out:=(.inl k,x,m)
def fin(r:c2)(x:Live)(m:Mem):Out:=(.inr r,x,m)
def ll:Nat:=32
def rX:Nat:=33
def neg(n:Nat):Nat:=(e7-n%e7)%e7
def F0(n:Nat)(t:wv):c':=.h0 ll (neg n) wP (.back t)
def hN(r:c2)(x:Live)(m:Mem):Out:=if x.gn then more (F0 1<|.done r) x m else fin r x m
def kE(f:hT)(at_:Nat)(there:Bool)(c:Cell)(r:c2)(x:Live):c':=
 if there||x.gn then .put f at_ there c r else .h0 ll 1 ag (.ag f at_ there c r)
def c_(x:Live):aA:=af.getD x.aj.pol.toNat default
def iC(j b_:Nat)(cd:Int)(x:Live)(m:Mem):Out:=
 if j+1=b_ then fin ⟨0,false,cd,0,0,0⟩ x m else more (.find (j+1)<|.d? (j+1) b_ cd) x m
def fI(p:aA)(c:Cell)(a6:Int):c2×Cell:=
 let s:=B.take p.bl c.held a6
 if s.1=0 then(⟨0,true,p.bl-s.2.length,0,a6,0⟩,{c with held:=s.2})else(err s.1,c)
def g'(p:aA)(c:Cell)(a6:Int):c2×Cell:=
 let s:=B.Ci p.bl c.held a6
 if s.1=0 then(⟨0,true,p.bl-s.2.length,0,0,0⟩,{c with held:=s.2})else(err s.1,c)
def k!(p:aA)(c:Cell)(now:Int):c2:=
 if p.kind=2 then⟨0,false,p.bl-c.held.length,0,0,0⟩else⟨0,false,B.left p c.aJ now,B.sub c.aJ now,0,now⟩
def kC(c:Cell)(now:Int):Bool:=if(af.getD c.pol.toNat default).kind=2 then c.held.isEmpty else decide (c.aJ<=now)
def r0(f:hT)(at_:Nat)(there:Bool)(c:Cell)(x:Live)(m:Mem):Out:=
 if(c.held.length:Int)=(c_ af x).bl then hN (err 9) x m
 else if 0<x.a6 then more (kE ag f at_ there (fI B (c_ af x) c x.a6).2 (fI B (c_ af x) c x.a6).1 x) x m
 else more (.h0 rX 1 4611686018427387903<|.a6 f at_ there c) x m
def kG(t:Then)(ah v:Nat)(cells:List Cell)(x:Live)(m:Mem):Out:=
 match t with
 |.d? j b_ cd=>if cells.isEmpty then iC j b_ cd x m else more (.mY j b_ cd ah v cells) x m
 |.aj=>
  let f:hT:=⟨ah,v,cells⟩
  let at_:=e6 cells x.aj.pol x.aj.key
  let there:=e0 cells x.aj.pol x.aj.key
  let c:=ei cells x.aj.pol x.aj.key
  let p:=c_ af x
  if x.aj.op=1 then more (.allow f at_ there c) x m
  else if x.aj.op=2 then r0 B af ag f at_ there c x m
  else if x.aj.op=3 then
   let rc:=g' B p c x.aj.n
   if rc.1.e≠0 then fin rc.1 x m else more (kE ag f at_ there rc.2 rc.1 x) x m
  else if p.kind=2 then fin (k! B p c 0) x m
  else more (.k? c) x m
def oG(sum ah v:Nat)(h:List Cell)(t:Then)(x:Live)(m:Mem):Out:=
 if v=0\/c4<=v then more (.find sum t) x m else kG B af ag t ah v h x m
def pv(aw i:Nat):c':=if i=2^aw then .pr aw else .lk (aW aw i) (.move aw i)
def vG(t:nY)(a_:List Cell):c':=
 match t with
 |.find aw sum t=>.half (aw+1) sum a_ (.find sum t)
 |.move aw i=>.half (aw+1) i a_ (.one aw i a_)
def mK(t:nt)(ah v:Nat)(h:List Cell)(x:Live)(m:Mem):Out:=
 match t with
 |.find sum t=>if v=0 then more (.enter sum ah t) x m else oG B af ag sum ah v h t x m
 |.one aw i a_=>more (.half (aw+1) (i+2^aw) a_<|.two aw i) x m
 |.two aw i=>more (pv aw<|i+1) x m
def Eb(t:wv)(x:Live)(m:Mem):Out:=
 match t with
 |.done r=>fin r x m
 |.d? j b_ cd=>iC j b_ cd x m
def xE(t:lN)(now:Nat)(x:Live)(m:Mem):Out:=
 match t with
 |.back t=>Eb t x m
 |.ag f at_ there c r=>more (.put f at_ there c r) {x with gn:=true} m
 |.a6 f at_ there c=>
  let a:Live:={x with a6:=now}
  let rc:=fI B (c_ af x) c now
  more (kE ag f at_ there rc.2 rc.1 a) a m
def Db(t:lN)(x:Live)(m:Mem):Out:=
 match t with
 |.back _=>fin (err 0) x m
 |.ag ..=>fin (err 10) x m
 |.a6 ..=>hN (err 5) x m
def b7(k:c')(x:Live)(m:Mem):Out:=
 match k with
 |.find sum t=>
  let d:=m.ah 0
  if d%2=0 then more (.enter sum (aW (d/2) sum) t) x m.bN else more (.lk (aW (d/2) sum)<|.find (d/2) sum t) x m.bN
 |.enter sum ah t=>oG B af ag sum ah (m.ah ah) (m.b4 ah) t x m.bN
 |.lk ah t=>if c4<=m.ah ah then more (vG t<|m.b4 ah) x m.bN else more (.mZ ah (m.ah ah) (m.b4 ah) t) x m.bN
 |.mZ ah v a_ t=>
  let s:=m.swap ah v (v+c4) a_
  if s.1 then more (vG t a_) x s.2 else more (.lk ah t) x s.2
 |.half aw shard a_ t=>
  let w:=aW aw shard
  if m.ah w≠0 then mK B af ag t w (m.ah w) (m.b4 w) x m.bN else more (.m? aw shard a_ (m.b4 w) t) x m.bN
 |.m? aw shard a_ h t=>
  let w:=aW aw shard
  let s:=m.swap w 0 1<|cut a_ aw<|w-2^aw
  mK B af ag t w 0 h x s.2
 |.split=>
  let d:=m.ah 0
  if d%2=1 then more (pv (d/2) 0) x m.bN else if d/2=4 then fin (err 5) x m.bN else more (.om d<|d/2) x m.bN
 |.om d aw=>
  let s:=m.swap 0 d (d+1) []
  if s.1 then more (pv aw 0) x s.2 else more .split x s.2
 |.pr aw=>fin (err 0) x (m.swap 0 (2*aw+1) (2*aw+2) []).2
 |.h0 ah de stop t=>if m.ah ah=stop then Db t x m.bN else more (.i' ah de stop (m.ah ah) t) x m.bN
 |.i' ah de stop v t=>
  let s:=m.swap ah v ((v+de)%e7) []
  if s.1 then xE B af ag t ((v+de)%e7) x s.2 else more (.h0 ah de stop t) x s.2
 |.put f at_ there c r=>
  let s:=m.swap f.ah f.v (f.v+1)<|h9 f.cells at_ there c
  if s.1 then(if there then hN r x s.2 else fin r x s.2)else more (.find x.sum .aj) x s.2
 |.allow f at_ there c=>
  let d:=B.decide (c_ af x) c.aJ m.ca x.aj.n
  let r:c2:=⟨0,d.1,d.2.2.1,d.2.2.2,0,m.ca⟩
  if d.1=false\/x.aj.n=0 then hN r x m.bN else more (kE ag f at_ there {c with aJ:=d.2.1} r x) x m.bN
 |.k? c=>fin (k! B (c_ af x) c m.ca) x m.bN
 |.n5=>more (.find 0<|.d? 0 (2^((m.ah 0+1)/2)) 0) x m.bN
 |.mY j b_ cd ah v cells=>
  let rest:=cells.filter fun c=>!kC af c m.ca
  if cells.length-rest.length=0 then iC j b_ cd x m.bN else more (.ke j b_ cd ah v rest<|cells.length-rest.length) x m.bN
 |.ke j b_ cd ah v rest n=>
  let s:=m.swap ah v (v+1) rest
  if s.1 then more (F0 n<|.d? j b_<|cd+n) x s.2 else iC j b_ cd x s.2
def jX(c:Call):c':=if c.op=6 then .split else if c.op=5 then .n5 else .find (e4<|cK c.pol c.key) .aj
end ai
namespace ai
variable{m:Mem}{i old new v j a b s w aw sum n:Nat}{h L:List Cell}{af:List aA}{f g:Nat->Nat}
def Mem.cy(m:Mem)(i v:Nat)(h:List Cell):Mem:={m with aZ:=m.aZ.set i v,a_:=m.a_.set i h,count:=m.count+1}
theorem ko(e:m.ah i=old):m.swap i old new h=(true,m.cy i new h):=by unfold Mem.swap;rw[aN e];rfl
theorem kF(e:m.ah i≠old):m.swap i old new h=(false,m.bN):=by unfold Mem.swap;rw[aC e]
theorem aoY(m:Mem)(j:Nat):m.bN.ah j=m.ah j:=rfl
theorem dY(hi:i<m.aZ.length):(m.cy i v h).ah j=if j=i then v else m.ah j:=by unfold Mem.cy Mem.ah;by_cases e:i=j;{subst e;simp[hi]};simp[e,Ne.symm e]
theorem lA(hi:i<m.a_.length):(m.cy i v h).b4 j=if j=i then h else m.b4 j:=by unfold Mem.cy Mem.b4;by_cases e:i=j;{subst e;simp[hi]};simp[e,Ne.symm e]
def par(L i:Nat):Nat:=2^L+i%2^L
theorem two_pos(L:Nat):0<2^L:=Nat.two_pow_pos L
theorem wk(L:Nat):2^(L+1)=2*2^L:=by rw[Nat.pow_succ];omega
theorem Ff(L:Nat):2^(L+2)=4*2^L:=by rw[Nat.pow_succ,Nat.pow_succ];omega
theorem Kb(L i:Nat):2^L<=par L i/\par L i<2^(L+1):=by have:=Nat.mod_lt i<|two_pos L;have:=wk L;unfold par;omega
theorem l!(L s:Nat):2^L<=aW L s/\aW L s<2^(L+1):=Kb L s
theorem lh(h:a<=b):2^a<=2^b:=Nat.pow_le_pow_right ax h
theorem SN(h1:2^a<=i)(d:i<2^(a+1))(e:2^b<=i)(c:i<2^(b+1)):a=b:=by rcases Nat.lt_trichotomy a b with h|h|h;{have:=lh (show a+1<=b by omega);omega};{exact h};have:=lh (show b+1<=a by omega);omega
theorem Kc(L s:Nat):par L (aW (L+1) s)=aW L s:=by unfold par aW;(have h:2^(L+1)=2^L*2:=by rw[wk];omega);rw[h,Nat.mul_add_mod,Nat.mod_mul_right_mod]
theorem S9(L s:Nat):aW L (s%2^L)=aW L s:=by unfold aW;rw[Nat.mod_mod]
theorem v?{L:Nat}(h:s<2^L):aW L s=2^L+s:=by unfold aW;rw[ov h]
structure eL(m:Mem):Prop where
 dm:m.aZ.length=34
 e2:m.a_.length=34
 d8:m.ah 0<=8
 old:∀i,1<=i->i<2^(m.ah 0/2)->c4<=m.ah i
 cur:∀i,2^(m.ah 0/2)<=i->i<2^(m.ah 0/2+1)->1<=m.ah i/\(m.ah 0%2=0->m.ah i<c4)
 uU:∀i,2^(m.ah 0/2+1)<=i->i<32->m.ah i<c4/\(m.ah i≠0->m.ah 0%2=1/\i<2^(m.ah 0/2+2)/\c4<=m.ah (par (m.ah 0/2) i))
 small:∀i,1<=i->i<32->(m.ah i%c4:Nat)<=m.count/\m.ah i<2*c4
 An:1<=m.count
def Mem.live(m:Mem)(i:Nat):Prop:=1<=m.ah i/\m.ah i<c4
theorem eL.uT(H:eL m)(h:m.ah 0%2=1):m.ah 0/2<=3:=by have:=H.d8;omega
theorem eL.SL(H:eL m):m.ah 0/2<=4:=by have:=H.d8;omega
theorem eL.size(H:eL m):2^(m.ah 0/2+1)<=32:=lh<|show m.ah 0/2+1<=5 by have:=H.d8;omega
theorem eL.bN(H:eL m):eL m.bN:=⟨H.dm,H.e2,H.d8,H.old,H.cur,H.uU,fun i h1 c=>⟨by have:=(H.small i h1 c).1;show _<=m.count+1;exact Int.le_trans this ae,(H.small i h1 c).2⟩,by have:=H.An;show 1<=m.count+1;omega⟩
theorem eL.Z'(H:eL m)(h1:1<=i)(k:i<32)(d:m.live i):
 (2^(m.ah 0/2)<=i/\i<2^(m.ah 0/2+1))\/(m.ah 0%2=1/\2^(m.ah 0/2+1)<=i/\i<2^(m.ah 0/2+2)/\c4<=m.ah (par (m.ah 0/2) i)):=by obtain⟨o,p⟩:=d;by_cases ha:i<2^(m.ah 0/2);{have:=H.old i h1 ha;omega};by_cases al:i<2^(m.ah 0/2+1);{exact .inl ⟨ae,al⟩};obtain⟨_,h⟩:=H.uU i ae k;obtain⟨l,c,e⟩:=h ae;exact .inr ⟨l,ae,c,e⟩
theorem IU:0<c4:=ax
theorem zF(H:eL m)(c8:1<=w)(c:w<32)(v:Nat)(h:List Cell):(m.cy w v h).ah 0=m.ah 0:=by rw[dY<|by rw[H.dm];omega,aC ae]
theorem eL.go(H:eL m){v:Nat}(h:List Cell)(c8:1<=w)(u:w<32)(r:m.live w)(x:1<=v)(p:v<c4)(k8:(v:Int)<=m.count+1):eL (m.cy w v h):=by(have d:w<m.aZ.length:=by rw[H.dm];omega);have cI:=zF H c8 u v h;obtain⟨y,z⟩:=r;refine⟨by simpa[Mem.cy]using H.dm,by simpa[Mem.cy]using H.e2,by rw[cI];exact H.d8,?_,?_,?_,?_,?_⟩;{rw[cI];intro i h1 c;have:=H.old i h1 c;rw[dY d,aC<|by rintro rfl;omega];exact this};{rw[cI];intro i h1 c;have:=H.cur i h1 c;rw[dY d];split;{exact⟨x,fun _=>p⟩};exact this};{rw[cI];intro i h1 c;obtain⟨t,q⟩:=H.uU i h1 c;rw[dY d];split;{rename_i e;subst e;refine⟨p,fun _=>?_⟩;obtain⟨l,o,k⟩:=q ae;refine⟨l,o,?_⟩;rw[dY d,aC<|by intro e;rw[e]at k;omega];exact k};refine⟨t,fun bU=>?_⟩;obtain⟨l,o,k⟩:=q bU;refine⟨l,o,?_⟩;rw[dY d,aC<|by intro e;rw[e]at k;omega];exact k};{intro i h1 c;rw[dY d];show _<=m.count+1/\_;have:=H.small i h1 c;split;{rw[ov p];exact⟨k8,ae⟩};exact⟨ae,this.2⟩};have:=H.An;show 1<=m.count+1;omega
theorem eL.lk(H:eL m)(h:List Cell)(aI:m.ah 0%2=1)(c8:2^(m.ah 0/2)<=w)(t:w<2^(m.ah 0/2+1))(l:m.live w):eL (m.cy w (m.ah w+c4) h):=by have y:=H.size;(have d:w<m.aZ.length:=by rw[H.dm];omega);have cI:=zF H (show 1<=w by omega) ae (m.ah w+c4) h;obtain⟨u,x⟩:=l;refine⟨by simpa[Mem.cy]using H.dm,by simpa[Mem.cy]using H.e2,by rw[cI];exact H.d8,?_,?_,?_,?_,?_⟩;{rw[cI];intro i h1 c;rw[dY d,aC ae];exact H.old i h1 c};{rw[cI];intro i h1 c;have:=H.cur i h1 c;rw[dY d];split;{exact⟨ae,fun e=>absurd e ae⟩};exact this};{rw[cI];intro i h1 c;obtain⟨q,k⟩:=H.uU i h1 c;rw[dY d,aC ae];refine⟨q,fun bU=>?_⟩;obtain⟨o,p,r⟩:=k bU;refine⟨o,p,?_⟩;rw[dY d];split;{omega};exact r};{intro i h1 c;rw[dY d];show _<=m.count+1/\_;have:=H.small i h1 c;split;{rename_i e;subst e;rw[Nat.add_mod_right];exact⟨ae,ae⟩};exact⟨ae,this.2⟩};have:=H.An;show 1<=m.count+1;omega
theorem eL.lay(H:eL m)(h:List Cell)(aI:m.ah 0%2=1)(c8:2^(m.ah 0/2+1)<=w)(q:w<2^(m.ah 0/2+2))(hp:c4<=m.ah (par (m.ah 0/2) w))(bd:m.ah w=0):eL (m.cy w 1 h):=by have k:=H.uT aI;have u:=lh (show m.ah 0/2+2<=5 by omega);have t:=Kb (m.ah 0/2) w;(have d:w<m.aZ.length:=by rw[H.dm];omega);have cI:=zF H (show 1<=w by omega) ae 1 h;refine⟨by simpa[Mem.cy]using H.dm,by simpa[Mem.cy]using H.e2,by rw[cI];exact H.d8,?_,?_,?_,?_,?_⟩;{rw[cI];intro i h1 c;rw[dY d,aC ae];exact H.old i h1 c};{rw[cI];intro i h1 c;rw[dY d,aC ae];exact H.cur i h1 c};{rw[cI];intro i h1 c;obtain⟨k,l⟩:=H.uU i h1 c;have x:=Kb (m.ah 0/2) i;rw[dY d];split;{rename_i e;subst e;refine⟨ax,fun _=>⟨aI,q,?_⟩⟩;rw[dY d,aC ae];exact hp};refine⟨k,fun bU=>?_⟩;obtain⟨o,p,r⟩:=l bU;refine⟨o,p,?_⟩;rw[dY d,aC ae];exact r};{intro i h1 c;rw[dY d];show _<=m.count+1/\_;have:=H.small i h1 c;have:=H.An;split;{exact⟨by rw[show(1:Nat)%c4=1 from by decide];omega,ax⟩};exact⟨ae,ae⟩};have:=H.An;show 1<=m.count+1;omega
theorem eL.split(H:eL m)(h:List Cell)(aI:m.ah 0%2=0)(l:m.ah 0/2≠4):eL (m.cy 0 (m.ah 0+1) h):=by(have d:0<m.aZ.length:=by rw[H.dm];omega);(have cI:(m.cy 0 (m.ah 0+1) h).ah 0=m.ah 0+1:=by rw[dY d,aN rfl]);have k:(m.ah 0+1)/2=m.ah 0/2:=ae;have hp:=two_pos<|m.ah 0/2;have p:=H.d8;refine⟨by simpa[Mem.cy]using H.dm,by simpa[Mem.cy]using H.e2,by rw[cI];omega,?_,?_,?_,?_,?_⟩;{rw[cI,k];intro i h1 c;rw[dY d,aC ae];exact H.old i h1 c};{rw[cI,k];intro i h1 c;rw[dY d,aC ae];exact⟨(H.cur i h1 c).1,fun e=>absurd e ae⟩};{rw[cI,k];intro i h1 c;rw[dY d,aC ae];obtain⟨o,l⟩:=H.uU i h1 c;exact⟨o,fun bU=>absurd (l bU).1 ae⟩};{intro i h1 c;rw[dY d,aC ae];show _<=m.count+1/\_;have:=H.small i h1 c;exact⟨ae,this.2⟩};have:=H.An;show 1<=m.count+1;omega
theorem eL.SR(H:eL m)(h:List Cell)(aI:m.ah 0%2=1)(o:∀i,2^(m.ah 0/2)<=i->i<2^(m.ah 0/2+1)->c4<=m.ah i)(hn:∀i,2^(m.ah 0/2+1)<=i->i<2^(m.ah 0/2+2)->m.ah i≠0):eL (m.cy 0 (m.ah 0+1) h):=by(have d:0<m.aZ.length:=by rw[H.dm];omega);(have cI:(m.cy 0 (m.ah 0+1) h).ah 0=m.ah 0+1:=by rw[dY d,aN rfl]);have e:(m.ah 0+1)/2=m.ah 0/2+1:=ae;have hp:=two_pos<|m.ah 0/2;have q:=Ff<|m.ah 0/2;have k:=H.uT aI;have r:=lh (show m.ah 0/2+2<=5 by omega);refine⟨by simpa[Mem.cy]using H.dm,by simpa[Mem.cy]using H.e2,by rw[cI];omega,?_,?_,?_,?_,?_⟩;{rw[cI,e];intro i h1 c;rw[dY d,aC ae];by_cases al:i<2^(m.ah 0/2);{exact H.old i h1 al};exact o i ae c};{rw[cI,e];intro i h1 c;rw[dY d,aC ae];have p:=c;have:=hn i h1 p;have:=(H.uU i h1 ae).1;exact⟨ae,fun _=>this⟩};{rw[cI,e];intro i h1 c;rw[dY d,aC ae];obtain⟨k,l⟩:=H.uU i ae c;exact⟨k,fun bU=>absurd (l bU).2.1 ae⟩};{intro i h1 c;rw[dY d,aC ae];show _<=m.count+1/\_;have:=H.small i h1 c;exact⟨ae,this.2⟩};have:=H.An;show 1<=m.count+1;omega
theorem eL.num(H:eL m)(v:Nat)(h:List Cell)(c8:32<=w)(r:w<34):eL (m.cy w v h):=by(have p:w<m.aZ.length:=by rw[H.dm];omega);(have e:∀i,i<32->(m.cy w v h).ah i=m.ah i:=fun i hi=>by rw[dY p,aC ae]);have cI:=e 0 ae;have t:=H.size;refine⟨by simpa[Mem.cy]using H.dm,by simpa[Mem.cy]using H.e2,by rw[cI];exact H.d8,?_,?_,?_,?_,?_⟩;{rw[cI];intro i h1 c;have:=wk<|m.ah 0/2;rw[e i ae];exact H.old i h1 c};{rw[cI];intro i h1 c;rw[e i ae];exact H.cur i h1 c};{rw[cI];intro i h1 c;obtain⟨o,d⟩:=H.uU i h1 c;rw[e i c];refine⟨o,fun bU=>?_⟩;obtain⟨k,l,q⟩:=d bU;have:=Kb (m.ah 0/2) i;rw[e _ ae];exact⟨k,l,q⟩};{intro i h1 c;rw[e i c];show _<=m.count+1/\_;have:=H.small i h1 c;exact⟨ae,this.2⟩};have:=H.An;show 1<=m.count+1;omega
def gR(m:Mem)(sum:Nat):Nat:=if m.ah 0%2=1/\c4<=m.ah (aW (m.ah 0/2) sum)then aW (m.ah 0/2+1) sum else aW (m.ah 0/2) sum
def mX(m:Mem)(sum:Nat):List Cell:=if m.ah (gR m sum)=0 then cut (m.b4<|aW (m.ah 0/2) sum) (m.ah 0/2+1) (sum%2^(m.ah 0/2+1))else m.b4 (gR m sum)
def eu(c:Cell):Nat:=e4<|cK c.pol c.key
def Has(m:Mem)(c:Cell):Prop:=c∈mX m (eu c)
theorem af8(H:eL m)(sum:Nat):1<=gR m sum/\gR m sum<32:=by have c:=H.size;unfold gR;split;{rename_i h;have d:=H.uT h.1;have c:=lh (show m.ah 0/2+1+1<=5 by omega);have:=l! (m.ah 0/2+1) sum;omega};have:=l! (m.ah 0/2) sum;omega
theorem Wp(H:eL m)(r:aw<=4)(l:m.live (aW aw sum)):gR m sum=aW aw sum:=by have c:=l! aw sum;have q:=lh (show aw+1<=5 by omega);unfold gR;rcases H.Z' ae ae l with⟨h1,d⟩|⟨h1,d,p,k⟩;{have e:=SN h1 d c.1 c.2;rw[e];rw[aC (by rintro⟨_,h⟩;have:=l.2;omega)]};have o:aW aw sum<2^(m.ah 0/2+1+1):=p;have e:=SN d o c.1 c.2;subst e;rw[Kc]at k;rw[aN ⟨h1,k⟩]
theorem Qc(H:eL m)(d:aw<=4)(c:m.live (aW aw sum)):mX m sum=m.b4 (aW aw sum):=by unfold mX;rw[Wp H d c,aC (by have:=c.1;omega)]
theorem Wo(H:eL m)(h:List Cell)(c8:1<=w)(p:w<32)(o:m.live w)(t:1<=v)(x:v<c4)(sum:Nat):
 mX (m.cy w v h) sum=if gR m sum=w then h else mX m sum:=by(have k:w<m.aZ.length:=by rw[H.dm];omega);(have d:w<m.a_.length:=by rw[H.e2];omega);have cI:=zF H c8 p v h;obtain⟨r,u⟩:=o;(have q:gR (m.cy w v h) sum=gR m sum:=by unfold gR;rw[cI,dY k];split;{rename_i e;rw[e,aC<|by rintro⟨_,h⟩;omega,aC<|by rintro⟨_,h⟩;omega]};rfl);unfold mX;rw[q,cI,dY k];by_cases e:gR m sum=w;{rw[aN e,aN e,aC ae,lA d,aN e]};rw[aC e,aC e,lA d (j:=gR m sum),aC e];by_cases c:m.ah (gR m sum)=0;{rw[aN c,aN c,lA d,aC];intro l;(have:gR m sum=w\/c4<=m.ah (aW (m.ah 0/2) sum):=by unfold gR;split;{rename_i h;exact .inr h.2};exact .inl l);rcases this with h|h;{exact e h};rw[l]at h;omega};rw[aC c,aC c]
structure jD(af:List aA)(m:Mem):Prop where
 wf:∀i,iA<|m.b4 i
 shard:∀aw s,aw<=4->∀c∈m.b4 (aW aw s),lg c aw=s%2^aw
 perm:∀i,∀c∈m.b4 i,c.pol<af.length/\((af.getD c.pol.toNat default).kind=2->(c.held.length:Int)<=(af.getD c.pol.toNat default).bl)
structure qO(af:List aA)(w:Nat)(L:List Cell):Prop where
 wf:iA L
 shard:∀aw s,aw<=4->aW aw s=w->∀c∈L,lg c aw=s%2^aw
 perm:∀c∈L,c.pol<af.length/\((af.getD c.pol.toNat default).kind=2->(c.held.length:Int)<=(af.getD c.pol.toNat default).bl)
theorem jD.at_(h:jD af m)(i:Nat):qO af i (m.b4 i):=
 ⟨h.wf i,fun aw s d e c hc=>h.shard aw s d c<|by rw[e];exact hc,h.perm i⟩
theorem qO.nil(af:List aA)(w:Nat):qO af w []:=⟨iA.nil,fun _ _ _ _ c hc=>by simp at hc,fun c hc=>by simp at hc⟩
theorem qO.filter(h:qO af w L)(p:Cell->Bool):qO af w (L.filter p):=
 ⟨h.wf.filter p,fun aw s d e c hc=>h.shard aw s d e c (List.mem_filter.1 hc).1,fun c hc=>h.perm c (List.mem_filter.1 hc).1⟩
theorem jD.cy(h:jD af m)(hw:w<m.a_.length)(v:Nat)(bY:qO af w L):jD af (m.cy w v L):=by refine⟨fun i=>?_,fun aw s d c hc=>?_,fun i c hc=>?_⟩;{rw[lA hw];split;{exact bY.wf};exact h.wf i};{rw[lA hw]at hc;split at hc;{rename_i e;exact bY.shard aw s d e c hc};exact h.shard aw s d c hc};rw[lA hw]at hc;split at hc;{exact bY.perm c hc};exact h.perm i c hc
theorem jD.bN(h:jD af m):jD af m.bN:=⟨h.wf,h.shard,h.perm⟩
theorem Ke{t:Nat}(h:aW a s=aW b t):a=b/\s%2^a=t%2^b:=by have h1:=l! a s;have c:=l! b t;have e:=SN h1.1 h1.2 (by rw[h];exact c.1) (by rw[h];exact c.2);subst e;refine⟨rfl,?_⟩;unfold aW at h;omega
theorem qO.cut(h:qO af w L)(aw s:Nat):qO af (aW aw s) (cut L aw<|s%2^aw):=by refine⟨h.wf.filter _,fun l t d e c hc=>?_,fun c hc=>h.perm c (List.mem_filter.1 hc).1⟩;obtain⟨rfl,aU⟩:=Ke e;have:=(List.mem_filter.1 hc).2;rw[aU];simpa using this
theorem κ{c:Cell}:c∈cut L aw (eu c%2^aw)<->c∈L:=by unfold cut;rw[List.mem_filter];exact⟨fun h=>h.1,fun h=>⟨h,by simp[lg,eu]⟩⟩
theorem ah7(H:eL m)(aI:m.ah 0%2=1)(c8:2^(m.ah 0/2)<=w)(u:w<2^(m.ah 0/2+1))(l:m.live w)(c:Cell):
 Has (m.cy w (m.ah w+c4)<|m.b4 w) c<->Has m c:=by have o:=H.size;(have d:w<m.aZ.length:=by rw[H.dm];omega);(have p:w<m.a_.length:=by rw[H.e2];omega);have cI:=zF H (show 1<=w by omega) ae (m.ah w+c4)<|m.b4 w;(have k:∀j,(m.cy w (m.ah w+c4)<|m.b4 w).b4 j=m.b4 j:=by intro j;rw[lA p];split;{rename_i e;rw[e]};rfl);obtain⟨x,y⟩:=l;unfold Has;have q:=l! (m.ah 0/2+1)<|eu c;by_cases e:aW (m.ah 0/2) (eu c)=w;{(have c1:gR m (eu c)=w:=by unfold gR;rw[e,aC<|by rintro⟨_,h⟩;omega]);(have cw:gR (m.cy w (m.ah w+c4)<|m.b4 w) (eu c)=aW (m.ah 0/2+1) (eu c):=by unfold gR;rw[cI,e,dY d,aN rfl,aN ⟨aI,ae⟩]);(have bd:m.ah (aW (m.ah 0/2+1)<|eu c)=0:=by refine q9 fun bU=>?_;have t:=H.uT aI;have o:=lh (show m.ah 0/2+1+1<=5 by omega);have:=((H.uU _ q.1 ae).2 bU).2.2;rw[Kc,e]at this;omega);unfold mX;rw[c1,cw,cI,aC<|show¬m.ah w=0 by omega,dY d,aC<|show¬aW (m.ah 0/2+1) (eu c)=w by omega,aN bd,e,k];exact κ};(have r:gR (m.cy w (m.ah w+c4)<|m.b4 w) (eu c)=gR m (eu c):=by unfold gR;rw[cI,dY d,aC e]);unfold mX;rw[r,cI,k,k];(have:(m.cy w (m.ah w+c4)<|m.b4 w).ah (gR m<|eu c)=m.ah (gR m<|eu c):=by rw[dY d,aC];unfold gR;split;{omega};exact e);rw[this]
theorem ah8(H:eL m)(aI:m.ah 0%2=1)(hp:c4<=m.ah (aW (m.ah 0/2) s))(bd:m.ah (aW (m.ah 0/2+1) s)=0)(c:Cell):
 Has (m.cy (aW (m.ah 0/2+1) s) 1<|cut (m.b4<|aW (m.ah 0/2) s) (m.ah 0/2+1)<|s%2^(m.ah 0/2+1)) c<->Has m c:=by have p:=H.uT aI;have r:=lh (show m.ah 0/2+1+1<=5 by omega);have hw:=l! (m.ah 0/2+1) s;generalize bY:cut (m.b4<|aW (m.ah 0/2) s) (m.ah 0/2+1) (s%2^(m.ah 0/2+1))=L;(have l:aW (m.ah 0/2+1) s<m.aZ.length:=by rw[H.dm];omega);(have k:aW (m.ah 0/2+1) s<m.a_.length:=by rw[H.e2];omega);have cI:=zF H (show 1<=aW (m.ah 0/2+1) s by omega) ae 1 L;have q:=l! (m.ah 0/2)<|eu c;unfold Has;(have o:gR (m.cy (aW (m.ah 0/2+1) s) 1 L) (eu c)=gR m (eu c):=by unfold gR;rw[cI,dY l,aC<|show¬aW (m.ah 0/2) (eu c)=aW (m.ah 0/2+1) s by omega]);unfold mX;rw[o,cI,dY l];by_cases e:gR m (eu c)=aW (m.ah 0/2+1) s;{(have aO:aW (m.ah 0/2+1) (eu c)=aW (m.ah 0/2+1) s:=by unfold gR at e;split at e;{exact e};omega);have aU:=(Ke aO).2;rw[aN e,aC ax,e,aN bd,lA k,aN rfl,<-bY];(have cr:aW (m.ah 0/2) s=aW (m.ah 0/2) (eu c):=by rw[<-Kc (m.ah 0/2) s,<-Kc (m.ah 0/2) (eu c),aO]);rw[aU,cr]};rw[aC e,lA k (j:=gR m<|eu c),aC e];by_cases d:m.ah (gR m<|eu c)=0;{rw[aN d,aN d,lA k,aC ae]};rw[aC d,aC d]
theorem ah_(H:eL m)(h:List Cell)(aI:m.ah 0%2=0)(c:Cell):Has (m.cy 0 (m.ah 0+1) h) c<->Has m c:=by(have e:0<m.aZ.length:=by rw[H.dm];omega);(have k:0<m.a_.length:=by rw[H.e2];omega);(have cI:(m.cy 0 (m.ah 0+1) h).ah 0=m.ah 0+1:=by rw[dY e,aN rfl]);have l:(m.ah 0+1)/2=m.ah 0/2:=ae;have d:=l! (m.ah 0/2)<|eu c;have cc:=(H.cur _ d.1 d.2).2 aI;have h1:=(H.cur _ d.1 d.2).1;(have c1:gR m (eu c)=aW (m.ah 0/2) (eu c):=by unfold gR;rw[aC<|by rintro⟨h,_⟩;omega]);(have cw:gR (m.cy 0 (m.ah 0+1) h) (eu c)=aW (m.ah 0/2) (eu c):=by unfold gR;rw[cI,l,dY e,aC<|show¬aW (m.ah 0/2) (eu c)=0 by omega,aC<|by rintro⟨_,h⟩;omega]);unfold Has mX;rw[c1,cw,dY e,aC<|show¬aW (m.ah 0/2) (eu c)=0 by omega,aC ae,aC ae,lA k,aC ae]
theorem ah9(H:eL m)(h:List Cell)(aI:m.ah 0%2=1)(o:∀i,2^(m.ah 0/2)<=i->i<2^(m.ah 0/2+1)->c4<=m.ah i)(hn:∀i,2^(m.ah 0/2+1)<=i->i<2^(m.ah 0/2+2)->m.ah i≠0)(c:Cell):
 Has (m.cy 0 (m.ah 0+1) h) c<->Has m c:=by(have k:0<m.aZ.length:=by rw[H.dm];omega);(have p:0<m.a_.length:=by rw[H.e2];omega);(have cI:(m.cy 0 (m.ah 0+1) h).ah 0=m.ah 0+1:=by rw[dY k,aN rfl]);have q:(m.ah 0+1)/2=m.ah 0/2+1:=ae;have l:=l! (m.ah 0/2)<|eu c;have e:=l! (m.ah 0/2+1)<|eu c;have r:=o _ l.1 l.2;have d:=hn _ e.1 e.2;(have c1:gR m (eu c)=aW (m.ah 0/2+1) (eu c):=by unfold gR;rw[aN ⟨aI,r⟩]);(have cw:gR (m.cy 0 (m.ah 0+1) h) (eu c)=aW (m.ah 0/2+1) (eu c):=by unfold gR;rw[cI,q,aC<|by rintro⟨h,_⟩;omega]);unfold Has mX;rw[c1,cw,dY k,aC<|show¬aW (m.ah 0/2+1) (eu c)=0 by omega,aC d,aC d,lA p,aC ae]
theorem ah'(H:eL m)(v:Nat)(h:List Cell)(c8:32<=w)(q:w<34)(c:Cell):Has (m.cy w v h) c<->Has m c:=by(have l:w<m.aZ.length:=by rw[H.dm];omega);(have o:w<m.a_.length:=by rw[H.e2];omega);(have d:∀i,i<32->(m.cy w v h).ah i=m.ah i:=fun i hi=>by rw[dY l,aC ae]);(have e:∀i,i<32->(m.cy w v h).b4 i=m.b4 i:=fun i hi=>by rw[lA o,aC ae]);have t:=H.size;have r:=l! (m.ah 0/2)<|eu c;have k:=af8 H<|eu c;(have p:gR (m.cy w v h) (eu c)=gR m (eu c):=by unfold gR;rw[d 0 ae,d _ ae]);unfold Has mX;rw[p,d _ k.2,d 0 ae,e _ k.2,e _ ae]
def q8:Nat->(Nat->Nat)->Nat
 |0,_=>0
 |n+1,f=>q8 n f+f n
theorem Hv(h:∀i,i<n->f i=g i):q8 n f=q8 n g:=by induction n with|zero=>rfl|succ n c=>simp only[q8];rw[c fun i hi=>h i ae,h n ae]
theorem abM(k:Nat)(hk:k<n)(h:∀i,i<n->i≠k->f i=g i):q8 n f+g k=q8 n g+f k:=by induction n with|zero=>omega|succ n d=>simp only[q8];by_cases e:k=n;{subst e;rw[Hv fun i hi=>h i ae ae];omega};have:=d ae fun i hi=>h i ae;have:=h n ae fun c=>e c.symm;omega
theorem aoq(a b:Nat)(f:Nat->Nat):q8 (a+b) f=q8 a f+q8 b (fun i=>f<|a+i):=by induction b with|zero=>simp[q8]|succ b c=>rw[Nat.add_succ];simp only[q8];omega
theorem aor(n:Nat)(f g:Nat->Nat):q8 n (fun i=>f i+g i)=q8 n f+q8 n g:=by induction n with|zero=>rfl|succ n c=>simp only[q8];omega
def q2(m:Mem)(L i j:Nat):Nat:=if m.ah (2^(L+1)+j)=0 then(cut (m.b4<|2^L+i) (L+1) j).length else(m.b4<|2^(L+1)+j).length
def under(m:Mem)(i:Nat):Nat:=
 if m.ah 0%2=1/\c4<=m.ah (2^(m.ah 0/2)+i)then q2 m (m.ah 0/2) i i+q2 m (m.ah 0/2) i (i+2^(m.ah 0/2))else(m.b4<|2^(m.ah 0/2)+i).length
def size(m:Mem):Nat:=q8 (2^(m.ah 0/2))<|under m
theorem af_(hi:i<2^aw)(h:∀c∈L,lg c aw=i):(cut L (aw+1) i).length+(cut L (aw+1)<|i+2^aw).length=L.length:=by unfold cut;induction L with|nil=>rfl|cons c L e=>have hc:=h c bI;have e:=e fun c hc=>h c (by simp[hc]);(have aB:lg c (aw+1)=i\/lg c (aw+1)=i+2^aw:=by unfold lg at hc⊢;generalize e4 (cK c.pol c.key)=s at hc⊢;rw[show(2:Nat)^(aw+1)=2^aw*2 by omega,Nat.mod_mul,hc];have:=Nat.mod_lt (s/2^aw) (show 0<2 by omega);have d:s/2^aw%2=0\/s/2^aw%2=1:=ae;rcases d with d|d;{left;rw[d];omega};right;rw[d];omega);simp only[List.filter_cons];rcases aB with aB|aB;{rw[aB,aN bI,aC<|by simp<;>omega];simp only[List.length_cons];omega};rw[aB,aC<|by simp<;>omega,aN bI];simp only[List.length_cons];omega
theorem jD.own(h:jD af m)(d:aw<=4)(hi:i<2^aw):∀c∈m.b4 (2^aw+i),lg c aw=i:=by intro c hc;have:=h.shard aw i d c (by rw[v? hi];exact hc);rwa[ov hi]at this
theorem anI(H:eL m)(bY:jD af m)(aI:m.ah 0%2=1)(c8:2^(m.ah 0/2)<=w)(x:w<2^(m.ah 0/2+1))(l:m.live w):
 size (m.cy w (m.ah w+c4)<|m.b4 w)=size m:=by have o:=H.size;(have c:w<m.aZ.length:=by rw[H.dm];omega);(have p:w<m.a_.length:=by rw[H.e2];omega);have cI:=zF H (show 1<=w by omega) ae (m.ah w+c4)<|m.b4 w;(have q:∀j,(m.cy w (m.ah w+c4)<|m.b4 w).b4 j=m.b4 j:=by intro j;rw[lA p];split;{rename_i e;rw[e]};rfl);obtain⟨y,z⟩:=l;unfold size;rw[cI];refine Hv fun i hi=>?_;unfold under q2;rw[cI,dY c,dY c,dY c,aC<|show¬2^(m.ah 0/2+1)+i=w by omega,aC<|show¬2^(m.ah 0/2+1)+(i+2^(m.ah 0/2))=w by omega];simp only[q];by_cases e:2^(m.ah 0/2)+i=w;{rw[aN e,aN ⟨aI,ae⟩,aC<|show¬(m.ah 0%2=1/\c4<=m.ah (2^(m.ah 0/2)+i))by rw[e];rintro⟨_,h⟩;omega];have u:=H.uT aI;have o:=lh (show m.ah 0/2+2<=5 by omega);have r:=Ff<|m.ah 0/2;(have d:∀j,j<2^(m.ah 0/2+1)->j%2^(m.ah 0/2)=i->m.ah (2^(m.ah 0/2+1)+j)=0:=by intro j t k;refine q9 fun bU=>?_;have:=((H.uU _ (Nat.le_add_right _ _) ae).2 bU).2.2;(have aU:par (m.ah 0/2) (2^(m.ah 0/2+1)+j)=w:=by unfold par;rw[show 2^(m.ah 0/2+1)+j=2^(m.ah 0/2)*2+j by omega,Nat.mul_add_mod,k];exact e);rw[aU]at this;omega);rw[aN<|d i ae<|ov hi,aN<|d (i+2^(m.ah 0/2)) ae<|by rw[Nat.add_mod_right];exact ov hi];exact af_ hi (bY.own H.SL hi)};rw[aC e]
theorem anJ(H:eL m)(aI:m.ah 0%2=1)(hp:c4<=m.ah (aW (m.ah 0/2) s))(bd:m.ah (aW (m.ah 0/2+1) s)=0):
 size (m.cy (aW (m.ah 0/2+1) s) 1<|cut (m.b4<|aW (m.ah 0/2) s) (m.ah 0/2+1)<|s%2^(m.ah 0/2+1))=size m:=by have q:=H.uT aI;have r:=lh (show m.ah 0/2+1+1<=5 by omega);have hw:=l! (m.ah 0/2+1) s;generalize bY:cut (m.b4<|aW (m.ah 0/2) s) (m.ah 0/2+1) (s%2^(m.ah 0/2+1))=L;(have k:aW (m.ah 0/2+1) s<m.aZ.length:=by rw[H.dm];omega);(have c:aW (m.ah 0/2+1) s<m.a_.length:=by rw[H.e2];omega);have cI:=zF H (show 1<=aW (m.ah 0/2+1) s by omega) ae 1 L;(have d:∀i j,i<2^(m.ah 0/2)->j%2^(m.ah 0/2)=i->q2 (m.cy (aW (m.ah 0/2+1) s) 1 L) (m.ah 0/2) i j=q2 m (m.ah 0/2) i j:=by intro i j hi o;unfold q2;rw[dY k,lA c,lA c,aC<|show¬2^(m.ah 0/2)+i=aW (m.ah 0/2+1) s by omega];by_cases e:2^(m.ah 0/2+1)+j=aW (m.ah 0/2+1) s;{rw[aN e,aC ax,aN e,e,aN bd,<-bY];(have l:j=s%2^(m.ah 0/2+1):=by unfold aW at e;omega);(have p:2^(m.ah 0/2)+i=aW (m.ah 0/2) s:=by unfold aW;rw[<-o,l,show 2^(m.ah 0/2+1)=2^(m.ah 0/2)*2 by omega,Nat.mod_mul_right_mod]);rw[l,p]};rw[aC e,aC e]);unfold size;rw[cI];refine Hv fun i hi=>?_;unfold under;rw[cI,dY k,aC<|show¬2^(m.ah 0/2)+i=aW (m.ah 0/2+1) s by omega,lA c,aC<|show¬2^(m.ah 0/2)+i=aW (m.ah 0/2+1) s by omega,d i i hi<|ov hi,d i (i+2^(m.ah 0/2)) hi<|by rw[Nat.add_mod_right];exact ov hi]
theorem anL(H:eL m)(h:List Cell)(aI:m.ah 0%2=0):size (m.cy 0 (m.ah 0+1) h)=size m:=by(have c:0<m.aZ.length:=by rw[H.dm];omega);(have e:0<m.a_.length:=by rw[H.e2];omega);(have cI:(m.cy 0 (m.ah 0+1) h).ah 0=m.ah 0+1:=by rw[dY c,aN rfl]);have d:(m.ah 0+1)/2=m.ah 0/2:=ae;unfold size;rw[cI,d];refine Hv fun i hi=>?_;have cc:=(H.cur (2^(m.ah 0/2)+i) ae ae).2 aI;unfold under;rw[cI,d,dY c,aC<|show¬2^(m.ah 0/2)+i=0 by omega,aC<|by rintro⟨_,h⟩;omega,aC<|by rintro⟨h,_⟩;omega,lA e,aC ae]
theorem anK(H:eL m)(h:List Cell)(aI:m.ah 0%2=1)(e:∀i,2^(m.ah 0/2)<=i->i<2^(m.ah 0/2+1)->c4<=m.ah i)(hn:∀i,2^(m.ah 0/2+1)<=i->i<2^(m.ah 0/2+2)->m.ah i≠0):
 size (m.cy 0 (m.ah 0+1) h)=size m:=by(have k:0<m.aZ.length:=by rw[H.dm];omega);(have c:0<m.a_.length:=by rw[H.e2];omega);(have cI:(m.cy 0 (m.ah 0+1) h).ah 0=m.ah 0+1:=by rw[dY k,aN rfl]);have d:(m.ah 0+1)/2=m.ah 0/2+1:=ae;have p:=Ff<|m.ah 0/2;unfold size;rw[cI,d,show 2^(m.ah 0/2+1)=2^(m.ah 0/2)+2^(m.ah 0/2)by omega,aoq,<-aor];refine Hv fun i hi=>?_;have cc:=e (2^(m.ah 0/2)+i) ae ae;have l:=hn (2^(m.ah 0/2+1)+i) ae ae;have o:=hn (2^(m.ah 0/2+1)+(i+2^(m.ah 0/2))) ae ae;unfold under q2;rw[cI,d,aN<|show m.ah 0%2=1/\c4<=m.ah (2^(m.ah 0/2)+i)from⟨aI,cc⟩,aC<|by rintro⟨h,_⟩;omega,aC<|by rintro⟨h,_⟩;omega,aC l,aC o,lA c,aC ae,lA c,aC ae,Nat.add_comm (2^(m.ah 0/2)) i]
theorem abq(H:eL m)(v:Nat)(h:List Cell)(c8:32<=w)(q:w<34):size (m.cy w v h)=size m:=by(have e:w<m.aZ.length:=by rw[H.dm];omega);(have l:w<m.a_.length:=by rw[H.e2];omega);have k:=H.size;(have c:∀i,i<32->(m.cy w v h).ah i=m.ah i:=fun i hi=>by rw[dY e,aC ae]);(have d:∀i,i<32->(m.cy w v h).b4 i=m.b4 i:=fun i hi=>by rw[lA l,aC ae]);unfold size;rw[c 0 ae];refine Hv fun i hi=>?_;unfold under;rw[c 0 ae,c _ ae,d _ ae];by_cases hc:m.ah 0%2=1/\c4<=m.ah (2^(m.ah 0/2)+i);{rw[aN hc,aN hc];have p:=H.uT hc.1;have k:=lh (show m.ah 0/2+2<=5 by omega);have o:=Ff<|m.ah 0/2;unfold q2;rw[c _ ae,c _ ae,d _ ae,d _ ae,d _ ae]};rw[aC hc,aC hc]
theorem abp(H:eL m)(h:List Cell)(c8:1<=w)(y:w<32)(x:m.live w)(I:1<=v)(K:v<c4):
   size (m.cy w v h)+(m.b4 w).length=size m+h.length:=by
 (have l:w<m.aZ.length:=by rw[H.dm];omega);(have o:w<m.a_.length:=by rw[H.e2];omega);have cI:=zF H c8 y v h;have D:=Ff<|m.ah 0/2;have C:=H.Z' c8 y x;(have p:∀j,j≠w->(m.cy w v h).ah j=m.ah j:=fun j c=>by rw[dY l,aC c]);(have e:∀j,j≠w->(m.cy w v h).b4 j=m.b4 j:=fun j c=>by rw[lA o,aC c]);obtain⟨G,J⟩:=x;unfold size;rw[cI];rcases C with⟨h1,A⟩|⟨h1,A,E,u⟩
 . have hk:w-2^(m.ah 0/2)<2^(m.ah 0/2):=ae
   have:=abM (f:=under<|m.cy w v h) (g:=under m) _ hk (fun i hi bU=>by
     have z:¬2^(m.ah 0/2)+i=w:=ae
     unfold under q2
     rw[cI,p (2^(m.ah 0/2)+i) z,e (2^(m.ah 0/2)+i) z,p (2^(m.ah 0/2+1)+i) ae,e (2^(m.ah 0/2+1)+i) ae,p (2^(m.ah 0/2+1)+(i+2^(m.ah 0/2))) ae,e (2^(m.ah 0/2+1)+(i+2^(m.ah 0/2))) ae])
   (have aO:under (m.cy w v h) (w-2^(m.ah 0/2))=h.length:=by unfold under;rw[cI,show 2^(m.ah 0/2)+(w-2^(m.ah 0/2))=w by omega,dY l,aN rfl,lA o,aN rfl,aC<|by rintro⟨_,h⟩;omega]);(have aU:under m (w-2^(m.ah 0/2))=(m.b4 w).length:=by unfold under;rw[show 2^(m.ah 0/2)+(w-2^(m.ah 0/2))=w by omega,aC<|by rintro⟨_,h⟩;omega]);omega
 . have F:=Kb (m.ah 0/2) w;have hk:par (m.ah 0/2) w-2^(m.ah 0/2)<2^(m.ah 0/2):=ae;have c:w-2^(m.ah 0/2+1)<2^(m.ah 0/2+1):=ae;(have B:par (m.ah 0/2) w-2^(m.ah 0/2)=(w-2^(m.ah 0/2+1))%2^(m.ah 0/2):=by unfold par;rw[Nat.add_sub_cancel_left];(conv=>lhs;rw[show w=2^(m.ah 0/2)*2+(w-2^(m.ah 0/2+1))by omega]);rw[Nat.mul_add_mod]);(have k:∀i j,i<2^(m.ah 0/2)->2^(m.ah 0/2+1)+j≠w->q2 (m.cy w v h) (m.ah 0/2) i j=q2 m (m.ah 0/2) i j:=by intro i j hi c;unfold q2;rw[p (2^(m.ah 0/2+1)+j) c,e (2^(m.ah 0/2+1)+j) c,e (2^(m.ah 0/2)+i) ae]);(have t:∀i j,i<2^(m.ah 0/2)->2^(m.ah 0/2+1)+j=w->q2 (m.cy w v h) (m.ah 0/2) i j=h.length/\q2 m (m.ah 0/2) i j=(m.b4 w).length:=by intro i j hi c;unfold q2;rw[c,dY l,aN rfl,aC ae,aC ae,lA o,aN rfl];exact⟨rfl,rfl⟩);(have q:∀i,i<2^(m.ah 0/2)->(m.cy w v h).ah (2^(m.ah 0/2)+i)=m.ah (2^(m.ah 0/2)+i)/\(m.cy w v h).b4 (2^(m.ah 0/2)+i)=m.b4 (2^(m.ah 0/2)+i):=by intro i hi;rw[dY l,aC ae,lA o,aC ae];exact⟨rfl,rfl⟩);have r:(w-2^(m.ah 0/2+1))%2^(m.ah 0/2)=w-2^(m.ah 0/2+1)\/(w-2^(m.ah 0/2+1))%2^(m.ah 0/2)+2^(m.ah 0/2)=w-2^(m.ah 0/2+1):=by by_cases cc:w-2^(m.ah 0/2+1)<2^(m.ah 0/2);{left;exact ov cc};·right;rw[Nat.mod_eq_sub_mod ae,ov ae];omega
   have:=abM (f:=under<|m.cy w v h) (g:=under m) _ hk (fun i hi bU=>by
     unfold under
     rw[cI,(q i hi).1,(q i hi).2,k i i hi ae,k i _ hi ae])
   have eI:2^(m.ah 0/2)+(par (m.ah 0/2) w-2^(m.ah 0/2))=par (m.ah 0/2) w:=ae;have hi:=hk;(have aO:under (m.cy w v h) (par (m.ah 0/2) w-2^(m.ah 0/2))+(m.b4 w).length=under m (par (m.ah 0/2) w-2^(m.ah 0/2))+h.length:=by unfold under;rw[cI,(q _ hi).1,eI,aN ⟨h1,u⟩,aN ⟨h1,u⟩];rcases r with r|r;{have d:=t _ (par (m.ah 0/2) w-2^(m.ah 0/2)) hi ae;rw[d.1,d.2,k _ (par (m.ah 0/2) w-2^(m.ah 0/2)+2^(m.ah 0/2)) hi ae];omega};have d:=t (par (m.ah 0/2) w-2^(m.ah 0/2)) (par (m.ah 0/2) w-2^(m.ah 0/2)+2^(m.ah 0/2)) hi ae;rw[d.1,d.2,k _ (par (m.ah 0/2) w-2^(m.ah 0/2)) hi ae];omega);omega
theorem Z_(H:eL m)(c8:1<=w)(d:w<32)(c:m.live w):(m.b4 w).length<=size m:=by have:=abp H [] c8 d c (v:=1) ae ax;simp at this;omega
theorem rm:∀a:List Nat,cT a a=0
 |[]=>rfl
 |a::c=>by unfold cT;rw[aC ae,aC ae];exact rm c
theorem cmp_eq:∀{a b:List Nat},cT a b=0->a=b
 |[],[],_=>rfl
 |[],_::_,h=>by simp[cT]at h
 |_::_,[],h=>by simp[cT]at h
 |a::c,b::bs,h=>by unfold cT at h;split at h;{simp at h};split at h;{simp at h};rw[cmp_eq h,show a=b by omega]
