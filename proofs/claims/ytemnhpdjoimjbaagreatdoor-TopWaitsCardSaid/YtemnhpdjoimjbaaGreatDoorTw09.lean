import Derived.Test.YtemnhpdjoimjbaaGreatDoorTw08
namespace Go.Proofs.YtemnhpdjoimjbaaGreatDoor
open Go.RowKit Top
set_option linter.unusedVariables false
theorem info_cellT :(Tryz.prog.info? 100).map (fun i=>(i.zero,i.size,i.bytes))=some (some (.agg #[.int .i64 0,.slice none 0 0,.int .i64 0,.slice none 0 0]),4,64):=by kernel_rfl
theorem Row.cells {w:World} {t:TypeId} {size n:Nat} {a:Option Addr} {m c:Nat} {xs:List Value} (h:Row w t size n (.slice a m c) xs):m=n∧n≤c∧c≤maxLen∧(0<n→ ∃b off,a=some ⟨b,off,none⟩∧ ∀j u,xs[j]? =some u→w.cell? ⟨b,off+j,none⟩=some u):=by
 obtain⟨h1,a',c',e,h3,h4,h5⟩:=h
 injection e with e1 e2 e3
 subst e1 e2 e3
 refine⟨rfl,h3,h4,fun hn=> ?_⟩
 obtain⟨b,off,arr,h6,h7,h8⟩:=h5 hn
 exact⟨b,off,h6,fun j u hu=>by rw[h7.cell];exact h8 j u hu⟩
theorem CV.one (x:CV) (w:World) (h:x.ok w): ∀u∈x.enc,u.oneCell'=true:=by
 obtain⟨⟨_,_,ka,kc,e1,_⟩,_,ha,hc,e2,_⟩:=h
 intro u hu
 unfold CV.enc at hu
 rw[e1,e2]at hu
 simp at hu
 rcases hu with rfl|rfl|rfl|rfl<;>rfl
theorem encs_one {xs:List CV} {w:World} (h: ∀x∈xs,x.ok w): ∀u∈encs xs,u.oneCell'=true:=by
 intro u hu
 obtain⟨x,hx,hu⟩:=List.mem_flatMap.1 hu
 exact x.one w (h x hx) u hu
set_option maxHeartbeats 2000000 in
set_option maxRecDepth 100000 in
theorem clone_zero (a:Addr) (c:Nat) (w:World):
   Calls Tryz.prog 93 #[.slice (some a) 0 c] w fun e w'=> ∃v',e= .returned v'∧w'.ownsRow w.heap.size 100 4 v' 0 []∧Below w.heap.size w w':=by
 obtain⟨i0,hi,hz0,hz1,hz2⟩:=info_parts info_cellT
 have q: ∀(w:World) (a:Option Addr) (n c n' c':Nat),(binOp .eql 64 (.slice a n c) (.slice none n' c')).run Tryz.prog w= .ok (.bool a.isNone) w:=fun w a n c n' c'=>Lib.run_eql_slice_nil w _ _ a n c n' c' Tryz.underlying64
 go_enter Tryz.func93,Tryz.ntmps93
 go_wp2_with (at_builtin;refine wpList_append_own _ rfl _ _ 64 rfl w.heap.size 100 i0 (.agg #[.int .i64 0,.slice none 0 0,.int .i64 0,.slice none 0 0]) 4 64 Tryz.underlying64 hi hz0 hz1 hz2 rfl (by decide) _ _ _ rfl (World.ownsRow_made w #[] 0 (Nat.le_refl _) (Nat.zero_le _) rfl) a 0 c [] rfl rfl (by intro j u hj;simp at hj) (by intro u hu;cases hu) (by unfold maxLen;omega) (by omega) (by simp) ?_)
 intro v' w1 hown hgrow hnil
 go_wp2
 go_ret
 exact⟨v',rfl,by simpa using hown,((Below.refl _ w).alloc (Nat.le_refl _) _).grown hgrow (by simp) (by intro k hk;simp [Value.ownBlock]at hk;omega)⟩
theorem clone_cells (v:Value) (xs:List CV) (w:World) (h:Row w 100 4 xs.length v (encs xs)) (hok: ∀x∈xs,x.ok w) (hfew:xs.length≤1048576):
   Calls Tryz.prog 93 #[v] w fun e w'=> ∃v',e= .returned v'∧w'.ownsRow w.heap.size 100 4 v' xs.length (encs xs)∧Below w.heap.size w w':=by
 obtain⟨i0,hi,hz0,hz1,hz2⟩:=info_parts info_cellT
 obtain⟨a,c,rfl⟩: ∃a c,v= .slice a xs.length c:=by obtain⟨_,a,c,e,_⟩:=h;exact⟨a,c,e⟩
 obtain⟨_,hc1,hc2,hcells⟩:=h.cells
 by_cases hz:xs.length=0
 · have hx:xs=[]:=List.eq_nil_of_length_eq_zero hz
   subst hx
   cases a with
   |none=>
     refine(Tryz.slices_Clone_nil_f93 0 c w).mono ?_
     rintro e w' ⟨rfl,rfl⟩
     exact⟨_,rfl,World.ownsRow_nil _ _ _ _,Below.refl _ _⟩
   |some a=>exact clone_zero a c w
 · obtain⟨b,off,rfl,hcell⟩:=hcells (by omega)
   refine(Tryz.slices_Clone_f93 i0 _ 4 64 hi hz0 hz1 hz2 rfl (by decide) Tryz.sizeOf100 b off xs.length c (encs xs) w (encs_length xs) (by omega) (by omega) hcell (encs_one hok)).mono ?_
   rintro e w' ⟨v',rfl,h2,_,h3⟩
   exact⟨v',rfl,h2,h3⟩
end Go.Proofs.YtemnhpdjoimjbaaGreatDoor
