import Derived.Test.YtemnhpdjoimjbaaGreatTs46
import Derived.Test.YtemnhpdjoimjbaaGreatRows
import Derived.OpenShut
import Derived.Lib.SmallJoins
import Derived.Deep.Slices
import Derived.ChangeSame
import Derived.Test.YtemnhpdjoimjbaaGreatTs40
section
namespace Go.Proofs.YtemnhpdjoimjbaaGreat
open Go.RowKit Top
set_option linter.unusedVariables false
variable {list : List Pol}
theorem sorted_eq : ∀ {L L' : List Cell}, L.Pairwise identLt → L'.Pairwise identLt → (∀ c, c ∈ L ↔ c ∈ L') → L = L'
 | [], [], _, _, _ => rfl
 | [], b :: L', _, _, h => by have := (h b).2 (by simp); simp at this
 | a :: L, [], _, _, h => by have := (h a).1 (by simp); simp at this
 | a :: L, b :: L', h1, h2, h => by
   have hself : ∀ c : Cell, ¬ identLt c c := fun c hc => by unfold identLt at hc; rw [cmp_self] at hc; omega
   obtain ⟨g1, g2⟩ := List.pairwise_cons.1 h1
   obtain ⟨g3, g4⟩ := List.pairwise_cons.1 h2
   have hab : a = b := by
     rcases List.mem_cons.1 ((h a).1 (by simp)) with e | e
     · exact e
     · rcases List.mem_cons.1 ((h b).2 (by simp)) with e' | e'
       · exact e'.symm
       · exact absurd (cmp_trans (g1 b e') (g3 a e)) (hself a)
   subst hab
   rw [sorted_eq g2 g4 fun c => ⟨fun hc => ?_, fun hc => ?_⟩]
   · rcases List.mem_cons.1 ((h c).1 (by simp [hc])) with e | e
     · subst e; exact absurd (g1 c hc) (hself c)
     · exact e
   · rcases List.mem_cons.1 ((h c).2 (by simp [hc])) with e | e
     · subst e; exact absurd (g3 c hc) (hself c)
     · exact e
theorem take_flat_le (LL : List (List Cell)) (k : Nat) : (LL.take k).flatten.length ≤ LL.flatten.length := by
 conv => rhs; rw [← List.take_append_drop k LL]
 rw [List.flatten_append, List.length_append]
 omega
theorem shards_count (m : Mem) : ∀ k, (shardsF m k).length ≤ 2 * k
 | 0 => Nat.le_refl _
 | k + 1 => by
   have h : (shardF m k).length ≤ 2 := by unfold shardF; split <;> simp
   have := shards_count m k
   rw [shardsF_succ, List.length_append]
   omega
theorem append_nil_any {w : World} {base n : Nat} {v : Value} {xs : List Value} (h : w.ownsRow base 45 4 v n xs) (ty : TypeId) : (Builtin.append_ #[40, 40] ty #[v, .slice none 0 0]).run Tryz.prog w = .ok v w := by
 rcases h.2 with ⟨rfl, _⟩ | ⟨g, cap, cur, rfl, _, hc, h2, _⟩
 · exact append_nil_none w 0 ty
 · obtain ⟨i0, hi, hz0, hz1, hz2⟩ := info_parts info_cellT
   have := run_append_room_src w 40 40 ty 45 i0 Tryz.underlying40 hi g 0 n cap (.slice none 0 0) 0 [] (Src.ofNil w Tryz.underlying40 0) (by omega) (fun j hj => by simp at hj) (fun j hj => by simp at hj)
   exact this
set_option maxHeartbeats 4000000 in
set_option maxRecDepth 100000 in
theorem cells_own (B : Nat) (A : Adr) (m : Mem) (w : World) (hs : St w B A m) (hD : Dir m) (hok : ∀ c ∈ allF m, CellOk c) (hsz : (allF m).length ≤ 1048576) :
   Calls Tryz.prog 9 #[P A.K] w fun e w' => ∃ v base ys, e = .returned v ∧ OwnCells w' base v ys ∧ (ys.map CV.c).Perm (allF m) ∧ ys.Pairwise (fun a b => ¬ cmpB (cid b.c) (cid a.c) < 0) ∧ Below w.heap.size w w' := by
 obtain ⟨i0, hi, hz0, hz1, hz2⟩ := info_parts info_cellT
 have Ka := Lib.hid (all_any B A m w hs hD)
 have c2 := hs.core.c2
 have hall : allF m = (shardsF m (2 ^ lvlOf m)).flatten := rfl
 have Hok := Lib.hid hok
 rw [hall] at hsz
 have Hall := Lib.hid hall
 have hll : (shardsF m (2 ^ lvlOf m)).length ≤ 1000 := by
   have h1 := shards_count m (2 ^ lvlOf m)
   have h2 : 2 ^ lvlOf m ≤ 16 := two_le (show lvlOf m ≤ 4 by have := hD.d8; unfold lvlOf; omega)
   omega
 generalize shardsF m (2 ^ lvlOf m) = LL at *
 have Hsz := Lib.hid hsz
 clear hs hD hok hsz hall
 go_enter Tryz.func9, Tryz.ntmps9
 go_upto_region 5 with (go_at_call 24; (refine Ka.out.mono ?_); rintro e u ⟨lv, rfl, hls, hbu⟩; obtain ⟨la, lc, rfl⟩ : ∃ a c, lv = .slice a LL.length c := own_slice hls.choose_spec.1; have Hls := Lib.hid hls; have Hbu := Lib.hid hbu; clear hls hbu)
 obtain ⟨vs, hvo, hvs⟩ := Hls.out
 have hvl : vs.length = LL.length := by have := hvo.1; rwa [Nat.mul_one] at this
 have Hvo := Lib.hid hvo; have Hvs := Lib.hid hvs; have Hvl := Lib.hid hvl
 clear hvo hvs hvl
 go_loopw [3, 14] (fun ov iv wr => ∃ (k : Nat) (ys : List CV), iv = .int .i64 k ∧ k ≤ LL.length ∧ ys.map CV.c = (LL.take k).flatten ∧ OwnCells wr u.heap.size ov ys ∧ Below u.heap.size u wr) (fun _ iv _ => LL.length - (intOf iv).toNat)
 case atStart => exact ⟨0, [], rfl, Nat.zero_le _, by simp, OwnCells.nil _ _, Below.refl _ _⟩
 case round =>
   obtain ⟨k, ys, rfl, hk, hys, how, hbel⟩ := hrel
   have Hys := Lib.hid hys; have How := Lib.hid how; have Hbel := Lib.hid hbel
   clear hys how hbel
   by_cases hA : k < LL.length
   · have hkv : k < vs.length := by have := Hvl.out; omega
     obtain ⟨xv, hxv⟩ : ∃ xv, vs[k]? = some xv := ⟨_, List.getElem?_eq_getElem hkv⟩
     have hx := Hvs.out k xv LL[k] hxv (List.getElem?_eq_getElem hA)
     have hcell : ∃ g, la = some ⟨g, 0, none⟩ ∧ u.cell? ⟨g, k, none⟩ = some xv := by
       rcases Hvo.out.2 with ⟨e, h0⟩ | ⟨g, cap, cur, e, _, hc, _, _, _, ht⟩
       · omega
       · injection e with e1 e2 e3
         refine ⟨g, e1, ?_⟩
         rw [← ht, List.getElem?_take_of_lt (by omega), Array.getElem?_toList] at hxv
         simp [World.cell?, hc, hxv]
     obtain ⟨g, rfl, hcell⟩ := hcell
     have y0 := cell_later Hbel.out hcell
     obtain ⟨xs, xa, xc, _, rfl, _⟩ := hx.parts
     have Kc := Lib.hid (copy_any _ LL[k] wr (hx.keep (fr0 Hbel.out)))
     have Htk : Hid ((LL.take (k + 1)).flatten = (LL.take k).flatten ++ LL[k]) := by
       show _ = _
       rw [List.take_succ_eq_append_getElem hA, List.flatten_append]
       simp
     have Hle : Hid ((LL.take (k + 1)).flatten.length ≤ 1048576) := Nat.le_trans (take_flat_le LL (k + 1)) Hsz.out
     clear hx hcell hkv hxv
     generalize LL[k] = Lk at *
     obtain ⟨oa, oc, rfl⟩ : ∃ a c, u3 = .slice a ys.length c := own_slice How.out.1
     go_wp2_with (first
       | (go_at_call 25; (refine Kc.out.mono ?_); rintro e w2 ⟨v2, ys2, rfl, hy2, ho2, hb2⟩; have Hy2 := Lib.hid hy2; have Ho2 := Lib.hid ho2; have Hb2 := Lib.hid hb2; have hlen2 : ys.length + ys2.length ≤ 1048576 := (by have h1 := congrArg List.length Hys.out; have h2 := congrArg List.length hy2; have h3 := Hle.out; rw [Htk.out, List.length_append] at h3; rw [List.length_map] at h1 h2; omega); have Hlen2 := Lib.hid hlen2; have hbw : u.heap.size ≤ w2.heap.size := Nat.le_trans Hbel.out.size hb2.size; have Hown2 := Lib.hid (ownsRow_below How.out.1 hb2); clear hy2 hb2 hlen2; rcases ho2.1.2 with ⟨rfl, hnone⟩ | ⟨g2, cap2, cur2, rfl, hg2⟩)
       | (have hnn := hnone; at_builtin; refine Lib.wpList_append_run _ rfl _ _ _ _ rfl _ _ rfl rfl _ _ (append_nil_any Hown2.out _) ?_)
       | (have hnn := hg2; at_builtin; refine wpList_append_own _ rfl _ _ 40 rfl u.heap.size 45 i0 (.agg #[.int .i64 0, .slice none 0 0, .int .i64 0, .slice none 0 0]) 4 64 Tryz.underlying40 hi hz0 hz1 hz2 rfl (by decide) _ ys.length (encs ys) rfl Hown2.out ⟨g2, 0, none⟩ ys2.length cap2 (encs ys2) rfl (encs_length ys2) (fun j v hv => Ho2.out.1.cells (g := g2) rfl j v hv) (encs_one Ho2.out.2) (by have := Hlen2.out; unfold maxLen; omega) (by have := Hlen2.out; omega) hbw ?_; intro v' w3 hown3 hgrow3 hnil3))
     · have hz0 : ys2 = [] := List.eq_nil_of_length_eq_zero hnone
       have hl0 := Hy2.out
       rw [hz0] at hl0
       refine ⟨⟨k + 1, ys, by go_num, by omega, ?_, ⟨Hown2.out, fun y hy => (How.out.2 y hy).keep (fr0 Hb2.out)⟩, below_then Hbel.out Hb2.out⟩, ?_⟩
       · rw [Htk.out, Hys.out, ← hl0]
         simp
       · simp [intOf]
         omega
     · have hr := own_row Hown2.out
       refine ⟨⟨k + 1, ys ++ ys2, by go_num, by omega, ?_, ⟨?_, fun y hy => ?_⟩, ?_⟩, ?_⟩
       · rw [Htk.out, List.map_append, Hys.out, Hy2.out]
       · rw [encs_append, List.length_append]
         exact hown3
       · rcases List.mem_append.1 hy with hy | hy
         · exact ((How.out.2 y hy).keep (fr0 Hb2.out)).grown hgrow3 hr
         · exact (Ho2.out.2 y hy).grown hgrow3 hr
       · exact (below_then Hbel.out Hb2.out).grown hgrow3 hbw (fun q hq => (Hown2.out.lt q hq).1)
       · simp [intOf]
         omega
   · obtain rfl : k = LL.length := by omega
     have hys := Hys.out
     rw [List.take_length, ← Hall.out] at hys
     have hoks : ∀ y ∈ ys, CellOk y.c := fun y hy => Hok.out y.c (by rw [← hys]; exact List.mem_map_of_mem hy)
     have hyl : ys.length ≤ 1048576 := by
       have h1 := congrArg List.length hys
       have h2 := Hsz.out
       rw [← Hall.out] at h2
       rw [List.length_map] at h1
       omega
     have Hys' := Lib.hid hys
     rcases How.out.1.2 with ⟨rfl, hz⟩ | ⟨g2, cap2, cur2, rfl, hg2, hc2, _⟩
     · have hy0 : ys = [] := List.eq_nil_of_length_eq_zero hz
       clear hys hoks hyl hz
       subst hy0
       go_wp2_with (go_at_call 26; (refine (sort_nil _ _).mono ?_); rintro e w2 ⟨rfl, hb⟩; have Hb := Lib.hid hb; clear hb)
       exact bodyPost_ret (v := .slice none 0 0) (by simp [results, Tryz.results9, go_sem]) rfl ⟨_, rfl, u.heap.size, [], How.out.later Hb.out, by rw [← Hys'.out], List.Pairwise.nil, below_then Hbu.out (below_then Hbel.out Hb.out)⟩
     · have Ks := Lib.hid (sort_any g2 cap2 ys wr u.heap.size How.out hoks (by omega))
       clear hys hoks hyl hc2
       go_wp2_with (go_at_call 26; (refine Ks.out.mono ?_); rintro e w2 ⟨rfl, ys', hp, hpw, ho, hb⟩; have Ho := Lib.hid (And.intro hp (And.intro hpw (And.intro ho hb))); clear hp hpw ho hb)
       have hl := Ho.out.1.length_eq
       refine bodyPost_ret (v := .slice (some ⟨g2, 0, none⟩) ys.length cap2) (by simp [results, Tryz.results9, go_sem]) rfl ⟨_, rfl, u.heap.size, ys', ?_, ?_, Ho.out.2.1, ?_⟩
       · rw [← hl]
         exact Ho.out.2.2.1
       · rw [← Hys'.out]
         exact Ho.out.1.map _
       · have h1 := Ho.out.2.2.2 u.heap.size hg2 Hbel.out.size
         have h2 := Hbel.out.trans h1
         exact below_then Hbu.out h2
theorem cells_any (B : Nat) (A : Adr) (m : Mem) (w : World) (hs : St w B A m) (hD : Dir m) (hL : Lies list m) (hsz : size m ≤ 1048576) :
   Calls Tryz.prog 9 #[P A.K] w fun e w' => ∃ v L, e = .returned v ∧ CellsAt w' v L ∧ (∀ c, c ∈ L ↔ Has m c) ∧ Below w.heap.size w w' := by
 refine (cells_own B A m w hs hD (fun c h => all_cell hL hD h) (by rw [all_length]; exact hsz)).mono ?_
 rintro e w' ⟨v, base, ys, rfl, ho, hp, hpw, hb⟩
 have hne : (ys.map CV.c).Pairwise fun a b => cid a ≠ cid b := (hp.pairwise_iff (fun h e => h e.symm)).2 (all_ne hL hD)
 have hpw' : (ys.map CV.c).Pairwise fun a b => ¬ cmpB (cid b) (cid a) < 0 := List.pairwise_map.2 hpw
 refine ⟨v, ys.map CV.c, rfl, ⟨ys, rfl, Row.own ho.1, ho.2, ⟨fun c hc => all_cell hL hD (hp.mem_iff.1 hc), sorted_lt hpw' hne, ?_⟩⟩, fun c => hp.mem_iff.trans (all_has hL hD c), hb⟩
 rw [hp.length_eq, all_length]
 exact hsz
end Go.Proofs.YtemnhpdjoimjbaaGreat
end
section
namespace Go.Proofs.YtemnhpdjoimjbaaGreat
open Go.RowKit Top
set_option linter.unusedVariables false
def relC (key : List Nat) (serial : Int) : Top.Call := ⟨3, 1, key, serial⟩
theorem start_pd {s : Top.Sys} {who : Nat} {c : Top.Call} (hp : s.pd who = none) : startS s who c = ⟨s.m, setP s.pd who (some (liveOf c, firstK c))⟩ := by unfold startS; rw [hp]
theorem alone_call {list : List Pol} {room : Nat} (T : TabOk list room) {s : Top.Sys} {n who : Nat} {c : Top.Call} (hok : SysOk list room s n) (hn : n + 600 < 4611686018427387900) (hw : who < 64) (hp : s.pd who = none) (hc : CallIn list c) :
   ∃ r s', aloneS list room BlV who 512 (startS s who c) = some (r, s') ∧ SysOk list room s' (n + 512) ∧ s'.pd who = none ∧ (∀ j, j ≠ who → s'.pd j = s.pd j) ∧ s'.m.clock = s.m.clock := by
 have h1 := hok.start hw hc
 have e := start_pd (c := c) hp
 have hk := (first_ok (list := list) (room := room) hc s.m).1
 have hcost := cost_le hk
 rw [e] at h1 ⊢
 obtain ⟨r, s', h2, h3, h4, h5, h6⟩ := alone_ends sound_V T hw 512 n _ _ _ h1 (by omega) (setP_self s.pd who _) (by show cost s.m _ < 512; omega)
 exact ⟨r, s', h2, h3, h4, fun j hj => (h5 j hj).trans (setP_ne _ _ hj), h6⟩
end Go.Proofs.YtemnhpdjoimjbaaGreat
end
section
namespace Go.Proofs.YtemnhpdjoimjbaaGreat
open Go.RowKit Top
set_option linter.unusedVariables false
theorem m0_word (i : Nat) : m0.word i = if i = 1 then 1 else 0 := by
 have h : ∀ i, i < 34 → m0.word i = if i = 1 then 1 else 0 := by decide
 by_cases hi : i < 34
 · exact h i hi
 · unfold Mem.word
   rw [List.getD_eq_getElem?_getD, List.getElem?_eq_none (by show 34 ≤ i; omega), if_neg (by omega)]
   rfl
theorem tot_none : ∀ n, tot (fun _ => none) n = 0
 | 0 => rfl
 | n + 1 => by
   show tot (fun _ => none) n + 0 = 0
   rw [tot_none n]
theorem dir0 : Dir m0 := by
 have w0 : m0.word 0 = 0 := rfl
 refine ⟨rfl, rfl, by rw [w0]; decide, fun i h1 h2 => ?_, fun i h1 h2 => ?_, fun i h1 h2 => ?_, fun i h1 h2 => ?_, by decide⟩
 · rw [w0] at h2
   have h2 : i < 1 := h2
   omega
 · rw [w0] at h1 h2
   have h1 : 1 ≤ i := h1
   have h2 : i < 2 := h2
   obtain rfl : i = 1 := by omega
   exact ⟨by decide, fun _ => by decide⟩
 · rw [w0] at h1
   have h1 : 2 ≤ i := h1
   rw [m0_word, if_neg (by omega)]
   exact ⟨by decide, fun h => absurd rfl h⟩
 · rw [m0_word]
   split
   · exact ⟨by decide, by decide⟩
   · exact ⟨by decide, by decide⟩
theorem sys0 (list : List Pol) (room : Nat) : SysOk list room ⟨m0, fun _ => none⟩ 1 := by
 refine ⟨⟨dir0, ⟨fun i => by rw [m0_hold]; exact WfL.nil, fun l s hl c hc => (by rw [m0_hold] at hc; cases hc), fun i c hc => (by rw [m0_hold] at hc; cases hc)⟩, ?_, ?_, ?_, by decide⟩, fun who x k _ h => (by cases h), by decide⟩
 · show m0.word 32 = size m0 + tot (fun _ => none) 64
   rw [tot_none]
   rfl
 · show m0.word 32 ≤ room
   exact Nat.zero_le _
 · show m0.word 33 ≤ _
   decide
theorem fit_fits {p : Pk} (h : PkOk p) (hk : ∀ b ∈ p.c.key, b < 256) : PkFit tabL (fitP p) ∧ (fitP p).who < 5 := by
 obtain ⟨h1, h2, h3, h4, h5, h6, h7, h8, h9, h10⟩ := h
 have ho : 1 ≤ fitOp p.c.op ∧ fitOp p.c.op ≤ 6 := by unfold fitOp; split <;> constructor <;> omega
 have hw : 0 ≤ p.who % 18446744073709551616 % 5 ∧ p.who % 18446744073709551616 % 5 < 5 := by omega
 refine ⟨⟨?_, ⟨(p.who % 18446744073709551616 % 5).toNat, ?_, ?_⟩, ⟨⟨ho.1, ho.2, fun e => ?_, ?_, ?_, fun e1 e2 => ?_⟩, fun b hb => hk b (List.mem_of_mem_take hb), ?_⟩, ?_, ?_⟩, hw.2⟩
 · show p.kind % 3 < 3
   omega
 · show p.who % 18446744073709551616 % 5 = _
   omega
 · omega
 · have e : fitOp p.c.op = 1 := e
   show 0 ≤ fitN (fitOp p.c.op) p.c.n ∧ fitN (fitOp p.c.op) p.c.n ≤ 4611686018427387903
   rw [e]
   exact clampI_tick _
 · show (p.c.key.take 2).length ≤ 255
   rw [List.length_take]
   omega
 · show ∃ q : Nat, fitPol (fitOp p.c.op) p.c.pol = (q : Int) ∧ q < 2
   unfold fitPol
   split
   · exact ⟨1, rfl, by decide⟩
   · exact ⟨0, rfl, by decide⟩
 · have e1 : fitOp p.c.op ≤ 4 := e1
   have e2 : kindOf (fitOp p.c.op) ≠ 0 := e2
   show (tabL.getD (fitPol (fitOp p.c.op) p.c.pol).toNat default).kind = kindOf (fitOp p.c.op)
   have ho4 : fitOp p.c.op = 1 ∨ fitOp p.c.op = 2 ∨ fitOp p.c.op = 3 ∨ fitOp p.c.op = 4 := by omega
   rcases ho4 with e | e | e | e
   · rw [e]; rfl
   · rw [e]; rfl
   · rw [e]; rfl
   · rw [e] at e2
     exact absurd rfl e2
 · show -9223372036854775808 ≤ fitN (fitOp p.c.op) p.c.n ∧ fitN (fitOp p.c.op) p.c.n ≤ 9223372036854775807
   unfold fitN
   split
   · have := clampI_tick p.c.n
     omega
   · exact ⟨h7, h8⟩
 · show 0 ≤ p.N % 18446744073709551616 % 40
   omega
 · show p.N % 18446744073709551616 % 40 ≤ 4611686018427387903
   omega
end Go.Proofs.YtemnhpdjoimjbaaGreat
end
section
namespace Go.Proofs.YtemnhpdjoimjbaaGreat
open Go.ChangeShapes Go.WideShapes Go.Deep Go.RowKit Go.Joins Top
set_option linter.unusedVariables false
def PicksAt (w : World) (v : Value) (L : List Pk) : Prop :=
 (∀ p ∈ L, PkOk p) ∧ ∃ a c, v = .slice a L.length c ∧ L.length ≤ c ∧ c ≤ maxLen ∧
   (0 < L.length → ∃ b off, a = some ⟨b, off, none⟩ ∧ ∀ j p, L[j]? = some p → ∃ kv, ByAt w kv p.c.key ∧ w.cell? ⟨b, off + j * 7, none⟩ = some (.int .u8 (p.kind : Nat)) ∧ w.cell? ⟨b, off + j * 7 + 1, none⟩ = some (.int .i64 p.who) ∧ w.cell? ⟨b, off + j * 7 + 2, none⟩ = some (.int .u8 (p.c.op : Nat)) ∧ w.cell? ⟨b, off + j * 7 + 3, none⟩ = some (.int .i64 p.c.pol) ∧ w.cell? ⟨b, off + j * 7 + 4, none⟩ = some kv ∧ w.cell? ⟨b, off + j * 7 + 5, none⟩ = some (.int .i64 p.c.n) ∧ w.cell? ⟨b, off + j * 7 + 6, none⟩ = some (.int .i64 p.N))
theorem i64_of_wf {x : Int} (h : (Lit.int .i64 x).wf = true) : -9223372036854775808 ≤ x ∧ x ≤ 9223372036854775807 := by
 have e1 : IntKind.i64.min = -9223372036854775808 := by decide
 have e2 : IntKind.i64.max = 9223372036854775807 := by decide
 simp only [Lit.wf, e1, e2, Bool.and_eq_true, decide_eq_true_eq] at h
 omega
theorem u8_of_wf {x : Int} (h : (Lit.int .u8 x).wf = true) : ∃ n : Nat, x = n ∧ n < 256 := by
 have e1 : IntKind.u8.min = 0 := by decide
 have e2 : IntKind.u8.max = 255 := by decide
 simp only [Lit.wf, e1, e2, Bool.and_eq_true, decide_eq_true_eq] at h
 exact ⟨x.toNat, by omega, by omega⟩
theorem nat_list {α : Type} {P : Nat → α → Prop} : ∀ n, (∀ i, i < n → ∃ x, P i x) → ∃ L : List α, L.length = n ∧ ∀ i, i < n → ∃ x, L[i]? = some x ∧ P i x
 | 0, _ => ⟨[], rfl, fun i hi => by omega⟩
 | n + 1, h => by
   obtain ⟨L, hl, hL⟩ := nat_list n (fun i hi => h i (by omega))
   obtain ⟨x, hx⟩ := h n (by omega)
   refine ⟨L ++ [x], by simp [hl], fun i hi => ?_⟩
   by_cases hin : i < n
   · rw [List.getElem?_append_left (by omega)]
     exact hL i hin
   · obtain rfl : i = n := by omega
     rw [List.getElem?_append_right (by omega)]
     exact ⟨x, by simp [hl], hx⟩
section
variable {H : Type} {enc : TypeId × Value → H} {W : World}
theorem key_trod {fuel : Nat} {cs : List Value} {x : DataW H × List MemPlace} (h : DataW.trod enc Tryz.prog W 0 (fun _ => true) true fuel 23 cs = some x) : ∃ v L, cs = [v] ∧ ByAt W v L := by
 rcases open_slice1 Tryz.underlying23 (by kernel_rfl) h with ⟨rfl, _⟩ | ⟨a, len, cap, m, q, V, D, Pl, rfl, _, hl, hm, hmm, _, hcell⟩
 · exact ⟨_, [], rfl, fun x h => (by cases h), none, 0, rfl, Nat.le_refl _, by decide, fun h => by cases h⟩
 · simp at hmm
   have hall : ∀ i, i < len → ∃ n : Nat, W.cell? (a.add i) = some (.int .u8 (n : Nat)) ∧ n < 256 := by
     intro i hi
     obtain ⟨hc0, ht0⟩ := hcell i (by omega)
     obtain ⟨x, f0, hd, w0⟩ := DataW.trod_int Tryz.underlying5 ht0
     simp at f0
     rw [f0] at hc0
     obtain ⟨n, rfl, hn⟩ := u8_of_wf w0
     exact ⟨n, hc0, hn⟩
   obtain ⟨L, rfl, hL⟩ := nat_list len hall
   refine ⟨_, L, rfl, fun x hx => ?_, a, cap, rfl, hl, hm, fun h0 => ?_⟩
   · obtain ⟨j, hj, rfl⟩ := List.getElem_of_mem hx
     obtain ⟨y, h1, h2, h3⟩ := hL j hj
     rw [List.getElem?_eq_getElem hj] at h1
     injection h1 with h1
     rw [h1]
     exact h3
   · obtain ⟨b, off, spot⟩ := a
     obtain ⟨y0, _, hc, _⟩ := hL 0 h0
     have hspot : spot = none := by simpa [Addr.add] using World.cell?_spot hc
     subst hspot
     have hadd : ∀ j, (⟨b, off, none⟩ : Addr).add j = ⟨b, off + j, none⟩ := by
       intro j; unfold Addr.add; split <;> simp_all
     refine ⟨b, off, rfl, fun j hj => ?_⟩
     obtain ⟨y, h1, h2, h3⟩ := hL j hj
     rw [hadd] at h2
     rw [h2, List.getD_eq_getElem?_getD, h1]
     rfl
theorem key_open {d : DataW H} {p : List MemPlace} {v : Value} (h : DataW.Trod enc Tryz.prog W 0 (fun _ => true) true 23 v d p) (hv : ∃ a n c, v = .slice a n c) : ∃ L, ByAt W v L := by
 obtain ⟨fuel, hf⟩ := h
 obtain ⟨a, n, c, rfl⟩ := hv
 obtain ⟨u, L, e, hL⟩ := key_trod hf
 have e : Value.slice a n c = u := by simpa [Value.cells] using e
 subst e
 exact ⟨L, hL⟩
end
end Go.Proofs.YtemnhpdjoimjbaaGreat
end
section
namespace Go.Proofs.YtemnhpdjoimjbaaGreat
open Go.RowKit Top
set_option linter.unusedVariables false
theorem ByAt.news {w : World} {ad : Addr} {n c : Nat} {L : List Nat} (h : ByAt w (.slice (some ad) n c) L) : ∀ j u, (L.map fun (x : Nat) => Value.int .u8 x)[j]? = some u → w.cell? (ad.add j) = some u := by
 intro j u hu
 have hj : j < L.length := by simpa using (List.getElem?_eq_some_iff.1 hu).1
 obtain ⟨_, a', c', e, _, _, h3⟩ := h
 injection e with e1 e2 e3
 obtain ⟨b, off, e, h4⟩ := h3 (by omega)
 rw [← e1] at e
 injection e with e
 subst e
 rw [Addr.add_lit, h4 j hj]
 rw [List.getElem?_map, List.getElem?_eq_getElem hj] at hu
 simp only [Option.map_some, Option.some.injEq] at hu
 rw [← hu, List.getD_eq_getElem?_getD, List.getElem?_eq_getElem hj]
 rfl
theorem CellsAt.kz5 {B : Nat} {w w' : World} {v : Value} {L : List Cell} (h : CellsAt w v L) (hf : Fz B w w') : CellsAt w' v L := by
 obtain ⟨X, hf⟩ := hf
 exact h.keep hf
theorem KeyAt.kz5 {B : Nat} {w w' : World} {v : Value} {L : List Nat} (h : KeyAt w v L) (hf : Fz B w w') : KeyAt w' v L := by
 obtain ⟨X, hf⟩ := hf
 exact h.keep hf
theorem new_sys (lv : Value) (room : Nat) (w : World) (hl : PolsAt w lv tabL) (r0 : 1 ≤ room) (r1 : room ≤ 4096) :
   Calls Tryz.prog 5 #[lv, .int .i64 room] w fun e w' => ∃ A : Adr, e = .returned (.tuple #[P A.K, .int .i64 0]) ∧ A.list = tabL ∧ A.room = room ∧ SysAt w' w.heap.size A m0 (fun _ => none) ∧ Below w.heap.size w w' := by
 refine (core_new tabL lv room w hl (by decide) (by decide) (tab_ok r0 r1).good r0 r1).mono ?_
 rintro e w' ⟨K, lb, bd, M, W, H, lv', rfl, h1, h2, h3, h4, h5⟩
 exact ⟨⟨K, lb, bd, M, W, H, tabL, room⟩, rfl, rfl, rfl, sys_new h1 h2 h3 h4 h5.size, h5⟩
theorem Fz.later {B : Nat} {w w' : World} (h : Fz B w w') {n : Nat} (hn : n ≤ B) {a : World} (hb : Below n a w) : Below n a w' := hb.trans (h.bel.mono hn)
end Go.Proofs.YtemnhpdjoimjbaaGreat
end
section
namespace Go.Proofs.YtemnhpdjoimjbaaGreat.Top
set_option linter.unusedVariables false
theorem swap_count (m : Mem) (i old new : Nat) (h : List Cell) : (m.swap i old new h).2.count = m.count + 1 := by
 unfold Mem.swap
 split <;> rfl
section
variable (B : Below) (list : List Pol) (room : Nat)
theorem leave_m (r : Reply) (x : Live) (m : Mem) : (leave r x m).2.2 = m := by
 unfold leave
 split <;> rfl
theorem further_m (j shards : Nat) (gone : Int) (x : Live) (m : Mem) : (further j shards gone x m).2.2 = m := by
 unfold further
 split <;> rfl
theorem acquireF_m (f : Found) (at_ : Nat) (there : Bool) (c : Cell) (x : Live) (m : Mem) : (acquireF B list room f at_ there c x m).2.2 = m := by
 unfold acquireF
 split
 · exact leave_m _ _ _
 · split <;> rfl
theorem thenF_m (t : Then) (word v : Nat) (cells : List Cell) (x : Live) (m : Mem) : (thenF B list room t word v cells x m).2.2 = m := by
 cases t with
 | evict j shards gone =>
   simp only [thenF]
   split
   · exact further_m _ _ _ _ _
   · rfl
 | call =>
   simp only [thenF]
   split
   · rfl
   · split
     · exact acquireF_m _ _ _ _ _ _ _ _ _
     · split
       · split <;> rfl
       · split <;> rfl
theorem enteredF_m (sum word v : Nat) (h : List Cell) (t : Then) (x : Live) (m : Mem) : (enteredF B list room sum word v h t x m).2.2 = m := by
 unfold enteredF
 split
 · rfl
 · exact thenF_m _ _ _ _ _ _ _ _ _
theorem hthenF_m (t : HThen) (word v : Nat) (h : List Cell) (x : Live) (m : Mem) : (hthenF B list room t word v h x m).2.2 = m := by
 cases t with
 | find sum t =>
   simp only [hthenF]
   split
   · rfl
   · exact enteredF_m _ _ _ _ _ _ _ _ _ _
 | one level i holds => rfl
 | two level i => rfl
theorem bthenF_m (t : BThen) (x : Live) (m : Mem) : (bthenF t x m).2.2 = m := by
 cases t with
 | done r => rfl
 | evict j shards gone => exact further_m _ _ _ _ _
theorem wthenF_m (t : WThen) (now : Nat) (x : Live) (m : Mem) : (wthenF B list room t now x m).2.2 = m := by
 cases t with
 | back t => exact bthenF_m _ _ _
 | room f at_ there c r => rfl
 | serial f at_ there c => rfl
theorem stopF_m (t : WThen) (x : Live) (m : Mem) : (stopF t x m).2.2 = m := by
 cases t with
 | back t => rfl
 | room f at_ there c r => rfl
 | serial f at_ there c => exact leave_m _ _ _
theorem stepF_count (k : Kont) (x : Live) (m : Mem) : (stepF B list room k x m).2.2.count = m.count + 1 := by
 cases k with
 | find sum t => simp only [stepF]; split <;> rfl
 | enter sum word t => simp only [stepF, enteredF_m]; rfl
 | freeze word t => simp only [stepF]; split <;> rfl
 | freezeSwap word v holds t => simp only [stepF]; split <;> exact swap_count _ _ _ _ _
 | half level shard holds t =>
   simp only [stepF]
   split
   · rw [hthenF_m]; rfl
   · rfl
 | halfSwap level shard holds h t => simp only [stepF, hthenF_m]; exact swap_count _ _ _ _ _
 | split =>
   simp only [stepF]
   split
   · rfl
   · split <;> rfl
 | splitSwap d level => simp only [stepF]; split <;> exact swap_count _ _ _ _ _
 | moveEnd level => exact swap_count _ _ _ _ _
 | wordLoad word by_ stop t =>
   simp only [stepF]
   split
   · rw [stopF_m]; rfl
   · rfl
 | wordSwap word by_ stop v t =>
   simp only [stepF]
   split
   · rw [wthenF_m]; exact swap_count _ _ _ _ _
   · exact swap_count _ _ _ _ _
 | put f at_ there c r =>
   simp only [stepF]
   split
   · split
     · rw [leave_m]; exact swap_count _ _ _ _ _
     · exact swap_count _ _ _ _ _
   · exact swap_count _ _ _ _ _
 | allow f at_ there c =>
   simp only [stepF]
   split
   · rw [leave_m]; rfl
   · rfl
 | peek c => rfl
 | evictStart => rfl
 | evictClock j shards gone word v cells =>
   simp only [stepF]
   split
   · rw [further_m]; rfl
   · rfl
 | evictSwap j shards gone word v rest n =>
   simp only [stepF]
   split
   · exact swap_count _ _ _ _ _
   · rw [further_m]; exact swap_count _ _ _ _ _
theorem stepS_count {s : Sys} {who : Nat} (h : (s.pd who).isSome = true) : (stepS list room B s who).1.m.count = s.m.count + 1 := by
 cases hp : s.pd who with
 | none => rw [hp] at h; cases h
 | some y =>
   obtain ⟨x, k⟩ := y
   have e : stepS list room B s who = stepO who s (stepF B list room k x s.m) := by unfold stepS; rw [hp]
   have hc := stepF_count B list room k x s.m
   rw [e]
   generalize stepF B list room k x s.m = o at *
   obtain ⟨o1, x1, m1⟩ := o
   cases o1 <;> exact hc
theorem stepS_on {s : Sys} {who : Nat} (h : (s.pd who).isSome = true) (hd : (stepS list room B s who).2.1 = false) : ((stepS list room B s who).1.pd who).isSome = true := by
 cases hp : s.pd who with
 | none => rw [hp] at h; cases h
 | some y =>
   obtain ⟨x, k⟩ := y
   have e : stepS list room B s who = stepO who s (stepF B list room k x s.m) := by unfold stepS; rw [hp]
   rw [e] at hd ⊢
   generalize stepF B list room k x s.m = o at *
   obtain ⟨o1, x1, m1⟩ := o
   cases o1 with
   | inl k1 =>
     show (setP s.pd who (some (x1, k1)) who).isSome = true
     rw [setP_self]
     rfl
   | inr r => cases hd
theorem startS_none {s : Sys} {who : Nat} (c : Call) (h : s.pd who = none) : startS s who c = ⟨s.m, setP s.pd who (some (liveOf c, firstK c))⟩ := by
 unfold startS
 rw [h]
structure Play where
 s : Sys
 left : List Call
 out : List Reply
def simStep (p : Play) : Play :=
 match p.s.pd 0, p.left with
 | some _, l => ⟨(stepS list room B p.s 0).1, l, if (stepS list room B p.s 0).2.1 then p.out ++ [(stepS list room B p.s 0).2.2] else p.out⟩
 | none, c :: l => ⟨(stepS list room B (startS p.s 0 c) 0).1, l, if (stepS list room B (startS p.s 0 c) 0).2.1 then p.out ++ [(stepS list room B (startS p.s 0 c) 0).2.2] else p.out⟩
 | none, [] => p
def simN : Nat → Play → Play
 | 0, p => p
 | n + 1, p => simN n (simStep B list room p)
theorem simStep_on {s : Sys} (l : List Call) (out : List Reply) (h : (s.pd 0).isSome = true) : simStep B list room ⟨s, l, out⟩ = ⟨(stepS list room B s 0).1, l, if (stepS list room B s 0).2.1 then out ++ [(stepS list room B s 0).2.2] else out⟩ := by
 obtain ⟨y, hy⟩ := Option.isSome_iff_exists.1 h
 unfold simStep
 rw [show (Play.mk s l out).s.pd 0 = some y from hy]
theorem simStep_start {s : Sys} (c : Call) (l : List Call) (out : List Reply) (h : s.pd 0 = none) : simStep B list room ⟨s, c :: l, out⟩ = simStep B list room ⟨startS s 0 c, l, out⟩ := by
 have hs : (startS s 0 c).pd 0 = some (liveOf c, firstK c) := by
   rw [startS_none c h]
   show setP s.pd 0 (some (liveOf c, firstK c)) 0 = _
   exact setP_self _ _ _
 rw [simStep_on B list room l out (by rw [hs]; rfl)]
 unfold simStep
 rw [show (Play.mk s (c :: l) out).s.pd 0 = none from h]
theorem sim_on : ∀ (c : Nat) (s : Sys) (r : Reply) (s' : Sys) (l : List Call) (out : List Reply), aloneS list room B 0 c s = some (r, s') → (s.pd 0).isSome = true → ∃ n : Nat, 0 < n ∧ n ≤ c ∧ s'.m.count = s.m.count + n ∧ simN B list room n ⟨s, l, out⟩ = ⟨s', l, out ++ [r]⟩
 | 0, s, r, s', l, out, h, _ => by cases h
 | c + 1, s, r, s', l, out, h, hs => by
   unfold aloneS at h
   have hc := stepS_count B list room hs
   have h1 := simStep_on B list room l out hs
   by_cases hd : (stepS list room B s 0).2.1 = true
   · rw [if_pos hd] at h h1
     cases h
     exact ⟨1, by omega, by omega, by rw [hc]; rfl, h1⟩
   · rw [if_neg hd] at h h1
     have hon := stepS_on B list room hs (by simpa using hd)
     obtain ⟨n, h2, h3, h4, h5⟩ := sim_on c _ r s' l out h hon
     refine ⟨n + 1, by omega, by omega, by rw [h4, hc]; omega, ?_⟩
     show simN B list room n (simStep B list room _) = _
     rw [h1]
     exact h5
theorem sim_call {s s' : Sys} {r : Reply} {c : Call} (l : List Call) (out : List Reply) (hp : s.pd 0 = none) (h : aloneS list room B 0 512 (startS s 0 c) = some (r, s')) : ∃ n : Nat, 0 < n ∧ n ≤ 512 ∧ s'.m.count = s.m.count + n ∧ simN B list room n ⟨s, c :: l, out⟩ = ⟨s', l, out ++ [r]⟩ := by
 have hs : (startS s 0 c).pd 0 = some (liveOf c, firstK c) := by
   rw [startS_none c hp]
   show setP s.pd 0 (some (liveOf c, firstK c)) 0 = _
   exact setP_self _ _ _
 have hm : (startS s 0 c).m = s.m := by rw [startS_none c hp]
 obtain ⟨n, h1, h2, h3, h4⟩ := sim_on B list room 512 _ r s' l out h (by rw [hs]; rfl)
 refine ⟨n, h1, h2, by rw [h3, hm], ?_⟩
 obtain ⟨k, rfl⟩ : ∃ k, n = k + 1 := ⟨n - 1, by omega⟩
 rw [← h4]
 show simN B list room k (simStep B list room _) = simN B list room k (simStep B list room _)
 rw [simStep_start B list room c l out hp]
structure Pick where
 who : Int
 ticks : Int
def addT (s : Sys) (t : Int) : Sys := ⟨s.m.at_ t, s.pd⟩
def simPick (tk : Int → Int → Int) (p : Play) (x : Pick) : Play :=
 if x.who = -1 then ⟨addT p.s (tk p.s.m.clock x.ticks), p.left, p.out⟩ else simStep B list room p
def simRun (tk : Int → Int → Int) (l : List Pick) (p : Play) : Play := l.foldl (simPick B list room tk) p
theorem simRun_steps (tk : Int → Int → Int) : ∀ (n : Nat) (p : Play), simRun B list room tk (List.replicate n ⟨0, 0⟩) p = simN B list room n p
 | 0, p => rfl
 | n + 1, p => by
   rw [List.replicate_succ]
   show simRun B list room tk _ (simPick B list room tk p ⟨0, 0⟩) = simN B list room n (simStep B list room p)
   rw [simRun_steps tk n]
   rfl
def Brings (tk : Int → Int → Int) (s0 : Sys) (picks : List Pick) (calls : List Call) (s : Sys) (out : List Reply) : Prop :=
 ∀ R, simRun B list room tk picks ⟨s0, calls ++ R, []⟩ = ⟨s, R, out⟩
theorem Brings.nil (tk : Int → Int → Int) (s0 : Sys) : Brings B list room tk s0 [] [] s0 [] := fun R => rfl
theorem Brings.snoc {tk : Int → Int → Int} {s0 s s' : Sys} {picks : List Pick} {calls : List Call} {out : List Reply} (h : Brings B list room tk s0 picks calls s out) {c : Call} {r : Reply} (t : Int) (hp : s.pd 0 = none) (ha : aloneS list room B 0 512 (startS (addT s (tk s.m.clock t)) 0 c) = some (r, s')) :
   ∃ n : Nat, 0 < n ∧ n ≤ 512 ∧ s'.m.count = s.m.count + n ∧ Brings B list room tk s0 (picks ++ ⟨-1, t⟩ :: List.replicate n ⟨0, 0⟩) (calls ++ [c]) s' (out ++ [r]) := by
 have hp' : (addT s (tk s.m.clock t)).pd 0 = none := hp
 obtain ⟨n, h1, h2, h3, _⟩ := sim_call B list room [] out hp' ha
 refine ⟨n, h1, h2, h3, fun R => ?_⟩
 obtain ⟨n', g1, g2, g3, g4⟩ := sim_call B list room R out hp' ha
 have hn : n' = n := by
   have := g3.symm.trans h3
   omega
 subst hn
 have e := h (c :: R)
 unfold simRun at e ⊢
 rw [List.append_assoc, List.foldl_append]
 show List.foldl _ (List.foldl _ (Play.mk s0 (calls ++ (c :: R)) []) picks) _ = _
 rw [e, List.foldl_cons]
 have e2 : simPick B list room tk ⟨s, c :: R, out⟩ ⟨-1, t⟩ = ⟨addT s (tk s.m.clock t), c :: R, out⟩ := rfl
 rw [e2]
 exact (simRun_steps B list room tk n' _).trans g4
end
end Go.Proofs.YtemnhpdjoimjbaaGreat.Top
end
