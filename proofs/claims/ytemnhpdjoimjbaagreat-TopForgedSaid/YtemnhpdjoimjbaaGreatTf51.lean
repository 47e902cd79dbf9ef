import Derived.Test.YtemnhpdjoimjbaaGreatTf50
section
namespace Go.Proofs.YtemnhpdjoimjbaaGreat
open Go.RowKit Top
set_option linter.unusedVariables false
variable {list : List Pol}
theorem sorted_eq : ∀ {L L' : List Cell}, L.Pairwise identLt → L'.Pairwise identLt → (∀ c, c ∈ L ↔ c ∈ L') → L = L'
  | [], [], _, _, _ => rfl
  | [], b :: L', _, _, h => by have := (h b).2 (by simp); simp at this
  | a :: L, [], _, _, h => by have := (h a).1 (by simp); simp at this
  | a :: L, b :: L', h1, h2, h => by
    have hself : ∀ c : Cell, ¬ identLt c c := fun c hc => by unfold identLt at hc; rw [cmp_self] at hc; omega
    obtain ⟨g1, g2⟩ := List.pairwise_cons.1 h1
    obtain ⟨g3, g4⟩ := List.pairwise_cons.1 h2
    have hab : a = b := by
      rcases List.mem_cons.1 ((h a).1 (by simp)) with e | e
      · exact e
      · rcases List.mem_cons.1 ((h b).2 (by simp)) with e' | e'
        · exact e'.symm
        · exact absurd (cmp_trans (g1 b e') (g3 a e)) (hself a)
    subst hab
    rw [sorted_eq g2 g4 fun c => ⟨fun hc => ?_, fun hc => ?_⟩]
    · rcases List.mem_cons.1 ((h c).1 (by simp [hc])) with e | e
      · subst e; exact absurd (g1 c hc) (hself c)
      · exact e
    · rcases List.mem_cons.1 ((h c).2 (by simp [hc])) with e | e
      · subst e; exact absurd (g3 c hc) (hself c)
      · exact e
theorem take_flat_le (LL : List (List Cell)) (k : Nat) : (LL.take k).flatten.length ≤ LL.flatten.length := by
  conv => rhs; rw [← List.take_append_drop k LL]
  rw [List.flatten_append, List.length_append]
  omega
theorem shards_count (m : Mem) : ∀ k, (shardsF m k).length ≤ 2 * k
  | 0 => Nat.le_refl _
  | k + 1 => by
    have h : (shardF m k).length ≤ 2 := by unfold shardF; split <;> simp
    have := shards_count m k
    rw [shardsF_succ, List.length_append]
    omega
theorem append_nil_any {w : World} {base n : Nat} {v : Value} {xs : List Value} (h : w.ownsRow base 45 4 v n xs) (ty : TypeId) : (Builtin.append_ #[40, 40] ty #[v, .slice none 0 0]).run Tryz.prog w = .ok v w := by
  rcases h.2 with ⟨rfl, _⟩ | ⟨g, cap, cur, rfl, _, hc, h2, _⟩
  · exact append_nil_none w 0 ty
  · obtain ⟨i0, hi, hz0, hz1, hz2⟩ := info_parts info_cellT
    have := run_append_room_src w 40 40 ty 45 i0 Tryz.underlying40 hi g 0 n cap (.slice none 0 0) 0 [] (Src.ofNil w Tryz.underlying40 0) (by omega) (fun j hj => by simp at hj) (fun j hj => by simp at hj)
    exact this
set_option maxHeartbeats 4000000 in
set_option maxRecDepth 100000 in
theorem cells_own (B : Nat) (A : Adr) (m : Mem) (w : World) (hs : St w B A m) (hD : Dir m) (hok : ∀ c ∈ allF m, CellOk c) (hsz : (allF m).length ≤ 1048576) :
    Calls Tryz.prog 9 #[P A.K] w fun e w' => ∃ v base ys, e = .returned v ∧ OwnCells w' base v ys ∧ (ys.map CV.c).Perm (allF m) ∧ ys.Pairwise (fun a b => ¬ cmpB (cid b.c) (cid a.c) < 0) ∧ Below w.heap.size w w' := by
  obtain ⟨i0, hi, hz0, hz1, hz2⟩ := info_parts info_cellT
  have Ka := Lib.hid (all_any B A m w hs hD)
  have c2 := hs.core.c2
  have hall : allF m = (shardsF m (2 ^ lvlOf m)).flatten := rfl
  have Hok := Lib.hid hok
  rw [hall] at hsz
  have Hall := Lib.hid hall
  have hll : (shardsF m (2 ^ lvlOf m)).length ≤ 1000 := by
    have h1 := shards_count m (2 ^ lvlOf m)
    have h2 : 2 ^ lvlOf m ≤ 16 := two_le (show lvlOf m ≤ 4 by have := hD.d8; unfold lvlOf; omega)
    omega
  generalize shardsF m (2 ^ lvlOf m) = LL at *
  have Hsz := Lib.hid hsz
  clear hs hD hok hsz hall
  go_enter Tryz.func9, Tryz.ntmps9
  go_upto_region 5 with (go_at_call 24; (refine Ka.out.mono ?_); rintro e u ⟨lv, rfl, hls, hbu⟩; obtain ⟨la, lc, rfl⟩ : ∃ a c, lv = .slice a LL.length c := own_slice hls.choose_spec.1; have Hls := Lib.hid hls; have Hbu := Lib.hid hbu; clear hls hbu)
  obtain ⟨vs, hvo, hvs⟩ := Hls.out
  have hvl : vs.length = LL.length := by have := hvo.1; rwa [Nat.mul_one] at this
  have Hvo := Lib.hid hvo; have Hvs := Lib.hid hvs; have Hvl := Lib.hid hvl
  clear hvo hvs hvl
  go_loopw [3, 14] (fun ov iv wr => ∃ (k : Nat) (ys : List CV), iv = .int .i64 k ∧ k ≤ LL.length ∧ ys.map CV.c = (LL.take k).flatten ∧ OwnCells wr u.heap.size ov ys ∧ Below u.heap.size u wr) (fun _ iv _ => LL.length - (intOf iv).toNat)
  case atStart => exact ⟨0, [], rfl, Nat.zero_le _, by simp, OwnCells.nil _ _, Below.refl _ _⟩
  case round =>
    obtain ⟨k, ys, rfl, hk, hys, how, hbel⟩ := hrel
    have Hys := Lib.hid hys; have How := Lib.hid how; have Hbel := Lib.hid hbel
    clear hys how hbel
    by_cases hA : k < LL.length
    · have hkv : k < vs.length := by have := Hvl.out; omega
      obtain ⟨xv, hxv⟩ : ∃ xv, vs[k]? = some xv := ⟨_, List.getElem?_eq_getElem hkv⟩
      have hx := Hvs.out k xv LL[k] hxv (List.getElem?_eq_getElem hA)
      have hcell : ∃ g, la = some ⟨g, 0, none⟩ ∧ u.cell? ⟨g, k, none⟩ = some xv := by
        rcases Hvo.out.2 with ⟨e, h0⟩ | ⟨g, cap, cur, e, _, hc, _, _, _, ht⟩
        · omega
        · injection e with e1 e2 e3
          refine ⟨g, e1, ?_⟩
          rw [← ht, List.getElem?_take_of_lt (by omega), Array.getElem?_toList] at hxv
          simp [World.cell?, hc, hxv]
      obtain ⟨g, rfl, hcell⟩ := hcell
      have y0 := cell_later Hbel.out hcell
      obtain ⟨xs, xa, xc, _, rfl, _⟩ := hx.parts
      have Kc := Lib.hid (copy_any _ LL[k] wr (hx.keep (fr0 Hbel.out)))
      have Htk : Hid ((LL.take (k + 1)).flatten = (LL.take k).flatten ++ LL[k]) := by
        show _ = _
        rw [List.take_succ_eq_append_getElem hA, List.flatten_append]
        simp
      have Hle : Hid ((LL.take (k + 1)).flatten.length ≤ 1048576) := Nat.le_trans (take_flat_le LL (k + 1)) Hsz.out
      clear hx hcell hkv hxv
      generalize LL[k] = Lk at *
      obtain ⟨oa, oc, rfl⟩ : ∃ a c, u3 = .slice a ys.length c := own_slice How.out.1
      go_wp2_with (first
        | (go_at_call 25; (refine Kc.out.mono ?_); rintro e w2 ⟨v2, ys2, rfl, hy2, ho2, hb2⟩; have Hy2 := Lib.hid hy2; have Ho2 := Lib.hid ho2; have Hb2 := Lib.hid hb2; have hlen2 : ys.length + ys2.length ≤ 1048576 := (by have h1 := congrArg List.length Hys.out; have h2 := congrArg List.length hy2; have h3 := Hle.out; rw [Htk.out, List.length_append] at h3; rw [List.length_map] at h1 h2; omega); have Hlen2 := Lib.hid hlen2; have hbw : u.heap.size ≤ w2.heap.size := Nat.le_trans Hbel.out.size hb2.size; have Hown2 := Lib.hid (ownsRow_below How.out.1 hb2); clear hy2 hb2 hlen2; rcases ho2.1.2 with ⟨rfl, hnone⟩ | ⟨g2, cap2, cur2, rfl, hg2⟩)
        | (have hnn := hnone; at_builtin; refine Lib.wpList_append_run _ rfl _ _ _ _ rfl _ _ rfl rfl _ _ (append_nil_any Hown2.out _) ?_)
        | (have hnn := hg2; at_builtin; refine wpList_append_own _ rfl _ _ 40 rfl u.heap.size 45 i0 (.agg #[.int .i64 0, .slice none 0 0, .int .i64 0, .slice none 0 0]) 4 64 Tryz.underlying40 hi hz0 hz1 hz2 rfl (by decide) _ ys.length (encs ys) rfl Hown2.out ⟨g2, 0, none⟩ ys2.length cap2 (encs ys2) rfl (encs_length ys2) (fun j v hv => Ho2.out.1.cells (g := g2) rfl j v hv) (encs_one Ho2.out.2) (by have := Hlen2.out; unfold maxLen; omega) (by have := Hlen2.out; omega) hbw ?_; intro v' w3 hown3 hgrow3 hnil3))
      · have hz0 : ys2 = [] := List.eq_nil_of_length_eq_zero hnone
        have hl0 := Hy2.out
        rw [hz0] at hl0
        refine ⟨⟨k + 1, ys, by go_num, by omega, ?_, ⟨Hown2.out, fun y hy => (How.out.2 y hy).keep (fr0 Hb2.out)⟩, below_then Hbel.out Hb2.out⟩, ?_⟩
        · rw [Htk.out, Hys.out, ← hl0]
          simp
        · simp [intOf]
          omega
      · have hr := own_row Hown2.out
        refine ⟨⟨k + 1, ys ++ ys2, by go_num, by omega, ?_, ⟨?_, fun y hy => ?_⟩, ?_⟩, ?_⟩
        · rw [Htk.out, List.map_append, Hys.out, Hy2.out]
        · rw [encs_append, List.length_append]
          exact hown3
        · rcases List.mem_append.1 hy with hy | hy
          · exact ((How.out.2 y hy).keep (fr0 Hb2.out)).grown hgrow3 hr
          · exact (Ho2.out.2 y hy).grown hgrow3 hr
        · exact (below_then Hbel.out Hb2.out).grown hgrow3 hbw (fun q hq => (Hown2.out.lt q hq).1)
        · simp [intOf]
          omega
    · obtain rfl : k = LL.length := by omega
      have hys := Hys.out
      rw [List.take_length, ← Hall.out] at hys
      have hoks : ∀ y ∈ ys, CellOk y.c := fun y hy => Hok.out y.c (by rw [← hys]; exact List.mem_map_of_mem hy)
      have hyl : ys.length ≤ 1048576 := by
        have h1 := congrArg List.length hys
        have h2 := Hsz.out
        rw [← Hall.out] at h2
        rw [List.length_map] at h1
        omega
      have Hys' := Lib.hid hys
      rcases How.out.1.2 with ⟨rfl, hz⟩ | ⟨g2, cap2, cur2, rfl, hg2, hc2, _⟩
      · have hy0 : ys = [] := List.eq_nil_of_length_eq_zero hz
        clear hys hoks hyl hz
        subst hy0
        go_wp2_with (go_at_call 26; (refine (sort_nil _ _).mono ?_); rintro e w2 ⟨rfl, hb⟩; have Hb := Lib.hid hb; clear hb)
        exact bodyPost_ret (v := .slice none 0 0) (by simp [results, Tryz.results9, go_sem]) rfl ⟨_, rfl, u.heap.size, [], How.out.later Hb.out, by rw [← Hys'.out], List.Pairwise.nil, below_then Hbu.out (below_then Hbel.out Hb.out)⟩
      · have Ks := Lib.hid (sort_any g2 cap2 ys wr u.heap.size How.out hoks (by omega))
        clear hys hoks hyl hc2
        go_wp2_with (go_at_call 26; (refine Ks.out.mono ?_); rintro e w2 ⟨rfl, ys', hp, hpw, ho, hb⟩; have Ho := Lib.hid (And.intro hp (And.intro hpw (And.intro ho hb))); clear hp hpw ho hb)
        have hl := Ho.out.1.length_eq
        refine bodyPost_ret (v := .slice (some ⟨g2, 0, none⟩) ys.length cap2) (by simp [results, Tryz.results9, go_sem]) rfl ⟨_, rfl, u.heap.size, ys', ?_, ?_, Ho.out.2.1, ?_⟩
        · rw [← hl]
          exact Ho.out.2.2.1
        · rw [← Hys'.out]
          exact Ho.out.1.map _
        · have h1 := Ho.out.2.2.2 u.heap.size hg2 Hbel.out.size
          have h2 := Hbel.out.trans h1
          exact below_then Hbu.out h2
/-- All cells, in order. -/
theorem cells_any (B : Nat) (A : Adr) (m : Mem) (w : World) (hs : St w B A m) (hD : Dir m) (hL : Lies list m) (hsz : size m ≤ 1048576) :
    Calls Tryz.prog 9 #[P A.K] w fun e w' => ∃ v L, e = .returned v ∧ CellsAt w' v L ∧ (∀ c, c ∈ L ↔ Has m c) ∧ Below w.heap.size w w' := by
  refine (cells_own B A m w hs hD (fun c h => all_cell hL hD h) (by rw [all_length]; exact hsz)).mono ?_
  rintro e w' ⟨v, base, ys, rfl, ho, hp, hpw, hb⟩
  have hne : (ys.map CV.c).Pairwise fun a b => cid a ≠ cid b := (hp.pairwise_iff (fun h e => h e.symm)).2 (all_ne hL hD)
  have hpw' : (ys.map CV.c).Pairwise fun a b => ¬ cmpB (cid b) (cid a) < 0 := List.pairwise_map.2 hpw
  refine ⟨v, ys.map CV.c, rfl, ⟨ys, rfl, Row.own ho.1, ho.2, ⟨fun c hc => all_cell hL hD (hp.mem_iff.1 hc), sorted_lt hpw' hne, ?_⟩⟩, fun c => hp.mem_iff.trans (all_has hL hD c), hb⟩
  rw [hp.length_eq, all_length]
  exact hsz
end Go.Proofs.YtemnhpdjoimjbaaGreat
end
section
namespace Go.Proofs.YtemnhpdjoimjbaaGreat
open Go.RowKit Top
set_option linter.unusedVariables false
theorem cellAt_spec {list : List Pol} {m : Mem} (hL : Lies list m) (pol : Int) (key : List Nat) (h0 : 0 ≤ pol) (h1 : pol < 32) :
    (∃ c, Has m c ∧ c.pol = pol ∧ c.key = key ∧ cellAt m pol key = c) ∨ ((∀ c, Has m c → ¬ (c.pol = pol ∧ c.key = key)) ∧ cellAt m pol key = ⟨pol, key, 0, []⟩) := by
  have hw := curHold_wf hL (sumB (ident pol key))
  cases e : findThere (curHold m (sumB (ident pol key))) pol key with
  | true =>
    obtain ⟨c, _, h3, h4, h5⟩ := there_get e
    have ok := hw.ok c h5
    obtain ⟨e1, e2⟩ := ident_eq ok.pol0 ok.pol1 h0 h1 h3
    refine .inl ⟨c, ?_, e1, e2, h4⟩
    unfold Has idSum
    rw [e1, e2]
    exact h5
  | false =>
    obtain ⟨h3, h4⟩ := not_there hw e
    refine .inr ⟨fun c hc => ?_, h3⟩
    rintro ⟨rfl, rfl⟩
    exact h4 c hc rfl
theorem has_one {list : List Pol} {m : Mem} (hL : Lies list m) {c d : Cell} (hc : Has m c) (hd : Has m d) (e : cid c = cid d) : c = d := by
  unfold Has idSum at hc hd
  unfold cid at e
  rw [e] at hc
  exact wf_one (curHold_wf hL _) hc hd e
/-- A Release's call. -/
def relC (key : List Nat) (serial : Int) : Top.Call := ⟨3, 1, key, serial⟩
theorem rel_good {key : List Nat} {serial : Int} (hk : key.length ≤ 255) (hb : ∀ b ∈ key, b < 256) (hs : -9223372036854775808 ≤ serial ∧ serial ≤ 9223372036854775807) : CallGood tabL (relC key serial) :=
  ⟨⟨(by decide : 1 ≤ 3), (by decide : 3 ≤ 6), fun e => (by cases e), hk, ⟨1, rfl, by decide⟩, fun _ _ => rfl⟩, hb, hs⟩
theorem start_pd {s : Top.Sys} {who : Nat} {c : Top.Call} (hp : s.pd who = none) : startS s who c = ⟨s.m, setP s.pd who (some (liveOf c, firstK c))⟩ := by unfold startS; rw [hp]
/-- A call alone, begun. -/
theorem alone_call {list : List Pol} {room : Nat} (T : TabOk list room) {s : Top.Sys} {n who : Nat} {c : Top.Call} (hok : SysOk list room s n) (hn : n + 600 < 4611686018427387900) (hw : who < 64) (hp : s.pd who = none) (hc : CallIn list c) :
    ∃ r s', aloneS list room BlV who 512 (startS s who c) = some (r, s') ∧ SysOk list room s' (n + 512) ∧ s'.pd who = none ∧ (∀ j, j ≠ who → s'.pd j = s.pd j) ∧ s'.m.clock = s.m.clock := by
  have h1 := hok.start hw hc
  have e := start_pd (c := c) hp
  have hk := (first_ok (list := list) (room := room) hc s.m).1
  have hcost := cost_le hk
  rw [e] at h1 ⊢
  obtain ⟨r, s', h2, h3, h4, h5, h6⟩ := alone_ends sound_V T hw 512 n _ _ _ h1 (by omega) (setP_self s.pd who _) (by show cost s.m _ < 512; omega)
  exact ⟨r, s', h2, h3, h4, fun j hj => (h5 j hj).trans (setP_ne _ _ hj), h6⟩
theorem give_no {held : List Int} {n : Int} (hl : (held.length : Int) ≤ 2) (h : ¬ n ∈ held) : giveB 2 held n = (11, []) := by
  unfold giveB
  rw [if_neg (by omega), if_neg (by simpa using h)]
theorem give_yes {held : List Int} {n : Int} (hl : (held.length : Int) ≤ 2) (h : n ∈ held) (hr : held.Pairwise (· < ·)) : (giveB 2 held n).1 = 0 ∧ ¬ n ∈ (giveB 2 held n).2 ∧ (((giveB 2 held n).2.length : Nat) : Int) ≤ 2 := by
  unfold giveB
  rw [if_neg (by omega), if_pos (by simpa using h)]
  refine ⟨rfl, fun hm => ?_, ?_⟩
  · rcases List.mem_append.1 hm with hm | hm
    · have := rise_lt hr n hm
      omega
    · have hlt : held.countP (· < n) < held.length := by
        have := count_le held n
        refine Nat.lt_of_le_of_ne this fun e => ?_
        have := rise_lt hr n (by rw [e, List.take_length]; exact h)
        omega
      have hd : held.drop (held.countP (· < n)) = held[held.countP (· < n)] :: held.drop (held.countP (· < n) + 1) := List.drop_eq_getElem_cons hlt
      have hp := (hr.sublist (List.drop_sublist (held.countP (· < n)) held))
      rw [hd] at hp
      have h3 := (List.pairwise_cons.1 hp).1 n hm
      have h4 := rise_ge hr held[held.countP (· < n)] (List.mem_drop_iff_getElem.2 ⟨0, by simpa using hlt, by simp⟩)
      omega
  · show (((held.take (held.countP (· < n)) ++ held.drop (held.countP (· < n) + 1)).length : Nat) : Int) ≤ 2
    rw [List.length_append, List.length_take, List.length_drop]
    omega
/-- Two Releases of one serial. -/
theorem forged_plain {room : Nat} (T : TabOk tabL room) {s : Top.Sys} {n : Nat} (hok : SysOk tabL room s n) (hn : n + 2000 < 4611686018427387900) (hp : s.pd 9 = none) {key : List Nat} {serial : Int} (hk : key.length ≤ 255) (hb : ∀ b ∈ key, b < 256) (hs : -9223372036854775808 ≤ serial ∧ serial ≤ 9223372036854775807) :
    ∃ r s1 s2, aloneS tabL room BlV 9 512 (startS s 9 (relC key serial)) = some (r, s1) ∧ aloneS tabL room BlV 9 512 (startS s1 9 (relC key serial)) = some (err 11, s2) ∧ SysOk tabL room s1 (n + 512) ∧ s1.pd 9 = none ∧
      ((r.e = 0 ∧ ∃ c, Has s.m c ∧ c.pol = 1 ∧ c.key = key ∧ serial ∈ c.held) ∨ (r = err 11 ∧ (∀ c, Has s1.m c ↔ Has s.m c) ∧ ∀ c, Has s.m c → c.pol = 1 → c.key = key → ¬ serial ∈ c.held)) := by
  have hin := (rel_good hk hb hs).in_
  obtain ⟨r, s1, a1, a2, a3, a4, a5⟩ := alone_call T hok (by omega) (by decide) hp hin
  obtain ⟨r2, s2, b1, b2, b3, b4, b5⟩ := alone_call T a2 (by omega) (by decide) a3 hin
  have hL := hok.inv.lies
  have hL1 := a2.inv.lies
  have e1 := start_pd (c := relC key serial) hp
  have e2 := start_pd (c := relC key serial) a3
  have c1 := hok.start (who := 9) (by decide) hin
  have c2 := a2.start (who := 9) (by decide) hin
  rw [e1] at c1
  rw [e2] at c2
  have a1' := a1
  have b1' := b1
  rw [e1] at a1'
  rw [e2] at b1'
  have f1 : RelK BlV tabL s.m (liveOf (relC key serial)) (firstK (relC key serial)) := trivial
  have f2 : RelK BlV tabL s1.m (liveOf (relC key serial)) (firstK (relC key serial)) := trivial
  have g1 := release_alone sound_V T (by decide) 512 n _ _ _ r s1 c1 (by omega) (setP_self s.pd 9 _) rfl f1 a1'
  have g2 := release_alone sound_V T (by decide) 512 (n + 512) _ _ _ r2 s2 c2 (by omega) (setP_self s1.pd 9 _) rfl f2 b1'
  have hperm : ∀ (m : Mem), Lies tabL m → ∀ c, Has m c → c.pol = 1 → ((c.held.length : Nat) : Int) ≤ 2 := fun m hm c hc hpo => by
    have h : ∃ i, c ∈ m.hold i := by
      unfold Has curHold at hc
      split at hc
      · exact ⟨_, (List.mem_filter.1 hc).1⟩
      · exact ⟨_, hc⟩
    obtain ⟨i, hi⟩ := h
    have := (hm.perm i c hi).2
    rw [hpo] at this
    exact this rfl
  have hgive : ∀ m : Mem, giveAt BlV tabL m (liveOf (relC key serial)) = giveF BlV ⟨2, 0, 0, 2⟩ (cellAt m 1 key) serial := fun m => rfl
  have hno : ∀ m : Mem, Lies tabL m → (∀ c, Has m c → c.pol = 1 → c.key = key → ¬ serial ∈ c.held) → giveAt BlV tabL m (liveOf (relC key serial)) = (err 11, cellAt m 1 key) := fun m hm h => by
    rw [hgive]
    have hc : ((cellAt m 1 key).held.length : Int) ≤ 2 ∧ ¬ serial ∈ (cellAt m 1 key).held := by
      rcases cellAt_spec hm 1 key (by decide) (by decide) with ⟨c, h1, h2, h3, h4⟩ | ⟨_, h4⟩
      · rw [h4]
        exact ⟨hperm m hm c h1 h2, h c h1 h2 h3⟩
      · rw [h4]
        exact ⟨by show ((0 : Nat) : Int) ≤ 2; decide, by simp⟩
    have hg := give_no hc.1 hc.2
    have := giveF_no (p := ⟨2, 0, 0, 2⟩) (c := cellAt m 1 key) (n := serial) (by show (giveB 2 _ _).1 ≠ 0; rw [hg]; decide)
    rw [this]
    show (err (giveB 2 _ _).1, _) = _
    rw [hg]
  have hno2 : (∀ c, Has s1.m c → c.pol = 1 → c.key = key → ¬ serial ∈ c.held) → r2 = err 11 := fun h => by
    have := g2.1
    rw [show (⟨s1.m, setP s1.pd 9 (some (liveOf (relC key serial), firstK (relC key serial)))⟩ : Top.Sys).m = s1.m from rfl, hno s1.m hL1 h] at this
    exact this
  by_cases hex : ∃ c, Has s.m c ∧ c.pol = 1 ∧ c.key = key ∧ serial ∈ c.held
  · obtain ⟨c, h1, h2, h3, h4⟩ := hex
    have hcell : cellAt s.m 1 key = c := by
      rcases cellAt_spec hL 1 key (by decide) (by decide) with ⟨d, k1, k2, k3, k4⟩ | ⟨k1, _⟩
      · rw [k4]
        exact has_one hL k1 h1 (by unfold cid; rw [k2, k3, h2, h3])
      · exact absurd ⟨h2, h3⟩ (k1 c h1)
    have hcok : CellOk c := (curHold_wf hL _).ok c h1
    have hy := give_yes (hperm s.m hL c h1 h2) h4 hcok.rises
    have hgF := giveF_yes (p := ⟨2, 0, 0, 2⟩) (c := c) (n := serial) hy.1
    have hga : giveAt BlV tabL s.m (liveOf (relC key serial)) = giveF BlV ⟨2, 0, 0, 2⟩ c serial := by rw [hgive, hcell]
    have q1 := g1.1
    have q2 := g1.2
    rw [show (⟨s.m, setP s.pd 9 (some (liveOf (relC key serial), firstK (relC key serial)))⟩ : Top.Sys).m = s.m from rfl, hga, hgF] at q1 q2
    have hr2 : r2 = err 11 := by
      refine hno2 fun d hd hd1 hd2 => ?_
      rcases q2 with ⟨hne, _⟩ | ⟨_, q2⟩
      · exact absurd rfl hne
      · have := (q2 d).1 hd
        have hcd : cid d = cid ({ c with held := (giveB 2 c.held serial).2 } : Cell) := by unfold cid; rw [hd1, hd2]; show _ = ident c.pol c.key; rw [h2, h3]
        rw [if_pos hcd] at this
        rw [this]
        exact hy.2.1
    subst hr2
    exact ⟨r, s1, s2, a1, b1, a2, a3, .inl ⟨by rw [q1], c, h1, h2, h3, h4⟩⟩
  · have hnone : ∀ c, Has s.m c → c.pol = 1 → c.key = key → ¬ serial ∈ c.held := fun c h1 h2 h3 h4 => hex ⟨c, h1, h2, h3, h4⟩
    have q1 := g1.1
    have q2 := g1.2
    rw [show (⟨s.m, setP s.pd 9 (some (liveOf (relC key serial), firstK (relC key serial)))⟩ : Top.Sys).m = s.m from rfl, hno s.m hL hnone] at q1 q2
    have hsame : ∀ c, Has s1.m c ↔ Has s.m c := by
      rcases q2 with ⟨_, q2⟩ | ⟨q2, _⟩
      · exact q2
      · cases q2
    have hr2 : r2 = err 11 := hno2 fun c hc => hnone c ((hsame c).1 hc)
    subst hr2
    exact ⟨r, s1, s2, a1, b1, a2, a3, .inr ⟨q1, hsame, hnone⟩⟩
end Go.Proofs.YtemnhpdjoimjbaaGreat
end
section
namespace Go.Proofs.YtemnhpdjoimjbaaGreat
open Go.RowKit Top
set_option linter.unusedVariables false
theorem m0_word (i : Nat) : m0.word i = if i = 1 then 1 else 0 := by
  have h : ∀ i, i < 34 → m0.word i = if i = 1 then 1 else 0 := by decide
  by_cases hi : i < 34
  · exact h i hi
  · unfold Mem.word
    rw [List.getD_eq_getElem?_getD, List.getElem?_eq_none (by show 34 ≤ i; omega), if_neg (by omega)]
    rfl
theorem tot_none : ∀ n, tot (fun _ => none) n = 0
  | 0 => rfl
  | n + 1 => by
    show tot (fun _ => none) n + 0 = 0
    rw [tot_none n]
theorem dir0 : Dir m0 := by
  have w0 : m0.word 0 = 0 := rfl
  refine ⟨rfl, rfl, by rw [w0]; decide, fun i h1 h2 => ?_, fun i h1 h2 => ?_, fun i h1 h2 => ?_, fun i h1 h2 => ?_, by decide⟩
  · rw [w0] at h2
    have h2 : i < 1 := h2
    omega
  · rw [w0] at h1 h2
    have h1 : 1 ≤ i := h1
    have h2 : i < 2 := h2
    obtain rfl : i = 1 := by omega
    exact ⟨by decide, fun _ => by decide⟩
  · rw [w0] at h1
    have h1 : 2 ≤ i := h1
    rw [m0_word, if_neg (by omega)]
    exact ⟨by decide, fun h => absurd rfl h⟩
  · rw [m0_word]
    split
    · exact ⟨by decide, by decide⟩
    · exact ⟨by decide, by decide⟩
theorem sys0 (list : List Pol) (room : Nat) : SysOk list room ⟨m0, fun _ => none⟩ 1 := by
  refine ⟨⟨dir0, ⟨fun i => by rw [m0_hold]; exact WfL.nil, fun l s hl c hc => (by rw [m0_hold] at hc; cases hc), fun i c hc => (by rw [m0_hold] at hc; cases hc)⟩, ?_, ?_, ?_, by decide⟩, fun who x k _ h => (by cases h), by decide⟩
  · show m0.word 32 = size m0 + tot (fun _ => none) 64
    rw [tot_none]
    rfl
  · show m0.word 32 ≤ room
    exact Nat.zero_le _
  · show m0.word 33 ≤ _
    decide
theorem fit_fits {p : Pk} (h : PkOk p) (hk : ∀ b ∈ p.c.key, b < 256) : PkFit tabL (fitP p) ∧ (fitP p).who < 5 := by
  obtain ⟨h1, h2, h3, h4, h5, h6, h7, h8, h9, h10⟩ := h
  have ho : 1 ≤ fitOp p.c.op ∧ fitOp p.c.op ≤ 6 := by unfold fitOp; split <;> constructor <;> omega
  have hw : 0 ≤ p.who % 18446744073709551616 % 5 ∧ p.who % 18446744073709551616 % 5 < 5 := by omega
  refine ⟨⟨?_, ⟨(p.who % 18446744073709551616 % 5).toNat, ?_, ?_⟩, ⟨⟨ho.1, ho.2, fun e => ?_, ?_, ?_, fun e1 e2 => ?_⟩, fun b hb => hk b (List.mem_of_mem_take hb), ?_⟩, ?_, ?_⟩, hw.2⟩
  · show p.kind % 3 < 3
    omega
  · show p.who % 18446744073709551616 % 5 = _
    omega
  · omega
  · have e : fitOp p.c.op = 1 := e
    show 0 ≤ fitN (fitOp p.c.op) p.c.n ∧ fitN (fitOp p.c.op) p.c.n ≤ 4611686018427387903
    rw [e]
    exact clampI_tick _
  · show (p.c.key.take 2).length ≤ 255
    rw [List.length_take]
    omega
  · show ∃ q : Nat, fitPol (fitOp p.c.op) p.c.pol = (q : Int) ∧ q < 2
    unfold fitPol
    split
    · exact ⟨1, rfl, by decide⟩
    · exact ⟨0, rfl, by decide⟩
  · have e1 : fitOp p.c.op ≤ 4 := e1
    have e2 : kindOf (fitOp p.c.op) ≠ 0 := e2
    show (tabL.getD (fitPol (fitOp p.c.op) p.c.pol).toNat default).kind = kindOf (fitOp p.c.op)
    have ho4 : fitOp p.c.op = 1 ∨ fitOp p.c.op = 2 ∨ fitOp p.c.op = 3 ∨ fitOp p.c.op = 4 := by omega
    rcases ho4 with e | e | e | e
    · rw [e]; rfl
    · rw [e]; rfl
    · rw [e]; rfl
    · rw [e] at e2
      exact absurd rfl e2
  · show -9223372036854775808 ≤ fitN (fitOp p.c.op) p.c.n ∧ fitN (fitOp p.c.op) p.c.n ≤ 9223372036854775807
    unfold fitN
    split
    · have := clampI_tick p.c.n
      omega
    · exact ⟨h7, h8⟩
  · show 0 ≤ p.N % 18446744073709551616 % 40
    omega
  · show p.N % 18446744073709551616 % 40 ≤ 4611686018427387903
    omega
/-- What a pick that fits does to the plain state. -/
theorem play_ok {list : List Pol} {room : Nat} (T : TabOk list room) {s : Top.Sys} {n : Nat} {p : Pk} (h : SysOk list room s n) (hn : n < 4611686018427387900) (hp : PkFit list p) : SysOk list room (playS list room s p) (n + 1) := by
  obtain ⟨j, hj, hj64⟩ := hp.who
  have hw : p.who.toNat < 64 := by omega
  unfold playS
  split
  · exact h.step sound_V T hw hn
  split
  · exact (h.start hw hp.call.in_).mono (by omega)
  · have := clampI_tick (s.m.clock + p.N)
    exact (h.tick this.1 this.2).mono (by omega)
theorem play_pd {list : List Pol} {room : Nat} {s : Top.Sys} {p : Pk} {j : Nat} (hj : j ≠ p.who.toNat) : (playS list room s p).pd j = s.pd j := by
  unfold playS
  split
  · unfold stepS
    cases e : s.pd p.who.toNat with
    | none => rfl
    | some q =>
      obtain ⟨x, k⟩ := q
      dsimp only
      unfold stepO
      split
      · exact setP_ne _ _ hj
      · exact setP_ne _ _ hj
  split
  · unfold startS
    split
    · exact setP_ne _ _ hj
    · rfl
  · rfl
end Go.Proofs.YtemnhpdjoimjbaaGreat
end
