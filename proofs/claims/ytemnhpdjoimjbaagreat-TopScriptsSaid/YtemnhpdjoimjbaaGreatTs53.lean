import Derived.Test.YtemnhpdjoimjbaaGreatTs48
import Derived.Test.YtemnhpdjoimjbaaGreatTs52
namespace Go.Proofs.YtemnhpdjoimjbaaGreat
section
open Go.ChangeShapes Go.WideShapes Go.Deep Go.RowKit Go.Joins Top
set_option linter.unusedVariables false
structure CRaw (c : Top.Call) : Prop where
 op : c.op < 256
 pol0 : -9223372036854775808 ≤ c.pol
 pol1 : c.pol ≤ 9223372036854775807
 n0 : -9223372036854775808 ≤ c.n
 n1 : c.n ≤ 9223372036854775807
def callA4 (c : Top.Call) (kv : Value) : Array Value := #[.int .u8 (c.op : Nat), .int .i64 c.pol, kv, .int .i64 c.n]
section
variable {H : Type} {enc : TypeId × Value → H} {W : World}
set_option maxRecDepth 100000 in
theorem call_trod {n : Nat} {cs : List Value} {x : DataW H × List MemPlace} (h : DataW.trod enc Tryz.prog W 0 (fun _ => true) true n 31 cs = some x) : ∃ (c : Top.Call) (kv : Value), cs = (callA4 c kv).toList ∧ CRaw c ∧ ByAt W kv c.key := by
 obtain ⟨zs, n1, rfl, _, hlen, hzl, hg⟩ := DataW.trod_struct Tryz.underlying31 h
 have hc : Tryz.prog.cellsOf 31 = 4 := by kernel_rfl
 rw [hc] at hlen
 obtain ⟨c0, c1, c2, c3, rfl⟩ : ∃ c0 c1 c2 c3, cs = [c0, c1, c2, c3] := by
   match cs, hlen with
   | [c0, c1, c2, c3], _ => exact ⟨_, _, _, _, rfl⟩
 have k1 : Tryz.prog.cellsOf 5 = 1 := by kernel_rfl
 have k2 : Tryz.prog.cellsOf 3 = 1 := by kernel_rfl
 have k4 : Tryz.prog.cellsOf 2 = 1 := by kernel_rfl
 have k5 : Tryz.prog.cellsOf 23 = 1 := by kernel_rfl
 have s0 : DataW.trod enc Tryz.prog W 0 (fun _ => true) true n1 5 (([c0, c1, c2, c3].drop 0).take (Tryz.prog.cellsOf 5)) = zs[0]? := hg 0 _ rfl
 have s1 : DataW.trod enc Tryz.prog W 0 (fun _ => true) true n1 3 (([c0, c1, c2, c3].drop 1).take (Tryz.prog.cellsOf 3)) = zs[1]? := hg 1 _ rfl
 have s2 : DataW.trod enc Tryz.prog W 0 (fun _ => true) true n1 23 (([c0, c1, c2, c3].drop 2).take (Tryz.prog.cellsOf 23)) = zs[2]? := hg 2 _ rfl
 have s3 : DataW.trod enc Tryz.prog W 0 (fun _ => true) true n1 2 (([c0, c1, c2, c3].drop 3).take (Tryz.prog.cellsOf 2)) = zs[3]? := hg 3 _ rfl
 have hz : ∀ i, i < 4 → ∃ y, zs[i]? = some y := fun i hi => ⟨_, List.getElem?_eq_getElem (by rw [hzl]; exact hi)⟩
 obtain ⟨z0, g0⟩ := hz 0 (by decide)
 obtain ⟨z1, g1⟩ := hz 1 (by decide)
 obtain ⟨z2, g2⟩ := hz 2 (by decide)
 obtain ⟨z3, g3⟩ := hz 3 (by decide)
 rw [g0] at s0
 rw [g1] at s1
 rw [g2] at s2
 rw [g3] at s3
 rw [k1] at s0
 rw [k2] at s1
 rw [k5] at s2
 rw [k4] at s3
 simp only [List.drop_zero, List.drop_succ_cons, List.take_succ_cons, List.take_zero] at s0 s1 s2 s3
 obtain ⟨u0, h0, _, v0⟩ := DataW.trod_int Tryz.underlying5 s0
 obtain ⟨u1, h1, _, v1⟩ := DataW.trod_int Tryz.underlying3 s1
 obtain ⟨u3, h3, _, v3⟩ := DataW.trod_int Tryz.underlying2 s3
 obtain ⟨kv, key, h2, hk⟩ := key_trod s2
 simp only [List.cons.injEq, and_true] at h0 h1 h2 h3
 subst h0 h1 h2 h3
 obtain ⟨op, rfl, hop⟩ := u8_of_wf v0
 have d1 := i64_of_wf v1
 have d3 := i64_of_wf v3
 exact ⟨⟨op, u1, key, u3⟩, _, rfl, ⟨hop, d1.1, d1.2, d3.1, d3.2⟩, hk⟩
theorem calls_open {d : DataW H} {p : List MemPlace} {v : Value} (h : DataW.Trod enc Tryz.prog W 0 (fun _ => true) true 50 v d p) (hv : ∃ a n c, v = .slice a n c) : ∃ L, CallsAt W v L ∧ ∀ c ∈ L, CRaw c := by
 obtain ⟨fuel, hf⟩ := h
 obtain ⟨a, n, c, rfl⟩ := hv
 have hc7 : Tryz.prog.cellsOf 31 = 4 := by kernel_rfl
 rcases open_slice Tryz.underlying50 hf with ⟨hcs, _⟩ | ⟨a', len, cap, m, q, D, Pl, hcs, _, hl, hm, hmm, _, hcell⟩
 · simp [Value.cells] at hcs
   obtain ⟨rfl, rfl, rfl⟩ := hcs
   exact ⟨[], ⟨none, 0, rfl, Nat.le_refl _, by decide, fun h => by cases h⟩, fun x h => by cases h⟩
 · simp [Value.cells] at hcs
   obtain ⟨rfl, rfl, rfl⟩ := hcs
   simp at hmm
   have hall : ∀ i, i < n → ∃ p : Top.Call, CRaw p ∧ ∃ kv, ByAt W kv p.key ∧ ∀ j u, (callA4 p kv)[j]? = some u → W.cell? ((a'.add (i * 4)).add j) = some u := by
     intro i hi
     obtain ⟨cs', hcs', ht⟩ := hcell i (by omega)
     rw [hc7] at hcs'
     obtain ⟨pk, kv, rfl, hok, hk⟩ := call_trod ht
     obtain ⟨_, _, hat⟩ := World.cells?_some hcs'
     refine ⟨pk, hok, kv, hk, fun j u hu => ?_⟩
     have hj : j < 4 := by
       have := (Array.getElem?_eq_some_iff.1 hu).1
       simpa [callA4] using this
     rw [hat j hj, Array.getElem?_toList]
     exact hu
   obtain ⟨L, rfl, hL⟩ := nat_list n (P := fun i p => CRaw p ∧ ∃ kv, ByAt W kv p.key ∧ ∀ j u, (callA4 p kv)[j]? = some u → W.cell? ((a'.add (i * 4)).add j) = some u) hall
   refine ⟨L, ⟨a', c, rfl, hl, hm, fun h0 => ?_⟩, fun x hx => ?_⟩
   rotate_left
   · obtain ⟨j, hj, rfl⟩ := List.getElem_of_mem hx
     obtain ⟨y, h1, h2, _⟩ := hL j hj
     rw [List.getElem?_eq_getElem hj] at h1
     injection h1 with h1
     rw [h1]
     exact h2
   · obtain ⟨b, off, spot⟩ := a'
     obtain ⟨y0, _, _, kv0, _, hc⟩ := hL 0 h0
     have hc := hc 0 _ rfl
     have hspot : spot = none := by simpa [Addr.add] using World.cell?_spot hc
     subst hspot
     have hadd1 : ∀ o j, (⟨b, o, none⟩ : Addr).add j = ⟨b, o + j, none⟩ := by
       intro o j; unfold Addr.add; split <;> simp_all
     have hadd : ∀ j q, ((⟨b, off, none⟩ : Addr).add j).add q = ⟨b, off + j + q, none⟩ := fun j q => by rw [hadd1, hadd1]
     refine ⟨b, off, rfl, fun j p hp => ?_⟩
     have hj := (List.getElem?_eq_some_iff.1 hp).1
     obtain ⟨y, h1, _, kv, hk, h2⟩ := hL j hj
     rw [hp] at h1
     injection h1 with h1
     subst h1
     have g := fun q u hu => by have := h2 q u hu; rwa [hadd] at this
     exact ⟨kv, hk, g 0 _ rfl, g 1 _ rfl, g 2 _ rfl, g 3 _ rfl⟩
end
end
section
open Go.RowKit Top
set_option linter.unusedVariables false
structure CK where
 c : Top.Call
 kv : Value
def CK.enc (x : CK) : List Value := [.int .u8 (x.c.op : Nat), .int .i64 x.c.pol, x.kv, .int .i64 x.c.n]
def repE (r : Reply) : List Value := [.int .i64 r.e, .bool r.granted, .int .i64 r.left, .int .i64 r.wait, .int .i64 r.serial, .int .i64 r.now]
def pkE (p : Top.Pick) : List Value := [.int .i64 p.who, .int .i64 p.ticks]
theorem flat_get {α : Type} {f : α → List Value} {k : Nat} (hk : ∀ x, (f x).length = k) : ∀ (l : List α) (i j : Nat) (x : α), l[i]? = some x → j < k → (l.flatMap f)[i * k + j]? = (f x)[j]?
 | [], i, j, x, h, _ => by simp at h
 | y :: l, 0, j, x, h, hj => by
   have h : some y = some x := h
   injection h with h
   subst h
   rw [List.flatMap_cons, Nat.zero_mul, Nat.zero_add, List.getElem?_append_left (by rw [hk]; exact hj)]
 | y :: l, i + 1, j, x, h, hj => by
   have h : l[i]? = some x := h
   rw [List.flatMap_cons, List.getElem?_append_right (by rw [hk, Nat.add_mul]; omega), hk, show (i + 1) * k + j - k = i * k + j by rw [Nat.add_mul]; omega]
   exact flat_get hk l i j x h hj
theorem flat_snoc {α : Type} (f : α → List Value) (l : List α) (x : α) : (l ++ [x]).flatMap f = l.flatMap f ++ f x := by simp
structure ScS (wr w : World) (B : Nat) (A : Adr) (cb wk : Nat) (pv rv sv cv : Value) (xs : List CK) (ps : List Top.Pick) (out : List Reply) (s : Top.Sys) : Prop where
 sys : SysAt wr B A s.m s.pd
 conf : Bx wr cb 54 #[pv, .int .i64 64, .slice (some ⟨wk, 0, none⟩) 1 1, sv, .bool false]
 work : Bx wr wk 50 #[cv]
 pols : PolsAt wr pv tabL
 rrow : wr.ownsRow w.heap.size 35 6 rv out.length (out.flatMap repE)
 srow : wr.ownsRow w.heap.size 60 2 sv ps.length (ps.flatMap pkE)
 crow : wr.ownsRow w.heap.size 31 4 cv xs.length (xs.flatMap CK.enc)
 keys : ∀ x ∈ xs, KeyAt wr x.kv x.c.key
 below : Below w.heap.size w wr
 cb0 : w.heap.size ≤ cb
 wk0 : w.heap.size ≤ wk
 B0 : w.heap.size ≤ B
section
variable {wr w w' : World} {B : Nat} {A : Adr} {cb wk : Nat} {pv rv sv cv : Value} {xs : List CK} {ps : List Top.Pick} {out : List Reply} {s s' : Top.Sys}
theorem ScS.later (h : ScS wr w B A cb wk pv rv sv cv xs ps out s) (hb : Below wr.heap.size wr w') : ScS w' w B A cb wk pv rv sv cv xs ps out s :=
 ⟨h.sys.keep hb, h.conf.below hb h.conf.lt, h.work.below hb h.work.lt, h.pols.keep (fr0 hb), ownsRow_below h.rrow hb, ownsRow_below h.srow hb, ownsRow_below h.crow hb, fun x hx => (h.keys x hx).keep (fr0 hb), below_then h.below hb, h.cb0, h.wk0, h.B0⟩
theorem ScS.fz (h : ScS wr w B A cb wk pv rv sv cv xs ps out s) (hs : SysAt w' B A s'.m s'.pd) (hf : Fz B wr w') : ScS w' w B A cb wk pv rv sv cv xs ps out s' := by
 obtain ⟨X, hx⟩ := id hf
 exact ⟨hs, h.conf.kz hf (ok_config _), h.work.kz hf (ok_calls _), h.pols.keep hx, own_keep hx h.rrow ok_reply, own_keep hx h.srow ok_pick, own_keep hx h.crow ok_call, fun x hx' => (h.keys x hx').keep hx, hf.later h.B0 h.below, h.cb0, h.wk0, h.B0⟩
theorem KeyAt.only {t : TypeId} {base : Nat} {a b : World} (h : Only t base a b) {v : Value} {L : List Nat} (k : KeyAt a v L) (ht : 5 ≠ t) : KeyAt b v L := ⟨k.1, h.row k.2 ht⟩
theorem ScS.reply (h : ScS wr w B A cb wk pv rv sv cv xs ps out s) (hp : ∀ j, j < 64 → s.pd j = none) {rv' : Value} {r : Reply} (hg : wr.grownBy w' rv.ownBlock) (hr : w'.ownsRow w.heap.size 35 6 rv' (out.length + 1) (out.flatMap repE ++ repE r)) : ScS w' w B A cb wk pv rv' sv cv xs ps (out ++ [r]) s := by
 have ho := Only.grown h.rrow hg h.below.size
 exact ⟨h.sys.ag hp (ho.ag (by decide)), ho.bx h.conf (by decide), ho.bx h.work (by decide), ho.row h.pols (by decide), by rw [flat_snoc, List.length_append]; exact hr, ho.own h.srow (by decide), ho.own h.crow (by decide), fun x hx => (h.keys x hx).only ho (by decide), h.below.trans ho.bel, h.cb0, h.wk0, h.B0⟩
theorem ScS.call (h : ScS wr w B A cb wk pv rv sv cv xs ps out s) (hp : ∀ j, j < 64 → s.pd j = none) {cv' : Value} {x : CK} (hg : wr.grownBy w' cv.ownBlock) (hr : w'.ownsRow w.heap.size 31 4 cv' (xs.length + 1) (xs.flatMap CK.enc ++ x.enc)) (hk : KeyAt wr x.kv x.c.key) : ScS (w'.setCell ⟨wk, 0, none⟩ cv') w B A cb wk pv rv sv cv' (xs ++ [x]) ps out s := by
 have ho := Only.grown h.crow hg h.below.size
 have hw := ho.bx h.work (by decide)
 have ho2 := Only.set (i := 0) hw h.wk0 cv'
 refine ⟨(h.sys.ag hp (ho.ag (by decide))).ag hp (ho2.ag (by decide)), ho2.bx (ho.bx h.conf (by decide)) (by decide), hw.setCell 0 cv', ho2.row (ho.row h.pols (by decide)) (by decide), ho2.own (ho.own h.rrow (by decide)) (by decide), ho2.own (ho.own h.srow (by decide)) (by decide), ?_, fun y hy => ?_, (h.below.trans ho.bel).trans ho2.bel, h.cb0, h.wk0, h.B0⟩
 · rw [flat_snoc, List.length_append]
   exact ho2.own hr (by decide)
 · rcases List.mem_append.1 hy with hy | hy
   · exact ((h.keys y hy).only ho (by decide)).only ho2 (by decide)
   · simp only [List.mem_singleton] at hy
     subst hy
     exact (hk.only ho (by decide)).only ho2 (by decide)
theorem ScS.pick (h : ScS wr w B A cb wk pv rv sv cv xs ps out s) (hp : ∀ j, j < 64 → s.pd j = none) {sv' : Value} {p : Top.Pick} (hg : wr.grownBy w' sv.ownBlock) (hr : w'.ownsRow w.heap.size 60 2 sv' (ps.length + 1) (ps.flatMap pkE ++ pkE p)) : ScS (w'.setCell ⟨cb, 3, none⟩ sv') w B A cb wk pv rv sv' cv xs (ps ++ [p]) out s := by
 have ho := Only.grown h.srow hg h.below.size
 have hc := ho.bx h.conf (by decide)
 have ho2 := Only.set (i := 3) hc h.cb0 sv'
 refine ⟨(h.sys.ag hp (ho.ag (by decide))).ag hp (ho2.ag (by decide)), hc.setCell 3 sv', ho2.bx (ho.bx h.work (by decide)) (by decide), ho2.row (ho.row h.pols (by decide)) (by decide), ho2.own (ho.own h.rrow (by decide)) (by decide), ?_, ho2.own (ho.own h.crow (by decide)) (by decide), fun y hy => ((h.keys y hy).only ho (by decide)).only ho2 (by decide), (h.below.trans ho.bel).trans ho2.bel, h.cb0, h.wk0, h.B0⟩
 rw [flat_snoc, List.length_append]
 exact ho2.own hr (by decide)
theorem row_slice {wr : World} {base : Nat} {e : TypeId} {size n : Nat} {v : Value} {xs : List Value} (h : wr.ownsRow base e size v n xs) : ∃ a c, v = .slice a n c := by
 rcases h.2 with ⟨rfl, rfl⟩ | ⟨g, cap, cur, rfl, _⟩
 · exact ⟨_, _, rfl⟩
 · exact ⟨_, _, rfl⟩
theorem ScS.calls (h : ScS wr w B A cb wk pv rv sv cv xs ps out s) : WorkAt wr (.slice (some ⟨wk, 0, none⟩) 1 1) (xs.map CK.c) := by
 refine ⟨wk, 0, 1, cv, rfl, Nat.le_refl _, by decide, h.work.cell 0, ?_⟩
 by_cases h0 : 0 < xs.length
 · obtain ⟨g, cap, rfl, _, hc1, hc2, hcell⟩ := own_cell h.crow h0
   refine ⟨some ⟨g, 0, none⟩, cap, by rw [List.length_map], by rw [List.length_map]; exact hc1, hc2, fun _ => ⟨g, 0, rfl, fun j x hx => ?_⟩⟩
   rw [List.getElem?_map] at hx
   obtain ⟨y, hy, rfl⟩ := Option.map_eq_some_iff.1 hx
   have hf := fun q hq => flat_get (f := CK.enc) (k := 4) (fun _ => rfl) xs j q y hy hq
   refine ⟨y.kv, (h.keys y (List.mem_of_getElem? hy)).by, ?_, ?_, ?_, ?_⟩
   · rw [Nat.zero_add]; exact hcell _ _ (hf 0 (by decide))
   · rw [Nat.zero_add]; exact hcell _ _ (hf 1 (by decide))
   · rw [Nat.zero_add]; exact hcell _ _ (hf 2 (by decide))
   · rw [Nat.zero_add]; exact hcell _ _ (hf 3 (by decide))
 · have : xs = [] := List.eq_nil_of_length_eq_zero (by omega)
   subst this
   have hl := h.crow.2
   rcases hl with ⟨rfl, _⟩ | ⟨g, cap, cur, rfl, _, _, _, hc2, _⟩
   · exact ⟨none, 0, rfl, Nat.le_refl _, by decide, fun h => absurd h (by decide)⟩
   · exact ⟨_, cap, rfl, Nat.zero_le _, hc2, fun h => absurd h (by decide)⟩
theorem ScS.picks (h : ScS wr w B A cb wk pv rv sv cv xs ps out s) : ScrAt wr sv ps := by
 by_cases h0 : 0 < ps.length
 · obtain ⟨g, cap, rfl, _, hc1, hc2, hcell⟩ := own_cell h.srow h0
   refine ⟨some ⟨g, 0, none⟩, cap, rfl, hc1, hc2, fun _ => ⟨g, 0, rfl, fun j x hx => ?_⟩⟩
   have hf := fun q hq => flat_get (f := pkE) (k := 2) (fun _ => rfl) ps j q x hx hq
   exact ⟨by rw [Nat.zero_add]; exact hcell _ _ (hf 0 (by decide)), by rw [Nat.zero_add]; exact hcell _ _ (hf 1 (by decide))⟩
 · have : ps = [] := List.eq_nil_of_length_eq_zero (by omega)
   subst this
   rcases h.srow.2 with ⟨rfl, _⟩ | ⟨g, cap, cur, rfl, _, _, _, hc2, _⟩
   · exact ⟨none, 0, rfl, Nat.le_refl _, by decide, fun h => absurd h (by decide)⟩
   · exact ⟨_, cap, rfl, Nat.zero_le _, hc2, fun h => absurd h (by decide)⟩
end
structure ScP (k : Nat) (cs : List Top.Call) (ps : List Top.Pick) (out : List Reply) (s : Top.Sys) : Prop where
 ok : SysOk tabL 64 s (1 + 600 * k)
 none : ∀ j, j < 64 → s.pd j = Option.none
 brings : Brings BlV tabL 64 tkV ⟨m0, fun _ => Option.none⟩ ps cs s out
 good : ∀ c ∈ cs, CallGood tabL c
 picks : ∀ x ∈ ps, (x.who = -1 ∨ x.who = 0) ∧ 0 ≤ x.ticks ∧ x.ticks ≤ 4611686018427387903
 lc : cs.length = k
 lo : out.length = k
 lp : ps.length ≤ 513 * k
theorem ScP.zero : ScP 0 [] [] [] ⟨m0, fun _ => Option.none⟩ := ⟨sys0 _ _, fun _ _ => rfl, Brings.nil _ _ _ _ _, fun c h => (by cases h), fun x h => (by cases h), rfl, rfl, Nat.zero_le _⟩
theorem ScP.next {k : Nat} {cs : List Top.Call} {ps : List Top.Pick} {out : List Reply} {s : Top.Sys} (h : ScP k cs ps out s) (hk : k < 40) {t : Int} (t0 : 0 ≤ t) (t1 : t ≤ 255) {c : Top.Call} (hc : CallGood tabL c) :
   ∃ r s' n, aloneS tabL 64 BlV 0 512 (startS (tickS s t) 0 c) = some (r, s') ∧ s'.m.count = s.m.count + (n : Nat) ∧ n ≤ 512 ∧ s'.pd 0 = Option.none ∧ ScP (k + 1) (cs ++ [c]) (ps ++ ⟨-1, t⟩ :: List.replicate n ⟨0, 0⟩) (out ++ [r]) s' := by
 have T := tab_ok (room := 64) (by decide) (by decide)
 have hok := h.ok.tick (t := clampI (s.m.clock + t)) (clampI_tick _).1 (clampI_tick _).2
 have hp0 : (tickS s t).pd 0 = Option.none := h.none 0 (by decide)
 obtain ⟨r, s', a1, a2, a3, a4, a5⟩ := alone_call T hok (by omega) (by decide) hp0 hc.in_
 obtain ⟨n, b1, b2, b3, b4⟩ := h.brings.snoc BlV tabL 64 (c := c) (r := r) (s' := s') t (h.none 0 (by decide)) a1
 refine ⟨r, s', n, a1, b3, b2, a3, a2.mono (by omega), fun j hj => ?_, b4, fun d hd => ?_, fun x hx => ?_, by simp [h.lc], by simp [h.lo], ?_⟩
 · by_cases e : j = 0
   · subst e; exact a3
   · rw [a4 j e]; exact h.none j hj
 · rcases List.mem_append.1 hd with hd | hd
   · exact h.good d hd
   · simp only [List.mem_singleton] at hd
     subst hd
     exact hc
 · rcases List.mem_append.1 hx with hx | hx
   · exact h.picks x hx
   · rcases List.mem_cons.1 hx with rfl | hx
     · exact ⟨.inl rfl, t0, by show t ≤ _; omega⟩
     · have := List.eq_of_mem_replicate hx
       subst this
       exact ⟨.inr rfl, by decide, by decide⟩
 · have := h.lp
   simp only [List.length_append, List.length_cons, List.length_replicate]
   omega
end
end Go.Proofs.YtemnhpdjoimjbaaGreat
