import Derived.Test.YtemnhpdjoimjbaaGreatTs53
import Derived.Laws.StructEq
import Derived.Deep.CutBlock
import Derived.Deep.QuietTactic
import Derived.BigQuiet
namespace Go.Proofs.YtemnhpdjoimjbaaGreat
open Go.RowKit Top
set_option linter.unusedVariables false
theorem fieldsReply : Tryz.prog.underlying 35 = some (.struct (Tryz.prog.fieldsOf 35)) := by kernel_rfl
theorem heldReply : Tryz.prog.stoodInHeld 35 = false := by kernel_rfl
theorem neq_self (r : Reply) (w : World) : (binOp BinOp.neq 35 (.agg (replyA r)) (.agg (replyA r))).run Tryz.prog w = .ok (.bool false) w := by
 rw [run_neq_struct, run_equalIn_struct w 9999 _ _ _ fieldsReply heldReply]
 simp [go_sem]
theorem field_call (w : World) (a b c d e : Int) (v : Value) (n : Int) : (Instr.field 33 (.agg #[.int .u8 a, .int .i64 b, .int .u8 c, .int .i64 d, v, .int .i64 e, .int .i64 n]) 2).run Tryz.prog w = .ok (.agg #[.int .u8 c, .int .i64 d, v, .int .i64 e]) w := by kernel_rfl
theorem belDrewN {N : Nat} {a w : World} {n : Nat} (h : RowKit.Below N a w) : RowKit.Below N a (w.drewN n) := below_drewN h n
def pkJ (ps : List Top.Pick) (t : Int) (q : Nat) : List Top.Pick := ps ++ ⟨-1, t⟩ :: List.replicate q ⟨0, 0⟩
theorem pkJ_succ (ps : List Top.Pick) (t : Int) (q : Nat) : pkJ ps t (q + 1) = pkJ ps t q ++ [⟨0, 0⟩] := by
 unfold pkJ
 rw [List.replicate_succ', List.append_assoc, List.cons_append]
theorem pkJ_len (ps : List Top.Pick) (t : Int) (q : Nat) : (pkJ ps t q).length = ps.length + (q + 1) := by simp [pkJ]
theorem xs_snoc (xs : List CK) (g : Top.Call) (v : Value) : (xs ++ [(⟨g, v⟩ : CK)]).map CK.c = xs.map CK.c ++ [g] := by simp
theorem pk_of {c : Top.Call} (h : CRaw c) : PkOk ⟨0, 0, c, 0⟩ := ⟨show (0 : Nat) < 256 by decide, show (-9223372036854775808 : Int) ≤ 0 by decide, show (0 : Int) ≤ 9223372036854775807 by decide, h.op, h.pol0, h.pol1, h.n0, h.n1, show (-9223372036854775808 : Int) ≤ 0 by decide, show (0 : Int) ≤ 9223372036854775807 by decide⟩
def tickOf (tk : List Nat) (k : Nat) : Int := (tk.getD k 0 : Nat)
set_option maxHeartbeats 8000000 in
set_option maxRecDepth 100000 in
theorem scripts_walk (v : Value) (L : List Top.Call) (tv : Value) (tk : List Nat) (w : World) (h : CallsAt w v L) (hr : ∀ c ∈ L, CRaw c) (hk : ByAt w tv tk) :
   Calls Tryz.prog 4 #[v, tv] w fun e w' => e = .returned (.bool true) ∧ Below w.heap.size w w' := by
 obtain ⟨la, lc, rfl, hl1, hl2, hl3⟩ := h
 obtain ⟨hkb, ka, kc, rfl, hk1, hk2, hk3⟩ := hk
 have Hl := Lib.hid hl3; have Hr := Lib.hid hr; have Hk := Lib.hid hk3; have Hkb := Lib.hid hkb
 have hll : L.length ≤ 9223372036854775807 := by unfold maxLen at hl2; omega
 have hkl : tk.length ≤ 9223372036854775807 := by unfold maxLen at hk2; omega
 have Kn : Hid (∀ W lv, PolsAt W lv tabL → Calls Tryz.prog 5 #[lv, .int .i64 64] W fun e w' => ∃ A : Adr, e = .returned (.tuple #[P A.K, .int .i64 0]) ∧ A.list = tabL ∧ A.room = 64 ∧ SysAt w' W.heap.size A m0 (fun _ => none) ∧ Below W.heap.size W w') := fun W lv hl => new_sys lv 64 W hl (by decide) (by decide)
 clear hl1 hl2 hl3 hr hk1 hk2 hk3 hkb
 go_enter Tryz.func4, Tryz.ntmps4
 go_upto_region 4 with (first
   | (go_at_call 6; (with_reducible refine (table_any _).mono ?_); rintro e w1 ⟨lv, rfl, hp1, hb1⟩; have Hp1 := Lib.hid hp1; have Hb1 := Lib.hid hb1; clear hp1 hb1)
   | (go_at_call 5; (with_reducible refine (Kn.out _ _ Hp1.out).mono ?_); rintro e w2 ⟨A, rfl, hA1, hA2, hsys, hb2⟩; have HA := Lib.hid (And.intro hA1 (And.intro hA2 (And.intro hsys hb2))); clear hA1 hA2 hsys hb2))
 generalize hB : w1.heap.size = B at *
 have HB := Lib.hid hB
 have Hle : Hid (w.heap.size ≤ B) := by rw [← hB]; exact Hb1.out.size
 clear hB
 go_upto_block 0 with (go_at_call 6; (with_reducible refine (table_any _).mono ?_); rintro e w3 ⟨pv, rfl, hp3, hb3⟩; obtain ⟨pa, pc, rfl⟩ : ∃ a c, pv = .slice a tabL.length c := (by obtain ⟨_, a, c, e, _⟩ := hp3; exact ⟨a, c, e⟩); have Hp3 := Lib.hid hp3; have Hb3 := Lib.hid hb3; clear hp3 hb3)
 refine wp_name (fun y => ScS y w B A (w3.heap.size + 1) w3.heap.size (.slice pa tabL.length pc) (.slice none 0 0) (.slice none 0 0) (.slice none 0 0) [] [] [] ⟨m0, fun _ => none⟩) ?_ ?_
 · have hb := below_allocs [.cells #[.slice none 0 0] 50, .cells #[.slice pa tabL.length pc, .int .i64 64, .slice (some ⟨w3.heap.size, 0, none⟩) 1 1, .slice none 0 0, .bool false] 54] w3
   have h12 : Below w.heap.size w w2 := below_then Hb1.out (by rw [HB.out]; exact HA.out.2.2.2)
   have h13 := below_then h12 Hb3.out
   exact ⟨(HA.out.2.2.1.keep Hb3.out).keep hb, bx_allocs w3 [_, _] 1 rfl, bx_allocs w3 [_, _] 0 rfl, Hp3.out.keep (fr0 hb), World.ownsRow_nil _ _ _ _, World.ownsRow_nil _ _ _ _, World.ownsRow_nil _ _ _ _, fun x hx => (by cases hx), below_then h13 hb, Nat.le_succ_of_le h13.size, h13.size, Hle.out⟩
 intro y hy
 have HY := Lib.hid hy
 clear hy
 generalize w3.heap.size = wk at *
 generalize hcb : wk + 1 = cb at *
 clear hcb
 go_cut [8] (fun rv wx => ∃ k xs ps out s sv cv, ScS wx w B A cb wk (.slice pa tabL.length pc) rv sv cv xs ps out s ∧ ScP k (xs.map CK.c) ps out s ∧ k ≤ 40)
 case first =>
   go_wp2_with fail
   go_loopw [8, 34] (fun rv iv wr => ∃ (k : Nat) (xs : List CK) (ps : List Top.Pick) (out : List Reply) (s : Top.Sys) (sv cv : Value), iv = .int .i64 k ∧ k ≤ L.length ∧ k ≤ 40 ∧ ScS wr w B A cb wk (.slice pa tabL.length pc) rv sv cv xs ps out s ∧ ScP k (xs.map CK.c) ps out s) (fun _ iv _ => L.length - (intOf iv).toNat)
   case atStart => exact ⟨0, [], [], [], _, _, _, rfl, Nat.zero_le _, Nat.zero_le _, HY.out, ScP.zero⟩
   case round =>
     obtain ⟨k, xs, ps, out, s, sv, cv, rfl, hk, hk40, hS, hP⟩ := hrel
     have HS := Lib.hid hS; have HP := Lib.hid hP
     clear hS hP
     by_cases hA : k < L.length
     · obtain ⟨b, off, rfl, hcl⟩ := Hl.out (by omega)
       obtain ⟨c, hc⟩ : ∃ c, L[k]? = some c := ⟨_, List.getElem?_eq_getElem hA⟩
       obtain ⟨pkv, hby, y0, y1, y2, y3⟩ := hcl k c hc
       have hraw := Hr.out c (List.mem_of_getElem? hc)
       have hww := HS.out.below
       have z0 := cell_later hww y0; have z1 := cell_later hww y1; have z2 := cell_later hww y2; have z3 := cell_later hww y3
       have hbyr := hby.below hww
       obtain ⟨qa, qc, rfl⟩ : ∃ a c', pkv = .slice a c.key.length c' := by obtain ⟨_, a, c', e, _⟩ := hby; exact ⟨a, c', e⟩
       have Hby := Lib.hid hbyr; have Hraw := Lib.hid hraw
       clear hcl hc hby y0 y1 y2 y3 hraw hww hbyr
       by_cases h40 : k < 40
       · have hd : (k : Int) < 40 := by omega
         have hd2 : ¬ (40 : Int) ≤ (k : Int) := by omega
         have hfit := fit_fits (p := ⟨0, 0, c, 0⟩) (pk_of Hraw.out) Hby.out.1
         have Hgood : Hid (CallGood tabL (fitC c) ∧ (fitC c).key.length ≤ 2) := ⟨hfit.1.call, by show (c.key.take 2).length ≤ 2; rw [List.length_take]; omega⟩
         have Kf : Hid (∀ W, Below wr.heap.size wr W → Calls Tryz.prog 8 #[.agg #[.int .u8 0, .int .i64 0, .int .u8 (c.op : Nat), .int .i64 c.pol, .slice qa c.key.length qc, .int .i64 c.n, .int .i64 0]] W fun e w' => ∃ kv' k0 w0 n0, e = .returned (.agg #[.int .u8 k0, .int .i64 w0, .int .u8 ((fitC c).op : Nat), .int .i64 (fitC c).pol, kv', .int .i64 (fitC c).n, .int .i64 n0]) ∧ (∀ W', ByAt W' (.slice qa c.key.length qc) c.key → ByAt W' kv' (fitC c).key) ∧ Below W.heap.size W w') := fun W hb => by
           refine (fit_all ⟨0, 0, c, 0⟩ (.slice qa c.key.length qc) W (Hby.out.below hb) (pk_of Hraw.out)).mono ?_
           rintro e w' ⟨kv', rfl, h1, h2⟩
           exact ⟨kv', _, _, _, rfl, h1, h2⟩
         clear hfit
         generalize hgg : fitC c = g at *
         clear hgg
         go_upto_region 10 with fail
         refine wp_name (fun y => Below wr.heap.size wr y ∧ Bx y wr.heap.size 31 #[.int .u8 (c.op : Nat), .int .i64 c.pol, .slice qa c.key.length qc, .int .i64 c.n]) ⟨below_allocs [_] wr, Bx.new wr _ _⟩ ?_
         rintro y1 ⟨hy1, hx1⟩
         have x0 := hx1.cell 0; have x1 := hx1.cell 1; have x2 := hx1.cell 2; have x3 := hx1.cell 3
         have Hy1 := Lib.hid hy1; have Hx1 := Lib.hid hx1
         clear hy1 hx1 z0 z1 z2 z3
         have hfld := field_call
         go_upto_region 11 with (go_at_call 8; (with_reducible refine (Kf.out _ Hy1.out).mono ?_); rintro e w5 ⟨kv', k0, w0, n0, rfl, hk5, hb5⟩; obtain ⟨ea, ec, rfl⟩ : ∃ a c', kv' = .slice a g.key.length c' := (by obtain ⟨_, a, c', e, _⟩ := hk5 _ Hby.out; exact ⟨a, c', e⟩); have hx5 := Hx1.out.below hb5 Hx1.out.lt; have q0 := hx5.cell 0; have q1 := hx5.cell 1; have q2 := hx5.cell 2; have q3 := hx5.cell 3; have f0 := hx5.free 0; have f1 := hx5.free 1; have f2 := hx5.free 2; have f3 := hx5.free 3; have H5 := Lib.hid (And.intro (below_then Hy1.out hb5) (And.intro hx5 hk5)); clear hk5 hb5 hx5)
         refine wp_name (fun y => Below wr.heap.size wr y ∧ Bx y wr.heap.size 31 #[.int .u8 (g.op : Nat), .int .i64 g.pol, .slice ea g.key.length ec, .int .i64 g.n] ∧ ByAt y (.slice ea g.key.length ec) g.key) ?_ ?_
         · obtain ⟨g1, g2, g3⟩ := H5.out
           have b0 := g2.setCell 0 (.int .u8 (g.op : Nat))
           have b1 := b0.setCell 1 (.int .i64 g.pol)
           have b2 := b1.setCell 2 (.slice ea g.key.length ec)
           have b3 := b2.setCell 3 (.int .i64 g.n)
           have h0 := Only.set (i := 0) g2 (base := wr.heap.size) (Nat.le_refl _) (.int .u8 (g.op : Nat))
           have h1 := Only.set (i := 1) b0 (base := wr.heap.size) (Nat.le_refl _) (.int .i64 g.pol)
           have h2 := Only.set (i := 2) b1 (base := wr.heap.size) (Nat.le_refl _) (.slice ea g.key.length ec)
           have h3 := Only.set (i := 3) b2 (base := wr.heap.size) (Nat.le_refl _) (.int .i64 g.n)
           have hbel := (((g1.trans h0.bel).trans h1.bel).trans h2.bel).trans h3.bel
           exact ⟨hbel, b3, g3 _ (Hby.out.below hbel)⟩
         clear hfld
         rintro y2 ⟨hy2, hx2, hk2⟩
         have x2 := hx2.cell 2
         have f2 := hx2.free 2
         have hxl := hx2.lt
         have Hy2 := Lib.hid hy2; have Hx2 := Lib.hid hx2; have Hk2 := Lib.hid hk2
         clear hy2 hx2 hk2 q0 q1 q2 q3 f0 f1 f3 x0 x1 x3
         go_cut [] (fun wx => Below wr.heap.size wr wx ∧ ∃ ka2 kc2, Bx wx wr.heap.size 31 #[.int .u8 (g.op : Nat), .int .i64 g.pol, .slice ka2 g.key.length kc2, .int .i64 g.n] ∧ KeyAt wx (.slice ka2 g.key.length kc2) g.key)
         case first =>
           have hkr := Hk2.out.row
           obtain ⟨i0, hi, hz0, hz1, hz2⟩ := info_parts info_u8
           have hown0 : (y2.alloc (.cells #[] 5)).ownsRow y2.heap.size 5 1 (.slice (some ⟨y2.heap.size, 0, none⟩) 0 0) 0 [] := World.ownsRow_made y2 #[] 0 (Nat.le_refl _) (by decide) rfl
           have hya := below_allocs [.cells #[] 5] y2
           have hlen := Hgood.out.2
           have Hown0 := Lib.hid hown0; have Hya := Lib.hid hya; have Hlen := Lib.hid hlen
           have Hfin : Hid (∀ (w5 : World) (a : Option Addr) (cp : Nat), w5.ownsRow y2.heap.size 5 1 (.slice a g.key.length cp) g.key.length (g.key.map fun (x : Nat) => Value.int .u8 x) → (y2.alloc (.cells #[] 5)).grownBy w5 (some y2.heap.size) → (w5.cell? ⟨wr.heap.size, 2, none⟩ = some (.slice ea g.key.length ec) ∧ w5.frozen? ⟨wr.heap.size, 2, none⟩ = false) ∧ (Below wr.heap.size wr (w5.setCell ⟨wr.heap.size, 2, none⟩ (.slice a g.key.length cp)) ∧ ∃ ka2 kc2, Bx (w5.setCell ⟨wr.heap.size, 2, none⟩ (.slice a g.key.length cp)) wr.heap.size 31 #[.int .u8 (g.op : Nat), .int .i64 g.pol, .slice ka2 g.key.length kc2, .int .i64 g.n] ∧ KeyAt (w5.setCell ⟨wr.heap.size, 2, none⟩ (.slice a g.key.length cp)) (.slice ka2 g.key.length kc2) g.key)) := fun w5 a cp ho hg => by
             have hx5 : Bx w5 wr.heap.size 31 #[.int .u8 (g.op : Nat), .int .i64 g.pol, .slice ea g.key.length ec, .int .i64 g.n] := (hg.block _ (Hx2.out.alloc _).lt (by have := Hx2.out.lt; simp; omega)).trans (Hx2.out.alloc _)
             have hb5 : Below wr.heap.size wr w5 := (below_then Hy2.out Hya.out).grown hg (below_then Hy2.out Hya.out).size (fun q hq => by injection hq with hq; have := Hy2.out.size; omega)
             refine ⟨⟨hx5.cell 2, hx5.free 2⟩, hb5.setCell (Nat.le_refl _) _, a, cp, hx5.setCell 2 _, Hk2.out.1, ?_⟩
             exact (Only.set (i := 2) hx5 (base := wr.heap.size) (Nat.le_refl _) _).row (Row.own ho) (by decide)
           clear hown0 hya hlen
           generalize hln : g.key.length = ln at *
           have Hln := Lib.hid hln
           clear hln
           have g1 : ln ≤ ec := hkr.1
           cases ea with
           | none =>
             obtain rfl : ln = 0 := by
               refine Classical.byContradiction fun h => ?_
               obtain ⟨b', off', e⟩ := hkr.2.2 (by omega)
               cases e
             have hke : g.key = [] := List.eq_nil_of_length_eq_zero Hln.out
             have hrun : ∀ ty, (Builtin.append_ #[23, 23] ty #[.slice (some ⟨y2.heap.size, 0, none⟩) 0 0, .slice none 0 ec]).run Tryz.prog (y2.alloc (.cells #[] 5)) = .ok (.slice (some ⟨y2.heap.size, 0, none⟩) 0 0) (y2.alloc (.cells #[] 5)) := fun ty =>
               run_append_room_src (y2.alloc (.cells #[] 5)) 23 23 ty 5 i0 Tryz.underlying23 hi y2.heap.size 0 0 0 (.slice none 0 ec) 0 [] (Src.ofNil _ Tryz.underlying23 ec) (by decide) (by intro j hj; simp at hj) (by intro j hj; simp at hj)
             obtain ⟨⟨m1, m2⟩, m3⟩ := Hfin.out (y2.alloc (.cells #[] 5)) (some ⟨y2.heap.size, 0, none⟩) 0 (by rw [hke]; exact Hown0.out) ⟨rfl, rfl, rfl, Nat.le_refl _, fun _ _ _ => rfl⟩
             rw [World.setCell_alloc_past _ _ _ _ hxl] at m3
             have HM := Lib.hid m3
             clear hkr hke g1 m3
             go_wp2_with (at_builtin; refine Lib.wpList_append_run _ rfl _ _ _ _ rfl _ _ rfl rfl _ _ (hrun _) ?_)
             go_meet
             exact HM.out
           | some ad =>
             have hnews : ∀ j u, (g.key.map fun (x : Nat) => Value.int .u8 x)[j]? = some u → (y2.alloc (.cells #[] 5)).cell? (ad.add j) = some u := fun j u hu => Lib.cell?_alloc_some _ (ByAt.news (c := ec) (n := ln) Hk2.out j u hu)
             have h1 : ∀ u ∈ g.key.map fun (x : Nat) => Value.int .u8 x, u.oneCell' = true := by
               intro u hu
               obtain ⟨x, _, rfl⟩ := List.mem_map.1 hu
               rfl
             have hle2 : ln ≤ 2 := Hlen.out
             have Hnews := Lib.hid hnews; have H1 := Lib.hid h1; have Hle2 := Lib.hid hle2
             clear hkr hnews h1
             go_wp2_with (at_builtin; refine wpList_append_own _ rfl _ _ 23 rfl y2.heap.size 5 i0 (.int .u8 0) 1 1 Tryz.underlying23 hi hz0 hz1 hz2 rfl (by decide) (.slice (some ⟨y2.heap.size, 0, none⟩) 0 0) 0 [] rfl Hown0.out ad ln ec (g.key.map fun (x : Nat) => Value.int .u8 x) rfl (by rw [List.length_map, Hln.out, Nat.mul_one]) Hnews.out H1.out (by have := Hle2.out; unfold maxLen; omega) (by have := Hle2.out; omega) Hya.out.size ?_; intro v' w6 hown6 hgrow6 hnil6; obtain ⟨oa, oc, rfl⟩ : ∃ a c, v' = .slice a ln c := (by rw [Nat.zero_add] at hown6; exact row_slice hown6); obtain ⟨⟨m1, m2⟩, m3⟩ := Hfin.out w6 oa oc (by rw [Nat.zero_add, List.nil_append] at hown6; exact hown6) hgrow6; have HM := Lib.hid m3; clear hown6 hgrow6 hnil6 m3)
             go_meet
             exact HM.out
         case rest =>
           obtain ⟨hy3, ka2, kc2, hx3, hk3⟩ := hcut
           have HS3 := Lib.hid (HS.out.later hy3)
           have Hx3 := Lib.hid hx3; have Hk3 := Lib.hid hk3
           have Hnx : Hid (cv.ownBlock ≠ some wr.heap.size) := fun e => by have := (HS.out.crow.lt _ e).2; omega
           generalize hxb : wr.heap.size = xb at *
           have hxl3 := hx3.lt
           clear hy3 hx3 hk3 x2 f2 hxl hxb
           go_upto_if 53 with fail
           go_cut [11] (fun u wx => u = .int .i64 (tickOf tk k) ∧ wx = wc)
           case first =>
             by_cases hkt : k < tk.length
             · obtain ⟨tb, toff, rfl, htc⟩ := Hk.out (by omega)
               have t0 := cell_later HS3.out.below (htc k hkt)
               have hlt : tk.getD k 0 < 256 := by
                 rw [List.getD_eq_getElem?_getD, List.getElem?_eq_getElem hkt]
                 exact Hkb.out _ (List.getElem_mem hkt)
               have Het : Hid (tickOf tk k = (tk.getD k 0 : Nat)) := rfl
               clear htc
               generalize tk.getD k 0 = tv at *
               have hlt2 : (tv : Int) ≤ 255 := by omega
               go_wp2_with fail
               go_meet
               exact ⟨by rw [Het.out], rfl⟩
             · have Het : Hid (tickOf tk k = 0) := by
                 show ((tk.getD k 0 : Nat) : Int) = 0
                 rw [List.getD_eq_getElem?_getD, List.getElem?_eq_none (by omega)]
                 rfl
               go_wp2_with fail
               go_meet
               exact ⟨by rw [Het.out], rfl⟩
           case rest =>
             obtain ⟨rfl, rfl⟩ := hcut
             have ht : 0 ≤ tickOf tk k ∧ tickOf tk k ≤ 255 := by
               have : tk.getD k 0 < 256 := by
                 rw [List.getD_eq_getElem?_getD]
                 cases e : tk[k]? with
                 | none => decide
                 | some x => exact Hkb.out x (List.mem_of_getElem? e)
               show 0 ≤ ((tk.getD k 0 : Nat) : Int) ∧ ((tk.getD k 0 : Nat) : Int) ≤ 255
               omega
             have Ht := Lib.hid ht
             clear ht
             generalize tickOf tk k = t at *
             obtain ⟨r, s', n, a1, a2, a3, a4, a5⟩ := HP.out.next h40 Ht.out.1 Ht.out.2 Hgood.out.1
             have T := tab_ok (room := 64) (by decide) (by decide)
             have eT : tabL = A.list := HA.out.1.symm
             have eR : (64 : Nat) = A.room := HA.out.2.1.symm
             have Ktk : Hid (∀ W, ScS W w B A cb wk (.slice pa tabL.length pc) u8 sv cv xs ps out s → Calls Tryz.prog 13 #[P A.K, .int .i64 t] W fun e w' => (∃ v, e = .returned v) ∧ ScS w' w B A cb wk (.slice pa tabL.length pc) u8 sv cv xs ps out (tickS s t) ∧ Fz B W w') := fun W h => by
               refine (tick_sys B A s t W h.sys Ht.out.1 (by have := Ht.out.2; omega)).mono ?_
               rintro e w' ⟨rfl, h1, h2⟩
               exact ⟨⟨_, rfl⟩, h.fz h1 h2, h2⟩
             have hfew := HP.out.ok.few
             have hct0 : 0 ≤ s.m.count := HS3.out.sys.st.count
             obtain ⟨a0, ha0⟩ : ∃ a0 : Int, a0 = s.m.count - 1 := ⟨_, rfl⟩
             have hcw : s.m.count - 1 + (n : Int) - (s.m.count - 1) = n := by omega
             have Kst1 : Hid (∀ W, ScS W w B A cb wk (.slice pa tabL.length pc) u8 sv cv xs ps out (tickS s t) → Calls Tryz.prog 14 #[P A.K] W fun e w' => e = .returned (.int .i64 a0) ∧ W = w') := fun W h => by
               rw [ha0]
               exact steps_any B A (tickS s t).m W h.sys.st (by show s.m.count < _; omega)
             have Kal : Hid (∀ W, ScS W w B A cb wk (.slice pa tabL.length pc) u8 sv cv xs ps out (tickS s t) → ByAt W (.slice ka2 g.key.length kc2) g.key → Calls Tryz.prog 11 #[P A.K, .int .i64 0, .agg #[.int .u8 (g.op : Nat), .int .i64 g.pol, .slice ka2 g.key.length kc2, .int .i64 g.n]] W fun e w' => e = .returned (.tuple #[.agg (replyA r), .bool true]) ∧ ScS w' w B A cb wk (.slice pa tabL.length pc) u8 sv cv xs ps out s' ∧ Fz B W w') := fun W h hb => by
               refine (alone_any B A (tickS s t) (1 + 600 * k) 0 g _ W r s' h.sys (by rw [← eT, ← eR]; exact T) (by rw [← eT, ← eR]; exact HP.out.ok.tick (clampI_tick _).1 (clampI_tick _).2) (by omega) (by decide) (HP.out.none 0 (by decide)) (by rw [← eT]; exact Hgood.out.1) hb (by rw [← eT, ← eR]; exact a1)).mono ?_
               rintro e w' ⟨he, hr⟩
               exact ⟨he, h.fz (hr.sys h.sys (by decide)) hr.fz, hr.fz⟩
             have Kst2 : Hid (∀ W, SysAt W B A s'.m s'.pd → Calls Tryz.prog 14 #[P A.K] W fun e w' => e = .returned (.int .i64 (a0 + n)) ∧ W = w') := fun W h => by
               have := steps_any B A s'.m W h.st (by rw [a2]; omega)
               rw [a2, show s.m.count + (n : Int) - 1 = a0 + n by omega] at this
               exact this
             have hab0 : -1 ≤ a0 := by omega
             have hab1 : a0 ≤ 1000000 := by omega
             have hn512 : (n : Int) ≤ 512 := by omega
             have e96 : a0 + (n : Int) - a0 = n := by omega
             have HA5 := Lib.hid a5
             have Hnp : Hid (∀ j, j < 64 → s'.pd j = Option.none) := a5.none
             have He96 := Lib.hid e96
             clear a1 a2 a4 a5 T eT eR hfew hct0 ha0 hcw e96
             go_upto_region 18 with (first
               | (go_at_call 13; (with_reducible refine (Ktk.out _ HS3.out).mono ?_); rintro e w5 ⟨⟨tv5, rfl⟩, hs5, hf5⟩; have hx5 := Hx3.out.kz hf5 (ok_call _); have q0 := hx5.cell 0; have q1 := hx5.cell 1; have q2 := hx5.cell 2; have q3 := hx5.cell 3; have H5 := Lib.hid (And.intro hs5 (And.intro hx5 (Hk3.out.kz5 hf5))); clear hs5 hf5 hx5)
               | (go_at_call 14; (with_reducible refine (Kst1.out _ H5.out.1).mono ?_); rintro e w6 ⟨rfl, rfl⟩)
               | (go_at_call 11; (with_reducible refine (Kal.out _ H5.out.1 H5.out.2.2.by).mono ?_); rintro e w7 ⟨rfl, hs7, hf7⟩; have H7 := Lib.hid (And.intro hs7 (And.intro (H5.out.2.1.kz hf7 (ok_call _)) (H5.out.2.2.kz5 hf7))); clear hs7 hf7))
             refine wp_name (fun y => ScS y w B A cb wk (.slice pa tabL.length pc) u8 sv cv xs ps out s' ∧ Bx y xb 31 #[.int .u8 (g.op : Nat), .int .i64 g.pol, .slice ka2 g.key.length kc2, .int .i64 g.n] ∧ KeyAt y (.slice ka2 g.key.length kc2) g.key ∧ Bx y w7.heap.size 35 (replyA r)) ⟨H7.out.1.later (below_allocs [_] w7), H7.out.2.1.alloc _, H7.out.2.2.keep (fr0 (below_allocs [_] w7)), Bx.new w7 _ _⟩ ?_
             rintro y4 ⟨hs4, hx4, hk4, hr4⟩
             have r0 := hr4.cell 0; have r1 := hr4.cell 1; have r2 := hr4.cell 2; have r3 := hr4.cell 3; have r4 := hr4.cell 4; have r5 := hr4.cell 5
             generalize w7.heap.size = rb at *
             have H4 := Lib.hid (And.intro hs4 (And.intro hx4 hk4))
             have hyl4 := hs4.below.size
             obtain ⟨i0, hi, hz0, hz1, hz2⟩ := info_parts info_reply
             have hlo : out.length ≤ 40 := by rw [HP.out.lo]; omega
             have hlx : xs.length ≤ 40 := by have := HP.out.lc; rw [List.length_map] at this; omega
             have hlp : ps.length ≤ 20520 := by have := HP.out.lp; omega
             have Hlx := Lib.hid (And.intro hlx hlp)
             clear hs4 hx4 hk4 hr4 q0 q1 q2 q3 hlx hlp
             have HR : Hid (∀ w8 rv', (y4.alloc (.cells #[.int .i64 r.e, .bool r.granted, .int .i64 r.left, .int .i64 r.wait, .int .i64 r.serial, .int .i64 r.now] 35)).grownBy w8 u8.ownBlock → w8.ownsRow w.heap.size 35 6 rv' (out.length + 1) (out.flatMap repE ++ [.int .i64 r.e, .bool r.granted, .int .i64 r.left, .int .i64 r.wait, .int .i64 r.serial, .int .i64 r.now]) → ScS w8 w B A cb wk (.slice pa tabL.length pc) rv' sv cv xs ps (out ++ [r]) s' ∧ Bx w8 xb 31 #[.int .u8 (g.op : Nat), .int .i64 g.pol, .slice ka2 g.key.length kc2, .int .i64 g.n] ∧ KeyAt w8 (.slice ka2 g.key.length kc2) g.key) := fun w8 rv' hg hr => by
               have h := H4.out.1.later (below_allocs [(.cells #[.int .i64 r.e, .bool r.granted, .int .i64 r.left, .int .i64 r.wait, .int .i64 r.serial, .int .i64 r.now] 35)] y4)
               have ho := Only.grown h.rrow hg h.below.size
               exact ⟨h.reply Hnp.out hg hr, ho.bx (H4.out.2.1.alloc _) (by decide), (H4.out.2.2.keep (fr0 (below_allocs [(.cells #[.int .i64 r.e, .bool r.granted, .int .i64 r.left, .int .i64 r.wait, .int .i64 r.serial, .int .i64 r.now] 35)] y4))).only ho (by decide)⟩
             have HR0 : Hid ((y4.alloc (.cells #[.int .i64 r.e, .bool r.granted, .int .i64 r.left, .int .i64 r.wait, .int .i64 r.serial, .int .i64 r.now] 35)).ownsRow w.heap.size 35 6 u8 out.length (out.flatMap repE)) := (H4.out.1.later (below_allocs [(.cells #[.int .i64 r.e, .bool r.granted, .int .i64 r.left, .int .i64 r.wait, .int .i64 r.serial, .int .i64 r.now] 35)] y4)).rrow
             go_upto_region 21 with (at_builtin; refine wpList_append_lies _ rfl _ _ 55 rfl w.heap.size 35 i0 (.agg rep0) 6 48 Tryz.underlying55 hi hz0 hz1 hz2 rfl (by decide) u8 out.length (out.flatMap repE) rfl HR0.out ⟨y4.heap.size, 0, none⟩ 1 1 [.int .i64 r.e, .bool r.granted, .int .i64 r.left, .int .i64 r.wait, .int .i64 r.serial, .int .i64 r.now] rfl rfl (World.news_of_block (heap_alloc_new _ _)) (by intro u hu; simp at hu; rcases hu with rfl | rfl | rfl | rfl | rfl | rfl <;> rfl) (by decide) (by unfold maxLen; omega) (by omega) (by simp; omega) (y4.heap.size + 1) (by simp) ?_; intro g5 cap5 w8 hown8 hgrow8 hat8 hlt8; have H8 := Lib.hid (HR.out _ _ hgrow8 hown8); clear hown8 hgrow8 hat8 hlt8)
             clear r0 r1 r2 r3 r4 r5 hi hz0 hz1 hz2 hlo hyl4
             refine wp_name (fun y => ScS y w B A cb wk (.slice pa tabL.length pc) (.slice (some ⟨g5, 0, none⟩) (out.length + 1) cap5) sv cv xs ps (out ++ [r]) s' ∧ Bx y xb 31 #[.int .u8 (g.op : Nat), .int .i64 g.pol, .slice ka2 g.key.length kc2, .int .i64 g.n] ∧ KeyAt y (.slice ka2 g.key.length kc2) g.key) H8.out ?_
             rintro y5 ⟨hs5, hx5, hk5⟩
             have H5' := Lib.hid (And.intro hs5 (And.intro hx5 hk5))
             have hyl5 := hs5.below.size
             clear hs5 hx5 hk5
             obtain ⟨i1, hi1, hz10, hz11, hz12⟩ := info_parts info_call
             have HSa : Hid (∀ W : World, Below y5.heap.size y5 W → W.cell? ⟨cb, 2, none⟩ = some (.slice (some ⟨wk, 0, none⟩) 1 1) ∧ W.cell? ⟨wk, 0, none⟩ = some cv ∧ W.cell? ⟨xb, 0, none⟩ = some (.int .u8 (g.op : Nat)) ∧ W.cell? ⟨xb, 1, none⟩ = some (.int .i64 g.pol) ∧ W.cell? ⟨xb, 2, none⟩ = some (.slice ka2 g.key.length kc2) ∧ W.cell? ⟨xb, 3, none⟩ = some (.int .i64 g.n)) := fun W hb => by
               have h := H5'.out.1.later hb
               have hx := H5'.out.2.1.below hb H5'.out.2.1.lt
               exact ⟨h.conf.cell 2, h.work.cell 0, hx.cell 0, hx.cell 1, hx.cell 2, hx.cell 3⟩
             have HSb : Hid (∀ (W w5 : World), Below y5.heap.size y5 W → W.grownBy w5 cv.ownBlock → ((w5.cell? ⟨cb, 2, none⟩ = some (.slice (some ⟨wk, 0, none⟩) 1 1) ∧ w5.cell? ⟨wk, 0, none⟩ = some cv ∧ w5.cell? ⟨xb, 0, none⟩ = some (.int .u8 (g.op : Nat)) ∧ w5.cell? ⟨xb, 1, none⟩ = some (.int .i64 g.pol) ∧ w5.cell? ⟨xb, 2, none⟩ = some (.slice ka2 g.key.length kc2) ∧ w5.cell? ⟨xb, 3, none⟩ = some (.int .i64 g.n)) ∧ w5.frozen? ⟨wk, 0, none⟩ = false)) := fun W w5 hb hg => by
               have h := H5'.out.1.later hb
               have hx := H5'.out.2.1.below hb H5'.out.2.1.lt
               have ho := Only.grown h.crow hg h.below.size
               have hx5 : Bx w5 xb 31 #[.int .u8 (g.op : Nat), .int .i64 g.pol, .slice ka2 g.key.length kc2, .int .i64 g.n] := (hg.block _ hx.lt (fun e => Hnx.out e.symm)).trans hx
               exact ⟨⟨(ho.bx h.conf (by decide)).cell 2, (ho.bx h.work (by decide)).cell 0, hx5.cell 0, hx5.cell 1, hx5.cell 2, hx5.cell 3⟩, (ho.bx h.work (by decide)).free 0⟩
             have HRow : Hid (∀ W, Below y5.heap.size y5 W → W.ownsRow w.heap.size 31 4 cv xs.length (xs.flatMap CK.enc) ∧ w.heap.size ≤ W.heap.size) := fun W hb => ⟨(H5'.out.1.later hb).crow, (H5'.out.1.later hb).below.size⟩
             have Hfin : Hid (∀ (W w5 : World) (v' : Value), Below y5.heap.size y5 W → W.grownBy w5 cv.ownBlock → w5.ownsRow w.heap.size 31 4 v' (xs.length + 1) (xs.flatMap CK.enc ++ [.int .u8 (g.op : Nat), .int .i64 g.pol, .slice ka2 g.key.length kc2, .int .i64 g.n]) → ScS (w5.setCell ⟨wk, 0, none⟩ v') w B A cb wk (.slice pa tabL.length pc) (.slice (some ⟨g5, 0, none⟩) (out.length + 1) cap5) sv v' (xs ++ [⟨g, .slice ka2 g.key.length kc2⟩]) ps (out ++ [r]) s') := fun W w5 v' hb hg hr => (H5'.out.1.later hb).call Hnp.out hg hr (H5'.out.2.2.keep (fr0 hb))
             have hcl : cb < y5.heap.size := H5'.out.1.conf.lt
             have hwl : wk < y5.heap.size := H5'.out.1.work.lt
             have hxl5 : xb < y5.heap.size := H5'.out.2.1.lt
             refine wp_region_split 9 (S := fun W => W.cell? ⟨cb, 2, none⟩ = some (.slice (some ⟨wk, 0, none⟩) 1 1) ∧ W.cell? ⟨wk, 0, none⟩ = some cv ∧ W.cell? ⟨xb, 0, none⟩ = some (.int .u8 (g.op : Nat)) ∧ W.cell? ⟨xb, 1, none⟩ = some (.int .i64 g.pol) ∧ W.cell? ⟨xb, 2, none⟩ = some (.slice ka2 g.key.length kc2) ∧ W.cell? ⟨xb, 3, none⟩ = some (.int .i64 g.n)) (by kernel_rfl) (by kernel_rfl) ?_ (fun hHeld => ?_)
             · refine HSa.out _ ?_; (repeat (first | (with_reducible first | exact RowKit.Below.refl _ _ | assumption | refine RowKit.Below.drew ?_) | ((with_reducible refine belAlloc ?_ ?_); (first | simp <;> omega | omega))))
             simp only [List.take_succ_cons, List.take_zero, List.drop_succ_cons, List.drop_zero, List.length_cons, List.length_nil, Nat.zero_add, Nat.reduceAdd]
             refine heldTake (i := 0) (v := ?_) rfl (by kernel_rfl) (by kernel_rfl) (by kernel_rfl) (by rfl) ?_ (by assumption) ?_
             rotate_left
             · (intro W hSw; (try dsimp only at hSw); go_simp; (try with_reducible rfl))
             (try simp only [Act.put, List.setIfInBounds_toArray, List.set_cons_zero, List.set_cons_succ])
             refine heldTake (i := 1) (v := ?_) rfl (by kernel_rfl) (by kernel_rfl) (by kernel_rfl) (by rfl) ?_ (by assumption) ?_
             rotate_left
             · (intro W hSw; (try dsimp only at hSw); go_simp; (try with_reducible rfl))
             (try simp only [Act.put, List.setIfInBounds_toArray, List.set_cons_zero, List.set_cons_succ])
             refine heldTake (i := 2) (v := ?_) rfl (by kernel_rfl) (by kernel_rfl) (by kernel_rfl) (by rfl) ?_ (by assumption) ?_
             rotate_left
             · (intro W hSw; (try dsimp only at hSw); go_simp; (try with_reducible rfl))
             (try simp only [Act.put, List.setIfInBounds_toArray, List.set_cons_zero, List.set_cons_succ])
             refine heldTake (i := 3) (v := ?_) rfl (by kernel_rfl) (by kernel_rfl) (by kernel_rfl) (by rfl) ?_ (by assumption) ?_
             rotate_left
             · (intro W hSw; (try dsimp only at hSw); go_simp; (try with_reducible rfl))
             (try simp only [Act.put, List.setIfInBounds_toArray, List.set_cons_zero, List.set_cons_succ])
             refine heldTake (i := 4) (v := ?_) rfl (by kernel_rfl) (by kernel_rfl) (by kernel_rfl) (by rfl) ?_ (by assumption) ?_
             rotate_left
             · (intro W hSw; (try dsimp only at hSw); go_simp; (try with_reducible rfl))
             (try simp only [Act.put, List.setIfInBounds_toArray, List.set_cons_zero, List.set_cons_succ])
             refine heldTake (i := 5) (v := ?_) rfl (by kernel_rfl) (by kernel_rfl) (by kernel_rfl) (by rfl) ?_ (by assumption) ?_
             rotate_left
             · (intro W hSw; (try dsimp only at hSw); go_simp; (try with_reducible rfl))
             (try simp only [Act.put, List.setIfInBounds_toArray, List.set_cons_zero, List.set_cons_succ])
             refine heldTake (i := 6) (v := ?_) rfl (by kernel_rfl) (by kernel_rfl) (by kernel_rfl) (by rfl) ?_ (by assumption) ?_
             rotate_left
             · (intro W hSw; (try dsimp only at hSw); go_simp; (try with_reducible rfl))
             (try simp only [Act.put, List.setIfInBounds_toArray, List.set_cons_zero, List.set_cons_succ])
             refine heldStep (i := 7) rfl (by kernel_rfl) (fun K hK => ?_)
             go_simp
             refine hK.out _ _ ?_ (fun hHeld => ?_)
             · (try dsimp only); refine HSa.out _ ?_; (repeat (first | (with_reducible first | exact RowKit.Below.refl _ _ | assumption | refine RowKit.Below.drew ?_) | ((with_reducible refine belAlloc ?_ ?_); (first | simp <;> omega | omega))))
             clear hK K
             (try simp only [Act.put, List.setIfInBounds_toArray, List.set_cons_zero, List.set_cons_succ])
             refine heldStep (i := 8) rfl (by kernel_rfl) (fun K hK => ?_)
             refine step_append_lies _ (by rfl) _ _ _ (by rfl) w.heap.size 31 i1 (.agg #[.int .u8 0, .int .i64 0, .slice none 0 0, .int .i64 0]) 4 48 Tryz.underlying50 hi1 hz10 hz11 hz12 rfl (by decide) cv xs.length (xs.flatMap CK.enc) (by rfl) (HRow.out ((y5.alloc (.cells #[.int .u8 (g.op : Nat), .int .i64 g.pol, .slice ka2 g.key.length kc2, .int .i64 g.n] 31)).drew) (by (repeat (first | (with_reducible first | exact RowKit.Below.refl _ _ | assumption | refine RowKit.Below.drew ?_) | ((with_reducible refine belAlloc ?_ ?_); (first | simp <;> omega | omega)))))).1 ⟨y5.heap.size, 0, none⟩ 1 1 [.int .u8 (g.op : Nat), .int .i64 g.pol, .slice ka2 g.key.length kc2, .int .i64 g.n] (by rfl) rfl (World.news_of_block (w := ((y5.alloc (.cells #[.int .u8 (g.op : Nat), .int .i64 g.pol, .slice ka2 g.key.length kc2, .int .i64 g.n] 31)).drew)) (heap_alloc_new y5 _)) (by intro u hu; simp at hu; rcases hu with rfl | rfl | rfl | rfl <;> rfl) (by decide) (by have := Hlx.out.1; unfold maxLen; omega) (by have := Hlx.out.1; omega) (HRow.out ((y5.alloc (.cells #[.int .u8 (g.op : Nat), .int .i64 g.pol, .slice ka2 g.key.length kc2, .int .i64 g.n] 31)).drew) (by (repeat (first | (with_reducible first | exact RowKit.Below.refl _ _ | assumption | refine RowKit.Below.drew ?_) | ((with_reducible refine belAlloc ?_ ?_); (first | simp <;> omega | omega)))))).2 _ rfl ?_
             intro g6 cap6 w9 hown9 hgrow9 hat9 hlt9
             have hbW := below_of (y := y5) hgrow9 (by (repeat (first | (with_reducible first | exact RowKit.Below.refl _ _ | assumption | refine RowKit.Below.drew ?_) | ((with_reducible refine belAlloc ?_ ?_); (first | simp <;> omega | omega)))))
             obtain ⟨hsk, hfz9⟩ := HSb.out _ _ hbW hgrow9
             have H9 := Lib.hid (Hfin.out _ _ _ hbW hgrow9 hown9)
             clear hown9 hgrow9 hbW hat9 hlt9
             refine hK.out _ _ ?_ (fun hHeld => ?_)
             · (try dsimp only); with_reducible exact hsk
             clear hK K
             (try simp only [Act.put, List.setIfInBounds_toArray, List.set_cons_zero, List.set_cons_succ])
             refine heldDone (by kernel_rfl) ?_
             simp only [List.cons_append, List.nil_append]
             go_upto_region 22 with fail
             refine wp_name (fun y => ScS y w B A cb wk (.slice pa tabL.length pc) (.slice (some ⟨g5, 0, none⟩) (out.length + 1) cap5) sv (.slice (some ⟨g6, 0, none⟩) (xs.length + 1) cap6) (xs ++ [⟨g, .slice ka2 g.key.length kc2⟩]) ps (out ++ [r]) s') H9.out ?_
             intro y6 hs6
             have H6 := Lib.hid hs6
             have k3 := hs6.conf.cell 3
             have k3f := hs6.conf.free 3
             have hyl6 := hs6.below.size
             have hcl6 := hs6.conf.lt
             clear hs6 hsk hfz9 hHeld hcl hwl hxl5 hyl5 hi1 hz10 hz11 hz12
             obtain ⟨i2, hi2, hz20, hz21, hz22⟩ := info_parts info_pick
             have HP0 : Hid ((y6.alloc (.cells #[.int .i64 (-1), .int .i64 t] 60)).ownsRow w.heap.size 60 2 sv ps.length (ps.flatMap pkE)) := (H6.out.later (below_allocs [(.cells #[.int .i64 (-1), .int .i64 t] 60)] y6)).srow
             have HPk : Hid (∀ w5 sv', (y6.alloc (.cells #[.int .i64 (-1), .int .i64 t] 60)).grownBy w5 sv.ownBlock → w5.ownsRow w.heap.size 60 2 sv' (ps.length + 1) (ps.flatMap pkE ++ [.int .i64 (-1), .int .i64 t]) → (w5.cell? ⟨cb, 3, none⟩ = some sv ∧ w5.frozen? ⟨cb, 3, none⟩ = false) ∧ ScS (w5.setCell ⟨cb, 3, none⟩ sv') w B A cb wk (.slice pa tabL.length pc) (.slice (some ⟨g5, 0, none⟩) (out.length + 1) cap5) sv' (.slice (some ⟨g6, 0, none⟩) (xs.length + 1) cap6) (xs ++ [⟨g, .slice ka2 g.key.length kc2⟩]) (ps ++ [⟨-1, t⟩]) (out ++ [r]) s') := fun w5 sv' hg hr => by
               have h := H6.out.later (below_allocs [(.cells #[.int .i64 (-1), .int .i64 t] 60)] y6)
               have ho := Only.grown h.srow hg h.below.size
               have hc := ho.bx h.conf (by decide)
               exact ⟨⟨hc.cell 3, hc.free 3⟩, h.pick Hnp.out (p := ⟨-1, t⟩) hg hr⟩
             have hlp2 : ps.length ≤ 20520 := Hlx.out.2
             go_upto_region 23 with (at_builtin; refine wpList_append_lies _ rfl _ _ 52 rfl w.heap.size 60 i2 (.agg #[.int .i64 0, .int .i64 0]) 2 16 Tryz.underlying52 hi2 hz20 hz21 hz22 rfl (by decide) sv ps.length (ps.flatMap pkE) rfl HP0.out ⟨y6.heap.size, 0, none⟩ 1 1 [.int .i64 (-1), .int .i64 t] rfl rfl (World.news_of_block (heap_alloc_new _ _)) (by intro u hu; simp at hu; rcases hu with rfl | rfl <;> rfl) (by decide) (by unfold maxLen; omega) (by omega) (by simp; omega) (y6.heap.size + 1) (by simp) ?_; intro g7 cap7 w10 hown10 hgrow10 hat10 hlt10; obtain ⟨⟨m1, m2⟩, m3⟩ := HPk.out _ _ hgrow10 hown10; have H10 := Lib.hid m3; clear hown10 hgrow10 hat10 hlt10 m3)
             refine wp_name (fun y => ScS y w B A cb wk (.slice pa tabL.length pc) (.slice (some ⟨g5, 0, none⟩) (out.length + 1) cap5) (.slice (some ⟨g7, 0, none⟩) (ps.length + 1) cap7) (.slice (some ⟨g6, 0, none⟩) (xs.length + 1) cap6) (xs ++ [⟨g, .slice ka2 g.key.length kc2⟩]) (ps ++ [⟨-1, t⟩]) (out ++ [r]) s') H10.out ?_
             intro y7 hs7
             have H7' := Lib.hid hs7
             clear hs7 k3 k3f m1 m2 hyl6 hcl6
             have e96 := He96.out
             go_wp2_with (go_at_call 14; (with_reducible refine (Kst2.out _ H7'.out.sys).mono ?_); rintro e w11 ⟨rfl, rfl⟩)
             clear e96
             go_loopw [97] (fun jv wi => ∃ (q : Nat) (sv' : Value), jv = .int .i64 q ∧ q ≤ n ∧ ScS wi w B A cb wk (.slice pa tabL.length pc) (.slice (some ⟨g5, 0, none⟩) (out.length + 1) cap5) sv' (.slice (some ⟨g6, 0, none⟩) (xs.length + 1) cap6) (xs ++ [⟨g, .slice ka2 g.key.length kc2⟩]) (pkJ ps t q) (out ++ [r]) s') (fun jv _ => n - (intOf jv).toNat)
             case atStart => exact ⟨0, _, rfl, Nat.zero_le _, H7'.out⟩
             case round =>
               obtain ⟨q, sv', rfl, hq, hsq⟩ := hrel
               have HQ := Lib.hid hsq
               clear hsq
               by_cases hqn : q < n
               · have k3 := HQ.out.conf.cell 3
                 have k3f := HQ.out.conf.free 3
                 have hylq := HQ.out.below.size
                 have hclq := HQ.out.conf.lt
                 have hplen : (pkJ ps t q).length ≤ 30000 := by rw [pkJ_len]; omega
                 have HP0 : Hid ((wr.alloc (.cells #[.int .i64 0, .int .i64 0] 60)).ownsRow w.heap.size 60 2 sv' (pkJ ps t q).length ((pkJ ps t q).flatMap pkE)) := (HQ.out.later (below_allocs [(.cells #[.int .i64 0, .int .i64 0] 60)] wr)).srow
                 have HPk : Hid (∀ w5 sv2, (wr.alloc (.cells #[.int .i64 0, .int .i64 0] 60)).grownBy w5 sv'.ownBlock → w5.ownsRow w.heap.size 60 2 sv2 ((pkJ ps t q).length + 1) ((pkJ ps t q).flatMap pkE ++ [.int .i64 0, .int .i64 0]) → (w5.cell? ⟨cb, 3, none⟩ = some sv' ∧ w5.frozen? ⟨cb, 3, none⟩ = false) ∧ ScS (w5.setCell ⟨cb, 3, none⟩ sv2) w B A cb wk (.slice pa tabL.length pc) (.slice (some ⟨g5, 0, none⟩) (out.length + 1) cap5) sv2 (.slice (some ⟨g6, 0, none⟩) (xs.length + 1) cap6) (xs ++ [⟨g, .slice ka2 g.key.length kc2⟩]) (pkJ ps t (q + 1)) (out ++ [r]) s') := fun w5 sv2 hg hr => by
                   have h := HQ.out.later (below_allocs [(.cells #[.int .i64 0, .int .i64 0] 60)] wr)
                   have ho := Only.grown h.srow hg h.below.size
                   have hc := ho.bx h.conf (by decide)
                   refine ⟨⟨hc.cell 3, hc.free 3⟩, ?_⟩
                   rw [pkJ_succ]
                   exact h.pick Hnp.out (p := ⟨0, 0⟩) hg hr
                 have Hplen := Lib.hid hplen
                 clear hplen
                 generalize hpl : (pkJ ps t q).length = pl at *
                 generalize (pkJ ps t q).flatMap pkE = pe at *
                 have hpl2 : pl ≤ 30000 := Hplen.out
                 clear hpl
                 go_wp2_with (at_builtin; refine wpList_append_lies _ rfl _ _ 52 rfl w.heap.size 60 i2 (.agg #[.int .i64 0, .int .i64 0]) 2 16 Tryz.underlying52 hi2 hz20 hz21 hz22 rfl (by decide) sv' pl pe rfl HP0.out ⟨wr.heap.size, 0, none⟩ 1 1 [.int .i64 0, .int .i64 0] rfl rfl (World.news_of_block (heap_alloc_new _ _)) (by intro u hu; simp at hu; rcases hu with rfl | rfl <;> rfl) (by decide) (by unfold maxLen; omega) (by omega) (by simp; omega) (wr.heap.size + 1) (by simp) ?_; intro g8 cap8 w12 hown12 hgrow12 hat12 hlt12; obtain ⟨⟨m1, m2⟩, m3⟩ := HPk.out _ _ hgrow12 hown12; have H12 := Lib.hid m3; clear hown12 hgrow12 hat12 hlt12 m3)
                 go_roundw
                 case rel => exact ⟨q + 1, _, by go_num, by omega, H12.out⟩
                 case measure => simp [intOf]; omega
               · obtain rfl : q = n := by omega
                 have HPn : Hid (ScP (k + 1) ((xs ++ [(⟨g, .slice ka2 g.key.length kc2⟩ : CK)]).map CK.c) (pkJ ps t q) (out ++ [r]) s') := by
                   have := HA5.out
                   rw [xs_snoc]
                   exact this
                 go_wp2_with fail
                 go_roundw
                 case rel => exact ⟨k + 1, _, _, _, _, _, _, by go_num, by omega, by omega, HQ.out, HPn.out⟩
                 case measure => simp [intOf]; omega
       · have hd : ¬ (k : Int) < 40 := by omega
         have hd2 : (40 : Int) ≤ (k : Int) := by omega
         have HF : Hid (∀ W, Below wr.heap.size wr W → ∃ k xs ps out s sv cv, ScS W w B A cb wk (.slice pa tabL.length pc) u8 sv cv xs ps out s ∧ ScP k (xs.map CK.c) ps out s ∧ k ≤ 40) := fun W hb => ⟨k, xs, ps, out, s, sv, cv, HS.out.later hb, HP.out, hk40⟩
         go_wp2_with fail
         go_meet
         exact HF.out _ (below_allocs [_] wr)
     · obtain rfl : k = L.length := by omega
       have HF : Hid (∃ k xs ps out s sv cv, ScS wr w B A cb wk (.slice pa tabL.length pc) u8 sv cv xs ps out s ∧ ScP k (xs.map CK.c) ps out s ∧ k ≤ 40) := ⟨_, xs, ps, out, s, sv, cv, HS.out, HP.out, hk40⟩
       go_wp2_with fail
       go_meet
       exact HF.out
 case rest =>
   obtain ⟨k, xs, ps, out, s, sv, cv, hS, hP, hk⟩ := hcut
   have HS := Lib.hid hS; have HP := Lib.hid hP
   have hlo : out.length ≤ 40 := by rw [hP.lo]; exact hk
   have Kr : Hid (Calls Tryz.prog 15 #[.agg #[(.slice pa tabL.length pc), .int .i64 64, .slice (some ⟨wk, 0, none⟩) 1 1, sv, .bool false]] wc (RunPost wc s out)) := by
     have hlc := hP.lc
     have hlp := hP.lp
     refine simrun_any (.slice pa tabL.length pc) _ sv (xs.map CK.c) ps wc hS.pols hS.calls hS.picks hP.good (by omega) (by omega) hP.picks s out ?_ (hP.none 0 (by decide))
     have := hP.brings []
     rwa [List.append_nil] at this
   have c0 := hS.conf.cell 0; have c1 := hS.conf.cell 1; have c2 := hS.conf.cell 2; have c3 := hS.conf.cell 3; have c4 := hS.conf.cell 4
   obtain ⟨rva, rvc, hrv⟩ := row_slice hS.rrow
   subst hrv
   clear hS hP
   go_upto_region 29 with (go_at_call 15; (with_reducible refine Kr.out.mono ?_); rintro e w5 ⟨rcv, dn, ev, LC, rfl, hc5, hm5, hr5, hd5, hb5⟩; obtain ⟨ra, rc, rfl⟩ := row_slice hr5; obtain ⟨ea, en, ec, rfl⟩ := hc5.slice; have H5 := Lib.hid (And.intro hc5 (And.intro hm5 (And.intro hr5 (And.intro hd5 hb5)))); clear hc5 hm5 hr5 hd5 hb5)
   refine wp_name (fun y => ScS y w B A cb wk (.slice pa tabL.length pc) (.slice rva out.length rvc) sv cv xs ps out s ∧ Bx y w5.heap.size 63 #[.slice ra out.length rc, .slice ea en ec, .int .i64 s.m.clock, .int .i64 (s.m.count - 1), .int .i64 (s.m.word 32 : Nat), .int .i64 0] ∧ CellsAt y (.slice ea en ec) LC ∧ y.ownsRow wc.heap.size 68 13 (.slice ra out.length rc) out.length dn) ⟨(HS.out.later H5.out.2.2.2.2).later (below_allocs [_] w5), Bx.new w5 _ _, H5.out.1.keep (fr0 (below_allocs [_] w5)), ownsRow_below H5.out.2.2.1 (below_allocs [_] w5)⟩ ?_
   rintro y8 ⟨hs8, hr8, hc8, hw8⟩
   generalize w5.heap.size = rb at *
   have H8 := Lib.hid (And.intro hs8 (And.intro hr8 (And.intro hc8 hw8)))
   have hrl := hr8.lt
   have hfew := HP.out.ok.few
   have hct0 : 0 ≤ s.m.count := hs8.sys.st.count
   have hroom := HP.out.ok.inv.cnt2
   have hcnt := HP.out.ok.inv.cnt
   have HSa : Hid (∀ W : World, Below y8.heap.size y8 W → W.cell? ⟨rb, 0, none⟩ = some (.slice ra out.length rc) ∧ W.cell? ⟨rb, 1, none⟩ = some (.slice ea en ec) ∧ W.cell? ⟨rb, 3, none⟩ = some (.int .i64 (s.m.count - 1)) ∧ W.cell? ⟨rb, 4, none⟩ = some (.int .i64 (s.m.word 32 : Nat)) ∧ W.cell? ⟨rb, 5, none⟩ = some (.int .i64 0)) := fun W hb => by
     have hx := H8.out.2.1.below hb H8.out.2.1.lt
     exact ⟨hx.cell 0, hx.cell 1, hx.cell 3, hx.cell 4, hx.cell 5⟩
   have Kst : Hid (∀ W, Below y8.heap.size y8 W → Calls Tryz.prog 14 #[P A.K] W fun e w' => e = .returned (.int .i64 (s.m.count - 1)) ∧ W = w') := fun W hb => steps_any B A _ W (H8.out.1.later hb).sys.st (by omega)
   have Kct : Hid (∀ W, Below y8.heap.size y8 W → Calls Tryz.prog 16 #[P A.K] W fun e w' => e = .returned (.int .i64 (s.m.word 32 : Nat)) ∧ ∃ q, w' = W.drewN q) := fun W hb => count_any B A _ W (H8.out.1.later hb).sys.st (by omega)
   have Kce : Hid (∀ W, Below y8.heap.size y8 W → Calls Tryz.prog 9 #[P A.K] W fun e w' => ∃ v, e = .returned v ∧ CellsAt w' v LC ∧ Below W.heap.size W w') := fun W hb => by
     refine (cells_any B A s.m W (H8.out.1.later hb).sys.st HP.out.ok.inv.dir HP.out.ok.inv.lies (by omega)).mono ?_
     rintro e w' ⟨v', L', rfl, h1, h2, h3⟩
     have e : L' = LC := sorted_eq h1.wf.order H5.out.1.wf.order fun c => (h2 c).trans (H5.out.2.1 c).symm
     rw [← e]
     exact ⟨v', rfl, h1, h3⟩
   have Ksm : Hid (∀ W v', Below y8.heap.size y8 W → CellsAt W v' LC → Calls Tryz.prog 12 #[.slice ea en ec, v'] W fun e w' => e = .returned (.bool true) ∧ Below W.heap.size W w') := fun W v' hb hc => same16_any _ v' LC W (H8.out.2.2.1.keep (fr0 hb)) hc
   have hcw : (0 : Int) ≤ s.m.count - 1 ∨ s.m.count = 0 := by omega
   clear hs8 hr8 hc8 hw8 hfew hroom hcnt c0 c1 c2 c3 c4 hcw
   generalize s.m.count - 1 = ct at *
   generalize s.m.word 32 = wd at *
   go_region_held3 (fun W => W.cell? ⟨rb, 0, none⟩ = some (.slice ra out.length rc) ∧ W.cell? ⟨rb, 1, none⟩ = some (.slice ea en ec) ∧ W.cell? ⟨rb, 3, none⟩ = some (.int .i64 ct) ∧ W.cell? ⟨rb, 4, none⟩ = some (.int .i64 wd) ∧ W.cell? ⟨rb, 5, none⟩ = some (.int .i64 0)) (first | (refine HSa.out _ ?_; (repeat (first | (with_reducible first | exact RowKit.Below.refl _ _ | assumption | refine RowKit.Below.drew ?_ | refine belDrewN ?_) | ((with_reducible refine belAlloc ?_ ?_); (first | simp <;> omega | omega)))); done)) (first
     | (go_at_call 14; (with_reducible refine (Kst.out _ (by (repeat (first | (with_reducible first | exact RowKit.Below.refl _ _ | assumption | refine RowKit.Below.drew ?_ | refine belDrewN ?_) | ((with_reducible refine belAlloc ?_ ?_); (first | simp <;> omega | omega)))))).mono ?_); rintro e w6 ⟨rfl, rfl⟩)
     | (go_at_call 16; (with_reducible refine (Kct.out _ (by (repeat (first | (with_reducible first | exact RowKit.Below.refl _ _ | assumption | refine RowKit.Below.drew ?_ | refine belDrewN ?_) | ((with_reducible refine belAlloc ?_ ?_); (first | simp <;> omega | omega)))))).mono ?_); rintro e w7 ⟨rfl, q, rfl⟩)
     | (go_at_call 9; (with_reducible refine (Kce.out _ (by (repeat (first | (with_reducible first | exact RowKit.Below.refl _ _ | assumption | refine RowKit.Below.drew ?_ | refine belDrewN ?_) | ((with_reducible refine belAlloc ?_ ?_); (first | simp <;> omega | omega)))))).mono ?_); rintro e w9 ⟨v9, rfl, hc9, hb9⟩; obtain ⟨fa, fn, fc, rfl⟩ := hc9.slice; have hz9 := below_then (w := y8) (by (repeat (first | (with_reducible first | exact RowKit.Below.refl _ _ | assumption | refine RowKit.Below.drew ?_ | refine belDrewN ?_) | ((with_reducible refine belAlloc ?_ ?_); (first | simp <;> omega | omega))))) hb9; have Hc9 := Lib.hid hc9; clear hc9 hb9)
     | (go_at_call 12; (with_reducible refine (Ksm.out _ _ (by (repeat (first | (with_reducible first | exact RowKit.Below.refl _ _ | assumption | refine RowKit.Below.drew ?_ | refine belDrewN ?_) | ((with_reducible refine belAlloc ?_ ?_); (first | simp <;> omega | omega))))) Hc9.out).mono ?_); rintro e w10 ⟨rfl, hb10⟩; have hz10 := below_then hz9 hb10; clear hb10))
   go_upto_region 31 with fail
   refine wp_name (fun y => Below y8.heap.size y8 y) (by (repeat (first | (with_reducible first | exact RowKit.Below.refl _ _ | assumption | refine RowKit.Below.drew ?_ | refine belDrewN ?_) | ((with_reducible refine belAlloc ?_ ?_); (first | simp <;> omega | omega))))) ?_
   intro y9 hb9
   have HB9 := Lib.hid hb9
   have k0 := (HSa.out y9 hb9).1
   have EN := neq_self
   clear hb9
   go_wp2_with fail
   go_loopw [152] (fun iv wi => ∃ q : Nat, iv = .int .i64 q ∧ q ≤ out.length ∧ Below y8.heap.size y8 wi) (fun iv _ => out.length - (intOf iv).toNat)
   case atStart => exact ⟨0, rfl, Nat.zero_le _, HB9.out⟩
   case round =>
     obtain ⟨q, rfl, hq, hbq⟩ := hrel
     have HBq := Lib.hid hbq
     by_cases hqn : q < out.length
     · obtain ⟨r, hr⟩ : ∃ r, out[q]? = some r := ⟨_, List.getElem?_eq_getElem hqn⟩
       obtain ⟨g1, cap1, e1, hg1, hc1, hc2, hcell1⟩ := own_cell (ownsRow_below H8.out.2.2.2 hbq) (by omega)
       obtain ⟨g2, cap2, e2, hg2, hd1, hd2, hcell2⟩ := own_cell (H8.out.1.later hbq).rrow (by omega)
       injection e1 with e1 e3 e4
       injection e2 with e2 e5 e6
       subst e1 e2 e4 e6
       have hlen : dn.length = out.length * 13 := H8.out.2.2.2.1
       obtain ⟨y0, y1, y2, y3, y4, y5, y6, y7, y8, hD⟩ := H5.out.2.2.2.1.2 q hqn
       have hRp := H5.out.2.2.2.1.1 q r hr
       have z0 := hcell1 _ _ (hD 0 _ rfl); have z1 := hcell1 _ _ (hD 1 _ rfl); have z2 := hcell1 _ _ (hD 2 _ rfl); have z3 := hcell1 _ _ (hD 3 _ rfl); have z4 := hcell1 _ _ (hD 4 _ rfl); have z5 := hcell1 _ _ (hD 5 _ rfl); have z6 := hcell1 _ _ (hD 6 _ rfl)
       have z7 := hcell1 _ _ (hRp 0 _ rfl); have z8 := hcell1 _ _ (hRp 1 _ rfl); have z9 := hcell1 _ _ (hRp 2 _ rfl); have z10 := hcell1 _ _ (hRp 3 _ rfl); have z11 := hcell1 _ _ (hRp 4 _ rfl); have z12 := hcell1 _ _ (hRp 5 _ rfl)
       simp only [Nat.add_zero, Nat.add_assoc, Nat.reduceAdd] at z0 z1 z2 z3 z4 z5 z6 z7 z8 z9 z10 z11 z12
       have hfl := fun j hj => flat_get (f := repE) (k := 6) (fun _ => rfl) out q j r hr hj
       have v0 := hcell2 _ _ (hfl 0 (by decide)); have v1 := hcell2 _ _ (hfl 1 (by decide)); have v2 := hcell2 _ _ (hfl 2 (by decide)); have v3 := hcell2 _ _ (hfl 3 (by decide)); have v4 := hcell2 _ _ (hfl 4 (by decide)); have v5 := hcell2 _ _ (hfl 5 (by decide))
       simp only [Nat.add_zero] at v0
       clear hcell1 hcell2 hD hRp hfl hr hlen hbq e3 e5
       go_upto_region 34 with fail
       refine wp_name (fun y => Below wr.heap.size wr y ∧ Bx y wr.heap.size 68 #[.int .i64 y0, .int .u8 y1, .int .i64 y2, .slice y3 y4 y5, .int .i64 y6, .int .i64 y7, .int .i64 y8, .int .i64 r.e, .bool r.granted, .int .i64 r.left, .int .i64 r.wait, .int .i64 r.serial, .int .i64 r.now]) ⟨below_allocs [_] wr, Bx.new wr _ _⟩ ?_
       rintro yd ⟨hyd, hxd⟩
       have s7 := hxd.cell 7; have s8 := hxd.cell 8; have s9 := hxd.cell 9; have s10 := hxd.cell 10; have s11 := hxd.cell 11; have s12 := hxd.cell 12
       have u0 := cell_later hyd v0; have u1 := cell_later hyd v1; have u2 := cell_later hyd v2; have u3 := cell_later hyd v3; have u4 := cell_later hyd v4; have u5 := cell_later hyd v5
       have hI1 : (0 : Int) ≤ (q : Int) := by omega
       have hI2 : (q : Int) < (out.length : Int) := by omega
       have En := EN r
       have Hyd := Lib.hid (below_then HBq.out hyd)
       clear hyd hxd v0 v1 v2 v3 v4 v5 z0 z1 z2 z3 z4 z5 z6 z7 z8 z9 z10 z11 z12 EN
       go_quiet (fail)
       go_wp2_with fail
       go_roundw
       case rel => exact ⟨q + 1, by go_num, by omega, below_drewN Hyd.out _⟩
       case measure => simp [intOf]; omega
     · obtain rfl : q = out.length := by omega
       go_wp2_with fail
       exact bodyPost_ret (v := .bool true) (by simp [results, Tryz.results4, go_sem]) rfl ⟨rfl, below_then H8.out.1.below HBq.out⟩
end Go.Proofs.YtemnhpdjoimjbaaGreat
