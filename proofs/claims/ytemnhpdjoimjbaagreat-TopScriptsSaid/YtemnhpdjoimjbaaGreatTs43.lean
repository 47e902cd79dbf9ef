import Derived.Test.YtemnhpdjoimjbaaGreatTs42
namespace Go.Proofs.YtemnhpdjoimjbaaGreat
section
open Go.RowKit Top
set_option linter.unusedVariables false
structure AlAt (w : World) (B : Nat) (A : Adr) (s : Top.Sys) (who : Nat) (n c : Nat) (r : Reply) (s' : Top.Sys) (sk : Top.Sys) (wr : World) : Prop where
 run : RunRes w B A s who sk wr
 ok : SysOk A.list A.room sk (n + (512 - c))
 on : (sk.pd who).isSome = true
 al : aloneS A.list A.room BlV who c sk = some (r, s')
theorem alone_pos {list : List Pol} {room : Nat} {B : Top.Below} {who c : Nat} {s : Top.Sys} {o : Reply × Top.Sys} (h : aloneS list room B who c s = some o) : 0 < c := by
 cases c with
 | zero => cases h
 | succ c => omega
theorem alone_off {list : List Pol} {room : Nat} {B : Top.Below} {who : Nat} : ∀ {c : Nat} {s : Top.Sys}, s.pd who = none → aloneS list room B who c s = none
 | 0, _, _ => rfl
 | c + 1, s, h => by
   have e : stepS list room B s who = (s, false, err 0) := by unfold stepS; rw [h]
   unfold aloneS
   rw [e]
   exact alone_off (c := c) h
set_option maxHeartbeats 2000000 in
set_option maxRecDepth 100000 in
theorem alone_any (B : Nat) (A : Adr) (s : Top.Sys) (n who : Nat) (c : Top.Call) (kv : Value) (w : World) (r : Reply) (s' : Top.Sys) (hs : SysAt w B A s.m s.pd) (T : TabOk A.list A.room) (hok : SysOk A.list A.room s n) (hn : n + 600 < 4611686018427387900) (hw : who < 64) (hp : s.pd who = none) (hc : CallGood A.list c) (hk : ByAt w kv c.key) (hal : aloneS A.list A.room BlV who 512 (startS s who c) = some (r, s')) :
   Calls Tryz.prog 11 #[P A.K, .int .i64 who, .agg #[.int .u8 (c.op : Nat), .int .i64 c.pol, kv, .int .i64 c.n]] w fun e w' => e = .returned (.tuple #[.agg (replyA r), .bool true]) ∧ RunRes w B A s who s' w' := by
 obtain ⟨ka, kc, rfl⟩ : ∃ a c', kv = .slice a c.key.length c' := by obtain ⟨_, a, c', e, _⟩ := hk; exact ⟨a, c', e⟩
 have HS := Lib.hid hs
 have Ks : Hid (∀ W, Below w.heap.size w W → Calls Tryz.prog 22 #[P A.K, .int .i64 who, .agg #[.int .u8 (c.op : Nat), .int .i64 c.pol, .slice ka c.key.length kc, .int .i64 c.n]] W fun e w' => e = .returned (.int .i64 0) ∧ Fz B W w' ∧ AlAt w B A s who n 512 r s' (startS s who c) w') := fun W hb => by
   refine (start_any B A s.m s.pd who c _ W (hs.keep hb) T hp hw hc (hk.below hb)).mono ?_
   rintro e w' ⟨rfl, h1, h2, h3⟩
   have hok' : SysOk A.list A.room (startS s who c) (n + (512 - 512)) := hok.start hw hc.in_
   refine ⟨rfl, ⟨_, h2⟩, RunRes.pre hb hs (RunRes.start hp hw h1 (hs.keep hb) h2 h3), hok', ?_, hal⟩
   show ((startS s who c).pd who).isSome = true
   unfold startS
   rw [hp]
   show (setP s.pd who _ who).isSome = true
   rw [setP_self]
   rfl
 have Kt : Hid (∀ (q : Nat) (sk : Top.Sys) (W : World), q ≤ 512 → AlAt w B A s who n q r s' sk W → Calls Tryz.prog 21 #[P A.K, .int .i64 who] W fun e w' => Fz B W w' ∧ ((e = .returned (.tuple #[.agg (resA true r), .int .i64 0]) ∧ RunRes w B A s who s' w' ∧ s'.pd who = none) ∨ ∃ sk', e = .returned (.tuple #[.agg (resA false (err 0)), .int .i64 0]) ∧ AlAt w B A s who n (q - 1) r s' sk' w')) := fun q sk W hle h => by
   have hpos := alone_pos h.al
   obtain ⟨p, rfl⟩ : ∃ p, q = p + 1 := ⟨q - 1, by omega⟩
   have hsys := h.run.sys hs hw
   obtain ⟨⟨x, k⟩, hx⟩ := Option.isSome_iff_exists.1 h.on
   refine (core_step B A sk (n + (512 - (p + 1))) who x k W hsys T h.ok (by omega) hw hx).mono ?_
   rintro e w' ⟨rfl, hr⟩
   refine ⟨hr.fz, ?_⟩
   have hal := h.al
   have hok2 := h.ok.step sound_V T hw (by omega : n + (512 - (p + 1)) < 4611686018427387900)
   unfold aloneS at hal
   generalize stepS A.list A.room BlV sk who = o at *
   obtain ⟨s1, d, a⟩ := o
   rcases hr.res with ⟨hd, ha⟩ | ⟨hd, hpd⟩
   · have hd : d = false := hd
     have ha : a = err 0 := ha
     subst hd ha
     rw [if_neg (by simp)] at hal
     have hok3 : SysOk A.list A.room s1 (n + (512 - p)) := hok2.mono (by have := h.al; have := hle; omega)
     refine .inr ⟨s1, rfl, h.run.trans hr.run, hok3, ?_, hal⟩
     obtain ⟨arr, v, k1, k2, k3⟩ := hr.core
     have hq : (s1.pd who).isSome = true := by
       cases e : s1.pd who with
       | some _ => rfl
       | none =>
         have := alone_pos hal
         obtain ⟨p', rfl⟩ : ∃ p', p = p' + 1 := ⟨p - 1, by omega⟩
         rw [alone_off e] at hal; cases hal
     exact hq
   · have hd : d = true := hd
     subst hd
     rw [if_pos rfl] at hal
     injection hal with hal
     injection hal with h1 h2
     subst h1 h2
     exact .inl ⟨rfl, h.run.trans hr.run, hpd⟩
 have HB := Lib.hid hs.st.below.2.2.2
 clear hs T hok hn hp hc hk hal
 go_enter Tryz.func11, Tryz.ntmps11
 go_upto_region 1 with (fail)
 refine wp_name (fun u => Below w.heap.size w u ∧ Bx u w.heap.size 31 #[.int .u8 (c.op : Nat), .int .i64 c.pol, .slice ka c.key.length kc, .int .i64 c.n] ∧ Bx u (w.heap.size + 1) 35 rep0) ⟨below_allocs [_, _] w, bx_allocs w [_, _] 0 rfl, bx_allocs w [_, _] 1 rfl⟩ ?_
 rintro u ⟨hb, hx, hy⟩
 have x0 := hx.cell 0; have x1 := hx.cell 1; have x2 := hx.cell 2; have x3 := hx.cell 3
 have Hb := Lib.hid hb; have Hy := Lib.hid hy
 clear hb hx hy
 go_upto_region 4 with (go_at_call 22; (with_reducible refine (Ks.out _ Hb.out).mono ?_); rintro e w2 ⟨rfl, hz, hal⟩; have hy2 := Hy.out.kz hz rfl; have Hy2 := Lib.hid hy2; have Hal := Lib.hid hal; clear hz hal hy2)
 go_loopw [16] (fun i wr => ∃ (k : Nat) (sk : Top.Sys), i = .int .i64 k ∧ k ≤ 512 ∧ AlAt w B A s who n (512 - k) r s' sk wr ∧ Bx wr (w.heap.size + 1) 35 rep0) (fun i _ => 512 - (intOf i).toNat)
 case atStart => exact ⟨0, _, rfl, Nat.zero_le _, Hal.out, Hy2.out⟩
 case round =>
   obtain ⟨k, sk, rfl, hk, hal, hy⟩ := hrel
   have hpos := alone_pos hal.al
   have hk' : k < 512 := by omega
   have KT := Lib.hid (Kt.out _ _ _ (by omega) hal)
   have HY := Lib.hid hy
   clear hal hy hpos
   go_upto_region 6 with (go_at_call 21; (with_reducible refine KT.out.mono ?_); rintro e w3 ⟨hz, h⟩; have hy3 := HY.out.kz hz rfl; have HY3 := Lib.hid hy3; clear hy3 hz; rcases h with ⟨rfl, hrun, hpd⟩ | ⟨sk', rfl, hal⟩)
   · have HR := Lib.hid (And.intro hrun hpd)
     have HZ3 := Lib.hid (Below.refl w3.heap.size w3)
     clear hrun hpd
     refine wp_name (fun v => Below w3.heap.size w3 v ∧ Bx v w3.heap.size 37 (resA true r) ∧ Bx v (w.heap.size + 1) 35 rep0) ⟨below_allocs [_] w3, Bx.new w3 _ _, HY3.out.alc⟩ ?_
     rintro v ⟨hv, hv1, hv2⟩
     have x0 := hv1.cell 0; have x1 := hv1.cell 1; have x2 := hv1.cell 2; have x3 := hv1.cell 3; have x4 := hv1.cell 4; have x5 := hv1.cell 5; have x6 := hv1.cell 6
     obtain ⟨r0, r1, r2, r3, r4, r5⟩ := cells6 hv2
     obtain ⟨f0, f1, f2, f3, f4, f5⟩ := free6 hv2
     have HV := Lib.hid (And.intro hv (And.intro hv1 hv2))
     clear hv hv1 hv2
     go_wp2_with fail
     have hbx := storeY_bx (a := r) HV.out.2.2
     have hfin := (HR.out.1.later HV.out.1).storeY (a := r) HB.out HR.out.2 HV.out.2.2 (Nat.le_succ _) rfl
     show bodyPost _ _ _ _ _ (storeY v (w.heap.size + 1) r)
     generalize storeY v (w.heap.size + 1) r = W at *
     have u0 := hbx.cell 0; have u1 := hbx.cell 1; have u2 := hbx.cell 2; have u3 := hbx.cell 3; have u4 := hbx.cell 4; have u5 := hbx.cell 5
     exact bodyPost_ret (v := .tuple #[.agg (replyA r), .bool true]) (by simp [results, Tryz.results11, go_sem, u0, u1, u2, u3, u4, u5]) rfl ⟨rfl, hfin⟩
   · have HR := Lib.hid hal
     clear hal
     refine wp_name (fun v => Below w3.heap.size w3 v ∧ Bx v w3.heap.size 37 (resA false (err 0)) ∧ Bx v (w.heap.size + 1) 35 rep0) ⟨below_allocs [_] w3, Bx.new w3 _ _, HY3.out.alc⟩ ?_
     rintro v ⟨hv, hv1, hv2⟩
     have x0 := hv1.cell 0; have x1 := hv1.cell 1
     have HV := Lib.hid (And.intro hv (And.intro hv1 hv2))
     clear hv hv1 hv2
     go_wp2_with fail
     go_roundw
     case rel => exact ⟨k + 1, sk', by go_num, by omega, ⟨HR.out.run.later HV.out.1, HR.out.ok, HR.out.on, HR.out.al⟩, HV.out.2.2⟩
     case measure => simp [intOf]; omega
end
section
open Go.RowKit Top
set_option linter.unusedVariables false
def tabL : List Pol := [⟨1, 10, 20, 0⟩, ⟨2, 0, 0, 2⟩]
theorem tab_ok {room : Nat} (h1 : 1 ≤ room) (h2 : room ≤ 4096) : TabOk tabL room :=
 ⟨by decide, fun p hp => by
   simp only [tabL, List.mem_cons, List.not_mem_nil, or_false] at hp
   rcases hp with rfl | rfl
   · exact .inl ⟨rfl, by decide, by decide, by decide, by decide⟩
   · exact .inr ⟨rfl, by decide, by decide⟩, h1, h2⟩
set_option maxHeartbeats 1000000 in
theorem table_any (w : World) : Calls Tryz.prog 6 #[] w fun e w' => ∃ v, e = .returned v ∧ PolsAt w' v tabL ∧ Below w.heap.size w w' := by
 go_enter Tryz.func6, Tryz.ntmps6
 go_wp2
 refine bodyPost_ret (v := .slice (some ⟨w.heap.size, 0, none⟩) 2 2) (by simp [results, Tryz.results6, go_sem]) rfl ⟨_, rfl, ⟨rfl, _, 2, rfl, Nat.le_refl _, by decide, fun _ => ⟨w.heap.size, 0, _, rfl, Bx.new w _ _, fun j u hu => ?_⟩⟩, below_allocs [_] w⟩
 have h : ∀ j u, (tabL.flatMap polEnc)[j]? = some u → (#[Value.int .u8 1, .int .i64 10, .int .i64 20, .int .i64 0, .int .u8 2, .int .i64 0, .int .i64 0, .int .i64 2] : Array Value)[0 + j]? = some u := fun j u hu => by
   rw [Nat.zero_add]
   simpa [tabL, polEnc] using hu
 exact h j u hu
end
end Go.Proofs.YtemnhpdjoimjbaaGreat
