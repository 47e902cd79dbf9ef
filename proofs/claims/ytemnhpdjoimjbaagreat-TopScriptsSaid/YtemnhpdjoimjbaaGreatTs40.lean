import Derived.Test.YtemnhpdjoimjbaaGreatTs39
import Derived.Test.YtemnhpdjoimjbaaGreatTs21
import Derived.Test.YtemnhpdjoimjbaaGreatTs36
import Derived.Test.YtemnhpdjoimjbaaGreatTs37
import Derived.Laws.EntriesVeiled
section
namespace Go.Proofs.YtemnhpdjoimjbaaGreat
open Go.RowKit Top
set_option linter.unusedVariables false
theorem below_then {w W w2 : World} (h : RowKit.Below w.heap.size w W) (k : RowKit.Below W.heap.size W w2) : RowKit.Below w.heap.size w w2 := h.trans (k.mono h.size)
theorem CellsAt.parts {w : World} {v : Value} {L : List Cell} (h : CellsAt w v L) : ∃ xs : List CV, ∃ a c, xs.map CV.c = L ∧ v = .slice a xs.length c ∧ xs.length ≤ c ∧ c ≤ maxLen ∧ (0 < xs.length → ∃ b off, a = some ⟨b, off, none⟩ ∧ ∀ j u, (encs xs)[j]? = some u → w.cell? ⟨b, off + j, none⟩ = some u) ∧ (∀ x ∈ xs, x.ok w) ∧ WfL L := by
 obtain ⟨xs, h1, h2, h3, h4⟩ := h
 obtain ⟨a, c, rfl⟩ : ∃ a c, v = .slice a xs.length c := by obtain ⟨_, a, c, e, _⟩ := h2; exact ⟨a, c, e⟩
 obtain ⟨_, h5, h6, h7⟩ := Row.cells h2
 exact ⟨xs, a, c, h1, rfl, h5, h6, h7, h3, h4⟩
theorem CV.ok.slices {w : World} {x : CV} (h : x.ok w) : (∃ a n c, x.kv = .slice a n c) ∧ ∃ a n c, x.hv = .slice a n c := by
 obtain ⟨⟨_, _, a, c, e, _⟩, _, a', c', e', _⟩ := h
 exact ⟨⟨a, _, c, e⟩, a', _, c', e'⟩
set_option maxHeartbeats 2000000 in
set_option maxRecDepth 100000 in
theorem same16_any (va vb : Value) (L : List Cell) (w : World) (ha : CellsAt w va L) (hb : CellsAt w vb L) :
   Calls Tryz.prog 12 #[va, vb] w fun e w' => e = .returned (.bool true) ∧ Below w.heap.size w w' := by
 obtain ⟨xs, a, c, e1, rfl, h5, h6, h7, h8, h9⟩ := ha.parts
 obtain ⟨ys, a', c', e2, rfl, g5, g6, g7, g8, g9⟩ := hb.parts
 have hlen : ys.length = xs.length := by have := congrArg List.length (e2.trans e1.symm); simpa using this
 have hpt : ∀ (k : Nat) (x y : CV), xs[k]? = some x → ys[k]? = some y → y.c = x.c := fun k x y h h' => by
   have e : (ys.map CV.c)[k]? = (xs.map CV.c)[k]? := by rw [e1, e2]
   simpa [h, h'] using e
 have hfew := h9.few
 rw [← e1, List.length_map] at hfew
 have Hpt := Lib.hid hpt; have Hlen := Lib.hid hlen
 rw [hlen] at g5 g7 ⊢
 have Hc := Lib.hid h7; have Hok := Lib.hid h8; have Gc := Lib.hid g7; have Gok := Lib.hid g8
 clear h7 h8 h9 g7 g8 g9 ha hb hpt e1 e2 hlen
 generalize hln : xs.length = ln at *
 have Hln := Lib.hid hln
 clear hln
 go_enter Tryz.func12, Tryz.ntmps12
 go_wp2
 go_loopw [13] (fun i wr => ∃ k : Nat, i = .int .i64 k ∧ k ≤ ln ∧ Below w.heap.size w wr) (fun i _ => ln - (intOf i).toNat)
 case atStart => exact ⟨0, rfl, Nat.zero_le _, Below.refl _ _⟩
 case round =>
   obtain ⟨k, rfl, hkk, hbel⟩ := hrel
   have Hbel := Lib.hid hbel
   clear hbel
   by_cases hA : k < ln
   · have hx : k < xs.length := by have := Hln.out; omega
     have hy : k < ys.length := by have := Hln.out; have := Hlen.out; omega
     obtain ⟨b, off, rfl, hcl⟩ := Hc.out (by omega)
     obtain ⟨b', off', rfl, gcl⟩ := Gc.out (by omega)
     have hok := Hok.out xs[k] (List.getElem_mem hx)
     have gok := Gok.out ys[k] (List.getElem_mem hy)
     obtain ⟨⟨qa, qn, qc, e1⟩, qa', qn', qc', e2⟩ := hok.slices
     obtain ⟨⟨pa, pn, pc, e3⟩, pa', pn', pc', e4⟩ := gok.slices
     have he := Hpt.out k xs[k] ys[k] (List.getElem?_eq_getElem hx) (List.getElem?_eq_getElem hy)
     have KB : Hid (∀ W, Below w.heap.size w W → Calls Tryz.prog 28 #[.slice qa qn qc, .slice pa pn pc] W fun e w' => e = .returned (.bool true) ∧ Below W.heap.size W w') := fun W hb => by
       rw [← e1, ← e3]
       have := samebytes_any _ _ _ _ W (hok.1.keep (fr0 hb)).by (gok.1.keep (fr0 hb)).by
       rwa [he, decide_eq_true rfl] at this
     have KI : Hid (∀ W, Below w.heap.size w W → Calls Tryz.prog 29 #[.slice qa' qn' qc', .slice pa' pn' pc'] W fun e w' => e = .returned (.bool true) ∧ Below W.heap.size W w') := fun W hb => by
       rw [← e2, ← e4]
       have := sameints_any _ _ _ _ W (hok.2.keep (fr0 hb)).ints (gok.2.keep (fr0 hb)).ints
       rwa [he, decide_eq_true rfl] at this
     have HX : Hid (∀ W, Below w.heap.size w W → W.cell? ⟨b, off + k * 4, none⟩ = some (.int .i64 xs[k].c.pol) ∧ W.cell? ⟨b, off + k * 4 + 1, none⟩ = some (.slice qa qn qc) ∧ W.cell? ⟨b, off + k * 4 + 2, none⟩ = some (.int .i64 xs[k].c.tat) ∧ W.cell? ⟨b, off + k * 4 + 3, none⟩ = some (.slice qa' qn' qc') ∧ W.cell? ⟨b', off' + k * 4, none⟩ = some (.int .i64 xs[k].c.pol) ∧ W.cell? ⟨b', off' + k * 4 + 1, none⟩ = some (.slice pa pn pc) ∧ W.cell? ⟨b', off' + k * 4 + 2, none⟩ = some (.int .i64 xs[k].c.tat) ∧ W.cell? ⟨b', off' + k * 4 + 3, none⟩ = some (.slice pa' pn' pc')) := fun W hb => by
       obtain ⟨x0, x1, x2, x3⟩ := cell_at (fun j u hu => cell_later hb (hcl j u hu)) k hx
       obtain ⟨y0, y1, y2, y3⟩ := cell_at (fun j u hu => cell_later hb (gcl j u hu)) k hy
       rw [he] at y0 y2
       rw [e1] at x1
       rw [e2] at x3
       rw [e3] at y1
       rw [e4] at y3
       exact ⟨x0, x1, x2, x3, y0, y1, y2, y3⟩
     clear hcl gcl e1 e2 e3 e4 hok gok he
     have d1 : decide (xs[k].c.pol = xs[k].c.pol) = true := decide_eq_true rfl
     generalize xs[k].c.pol = cp at *
     generalize xs[k].c.tat = ct at *
     have hw0 : w.heap.size ≤ wr.heap.size := Hbel.out.size
     obtain ⟨x0, x1, x2, x3, y0, y1, y2, y3⟩ := HX.out wr Hbel.out
     have HS : Hid (∀ W, Below w.heap.size w W → W.cell? ⟨b, off + k * 4, none⟩ = some (.int .i64 cp) ∧ W.cell? ⟨b, off + k * 4 + 1, none⟩ = some (.slice qa qn qc) ∧ W.cell? ⟨b, off + k * 4 + 2, none⟩ = some (.int .i64 ct) ∧ W.cell? ⟨b, off + k * 4 + 3, none⟩ = some (.slice qa' qn' qc') ∧ W.cell? ⟨b', off' + k * 4, none⟩ = some (.int .i64 cp) ∧ W.cell? ⟨b', off' + k * 4 + 1, none⟩ = some (.slice pa pn pc) ∧ W.cell? ⟨b', off' + k * 4 + 2, none⟩ = some (.int .i64 ct) ∧ W.cell? ⟨b', off' + k * 4 + 3, none⟩ = some (.slice pa' pn' pc')) := HX.out
     have hz0 : Below w.heap.size w wr := Hbel.out
     go_wp2
     go_region_held3 (fun w' => w'.cell? ⟨b, off + k * 4, none⟩ = some (.int .i64 cp) ∧ w'.cell? ⟨b, off + k * 4 + 1, none⟩ = some (.slice qa qn qc) ∧ w'.cell? ⟨b, off + k * 4 + 2, none⟩ = some (.int .i64 ct) ∧ w'.cell? ⟨b, off + k * 4 + 3, none⟩ = some (.slice qa' qn' qc') ∧ w'.cell? ⟨b', off' + k * 4, none⟩ = some (.int .i64 cp) ∧ w'.cell? ⟨b', off' + k * 4 + 1, none⟩ = some (.slice pa pn pc) ∧ w'.cell? ⟨b', off' + k * 4 + 2, none⟩ = some (.int .i64 ct) ∧ w'.cell? ⟨b', off' + k * 4 + 3, none⟩ = some (.slice pa' pn' pc')) (first | (refine HS.out _ ?_; (repeat (first | (with_reducible first | assumption | refine RowKit.Below.drew ?_))); done)) (first
       | (go_at_call 28; (with_reducible refine (KB.out _ (by (repeat (first | (with_reducible first | assumption | refine RowKit.Below.drew ?_))))).mono ?_); rintro e w2 ⟨rfl, hb2⟩; have hz2 : Below w.heap.size w w2 := below_then (by (repeat (first | (with_reducible first | assumption | refine RowKit.Below.drew ?_)))) hb2; clear hb2)
       | (go_at_call 29; (with_reducible refine (KI.out _ (by (repeat (first | (with_reducible first | assumption | refine RowKit.Below.drew ?_))))).mono ?_); rintro e w2 ⟨rfl, hb2⟩; have hz2 : Below w.heap.size w w2 := below_then (by (repeat (first | (with_reducible first | assumption | refine RowKit.Below.drew ?_)))) hb2; clear hb2))
     all_goals
       go_wp2
       go_roundw
       case rel => exact ⟨k + 1, by go_num, by omega, by assumption⟩
       case measure => simp [intOf]; omega
   · obtain rfl : k = ln := by omega
     go_wp2
     exact bodyPost_ret (v := .bool true) (by simp [results, Tryz.results12, go_sem]) rfl ⟨rfl, Hbel.out⟩
end Go.Proofs.YtemnhpdjoimjbaaGreat
end
section
namespace Go.Proofs.YtemnhpdjoimjbaaGreat.Top
set_option linter.unusedVariables false
structure Sys where
 m : Mem
 pd : Nat → Option (Live × Kont)
def setP (pd : Nat → Option (Live × Kont)) (i : Nat) (v : Option (Live × Kont)) : Nat → Option (Live × Kont) := fun j => if j = i then v else pd j
theorem setP_self (pd : Nat → Option (Live × Kont)) (i : Nat) (v : Option (Live × Kont)) : setP pd i v i = v := if_pos rfl
theorem setP_ne (pd : Nat → Option (Live × Kont)) {i j : Nat} (v : Option (Live × Kont)) (h : j ≠ i) : setP pd i v j = pd j := if_neg h
def claimP : Option (Live × Kont) → Nat
 | none => 0
 | some (x, k) => claim x k
def tot (pd : Nat → Option (Live × Kont)) : Nat → Nat
 | 0 => 0
 | n + 1 => tot pd n + claimP (pd n)
theorem tot_same (pd : Nat → Option (Live × Kont)) (i : Nat) (v : Option (Live × Kont)) : ∀ n, n ≤ i → tot (setP pd i v) n = tot pd n
 | 0, _ => rfl
 | n + 1, h => by
   show tot (setP pd i v) n + claimP (setP pd i v n) = tot pd n + claimP (pd n)
   rw [tot_same pd i v n (by omega), setP_ne pd v (by omega)]
theorem tot_set (pd : Nat → Option (Live × Kont)) (i : Nat) (v : Option (Live × Kont)) : ∀ n, i < n → tot (setP pd i v) n + claimP (pd i) = tot pd n + claimP v
 | 0, h => by omega
 | n + 1, h => by
   show tot (setP pd i v) n + claimP (setP pd i v n) + claimP (pd i) = tot pd n + claimP (pd n) + claimP v
   by_cases e : n = i
   · subst e
     rw [tot_same pd n v n (Nat.le_refl _), setP_self]
     omega
   · have := tot_set pd i v n (by omega)
     rw [setP_ne pd v e]
     omega
def rest (pd : Nat → Option (Live × Kont)) (i : Nat) : Nat := tot (setP pd i none) 64
theorem tot_rest (pd : Nat → Option (Live × Kont)) {i : Nat} (h : i < 64) : tot pd 64 = claimP (pd i) + rest pd i := by
 have := tot_set pd i none 64 h
 show _ = _ + tot (setP pd i none) 64
 have e : claimP none = 0 := rfl
 omega
theorem tot_setP (pd : Nat → Option (Live × Kont)) {i : Nat} (h : i < 64) (v : Option (Live × Kont)) : tot (setP pd i v) 64 = claimP v + rest pd i := by
 have := tot_set pd i v 64 h
 have := tot_rest pd h
 omega
def liveOf (c : Call) : Live := ⟨c, sumB (ident c.pol c.key), false, 0⟩
def Mem.at_ (m : Mem) (t : Int) : Mem := { m with clock := t }
section
variable (list : List Pol) (room : Nat)
structure SysOk (s : Sys) (n : Nat) : Prop where
 inv : SInv list room s.m (tot s.pd 64)
 live : ∀ who x k, who < 64 → s.pd who = some (x, k) → LiveOk list x ∧ KOk list room s.m x k
 few : s.m.count ≤ n
def stepO (who : Nat) (s : Sys) (o : Out) : Sys × (Bool × Reply) :=
 match o.1 with
 | .inl k => (⟨o.2.2, setP s.pd who (some (o.2.1, k))⟩, false, err 0)
 | .inr r => (⟨o.2.2, setP s.pd who none⟩, true, r)
def stepS (B : Below) (s : Sys) (who : Nat) : Sys × (Bool × Reply) :=
 match s.pd who with
 | none => (s, false, err 0)
 | some (x, k) => stepO who s (stepF B list room k x s.m)
def startS (s : Sys) (who : Nat) (c : Call) : Sys :=
 match s.pd who with
 | none => ⟨s.m, setP s.pd who (some (liveOf c, firstK c))⟩
 | some _ => s
structure CallIn (c : Call) : Prop where
 op0 : 1 ≤ c.op
 op1 : c.op ≤ 6
 pol : c.op ≤ 4 → ∃ p : Nat, c.pol = (p : Int) ∧ p < list.length
 klen : c.op ≤ 4 → c.key.length ≤ 255
 kb : ∀ b ∈ c.key, b < 256
 n : c.op = 1 → 0 ≤ c.n ∧ c.n ≤ 4611686018427387903
 n64 : -9223372036854775808 ≤ c.n ∧ c.n ≤ 9223372036854775807
 kind1 : c.op = 1 → (list.getD c.pol.toNat default).kind = 1
 kind2 : c.op = 2 ∨ c.op = 3 → (list.getD c.pol.toNat default).kind = 2
def aloneS (B : Below) (who : Nat) : Nat → Sys → Option (Reply × Sys)
 | 0, _ => none
 | n + 1, s => if (stepS list room B s who).2.1 then some ((stepS list room B s who).2.2, (stepS list room B s who).1) else aloneS B who n (stepS list room B s who).1
end
variable {list : List Pol} {room : Nat}
theorem live_of {c : Call} (h : CallIn list c) : LiveOk list (liveOf c) :=
 ⟨h.op0, h.op1, h.pol, h.klen, h.kb, h.n, h.n64, Int.le_refl 0, by show (0 : Int) ≤ _; decide, h.kind1, h.kind2, rfl, fun e => by cases e⟩
theorem first_ok {c : Call} (h : CallIn list c) (m : Mem) : KOk list room m (liveOf c) (firstK c) ∧ claim (liveOf c) (firstK c) = 0 := by
 unfold firstK
 split
 · rename_i e; exact ⟨e, rfl⟩
 · split
   · rename_i e; exact ⟨e, rfl⟩
   · have := h.op1
     exact ⟨⟨by show c.op ≤ 4; omega, rfl⟩, rfl⟩
theorem SysOk.mono {s : Sys} {n n' : Nat} (h : SysOk list room s n) (hn : n ≤ n') : SysOk list room s n' := ⟨h.inv, h.live, by have := h.few; omega⟩
theorem SysOk.start {s : Sys} {n who : Nat} {c : Call} (h : SysOk list room s n) (hw : who < 64) (hc : CallIn list c) : SysOk list room (startS s who c) n := by
 unfold startS
 cases e : s.pd who with
 | some v => exact h
 | none =>
   have hf := first_ok (room := room) hc s.m
   refine ⟨?_, fun who' x k hw' hk => ?_, h.few⟩
   · show SInv list room s.m (tot (setP s.pd who _) 64)
     rw [tot_setP s.pd hw]
     have h1 := h.inv
     rw [tot_rest s.pd hw, e] at h1
     show SInv list room s.m (claim (liveOf c) (firstK c) + _)
     rw [hf.2]
     exact h1
   · by_cases e' : who' = who
     · subst e'
       have hk' : setP s.pd who' (some (liveOf c, firstK c)) who' = some (x, k) := hk
       rw [setP_self] at hk'
       cases hk'
       exact ⟨live_of hc, hf.1⟩
     · have hk' : setP s.pd who (some (liveOf c, firstK c)) who' = some (x, k) := hk
       rw [setP_ne s.pd _ e'] at hk'
       exact h.live who' x k hw' hk'
theorem SysOk.out {B : Below} (hB : Sound B) (T : TabOk list room) {s : Sys} {n who : Nat} {x : Live} {k : Kont} (h : SysOk list room s n) (hw : who < 64) (hp : s.pd who = some (x, k)) (hn : n < 4611686018427387900) : OOk list room (rest s.pd who) s.m x (stepF B list room k x s.m) := by
 have h1 := h.inv
 rw [tot_rest s.pd hw, hp] at h1
 have h2 := h.live who x k hw hp
 have := h.few
 exact step_ok hB T h1 h2.1 h2.2 (by omega)
theorem SysOk.step {B : Below} (hB : Sound B) (T : TabOk list room) {s : Sys} {n who : Nat} (h : SysOk list room s n) (hw : who < 64) (hn : n < 4611686018427387900) : SysOk list room (stepS list room B s who).1 (n + 1) := by
 unfold stepS
 cases e : s.pd who with
 | none => exact h.mono (by omega)
 | some v =>
   obtain ⟨x, k⟩ := v
   have ho := h.out hB T hw e hn
   dsimp only
   have hl : ∀ who' x' k', who' < 64 → who' ≠ who → s.pd who' = some (x', k') → LiveOk list x' ∧ KOk list room (stepF B list room k x s.m).2.2 x' k' := fun who' x' k' hw' hne hp => by
     have h1 := h.live who' x' k' hw' hp
     exact ⟨h1.1, h1.2.later ho.later⟩
   have hc := ho.count
   have hf := h.few
   have hi := ho.inv
   have hv := ho.live
   have hk := ho.kont
   unfold stepO
   generalize stepF B list room k x s.m = o at *
   obtain ⟨o1, x1, m1⟩ := o
   cases o1 with
   | inl k1 =>
     refine ⟨?_, fun who' x' k' hw' hp => ?_, by show m1.count ≤ _; dsimp only at hc; omega⟩
     · show SInv list room m1 (tot (setP s.pd who (some (x1, k1))) 64)
       rw [tot_setP s.pd hw]
       exact hi
     · by_cases e' : who' = who
       · subst e'
         have hp' : setP s.pd who' (some (x1, k1)) who' = some (x', k') := hp
         rw [setP_self] at hp'
         cases hp'
         exact ⟨hv, hk _ rfl⟩
       · have hp' : setP s.pd who (some (x1, k1)) who' = some (x', k') := hp
         rw [setP_ne s.pd _ e'] at hp'
         exact hl who' x' k' hw' e' hp'
   | inr r =>
     refine ⟨?_, fun who' x' k' hw' hp => ?_, by show m1.count ≤ _; dsimp only at hc; omega⟩
     · show SInv list room m1 (tot (setP s.pd who none) 64)
       rw [tot_setP s.pd hw]
       exact hi
     · by_cases e' : who' = who
       · subst e'
         have hp' : setP s.pd who' none who' = some (x', k') := hp
         rw [setP_self] at hp'
         cases hp'
       · have hp' : setP s.pd who none who' = some (x', k') := hp
         rw [setP_ne s.pd _ e'] at hp'
         exact hl who' x' k' hw' e' hp'
theorem later_at (m : Mem) (t : Int) : Later m (m.at_ t) := ⟨Nat.le_refl _, fun _ _ _ => Nat.le_refl _, fun _ _ _ _ => rfl, fun _ _ _ _ => rfl⟩
theorem SysOk.tick {s : Sys} {n : Nat} (h : SysOk list room s n) {t : Int} (h0 : 0 ≤ t) (h1 : t ≤ 4611686018427387903) : SysOk list room ⟨s.m.at_ t, s.pd⟩ n := by
 have hi := h.inv
 have hd := hi.dir
 exact ⟨⟨⟨hd.nw, hd.nh, hd.d8, hd.old, hd.cur, hd.nxt, hd.small, hd.cnt0⟩, ⟨hi.lies.wf, hi.lies.shard, hi.lies.perm⟩, hi.cnt, hi.cnt2, hi.ser, ⟨h0, h1⟩⟩, fun who x k hw hp => ⟨(h.live who x k hw hp).1, (h.live who x k hw hp).2.later (later_at s.m t)⟩, h.few⟩
theorem alone_ends {B : Below} (hB : Sound B) (T : TabOk list room) {who : Nat} (hw : who < 64) : ∀ (c n : Nat) (s : Sys) (x : Live) (k : Kont), SysOk list room s n → n + c < 4611686018427387900 → s.pd who = some (x, k) → cost s.m k < c → ∃ r s', aloneS list room B who c s = some (r, s') ∧ SysOk list room s' (n + c) ∧ s'.pd who = none ∧ (∀ j, j ≠ who → s'.pd j = s.pd j) ∧ s'.m.clock = s.m.clock
 | 0, _, _, _, _, _, _, _, h => by omega
 | c + 1, n, s, x, k, h, hn, hp, hc => by
   have h1 := h.step hB T hw (by omega : n < 4611686018427387900) (B := B)
   have ho := h.out hB T hw hp (by omega : n < 4611686018427387900)
   have hi := h.inv
   rw [tot_rest s.pd hw, hp] at hi
   have hl := h.live who x k hw hp
   have hcost := step_cost (B := B) hi hl.1 hl.2
   have ecl := ho.clock
   unfold aloneS
   have es : stepS list room B s who = stepO who s (stepF B list room k x s.m) := by unfold stepS; rw [hp]
   rw [es] at h1 ⊢
   unfold stepO at h1 ⊢
   generalize stepF B list room k x s.m = o at *
   obtain ⟨o1, x1, m1⟩ := o
   cases o1 with
   | inl k1 =>
     dsimp only at h1 ⊢
     rw [if_neg (by simp)]
     have hcost' : cost m1 k1 < cost s.m k := hcost
     obtain ⟨r, s', h2, h3, h4, h5, h6⟩ := alone_ends hB T hw c (n + 1) ⟨m1, setP s.pd who (some (x1, k1))⟩ x1 k1 h1 (by omega) (setP_self _ _ _) (by show cost m1 k1 < c; omega)
     exact ⟨r, s', h2, h3.mono (by omega), h4, fun j hj => (h5 j hj).trans (setP_ne _ _ hj), h6.trans ecl⟩
   | inr r =>
     dsimp only at h1 ⊢
     rw [if_pos rfl]
     exact ⟨r, _, rfl, h1.mono (by omega), setP_self _ _ _, fun j hj => setP_ne _ _ hj, ecl⟩
end Go.Proofs.YtemnhpdjoimjbaaGreat.Top
end
section
namespace Go.Proofs.YtemnhpdjoimjbaaGreat
open Go.RowKit Top
set_option linter.unusedVariables false
structure CallGood (L : List Pol) (c : Top.Call) : Prop where
 ok : CallOk L c
 kb : ∀ b ∈ c.key, b < 256
 n64 : -9223372036854775808 ≤ c.n ∧ c.n ≤ 9223372036854775807
theorem CallGood.in_ {L : List Pol} {c : Top.Call} (h : CallGood L c) : CallIn L c := by
 obtain ⟨p, h4, h5⟩ := h.ok.pol
 refine ⟨h.ok.op0, h.ok.op1, fun _ => ⟨p, h4, h5⟩, fun _ => h.ok.klen, h.kb, h.ok.n, h.n64, fun e => ?_, fun e => ?_⟩
 · have := h.ok.kind (by omega)
   rw [e] at this
   exact this (by decide)
 · rcases e with e | e
   · have := h.ok.kind (by omega)
     rw [e] at this
     exact this (by decide)
   · have := h.ok.kind (by omega)
     rw [e] at this
     exact this (by decide)
theorem Row.sto {w : World} {t t' : TypeId} {size n : Nat} {v : Value} {xs : List Value} (h : Row w t size n v xs) {r i : Nat} {c : Array Value} (hr : Bx w r t' c) (ht : t ≠ t') (u : Value) : Row (w.setCell ⟨r, i, none⟩ u) t size n v xs := by
 obtain ⟨h1, a, c', h2, h3, h4, h5⟩ := h
 refine ⟨h1, a, c', h2, h3, h4, fun hn => ?_⟩
 obtain ⟨b, off, arr, h6, h7, h8⟩ := h5 hn
 exact ⟨b, off, arr, h6, h7.sne (h7.ne hr ht), h8⟩
theorem KeyAt.sto {w : World} {v : Value} {L : List Nat} (h : KeyAt w v L) {r i : Nat} {t' : TypeId} {c : Array Value} (hr : Bx w r t' c) (ht : 5 ≠ t') (u : Value) : KeyAt (w.setCell ⟨r, i, none⟩ u) v L := ⟨h.1, Row.sto h.2 hr ht u⟩
theorem sys_put {w : World} {B : Nat} {A : Adr} {m : Mem} {pd : Nat → Option (Live × Kont)} {who : Nat} {arr : Array Value} (hs : St w B A m) (hK : Bx w A.K 87 arr) (hsz : arr.size = 67) (hKB : B ≤ A.K) (hp : ∀ j, j < 64 → j ≠ who → ∃ v, arr[3 + j]? = some v ∧ PendAt w B A j v (pd j)) (hw : who < 64) (v : Value) (o : Option (Live × Kont)) (hv : PendAt w B A who v o) :
   SysAt (w.setCell ⟨A.K, 3 + who, none⟩ v) B A m (setP pd who o) ∧ Fr B [A.K] w (w.setCell ⟨A.K, 3 + who, none⟩ v) := by
 have h1 := hs.setPend hK hKB (3 + who) (by omega) v
 have hne : ∀ (j : Nat) (x : Live) (k : Kont) (xb : Nat) (pol : Pol) (q : Option (Live × Kont)), q = some (x, k) → CallAt w ⟨A, (j : Int), xb, pol⟩ x → xb ∉ [A.K] := fun j x k xb pol q _ hc => by
   obtain ⟨_, hx, _⟩ := hc
   simpa using hx.ne hK (by decide)
 refine ⟨⟨h1.1, ⟨_, hK.setCell (3 + who) v, by simpa using hsz, fun j hj => ?_⟩, hKB⟩, h1.2⟩
 by_cases e : j = who
 · subst e
   refine ⟨v, Array.getElem?_setIfInBounds_self_of_lt (by omega), ?_⟩
   rw [setP_self]
   exact hv.keep h1.2 (fun x k xb pol => hne j x k xb pol _)
 · obtain ⟨u, h2, h3⟩ := hp j hj e
   refine ⟨u, by rw [Array.getElem?_setIfInBounds_ne (by omega)]; exact h2, ?_⟩
   rw [setP_ne pd o e]
   exact h3.keep h1.2 (fun x k xb pol => hne j x k xb pol _)
theorem bclone_by (kv : Value) (k : List Nat) (w : World) (h : ByAt w kv k) (hk : k.length ≤ 255) :
   Calls Tryz.prog 45 #[kv] w fun e w' => ∃ v', e = .returned v' ∧ KeyAt w' v' k ∧ Below w.heap.size w w' := by
 have hb := h
 obtain ⟨h0, a, c, rfl, h2, h3, h4⟩ := hb
 cases a with
 | none =>
   have hk0 : k = [] := by
     cases k with
     | nil => rfl
     | cons x k => obtain ⟨b, off, e, _⟩ := h4 (by simp); cases e
   subst hk0
   refine (Tryz.bytes_Clone_nil 0 c w).mono ?_
   rintro e w' ⟨rfl, rfl⟩
   exact ⟨_, rfl, ⟨h0, Row.nil _ _ _ none 0 (by decide)⟩, Below.refl _ _⟩
 | some a =>
   refine (Tryz.bytes_Clone_at a k.length c (k.map fun (x : Nat) => (x : Int)) w (by simp) (by omega) ?_).mono ?_
   · intro i hi
     obtain ⟨b, off, e, h5⟩ := h4 (by omega)
     injection e with e
     subst e
     rw [Addr.add_lit, h5 i hi]
     congr 2
     simp [List.getD_eq_getElem?_getD, List.getElem?_eq_getElem hi]
   · rintro e w' ⟨v', rfl, h5, _, h6⟩
     refine ⟨v', rfl, ⟨h0, ?_⟩, h6⟩
     have := Row.own h5
     rw [List.map_map] at this
     exact this
theorem first_env (A : Adr) (who : Nat) (c : Top.Call) (kv : Value) (B : Nat) (m : Mem) (w W : World) (hs : St w B A m) (hc : CallGood A.list c) (hb : Below w.heap.size w W) (hk : KeyAt W kv c.key) :
   Calls Tryz.prog 47 #[P W.heap.size] (W.alloc (.cells #[.int .u8 (c.op : Nat), .int .i64 c.pol, kv, .int .i64 c.n, P A.K, .int .i64 who, .int .u64 (sumB (ident c.pol c.key) : Nat), .bool false, .int .i64 0] 132))
     fun e w' => ∃ v, e = .returned v ∧ Below W.heap.size W w' ∧ KontAt w' ⟨A, who, W.heap.size, A.list.getD c.pol.toNat default⟩ v (firstK c) ∧ CallAt w' ⟨A, who, W.heap.size, A.list.getD c.pol.toNat default⟩ (liveOf c) := by
 have hb1 := below_allocs [.cells #[.int .u8 (c.op : Nat), .int .i64 c.pol, kv, .int .i64 c.n, P A.K, .int .i64 who, .int .u64 (sumB (ident c.pol c.key) : Nat), .bool false, .int .i64 0] 132] W
 have hcl : CallAt (W.alloc (.cells #[.int .u8 (c.op : Nat), .int .i64 c.pol, kv, .int .i64 c.n, P A.K, .int .i64 who, .int .u64 (sumB (ident c.pol c.key) : Nat), .bool false, .int .i64 0] 132)) ⟨A, who, W.heap.size, A.list.getD c.pol.toNat default⟩ (liveOf c) := ⟨kv, Bx.new W _ _, hk.keep (fr0 hb1)⟩
 obtain ⟨p, h4, h5⟩ := hc.ok.pol
 refine (first_any B ⟨A, who, W.heap.size, A.list.getD c.pol.toNat default⟩ (liveOf c) m _ ((hs.later hb).later hb1) hcl (fun _ => ⟨p, h4, ?_⟩) rfl hc.ok.op1).mono ?_
 · show A.list[p]? = some (A.list.getD c.pol.toNat default)
   rw [h4, Int.toNat_natCast, List.getD_eq_getElem?_getD, List.getElem?_eq_getElem h5]
   rfl
 · rintro e w' ⟨v, rfl, hk', hb'⟩
   exact ⟨v, rfl, hb1.trans (hb'.mono hb1.size), hk', hcl.keep (fr0 hb') (by simp)⟩
set_option maxHeartbeats 2000000 in
set_option maxRecDepth 100000 in
theorem start_any (B : Nat) (A : Adr) (m : Mem) (pd : Nat → Option (Live × Kont)) (who : Nat) (c : Top.Call) (kv : Value) (w : World) (hs : SysAt w B A m pd) (T : TabOk A.list A.room) (hp : pd who = none) (hw : who < 64) (hc : CallGood A.list c) (hk : ByAt w kv c.key) :
   Calls Tryz.prog 22 #[P A.K, .int .i64 who, .agg #[.int .u8 (c.op : Nat), .int .i64 c.pol, kv, .int .i64 c.n]] w fun e w' => e = .returned (.int .i64 0) ∧ SysAt w' B A m (setP pd who (some (liveOf c, firstK c))) ∧ Fr B [A.K] w w' ∧ ∃ arr v, Bx w A.K 87 arr ∧ Bx w' A.K 87 (arr.setIfInBounds (3 + who) v) := by
 obtain ⟨arr, hK, ha, hpd⟩ := hs.pend
 obtain ⟨v, hv, hpv⟩ := hpd who hw
 rw [hp] at hpv
 have hpv : v = .nilFunc := hpv
 subst hpv
 obtain ⟨arr', lv, c1, c2, c3, c4, c5, c6⟩ := hs.st.core
 have ea : arr' = arr := by
   unfold Bx at c1 hK
   rw [c1] at hK
   injection hK with hK
   injection hK
 subst ea
 have hlen := hc.ok.klen
 have hpol := hc.ok.pol
 have hpol2 : 0 ≤ c.pol ∧ c.pol < 32 := by obtain ⟨p, h4, h5⟩ := hpol; have := T.few; omega
 have Kc : Hid (∀ W, Below w.heap.size w W → Calls Tryz.prog 44 #[lv, .agg #[.int .u8 (c.op : Nat), .int .i64 c.pol, kv, .int .i64 c.n]] W fun e w' => e = .returned (.int .i64 0) ∧ Below W.heap.size W w') := fun W hb => check_good A.list lv c kv W (c6.keep (fr0 hb)) T.few T.good hc.ok (by obtain ⟨_, a, n, e, _⟩ := hk; exact ⟨a, n, e⟩)
 have Kb : Hid (∀ W, Below w.heap.size w W → Calls Tryz.prog 45 #[kv] W fun e w' => ∃ v', e = .returned v' ∧ KeyAt w' v' c.key ∧ Below W.heap.size W w') := fun W hb => bclone_by kv c.key W (hk.below hb) hlen
 have Ks : Hid (∀ (v' : Value) W, KeyAt W v' c.key → Calls Tryz.prog 46 #[.int .i64 c.pol, v'] W fun e w' => e = .returned (.int .u64 (sumB (ident c.pol c.key) : Nat)) ∧ Below W.heap.size W w') := fun v' W h => csum_any c.pol v' c.key W h hlen hpol2.1 hpol2.2
 have Kf := Lib.hid (fun (v' : Value) W (hb : Below w.heap.size w W) (h : KeyAt W v' c.key) => first_env A who c v' B m w W hs.st hc hb h)
 have HK := Lib.hid hK
 have HS := Lib.hid hs
 have HV := Lib.hid hv
 have HC := Lib.hid hc
 have HA := Lib.hid ha
 have cK0 : w.cell? ⟨A.K, 0, none⟩ = some lv := by rw [hK.cell]; exact c3
 have cKw : w.cell? ⟨A.K, 3 + who, none⟩ = some .nilFunc := by rw [hK.cell]; exact hv
 have hKl := hK.lt
 have e2 := neq_nil
 obtain ⟨la, lc, rfl⟩ : ∃ a c', lv = .slice a A.list.length c' := by obtain ⟨_, a, c', e, _⟩ := c6; exact ⟨a, c', e⟩
 obtain ⟨ka, kc, rfl⟩ : ∃ a c', kv = .slice a c.key.length c' := by obtain ⟨_, a, c', e, _⟩ := hk; exact ⟨a, c', e⟩
 have hwi : (who : Int) < 64 := by omega
 clear c1 c2 c3 c4 c5 c6 hs hpd hp hc hk hK hv ha T hpol hlen hpol2
 generalize hsm : sumB (ident c.pol c.key) = sm at *
 go_enter Tryz.func22, Tryz.ntmps22
 go_upto_region 1 with (fail)
 refine wp_name (fun u => Below w.heap.size w u ∧ Bx u w.heap.size 31 #[.int .u8 (c.op : Nat), .int .i64 c.pol, .slice ka c.key.length kc, .int .i64 c.n]) ⟨below_allocs [_] w, bx_allocs w [_] 0 rfl⟩ ?_
 rintro u ⟨hb, hx⟩
 have hx0 := hx.cell 0; have hx1 := hx.cell 1; have hx2 := hx.cell 2; have hx3 := hx.cell 3
 have uK0 := cell_later hb cK0; have uKw := cell_later hb cKw
 have Hb := Lib.hid hb; have Hx := Lib.hid hx; have Hc0 := Lib.hid cK0; have Hcw := Lib.hid cKw
 clear hb hx cK0 cKw
 go_wp2_with (first
   | (go_at_call 42; (with_reducible refine (is_any who u (by omega) (by omega)).mono ?_); rintro e w1 ⟨rfl, rfl⟩)
   | (go_at_call 44; (with_reducible refine (Kc.out _ Hb.out).mono ?_); rintro e w2 ⟨rfl, hb2⟩; have hbu := below_then Hb.out hb2; have hx2 := Hx.out.below hb2 Hx.out.lt; have z0 := cell_later hbu Hc0.out; have zw := cell_later hbu Hcw.out; have y0 := hx2.cell 0; have y1 := hx2.cell 1; have y2 := hx2.cell 2; have y3 := hx2.cell 3; have Hb2 := Lib.hid hbu; have Hx2 := Lib.hid hx2; clear hb2 hbu hx2)
   | (go_at_call 45; (with_reducible refine (Kb.out _ Hb2.out).mono ?_); rintro e w3 ⟨kv', rfl, hk', hb3⟩; have hbu := below_then Hb2.out hb3; have hx3 := Hx2.out.below hb3 Hx2.out.lt; obtain ⟨qa, qc, rfl⟩ : ∃ a c', kv' = .slice a c.key.length c' := (by obtain ⟨_, _, a, c', e, _⟩ := hk'; exact ⟨a, c', e⟩); have zf := hx3.free 2; have zo : w3.cell? ⟨w.heap.size, 2, none⟩ = some (.slice ka c.key.length kc) := hx3.cell 2; have Hk3 := Lib.hid hk'; have Hb3 := Lib.hid hbu; have Hx3 := Lib.hid hx3; clear hk' hb3 hbu hx3))
 have kL : 5 ≠ 31 := by decide
 refine wp_name (fun u => Below w.heap.size w u ∧ Bx u w.heap.size 31 #[.int .u8 (c.op : Nat), .int .i64 c.pol, .slice qa c.key.length qc, .int .i64 c.n] ∧ KeyAt u (.slice qa c.key.length qc) c.key) ⟨Hb3.out.setCell (Nat.le_refl _) _, Hx3.out.setCell 2 _, Hk3.out.sto Hx3.out kL _⟩ ?_
 rintro y ⟨hby, hxy, hky⟩
 have HY := Lib.hid (And.intro hby (And.intro hxy hky))
 have yk := cell_later hby Hcw.out
 have HSa : Hid (∀ W : World, Below y.heap.size y W → W.cell? ⟨w.heap.size, 0, none⟩ = some (.int .u8 (c.op : Nat)) ∧ W.cell? ⟨w.heap.size, 1, none⟩ = some (.int .i64 c.pol) ∧ W.cell? ⟨w.heap.size, 2, none⟩ = some (.slice qa c.key.length qc) ∧ W.cell? ⟨w.heap.size, 3, none⟩ = some (.int .i64 c.n)) := fun W hb => by
   have hx := HY.out.2.1.below hb HY.out.2.1.lt
   exact ⟨hx.cell 0, hx.cell 1, hx.cell 2, hx.cell 3⟩
 have hyl : w.heap.size < y.heap.size := hxy.lt
 clear hby hxy hky kL zf zo y0 y1 y2 y3 z0 zw hx0 hx1 hx2 hx3 uK0 uKw
 have Ksy : Hid (∀ W, Below y.heap.size y W → Calls Tryz.prog 46 #[.int .i64 c.pol, .slice qa c.key.length qc] W fun e w' => e = .returned (.int .u64 (sm : Nat)) ∧ Below W.heap.size W w') := fun W hb => Ks.out _ W (HY.out.2.2.keep (fr0 hb))
 have Kfy := Lib.hid (fun W (hb : Below y.heap.size y W) => Kf.out _ W (below_then HY.out.1 hb) (HY.out.2.2.keep (fr0 hb)))
 have HKy : Hid (∀ W, Below y.heap.size y W → Bx W A.K 87 arr') := fun W hb => HK.out.below (below_then HY.out.1 hb) HK.out.lt
 have nbK : w.heap.size ≠ A.K := by have := HK.out.lt; omega
 go_region_held3 (fun W => W.cell? ⟨w.heap.size, 0, none⟩ = some (.int .u8 (c.op : Nat)) ∧ W.cell? ⟨w.heap.size, 1, none⟩ = some (.int .i64 c.pol) ∧ W.cell? ⟨w.heap.size, 2, none⟩ = some (.slice qa c.key.length qc) ∧ W.cell? ⟨w.heap.size, 3, none⟩ = some (.int .i64 c.n)) (first | (refine HSa.out _ ?_; (repeat (first | (with_reducible first | exact RowKit.Below.refl _ _ | assumption | refine RowKit.Below.drew ?_) | ((with_reducible refine belAlloc ?_ ?_); (first | simp <;> omega | omega)))); done) | (simp only [cell_ne, nbK, ne_eq, not_false_eq_true]; with_reducible exact hsk)) (first
   | (go_at_call 46; (with_reducible refine (Ksy.out _ (by (repeat (first | (with_reducible first | exact RowKit.Below.refl _ _ | assumption | refine RowKit.Below.drew ?_) | ((with_reducible refine belAlloc ?_ ?_); (first | simp <;> omega | omega)))))).mono ?_); rintro e w2 ⟨rfl, hb2⟩; have hz2 := below_then (w := y) (by (repeat (first | (with_reducible first | exact RowKit.Below.refl _ _ | assumption | refine RowKit.Below.drew ?_) | ((with_reducible refine belAlloc ?_ ?_); (first | simp <;> omega | omega))))) hb2; have hsz := hz2.size; clear hb2)
   | (go_at_call 47; (refine (Kfy.out _ (by (repeat (first | (with_reducible first | exact RowKit.Below.refl _ _ | assumption | refine RowKit.Below.drew ?_) | ((with_reducible refine belAlloc ?_ ?_); (first | simp <;> omega | omega)))))).mono ?_); rintro e w4 ⟨v4, rfl, hb4, hk4, hc4⟩; have hz4 := below_then (w := y) (by (repeat (first | (with_reducible first | exact RowKit.Below.refl _ _ | assumption | refine RowKit.Below.drew ?_) | ((with_reducible refine belAlloc ?_ ?_); (first | simp <;> omega | omega))))) hb4; have hk5 := HKy.out _ hz4; have hsk := HSa.out _ hz4; obtain ⟨q1, q2, rfl⟩ := kont_fn hk4; have p1 : w4.frozen? ⟨A.K, 3 + who, none⟩ = false := hk5.free _; have p2 : w4.cell? ⟨A.K, 3 + who, none⟩ = some .nilFunc := cell_later hz4 yk; have HZ := Lib.hid (And.intro hb4 (And.intro hk4 (And.intro hc4 hz4))); clear hb4 hk4 hc4 hk5))
 all_goals
   go_wp2_with fail
   have hbz := below_then HY.out.1 HZ.out.2.2.2
   have hsy := HS.out.keep hbz
   obtain ⟨arr2, k1, k2, k3⟩ := hsy.pend
   have hput := sys_put hsy.st k1 k2 hsy.kb (fun j hj _ => k3 j hj) hw (.func (.func q1) #[] q2) (some (liveOf c, firstK c)) ⟨w2.heap.size, A.list.getD c.pol.toNat default, HZ.out.2.1, HZ.out.2.2.1, ⟨by show (0 : Int) ≤ (who : Int); omega, by show (who : Int) < 64; omega, fun _ => ?_⟩, by have := hsy.st.below.2.2.2; have := HS.out.st.below.2.2.2; have := HY.out.1.size; show B ≤ w2.heap.size; omega⟩
   · exact bodyPost_ret (v := .int .i64 0) (by simp [results, Tryz.results22, go_sem]) rfl ⟨rfl, hput.1, (Fr.of_below HS.out.st.below.2.2.2 hbz).trans hput.2, arr', _, HK.out, (HK.out.below hbz HK.out.lt).setCell _ _⟩
   · obtain ⟨p, h4, h5⟩ := HC.out.ok.pol
     show A.list[c.pol.toNat]? = some (A.list.getD c.pol.toNat default)
     rw [h4, Int.toNat_natCast, List.getD_eq_getElem?_getD, List.getElem?_eq_getElem h5]
     rfl
end Go.Proofs.YtemnhpdjoimjbaaGreat
end
