import Derived.Test.YtemnhpdjoimjbaaGreatTf43
namespace Go.Proofs.YtemnhpdjoimjbaaGreat.Top
set_option linter.unusedVariables false
variable {list : List Pol} {room : Nat}
theorem further_mem (j s : Nat) (g : Int) (x : Live) (m : Mem) : (further j s g x m).2.2 = m := by unfold further; split <;> rfl
theorem leave_mem (r : Reply) (x : Live) (m : Mem) : (leave r x m).2.2 = m := by unfold leave; split <;> rfl
theorem acquireF_mem (B : Below) (f : Found) (a : Nat) (t : Bool) (c : Cell) (x : Live) (m : Mem) : (acquireF B list room f a t c x m).2.2 = m := by
  unfold acquireF
  split
  · exact leave_mem _ _ _
  split <;> rfl
theorem thenF_mem (B : Below) (t : Then) (w v : Nat) (L : List Cell) (x : Live) (m : Mem) : (thenF B list room t w v L x m).2.2 = m := by
  unfold thenF
  cases t with
  | evict j s g =>
    dsimp only
    split
    · exact further_mem _ _ _ _ _
    · rfl
  | call =>
    dsimp only
    split
    · rfl
    split
    · exact acquireF_mem _ _ _ _ _ _ _
    split
    · split <;> rfl
    split <;> rfl
theorem enteredF_mem (B : Below) (s w v : Nat) (L : List Cell) (t : Then) (x : Live) (m : Mem) : (enteredF B list room s w v L t x m).2.2 = m := by
  unfold enteredF
  split
  · rfl
  · exact thenF_mem _ _ _ _ _ _ _
theorem hthenF_mem (B : Below) (t : HThen) (w v : Nat) (L : List Cell) (x : Live) (m : Mem) : (hthenF B list room t w v L x m).2.2 = m := by
  cases t with
  | find s t =>
    unfold hthenF
    dsimp only
    split
    · rfl
    · exact enteredF_mem _ _ _ _ _ _ _ _
  | one l i h => rfl
  | two l i => rfl
theorem bthenF_mem (t : BThen) (x : Live) (m : Mem) : (bthenF t x m).2.2 = m := by
  cases t with
  | done r => rfl
  | evict j s g => exact further_mem _ _ _ _ _
theorem wthenF_mem (B : Below) (t : WThen) (n : Nat) (x : Live) (m : Mem) : (wthenF B list room t n x m).2.2 = m := by
  cases t with
  | back t => exact bthenF_mem _ _ _
  | room f a t c r => rfl
  | serial f a t c => rfl
theorem stopF_mem (t : WThen) (x : Live) (m : Mem) : (stopF t x m).2.2 = m := by
  cases t with
  | back t => rfl
  | room f a t c r => rfl
  | serial f a t c => exact leave_mem _ _ _
/-- A step that is no put of a cell leaves what the limiter has. -/
theorem step_has {B : Below} (T : TabOk list room) {q : Nat} {m : Mem} {x : Live} {k : Kont} (h1 : SInv list room m (claim x k + q)) (hk : KOk list room m x k)
    (n1 : ∀ f a t c r, k ≠ .put f a t c r) (n2 : ∀ j s g w v r n, k ≠ .evictSwap j s g w v r n) (c : Cell) : Has (stepF B list room k x m).2.2 c ↔ Has m c := by
  have hd := h1.dir
  cases k with
  | find sum t => unfold stepF; dsimp only; split <;> exact Iff.rfl
  | enter sum word t =>
    unfold stepF
    dsimp only
    rw [enteredF_mem]
    exact Iff.rfl
  | freeze word t => unfold stepF; dsimp only; split <;> exact Iff.rfl
  | freezeSwap word v holds t =>
    obtain ⟨hk, hv⟩ := hk
    unfold stepF
    dsimp only
    by_cases e : m.word word = v
    · rw [swap_hit e]
      dsimp only
      rw [if_pos rfl]
      have hh := hv.eq e
      subst hh
      subst e
      have hw : ∃ l s, word = place l s ∧ l ≤ 3 ∧ 2 * l + 1 ≤ m.word 0 := by
        cases t with
        | find level sum t => exact ⟨_, _, hk.2.2.1, hk.2.1, hk.2.2.2⟩
        | move level i => exact ⟨_, _, hk.2.2.2.1, hk.2.1, hk.2.2.2.2.1⟩
      obtain ⟨l, s, rfl, hl, hdl⟩ := hw
      have b := place_bd (s := s) (show l ≤ 4 by omega)
      have hpl := place_lt l s
      have h0 := two_pos l
      have hv1 := hv.v1
      have hv2 := hv.v2
      have el : l = m.word 0 / 2 := by
        refine Classical.byContradiction fun hne => ?_
        have hlt : 2 ^ (l + 1) ≤ 2 ^ (m.word 0 / 2) := two_le (by omega)
        have := hd.old (place l s) (by omega) (by omega)
        omega
      have hodd : m.word 0 % 2 = 1 := by
        refine Classical.byContradiction fun hne => ?_
        omega
      rw [el] at hpl
      have := has_freeze hd hodd hpl.1 hpl.2 (by rw [← el]; exact ⟨hv1, hv2⟩) c
      rw [← el] at this
      exact this
    · rw [swap_miss e]
      exact Iff.rfl
  | half level shard holds t =>
    unfold stepF
    dsimp only
    split
    · rw [hthenF_mem]; exact Iff.rfl
    · exact Iff.rfl
  | halfSwap level shard holds h t =>
    unfold stepF
    dsimp only
    rw [hthenF_mem]
    by_cases e : m.word (place level shard) = 0
    · rw [swap_hit e]
      dsimp only
      obtain ⟨l, rfl, hl, hdl, hf, hh, ht⟩ := id hk
      have b1 := place_bd (s := shard) (show l ≤ 4 by omega)
      have b2 := place_bd (s := shard) (show l + 1 ≤ 4 by omega)
      have hp1 := place_lt l shard
      have hp2 := place_lt (l + 1) shard
      have el : l = m.word 0 / 2 := by
        refine Classical.byContradiction fun hne => ?_
        have hle : l + 1 ≤ m.word 0 / 2 := by omega
        by_cases e2 : l + 1 = m.word 0 / 2
        · rw [e2] at hp2
          have := (hd.cur _ hp2.1 hp2.2).1
          rw [← e2] at this
          omega
        · have hlt : 2 ^ (l + 1 + 1) ≤ 2 ^ (m.word 0 / 2) := two_le (by omega)
          have := hd.old (place (l + 1) shard) (by omega) (by omega)
          have := frz_pos
          omega
      have hodd : m.word 0 % 2 = 1 := by
        refine Classical.byContradiction fun hne => ?_
        have h0 := two_pos l
        have hpl := hp1
        rw [el] at hpl
        have := (hd.cur _ hpl.1 hpl.2).2 (by omega)
        rw [← el] at this
        omega
      have hcut : cut holds (l + 1) (place (l + 1) shard - 2 ^ (l + 1)) = cut (m.hold (place l shard)) (l + 1) (shard % 2 ^ (l + 1)) := by
        rw [hh]
        congr 1
        unfold place
        omega
      rw [hcut]
      rw [el] at e hf ⊢
      exact has_lay hd hodd hf e c
    · rw [swap_miss e]
      exact Iff.rfl
  | split =>
    unfold stepF
    dsimp only
    split
    · exact Iff.rfl
    split <;> exact Iff.rfl
  | splitSwap d level =>
    obtain ⟨hop, rfl, hl⟩ := hk
    unfold stepF
    dsimp only
    by_cases e : m.word 0 = 2 * level
    · rw [swap_hit e]
      dsimp only
      rw [if_pos rfl]
      show Has (m.put1 0 (2 * level + 1) []) c ↔ _
      rw [← e]
      exact has_split hd _ (by omega) c
    · rw [swap_miss e]
      exact Iff.rfl
  | moveEnd level =>
    obtain ⟨hop, hl, hdl, hdone⟩ := hk
    unfold stepF
    dsimp only
    by_cases e : m.word 0 = 2 * level + 1
    · rw [swap_hit e]
      have el : level = m.word 0 / 2 := by omega
      show Has (m.put1 0 (2 * level + 2) []) c ↔ _
      rw [show 2 * level + 2 = m.word 0 + 1 by omega]
      refine has_moved hd _ (by omega) ?_ ?_ c
      · rw [← el]
        intro i hi hi2
        have h01 := two_succ level
        have := (hdone (i - 2 ^ level) (by omega)).1
        rwa [place_self (by omega), show 2 ^ level + (i - 2 ^ level) = i by omega] at this
      · rw [← el]
        intro i hi hi2
        have h01 := two_succ level
        have h02 := two_succ2 level
        by_cases hlt : i - 2 ^ (level + 1) < 2 ^ level
        · have := (hdone (i - 2 ^ (level + 1)) hlt).2.1
          rwa [place_self (by omega), show 2 ^ (level + 1) + (i - 2 ^ (level + 1)) = i by omega] at this
        · have := (hdone (i - 2 ^ (level + 1) - 2 ^ level) (by omega)).2.2
          rwa [show i - 2 ^ (level + 1) - 2 ^ level + 2 ^ level = i - 2 ^ (level + 1) by omega, place_self (by omega), show 2 ^ (level + 1) + (i - 2 ^ (level + 1)) = i by omega] at this
    · rw [swap_miss e]
      exact Iff.rfl
  | wordLoad word by_ stop t =>
    unfold stepF
    dsimp only
    split
    · rw [stopF_mem]; exact Iff.rfl
    · exact Iff.rfl
  | wordSwap word by_ stop v t =>
    obtain ⟨hk, _⟩ := hk
    have hw : 32 ≤ word ∧ word < 34 := by
      cases t with
      | back t => cases t with
        | done r => have := hk.2.1; unfold COUNT at this; omega
        | evict j s g => have := hk.2.1; unfold COUNT at this; omega
      | room f a th c r => have := hk.1; unfold COUNT at this; omega
      | serial f a th c => have := hk.1; unfold SERIAL at this; omega
    unfold stepF
    dsimp only
    by_cases e : m.word word = v
    · rw [swap_hit e]
      dsimp only
      rw [if_pos rfl, wthenF_mem]
      exact has_num hd _ _ hw.1 hw.2 c
    · rw [swap_miss e]
      exact Iff.rfl
  | put f a t d r => exact absurd rfl (n1 _ _ _ _ _)
  | allow f at_ there d =>
    unfold stepF
    dsimp only
    split
    · rw [leave_mem]; exact Iff.rfl
    · exact Iff.rfl
  | peek d => exact Iff.rfl
  | evictStart => exact Iff.rfl
  | evictClock j shards gone word v cells =>
    unfold stepF
    dsimp only
    split
    · rw [further_mem]; exact Iff.rfl
    · exact Iff.rfl
  | evictSwap j s g w v r n => exact absurd rfl (n2 _ _ _ _ _ _ _)
theorem curHold_wf {m : Mem} (hL : Lies list m) (sum : Nat) : WfL (curHold m sum) := by
  unfold curHold
  split
  · exact (hL.wf _).filter _
  · exact hL.wf _
theorem wf_one {L : List Cell} (h : WfL L) {c d : Cell} (hc : c ∈ L) (hd : d ∈ L) (e : cid c = cid d) : c = d := by
  obtain ⟨i, hi, rfl⟩ := List.getElem_of_mem hc
  obtain ⟨j, hj, rfl⟩ := List.getElem_of_mem hd
  have ho := List.pairwise_iff_getElem.1 h.order
  rcases Nat.lt_trichotomy i j with h1 | h1 | h1
  · have := ho i j hi hj h1
    unfold identLt at this
    unfold cid at e
    rw [e, cmp_self] at this
    omega
  · subst h1; rfl
  · have := ho j i hj hi h1
    unfold identLt at this
    unfold cid at e
    rw [e, cmp_self] at this
    omega
theorem find_congr {L L' : List Cell} (h : WfL L) (h' : WfL L') {pol : Int} {key : List Nat} (hm : ∀ c, cid c = ident pol key → (c ∈ L ↔ c ∈ L')) : findCell L pol key = findCell L' pol key ∧ findThere L pol key = findThere L' pol key := by
  cases e : findThere L pol key with
  | true =>
    obtain ⟨c, _, h2, h3, h4⟩ := there_get e
    have h5 := (hm c h2).1 h4
    cases e' : findThere L' pol key with
    | true =>
      obtain ⟨c', _, g2, g3, g4⟩ := there_get e'
      exact ⟨by rw [h3, g3]; exact wf_one h' h5 g4 (h2.trans g2.symm), rfl⟩
    | false => exact absurd h2 ((not_there h' e').2 c h5)
  | false =>
    have hn := not_there h e
    cases e' : findThere L' pol key with
    | true =>
      obtain ⟨c', _, g2, g3, g4⟩ := there_get e'
      exact absurd g2 (hn.2 c' ((hm c' g2).2 g4))
    | false => exact ⟨by rw [hn.1, (not_there h' e').1], rfl⟩
/-- What counts as an identity's cell. -/
def cellAt (m : Mem) (pol : Int) (key : List Nat) : Cell := findCell (curHold m (sumB (ident pol key))) pol key
def isAt (m : Mem) (pol : Int) (key : List Nat) : Bool := findThere (curHold m (sumB (ident pol key))) pol key
theorem cellAt_congr {m m' : Mem} (h : Lies list m) (h' : Lies list m') (hh : ∀ c, Has m' c ↔ Has m c) (pol : Int) (key : List Nat) : cellAt m' pol key = cellAt m pol key ∧ isAt m' pol key = isAt m pol key := by
  refine find_congr (curHold_wf h' _) (curHold_wf h _) fun c hc => ?_
  have := hh c
  unfold Has idSum at this
  rw [← show cid c = ident c.pol c.key from rfl, hc] at this
  exact this
/-- What is put, where nobody else was meanwhile. -/
theorem has_put {m : Mem} (H : Dir m) {x : Live} {f : Found} {at_ : Nat} {there : Bool} {c : Cell} (hx : x.sum = sumB (ident x.call.pol x.call.key)) (hp : PutP list room m x f at_ there c) (e : m.word f.word = f.v) (hc : m.count < 4611686018427387900) (d : Cell) :
    Has (m.put1 f.word (f.v + 1) (withCell f.cells at_ there c)) d ↔ if cid d = cid c then d = c else Has m d := by
  obtain ⟨hop, hv, ⟨l, hl, hw⟩, hat, hth, hcp⟩ := hp
  have b := place_bd (s := x.sum) hl
  rw [← hw] at b
  have hh := hv.eq e
  have hv1 := hv.v1
  have hv2 := hv.v2
  have hlive : m.live f.word := ⟨by omega, by omega⟩
  have hsm := H.small f.word b.1 b.2
  rw [Nat.mod_eq_of_lt hlive.2, e] at hsm
  have hfz : f.v + 1 < FRZ := by
    have := hsm.1
    have h4 : (f.v : Int) < 4611686018427387900 := by omega
    unfold FRZ
    omega
  have hwith : withCell f.cells at_ there c = withCell f.cells (findAt f.cells c.pol c.key) (findThere f.cells c.pol c.key) c := by rw [hat, hth, hcp.pol, hcp.key]
  unfold Has
  rw [curHold_go H _ b.1 b.2 hlive (by omega) hfz, hwith]
  have hcur : curWord m x.sum = f.word := by rw [hw]; exact curWord_live H hl (by rw [← hw]; exact hlive)
  have hidc : idSum c = x.sum := by rw [hx]; unfold idSum; rw [hcp.pol, hcp.key]
  by_cases ed : cid d = cid c
  · have : idSum d = idSum c := by unfold idSum; unfold cid at ed; rw [ed]
    rw [if_pos ed, this, hidc, if_pos hcur, mem_with hv.lies.wf, if_pos ed]
  · rw [if_neg ed]
    split
    · rename_i ec
      rw [mem_with hv.lies.wf, if_neg ed]
      unfold curHold
      rw [ec, if_neg (by omega), hh]
    · exact Iff.rfl
/-- What a Release is to bring. -/
def giveAt (B : Below) (list : List Pol) (m : Mem) (x : Live) : Reply × Cell := giveF B (polOf list x) (cellAt m x.call.pol x.call.key) x.call.n
def RelK (B : Below) (list : List Pol) (m : Mem) (x : Live) : Kont → Prop
  | .put f at_ there c r => m.word f.word = f.v ∧ there = true ∧ (giveAt B list m x).1.e = 0 ∧ c = (giveAt B list m x).2 ∧ r = (giveAt B list m x).1
  | _ => True
structure RelO (B : Below) (list : List Pol) (m0 : Mem) (x0 : Live) (o : Out) : Prop where
  on : ∀ k, o.1 = .inl k → (∀ c, Has o.2.2 c ↔ Has m0 c) ∧ RelK B list o.2.2 o.2.1 k
  fin : ∀ r, o.1 = .inr r → r = (giveAt B list m0 x0).1 ∧ (((giveAt B list m0 x0).1.e ≠ 0 ∧ ∀ c, Has o.2.2 c ↔ Has m0 c) ∨ ((giveAt B list m0 x0).1.e = 0 ∧ ∀ d, Has o.2.2 d ↔ if cid d = cid (giveAt B list m0 x0).2 then d = (giveAt B list m0 x0).2 else Has m0 d))
theorem RelO.more {B : Below} {m0 m : Mem} {x0 x : Live} {k : Kont} (h1 : ∀ c, Has m c ↔ Has m0 c) (h2 : RelK B list m x k) : RelO B list m0 x0 (more k x m) :=
  ⟨fun k' e => by cases e; exact ⟨h1, h2⟩, fun r e => by cases e⟩
/-- At a shard's live word. -/
theorem rel_entered {B : Below} (hB : Sound B) {m : Mem} {x : Live} {t : Then} {sum level : Nat} (hd : Dir m) (hL : Lies list m) (hx : LiveOk list x) (hop : x.call.op = 3) (ht : TOkP x sum t) (hlev : level ≤ 4) :
    RelO B list m x (enteredF B list room sum (place level sum) (m.word (place level sum)) (m.hold (place level sum)) t x m.touch) := by
  unfold enteredF
  split
  · exact RelO.more (fun c => Iff.rfl) trivial
  · rename_i hw
    have hlv : m.live (place level sum) := ⟨by omega, by omega⟩
    cases t with
    | evict j s g => have := ht.1; omega
    | call =>
      obtain ⟨hop4, hsum⟩ := ht
      have hcur := curHold_live hd hlev hlv
      have hcell : cellAt m x.call.pol x.call.key = findCell (m.hold (place level sum)) x.call.pol x.call.key := by
        unfold cellAt
        rw [← hx.sum, ← hsum, hcur]
      have hg : giveF B (polOf list x) (findCell (m.hold (place level sum)) x.call.pol x.call.key) x.call.n = giveAt B list m x := by unfold giveAt; rw [hcell]
      unfold thenF
      dsimp only
      rw [if_neg (by omega), if_neg (by omega), if_pos hop, hg]
      split
      · rename_i he
        exact ⟨fun k e => (by cases e), fun r e => by cases e; exact ⟨rfl, .inl ⟨he, fun c => Iff.rfl⟩⟩⟩
      · rename_i he
        have he : (giveAt B list m x).1.e = 0 := by simpa using he
        have hne := hB.has _ _ _ he
        have hthere : findThere (m.hold (place level sum)) x.call.pol x.call.key = true := by
          cases ht : findThere (m.hold (place level sum)) x.call.pol x.call.key with
          | true => rfl
          | false =>
            rw [hcell, (not_there (hL.wf _) ht).1] at hne
            exact absurd rfl hne
        rw [hthere]
        unfold putK
        rw [if_pos (by simp)]
        exact RelO.more (fun c => Iff.rfl) ⟨rfl, rfl, he, rfl, rfl⟩
theorem rel_step {B : Below} (hB : Sound B) (T : TabOk list room) {q : Nat} {m : Mem} {x : Live} {k : Kont} (h1 : SInv list room m (claim x k + q)) (h3 : LiveOk list x) (hk : KOk list room m x k) (hc : m.count < 4611686018427387900) (hop : x.call.op = 3) (hr : RelK B list m x k) :
    RelO B list m x (stepF B list room k x m) := by
  have hd := h1.dir
  have hres : x.reserved = false := by
    cases e : x.reserved with
    | false => rfl
    | true => rcases h3.res e with h | h <;> omega
  cases k with
  | find sum t => unfold stepF; dsimp only; split <;> exact RelO.more (fun c => Iff.rfl) trivial
  | enter sum word t =>
    obtain ⟨ht, l, hl, rfl⟩ := hk
    exact rel_entered hB hd h1.lies h3 hop ht hl
  | freeze word t =>
    unfold stepF
    dsimp only
    split
    · refine RelO.more (fun c => Iff.rfl) ?_
      cases t <;> trivial
    · exact RelO.more (fun c => Iff.rfl) trivial
  | freezeSwap word v holds t =>
    have hh := fun c => step_has (B := B) T h1 hk (fun _ _ _ _ _ e => by cases e) (fun _ _ _ _ _ _ _ e => by cases e) c
    unfold stepF at hh ⊢
    dsimp only at hh ⊢
    split
    · rename_i e
      rw [if_pos e] at hh
      refine RelO.more hh ?_
      cases t <;> trivial
    · rename_i e
      rw [if_neg e] at hh
      exact RelO.more hh trivial
  | half level shard holds t =>
    unfold stepF
    dsimp only
    split
    · rename_i hz
      obtain ⟨l, rfl, hl, hdl, hf, hh, ht⟩ := hk
      cases t with
      | find sum t =>
        obtain ⟨ht, rfl⟩ := ht
        unfold hthenF
        dsimp only
        rw [if_neg hz]
        exact rel_entered hB hd h1.lies h3 hop ht (by omega)
      | one l' i h => have := ht.1; omega
      | two l' i => have := ht.1; omega
    · exact RelO.more (fun c => Iff.rfl) trivial
  | halfSwap level shard holds h t =>
    have hh := fun c => step_has (B := B) T h1 hk (fun _ _ _ _ _ e => by cases e) (fun _ _ _ _ _ _ _ e => by cases e) c
    obtain ⟨l, rfl, hl, hdl, hf, hho, ht⟩ := hk
    cases t with
    | find sum t =>
      unfold stepF hthenF at hh ⊢
      dsimp only at hh ⊢
      rw [if_pos rfl] at hh ⊢
      exact RelO.more hh trivial
    | one l' i h => have := ht.1; omega
    | two l' i => have := ht.1; omega
  | split => have : x.call.op = 6 := hk; omega
  | splitSwap d level => have := hk.1; omega
  | moveEnd level => have := hk.1; omega
  | wordLoad word by_ stop t =>
    cases t with
    | back t => cases t with
      | done r => have := hk.2.2.2.2; rw [hres] at this; cases this
      | evict j s g => have := hk.1; omega
    | room f a th c r => have := hk.2.2.2.1; omega
    | serial f a th c => have := hk.2.2.2.1; omega
  | wordSwap word by_ stop v t =>
    obtain ⟨hk, _⟩ := hk
    cases t with
    | back t => cases t with
      | done r => have := hk.2.2.2.2; rw [hres] at this; cases this
      | evict j s g => have := hk.1; omega
    | room f a th c r => have := hk.2.2.2.1; omega
    | serial f a th c => have := hk.2.2.2.1; omega
  | put f at_ there c r =>
    obtain ⟨hw, rfl, he, rfl, rfl⟩ := hr
    have hp := fun d => has_put hd h3.sum hk.1 hw hc d
    unfold stepF
    dsimp only
    rw [swap_hit hw]
    dsimp only
    rw [if_pos rfl, if_pos rfl]
    unfold leave
    rw [hres, if_neg (by simp)]
    exact ⟨fun k e => (by cases e), fun r e => by cases e; exact ⟨rfl, .inr ⟨he, hp⟩⟩⟩
  | allow f at_ there d => have := hk.1; omega
  | peek d => have : x.call.op = 4 := hk; omega
  | evictStart => have : x.call.op = 5 := hk; omega
  | evictClock j shards gone word v cells => have := hk.1.1; omega
  | evictSwap j s g w v r n => have := hk.1.1; omega
theorem giveAt_congr {B : Below} {m m' : Mem} {x x' : Live} (h : Lies list m) (h' : Lies list m') (hh : ∀ c, Has m' c ↔ Has m c) (e : x'.call = x.call) : giveAt B list m' x' = giveAt B list m x := by
  unfold giveAt polOf
  rw [e, (cellAt_congr h h' hh _ _).1]
/-- Alone, a Release brings what is to be given back of the cell that the limiter has. -/
theorem release_alone {B : Below} (hB : Sound B) (T : TabOk list room) {who : Nat} (hw : who < 64) : ∀ (c n : Nat) (s : Sys) (x : Live) (k : Kont) (r : Reply) (s' : Sys), SysOk list room s n → n + c < 4611686018427387900 → s.pd who = some (x, k) → x.call.op = 3 → RelK B list s.m x k → aloneS list room B who c s = some (r, s') →
    r = (giveAt B list s.m x).1 ∧ (((giveAt B list s.m x).1.e ≠ 0 ∧ ∀ c, Has s'.m c ↔ Has s.m c) ∨ ((giveAt B list s.m x).1.e = 0 ∧ ∀ d, Has s'.m d ↔ if cid d = cid (giveAt B list s.m x).2 then d = (giveAt B list s.m x).2 else Has s.m d))
  | 0, _, _, _, _, _, _, _, _, _, _, _, h => by cases h
  | c + 1, n, s, x, k, r, s', h, hn, hp, hop, hr, ha => by
    have h1 := h.step hB T hw (by omega : n < 4611686018427387900) (B := B)
    have ho := h.out hB T hw hp (by omega : n < 4611686018427387900)
    have hi := h.inv
    rw [tot_rest s.pd hw, hp] at hi
    have hl := h.live who x k hw hp
    have hf := h.few
    have hR := rel_step hB T hi hl.1 hl.2 (by omega) hop hr
    have hlies := hi.lies
    unfold aloneS at ha
    have es : stepS list room B s who = stepO who s (stepF B list room k x s.m) := by unfold stepS; rw [hp]
    rw [es] at h1 ha
    have hcall := ho.call
    have hinv := ho.inv
    unfold stepO at h1 ha
    generalize stepF B list room k x s.m = o at *
    obtain ⟨o1, x1, m1⟩ := o
    cases o1 with
    | inl k1 =>
      dsimp only at h1 ha
      rw [if_neg (by simp)] at ha
      obtain ⟨hH, hR1⟩ := hR.on k1 rfl
      have := release_alone hB T hw c (n + 1) ⟨m1, setP s.pd who (some (x1, k1))⟩ x1 k1 r s' h1 (by omega) (setP_self _ _ _) (by rw [hcall]; exact hop) hR1 ha
      have e := giveAt_congr (B := B) (x := x) (x' := x1) hlies hinv.lies hH hcall
      dsimp only at this
      rw [e] at this
      refine ⟨this.1, this.2.imp (fun h => ⟨h.1, fun c => (h.2 c).trans (hH c)⟩) fun h => ⟨h.1, fun d => (h.2 d).trans ?_⟩⟩
      split
      · exact Iff.rfl
      · exact hH d
    | inr r1 =>
      dsimp only at ha
      rw [if_pos rfl] at ha
      cases ha
      exact hR.fin _ rfl
end Go.Proofs.YtemnhpdjoimjbaaGreat.Top
