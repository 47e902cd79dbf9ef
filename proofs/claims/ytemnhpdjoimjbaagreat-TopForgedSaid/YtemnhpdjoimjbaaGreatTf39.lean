import Derived.Test.YtemnhpdjoimjbaaGreatTf07
import Derived.Test.YtemnhpdjoimjbaaGreatTf38
import Derived.Test.YtemnhpdjoimjbaaGreatTf18
import Derived.Test.YtemnhpdjoimjbaaGreatTf22
section
namespace Go.Proofs.YtemnhpdjoimjbaaGreat.Top
set_option linter.unusedVariables false
def offT : Then → Nat
  | .call => 24
  | .evict j shards _ => (shards - 1 - j) * 24
def lvC (m : Mem) (l : Nat) : Nat := if m.word 0 = 2 * l + 1 then 0 else 70
def stC (m : Mem) (f : Found) : Nat := if m.word f.word = f.v then 0 else 70
def costF (m : Mem) (t : FThen) (c : Nat) : Nat := match t with
  | .find level _ t => offT t + lvC m level + c
  | .move level i => (2 ^ level - i) * 24 + c
def costH (m : Mem) (level : Nat) (t : HThen) (c : Nat) : Nat := match t with
  | .find _ t => offT t + lvC m (level - 1) + (c + 4)
  | .one l i _ => (2 ^ l - i) * 24 + (c + 4)
  | .two l i => (2 ^ l - i) * 24 + c
def costW (m : Mem) (t : WThen) (c : Nat) : Nat := match t with
  | .back (.done _) => 5 + c
  | .back (.evict j shards _) => (shards - 1 - j) * 24 + 2 + c
  | .room f _ _ _ _ => 13 + c + stC m f
  | .serial f _ _ _ => 17 + c + stC m f
/-- A bound of the steps that are still to come, where nobody else steps. -/
def cost (m : Mem) : Kont → Nat
  | .find _ t => offT t + 20
  | .enter _ word t => offT t + 9 + (if 1 ≤ m.word word ∧ m.word word < FRZ then 0 else 70)
  | .freeze _ t => costF m t 17
  | .freezeSwap word v _ t => costF m t (if m.word word = v then 15 else 18)
  | .half level _ _ t => costH m level t 9
  | .halfSwap level _ _ _ t => costH m level t 7
  | .split => 300
  | .splitSwap d _ => if m.word 0 = d then 290 else 310
  | .moveEnd _ => 1
  | .wordLoad _ _ _ t => costW m t 1
  | .wordSwap word _ _ v t => costW m t (if m.word word = v then 0 else 2)
  | .put f _ _ _ _ => 10 + stC m f
  | .allow f _ _ _ => 20 + stC m f
  | .peek _ => 2
  | .evictStart => 400
  | .evictClock j shards _ _ _ _ => (shards - 1 - j) * 24 + 7
  | .evictSwap j shards _ _ _ _ _ => (shards - 1 - j) * 24 + 5
def costO (o : Out) : Nat := match o.1 with
  | .inl k => cost o.2.2 k
  | .inr _ => 0
variable {list : List Pol} {room : Nat}
theorem lvC_le (m : Mem) (l : Nat) : lvC m l ≤ 70 := by unfold lvC; split <;> omega
theorem stC_le (m : Mem) (f : Found) : stC m f ≤ 70 := by unfold stC; split <;> omega
theorem offT_le {x : Live} {s : Nat} {t : Then} (h : TOkP x s t) : offT t ≤ 360 := by
  cases t with
  | call => decide
  | evict j shards gone => have := h.2.2.2.1; show (shards - 1 - j) * 24 ≤ 360; omega
theorem pow8 {l : Nat} (h : l ≤ 3) : 2 ^ l ≤ 8 := two_le h
theorem cost_le {m : Mem} {x : Live} {k : Kont} (h : KOk list room m x k) : cost m k ≤ 500 := by
  cases k with
  | find sum t => have := offT_le h; show offT t + 20 ≤ 500; omega
  | enter sum word t => have := offT_le h.1; show offT t + 9 + _ ≤ 500; split <;> omega
  | freeze word t =>
    cases t with
    | find level sum t => have := offT_le h.1; have := lvC_le m level; show offT t + lvC m level + 17 ≤ 500; omega
    | move level i => have := pow8 h.2.1; show (2 ^ level - i) * 24 + 17 ≤ 500; omega
  | freezeSwap word v holds t =>
    cases t with
    | find level sum t => have := offT_le h.1.1; have := lvC_le m level; show offT t + lvC m level + _ ≤ 500; split <;> omega
    | move level i => have := pow8 h.1.2.1; show (2 ^ level - i) * 24 + _ ≤ 500; split <;> omega
  | half level shard holds t =>
    obtain ⟨l, h1, h2, h3, h4, h5, h6⟩ := h
    cases t with
    | find sum t => have := offT_le h6.1; have := lvC_le m (level - 1); show offT t + lvC m (level - 1) + 13 ≤ 500; omega
    | one l' i h => have := pow8 h2; have := h6.2.1; subst this; show (2 ^ l' - i) * 24 + 13 ≤ 500; omega
    | two l' i => have := pow8 h2; have := h6.2.1; subst this; show (2 ^ l' - i) * 24 + 9 ≤ 500; omega
  | halfSwap level shard holds hh t =>
    obtain ⟨l, h1, h2, h3, h4, h5, h6⟩ := h
    cases t with
    | find sum t => have := offT_le h6.1; have := lvC_le m (level - 1); show offT t + lvC m (level - 1) + 11 ≤ 500; omega
    | one l' i h => have := pow8 h2; have := h6.2.1; subst this; show (2 ^ l' - i) * 24 + 11 ≤ 500; omega
    | two l' i => have := pow8 h2; have := h6.2.1; subst this; show (2 ^ l' - i) * 24 + 7 ≤ 500; omega
  | split => show 300 ≤ 500; decide
  | splitSwap d level => show (if m.word 0 = d then 290 else 310) ≤ 500; split <;> omega
  | moveEnd level => show 1 ≤ 500; decide
  | wordLoad word by_ stop t =>
    cases t with
    | back t => cases t with
      | done r => show 6 ≤ 500; decide
      | evict j shards gone => have := h.2.2.2.2.2.1; show (shards - 1 - j) * 24 + 2 + 1 ≤ 500; omega
    | room f at_ there c r => have := stC_le m f; show 13 + 1 + stC m f ≤ 500; omega
    | serial f at_ there c => have := stC_le m f; show 17 + 1 + stC m f ≤ 500; omega
  | wordSwap word by_ stop v t =>
    cases t with
    | back t => cases t with
      | done r => show 5 + _ ≤ 500; split <;> omega
      | evict j shards gone => have := h.1.2.2.2.2.2.1; show (shards - 1 - j) * 24 + 2 + _ ≤ 500; split <;> omega
    | room f at_ there c r => have := stC_le m f; show 13 + _ + stC m f ≤ 500; split <;> omega
    | serial f at_ there c => have := stC_le m f; show 17 + _ + stC m f ≤ 500; split <;> omega
  | put f at_ there c r => have := stC_le m f; show 10 + stC m f ≤ 500; omega
  | allow f at_ there c => have := stC_le m f; show 20 + stC m f ≤ 500; omega
  | peek c => show 2 ≤ 500; decide
  | evictStart => show 400 ≤ 500; decide
  | evictClock j shards gone word v cells => have := h.1.2.2.2.1; show (shards - 1 - j) * 24 + 7 ≤ 500; omega
  | evictSwap j shards gone word v rest n => have := h.1.2.2.2.1; show (shards - 1 - j) * 24 + 5 ≤ 500; omega
theorem costO_fin (r : Reply) (x : Live) (m : Mem) : costO (fin r x m) = 0 := rfl
theorem costO_more (k : Kont) (x : Live) (m : Mem) : costO (more k x m) = cost m k := rfl
theorem cost_leave (r : Reply) (x : Live) (m : Mem) : costO (leave r x m) ≤ 6 := by
  unfold leave; split
  · exact Nat.le_refl 6
  · exact Nat.zero_le _
theorem cost_further {j shards : Nat} (gone : Int) (x : Live) (m : Mem) (h : j < shards) : costO (further j shards gone x m) ≤ (shards - 1 - j) * 24 := by
  unfold further; split
  · exact Nat.zero_le _
  · show (shards - 1 - (j + 1)) * 24 + 20 ≤ _; omega
theorem cost_putK (room : Nat) (f : Found) (at_ : Nat) (there : Bool) (c : Cell) (r : Reply) (x : Live) (m : Mem) : costO (more (putK room f at_ there c r x) x m) ≤ 14 + stC m f := by
  rw [costO_more]; unfold putK; split
  · show 10 + stC m f ≤ _; omega
  · show 13 + 1 + stC m f ≤ _; omega
theorem cost_then {B : Below} {m : Mem} {x : Live} {t : Then} {sum word : Nat} {h : List Cell} (ht : TOkP x sum t) : costO (thenF B list room t word (m.word word) h x m.touch) < offT t + 9 := by
  have hst : stC m.touch ⟨word, m.word word, h⟩ = 0 := by unfold stC; exact if_pos rfl
  cases t with
  | evict j shards gone =>
    unfold thenF
    dsimp only
    have := cost_further gone x m.touch ht.2.2.1
    split
    · show costO (further j shards gone x m.touch) < (shards - 1 - j) * 24 + 9; omega
    · show (shards - 1 - j) * 24 + 7 < (shards - 1 - j) * 24 + 9; omega
  | call =>
    show _ < 24 + 9
    unfold thenF
    dsimp only
    split
    · show 20 + stC m.touch _ < 33; rw [hst]; decide
    split
    · unfold acquireF
      split
      · have := cost_leave (err 9) x m.touch; omega
      split
      · have := cost_putK room ⟨word, m.word word, h⟩ (findAt h x.call.pol x.call.key) (findThere h x.call.pol x.call.key) (takeF B (polOf list x) (findCell h x.call.pol x.call.key) x.serial).2 (takeF B (polOf list x) (findCell h x.call.pol x.call.key) x.serial).1 x m.touch
        rw [hst] at this
        omega
      · show 17 + 1 + stC m.touch _ < 33; rw [hst]; decide
    split
    · split
      · rw [costO_fin]; decide
      · have := cost_putK room ⟨word, m.word word, h⟩ (findAt h x.call.pol x.call.key) (findThere h x.call.pol x.call.key) (giveF B (polOf list x) (findCell h x.call.pol x.call.key) x.call.n).2 (giveF B (polOf list x) (findCell h x.call.pol x.call.key) x.call.n).1 x m.touch
        rw [hst] at this
        omega
    split
    · rw [costO_fin]; decide
    · show 2 < 33; decide
theorem cost_entered {B : Below} {m : Mem} {x : Live} {t : Then} {sum word : Nat} {h : List Cell} (ht : TOkP x sum t) : costO (enteredF B list room sum word (m.word word) h t x m.touch) < offT t + 9 + (if 1 ≤ m.word word ∧ m.word word < FRZ then 0 else 70) := by
  unfold enteredF
  split
  · rename_i hv
    rw [if_neg (by omega)]
    show offT t + 20 < _
    omega
  · rename_i hv
    rw [if_pos (by omega)]
    exact cost_then ht
theorem cost_moveK (m : Mem) {level i : Nat} (h : i ≤ 2 ^ level) : cost m (moveK level i) ≤ (2 ^ level - i) * 24 + 17 := by
  unfold moveK; split
  · show 1 ≤ _; omega
  · exact Nat.le_refl _
theorem cost_fthen (m : Mem) (t : FThen) (L : List Cell) : cost m (fthenF t L) + 2 = costF m t 15 := by
  cases t with
  | find level sum t => show offT t + lvC m (level + 1 - 1) + 13 + 2 = offT t + lvC m level + 15; rw [Nat.add_sub_cancel]
  | move level i => rfl
theorem costF_mono (m : Mem) (t : FThen) {a b : Nat} (h : a < b) : costF m t a < costF m t b := by
  cases t with
  | find level sum t => show offT t + lvC m level + a < offT t + lvC m level + b; omega
  | move level i => show (2 ^ level - i) * 24 + a < (2 ^ level - i) * 24 + b; omega
theorem costF_dir {m m' : Mem} (h : m'.word 0 = m.word 0) (t : FThen) (c : Nat) : costF m' t c = costF m t c := by
  cases t with
  | find level sum t => show offT t + lvC m' level + c = _; unfold lvC; rw [h]; rfl
  | move level i => rfl
theorem costW_mono (m : Mem) (t : WThen) {a b : Nat} (h : a < b) : costW m t a < costW m t b := by
  cases t with
  | back t => cases t with
    | done r => show 5 + a < 5 + b; omega
    | evict j shards gone => show (shards - 1 - j) * 24 + 2 + a < (shards - 1 - j) * 24 + 2 + b; omega
  | room f at_ there c r => show 13 + a + stC m f < 13 + b + stC m f; omega
  | serial f at_ there c => show 17 + a + stC m f < 17 + b + stC m f; omega
set_option maxHeartbeats 1000000 in
/-- A step of a call alone brings it nearer to its end. -/
theorem step_cost {B : Below} {q : Nat} {m : Mem} {x : Live} {k : Kont} (h1 : SInv list room m (claim x k + q)) (h3 : LiveOk list x) (hk : KOk list room m x k) :
    costO (stepF B list room k x m) < cost m k := by
  have hd := h1.dir
  cases k with
  | find sum t =>
    unfold stepF
    dsimp only
    split
    · rename_i he
      have hpl := place_lt (m.word 0 / 2) sum
      have h := hd.cur _ hpl.1 hpl.2
      show offT t + 9 + (if 1 ≤ m.word (place (m.word 0 / 2) sum) ∧ m.word (place (m.word 0 / 2) sum) < FRZ then 0 else 70) < offT t + 20
      rw [if_pos ⟨h.1, h.2 he⟩]
      omega
    · show offT t + lvC m (m.word 0 / 2) + 17 < offT t + 20
      unfold lvC
      rw [if_pos (by omega)]
      omega
  | enter sum word t => exact cost_entered hk.1
  | freeze word t =>
    unfold stepF
    dsimp only
    split
    · have := cost_fthen m.touch t (m.hold word)
      have e : costF m.touch t 15 = costF m t 15 := costF_dir rfl t 15
      have := costF_mono m t (show 15 < 17 by decide)
      show cost m.touch _ < costF m t 17
      omega
    · show costF m.touch t (if m.word word = m.word word then 15 else 18) < costF m t 17
      rw [if_pos rfl, costF_dir (show m.touch.word 0 = m.word 0 from rfl)]
      exact costF_mono m t (by decide)
  | freezeSwap word v holds t =>
    unfold stepF
    dsimp only
    have hw : 1 ≤ word ∧ word < 32 := by
      obtain ⟨hk, _⟩ := hk
      cases t with
      | find level sum t => rw [hk.2.2.1]; exact place_bd (by have := hk.2.1; omega)
      | move level i => rw [hk.2.2.2.1]; exact place_bd (by have := hk.2.1; omega)
    by_cases e : m.word word = v
    · rw [swap_hit e]
      dsimp only
      rw [if_pos rfl]
      have := cost_fthen (m.put1 word (v + FRZ) holds) t holds
      have e0 : (m.put1 word (v + FRZ) holds).word 0 = m.word 0 := put1_zero hd hw.1 hw.2 _ _
      rw [costF_dir e0] at this
      show cost (m.put1 word (v + FRZ) holds) (fthenF t holds) < costF m t (if m.word word = v then 15 else 18)
      rw [if_pos e]
      omega
    · rw [swap_miss e]
      show costF m.touch t 17 < costF m t (if m.word word = v then 15 else 18)
      rw [if_neg e, costF_dir (show m.touch.word 0 = m.word 0 from rfl)]
      exact costF_mono m t (by decide)
  | half level shard holds t =>
    obtain ⟨l, rfl, hl, hdl, hf, hh, ht⟩ := hk
    unfold stepF
    dsimp only
    split
    · rename_i hz
      cases t with
      | find sum t =>
        obtain ⟨ht, rfl⟩ := ht
        unfold hthenF
        dsimp only
        rw [if_neg hz]
        have hc := cost_entered (B := B) (list := list) (room := room) (m := m) (word := place (l + 1) shard) (h := m.hold (place (l + 1) shard)) ht
        show _ < offT t + lvC m l + 13
        by_cases e : m.word 0 = 2 * l + 1
        · have e2 : m.word 0 / 2 = l := by omega
          have hpl := place_lt (l + 1) shard
          have hn := hd.nxt (place (l + 1) shard) (by rw [e2]; exact hpl.1) (place_bd (by omega)).2
          rw [if_pos ⟨by omega, hn.1⟩] at hc
          omega
        · unfold lvC
          rw [if_neg e]
          have : (if 1 ≤ m.word (place (l + 1) shard) ∧ m.word (place (l + 1) shard) < FRZ then 0 else 70) ≤ 70 := by split <;> omega
          omega
      | one l' i h => show (2 ^ l' - i) * 24 + 9 < (2 ^ l' - i) * 24 + 13; omega
      | two l' i =>
        obtain ⟨a, rfl, rfl, d, e, f⟩ := ht
        have := cost_moveK m.touch (show i + 1 ≤ 2 ^ l' by omega)
        show cost m.touch (moveK l' (i + 1)) < (2 ^ l' - i) * 24 + 9
        omega
    · show costH m.touch (l + 1) t 7 < costH m (l + 1) t 9
      cases t with
      | find sum t => show offT t + lvC m l + 11 < offT t + lvC m l + 13; omega
      | one l' i h => show (2 ^ l' - i) * 24 + 11 < (2 ^ l' - i) * 24 + 13; omega
      | two l' i => show (2 ^ l' - i) * 24 + 7 < (2 ^ l' - i) * 24 + 9; omega
  | halfSwap level shard holds h t =>
    obtain ⟨l, rfl, hl, hdl, hf, hh, ht⟩ := hk
    have b := place_bd (s := shard) (show l + 1 ≤ 4 by omega)
    unfold stepF
    dsimp only
    cases t with
    | find sum t =>
      have hstep : costO (hthenF B list room (.find sum t) (place (l + 1) shard) 0 h x (m.swap (place (l + 1) shard) 0 1 (cut holds (l + 1) (place (l + 1) shard - 2 ^ (l + 1)))).2) = offT t + 9 + (if 1 ≤ (m.swap (place (l + 1) shard) 0 1 (cut holds (l + 1) (place (l + 1) shard - 2 ^ (l + 1)))).2.word (place (l + 1) shard) ∧ (m.swap (place (l + 1) shard) 0 1 (cut holds (l + 1) (place (l + 1) shard - 2 ^ (l + 1)))).2.word (place (l + 1) shard) < FRZ then 0 else 70) := rfl
      rw [hstep]
      show _ < offT t + lvC m l + 11
      by_cases e : m.word (place (l + 1) shard) = 0
      · rw [swap_hit e]
        dsimp only
        have hwl : place (l + 1) shard < m.words.length := by rw [hd.nw]; omega
        rw [put1_word hwl, if_pos rfl, if_pos (by decide)]
        omega
      · rw [swap_miss e]
        dsimp only
        rw [touch_word]
        by_cases e1 : m.word 0 = 2 * l + 1
        · have e2 : m.word 0 / 2 = l := by omega
          have hpl := place_lt (l + 1) shard
          have hn := hd.nxt (place (l + 1) shard) (by rw [e2]; exact hpl.1) b.2
          rw [if_pos ⟨by omega, hn.1⟩]
          omega
        · unfold lvC
          rw [if_neg e1]
          split <;> omega
    | one l' i h => show (2 ^ l' - i) * 24 + 9 < (2 ^ l' - i) * 24 + 11; omega
    | two l' i =>
      obtain ⟨a, rfl, rfl, d, e, f⟩ := ht
      have := cost_moveK (m.swap (place (l' + 1) (i + 2 ^ l')) 0 1 (cut holds (l' + 1) (place (l' + 1) (i + 2 ^ l') - 2 ^ (l' + 1)))).2 (show i + 1 ≤ 2 ^ l' by omega)
      refine Nat.lt_of_le_of_lt this ?_
      show _ < (2 ^ l' - i) * 24 + 7
      omega
  | split =>
    unfold stepF
    dsimp only
    split
    · rename_i ho
      have := cost_moveK m.touch (Nat.zero_le (2 ^ (m.word 0 / 2)))
      have := pow8 (hd.lvl3 ho)
      show cost m.touch (moveK (m.word 0 / 2) 0) < 300
      omega
    split
    · show 0 < 300; decide
    · show (if m.word 0 = m.word 0 then 290 else 310) < 300
      rw [if_pos rfl]
      decide
  | splitSwap d level =>
    unfold stepF
    dsimp only
    by_cases e : m.word 0 = d
    · rw [swap_hit e]
      dsimp only
      rw [if_pos rfl]
      have hmk := cost_moveK (m.put1 0 (d + 1) []) (Nat.zero_le (2 ^ level))
      have := pow8 hk.2.2
      refine Nat.lt_of_le_of_lt hmk ?_
      show _ < (if m.word 0 = d then 290 else 310)
      rw [if_pos e]
      omega
    · rw [swap_miss e]
      show 300 < (if m.word 0 = d then 290 else 310)
      rw [if_neg e]
      decide
  | moveEnd level => exact Nat.zero_lt_one
  | wordLoad word by_ stop t =>
    unfold stepF
    dsimp only
    split
    · cases t with
      | back t => cases t with
        | done r => show 0 < 6; decide
        | evict j shards gone => show 0 < (shards - 1 - j) * 24 + 2 + 1; omega
      | room f at_ there c r => show 0 < 13 + 1 + stC m f; omega
      | serial f at_ there c =>
        have := cost_leave (err 5) x m.touch
        show costO (leave (err 5) x m.touch) < 17 + 1 + stC m f
        omega
    · show costW m.touch t (if m.word word = m.word word then 0 else 2) < costW m t 1
      rw [if_pos rfl]
      exact costW_mono m t (by decide)
  | wordSwap word by_ stop v t =>
    unfold stepF
    dsimp only
    by_cases e : m.word word = v
    · rw [swap_hit e]
      dsimp only
      rw [if_pos rfl]
      show _ < costW m t (if m.word word = v then 0 else 2)
      rw [if_pos e]
      cases t with
      | back t => cases t with
        | done r => show 0 < 5 + 0; decide
        | evict j shards gone =>
          have := cost_further gone x (m.put1 word ((v + by_) % U64) []) hk.1.2.2.2.2.1
          show costO (further j shards gone x (m.put1 word ((v + by_) % U64) [])) < (shards - 1 - j) * 24 + 2 + 0
          omega
      | room f at_ there c r =>
        obtain ⟨⟨rfl, _, _, _, _, _, hp⟩, _⟩ := hk
        obtain ⟨_, _, ⟨l, hl, hw⟩, _⟩ := hp
        have b := place_bd (s := x.sum) hl
        rw [← hw] at b
        have hwl : COUNT < m.words.length := by rw [hd.nw]; decide
        show 10 + stC (m.put1 COUNT ((v + by_) % U64) []) f < 13 + 0 + stC m f
        have : stC (m.put1 COUNT ((v + by_) % U64) []) f = stC m f := by
          unfold stC
          rw [put1_word hwl, if_neg (show ¬ f.word = COUNT by unfold COUNT; omega)]
        rw [this]
        omega
      | serial f at_ there c =>
        obtain ⟨⟨rfl, _, _, _, hp⟩, _⟩ := hk
        obtain ⟨_, _, ⟨l, hl, hw⟩, _⟩ := hp
        have b := place_bd (s := x.sum) hl
        rw [← hw] at b
        have hwl : SERIAL < m.words.length := by rw [hd.nw]; decide
        have : stC (m.put1 SERIAL ((v + by_) % U64) []) f = stC m f := by
          unfold stC
          rw [put1_word hwl, if_neg (show ¬ f.word = SERIAL by unfold SERIAL; omega)]
        unfold wthenF
        have hp := cost_putK room f at_ there (takeF B (polOf list x) c (((v + by_) % U64 : Nat) : Int)).2 (takeF B (polOf list x) c (((v + by_) % U64 : Nat) : Int)).1 { x with serial := (((v + by_) % U64 : Nat) : Int) } (m.put1 SERIAL ((v + by_) % U64) [])
        rw [this] at hp
        refine Nat.lt_of_le_of_lt hp ?_
        show _ < 17 + 0 + stC m f
        omega
    · rw [swap_miss e]
      dsimp only
      rw [if_neg (by simp)]
      show costW m.touch t 1 < costW m t (if m.word word = v then 0 else 2)
      rw [if_neg e]
      exact costW_mono m t (by decide)
  | put f at_ there c r =>
    unfold stepF
    dsimp only
    by_cases e : m.word f.word = f.v
    · rw [swap_hit e]
      dsimp only
      rw [if_pos rfl]
      split
      · have := cost_leave r x (m.put1 f.word (f.v + 1) (withCell f.cells at_ there c))
        show _ < 10 + stC m f
        omega
      · rw [costO_fin]
        show 0 < 10 + stC m f
        omega
    · rw [swap_miss e]
      show 24 + 20 < 10 + stC m f
      unfold stC
      rw [if_neg e]
      decide
  | allow f at_ there c =>
    unfold stepF
    dsimp only
    have hst : stC m.touch f = stC m f := rfl
    split
    · have := cost_leave ⟨0, (B.decide (polOf list x) c.tat m.clock x.call.n).1, (B.decide (polOf list x) c.tat m.clock x.call.n).2.2.1, (B.decide (polOf list x) c.tat m.clock x.call.n).2.2.2, 0, m.clock⟩ x m.touch
      show _ < 20 + stC m f
      omega
    · have := cost_putK room f at_ there { c with tat := (B.decide (polOf list x) c.tat m.clock x.call.n).2.1 } ⟨0, (B.decide (polOf list x) c.tat m.clock x.call.n).1, (B.decide (polOf list x) c.tat m.clock x.call.n).2.2.1, (B.decide (polOf list x) c.tat m.clock x.call.n).2.2.2, 0, m.clock⟩ x m.touch
      show _ < 20 + stC m f
      omega
  | peek c => show 0 < 2; decide
  | evictStart =>
    have := hd.d8
    have h16 : 2 ^ ((m.word 0 + 1) / 2) ≤ 16 := two_le (show (m.word 0 + 1) / 2 ≤ 4 by omega)
    show (2 ^ ((m.word 0 + 1) / 2) - 1 - 0) * 24 + 20 < 400
    omega
  | evictClock j shards gone word v cells =>
    unfold stepF
    dsimp only
    split
    · have := cost_further gone x m.touch hk.1.2.2.1
      show _ < (shards - 1 - j) * 24 + 7
      omega
    · show (shards - 1 - j) * 24 + 5 < (shards - 1 - j) * 24 + 7
      omega
  | evictSwap j shards gone word v rest n =>
    unfold stepF
    dsimp only
    by_cases e : m.word word = v
    · rw [swap_hit e]
      dsimp only
      rw [if_pos rfl]
      show (shards - 1 - j) * 24 + 2 + 1 < (shards - 1 - j) * 24 + 5
      omega
    · rw [swap_miss e]
      have := cost_further gone x m.touch hk.1.2.2.1
      show costO (further j shards gone x m.touch) < (shards - 1 - j) * 24 + 5
      omega
end Go.Proofs.YtemnhpdjoimjbaaGreat.Top
end
section
namespace Go.Proofs.YtemnhpdjoimjbaaGreat
open Go.RowKit Top
set_option linter.unusedVariables false
/-- Whose call it is. -/
structure EOk (E : Env) (x : Live) : Prop where
  who0 : 0 ≤ E.who
  who1 : E.who < 64
  pol : x.call.op ≤ 4 → E.A.list[x.call.pol.toNat]? = some E.pol
theorem EOk.good {E : Env} {x : Live} (T : TabOk E.A.list E.A.room) (h : EOk E x) (hl : LiveOk E.A.list x) (ho : x.call.op ≤ 4) : Good E x := by
  obtain ⟨p, hp, hlt⟩ := hl.pol ho
  have he := h.pol ho
  rw [hp, Int.toNat_natCast] at he
  have hpo : polOf E.A.list x = E.pol := by
    unfold polOf
    rw [hp, Int.toNat_natCast, List.getD_eq_getElem?_getD, he]; rfl
  have := T.few
  have hg : PolGood E.pol := T.good _ (List.mem_of_getElem? he)
  exact ⟨h.who0, h.who1, ⟨p, hp, he⟩, by omega, hl.klen ho, hl.op0, ho, hl.n, hl.n64, hl.se0, hl.se1, hg, fun e => by rw [← hpo]; exact hl.kind1 e, fun e => by rw [← hpo]; exact hl.kind2 e⟩
theorem EOk.t {E : Env} {x : Live} (T : TabOk E.A.list E.A.room) (h : EOk E x) (hl : LiveOk E.A.list x) {sum : Nat} {t : Then} (ht : TOkP x sum t) : TOk E x t := by
  cases t with
  | call => exact h.good T hl ht.1
  | evict j shards gone =>
    obtain ⟨h1, h2, h3, h4, h5, h6⟩ := ht
    exact ⟨by omega, by omega⟩
theorem place34 {l s : Nat} (h : l ≤ 4) : place l s < 34 := by have := (place_bd (s := s) h).2; omega
theorem fok_bd {m : Mem} {x : Live} {word : Nat} {t : FThen} (h : FOk m x word t) : word < 34 ∧ levelOf t ≤ 4 ∧ ∀ level i, t = .move level i → i < 32 := by
  cases t with
  | find level sum t =>
    obtain ⟨h1, h2, rfl, h4⟩ := h
    exact ⟨place34 (by omega), by show level ≤ 4; omega, fun _ _ e => by cases e⟩
  | move level i =>
    obtain ⟨h1, h2, h3, rfl, h4⟩ := h
    refine ⟨place34 (by omega), by show level ≤ 4; omega, fun _ _ e => ?_⟩
    cases e
    have := two_le (show level ≤ 3 from h2)
    omega
theorem hok_bd {E : Env} {m : Mem} {x : Live} (T : TabOk E.A.list E.A.room) (he : EOk E x) (hl : LiveOk E.A.list x) {level shard : Nat} {holds : List Cell} {t : HThen} (h : HOkP m x level shard holds t) : HOk E x t ∧ place level shard < 34 ∧ level ≤ 4 := by
  obtain ⟨l, rfl, h2, h3, h4, h5, h6⟩ := h
  refine ⟨?_, place34 (by omega), by omega⟩
  cases t with
  | find sum t => exact he.t T hl h6.1
  | one l' i h => obtain ⟨_, rfl, _, h7, _⟩ := h6; exact ⟨by omega, h7⟩
  | two l' i => obtain ⟨_, rfl, _, h7, _⟩ := h6; exact ⟨by omega, h7⟩
set_option maxHeartbeats 1000000 in
/-- Every next access. -/
theorem step_any (B : Nat) (E : Env) (x : Live) (m : Mem) (k : Kont) (cl : Nat) (v : Value) (w : World) (T : TabOk E.A.list E.A.room) (hi : SInv E.A.list E.A.room m cl) (hl : LiveOk E.A.list x) (hk : KOk E.A.list E.A.room m x k) (he : EOk E x) (hc : m.count < 4611686018427387900) (hB : B ≤ E.x) (hv : KontAt w E v k) (hs : St w B E.A m) (hcl : CallAt w E x) :
    ∃ f ps, v = .func (.func f) #[] ps ∧ Enters f ∧ Calls Tryz.prog f ps w (ORes w B E (stepF BlV E.A.list E.A.room k x m)) := by
  have ok : E.Ok m := ⟨he.who0, he.who1, by omega⟩
  have h8 := hi.dir.d8
  have hT := then_spec BlV books_V
  have hr2 := T.room2
  cases k with
  | find sum t => exact step_find BlV B E x m sum t v w hv hs hcl ok h8
  | enter sum word t =>
    obtain ⟨ht, l, h4, rfl⟩ := hk
    exact step_enter BlV hT B E x m sum _ t v w hv (he.t T hl ht) hs hcl ok (place34 h4)
  | freeze word t =>
    obtain ⟨h1, h2, h3⟩ := fok_bd hk
    obtain ⟨f, ps, e, hC⟩ := step_freeze BlV E.A.list E.A.room B E x m word t v w hv hs hcl ok h1 h2 h3
    refine ⟨f, ps, e, ?_, hC⟩
    obtain ⟨b0, b1, b2, b3, tv, e', _⟩ := hv
    rw [e] at e'
    injection e' with e1 _ _
    injection e1 with e1
    subst e1
    exact enters_of Tryz.func155 (by kernel_rfl) rfl
  | freezeSwap word u holds t =>
    obtain ⟨h1, h2, h3⟩ := fok_bd hk.1
    exact step_freezeSwap BlV B E x m word u holds t v w hv hs hcl ok h1 hk.2.v2 h2 h3
  | half level shard holds t =>
    obtain ⟨h1, h2, h3⟩ := hok_bd T he hl hk
    exact step_half BlV hT B E x m level shard holds t v w hv h1 hs hcl ok h2
  | halfSwap level shard holds h t =>
    obtain ⟨h1, h2, h3⟩ := hok_bd T he hl hk
    exact step_halfSwap BlV hT cut_any B E x m level shard holds h t v w hv h1 hs hcl ok h2 h3
  | split => exact step_split BlV B E x m v w hv hs hcl ok h8
  | splitSwap d level =>
    obtain ⟨h1, rfl, h3⟩ := hk
    exact step_splitSwap BlV B E x m _ level v w hv hs hcl ok (by omega) (by omega)
  | moveEnd level =>
    exact step_moveEnd BlV B E x m level v w hv hs hcl ok (by have := hk.2.1; omega)
  | wordLoad word by_ stop t =>
    have hw : word < 34 := by
      cases t with
      | back t => cases t with
        | done r => have := hk.2.1; unfold COUNT at this; omega
        | evict j s g => have := hk.2.1; unfold COUNT at this; omega
      | room f a th c r => have := hk.1; unfold COUNT at this; omega
      | serial f a th c => have := hk.1; unfold SERIAL at this; omega
    refine step_wordLoad BlV B E x m word by_ stop t v w hv hs hcl ok hw fun e b eb => ?_
    subst eb
    have h32 := hi.cnt2
    have hst : word = 32 ∧ stop = NEVER := by
      cases b with
      | done r => exact ⟨hk.2.1, hk.2.2.2.1⟩
      | evict j s g => exact ⟨hk.2.1, hk.2.2.1⟩
    obtain ⟨rfl, rfl⟩ := hst
    unfold NEVER at e
    omega
  | wordSwap word by_ stop u t =>
    obtain ⟨h1, h2, h3, h4⟩ := hk
    have hw : word < 34 := by
      cases t with
      | back t => cases t with
        | done r => have := h1.2.1; unfold COUNT at this; omega
        | evict j s g => have := h1.2.1; unfold COUNT at this; omega
      | room f a th c r => have := h1.1; unfold COUNT at this; omega
      | serial f a th c => have := h1.1; unfold SERIAL at this; omega
    refine step_wordSwap BlV (take_spec BlV books_V) B E x m word by_ stop u t v w hv ?_ hs hcl hB ok hw
    cases t with
    | back t => cases t with
      | done r => trivial
      | evict j s g =>
        obtain ⟨_, _, _, _, h5, h6, h7, h8⟩ := h1
        exact ⟨by omega, by omega, h7, by omega⟩
    | room f a th c r => trivial
    | serial f a th c =>
      obtain ⟨_, rfl, rfl, h5, h6⟩ := h1
      have h7 := h4 (fun b e => by cases e)
      refine ⟨he.good T hl (by omega), ?_, h5⟩
      unfold U64
      omega
  | put f at_ there c r =>
    obtain ⟨⟨h1, h2, ⟨l, h3, h4⟩, h5⟩, h6⟩ := hk
    have := h2.few
    exact step_put BlV books_V B E x m f at_ there c r v w hv (he.good T hl h1) hs hcl ok (by rw [h4]; exact place34 h3) h2.v2 (by omega)
  | allow f at_ there c =>
    exact step_allow BlV books_V B E x m f at_ there c v w hv (he.good T hl (by have := hk.1; omega)) hk.1 hs hcl ok
  | peek c => 
    exact step_peek BlV books_V B E x m c v w hv (he.good T hl (by have : x.call.op = 4 := hk; omega)) hs hcl ok
  | evictStart => exact step_evictStart BlV B E x m v w hv hs hcl ok h8
  | evictClock j shards gone word u cells =>
    obtain ⟨h1, h2, h3, h4⟩ := hk
    obtain ⟨_, _, h5, h6, _⟩ := h1
    exact step_evictClock B E x m j shards gone word u cells v w hv (by omega) (by omega) hs hcl ok h3 (fun c hc => (h2.lies.perm c hc).1)
  | evictSwap j shards gone word u rest n =>
    obtain ⟨h1, ⟨l, h2, rfl⟩, h3, cells, p, h4, rfl, rfl⟩ := hk
    obtain ⟨_, _, h5, h6, _⟩ := h1
    have := h4.few
    exact step_evictSwap BlV B E x m j shards gone _ u _ _ v w hv (by omega) (by omega) (by omega) hs hcl ok (place34 h2) h4.v2
end Go.Proofs.YtemnhpdjoimjbaaGreat
end
