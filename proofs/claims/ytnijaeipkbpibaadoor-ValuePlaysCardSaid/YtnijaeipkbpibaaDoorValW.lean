/- Package value: its calls over parts, as plain functions. -/
import Derived.Test.YtnijaeipkbpibaaDoorHpX
import Derived.Test.YtnijaeipkbpibaaDoorErrsT
import Derived.Test.YtnijaeipkbpibaaDoorSepK
set_option linter.unusedVariables false
namespace Go.Proofs.YtnijaeipkbpibaaDoor
open Go.RowKit Go.MapKept

abbrev It := ByteArray × ByteArray × Int
abbrev itV (y : It) : Value := .agg #[sV y.1, sV y.2.1, iV y.2.2]
abbrev valB (b mb qb : Nat) (by_ : Int) : Res := blkR b [.map (some mb), pV qb 0, iV by_] 65
abbrev valL (b mb qb : Nat) (M : List (ByteArray × It)) (S : List (KR ByteArray)) (by_ : Int) (n : Nat) : List Res := [valB b mb qb by_, mapR Value.string itV mb M, hpS qb S n]
/-- A fault. -/
abbrev errV (b : Nat) : Value := .iface 83 (pV b 0)
abbrev errR (b : Nat) (op key : ByteArray) (c : Int) : Res := blkR b [sV op, sV key, .iface 71 (iV c)] 87
/-- What is the matter with an item: nothing is 0. -/
def rightC (k v : ByteArray) (d : Int) : Int := if k = ⟨#[]⟩ then 3 else if (k.size : Int) > 64 then 4 else if (v.size : Int) > 256 then 4 else if d < 0 then 1 else 0
theorem rightC_ok {k v : ByteArray} {d : Int} (h : rightC k v d = 0) : k ≠ ⟨#[]⟩ ∧ (k.size : Int) ≤ 64 ∧ (v.size : Int) ≤ 256 ∧ 0 ≤ d := by
  unfold rightC at h
  split at h <;> try omega
  split at h <;> try omega
  split at h <;> try omega
  split at h <;> try omega
  refine ⟨by assumption, ?_, ?_, ?_⟩ <;> omega
/-- Is a key's item to be had? -/
def getOk (M : List (ByteArray × It)) (key : ByteArray) (now_ : Int) : Prop := (lk M key).isSome = true ∧ (((lk M key).getD (⟨#[]⟩, ⟨#[]⟩, 0)).2.2 ≤ 0 ∨ now_ < ((lk M key).getD (⟨#[]⟩, ⟨#[]⟩, 0)).2.2)
instance {M : List (ByteArray × It)} {key : ByteArray} {now_ : Int} : Decidable (getOk M key now_) := by unfold getOk; infer_instance
/-- All items are small. -/
def ItB (M : List (ByteArray × It)) : Prop := ∀ y ∈ M, y.2.1 = y.1 ∧ (y.2.1.size : Int) ≤ 64 ∧ (y.2.2.1.size : Int) ≤ 256
theorem ItB.at {M : List (ByteArray × It)} (h : ItB M) (k : ByteArray) : (((lk M k).getD (⟨#[]⟩, ⟨#[]⟩, 0)).1.size : Int) ≤ 64 ∧ (((lk M k).getD (⟨#[]⟩, ⟨#[]⟩, 0)).2.1.size : Int) ≤ 256 := by
  cases e : lk M k with
  | none => exact ⟨by decide, by decide⟩
  | some v => exact (h (k, v) (lk_mem e)).2
theorem mem_del {M : List (ByteArray × It)} {k : ByteArray} {y : ByteArray × It} : y ∈ del M k → y ∈ M := by
  induction M with
  | nil => intro h; exact h
  | cons x M ih =>
    intro h
    unfold del at h
    split at h
    · exact List.mem_cons_of_mem _ h
    · rcases List.mem_cons.1 h with e | e
      · subst e; exact List.mem_cons_self ..
      · exact List.mem_cons_of_mem _ (ih e)
theorem mem_put {M : List (ByteArray × It)} {k : ByteArray} {v : It} {y : ByteArray × It} : y ∈ put M k v → y = (k, v) ∨ y ∈ M := by
  induction M with
  | nil => intro h; unfold put at h; exact .inl (List.mem_singleton.1 h)
  | cons x M ih =>
    intro h
    unfold put at h
    split at h
    · rename_i q
      rcases List.mem_cons.1 h with e | e
      · exact .inl (by rw [e, ← q])
      · exact .inr (List.mem_cons_of_mem _ e)
    · rcases List.mem_cons.1 h with e | e
      · exact .inr (by rw [e]; exact List.mem_cons_self ..)
      · exact (ih e).imp id (List.mem_cons_of_mem _)
theorem ItB.del {M : List (ByteArray × It)} (h : ItB M) (k : ByteArray) : ItB (del M k) := fun y hy => h y (mem_del hy)
set_option maxHeartbeats 8000000 in
set_option maxRecDepth 100000 in
theorem val_fault (op key : ByteArray) (c : Int)  : Tri Tryd.prog 31 #[sV op, sV key, iV c] [] (PostE (fun _ => True) (fun b => errV b) fun b => [errR b op key c]) := by
  refine Tri.enter (args := [sV op, sV key, iV c]) Tryd.func31 rfl rfl rfl (fun B wz => ?_)
  refine Cd.seq ?_
  refine Cd.region rfl ?_
  refine Sq.vals [0] (rest := []) [.nilIface] (fun w => by kernel_rfl) ?_
  refine Sq.done ?_
  refine Ex'.next ?_
  refine Cd.seq ?_
  refine Cd.region rfl ?_
  refine Sq.vals [0, 1, 2, 3, 4] (rest := [5, 6, 7]) [sV op, sV key, iV c, .iface 71 (iV c), .agg #[sV op, sV key, .iface 71 (iV c)]] (fun w => by kernel_rfl) ?_
  refine Sq.ex [] (l := []) (o_newBox (v := .agg #[sV op, sV key, .iface 71 (iV c)]) [sV op, sV key, .iface 71 (iV c)] (by kernel_rfl) rfl) (by kernel_rfl) rfl (by kernel_rfl) (fun _ => Nat.zero_le _) ?_; intro b3 _
  refine Sq.vals [6, 7] (rest := []) [.iface 83 (pV b3 0), .iface 83 (pV b3 0)] (fun w => by kernel_rfl) ?_
  refine Sq.done ?_
  refine Ex'.next ?_
  refine Cd.ret ?_
  refine Ex'.ret Tryd.results31 (RVs.tmp (v := .iface 83 (pV b3 0)) (by kernel_rfl) (RVs.nil)) (fun w hw => ?_)
  exact ⟨_, ⟨b3, trivial, rfl, rfl⟩, hw.pickB [0] (by kernel_rfl) (by kernel_rfl) (by kernel_rfl)⟩

set_option maxHeartbeats 8000000 in
set_option maxRecDepth 100000 in
theorem val_RightOk {k v : ByteArray} {d : Int} (hr : rightC k v d = 0) : Tri Tryd.prog 19 #[.agg #[sV k, sV v, iV d]] [] (Same [] .nilIface) := by
  refine Tri.enter (args := [.agg #[sV k, sV v, iV d]]) Tryd.func19 rfl rfl rfl (fun B wz => ?_)
  refine Cd.seq ?_
  refine Cd.region rfl ?_
  refine Sq.ex [] (l := []) (o_newBox (v := .agg #[sV k, sV v, iV d]) [sV k, sV v, iV d] (by kernel_rfl) rfl) (by kernel_rfl) rfl (by kernel_rfl) (fun _ => Nat.zero_le _) ?_; intro b3 _
  refine Sq.vals [1] (rest := []) [.nilIface] (fun w => by kernel_rfl) ?_
  refine Sq.done ?_
  refine Ex'.next ?_
  refine Cd.seq ?_
  refine Cd.block ?_
  refine Cd.seq ?_
  refine Cd.region rfl ?_
  refine Sq.vals [0] (rest := [1, 2, 3]) [pV b3 0] (fun w => by kernel_rfl) ?_
  refine Sq.same [0] (l := [blkR b3 [sV k, sV v, iV d] 24]) (o_load (i := 0) (v := sV k) (by kernel_rfl) (by kernel_rfl) (by kernel_rfl)) (by kernel_rfl) rfl (by kernel_rfl) rfl ?_
  refine Sq.v (r := bV (decide (k = ⟨#[]⟩))) (o_eqS (a := k) (b := ⟨#[]⟩) (by kernel_rfl) (by kernel_rfl)) rfl (by kernel_rfl) ?_
  refine Sq.vals [3] (rest := []) [bV (decide (k = ⟨#[]⟩))] (fun w => by kernel_rfl) ?_
  refine Sq.done ?_
  refine Ex'.next ?_
  refine Cd.case (p := k = ⟨#[]⟩) (by kernel_rfl) (fun h4 => ?_) (fun h4 => ?_)
  ·
    refine Cd.seq ?_
    refine Cd.region rfl ?_
    refine Sq.vals [0] (rest := [1, 2, 3]) [pV b3 0] (fun w => by kernel_rfl) ?_
    refine Sq.same [0] (l := [blkR b3 [sV k, sV v, iV d] 24]) (o_load (i := 0) (v := sV k) (by kernel_rfl) (by kernel_rfl) (by kernel_rfl)) (by kernel_rfl) rfl (by kernel_rfl) rfl ?_
    refine Sq.ex [] (l := []) (o_call (by kernel_rfl) Tryd.call31 (val_fault ⟨#[105, 116, 101, 109]⟩ k 3)) (by kernel_rfl) rfl (by kernel_rfl) (fun _ => Nat.le_of_ble_eq_true (by kernel_rfl)) ?_; rintro b5 _
    refine Sq.vals [3] (rest := []) [.iface 83 (pV b5 0)] (fun w => by kernel_rfl) ?_
    refine Sq.done ?_
    refine Ex'.next ?_
    refine Cd.ret ?_
    refine Ex'.blockRet ?_
    refine Ex'.thenRet ?_
    refine Ex'.ret Tryd.results19 (RVs.tmp (v := .iface 83 (pV b5 0)) (by kernel_rfl) (RVs.nil)) (fun w hw => ?_)
    exact absurd hr (by unfold rightC; rw [if_pos h4]; decide)
  ·
    refine Cd.seq ?_
    refine Cd.region rfl ?_
    refine Sq.vals [0] (rest := [1, 2, 3, 4, 5, 6, 7, 8, 9, 10]) [pV b3 0] (fun w => by kernel_rfl) ?_
    refine Sq.same [0] (l := [blkR b3 [sV k, sV v, iV d] 24]) (o_load (i := 0) (v := sV k) (by kernel_rfl) (by kernel_rfl) (by kernel_rfl)) (by kernel_rfl) rfl (by kernel_rfl) rfl ?_
    refine Sq.vals [2, 3, 4] (rest := [5, 6, 7, 8, 9, 10]) [iV (k.size : Int), bV (decide ((k.size : Int) > 64)), bV (decide ((k.size : Int) > 64))] (fun w => by kernel_rfl) ?_
    refine Sq.case 15 (p := (k.size : Int) > 64) rfl (fun h6 => ?_) (fun h6 => ?_)
    ·
      refine Sq.vals [5, 6, 7, 8, 9, 10] (rest := []) [undef, undef, undef, undef, bV true, bV true] (fun w => by kernel_rfl) ?_
      refine Sq.done ?_
      refine Ex'.next ?_
      refine Cd.condT (by kernel_rfl) ?_
      refine Cd.seq ?_
      refine Cd.region rfl ?_
      refine Sq.vals [0] (rest := [1, 2, 3]) [pV b3 0] (fun w => by kernel_rfl) ?_
      refine Sq.same [0] (l := [blkR b3 [sV k, sV v, iV d] 24]) (o_load (i := 0) (v := sV k) (by kernel_rfl) (by kernel_rfl) (by kernel_rfl)) (by kernel_rfl) rfl (by kernel_rfl) rfl ?_
      refine Sq.ex [] (l := []) (o_call (by kernel_rfl) Tryd.call31 (val_fault ⟨#[105, 116, 101, 109]⟩ k 4)) (by kernel_rfl) rfl (by kernel_rfl) (fun _ => Nat.le_of_ble_eq_true (by kernel_rfl)) ?_; rintro b7 _
      refine Sq.vals [3] (rest := []) [.iface 83 (pV b7 0)] (fun w => by kernel_rfl) ?_
      refine Sq.done ?_
      refine Ex'.next ?_
      refine Cd.ret ?_
      refine Ex'.blockRet ?_
      refine Ex'.thenRet ?_
      refine Ex'.ret Tryd.results19 (RVs.tmp (v := .iface 83 (pV b7 0)) (by kernel_rfl) (RVs.nil)) (fun w hw => ?_)
      exact absurd hr (by unfold rightC; rw [if_neg h4, if_pos h6]; decide)
    ·
      refine Sq.vals [5] (rest := [6, 7, 8, 9, 10]) [pV b3 1] (fun w => by kernel_rfl) ?_
      refine Sq.same [0] (l := [blkR b3 [sV k, sV v, iV d] 24]) (o_load (i := 1) (v := sV v) (by kernel_rfl) (by kernel_rfl) (by kernel_rfl)) (by kernel_rfl) rfl (by kernel_rfl) rfl ?_
      refine Sq.vals [7, 8, 9, 10] (rest := []) [iV (v.size : Int), bV (decide ((v.size : Int) > 256)), bV (decide ((v.size : Int) > 256)), bV (decide ((v.size : Int) > 256))] (fun w => by kernel_rfl) ?_
      refine Sq.done ?_
      refine Ex'.next ?_
      refine Cd.case (p := (v.size : Int) > 256) (by kernel_rfl) (fun h8 => ?_) (fun h8 => ?_)
      ·
        refine Cd.seq ?_
        refine Cd.region rfl ?_
        refine Sq.vals [0] (rest := [1, 2, 3]) [pV b3 0] (fun w => by kernel_rfl) ?_
        refine Sq.same [0] (l := [blkR b3 [sV k, sV v, iV d] 24]) (o_load (i := 0) (v := sV k) (by kernel_rfl) (by kernel_rfl) (by kernel_rfl)) (by kernel_rfl) rfl (by kernel_rfl) rfl ?_
        refine Sq.ex [] (l := []) (o_call (by kernel_rfl) Tryd.call31 (val_fault ⟨#[105, 116, 101, 109]⟩ k 4)) (by kernel_rfl) rfl (by kernel_rfl) (fun _ => Nat.le_of_ble_eq_true (by kernel_rfl)) ?_; rintro b9 _
        refine Sq.vals [3] (rest := []) [.iface 83 (pV b9 0)] (fun w => by kernel_rfl) ?_
        refine Sq.done ?_
        refine Ex'.next ?_
        refine Cd.ret ?_
        refine Ex'.blockRet ?_
        refine Ex'.thenRet ?_
        refine Ex'.ret Tryd.results19 (RVs.tmp (v := .iface 83 (pV b9 0)) (by kernel_rfl) (RVs.nil)) (fun w hw => ?_)
        exact absurd hr (by unfold rightC; rw [if_neg h4, if_neg h6, if_pos h8]; decide)
      ·
        refine Cd.seq ?_
        refine Cd.region rfl ?_
        refine Sq.vals [0] (rest := [1, 2, 3]) [pV b3 2] (fun w => by kernel_rfl) ?_
        refine Sq.same [0] (l := [blkR b3 [sV k, sV v, iV d] 24]) (o_load (i := 2) (v := iV d) (by kernel_rfl) (by kernel_rfl) (by kernel_rfl)) (by kernel_rfl) rfl (by kernel_rfl) rfl ?_
        refine Sq.vals [2, 3] (rest := []) [bV (decide (d < 0)), bV (decide (d < 0))] (fun w => by kernel_rfl) ?_
        refine Sq.done ?_
        refine Ex'.next ?_
        refine Cd.case (p := d < 0) (by kernel_rfl) (fun h10 => ?_) (fun h10 => ?_)
        ·
          refine Cd.seq ?_
          refine Cd.region rfl ?_
          refine Sq.vals [0] (rest := [1, 2, 3]) [pV b3 0] (fun w => by kernel_rfl) ?_
          refine Sq.same [0] (l := [blkR b3 [sV k, sV v, iV d] 24]) (o_load (i := 0) (v := sV k) (by kernel_rfl) (by kernel_rfl) (by kernel_rfl)) (by kernel_rfl) rfl (by kernel_rfl) rfl ?_
          refine Sq.ex [] (l := []) (o_call (by kernel_rfl) Tryd.call31 (val_fault ⟨#[105, 116, 101, 109]⟩ k 1)) (by kernel_rfl) rfl (by kernel_rfl) (fun _ => Nat.le_of_ble_eq_true (by kernel_rfl)) ?_; rintro b11 _
          refine Sq.vals [3] (rest := []) [.iface 83 (pV b11 0)] (fun w => by kernel_rfl) ?_
          refine Sq.done ?_
          refine Ex'.next ?_
          refine Cd.ret ?_
          refine Ex'.blockRet ?_
          refine Ex'.thenRet ?_
          refine Ex'.ret Tryd.results19 (RVs.tmp (v := .iface 83 (pV b11 0)) (by kernel_rfl) (RVs.nil)) (fun w hw => ?_)
          exact absurd hr (by unfold rightC; rw [if_neg h4, if_neg h6, if_neg h8, if_pos h10]; decide)
        ·
          refine Cd.skip ?_
          refine Ex'.blockNormal ?_
          refine Ex'.next ?_
          refine Cd.seq ?_
          refine Cd.region rfl ?_
          refine Sq.vals [0] (rest := []) [.nilIface] (fun w => by kernel_rfl) ?_
          refine Sq.done ?_
          refine Ex'.next ?_
          refine Cd.ret ?_
          refine Ex'.ret Tryd.results19 (RVs.tmp (v := .nilIface) (by kernel_rfl) (RVs.nil)) (fun w hw => ?_)
          exact ⟨_, ⟨rfl, rfl⟩, hw.pickB [] (by kernel_rfl) (by kernel_rfl) (by kernel_rfl)⟩

set_option maxHeartbeats 8000000 in
set_option maxRecDepth 100000 in
theorem val_RightBad {k v : ByteArray} {d : Int} (hr : ¬ rightC k v d = 0) : Tri Tryd.prog 19 #[.agg #[sV k, sV v, iV d]] [] (PostE (fun _ => True) (fun b => errV b) fun b => [errR b ⟨#[105, 116, 101, 109]⟩ k (rightC k v d)]) := by
  refine Tri.enter (args := [.agg #[sV k, sV v, iV d]]) Tryd.func19 rfl rfl rfl (fun B wz => ?_)
  refine Cd.seq ?_
  refine Cd.region rfl ?_
  refine Sq.ex [] (l := []) (o_newBox (v := .agg #[sV k, sV v, iV d]) [sV k, sV v, iV d] (by kernel_rfl) rfl) (by kernel_rfl) rfl (by kernel_rfl) (fun _ => Nat.zero_le _) ?_; intro b3 _
  refine Sq.vals [1] (rest := []) [.nilIface] (fun w => by kernel_rfl) ?_
  refine Sq.done ?_
  refine Ex'.next ?_
  refine Cd.seq ?_
  refine Cd.block ?_
  refine Cd.seq ?_
  refine Cd.region rfl ?_
  refine Sq.vals [0] (rest := [1, 2, 3]) [pV b3 0] (fun w => by kernel_rfl) ?_
  refine Sq.same [0] (l := [blkR b3 [sV k, sV v, iV d] 24]) (o_load (i := 0) (v := sV k) (by kernel_rfl) (by kernel_rfl) (by kernel_rfl)) (by kernel_rfl) rfl (by kernel_rfl) rfl ?_
  refine Sq.v (r := bV (decide (k = ⟨#[]⟩))) (o_eqS (a := k) (b := ⟨#[]⟩) (by kernel_rfl) (by kernel_rfl)) rfl (by kernel_rfl) ?_
  refine Sq.vals [3] (rest := []) [bV (decide (k = ⟨#[]⟩))] (fun w => by kernel_rfl) ?_
  refine Sq.done ?_
  refine Ex'.next ?_
  refine Cd.case (p := k = ⟨#[]⟩) (by kernel_rfl) (fun h4 => ?_) (fun h4 => ?_)
  ·
    refine Cd.seq ?_
    refine Cd.region rfl ?_
    refine Sq.vals [0] (rest := [1, 2, 3]) [pV b3 0] (fun w => by kernel_rfl) ?_
    refine Sq.same [0] (l := [blkR b3 [sV k, sV v, iV d] 24]) (o_load (i := 0) (v := sV k) (by kernel_rfl) (by kernel_rfl) (by kernel_rfl)) (by kernel_rfl) rfl (by kernel_rfl) rfl ?_
    refine Sq.ex [] (l := []) (o_call (by kernel_rfl) Tryd.call31 (val_fault ⟨#[105, 116, 101, 109]⟩ k 3)) (by kernel_rfl) rfl (by kernel_rfl) (fun _ => Nat.le_of_ble_eq_true (by kernel_rfl)) ?_; rintro b5 _
    refine Sq.vals [3] (rest := []) [.iface 83 (pV b5 0)] (fun w => by kernel_rfl) ?_
    refine Sq.done ?_
    refine Ex'.next ?_
    refine Cd.ret ?_
    refine Ex'.blockRet ?_
    refine Ex'.thenRet ?_
    refine Ex'.ret Tryd.results19 (RVs.tmp (v := .iface 83 (pV b5 0)) (by kernel_rfl) (RVs.nil)) (fun w hw => ?_)
    have e : rightC k v d = 3 := by unfold rightC; rw [if_pos h4]
    rw [e]; exact ⟨_, ⟨b5, trivial, rfl, rfl⟩, hw.pickB [1] (by kernel_rfl) (by kernel_rfl) (by kernel_rfl)⟩
  ·
    refine Cd.seq ?_
    refine Cd.region rfl ?_
    refine Sq.vals [0] (rest := [1, 2, 3, 4, 5, 6, 7, 8, 9, 10]) [pV b3 0] (fun w => by kernel_rfl) ?_
    refine Sq.same [0] (l := [blkR b3 [sV k, sV v, iV d] 24]) (o_load (i := 0) (v := sV k) (by kernel_rfl) (by kernel_rfl) (by kernel_rfl)) (by kernel_rfl) rfl (by kernel_rfl) rfl ?_
    refine Sq.vals [2, 3, 4] (rest := [5, 6, 7, 8, 9, 10]) [iV (k.size : Int), bV (decide ((k.size : Int) > 64)), bV (decide ((k.size : Int) > 64))] (fun w => by kernel_rfl) ?_
    refine Sq.case 15 (p := (k.size : Int) > 64) rfl (fun h6 => ?_) (fun h6 => ?_)
    ·
      refine Sq.vals [5, 6, 7, 8, 9, 10] (rest := []) [undef, undef, undef, undef, bV true, bV true] (fun w => by kernel_rfl) ?_
      refine Sq.done ?_
      refine Ex'.next ?_
      refine Cd.condT (by kernel_rfl) ?_
      refine Cd.seq ?_
      refine Cd.region rfl ?_
      refine Sq.vals [0] (rest := [1, 2, 3]) [pV b3 0] (fun w => by kernel_rfl) ?_
      refine Sq.same [0] (l := [blkR b3 [sV k, sV v, iV d] 24]) (o_load (i := 0) (v := sV k) (by kernel_rfl) (by kernel_rfl) (by kernel_rfl)) (by kernel_rfl) rfl (by kernel_rfl) rfl ?_
      refine Sq.ex [] (l := []) (o_call (by kernel_rfl) Tryd.call31 (val_fault ⟨#[105, 116, 101, 109]⟩ k 4)) (by kernel_rfl) rfl (by kernel_rfl) (fun _ => Nat.le_of_ble_eq_true (by kernel_rfl)) ?_; rintro b7 _
      refine Sq.vals [3] (rest := []) [.iface 83 (pV b7 0)] (fun w => by kernel_rfl) ?_
      refine Sq.done ?_
      refine Ex'.next ?_
      refine Cd.ret ?_
      refine Ex'.blockRet ?_
      refine Ex'.thenRet ?_
      refine Ex'.ret Tryd.results19 (RVs.tmp (v := .iface 83 (pV b7 0)) (by kernel_rfl) (RVs.nil)) (fun w hw => ?_)
      have e : rightC k v d = 4 := by unfold rightC; rw [if_neg h4, if_pos h6]
      rw [e]; exact ⟨_, ⟨b7, trivial, rfl, rfl⟩, hw.pickB [1] (by kernel_rfl) (by kernel_rfl) (by kernel_rfl)⟩
    ·
      refine Sq.vals [5] (rest := [6, 7, 8, 9, 10]) [pV b3 1] (fun w => by kernel_rfl) ?_
      refine Sq.same [0] (l := [blkR b3 [sV k, sV v, iV d] 24]) (o_load (i := 1) (v := sV v) (by kernel_rfl) (by kernel_rfl) (by kernel_rfl)) (by kernel_rfl) rfl (by kernel_rfl) rfl ?_
      refine Sq.vals [7, 8, 9, 10] (rest := []) [iV (v.size : Int), bV (decide ((v.size : Int) > 256)), bV (decide ((v.size : Int) > 256)), bV (decide ((v.size : Int) > 256))] (fun w => by kernel_rfl) ?_
      refine Sq.done ?_
      refine Ex'.next ?_
      refine Cd.case (p := (v.size : Int) > 256) (by kernel_rfl) (fun h8 => ?_) (fun h8 => ?_)
      ·
        refine Cd.seq ?_
        refine Cd.region rfl ?_
        refine Sq.vals [0] (rest := [1, 2, 3]) [pV b3 0] (fun w => by kernel_rfl) ?_
        refine Sq.same [0] (l := [blkR b3 [sV k, sV v, iV d] 24]) (o_load (i := 0) (v := sV k) (by kernel_rfl) (by kernel_rfl) (by kernel_rfl)) (by kernel_rfl) rfl (by kernel_rfl) rfl ?_
        refine Sq.ex [] (l := []) (o_call (by kernel_rfl) Tryd.call31 (val_fault ⟨#[105, 116, 101, 109]⟩ k 4)) (by kernel_rfl) rfl (by kernel_rfl) (fun _ => Nat.le_of_ble_eq_true (by kernel_rfl)) ?_; rintro b9 _
        refine Sq.vals [3] (rest := []) [.iface 83 (pV b9 0)] (fun w => by kernel_rfl) ?_
        refine Sq.done ?_
        refine Ex'.next ?_
        refine Cd.ret ?_
        refine Ex'.blockRet ?_
        refine Ex'.thenRet ?_
        refine Ex'.ret Tryd.results19 (RVs.tmp (v := .iface 83 (pV b9 0)) (by kernel_rfl) (RVs.nil)) (fun w hw => ?_)
        have e : rightC k v d = 4 := by unfold rightC; rw [if_neg h4, if_neg h6, if_pos h8]
        rw [e]; exact ⟨_, ⟨b9, trivial, rfl, rfl⟩, hw.pickB [1] (by kernel_rfl) (by kernel_rfl) (by kernel_rfl)⟩
      ·
        refine Cd.seq ?_
        refine Cd.region rfl ?_
        refine Sq.vals [0] (rest := [1, 2, 3]) [pV b3 2] (fun w => by kernel_rfl) ?_
        refine Sq.same [0] (l := [blkR b3 [sV k, sV v, iV d] 24]) (o_load (i := 2) (v := iV d) (by kernel_rfl) (by kernel_rfl) (by kernel_rfl)) (by kernel_rfl) rfl (by kernel_rfl) rfl ?_
        refine Sq.vals [2, 3] (rest := []) [bV (decide (d < 0)), bV (decide (d < 0))] (fun w => by kernel_rfl) ?_
        refine Sq.done ?_
        refine Ex'.next ?_
        refine Cd.case (p := d < 0) (by kernel_rfl) (fun h10 => ?_) (fun h10 => ?_)
        ·
          refine Cd.seq ?_
          refine Cd.region rfl ?_
          refine Sq.vals [0] (rest := [1, 2, 3]) [pV b3 0] (fun w => by kernel_rfl) ?_
          refine Sq.same [0] (l := [blkR b3 [sV k, sV v, iV d] 24]) (o_load (i := 0) (v := sV k) (by kernel_rfl) (by kernel_rfl) (by kernel_rfl)) (by kernel_rfl) rfl (by kernel_rfl) rfl ?_
          refine Sq.ex [] (l := []) (o_call (by kernel_rfl) Tryd.call31 (val_fault ⟨#[105, 116, 101, 109]⟩ k 1)) (by kernel_rfl) rfl (by kernel_rfl) (fun _ => Nat.le_of_ble_eq_true (by kernel_rfl)) ?_; rintro b11 _
          refine Sq.vals [3] (rest := []) [.iface 83 (pV b11 0)] (fun w => by kernel_rfl) ?_
          refine Sq.done ?_
          refine Ex'.next ?_
          refine Cd.ret ?_
          refine Ex'.blockRet ?_
          refine Ex'.thenRet ?_
          refine Ex'.ret Tryd.results19 (RVs.tmp (v := .iface 83 (pV b11 0)) (by kernel_rfl) (RVs.nil)) (fun w hw => ?_)
          have e : rightC k v d = 1 := by unfold rightC; rw [if_neg h4, if_neg h6, if_neg h8, if_pos h10]
          rw [e]; exact ⟨_, ⟨b11, trivial, rfl, rfl⟩, hw.pickB [1] (by kernel_rfl) (by kernel_rfl) (by kernel_rfl)⟩
        ·
          refine Cd.skip ?_
          refine Ex'.blockNormal ?_
          refine Ex'.next ?_
          refine Cd.seq ?_
          refine Cd.region rfl ?_
          refine Sq.vals [0] (rest := []) [.nilIface] (fun w => by kernel_rfl) ?_
          refine Sq.done ?_
          refine Ex'.next ?_
          refine Cd.ret ?_
          refine Ex'.ret Tryd.results19 (RVs.tmp (v := .nilIface) (by kernel_rfl) (RVs.nil)) (fun w hw => ?_)
          exact absurd (by unfold rightC; rw [if_neg h4, if_neg h6, if_neg h8, if_neg h10]) hr

def valLen (M : List (ByteArray × ByteArray × ByteArray × Int)) (S : List (KR ByteArray)) (bys : Int)  : Int :=
  (M.length : Int)

set_option maxHeartbeats 4000000 in
set_option maxRecDepth 100000 in
theorem val_Len {b : Nat} {mb : Nat} {qb : Nat} {n : Nat} {M : List (ByteArray × ByteArray × ByteArray × Int)} {S : List (KR ByteArray)} {bys : Int}  (hb : n ≤ 1000000000) : Tri Tryd.prog 13 #[pV b 0] (valL b mb qb M S bys n) (Same (valL b mb qb M S bys n) (iV (valLen M S bys))) := by
  refine Tri.enter (args := [pV b 0]) Tryd.func13 rfl rfl rfl (fun B wz => ?_)
  refine Cd.seq ?_
  refine Cd.region rfl ?_
  refine Sq.vals [0] (rest := []) [iV 0] (fun w => by kernel_rfl) ?_
  refine Sq.done ?_
  refine Ex'.next ?_
  refine Cd.seq ?_
  refine Cd.region rfl ?_
  refine Sq.vals [0, 1, 2] (rest := [3, 4, 5]) [pV b 0, pV b 0, pV b 0] (fun w => by kernel_rfl) ?_
  refine Sq.same [0] (l := [valB b mb qb bys]) (o_load (i := 0) (v := .map (some mb)) (by kernel_rfl) (by kernel_rfl) (by kernel_rfl)) (by kernel_rfl) rfl (by kernel_rfl) rfl ?_
  refine Sq.same [1] (l := [mapR Value.string itV mb M]) (o_lenMap (by kernel_rfl) Tryd.underlying61) (by kernel_rfl) rfl (by kernel_rfl) rfl ?_
  refine Sq.vals [5] (rest := []) [iV (M.length : Int)] (fun w => by kernel_rfl) ?_
  refine Sq.done ?_
  refine Ex'.next ?_
  refine Cd.ret ?_
  refine Ex'.ret Tryd.results13 (RVs.tmp (v := iV (M.length : Int)) (by kernel_rfl) (RVs.nil)) (fun w hw => ?_)
  have e : valLen M S bys = (M.length : Int) := by unfold valLen; rfl
  rw [e]
  exact ⟨_, ⟨rfl, rfl⟩, hw.pickB [0, 1, 2] (by kernel_rfl) (by kernel_rfl) (by kernel_rfl)⟩

def valBytes (M : List (ByteArray × ByteArray × ByteArray × Int)) (S : List (KR ByteArray)) (bys : Int)  : Int :=
  bys

set_option maxHeartbeats 4000000 in
set_option maxRecDepth 100000 in
theorem val_Bytes {b : Nat} {mb : Nat} {qb : Nat} {n : Nat} {M : List (ByteArray × ByteArray × ByteArray × Int)} {S : List (KR ByteArray)} {bys : Int}  (hb : n ≤ 1000000000) : Tri Tryd.prog 25 #[pV b 0] (valL b mb qb M S bys n) (Same (valL b mb qb M S bys n) (iV (valBytes M S bys))) := by
  refine Tri.enter (args := [pV b 0]) Tryd.func25 rfl rfl rfl (fun B wz => ?_)
  refine Cd.seq ?_
  refine Cd.region rfl ?_
  refine Sq.vals [0] (rest := []) [iV 0] (fun w => by kernel_rfl) ?_
  refine Sq.done ?_
  refine Ex'.next ?_
  refine Cd.seq ?_
  refine Cd.region rfl ?_
  refine Sq.vals [0, 1, 2] (rest := [3, 4]) [pV b 0, pV b 0, pV b 2] (fun w => by kernel_rfl) ?_
  refine Sq.same [0] (l := [valB b mb qb bys]) (o_load (i := 2) (v := iV bys) (by kernel_rfl) (by kernel_rfl) (by kernel_rfl)) (by kernel_rfl) rfl (by kernel_rfl) rfl ?_
  refine Sq.vals [4] (rest := []) [iV bys] (fun w => by kernel_rfl) ?_
  refine Sq.done ?_
  refine Ex'.next ?_
  refine Cd.ret ?_
  refine Ex'.ret Tryd.results25 (RVs.tmp (v := iV bys) (by kernel_rfl) (RVs.nil)) (fun w hw => ?_)
  have e : valBytes M S bys = bys := by unfold valBytes; rfl
  rw [e]
  exact ⟨_, ⟨rfl, rfl⟩, hw.pickB [0, 1, 2] (by kernel_rfl) (by kernel_rfl) (by kernel_rfl)⟩

def valDel (M : List (ByteArray × ByteArray × ByteArray × Int)) (S : List (KR ByteArray)) (bys : Int) (key : ByteArray) : List (ByteArray × ByteArray × ByteArray × Int) × List (KR ByteArray) × Int × Bool :=
  if (lk M key).isSome = true then (del M key, hrem S key, bys - (((((lk M key).getD ((⟨#[]⟩, ⟨#[]⟩, 0) : ByteArray × ByteArray × Int)).1).size : Int) + ((((lk M key).getD ((⟨#[]⟩, ⟨#[]⟩, 0) : ByteArray × ByteArray × Int)).2.1).size : Int)), (lk M key).isSome) else (M, S, bys, (lk M key).isSome)

set_option maxHeartbeats 4000000 in
set_option maxRecDepth 100000 in
theorem val_Delete {b : Nat} {mb : Nat} {qb : Nat} {n : Nat} {M : List (ByteArray × ByteArray × ByteArray × Int)} {S : List (KR ByteArray)} {bys : Int} (key : ByteArray) (hb : n ≤ 1000000000) (hy : -1000000000 ≤ bys ∧ bys ≤ 1000000000) (hi : ItB M) : Tri Tryd.prog 14 #[pV b 0, sV key] (valL b mb qb M S bys n) (Same (valL b mb qb ((valDel M S bys key).1) ((valDel M S bys key).2.1) ((valDel M S bys key).2.2.1) n) (bV ((valDel M S bys key).2.2.2))) := by
  refine Tri.enter (args := [pV b 0, sV key]) Tryd.func14 rfl rfl rfl (fun B wz => ?_)
  have hix := hi.at key
  refine Cd.seq ?_
  refine Cd.region rfl ?_
  refine Sq.vals [0] (rest := []) [bV false] (fun w => by kernel_rfl) ?_
  refine Sq.done ?_
  refine Ex'.next ?_
  refine Cd.seq ?_
  refine Cd.region rfl ?_
  refine Sq.vals [0, 1, 2] (rest := [3, 4, 5, 6, 7, 8, 9, 10, 11]) [pV b 0, pV b 0, pV b 0] (fun w => by kernel_rfl) ?_
  refine Sq.same [0] (l := [valB b mb qb bys]) (o_load (i := 0) (v := .map (some mb)) (by kernel_rfl) (by kernel_rfl) (by kernel_rfl)) (by kernel_rfl) rfl (by kernel_rfl) rfl ?_
  refine Sq.vals [4] (rest := [5, 6, 7, 8, 9, 10, 11]) [sV key] (fun w => by kernel_rfl) ?_
  refine Sq.same [1] (l := [mapR Value.string itV mb M]) (o_lookOk (fv := itV) (l := M) ((⟨#[]⟩, ⟨#[]⟩, 0) : ByteArray × ByteArray × Int) key (by kernel_rfl) (by kernel_rfl) (strKey Tryd.underlying9) Tryd.underlying61 (fun w => by kernel_rfl)) (by kernel_rfl) rfl (by kernel_rfl) rfl ?_
  refine Sq.vals [6, 7, 8] (rest := [9, 10, 11]) [.tuple #[.agg #[sV (((lk M key).getD ((⟨#[]⟩, ⟨#[]⟩, 0) : ByteArray × ByteArray × Int)).1), sV (((lk M key).getD ((⟨#[]⟩, ⟨#[]⟩, 0) : ByteArray × ByteArray × Int)).2.1), iV (((lk M key).getD ((⟨#[]⟩, ⟨#[]⟩, 0) : ByteArray × ByteArray × Int)).2.2)], bV ((lk M key).isSome)], .agg #[sV (((lk M key).getD ((⟨#[]⟩, ⟨#[]⟩, 0) : ByteArray × ByteArray × Int)).1), sV (((lk M key).getD ((⟨#[]⟩, ⟨#[]⟩, 0) : ByteArray × ByteArray × Int)).2.1), iV (((lk M key).getD ((⟨#[]⟩, ⟨#[]⟩, 0) : ByteArray × ByteArray × Int)).2.2)], bV ((lk M key).isSome)] (fun w => by kernel_rfl) ?_
  refine Sq.ex [] (l := []) (o_new [sV ⟨#[]⟩, sV ⟨#[]⟩, iV 0] (fun w => by kernel_rfl)) (by kernel_rfl) rfl (by kernel_rfl) (fun _ => Nat.zero_le _) ?_; intro b3 _
  refine Sq.same [3] (l := [blkR b3 [sV ⟨#[]⟩, sV ⟨#[]⟩, iV 0] 24]) (o_store (i := 0) (v := .agg #[sV (((lk M key).getD ((⟨#[]⟩, ⟨#[]⟩, 0) : ByteArray × ByteArray × Int)).1), sV (((lk M key).getD ((⟨#[]⟩, ⟨#[]⟩, 0) : ByteArray × ByteArray × Int)).2.1), iV (((lk M key).getD ((⟨#[]⟩, ⟨#[]⟩, 0) : ByteArray × ByteArray × Int)).2.2)]) (by kernel_rfl) (by kernel_rfl) (by kernel_rfl) (by kernel_rfl) (by kernel_rfl)) (by kernel_rfl) rfl (by kernel_rfl) rfl ?_
  refine Sq.vals [11] (rest := []) [bV ((lk M key).isSome)] (fun w => by kernel_rfl) ?_
  refine Sq.done ?_
  refine Ex'.next ?_
  refine Cd.seq ?_
  refine Cd.seq ?_
  refine Cd.region rfl ?_
  refine Sq.vals [0] (rest := []) [bV ((lk M key).isSome)] (fun w => by kernel_rfl) ?_
  refine Sq.done ?_
  refine Ex'.next ?_
  refine Cd.cond (t := (lk M key).isSome) (by kernel_rfl) (fun h4 => ?_) (fun h4 => ?_)
  ·
    refine Cd.seq ?_
    refine Cd.plan [0, 1, 3, 7, 0, 16, 48, 0, 128, 384, 1008, 2047, 4095, 8191, 16383] [(3, [(0, false, 0)]), (5, [(3, false, 0)]), (8, [(3, false, 0)]), (14, [(0, true, 0)])] [] [] [(0, 14, fun g => valB b mb qb (bys - (((((lk M key).getD ((⟨#[]⟩, ⟨#[]⟩, 0) : ByteArray × ByteArray × Int)).1).size : Int) + ((((lk M key).getD ((⟨#[]⟩, ⟨#[]⟩, 0) : ByteArray × ByteArray × Int)).2.1).size : Int))))] [fun g => pV b 0, fun g => pV b 0, fun g => pV b 2, fun g => iV bys, fun g => pV b3 0, fun g => sV (((lk M key).getD ((⟨#[]⟩, ⟨#[]⟩, 0) : ByteArray × ByteArray × Int)).1), fun g => iV ((((lk M key).getD ((⟨#[]⟩, ⟨#[]⟩, 0) : ByteArray × ByteArray × Int)).1).size : Int), fun g => pV b3 1, fun g => sV (((lk M key).getD ((⟨#[]⟩, ⟨#[]⟩, 0) : ByteArray × ByteArray × Int)).2.1), fun g => iV ((((lk M key).getD ((⟨#[]⟩, ⟨#[]⟩, 0) : ByteArray × ByteArray × Int)).2.1).size : Int), fun g => iV (((((lk M key).getD ((⟨#[]⟩, ⟨#[]⟩, 0) : ByteArray × ByteArray × Int)).1).size : Int) + ((((lk M key).getD ((⟨#[]⟩, ⟨#[]⟩, 0) : ByteArray × ByteArray × Int)).2.1).size : Int)), fun g => iV (bys - (((((lk M key).getD ((⟨#[]⟩, ⟨#[]⟩, 0) : ByteArray × ByteArray × Int)).1).size : Int) + ((((lk M key).getD ((⟨#[]⟩, ⟨#[]⟩, 0) : ByteArray × ByteArray × Int)).2.1).size : Int))), fun g => pV b 0, fun g => pV b 2, fun g => undef] (by kernel_rfl) (by kernel_rfl) rfl (trivial) ?_ ?_
    · exact ⟨ob_val fun g w => by kernel_rfl, ob_val fun g w => by kernel_rfl, ob_val fun g w => by kernel_rfl, ob_s (l := fun g => [valB b mb qb bys]) (l' := fun g => [valB b mb qb bys]) (v := fun g => iV bys) (fun g => o_load (i := 2) (v := iV bys) (by kernel_rfl) (by kernel_rfl) (by kernel_rfl)) (fun g => by kernel_rfl), ob_val fun g w => by kernel_rfl, ob_s (l := fun g => [blkR b3 [sV (((lk M key).getD ((⟨#[]⟩, ⟨#[]⟩, 0) : ByteArray × ByteArray × Int)).1), sV (((lk M key).getD ((⟨#[]⟩, ⟨#[]⟩, 0) : ByteArray × ByteArray × Int)).2.1), iV (((lk M key).getD ((⟨#[]⟩, ⟨#[]⟩, 0) : ByteArray × ByteArray × Int)).2.2)] 24]) (l' := fun g => [blkR b3 [sV (((lk M key).getD ((⟨#[]⟩, ⟨#[]⟩, 0) : ByteArray × ByteArray × Int)).1), sV (((lk M key).getD ((⟨#[]⟩, ⟨#[]⟩, 0) : ByteArray × ByteArray × Int)).2.1), iV (((lk M key).getD ((⟨#[]⟩, ⟨#[]⟩, 0) : ByteArray × ByteArray × Int)).2.2)] 24]) (v := fun g => sV (((lk M key).getD ((⟨#[]⟩, ⟨#[]⟩, 0) : ByteArray × ByteArray × Int)).1)) (fun g => o_load (i := 0) (v := sV (((lk M key).getD ((⟨#[]⟩, ⟨#[]⟩, 0) : ByteArray × ByteArray × Int)).1)) (by kernel_rfl) (by kernel_rfl) (by kernel_rfl)) (fun g => by kernel_rfl), ob_val fun g w => by kernel_rfl, ob_val fun g w => by kernel_rfl, ob_s (l := fun g => [blkR b3 [sV (((lk M key).getD ((⟨#[]⟩, ⟨#[]⟩, 0) : ByteArray × ByteArray × Int)).1), sV (((lk M key).getD ((⟨#[]⟩, ⟨#[]⟩, 0) : ByteArray × ByteArray × Int)).2.1), iV (((lk M key).getD ((⟨#[]⟩, ⟨#[]⟩, 0) : ByteArray × ByteArray × Int)).2.2)] 24]) (l' := fun g => [blkR b3 [sV (((lk M key).getD ((⟨#[]⟩, ⟨#[]⟩, 0) : ByteArray × ByteArray × Int)).1), sV (((lk M key).getD ((⟨#[]⟩, ⟨#[]⟩, 0) : ByteArray × ByteArray × Int)).2.1), iV (((lk M key).getD ((⟨#[]⟩, ⟨#[]⟩, 0) : ByteArray × ByteArray × Int)).2.2)] 24]) (v := fun g => sV (((lk M key).getD ((⟨#[]⟩, ⟨#[]⟩, 0) : ByteArray × ByteArray × Int)).2.1)) (fun g => o_load (i := 1) (v := sV (((lk M key).getD ((⟨#[]⟩, ⟨#[]⟩, 0) : ByteArray × ByteArray × Int)).2.1)) (by kernel_rfl) (by kernel_rfl) (by kernel_rfl)) (fun g => by kernel_rfl), ob_val fun g w => by kernel_rfl, ob_v (v := fun g => iV (((((lk M key).getD ((⟨#[]⟩, ⟨#[]⟩, 0) : ByteArray × ByteArray × Int)).1).size : Int) + ((((lk M key).getD ((⟨#[]⟩, ⟨#[]⟩, 0) : ByteArray × ByteArray × Int)).2.1).size : Int))) (fun g => o_add (k := .i64) (a := ((((lk M key).getD ((⟨#[]⟩, ⟨#[]⟩, 0) : ByteArray × ByteArray × Int)).1).size : Int)) (b := ((((lk M key).getD ((⟨#[]⟩, ⟨#[]⟩, 0) : ByteArray × ByteArray × Int)).2.1).size : Int)) (c := ((((lk M key).getD ((⟨#[]⟩, ⟨#[]⟩, 0) : ByteArray × ByteArray × Int)).1).size : Int) + ((((lk M key).getD ((⟨#[]⟩, ⟨#[]⟩, 0) : ByteArray × ByteArray × Int)).2.1).size : Int)) (by kernel_rfl) (by kernel_rfl) (w64 rfl (by omega))) (fun g => by kernel_rfl), ob_v (v := fun g => iV (bys - (((((lk M key).getD ((⟨#[]⟩, ⟨#[]⟩, 0) : ByteArray × ByteArray × Int)).1).size : Int) + ((((lk M key).getD ((⟨#[]⟩, ⟨#[]⟩, 0) : ByteArray × ByteArray × Int)).2.1).size : Int)))) (fun g => o_sub (k := .i64) (a := bys) (b := ((((lk M key).getD ((⟨#[]⟩, ⟨#[]⟩, 0) : ByteArray × ByteArray × Int)).1).size : Int) + ((((lk M key).getD ((⟨#[]⟩, ⟨#[]⟩, 0) : ByteArray × ByteArray × Int)).2.1).size : Int)) (c := bys - (((((lk M key).getD ((⟨#[]⟩, ⟨#[]⟩, 0) : ByteArray × ByteArray × Int)).1).size : Int) + ((((lk M key).getD ((⟨#[]⟩, ⟨#[]⟩, 0) : ByteArray × ByteArray × Int)).2.1).size : Int))) (by kernel_rfl) (by kernel_rfl) (w64 rfl (by omega))) (fun g => by kernel_rfl), ob_val fun g w => by kernel_rfl, ob_val fun g w => by kernel_rfl, ob_s (l := fun g => [valB b mb qb bys]) (l' := fun g => [valB b mb qb (bys - (((((lk M key).getD ((⟨#[]⟩, ⟨#[]⟩, 0) : ByteArray × ByteArray × Int)).1).size : Int) + ((((lk M key).getD ((⟨#[]⟩, ⟨#[]⟩, 0) : ByteArray × ByteArray × Int)).2.1).size : Int)))]) (v := fun g => undef) (fun g => o_store (i := 2) (v := iV (bys - (((((lk M key).getD ((⟨#[]⟩, ⟨#[]⟩, 0) : ByteArray × ByteArray × Int)).1).size : Int) + ((((lk M key).getD ((⟨#[]⟩, ⟨#[]⟩, 0) : ByteArray × ByteArray × Int)).2.1).size : Int)))) (by kernel_rfl) (by kernel_rfl) (by kernel_rfl) (by kernel_rfl) (by kernel_rfl)) (fun g => by kernel_rfl), trivial⟩
    intro g
    refine Ex'.sub (subB_spec [0, 1, 4, 6]) ?_
    refine Ex'.as [0, 1, 2, 3] (σ' := [(0, pV b 0), (1, sV key), (4, bV false), (6, bV ((lk M key).isSome))]) (Γ' := [valB b mb qb (bys - (((((lk M key).getD ((⟨#[]⟩, ⟨#[]⟩, 0) : ByteArray × ByteArray × Int)).1).size : Int) + ((((lk M key).getD ((⟨#[]⟩, ⟨#[]⟩, 0) : ByteArray × ByteArray × Int)).2.1).size : Int))), mapR Value.string itV mb M, hpS qb S n, blkR b3 [sV (((lk M key).getD ((⟨#[]⟩, ⟨#[]⟩, 0) : ByteArray × ByteArray × Int)).1), sV (((lk M key).getD ((⟨#[]⟩, ⟨#[]⟩, 0) : ByteArray × ByteArray × Int)).2.1), iV (((lk M key).getD ((⟨#[]⟩, ⟨#[]⟩, 0) : ByteArray × ByteArray × Int)).2.2)] 24]) (by kernel_rfl) rfl (by kernel_rfl) (by kernel_rfl) ?_
    refine Ex'.next ?_
    refine Cd.seq ?_
    refine Cd.region rfl ?_
    refine Sq.vals [0, 1, 2] (rest := [3, 4, 5]) [pV b 0, pV b 0, pV b 0] (fun w => by kernel_rfl) ?_
    refine Sq.same [0] (l := [valB b mb qb (bys - (((((lk M key).getD ((⟨#[]⟩, ⟨#[]⟩, 0) : ByteArray × ByteArray × Int)).1).size : Int) + ((((lk M key).getD ((⟨#[]⟩, ⟨#[]⟩, 0) : ByteArray × ByteArray × Int)).2.1).size : Int)))]) (o_load (i := 0) (v := .map (some mb)) (by kernel_rfl) (by kernel_rfl) (by kernel_rfl)) (by kernel_rfl) rfl (by kernel_rfl) rfl ?_
    refine Sq.vals [4] (rest := [5]) [sV key] (fun w => by kernel_rfl) ?_
    refine Sq.same [1] (l := [mapR Value.string itV mb M]) (o_delete key (by kernel_rfl) (by kernel_rfl) (strKey Tryd.underlying9) Tryd.underlying61) (by kernel_rfl) rfl (by kernel_rfl) rfl ?_
    refine Sq.done ?_
    refine Ex'.next ?_
    refine Cd.region rfl ?_
    refine Sq.vals [0, 1, 2] (rest := [3, 4, 5]) [pV b 0, pV b 0, pV b 1] (fun w => by kernel_rfl) ?_
    refine Sq.same [0] (l := [valB b mb qb (bys - (((((lk M key).getD ((⟨#[]⟩, ⟨#[]⟩, 0) : ByteArray × ByteArray × Int)).1).size : Int) + ((((lk M key).getD ((⟨#[]⟩, ⟨#[]⟩, 0) : ByteArray × ByteArray × Int)).2.1).size : Int)))]) (o_load (i := 1) (v := pV qb 0) (by kernel_rfl) (by kernel_rfl) (by kernel_rfl)) (by kernel_rfl) rfl (by kernel_rfl) rfl ?_
    refine Sq.vals [4] (rest := [5]) [sV key] (fun w => by kernel_rfl) ?_
    refine Sq.same [2] (l := [hpS qb S n]) (o_call (by kernel_rfl) Tryd.call32 (hp_RemoveS (S := S) (n := n) key (by omega))) (by kernel_rfl) rfl (by kernel_rfl) rfl ?_
    refine Sq.done ?_
    refine Ex'.next ?_
    refine Cd.seq ?_
    refine Cd.region rfl ?_
    refine Sq.vals [0, 1] (rest := []) [bV ((lk M key).isSome), bV ((lk M key).isSome)] (fun w => by kernel_rfl) ?_
    refine Sq.done ?_
    refine Ex'.next ?_
    refine Cd.ret ?_
    refine Ex'.ret Tryd.results14 (RVs.tmp (v := bV ((lk M key).isSome)) (by kernel_rfl) (RVs.nil)) (fun w hw => ?_)
    have e : valDel M S bys key = (del M key, hrem S key, bys - (((((lk M key).getD ((⟨#[]⟩, ⟨#[]⟩, 0) : ByteArray × ByteArray × Int)).1).size : Int) + ((((lk M key).getD ((⟨#[]⟩, ⟨#[]⟩, 0) : ByteArray × ByteArray × Int)).2.1).size : Int)), (lk M key).isSome) := by unfold valDel; rw [if_pos h4]
    rw [e]
    exact ⟨_, ⟨rfl, rfl⟩, hw.pickB [0, 1, 2] (by kernel_rfl) (by kernel_rfl) (by kernel_rfl)⟩
  ·
    refine Cd.skip ?_
    refine Ex'.next ?_
    refine Cd.seq ?_
    refine Cd.region rfl ?_
    refine Sq.vals [0, 1] (rest := []) [bV ((lk M key).isSome), bV ((lk M key).isSome)] (fun w => by kernel_rfl) ?_
    refine Sq.done ?_
    refine Ex'.next ?_
    refine Cd.ret ?_
    refine Ex'.ret Tryd.results14 (RVs.tmp (v := bV ((lk M key).isSome)) (by kernel_rfl) (RVs.nil)) (fun w hw => ?_)
    have e : valDel M S bys key = (M, S, bys, (lk M key).isSome) := by unfold valDel; rw [if_neg (Bool.eq_false_iff.1 h4)]
    rw [e]
    exact ⟨_, ⟨rfl, rfl⟩, hw.pickB [0, 1, 2] (by kernel_rfl) (by kernel_rfl) (by kernel_rfl)⟩

theorem valDel_by {M : List (ByteArray × ByteArray × ByteArray × Int)} {S : List (KR ByteArray)} {bys : Int} (hi : ItB M) (key : ByteArray) : bys - 320 ≤ (valDel M S bys key).2.2.1 ∧ (valDel M S bys key).2.2.1 ≤ bys := by
  have h := hi.at key
  unfold valDel
  split <;> simp <;> omega

def valPut (M : List (ByteArray × ByteArray × ByteArray × Int)) (S : List (KR ByteArray)) (bys : Int) (key : ByteArray) (v : ByteArray) (d : Int) : List (ByteArray × ByteArray × ByteArray × Int) × List (KR ByteArray) × Int :=
  if d > 0 then (put ((valDel M S bys key).1) key (key, v, d), hset ((valDel M S bys key).2.1) (key, d, 0), (valDel M S bys key).2.2.1 + ((key.size : Int) + (v.size : Int))) else (put ((valDel M S bys key).1) key (key, v, d), (valDel M S bys key).2.1, (valDel M S bys key).2.2.1 + ((key.size : Int) + (v.size : Int)))

set_option maxHeartbeats 4000000 in
set_option maxRecDepth 100000 in
theorem val_PutOk {b : Nat} {mb : Nat} {qb : Nat} {n : Nat} {M : List (ByteArray × ByteArray × ByteArray × Int)} {S : List (KR ByteArray)} {bys : Int} (key : ByteArray) (v : ByteArray) (d : Int) {n' : Nat} (hb : n + 1 ≤ 1000000000) (hn : n + 1 ≤ n') (hy : -1000000000 ≤ bys ∧ bys ≤ 1000000000) (hi : ItB M) (hr : rightC key v d = 0) : Tri Tryd.prog 11 #[pV b 0, .agg #[sV key, sV v, iV d]] (valL b mb qb M S bys n) (Same (valL b mb qb ((valPut M S bys key v d).1) ((valPut M S bys key v d).2.1) ((valPut M S bys key v d).2.2) n') (.nilIface)) := by
  refine Tri.enter (args := [pV b 0, .agg #[sV key, sV v, iV d]]) Tryd.func11 rfl rfl rfl (fun B wz => ?_)
  have hix := hi.at key
  have hvd := valDel_by (S := S) (bys := bys) hi key
  have hks := rightC_ok hr
  refine Cd.seq ?_
  refine Cd.region rfl ?_
  refine Sq.ex [] (l := []) (o_newBox (v := .agg #[sV key, sV v, iV d]) [sV key, sV v, iV d] (by kernel_rfl) rfl) (by kernel_rfl) rfl (by kernel_rfl) (fun _ => Nat.zero_le _) ?_; intro b3 _
  refine Sq.vals [1] (rest := []) [.nilIface] (fun w => by kernel_rfl) ?_
  refine Sq.done ?_
  refine Ex'.next ?_
  refine Cd.seq ?_
  refine Cd.seq ?_
  refine Cd.region rfl ?_
  refine Sq.same [3] (l := [blkR b3 [sV key, sV v, iV d] 24]) (o_loadN (i := 0) [sV key, sV v, iV d] (by kernel_rfl) (by kernel_rfl) (by kernel_rfl)) (by kernel_rfl) rfl (by kernel_rfl) rfl ?_
  refine Sq.same [] (l := []) (o_call (by kernel_rfl) Tryd.call19 (val_RightOk (k := key) (v := v) (d := d) hr)) (by kernel_rfl) rfl (by kernel_rfl) rfl ?_
  refine Sq.vals [2] (rest := []) [.nilIface] (fun w => by kernel_rfl) ?_
  refine Sq.done ?_
  refine Ex'.next ?_
  refine Cd.seq ?_
  refine Cd.region rfl ?_
  refine Sq.vals [0, 1] (rest := []) [.nilIface, bV false] (fun w => by kernel_rfl) ?_
  refine Sq.done ?_
  refine Ex'.next ?_
  refine Cd.condF (by kernel_rfl) ?_
  refine Cd.skip ?_
  refine Ex'.next ?_
  refine Cd.seq ?_
  refine Cd.region rfl ?_
  refine Sq.vals [0, 1] (rest := [2, 3]) [pV b 0, pV b3 0] (fun w => by kernel_rfl) ?_
  refine Sq.same [3] (l := [blkR b3 [sV key, sV v, iV d] 24]) (o_load (i := 0) (v := sV key) (by kernel_rfl) (by kernel_rfl) (by kernel_rfl)) (by kernel_rfl) rfl (by kernel_rfl) rfl ?_
  refine Sq.same [0, 1, 2] (l := valL b mb qb M S bys n) (o_call (by kernel_rfl) Tryd.call14 (val_Delete (n := n) (M := M) (S := S) (bys := bys) key (by omega) (by omega) (by first | assumption | exact hi.del _ | (unfold ItB; decide)))) (by kernel_rfl) rfl (by kernel_rfl) rfl ?_
  refine Sq.done ?_
  refine Ex'.next ?_
  refine Cd.seq ?_
  refine Cd.plan [0, 1, 3, 7, 0, 16, 0, 127] [(3, [(0, false, 0)]), (5, [(3, false, 0)]), (6, [(3, false, 0)]), (7, [(1, true, 0)])] [] [] [(1, 7, fun g => mapR Value.string itV mb (put ((valDel M S bys key).1) key (key, v, d)))] [fun g => pV b 0, fun g => pV b 0, fun g => pV b 0, fun g => .map (some mb), fun g => pV b3 0, fun g => sV key, fun g => .agg #[sV key, sV v, iV d], fun g => undef] (by kernel_rfl) (by kernel_rfl) rfl (trivial) ?_ ?_
  · exact ⟨ob_val fun g w => by kernel_rfl, ob_val fun g w => by kernel_rfl, ob_val fun g w => by kernel_rfl, ob_s (l := fun g => [valB b mb qb ((valDel M S bys key).2.2.1)]) (l' := fun g => [valB b mb qb ((valDel M S bys key).2.2.1)]) (v := fun g => .map (some mb)) (fun g => o_load (i := 0) (v := .map (some mb)) (by kernel_rfl) (by kernel_rfl) (by kernel_rfl)) (fun g => by kernel_rfl), ob_val fun g w => by kernel_rfl, ob_s (l := fun g => [blkR b3 [sV key, sV v, iV d] 24]) (l' := fun g => [blkR b3 [sV key, sV v, iV d] 24]) (v := fun g => sV key) (fun g => o_load (i := 0) (v := sV key) (by kernel_rfl) (by kernel_rfl) (by kernel_rfl)) (fun g => by kernel_rfl), ob_s (l := fun g => [blkR b3 [sV key, sV v, iV d] 24]) (l' := fun g => [blkR b3 [sV key, sV v, iV d] 24]) (v := fun g => .agg #[sV key, sV v, iV d]) (fun g => o_loadN (i := 0) [sV key, sV v, iV d] (by kernel_rfl) (by kernel_rfl) (by kernel_rfl)) (fun g => by kernel_rfl), ob_s (l := fun g => [mapR Value.string itV mb ((valDel M S bys key).1)]) (l' := fun g => [mapR Value.string itV mb (put ((valDel M S bys key).1) key (key, v, d))]) (v := fun g => undef) (fun g => o_mapUpdate key (key, v, d) (by kernel_rfl) (by kernel_rfl) (by kernel_rfl) (strKey Tryd.underlying9) Tryd.underlying61) (fun g => by kernel_rfl), trivial⟩
  intro g
  refine Ex'.sub (subB_spec [0, 3, 4]) ?_
  refine Ex'.as [0, 1, 2, 3] (σ' := [(0, pV b 0), (3, pV b3 0), (4, .nilIface)]) (Γ' := [valB b mb qb ((valDel M S bys key).2.2.1), mapR Value.string itV mb (put ((valDel M S bys key).1) key (key, v, d)), hpS qb ((valDel M S bys key).2.1) n, blkR b3 [sV key, sV v, iV d] 24]) (by kernel_rfl) rfl (by kernel_rfl) (by kernel_rfl) ?_
  refine Ex'.next ?_
  refine Cd.seq ?_
  refine Cd.plan [0, 1, 3, 7, 0, 16, 48, 0, 128, 384, 1008, 2047, 4095, 8191, 16383] [(3, [(0, false, 0)]), (5, [(3, false, 0)]), (8, [(3, false, 0)]), (14, [(0, true, 0)])] [] [] [(0, 14, fun g => valB b mb qb ((valDel M S bys key).2.2.1 + ((key.size : Int) + (v.size : Int))))] [fun g => pV b 0, fun g => pV b 0, fun g => pV b 2, fun g => iV ((valDel M S bys key).2.2.1), fun g => pV b3 0, fun g => sV key, fun g => iV (key.size : Int), fun g => pV b3 1, fun g => sV v, fun g => iV (v.size : Int), fun g => iV ((key.size : Int) + (v.size : Int)), fun g => iV ((valDel M S bys key).2.2.1 + ((key.size : Int) + (v.size : Int))), fun g => pV b 0, fun g => pV b 2, fun g => undef] (by kernel_rfl) (by kernel_rfl) rfl (trivial) ?_ ?_
  · exact ⟨ob_val fun g w => by kernel_rfl, ob_val fun g w => by kernel_rfl, ob_val fun g w => by kernel_rfl, ob_s (l := fun g => [valB b mb qb ((valDel M S bys key).2.2.1)]) (l' := fun g => [valB b mb qb ((valDel M S bys key).2.2.1)]) (v := fun g => iV ((valDel M S bys key).2.2.1)) (fun g => o_load (i := 2) (v := iV ((valDel M S bys key).2.2.1)) (by kernel_rfl) (by kernel_rfl) (by kernel_rfl)) (fun g => by kernel_rfl), ob_val fun g w => by kernel_rfl, ob_s (l := fun g => [blkR b3 [sV key, sV v, iV d] 24]) (l' := fun g => [blkR b3 [sV key, sV v, iV d] 24]) (v := fun g => sV key) (fun g => o_load (i := 0) (v := sV key) (by kernel_rfl) (by kernel_rfl) (by kernel_rfl)) (fun g => by kernel_rfl), ob_val fun g w => by kernel_rfl, ob_val fun g w => by kernel_rfl, ob_s (l := fun g => [blkR b3 [sV key, sV v, iV d] 24]) (l' := fun g => [blkR b3 [sV key, sV v, iV d] 24]) (v := fun g => sV v) (fun g => o_load (i := 1) (v := sV v) (by kernel_rfl) (by kernel_rfl) (by kernel_rfl)) (fun g => by kernel_rfl), ob_val fun g w => by kernel_rfl, ob_v (v := fun g => iV ((key.size : Int) + (v.size : Int))) (fun g => o_add (k := .i64) (a := (key.size : Int)) (b := (v.size : Int)) (c := (key.size : Int) + (v.size : Int)) (by kernel_rfl) (by kernel_rfl) (w64 rfl (by omega))) (fun g => by kernel_rfl), ob_v (v := fun g => iV ((valDel M S bys key).2.2.1 + ((key.size : Int) + (v.size : Int)))) (fun g => o_add (k := .i64) (a := (valDel M S bys key).2.2.1) (b := (key.size : Int) + (v.size : Int)) (c := (valDel M S bys key).2.2.1 + ((key.size : Int) + (v.size : Int))) (by kernel_rfl) (by kernel_rfl) (w64 rfl (by omega))) (fun g => by kernel_rfl), ob_val fun g w => by kernel_rfl, ob_val fun g w => by kernel_rfl, ob_s (l := fun g => [valB b mb qb ((valDel M S bys key).2.2.1)]) (l' := fun g => [valB b mb qb ((valDel M S bys key).2.2.1 + ((key.size : Int) + (v.size : Int)))]) (v := fun g => undef) (fun g => o_store (i := 2) (v := iV ((valDel M S bys key).2.2.1 + ((key.size : Int) + (v.size : Int)))) (by kernel_rfl) (by kernel_rfl) (by kernel_rfl) (by kernel_rfl) (by kernel_rfl)) (fun g => by kernel_rfl), trivial⟩
  intro g
  refine Ex'.sub (subB_spec [0, 3, 4]) ?_
  refine Ex'.as [0, 1, 2, 3] (σ' := [(0, pV b 0), (3, pV b3 0), (4, .nilIface)]) (Γ' := [valB b mb qb ((valDel M S bys key).2.2.1 + ((key.size : Int) + (v.size : Int))), mapR Value.string itV mb (put ((valDel M S bys key).1) key (key, v, d)), hpS qb ((valDel M S bys key).2.1) n, blkR b3 [sV key, sV v, iV d] 24]) (by kernel_rfl) rfl (by kernel_rfl) (by kernel_rfl) ?_
  refine Ex'.next ?_
  refine Cd.seq ?_
  refine Cd.seq ?_
  refine Cd.region rfl ?_
  refine Sq.vals [0] (rest := [1, 2]) [pV b3 2] (fun w => by kernel_rfl) ?_
  refine Sq.same [3] (l := [blkR b3 [sV key, sV v, iV d] 24]) (o_load (i := 2) (v := iV d) (by kernel_rfl) (by kernel_rfl) (by kernel_rfl)) (by kernel_rfl) rfl (by kernel_rfl) rfl ?_
  refine Sq.vals [2] (rest := []) [bV (decide (d > 0))] (fun w => by kernel_rfl) ?_
  refine Sq.done ?_
  refine Ex'.next ?_
  refine Cd.case (p := d > 0) (by kernel_rfl) (fun h4 => ?_) (fun h4 => ?_)
  ·
    refine Cd.plan [0, 1, 3, 7, 0, 16, 0, 64, 192, 511] [(3, [(0, false, 0)]), (5, [(3, false, 0)]), (7, [(3, false, 0)]), (9, [(2, true, 0)])] [] [] [(2, 9, fun g => hpS qb (hset ((valDel M S bys key).2.1) (key, d, 0)) (n + 1))] [fun g => pV b 0, fun g => pV b 0, fun g => pV b 1, fun g => pV qb 0, fun g => pV b3 0, fun g => sV key, fun g => pV b3 2, fun g => iV d, fun g => .agg #[iV d, iV 0], fun g => .tuple #[]] (by kernel_rfl) (by kernel_rfl) rfl (trivial) ?_ ?_
    · exact ⟨ob_val fun g w => by kernel_rfl, ob_val fun g w => by kernel_rfl, ob_val fun g w => by kernel_rfl, ob_s (l := fun g => [valB b mb qb ((valDel M S bys key).2.2.1 + ((key.size : Int) + (v.size : Int)))]) (l' := fun g => [valB b mb qb ((valDel M S bys key).2.2.1 + ((key.size : Int) + (v.size : Int)))]) (v := fun g => pV qb 0) (fun g => o_load (i := 1) (v := pV qb 0) (by kernel_rfl) (by kernel_rfl) (by kernel_rfl)) (fun g => by kernel_rfl), ob_val fun g w => by kernel_rfl, ob_s (l := fun g => [blkR b3 [sV key, sV v, iV d] 24]) (l' := fun g => [blkR b3 [sV key, sV v, iV d] 24]) (v := fun g => sV key) (fun g => o_load (i := 0) (v := sV key) (by kernel_rfl) (by kernel_rfl) (by kernel_rfl)) (fun g => by kernel_rfl), ob_val fun g w => by kernel_rfl, ob_s (l := fun g => [blkR b3 [sV key, sV v, iV d] 24]) (l' := fun g => [blkR b3 [sV key, sV v, iV d] 24]) (v := fun g => iV d) (fun g => o_load (i := 2) (v := iV d) (by kernel_rfl) (by kernel_rfl) (by kernel_rfl)) (fun g => by kernel_rfl), ob_val fun g w => by kernel_rfl, ob_s (l := fun g => [hpS qb ((valDel M S bys key).2.1) n]) (l' := fun g => [hpS qb (hset ((valDel M S bys key).2.1) (key, d, 0)) (n + 1)]) (v := fun g => .tuple #[]) (fun g => o_call (by kernel_rfl) Tryd.call30 (hp_SetS (S := (valDel M S bys key).2.1) (n := n) key d 0 (by omega))) (fun g => by kernel_rfl), trivial⟩
    intro g
    refine Ex'.sub (subB_spec [4]) ?_
    refine Ex'.as [0, 1, 2, 3] (σ' := [(4, .nilIface)]) (Γ' := [valB b mb qb ((valDel M S bys key).2.2.1 + ((key.size : Int) + (v.size : Int))), mapR Value.string itV mb (put ((valDel M S bys key).1) key (key, v, d)), hpS qb (hset ((valDel M S bys key).2.1) (key, d, 0)) (n + 1), blkR b3 [sV key, sV v, iV d] 24]) (by kernel_rfl) rfl (by kernel_rfl) (by kernel_rfl) ?_
    refine Ex'.next ?_
    refine Cd.seq ?_
    refine Cd.region rfl ?_
    refine Sq.vals [0] (rest := []) [.nilIface] (fun w => by kernel_rfl) ?_
    refine Sq.done ?_
    refine Ex'.next ?_
    refine Cd.ret ?_
    refine Ex'.ret Tryd.results11 (RVs.tmp (v := .nilIface) (by kernel_rfl) (RVs.nil)) (fun w hw => ?_)
    have e : valPut M S bys key v d = (put ((valDel M S bys key).1) key (key, v, d), hset ((valDel M S bys key).2.1) (key, d, 0), (valDel M S bys key).2.2.1 + ((key.size : Int) + (v.size : Int))) := by unfold valPut; rw [if_pos h4]
    rw [e]
    exact ⟨_, ⟨rfl, rfl⟩, (hw.conv 2 (R := hpS qb (hset ((valDel M S bys key).2.1) (key, d, 0)) (n + 1)) (R' := hpS qb (hset ((valDel M S bys key).2.1) (key, d, 0)) n') (by kernel_rfl) (hpS.up (by omega))).pickB [0, 1, 2] (by kernel_rfl) (by kernel_rfl) (by kernel_rfl)⟩
  ·
    refine Cd.skip ?_
    refine Ex'.next ?_
    refine Cd.seq ?_
    refine Cd.region rfl ?_
    refine Sq.vals [0] (rest := []) [.nilIface] (fun w => by kernel_rfl) ?_
    refine Sq.done ?_
    refine Ex'.next ?_
    refine Cd.ret ?_
    refine Ex'.ret Tryd.results11 (RVs.tmp (v := .nilIface) (by kernel_rfl) (RVs.nil)) (fun w hw => ?_)
    have e : valPut M S bys key v d = (put ((valDel M S bys key).1) key (key, v, d), (valDel M S bys key).2.1, (valDel M S bys key).2.2.1 + ((key.size : Int) + (v.size : Int))) := by unfold valPut; rw [if_neg h4]
    rw [e]
    exact ⟨_, ⟨rfl, rfl⟩, (hw.conv 2 (R := hpS qb ((valDel M S bys key).2.1) n) (R' := hpS qb ((valDel M S bys key).2.1) n') (by kernel_rfl) (hpS.up (by omega))).pickB [0, 1, 2] (by kernel_rfl) (by kernel_rfl) (by kernel_rfl)⟩

set_option maxHeartbeats 8000000 in
set_option maxRecDepth 100000 in
theorem val_PutBad {b mb qb n : Nat} {M : List (ByteArray × ByteArray × ByteArray × Int)} {S : List (KR ByteArray)} {bys : Int} (key v : ByteArray) (d : Int) (hr : ¬ rightC key v d = 0) : Tri Tryd.prog 11 #[pV b 0, .agg #[sV key, sV v, iV d]] [valB b mb qb bys, mapR Value.string itV mb M, hpS qb S n] (PostE (fun _ => True) (fun e => errV e) fun e => valL b mb qb M S bys n ++ [errR e ⟨#[105, 116, 101, 109]⟩ key (rightC key v d)]) := by
  refine Tri.enter (args := [pV b 0, .agg #[sV key, sV v, iV d]]) Tryd.func11 rfl rfl rfl (fun B wz => ?_)
  refine Cd.seq ?_
  refine Cd.region rfl ?_
  refine Sq.ex [] (l := []) (o_newBox (v := .agg #[sV key, sV v, iV d]) [sV key, sV v, iV d] (by kernel_rfl) rfl) (by kernel_rfl) rfl (by kernel_rfl) (fun _ => Nat.zero_le _) ?_; intro b3 _
  refine Sq.vals [1] (rest := []) [.nilIface] (fun w => by kernel_rfl) ?_
  refine Sq.done ?_
  refine Ex'.next ?_
  refine Cd.seq ?_
  refine Cd.seq ?_
  refine Cd.region rfl ?_
  refine Sq.same [3] (l := [blkR b3 [sV key, sV v, iV d] 24]) (o_loadN (i := 0) [sV key, sV v, iV d] (by kernel_rfl) (by kernel_rfl) (by kernel_rfl)) (by kernel_rfl) rfl (by kernel_rfl) rfl ?_
  refine Sq.ex [] (l := []) (o_call (by kernel_rfl) Tryd.call19 (val_RightBad (k := key) (v := v) (d := d) hr)) (by kernel_rfl) rfl (by kernel_rfl) (fun _ => Nat.le_of_ble_eq_true (by kernel_rfl)) ?_; rintro b4 _
  refine Sq.vals [2] (rest := []) [.iface 83 (pV b4 0)] (fun w => by kernel_rfl) ?_
  refine Sq.done ?_
  refine Ex'.next ?_
  refine Cd.seq ?_
  refine Cd.region rfl ?_
  refine Sq.vals [0, 1] (rest := []) [.iface 83 (pV b4 0), bV true] (fun w => by kernel_rfl) ?_
  refine Sq.done ?_
  refine Ex'.next ?_
  refine Cd.condT (by kernel_rfl) ?_
  refine Cd.seq ?_
  refine Cd.region rfl ?_
  refine Sq.vals [0, 1] (rest := []) [.iface 83 (pV b4 0), .iface 83 (pV b4 0)] (fun w => by kernel_rfl) ?_
  refine Sq.done ?_
  refine Ex'.next ?_
  refine Cd.ret ?_
  refine Ex'.thenRet ?_
  refine Ex'.ret Tryd.results11 (RVs.tmp (v := .iface 83 (pV b4 0)) (by kernel_rfl) (RVs.nil)) (fun w hw => ?_)
  exact ⟨_, ⟨b4, trivial, rfl, rfl⟩, hw.pickB [0, 1, 2, 4] (by kernel_rfl) (by kernel_rfl) (by kernel_rfl)⟩

set_option maxHeartbeats 8000000 in
set_option maxRecDepth 100000 in
theorem val_GetOk {b mb qb n : Nat} {M : List (ByteArray × ByteArray × ByteArray × Int)} {S : List (KR ByteArray)} {bys : Int} (key : ByteArray) (now_ : Int) (hg : getOk M key now_) : Tri Tryd.prog 12 #[pV b 0, sV key, iV now_] [valB b mb qb bys, mapR Value.string itV mb M, hpS qb S n] (Same (valL b mb qb M S bys n) (.tuple #[itV ((lk M key).getD ((⟨#[]⟩, ⟨#[]⟩, 0) : ByteArray × ByteArray × Int)), .nilIface])) := by
  refine Tri.enter (args := [pV b 0, sV key, iV now_]) Tryd.func12 rfl rfl rfl (fun B wz => ?_)
  refine Cd.seq ?_
  refine Cd.region rfl ?_
  refine Sq.ex [] (l := []) (o_new [sV ⟨#[]⟩, sV ⟨#[]⟩, iV 0] (fun w => by kernel_rfl)) (by kernel_rfl) rfl (by kernel_rfl) (fun _ => Nat.zero_le _) ?_; intro b3 _
  refine Sq.vals [1] (rest := []) [.nilIface] (fun w => by kernel_rfl) ?_
  refine Sq.done ?_
  refine Ex'.next ?_
  refine Cd.seq ?_
  refine Cd.region rfl ?_
  refine Sq.vals [0, 1, 2] (rest := [3, 4, 5, 6, 7, 8, 9, 10, 11]) [pV b 0, pV b 0, pV b 0] (fun w => by kernel_rfl) ?_
  refine Sq.same [0] (l := [valB b mb qb bys]) (o_load (i := 0) (v := .map (some mb)) (by kernel_rfl) (by kernel_rfl) (by kernel_rfl)) (by kernel_rfl) rfl (by kernel_rfl) rfl ?_
  refine Sq.vals [4] (rest := [5, 6, 7, 8, 9, 10, 11]) [sV key] (fun w => by kernel_rfl) ?_
  refine Sq.same [1] (l := [mapR Value.string itV mb M]) (o_lookOk (fv := itV) (l := M) ((⟨#[]⟩, ⟨#[]⟩, 0) : ByteArray × ByteArray × Int) key (by kernel_rfl) (by kernel_rfl) (strKey Tryd.underlying9) Tryd.underlying61 (fun w => by kernel_rfl)) (by kernel_rfl) rfl (by kernel_rfl) rfl ?_
  refine Sq.vals [6, 7, 8] (rest := [9, 10, 11]) [.tuple #[.agg #[sV (((lk M key).getD ((⟨#[]⟩, ⟨#[]⟩, 0) : ByteArray × ByteArray × Int)).1), sV (((lk M key).getD ((⟨#[]⟩, ⟨#[]⟩, 0) : ByteArray × ByteArray × Int)).2.1), iV (((lk M key).getD ((⟨#[]⟩, ⟨#[]⟩, 0) : ByteArray × ByteArray × Int)).2.2)], bV ((lk M key).isSome)], .agg #[sV (((lk M key).getD ((⟨#[]⟩, ⟨#[]⟩, 0) : ByteArray × ByteArray × Int)).1), sV (((lk M key).getD ((⟨#[]⟩, ⟨#[]⟩, 0) : ByteArray × ByteArray × Int)).2.1), iV (((lk M key).getD ((⟨#[]⟩, ⟨#[]⟩, 0) : ByteArray × ByteArray × Int)).2.2)], bV ((lk M key).isSome)] (fun w => by kernel_rfl) ?_
  refine Sq.ex [] (l := []) (o_new [sV ⟨#[]⟩, sV ⟨#[]⟩, iV 0] (fun w => by kernel_rfl)) (by kernel_rfl) rfl (by kernel_rfl) (fun _ => Nat.zero_le _) ?_; intro b4 _
  refine Sq.same [4] (l := [blkR b4 [sV ⟨#[]⟩, sV ⟨#[]⟩, iV 0] 24]) (o_store (i := 0) (v := .agg #[sV (((lk M key).getD ((⟨#[]⟩, ⟨#[]⟩, 0) : ByteArray × ByteArray × Int)).1), sV (((lk M key).getD ((⟨#[]⟩, ⟨#[]⟩, 0) : ByteArray × ByteArray × Int)).2.1), iV (((lk M key).getD ((⟨#[]⟩, ⟨#[]⟩, 0) : ByteArray × ByteArray × Int)).2.2)]) (by kernel_rfl) (by kernel_rfl) (by kernel_rfl) (by kernel_rfl) (by kernel_rfl)) (by kernel_rfl) rfl (by kernel_rfl) rfl ?_
  refine Sq.vals [11] (rest := []) [bV ((lk M key).isSome)] (fun w => by kernel_rfl) ?_
  refine Sq.done ?_
  refine Ex'.next ?_
  refine Cd.seq ?_
  refine Cd.seq ?_
  refine Cd.region rfl ?_
  refine Sq.vals [0, 1, 2] (rest := [3, 4, 5, 6, 7, 8, 9, 10, 11, 12]) [bV ((lk M key).isSome), bV (!((lk M key).isSome)), bV (!((lk M key).isSome))] (fun w => by kernel_rfl) ?_
  refine Sq.caseB 21 (t := (!((lk M key).isSome))) rfl (fun h5 => ?_) (fun h5 => ?_)
  ·
    refine Sq.vals [3, 4, 5, 6, 7, 8, 9, 10, 11, 12] (rest := []) [undef, undef, undef, undef, undef, undef, undef, undef, undef, bV true] (fun w => by kernel_rfl) ?_
    refine Sq.done ?_
    refine Ex'.next ?_
    refine Cd.condT (by kernel_rfl) ?_
    refine Cd.seq ?_
    refine Cd.region rfl ?_
    refine Sq.vals [0, 1] (rest := [2, 3, 4]) [.agg #[sV ⟨#[]⟩, sV ⟨#[]⟩, iV 0], sV key] (fun w => by kernel_rfl) ?_
    refine Sq.ex [] (l := []) (o_call (by kernel_rfl) Tryd.call31 (val_fault ⟨#[103, 101, 116]⟩ key 5)) (by kernel_rfl) rfl (by kernel_rfl) (fun _ => Nat.le_of_ble_eq_true (by kernel_rfl)) ?_; rintro b6 _
    refine Sq.same [3] (l := [blkR b3 [sV ⟨#[]⟩, sV ⟨#[]⟩, iV 0] 24]) (o_store (i := 0) (v := .agg #[sV ⟨#[]⟩, sV ⟨#[]⟩, iV 0]) (by kernel_rfl) (by kernel_rfl) (by kernel_rfl) (by kernel_rfl) (by kernel_rfl)) (by kernel_rfl) rfl (by kernel_rfl) rfl ?_
    refine Sq.vals [4] (rest := []) [.iface 83 (pV b6 0)] (fun w => by kernel_rfl) ?_
    refine Sq.done ?_
    refine Ex'.next ?_
    refine Cd.ret ?_
    refine Ex'.thenRet ?_
    refine Ex'.ret Tryd.results12 (RVs.cellN (i := 0) (b := b3) (l := [sV ⟨#[]⟩, sV ⟨#[]⟩, iV 0]) (E := 24) [sV ⟨#[]⟩, sV ⟨#[]⟩, iV 0] 3 (by kernel_rfl) (by kernel_rfl) (by kernel_rfl) (by kernel_rfl) (RVs.tmp (v := .iface 83 (pV b6 0)) (by kernel_rfl) (RVs.nil))) (fun w hw => ?_)
    exact absurd hg (by unfold getOk; first | (simp_all; done) | (simp_all; omega))
  ·
    refine Sq.vals [3] (rest := [4, 5, 6, 7, 8, 9, 10, 11, 12]) [pV b4 2] (fun w => by kernel_rfl) ?_
    refine Sq.same [4] (l := [blkR b4 [sV (((lk M key).getD ((⟨#[]⟩, ⟨#[]⟩, 0) : ByteArray × ByteArray × Int)).1), sV (((lk M key).getD ((⟨#[]⟩, ⟨#[]⟩, 0) : ByteArray × ByteArray × Int)).2.1), iV (((lk M key).getD ((⟨#[]⟩, ⟨#[]⟩, 0) : ByteArray × ByteArray × Int)).2.2)] 24]) (o_load (i := 2) (v := iV (((lk M key).getD ((⟨#[]⟩, ⟨#[]⟩, 0) : ByteArray × ByteArray × Int)).2.2)) (by kernel_rfl) (by kernel_rfl) (by kernel_rfl)) (by kernel_rfl) rfl (by kernel_rfl) rfl ?_
    refine Sq.vals [5, 6] (rest := [7, 8, 9, 10, 11, 12]) [bV (decide (((lk M key).getD ((⟨#[]⟩, ⟨#[]⟩, 0) : ByteArray × ByteArray × Int)).2.2 > 0)), bV (decide (((lk M key).getD ((⟨#[]⟩, ⟨#[]⟩, 0) : ByteArray × ByteArray × Int)).2.2 > 0))] (fun w => by kernel_rfl) ?_
    refine Sq.case 25 (p := ((lk M key).getD ((⟨#[]⟩, ⟨#[]⟩, 0) : ByteArray × ByteArray × Int)).2.2 > 0) rfl (fun h7 => ?_) (fun h7 => ?_)
    ·
      refine Sq.vals [7] (rest := [8, 9, 10, 11, 12]) [pV b4 2] (fun w => by kernel_rfl) ?_
      refine Sq.same [4] (l := [blkR b4 [sV (((lk M key).getD ((⟨#[]⟩, ⟨#[]⟩, 0) : ByteArray × ByteArray × Int)).1), sV (((lk M key).getD ((⟨#[]⟩, ⟨#[]⟩, 0) : ByteArray × ByteArray × Int)).2.1), iV (((lk M key).getD ((⟨#[]⟩, ⟨#[]⟩, 0) : ByteArray × ByteArray × Int)).2.2)] 24]) (o_load (i := 2) (v := iV (((lk M key).getD ((⟨#[]⟩, ⟨#[]⟩, 0) : ByteArray × ByteArray × Int)).2.2)) (by kernel_rfl) (by kernel_rfl) (by kernel_rfl)) (by kernel_rfl) rfl (by kernel_rfl) rfl ?_
      refine Sq.vals [9, 10, 11, 12] (rest := []) [iV now_, bV (decide (((lk M key).getD ((⟨#[]⟩, ⟨#[]⟩, 0) : ByteArray × ByteArray × Int)).2.2 ≤ now_)), bV (decide (((lk M key).getD ((⟨#[]⟩, ⟨#[]⟩, 0) : ByteArray × ByteArray × Int)).2.2 ≤ now_)), bV (decide (((lk M key).getD ((⟨#[]⟩, ⟨#[]⟩, 0) : ByteArray × ByteArray × Int)).2.2 ≤ now_))] (fun w => by kernel_rfl) ?_
      refine Sq.done ?_
      refine Ex'.next ?_
      refine Cd.case (p := ((lk M key).getD ((⟨#[]⟩, ⟨#[]⟩, 0) : ByteArray × ByteArray × Int)).2.2 ≤ now_) (by kernel_rfl) (fun h8 => ?_) (fun h8 => ?_)
      ·
        refine Cd.seq ?_
        refine Cd.region rfl ?_
        refine Sq.vals [0, 1] (rest := [2, 3, 4]) [.agg #[sV ⟨#[]⟩, sV ⟨#[]⟩, iV 0], sV key] (fun w => by kernel_rfl) ?_
        refine Sq.ex [] (l := []) (o_call (by kernel_rfl) Tryd.call31 (val_fault ⟨#[103, 101, 116]⟩ key 5)) (by kernel_rfl) rfl (by kernel_rfl) (fun _ => Nat.le_of_ble_eq_true (by kernel_rfl)) ?_; rintro b9 _
        refine Sq.same [3] (l := [blkR b3 [sV ⟨#[]⟩, sV ⟨#[]⟩, iV 0] 24]) (o_store (i := 0) (v := .agg #[sV ⟨#[]⟩, sV ⟨#[]⟩, iV 0]) (by kernel_rfl) (by kernel_rfl) (by kernel_rfl) (by kernel_rfl) (by kernel_rfl)) (by kernel_rfl) rfl (by kernel_rfl) rfl ?_
        refine Sq.vals [4] (rest := []) [.iface 83 (pV b9 0)] (fun w => by kernel_rfl) ?_
        refine Sq.done ?_
        refine Ex'.next ?_
        refine Cd.ret ?_
        refine Ex'.thenRet ?_
        refine Ex'.ret Tryd.results12 (RVs.cellN (i := 0) (b := b3) (l := [sV ⟨#[]⟩, sV ⟨#[]⟩, iV 0]) (E := 24) [sV ⟨#[]⟩, sV ⟨#[]⟩, iV 0] 3 (by kernel_rfl) (by kernel_rfl) (by kernel_rfl) (by kernel_rfl) (RVs.tmp (v := .iface 83 (pV b9 0)) (by kernel_rfl) (RVs.nil))) (fun w hw => ?_)
        exact absurd hg (by unfold getOk; first | (simp_all; done) | (simp_all; omega))
      ·
        refine Cd.skip ?_
        refine Ex'.next ?_
        refine Cd.seq ?_
        refine Cd.region rfl ?_
        refine Sq.same [4] (l := [blkR b4 [sV (((lk M key).getD ((⟨#[]⟩, ⟨#[]⟩, 0) : ByteArray × ByteArray × Int)).1), sV (((lk M key).getD ((⟨#[]⟩, ⟨#[]⟩, 0) : ByteArray × ByteArray × Int)).2.1), iV (((lk M key).getD ((⟨#[]⟩, ⟨#[]⟩, 0) : ByteArray × ByteArray × Int)).2.2)] 24]) (o_loadN (i := 0) [sV (((lk M key).getD ((⟨#[]⟩, ⟨#[]⟩, 0) : ByteArray × ByteArray × Int)).1), sV (((lk M key).getD ((⟨#[]⟩, ⟨#[]⟩, 0) : ByteArray × ByteArray × Int)).2.1), iV (((lk M key).getD ((⟨#[]⟩, ⟨#[]⟩, 0) : ByteArray × ByteArray × Int)).2.2)] (by kernel_rfl) (by kernel_rfl) (by kernel_rfl)) (by kernel_rfl) rfl (by kernel_rfl) rfl ?_
        refine Sq.same [3] (l := [blkR b3 [sV ⟨#[]⟩, sV ⟨#[]⟩, iV 0] 24]) (o_store (i := 0) (v := .agg #[sV (((lk M key).getD ((⟨#[]⟩, ⟨#[]⟩, 0) : ByteArray × ByteArray × Int)).1), sV (((lk M key).getD ((⟨#[]⟩, ⟨#[]⟩, 0) : ByteArray × ByteArray × Int)).2.1), iV (((lk M key).getD ((⟨#[]⟩, ⟨#[]⟩, 0) : ByteArray × ByteArray × Int)).2.2)]) (by kernel_rfl) (by kernel_rfl) (by kernel_rfl) (by kernel_rfl) (by kernel_rfl)) (by kernel_rfl) rfl (by kernel_rfl) rfl ?_
        refine Sq.vals [2] (rest := []) [.nilIface] (fun w => by kernel_rfl) ?_
        refine Sq.done ?_
        refine Ex'.next ?_
        refine Cd.ret ?_
        refine Ex'.ret Tryd.results12 (RVs.cellN (i := 0) (b := b3) (l := [sV (((lk M key).getD ((⟨#[]⟩, ⟨#[]⟩, 0) : ByteArray × ByteArray × Int)).1), sV (((lk M key).getD ((⟨#[]⟩, ⟨#[]⟩, 0) : ByteArray × ByteArray × Int)).2.1), iV (((lk M key).getD ((⟨#[]⟩, ⟨#[]⟩, 0) : ByteArray × ByteArray × Int)).2.2)]) (E := 24) [sV (((lk M key).getD ((⟨#[]⟩, ⟨#[]⟩, 0) : ByteArray × ByteArray × Int)).1), sV (((lk M key).getD ((⟨#[]⟩, ⟨#[]⟩, 0) : ByteArray × ByteArray × Int)).2.1), iV (((lk M key).getD ((⟨#[]⟩, ⟨#[]⟩, 0) : ByteArray × ByteArray × Int)).2.2)] 3 (by kernel_rfl) (by kernel_rfl) (by kernel_rfl) (by kernel_rfl) (RVs.tmp (v := .nilIface) (by kernel_rfl) (RVs.nil))) (fun w hw => ?_)
        exact ⟨_, ⟨rfl, rfl⟩, hw.pickB [0, 1, 2] (by kernel_rfl) (by kernel_rfl) (by kernel_rfl)⟩
    ·
      refine Sq.vals [7, 8, 9, 10, 11, 12] (rest := []) [undef, undef, undef, undef, bV false, bV false] (fun w => by kernel_rfl) ?_
      refine Sq.done ?_
      refine Ex'.next ?_
      refine Cd.condF (by kernel_rfl) ?_
      refine Cd.skip ?_
      refine Ex'.next ?_
      refine Cd.seq ?_
      refine Cd.region rfl ?_
      refine Sq.same [4] (l := [blkR b4 [sV (((lk M key).getD ((⟨#[]⟩, ⟨#[]⟩, 0) : ByteArray × ByteArray × Int)).1), sV (((lk M key).getD ((⟨#[]⟩, ⟨#[]⟩, 0) : ByteArray × ByteArray × Int)).2.1), iV (((lk M key).getD ((⟨#[]⟩, ⟨#[]⟩, 0) : ByteArray × ByteArray × Int)).2.2)] 24]) (o_loadN (i := 0) [sV (((lk M key).getD ((⟨#[]⟩, ⟨#[]⟩, 0) : ByteArray × ByteArray × Int)).1), sV (((lk M key).getD ((⟨#[]⟩, ⟨#[]⟩, 0) : ByteArray × ByteArray × Int)).2.1), iV (((lk M key).getD ((⟨#[]⟩, ⟨#[]⟩, 0) : ByteArray × ByteArray × Int)).2.2)] (by kernel_rfl) (by kernel_rfl) (by kernel_rfl)) (by kernel_rfl) rfl (by kernel_rfl) rfl ?_
      refine Sq.same [3] (l := [blkR b3 [sV ⟨#[]⟩, sV ⟨#[]⟩, iV 0] 24]) (o_store (i := 0) (v := .agg #[sV (((lk M key).getD ((⟨#[]⟩, ⟨#[]⟩, 0) : ByteArray × ByteArray × Int)).1), sV (((lk M key).getD ((⟨#[]⟩, ⟨#[]⟩, 0) : ByteArray × ByteArray × Int)).2.1), iV (((lk M key).getD ((⟨#[]⟩, ⟨#[]⟩, 0) : ByteArray × ByteArray × Int)).2.2)]) (by kernel_rfl) (by kernel_rfl) (by kernel_rfl) (by kernel_rfl) (by kernel_rfl)) (by kernel_rfl) rfl (by kernel_rfl) rfl ?_
      refine Sq.vals [2] (rest := []) [.nilIface] (fun w => by kernel_rfl) ?_
      refine Sq.done ?_
      refine Ex'.next ?_
      refine Cd.ret ?_
      refine Ex'.ret Tryd.results12 (RVs.cellN (i := 0) (b := b3) (l := [sV (((lk M key).getD ((⟨#[]⟩, ⟨#[]⟩, 0) : ByteArray × ByteArray × Int)).1), sV (((lk M key).getD ((⟨#[]⟩, ⟨#[]⟩, 0) : ByteArray × ByteArray × Int)).2.1), iV (((lk M key).getD ((⟨#[]⟩, ⟨#[]⟩, 0) : ByteArray × ByteArray × Int)).2.2)]) (E := 24) [sV (((lk M key).getD ((⟨#[]⟩, ⟨#[]⟩, 0) : ByteArray × ByteArray × Int)).1), sV (((lk M key).getD ((⟨#[]⟩, ⟨#[]⟩, 0) : ByteArray × ByteArray × Int)).2.1), iV (((lk M key).getD ((⟨#[]⟩, ⟨#[]⟩, 0) : ByteArray × ByteArray × Int)).2.2)] 3 (by kernel_rfl) (by kernel_rfl) (by kernel_rfl) (by kernel_rfl) (RVs.tmp (v := .nilIface) (by kernel_rfl) (RVs.nil))) (fun w hw => ?_)
      exact ⟨_, ⟨rfl, rfl⟩, hw.pickB [0, 1, 2] (by kernel_rfl) (by kernel_rfl) (by kernel_rfl)⟩

set_option maxHeartbeats 8000000 in
set_option maxRecDepth 100000 in
theorem val_GetBad {b mb qb n : Nat} {M : List (ByteArray × ByteArray × ByteArray × Int)} {S : List (KR ByteArray)} {bys : Int} (key : ByteArray) (now_ : Int) (hg : ¬ getOk M key now_) : Tri Tryd.prog 12 #[pV b 0, sV key, iV now_] [valB b mb qb bys, mapR Value.string itV mb M, hpS qb S n] (PostE (fun _ => True) (fun e => .tuple #[itV ((⟨#[]⟩, ⟨#[]⟩, 0) : ByteArray × ByteArray × Int), errV e]) fun e => valL b mb qb M S bys n ++ [errR e ⟨#[103, 101, 116]⟩ key 5]) := by
  refine Tri.enter (args := [pV b 0, sV key, iV now_]) Tryd.func12 rfl rfl rfl (fun B wz => ?_)
  refine Cd.seq ?_
  refine Cd.region rfl ?_
  refine Sq.ex [] (l := []) (o_new [sV ⟨#[]⟩, sV ⟨#[]⟩, iV 0] (fun w => by kernel_rfl)) (by kernel_rfl) rfl (by kernel_rfl) (fun _ => Nat.zero_le _) ?_; intro b3 _
  refine Sq.vals [1] (rest := []) [.nilIface] (fun w => by kernel_rfl) ?_
  refine Sq.done ?_
  refine Ex'.next ?_
  refine Cd.seq ?_
  refine Cd.region rfl ?_
  refine Sq.vals [0, 1, 2] (rest := [3, 4, 5, 6, 7, 8, 9, 10, 11]) [pV b 0, pV b 0, pV b 0] (fun w => by kernel_rfl) ?_
  refine Sq.same [0] (l := [valB b mb qb bys]) (o_load (i := 0) (v := .map (some mb)) (by kernel_rfl) (by kernel_rfl) (by kernel_rfl)) (by kernel_rfl) rfl (by kernel_rfl) rfl ?_
  refine Sq.vals [4] (rest := [5, 6, 7, 8, 9, 10, 11]) [sV key] (fun w => by kernel_rfl) ?_
  refine Sq.same [1] (l := [mapR Value.string itV mb M]) (o_lookOk (fv := itV) (l := M) ((⟨#[]⟩, ⟨#[]⟩, 0) : ByteArray × ByteArray × Int) key (by kernel_rfl) (by kernel_rfl) (strKey Tryd.underlying9) Tryd.underlying61 (fun w => by kernel_rfl)) (by kernel_rfl) rfl (by kernel_rfl) rfl ?_
  refine Sq.vals [6, 7, 8] (rest := [9, 10, 11]) [.tuple #[.agg #[sV (((lk M key).getD ((⟨#[]⟩, ⟨#[]⟩, 0) : ByteArray × ByteArray × Int)).1), sV (((lk M key).getD ((⟨#[]⟩, ⟨#[]⟩, 0) : ByteArray × ByteArray × Int)).2.1), iV (((lk M key).getD ((⟨#[]⟩, ⟨#[]⟩, 0) : ByteArray × ByteArray × Int)).2.2)], bV ((lk M key).isSome)], .agg #[sV (((lk M key).getD ((⟨#[]⟩, ⟨#[]⟩, 0) : ByteArray × ByteArray × Int)).1), sV (((lk M key).getD ((⟨#[]⟩, ⟨#[]⟩, 0) : ByteArray × ByteArray × Int)).2.1), iV (((lk M key).getD ((⟨#[]⟩, ⟨#[]⟩, 0) : ByteArray × ByteArray × Int)).2.2)], bV ((lk M key).isSome)] (fun w => by kernel_rfl) ?_
  refine Sq.ex [] (l := []) (o_new [sV ⟨#[]⟩, sV ⟨#[]⟩, iV 0] (fun w => by kernel_rfl)) (by kernel_rfl) rfl (by kernel_rfl) (fun _ => Nat.zero_le _) ?_; intro b4 _
  refine Sq.same [4] (l := [blkR b4 [sV ⟨#[]⟩, sV ⟨#[]⟩, iV 0] 24]) (o_store (i := 0) (v := .agg #[sV (((lk M key).getD ((⟨#[]⟩, ⟨#[]⟩, 0) : ByteArray × ByteArray × Int)).1), sV (((lk M key).getD ((⟨#[]⟩, ⟨#[]⟩, 0) : ByteArray × ByteArray × Int)).2.1), iV (((lk M key).getD ((⟨#[]⟩, ⟨#[]⟩, 0) : ByteArray × ByteArray × Int)).2.2)]) (by kernel_rfl) (by kernel_rfl) (by kernel_rfl) (by kernel_rfl) (by kernel_rfl)) (by kernel_rfl) rfl (by kernel_rfl) rfl ?_
  refine Sq.vals [11] (rest := []) [bV ((lk M key).isSome)] (fun w => by kernel_rfl) ?_
  refine Sq.done ?_
  refine Ex'.next ?_
  refine Cd.seq ?_
  refine Cd.seq ?_
  refine Cd.region rfl ?_
  refine Sq.vals [0, 1, 2] (rest := [3, 4, 5, 6, 7, 8, 9, 10, 11, 12]) [bV ((lk M key).isSome), bV (!((lk M key).isSome)), bV (!((lk M key).isSome))] (fun w => by kernel_rfl) ?_
  refine Sq.caseB 21 (t := (!((lk M key).isSome))) rfl (fun h5 => ?_) (fun h5 => ?_)
  ·
    refine Sq.vals [3, 4, 5, 6, 7, 8, 9, 10, 11, 12] (rest := []) [undef, undef, undef, undef, undef, undef, undef, undef, undef, bV true] (fun w => by kernel_rfl) ?_
    refine Sq.done ?_
    refine Ex'.next ?_
    refine Cd.condT (by kernel_rfl) ?_
    refine Cd.seq ?_
    refine Cd.region rfl ?_
    refine Sq.vals [0, 1] (rest := [2, 3, 4]) [.agg #[sV ⟨#[]⟩, sV ⟨#[]⟩, iV 0], sV key] (fun w => by kernel_rfl) ?_
    refine Sq.ex [] (l := []) (o_call (by kernel_rfl) Tryd.call31 (val_fault ⟨#[103, 101, 116]⟩ key 5)) (by kernel_rfl) rfl (by kernel_rfl) (fun _ => Nat.le_of_ble_eq_true (by kernel_rfl)) ?_; rintro b6 _
    refine Sq.same [3] (l := [blkR b3 [sV ⟨#[]⟩, sV ⟨#[]⟩, iV 0] 24]) (o_store (i := 0) (v := .agg #[sV ⟨#[]⟩, sV ⟨#[]⟩, iV 0]) (by kernel_rfl) (by kernel_rfl) (by kernel_rfl) (by kernel_rfl) (by kernel_rfl)) (by kernel_rfl) rfl (by kernel_rfl) rfl ?_
    refine Sq.vals [4] (rest := []) [.iface 83 (pV b6 0)] (fun w => by kernel_rfl) ?_
    refine Sq.done ?_
    refine Ex'.next ?_
    refine Cd.ret ?_
    refine Ex'.thenRet ?_
    refine Ex'.ret Tryd.results12 (RVs.cellN (i := 0) (b := b3) (l := [sV ⟨#[]⟩, sV ⟨#[]⟩, iV 0]) (E := 24) [sV ⟨#[]⟩, sV ⟨#[]⟩, iV 0] 3 (by kernel_rfl) (by kernel_rfl) (by kernel_rfl) (by kernel_rfl) (RVs.tmp (v := .iface 83 (pV b6 0)) (by kernel_rfl) (RVs.nil))) (fun w hw => ?_)
    exact ⟨_, ⟨b6, trivial, rfl, rfl⟩, hw.pickB [0, 1, 2, 5] (by kernel_rfl) (by kernel_rfl) (by kernel_rfl)⟩
  ·
    refine Sq.vals [3] (rest := [4, 5, 6, 7, 8, 9, 10, 11, 12]) [pV b4 2] (fun w => by kernel_rfl) ?_
    refine Sq.same [4] (l := [blkR b4 [sV (((lk M key).getD ((⟨#[]⟩, ⟨#[]⟩, 0) : ByteArray × ByteArray × Int)).1), sV (((lk M key).getD ((⟨#[]⟩, ⟨#[]⟩, 0) : ByteArray × ByteArray × Int)).2.1), iV (((lk M key).getD ((⟨#[]⟩, ⟨#[]⟩, 0) : ByteArray × ByteArray × Int)).2.2)] 24]) (o_load (i := 2) (v := iV (((lk M key).getD ((⟨#[]⟩, ⟨#[]⟩, 0) : ByteArray × ByteArray × Int)).2.2)) (by kernel_rfl) (by kernel_rfl) (by kernel_rfl)) (by kernel_rfl) rfl (by kernel_rfl) rfl ?_
    refine Sq.vals [5, 6] (rest := [7, 8, 9, 10, 11, 12]) [bV (decide (((lk M key).getD ((⟨#[]⟩, ⟨#[]⟩, 0) : ByteArray × ByteArray × Int)).2.2 > 0)), bV (decide (((lk M key).getD ((⟨#[]⟩, ⟨#[]⟩, 0) : ByteArray × ByteArray × Int)).2.2 > 0))] (fun w => by kernel_rfl) ?_
    refine Sq.case 25 (p := ((lk M key).getD ((⟨#[]⟩, ⟨#[]⟩, 0) : ByteArray × ByteArray × Int)).2.2 > 0) rfl (fun h7 => ?_) (fun h7 => ?_)
    ·
      refine Sq.vals [7] (rest := [8, 9, 10, 11, 12]) [pV b4 2] (fun w => by kernel_rfl) ?_
      refine Sq.same [4] (l := [blkR b4 [sV (((lk M key).getD ((⟨#[]⟩, ⟨#[]⟩, 0) : ByteArray × ByteArray × Int)).1), sV (((lk M key).getD ((⟨#[]⟩, ⟨#[]⟩, 0) : ByteArray × ByteArray × Int)).2.1), iV (((lk M key).getD ((⟨#[]⟩, ⟨#[]⟩, 0) : ByteArray × ByteArray × Int)).2.2)] 24]) (o_load (i := 2) (v := iV (((lk M key).getD ((⟨#[]⟩, ⟨#[]⟩, 0) : ByteArray × ByteArray × Int)).2.2)) (by kernel_rfl) (by kernel_rfl) (by kernel_rfl)) (by kernel_rfl) rfl (by kernel_rfl) rfl ?_
      refine Sq.vals [9, 10, 11, 12] (rest := []) [iV now_, bV (decide (((lk M key).getD ((⟨#[]⟩, ⟨#[]⟩, 0) : ByteArray × ByteArray × Int)).2.2 ≤ now_)), bV (decide (((lk M key).getD ((⟨#[]⟩, ⟨#[]⟩, 0) : ByteArray × ByteArray × Int)).2.2 ≤ now_)), bV (decide (((lk M key).getD ((⟨#[]⟩, ⟨#[]⟩, 0) : ByteArray × ByteArray × Int)).2.2 ≤ now_))] (fun w => by kernel_rfl) ?_
      refine Sq.done ?_
      refine Ex'.next ?_
      refine Cd.case (p := ((lk M key).getD ((⟨#[]⟩, ⟨#[]⟩, 0) : ByteArray × ByteArray × Int)).2.2 ≤ now_) (by kernel_rfl) (fun h8 => ?_) (fun h8 => ?_)
      ·
        refine Cd.seq ?_
        refine Cd.region rfl ?_
        refine Sq.vals [0, 1] (rest := [2, 3, 4]) [.agg #[sV ⟨#[]⟩, sV ⟨#[]⟩, iV 0], sV key] (fun w => by kernel_rfl) ?_
        refine Sq.ex [] (l := []) (o_call (by kernel_rfl) Tryd.call31 (val_fault ⟨#[103, 101, 116]⟩ key 5)) (by kernel_rfl) rfl (by kernel_rfl) (fun _ => Nat.le_of_ble_eq_true (by kernel_rfl)) ?_; rintro b9 _
        refine Sq.same [3] (l := [blkR b3 [sV ⟨#[]⟩, sV ⟨#[]⟩, iV 0] 24]) (o_store (i := 0) (v := .agg #[sV ⟨#[]⟩, sV ⟨#[]⟩, iV 0]) (by kernel_rfl) (by kernel_rfl) (by kernel_rfl) (by kernel_rfl) (by kernel_rfl)) (by kernel_rfl) rfl (by kernel_rfl) rfl ?_
        refine Sq.vals [4] (rest := []) [.iface 83 (pV b9 0)] (fun w => by kernel_rfl) ?_
        refine Sq.done ?_
        refine Ex'.next ?_
        refine Cd.ret ?_
        refine Ex'.thenRet ?_
        refine Ex'.ret Tryd.results12 (RVs.cellN (i := 0) (b := b3) (l := [sV ⟨#[]⟩, sV ⟨#[]⟩, iV 0]) (E := 24) [sV ⟨#[]⟩, sV ⟨#[]⟩, iV 0] 3 (by kernel_rfl) (by kernel_rfl) (by kernel_rfl) (by kernel_rfl) (RVs.tmp (v := .iface 83 (pV b9 0)) (by kernel_rfl) (RVs.nil))) (fun w hw => ?_)
        exact ⟨_, ⟨b9, trivial, rfl, rfl⟩, hw.pickB [0, 1, 2, 5] (by kernel_rfl) (by kernel_rfl) (by kernel_rfl)⟩
      ·
        refine Cd.skip ?_
        refine Ex'.next ?_
        refine Cd.seq ?_
        refine Cd.region rfl ?_
        refine Sq.same [4] (l := [blkR b4 [sV (((lk M key).getD ((⟨#[]⟩, ⟨#[]⟩, 0) : ByteArray × ByteArray × Int)).1), sV (((lk M key).getD ((⟨#[]⟩, ⟨#[]⟩, 0) : ByteArray × ByteArray × Int)).2.1), iV (((lk M key).getD ((⟨#[]⟩, ⟨#[]⟩, 0) : ByteArray × ByteArray × Int)).2.2)] 24]) (o_loadN (i := 0) [sV (((lk M key).getD ((⟨#[]⟩, ⟨#[]⟩, 0) : ByteArray × ByteArray × Int)).1), sV (((lk M key).getD ((⟨#[]⟩, ⟨#[]⟩, 0) : ByteArray × ByteArray × Int)).2.1), iV (((lk M key).getD ((⟨#[]⟩, ⟨#[]⟩, 0) : ByteArray × ByteArray × Int)).2.2)] (by kernel_rfl) (by kernel_rfl) (by kernel_rfl)) (by kernel_rfl) rfl (by kernel_rfl) rfl ?_
        refine Sq.same [3] (l := [blkR b3 [sV ⟨#[]⟩, sV ⟨#[]⟩, iV 0] 24]) (o_store (i := 0) (v := .agg #[sV (((lk M key).getD ((⟨#[]⟩, ⟨#[]⟩, 0) : ByteArray × ByteArray × Int)).1), sV (((lk M key).getD ((⟨#[]⟩, ⟨#[]⟩, 0) : ByteArray × ByteArray × Int)).2.1), iV (((lk M key).getD ((⟨#[]⟩, ⟨#[]⟩, 0) : ByteArray × ByteArray × Int)).2.2)]) (by kernel_rfl) (by kernel_rfl) (by kernel_rfl) (by kernel_rfl) (by kernel_rfl)) (by kernel_rfl) rfl (by kernel_rfl) rfl ?_
        refine Sq.vals [2] (rest := []) [.nilIface] (fun w => by kernel_rfl) ?_
        refine Sq.done ?_
        refine Ex'.next ?_
        refine Cd.ret ?_
        refine Ex'.ret Tryd.results12 (RVs.cellN (i := 0) (b := b3) (l := [sV (((lk M key).getD ((⟨#[]⟩, ⟨#[]⟩, 0) : ByteArray × ByteArray × Int)).1), sV (((lk M key).getD ((⟨#[]⟩, ⟨#[]⟩, 0) : ByteArray × ByteArray × Int)).2.1), iV (((lk M key).getD ((⟨#[]⟩, ⟨#[]⟩, 0) : ByteArray × ByteArray × Int)).2.2)]) (E := 24) [sV (((lk M key).getD ((⟨#[]⟩, ⟨#[]⟩, 0) : ByteArray × ByteArray × Int)).1), sV (((lk M key).getD ((⟨#[]⟩, ⟨#[]⟩, 0) : ByteArray × ByteArray × Int)).2.1), iV (((lk M key).getD ((⟨#[]⟩, ⟨#[]⟩, 0) : ByteArray × ByteArray × Int)).2.2)] 3 (by kernel_rfl) (by kernel_rfl) (by kernel_rfl) (by kernel_rfl) (RVs.tmp (v := .nilIface) (by kernel_rfl) (RVs.nil))) (fun w hw => ?_)
        exact absurd hg (by unfold getOk; first | (simp_all; done) | (simp_all; omega))
    ·
      refine Sq.vals [7, 8, 9, 10, 11, 12] (rest := []) [undef, undef, undef, undef, bV false, bV false] (fun w => by kernel_rfl) ?_
      refine Sq.done ?_
      refine Ex'.next ?_
      refine Cd.condF (by kernel_rfl) ?_
      refine Cd.skip ?_
      refine Ex'.next ?_
      refine Cd.seq ?_
      refine Cd.region rfl ?_
      refine Sq.same [4] (l := [blkR b4 [sV (((lk M key).getD ((⟨#[]⟩, ⟨#[]⟩, 0) : ByteArray × ByteArray × Int)).1), sV (((lk M key).getD ((⟨#[]⟩, ⟨#[]⟩, 0) : ByteArray × ByteArray × Int)).2.1), iV (((lk M key).getD ((⟨#[]⟩, ⟨#[]⟩, 0) : ByteArray × ByteArray × Int)).2.2)] 24]) (o_loadN (i := 0) [sV (((lk M key).getD ((⟨#[]⟩, ⟨#[]⟩, 0) : ByteArray × ByteArray × Int)).1), sV (((lk M key).getD ((⟨#[]⟩, ⟨#[]⟩, 0) : ByteArray × ByteArray × Int)).2.1), iV (((lk M key).getD ((⟨#[]⟩, ⟨#[]⟩, 0) : ByteArray × ByteArray × Int)).2.2)] (by kernel_rfl) (by kernel_rfl) (by kernel_rfl)) (by kernel_rfl) rfl (by kernel_rfl) rfl ?_
      refine Sq.same [3] (l := [blkR b3 [sV ⟨#[]⟩, sV ⟨#[]⟩, iV 0] 24]) (o_store (i := 0) (v := .agg #[sV (((lk M key).getD ((⟨#[]⟩, ⟨#[]⟩, 0) : ByteArray × ByteArray × Int)).1), sV (((lk M key).getD ((⟨#[]⟩, ⟨#[]⟩, 0) : ByteArray × ByteArray × Int)).2.1), iV (((lk M key).getD ((⟨#[]⟩, ⟨#[]⟩, 0) : ByteArray × ByteArray × Int)).2.2)]) (by kernel_rfl) (by kernel_rfl) (by kernel_rfl) (by kernel_rfl) (by kernel_rfl)) (by kernel_rfl) rfl (by kernel_rfl) rfl ?_
      refine Sq.vals [2] (rest := []) [.nilIface] (fun w => by kernel_rfl) ?_
      refine Sq.done ?_
      refine Ex'.next ?_
      refine Cd.ret ?_
      refine Ex'.ret Tryd.results12 (RVs.cellN (i := 0) (b := b3) (l := [sV (((lk M key).getD ((⟨#[]⟩, ⟨#[]⟩, 0) : ByteArray × ByteArray × Int)).1), sV (((lk M key).getD ((⟨#[]⟩, ⟨#[]⟩, 0) : ByteArray × ByteArray × Int)).2.1), iV (((lk M key).getD ((⟨#[]⟩, ⟨#[]⟩, 0) : ByteArray × ByteArray × Int)).2.2)]) (E := 24) [sV (((lk M key).getD ((⟨#[]⟩, ⟨#[]⟩, 0) : ByteArray × ByteArray × Int)).1), sV (((lk M key).getD ((⟨#[]⟩, ⟨#[]⟩, 0) : ByteArray × ByteArray × Int)).2.1), iV (((lk M key).getD ((⟨#[]⟩, ⟨#[]⟩, 0) : ByteArray × ByteArray × Int)).2.2)] 3 (by kernel_rfl) (by kernel_rfl) (by kernel_rfl) (by kernel_rfl) (RVs.tmp (v := .nilIface) (by kernel_rfl) (RVs.nil))) (fun w hw => ?_)
      exact absurd hg (by unfold getOk; first | (simp_all; done) | (simp_all; omega))

set_option maxHeartbeats 8000000 in
set_option maxRecDepth 100000 in
theorem val_over {bc bn b mb qb n : Nat} {M : List (ByteArray × ByteArray × ByteArray × Int)} {S : List (KR ByteArray)} {bys now_ : Int} (hb1 : n ≤ 1000000000) : Tri Tryd.prog 33 #[pV bc 0, pV bn 0] [blkR bc [pV b 0] 27, blkR bn [iV now_] 3, valB b mb qb bys, mapR Value.string itV mb M, hpS qb S n] (Same ([blkR bc [pV b 0] 27, blkR bn [iV now_] 3] ++ valL b mb qb M S bys n) (.tuple #[sV (htop ((⟨#[]⟩, 0, 0) : KR ByteArray) S).1, bV (decide (0 < S.length ∧ (htop ((⟨#[]⟩, 0, 0) : KR ByteArray) S).2.1 ≤ now_))])) := by
  refine Tri.enter (args := [pV bc 0, pV bn 0]) Tryd.func33 rfl rfl rfl (fun B wz => ?_)
  refine Cd.seq ?_
  refine Cd.region rfl ?_
  refine Sq.vals [0, 1] (rest := []) [sV ⟨#[]⟩, bV false] (fun w => by kernel_rfl) ?_
  refine Sq.done ?_
  refine Ex'.next ?_
  refine Cd.seq ?_
  refine Cd.region rfl ?_
  refine Sq.same [0] (l := [blkR bc [pV b 0] 27]) (o_load (i := 0) (v := pV b 0) (by kernel_rfl) (by kernel_rfl) (by kernel_rfl)) (by kernel_rfl) rfl (by kernel_rfl) rfl ?_
  refine Sq.vals [1, 2] (rest := [3, 4, 5, 6, 7, 8, 9, 10, 11, 12]) [pV b 0, pV b 1] (fun w => by kernel_rfl) ?_
  refine Sq.same [2] (l := [valB b mb qb bys]) (o_load (i := 1) (v := pV qb 0) (by kernel_rfl) (by kernel_rfl) (by kernel_rfl)) (by kernel_rfl) rfl (by kernel_rfl) rfl ?_
  refine Sq.same [4] (l := [hpS qb S n]) (o_call (by kernel_rfl) Tryd.call34 (hp_LeastS (S := S) (n := n) (by omega))) (by kernel_rfl) rfl (by kernel_rfl) rfl ?_
  refine Sq.vals [5, 6, 7, 8] (rest := [9, 10, 11, 12]) [.tuple #[sV ((htop (⟨#[]⟩, 0, 0) S).1), .agg #[iV ((htop (⟨#[]⟩, 0, 0) S).2.1), iV ((htop (⟨#[]⟩, 0, 0) S).2.2)], bV (decide (0 < S.length))], sV ((htop (⟨#[]⟩, 0, 0) S).1), .agg #[iV ((htop (⟨#[]⟩, 0, 0) S).2.1), iV ((htop (⟨#[]⟩, 0, 0) S).2.2)], bV (decide (0 < S.length))] (fun w => by kernel_rfl) ?_
  refine Sq.ex [] (l := []) (o_new [iV 0, iV 0] (fun w => by kernel_rfl)) (by kernel_rfl) rfl (by kernel_rfl) (fun _ => Nat.zero_le _) ?_; intro b3 _
  refine Sq.vals [10] (rest := [11, 12]) [sV ((htop (⟨#[]⟩, 0, 0) S).1)] (fun w => by kernel_rfl) ?_
  refine Sq.same [5] (l := [blkR b3 [iV 0, iV 0] 68]) (o_store (i := 0) (v := .agg #[iV ((htop (⟨#[]⟩, 0, 0) S).2.1), iV ((htop (⟨#[]⟩, 0, 0) S).2.2)]) (by kernel_rfl) (by kernel_rfl) (by kernel_rfl) (by kernel_rfl) (by kernel_rfl)) (by kernel_rfl) rfl (by kernel_rfl) rfl ?_
  refine Sq.vals [12] (rest := []) [bV (decide (0 < S.length))] (fun w => by kernel_rfl) ?_
  refine Sq.done ?_
  refine Ex'.next ?_
  refine Cd.seq ?_
  by_cases h4 : 0 < S.length
  ·
    refine Cd.sub (subB_spec [0, 1, 8, 9, 10, 11, 12, 7, 13, 14, 15, 5, 4, 6]) ?_
    refine Cd.plan [0, 0, 2, 6, 14, 6, 62, 126, 7, 511] [(4, [(5, false, 0)]), (5, [(1, false, 0)])] [] [] [] [fun g => sV ((htop (⟨#[]⟩, 0, 0) S).1), fun g => bV true, fun g => bV true, fun g => pV b3 0, fun g => iV ((htop (⟨#[]⟩, 0, 0) S).2.1), fun g => iV now_, fun g => bV (decide ((htop (⟨#[]⟩, 0, 0) S).2.1 ≤ now_)), fun g => bV (decide ((htop (⟨#[]⟩, 0, 0) S).2.1 ≤ now_)), fun g => sV ((htop (⟨#[]⟩, 0, 0) S).1), fun g => bV (decide ((htop (⟨#[]⟩, 0, 0) S).2.1 ≤ now_))] (by kernel_rfl) (by kernel_rfl) rfl (trivial) ?_ ?_
    · exact ⟨ob_val fun g w => by kernel_rfl, ob_v (v := fun g => bV true) (fun g => OprV.re (pureV (v := bV (decide (0 < S.length))) (by kernel_rfl) rfl fun w => by kernel_rfl) (vT h4)) (fun g => by kernel_rfl), ob_val fun g w => by kernel_rfl, ob_val fun g w => by kernel_rfl, ob_s (l := fun g => [blkR b3 [iV ((htop (⟨#[]⟩, 0, 0) S).2.1), iV ((htop (⟨#[]⟩, 0, 0) S).2.2)] 68]) (l' := fun g => [blkR b3 [iV ((htop (⟨#[]⟩, 0, 0) S).2.1), iV ((htop (⟨#[]⟩, 0, 0) S).2.2)] 68]) (v := fun g => iV ((htop (⟨#[]⟩, 0, 0) S).2.1)) (fun g => o_load (i := 0) (v := iV ((htop (⟨#[]⟩, 0, 0) S).2.1)) (by kernel_rfl) (by kernel_rfl) (by kernel_rfl)) (fun g => by kernel_rfl), ob_s (l := fun g => [blkR bn [iV now_] 3]) (l' := fun g => [blkR bn [iV now_] 3]) (v := fun g => iV now_) (fun g => o_load (i := 0) (v := iV now_) (by kernel_rfl) (by kernel_rfl) (by kernel_rfl)) (fun g => by kernel_rfl), ob_val fun g w => by kernel_rfl, ob_val fun g w => by kernel_rfl, ob_val fun g w => by kernel_rfl, ob_val fun g w => by kernel_rfl, trivial⟩
    intro g
    refine Ex'.sub (subB_spec [2, 3]) ?_
    refine Ex'.as [0, 1, 2, 3, 4, 5] (σ' := [(2, sV ((htop (⟨#[]⟩, 0, 0) S).1)), (3, bV (decide ((htop (⟨#[]⟩, 0, 0) S).2.1 ≤ now_)))]) (Γ' := [blkR bc [pV b 0] 27, blkR bn [iV now_] 3, valB b mb qb bys, mapR Value.string itV mb M, hpS qb S n, blkR b3 [iV ((htop (⟨#[]⟩, 0, 0) S).2.1), iV ((htop (⟨#[]⟩, 0, 0) S).2.2)] 68]) (by kernel_rfl) rfl (by kernel_rfl) (by kernel_rfl) ?_
    refine Ex'.next ?_
    refine Cd.ret ?_
    refine Ex'.ret Tryd.results33 (RVs.tmp (v := sV ((htop (⟨#[]⟩, 0, 0) S).1)) (by kernel_rfl) (RVs.tmp (v := bV (decide ((htop (⟨#[]⟩, 0, 0) S).2.1 ≤ now_))) (by kernel_rfl) (RVs.nil))) (fun w hw => ?_)
    exact ⟨_, ⟨by simp [oneOr, h4], rfl⟩, hw.pickB [0, 1, 2, 3, 4] (by kernel_rfl) (by kernel_rfl) (by kernel_rfl)⟩
  ·
    refine Cd.sub (subB_spec [0, 1, 8, 9, 10, 11, 12, 7, 13, 14, 15, 5, 4, 6]) ?_
    refine Cd.plan [0, 0, 2, 6, 14, 6, 62, 126, 7, 511] [] [] [] [] [fun g => sV ((htop (⟨#[]⟩, 0, 0) S).1), fun g => bV false, fun g => bV false, fun g => undef, fun g => undef, fun g => undef, fun g => undef, fun g => bV false, fun g => sV ((htop (⟨#[]⟩, 0, 0) S).1), fun g => bV false] (by kernel_rfl) (by kernel_rfl) rfl (trivial) ?_ ?_
    · exact ⟨ob_val fun g w => by kernel_rfl, ob_v (v := fun g => bV false) (fun g => OprV.re (pureV (v := bV (decide (0 < S.length))) (by kernel_rfl) rfl fun w => by kernel_rfl) (vF h4)) (fun g => by kernel_rfl), ob_val fun g w => by kernel_rfl, ob_val fun g w => by kernel_rfl, ob_val fun g w => by kernel_rfl, ob_val fun g w => by kernel_rfl, ob_val fun g w => by kernel_rfl, ob_val fun g w => by kernel_rfl, ob_val fun g w => by kernel_rfl, ob_val fun g w => by kernel_rfl, trivial⟩
    intro g
    refine Ex'.sub (subB_spec [2, 3]) ?_
    refine Ex'.as [0, 1, 2, 3, 4, 5] (σ' := [(2, sV ((htop (⟨#[]⟩, 0, 0) S).1)), (3, bV false)]) (Γ' := [blkR bc [pV b 0] 27, blkR bn [iV now_] 3, valB b mb qb bys, mapR Value.string itV mb M, hpS qb S n, blkR b3 [iV ((htop (⟨#[]⟩, 0, 0) S).2.1), iV ((htop (⟨#[]⟩, 0, 0) S).2.2)] 68]) (by kernel_rfl) rfl (by kernel_rfl) (by kernel_rfl) ?_
    refine Ex'.next ?_
    refine Cd.ret ?_
    refine Ex'.ret Tryd.results33 (RVs.tmp (v := sV ((htop (⟨#[]⟩, 0, 0) S).1)) (by kernel_rfl) (RVs.tmp (v := bV false) (by kernel_rfl) (RVs.nil))) (fun w hw => ?_)
    exact ⟨_, ⟨by simp [oneOr, h4], rfl⟩, hw.pickB [0, 1, 2, 3, 4] (by kernel_rfl) (by kernel_rfl) (by kernel_rfl)⟩

/-- What has an end is there. -/
def EndsIn (M : List (ByteArray × ByteArray × ByteArray × Int)) (S : List (KR ByteArray)) : Prop := ∀ y ∈ S, (lk M y.1).isSome = true
theorem lk_del_ne {M : List (ByteArray × ByteArray × ByteArray × Int)} {k z : ByteArray} (h : z ≠ k) : lk (del M k) z = lk M z := by
  induction M with
  | nil => rfl
  | cons x M ih =>
    obtain ⟨y, v⟩ := x
    by_cases q : y = k
    · subst q; simp only [del, lk, if_pos, if_neg (Ne.symm h)]
    · simp only [del, lk, if_neg q, ih]
theorem EndsIn.del {M : List (ByteArray × ByteArray × ByteArray × Int)} {S : List (KR ByteArray)} (h : EndsIn M S) (k : ByteArray) : EndsIn (del M k) (hrem S k) := fun y hy => by
  obtain ⟨h1, h2⟩ := hrem_mem.1 hy
  rw [lk_del_ne h2]; exact h y h1
theorem valDel_in {M : List (ByteArray × ByteArray × ByteArray × Int)} {S : List (KR ByteArray)} {bys : Int} {k : ByteArray} (h : (lk M k).isSome = true) : valDel M S bys k = (del M k, hrem S k, bys - ((((lk M k).getD (⟨#[]⟩, ⟨#[]⟩, 0)).1.size : Int) + (((lk M k).getD (⟨#[]⟩, ⟨#[]⟩, 0)).2.1.size : Int)), true) := by
  unfold valDel; rw [if_pos h, h]
/-- What goes at a time, by steps. -/
def valExpN : Nat → List (ByteArray × ByteArray × ByteArray × Int) → List (KR ByteArray) → Int → Int → List (ByteArray × ByteArray × ByteArray × Int) × List (KR ByteArray) × Int × List ByteArray
  | 0, M, S, bys, _ => (M, S, bys, [])
  | f + 1, M, S, bys, now_ => if 0 < S.length ∧ (htop (⟨#[]⟩, 0, 0) S).2.1 ≤ now_ then
      let x := valDel M S bys (htop (⟨#[]⟩, 0, 0) S).1
      let r := valExpN f x.1 x.2.1 x.2.2.1 now_
      (r.1, r.2.1, r.2.2.1, (htop (⟨#[]⟩, 0, 0) S).1 :: r.2.2.2)
    else (M, S, bys, [])
def valExp (M : List (ByteArray × ByteArray × ByteArray × Int)) (S : List (KR ByteArray)) (bys now_ : Int) : List (ByteArray × ByteArray × ByteArray × Int) × List (KR ByteArray) × Int × List ByteArray := valExpN S.length M S bys now_
structure ExpI (M : List (ByteArray × ByteArray × ByteArray × Int)) (S : List (KR ByteArray)) (bys now_ : Int) (Mk : List (ByteArray × ByteArray × ByteArray × Int)) (Sk : List (KR ByteArray)) (byk : Int) (rw : List ByteArray) (f j : Nat) : Prop where
  e : valExp M S bys now_ = ((valExpN f Mk Sk byk now_).1, (valExpN f Mk Sk byk now_).2.1, (valExpN f Mk Sk byk now_).2.2.1, rw ++ (valExpN f Mk Sk byk now_).2.2.2)
  it : ItB Mk
  en : EndsIn Mk Sk
  len : Sk.length ≤ f
  rwl : rw.length = j
  fj : f + j = S.length
  by0 : bys - 320 * j ≤ byk
  by1 : byk ≤ bys
theorem ExpI.new {M : List (ByteArray × ByteArray × ByteArray × Int)} {S : List (KR ByteArray)} {bys now_ : Int} (hi : ItB M) (he : EndsIn M S) : ExpI M S bys now_ M S bys [] S.length 0 := ⟨rfl, hi, he, Nat.le_refl _, rfl, rfl, by omega, Int.le_refl _⟩
theorem ExpI.step {M : List (ByteArray × ByteArray × ByteArray × Int)} {S : List (KR ByteArray)} {bys now_ : Int} {Mk : List (ByteArray × ByteArray × ByteArray × Int)} {Sk : List (KR ByteArray)} {byk : Int} {rw : List ByteArray} {f j : Nat} (h : ExpI M S bys now_ Mk Sk byk rw f j) (hd : 0 < Sk.length ∧ (htop (⟨#[]⟩, 0, 0) Sk).2.1 ≤ now_) :
    ExpI M S bys now_ (valDel Mk Sk byk (htop (⟨#[]⟩, 0, 0) Sk).1).1 (valDel Mk Sk byk (htop (⟨#[]⟩, 0, 0) Sk).1).2.1 (valDel Mk Sk byk (htop (⟨#[]⟩, 0, 0) Sk).1).2.2.1 (rw ++ [(htop (⟨#[]⟩, 0, 0) Sk).1]) (f - 1) (j + 1) := by
  obtain ⟨v, T, hv⟩ : ∃ v T, Sk = v :: T := by cases Sk with | nil => simp at hd | cons v T => exact ⟨v, T, rfl⟩
  have ht : (htop (⟨#[]⟩, 0, 0) Sk).1 = v.1 := by rw [hv]; rfl
  have hin : (lk Mk (htop (⟨#[]⟩, 0, 0) Sk).1).isSome = true := by rw [ht]; exact h.en v (by rw [hv]; exact List.mem_cons_self ..)
  have hl := h.len
  have hb := valDel_by (S := Sk) (bys := byk) h.it (htop (⟨#[]⟩, 0, 0) Sk).1
  obtain ⟨g, rfl⟩ : ∃ g, f = g + 1 := ⟨f - 1, by omega⟩
  have e := h.e
  rw [valExpN, if_pos hd] at e
  refine ⟨?_, by rw [valDel_in hin]; exact h.it.del _, by rw [valDel_in hin]; exact h.en.del _, ?_, ?_, ?_, ?_, ?_⟩
  · rw [e]; simp
  · rw [valDel_in hin, hv]
    show (hrem (v :: T) (htop (⟨#[]⟩, 0, 0) (v :: T)).1).length ≤ _
    have : (hrem (v :: T) v.1).length ≤ T.length := by unfold hrem; rw [List.filter_cons_of_neg (by simp)]; exact List.length_filter_le _ _
    have h9 : Sk.length = T.length + 1 := by rw [hv]; rfl
    show (hrem (v :: T) v.1).length ≤ _
    omega
  · have := h.rwl; simp; omega
  · have := h.fj; omega
  · have := h.by0; have := h.by1; omega
  · have := h.by1; omega
theorem ExpI.fin {M : List (ByteArray × ByteArray × ByteArray × Int)} {S : List (KR ByteArray)} {bys now_ : Int} {Mk : List (ByteArray × ByteArray × ByteArray × Int)} {Sk : List (KR ByteArray)} {byk : Int} {rw : List ByteArray} {f j : Nat} (h : ExpI M S bys now_ Mk Sk byk rw f j) (hd : ¬ (0 < Sk.length ∧ (htop (⟨#[]⟩, 0, 0) Sk).2.1 ≤ now_)) : valExp M S bys now_ = (Mk, Sk, byk, rw) := by
  have e := h.e
  cases f with
  | zero => rw [e]; simp [valExpN]
  | succ f => rw [valExpN, if_neg hd] at e; rw [e]; simp

set_option maxHeartbeats 8000000 in
set_option maxRecDepth 100000 in
theorem val_Expire {b mb qb n : Nat} {M : List (ByteArray × ByteArray × ByteArray × Int)} {S : List (KR ByteArray)} {bys : Int} (now_ : Int) (hb1 : n ≤ 1000000) (hy : 0 ≤ bys ∧ bys ≤ 100000000) (hi : ItB M) (he : EndsIn M S) : Tri Tryd.prog 15 #[pV b 0, iV now_] [valB b mb qb bys, mapR Value.string itV mb M, hpS qb S n] (PostE (fun _ => True) id fun v => valL b mb qb (valExp M S bys now_).1 (valExp M S bys now_).2.1 (valExp M S bys now_).2.2.1 n ++ [rowR 9 1 v (valExp M S bys now_).2.2.2.length ((valExp M S bys now_).2.2.2.map Value.string)]) := by
  refine Tri.enter (args := [pV b 0, iV now_]) Tryd.func15 rfl rfl rfl (fun B wz => ?_)
  refine Cd.fact (i := 2) rfl hpS.le ?_; rintro ⟨hnd, hlen⟩
  refine Cd.seq ?_
  refine Cd.region rfl ?_
  refine Sq.ex [] (l := []) (o_newBox (v := pV b 0) [pV b 0] (by kernel_rfl) rfl) (by kernel_rfl) rfl (by kernel_rfl) (fun _ => Nat.zero_le _) ?_; intro b3 _
  refine Sq.ex [] (l := []) (o_newBox (v := iV now_) [iV now_] (by kernel_rfl) rfl) (by kernel_rfl) rfl (by kernel_rfl) (fun _ => Nat.zero_le _) ?_; intro b4 _
  refine Sq.vals [2] (rest := []) [.slice none 0 0] (fun w => by kernel_rfl) ?_
  refine Sq.done ?_
  refine Ex'.next ?_
  refine Cd.seq ?_
  refine Cd.region rfl ?_
  refine Sq.vals [0] (rest := []) [.slice none 0 0] (fun w => by kernel_rfl) ?_
  refine Sq.done ?_
  refine Ex'.next ?_
  refine Cd.seq ?_
  refine Cd.region rfl ?_
  refine Sq.vals [0, 1] (rest := []) [.func (.func 33) #[] #[pV b3 0, pV b4 0], .func (.func 33) #[] #[pV b3 0, pV b4 0]] (fun w => by kernel_rfl) ?_
  refine Sq.done ?_
  refine Ex'.next ?_
  refine Cd.seq ?_
  refine Cd.seq ?_
  refine Cd.region rfl ?_
  refine Sq.vals [0] (rest := [1, 2, 3, 4, 5, 6]) [.func (.func 33) #[] #[pV b3 0, pV b4 0]] (fun w => by kernel_rfl) ?_
  refine Sq.same [3, 4, 0, 1, 2] (l := [blkR b3 [pV b 0] 27, blkR b4 [iV now_] 3, valB b mb qb bys, mapR Value.string itV mb M, hpS qb S n]) (o_calld (first := []) (captured := [pV b3 0, pV b4 0]) (args := []) (by kernel_rfl) (by kernel_rfl) rfl Tryd.call33 (val_over (n := n) (M := M) (S := S) (bys := bys) (by omega))) (by kernel_rfl) rfl (by kernel_rfl) rfl ?_
  refine Sq.vals [2, 3, 4, 5, 6] (rest := []) [.tuple #[sV ((htop ((⟨#[]⟩, 0, 0) : KR ByteArray) S).1), bV (decide (0 < S.length ∧ (htop ((⟨#[]⟩, 0, 0) : KR ByteArray) S).2.1 ≤ now_))], sV ((htop ((⟨#[]⟩, 0, 0) : KR ByteArray) S).1), bV (decide (0 < S.length ∧ (htop ((⟨#[]⟩, 0, 0) : KR ByteArray) S).2.1 ≤ now_)), sV ((htop ((⟨#[]⟩, 0, 0) : KR ByteArray) S).1), bV (decide (0 < S.length ∧ (htop ((⟨#[]⟩, 0, 0) : KR ByteArray) S).2.1 ≤ now_))] (fun w => by kernel_rfl) ?_
  refine Sq.done ?_
  refine Ex'.next ?_
  refine Cd.block ?_
  refine Cd.nilRow 9 1 ?_
  refine Cd.loop (ι := Nat × Nat × (List (ByteArray × ByteArray × ByteArray × Int)) × (List (KR ByteArray)) × Int × Value × (List ByteArray)) (fun ⟨f, j, Mk, Sk, byk, rv, rw⟩ => ExpI M S bys now_ Mk Sk byk rw f j) (fun ⟨f, j, Mk, Sk, byk, rv, rw⟩ => f) (fun ⟨f, j, Mk, Sk, byk, rv, rw⟩ => [(2, pV b3 0), (4, .slice none 0 0), (6, .func (.func 33) #[] #[pV b3 0, pV b4 0]), (5, rv), (7, sV ((htop ((⟨#[]⟩, 0, 0) : KR ByteArray) Sk).1)), (8, bV (decide (0 < Sk.length ∧ (htop ((⟨#[]⟩, 0, 0) : KR ByteArray) Sk).2.1 ≤ now_)))]) (fun ⟨f, j, Mk, Sk, byk, rv, rw⟩ => [valB b mb qb byk, mapR Value.string itV mb Mk, hpS qb Sk n, blkR b3 [pV b 0] 27, blkR b4 [iV now_] 3, rowR 9 1 rv rw.length (rw.map Value.string)]) (S.length, 0, M, S, bys, .slice none 0 0, ([] : List ByteArray)) (ExpI.new hi he) (subB_eq (l := [2, 4, 6, 5, 7, 8]) (by kernel_rfl)) (fun w hw => hw.pickB [0, 1, 2, 3, 4, 5] (by kernel_rfl) (by kernel_rfl) (by kernel_rfl)) ?_
  rintro ⟨f, j, Mk, Sk, byk, rv, rw⟩ hL5
  try dsimp only at hL5 ⊢
  have hx := hL5
  have hx1 := hx.len; have hx2 := hx.fj; have hx3 := hx.by0; have hx4 := hx.by1; have hx5 := hx.it; have hx6 := hx.rwl
  refine Cd.fact (i := 5) (R := rowR 9 1 rv rw.length (rw.map Value.string)) (by kernel_rfl) row_slice ?_; rintro ⟨a6, c7, rfl, hc7, hc7'⟩
  have hc7'' : c7 ≤ 9223372036854775807 := hc7'
  refine Cd.seq ?_
  refine Cd.seq ?_
  refine Cd.region rfl ?_
  refine Sq.vals [0] (rest := []) [bV (decide (0 < Sk.length ∧ (htop ((⟨#[]⟩, 0, 0) : KR ByteArray) Sk).2.1 ≤ now_))] (fun w => by kernel_rfl) ?_
  refine Sq.done ?_
  refine Ex'.next ?_
  refine Cd.case (p := 0 < Sk.length ∧ (htop ((⟨#[]⟩, 0, 0) : KR ByteArray) Sk).2.1 ≤ now_) (by kernel_rfl) (fun h8 => ?_) (fun h8 => ?_)
  ·
    have hdue := h8; have hix := hx5.at (htop ((⟨#[]⟩, 0, 0) : KR ByteArray) Sk).1; have hd0 := hdue.1
    refine Cd.skip ?_
    refine Ex'.next ?_
    refine Cd.seq ?_
    refine Cd.block ?_
    refine Cd.seq ?_
    refine Cd.region rfl ?_
    refine Sq.same [3] (l := [blkR b3 [pV b 0] 27]) (o_load (i := 0) (v := pV b 0) (by kernel_rfl) (by kernel_rfl) (by kernel_rfl)) (by kernel_rfl) rfl (by kernel_rfl) rfl ?_
    refine Sq.vals [1] (rest := [2]) [sV ((htop ((⟨#[]⟩, 0, 0) : KR ByteArray) Sk).1)] (fun w => by kernel_rfl) ?_
    refine Sq.same [0, 1, 2] (l := valL b mb qb Mk Sk byk n) (o_call (by kernel_rfl) Tryd.call14 (val_Delete (n := n) (M := Mk) (S := Sk) (bys := byk) ((htop ((⟨#[]⟩, 0, 0) : KR ByteArray) Sk).1) (by omega) (by omega) (by first | assumption | exact hi.del _ | (unfold ItB; decide)))) (by kernel_rfl) rfl (by kernel_rfl) rfl ?_
    refine Sq.done ?_
    refine Ex'.next ?_
    refine Cd.region rfl ?_
    refine Sq.vals [0, 1] (rest := [2, 3, 4]) [.slice a6 rw.length c7, sV ((htop ((⟨#[]⟩, 0, 0) : KR ByteArray) Sk).1)] (fun w => by kernel_rfl) ?_
    refine Sq.ex [] (l := []) (o_lit (sz := 1) (sV ⟨#[]⟩) [sV ((htop ((⟨#[]⟩, 0, 0) : KR ByteArray) Sk).1)] Tryd.underlying39 (by kernel_rfl) (by kernel_rfl) (by kernel_rfl) (by kernel_rfl) (by kernel_rfl)) (by kernel_rfl) rfl (by kernel_rfl) (fun _ => Nat.zero_le _) ?_; intro b9 _
    refine Sq.ex [5, 6] (l := [rowR 9 1 (.slice a6 rw.length c7) rw.length (rw.map Value.string), blkR b9 [sV ((htop ((⟨#[]⟩, 0, 0) : KR ByteArray) Sk).1)] 9]) (o_push (n' := (rw ++ [(htop ((⟨#[]⟩, 0, 0) : KR ByteArray) Sk).1]).length) (xs' := (rw ++ [(htop ((⟨#[]⟩, 0, 0) : KR ByteArray) Sk).1]).map Value.string) (by kernel_rfl) (by kernel_rfl) sl_str (by decide) rfl (by kernel_rfl) (by unfold maxLen; first | omega | (simp only [List.length_nil]; omega)) (by first | omega | (simp only [List.length_nil]; omega)) (by simp) (by simp)) (by kernel_rfl) rfl (by kernel_rfl) (fun _ => Nat.le_of_ble_eq_true (by kernel_rfl)) ?_; rintro v10 _
    refine Sq.fact (i := 5) (R := rowR 9 1 v10 ((rw ++ [(htop ((⟨#[]⟩, 0, 0) : KR ByteArray) Sk).1]).length) ((rw ++ [(htop ((⟨#[]⟩, 0, 0) : KR ByteArray) Sk).1]).map Value.string)) (by kernel_rfl) row_slice ?_; rintro ⟨a11, c12, rfl, hc12, hc12'⟩
    have hc12'' : c12 ≤ 9223372036854775807 := hc12'
    have hlen13 : (rw ++ [(htop ((⟨#[]⟩, 0, 0) : KR ByteArray) Sk).1]).length = rw.length + 1 := by simp
    refine Sq.fact (i := 5) (R := rowR 9 1 (.slice a11 ((rw ++ [(htop ((⟨#[]⟩, 0, 0) : KR ByteArray) Sk).1]).length) c12) ((rw ++ [(htop ((⟨#[]⟩, 0, 0) : KR ByteArray) Sk).1]).length) ((rw ++ [(htop ((⟨#[]⟩, 0, 0) : KR ByteArray) Sk).1]).map Value.string)) (by kernel_rfl) (row_addr (by simp)) ?_; rintro ⟨b14, rfl⟩
    refine Sq.vals [4] (rest := []) [.slice (some ⟨b14, 0, none⟩) ((rw ++ [(htop ((⟨#[]⟩, 0, 0) : KR ByteArray) Sk).1]).length) c12] (fun w => by kernel_rfl) ?_
    refine Sq.done ?_
    refine Ex'.blockNormal ?_
    refine Ex'.next ?_
    refine Cd.region rfl ?_
    refine Sq.vals [0] (rest := [1, 2, 3, 4, 5, 6]) [.func (.func 33) #[] #[pV b3 0, pV b4 0]] (fun w => by kernel_rfl) ?_
    refine Sq.same [3, 4, 0, 1, 2] (l := [blkR b3 [pV b 0] 27, blkR b4 [iV now_] 3, valB b mb qb ((valDel Mk Sk byk ((htop ((⟨#[]⟩, 0, 0) : KR ByteArray) Sk).1)).2.2.1), mapR Value.string itV mb ((valDel Mk Sk byk ((htop ((⟨#[]⟩, 0, 0) : KR ByteArray) Sk).1)).1), hpS qb ((valDel Mk Sk byk ((htop ((⟨#[]⟩, 0, 0) : KR ByteArray) Sk).1)).2.1) n]) (o_calld (first := []) (captured := [pV b3 0, pV b4 0]) (args := []) (by kernel_rfl) (by kernel_rfl) rfl Tryd.call33 (val_over (n := n) (M := (valDel Mk Sk byk ((htop ((⟨#[]⟩, 0, 0) : KR ByteArray) Sk).1)).1) (S := (valDel Mk Sk byk ((htop ((⟨#[]⟩, 0, 0) : KR ByteArray) Sk).1)).2.1) (bys := (valDel Mk Sk byk ((htop ((⟨#[]⟩, 0, 0) : KR ByteArray) Sk).1)).2.2.1) (by omega))) (by kernel_rfl) rfl (by kernel_rfl) rfl ?_
    refine Sq.vals [2, 3, 4, 5, 6] (rest := []) [.tuple #[sV ((htop ((⟨#[]⟩, 0, 0) : KR ByteArray) ((valDel Mk Sk byk ((htop ((⟨#[]⟩, 0, 0) : KR ByteArray) Sk).1)).2.1)).1), bV (decide (0 < ((valDel Mk Sk byk ((htop ((⟨#[]⟩, 0, 0) : KR ByteArray) Sk).1)).2.1).length ∧ (htop ((⟨#[]⟩, 0, 0) : KR ByteArray) ((valDel Mk Sk byk ((htop ((⟨#[]⟩, 0, 0) : KR ByteArray) Sk).1)).2.1)).2.1 ≤ now_))], sV ((htop ((⟨#[]⟩, 0, 0) : KR ByteArray) ((valDel Mk Sk byk ((htop ((⟨#[]⟩, 0, 0) : KR ByteArray) Sk).1)).2.1)).1), bV (decide (0 < ((valDel Mk Sk byk ((htop ((⟨#[]⟩, 0, 0) : KR ByteArray) Sk).1)).2.1).length ∧ (htop ((⟨#[]⟩, 0, 0) : KR ByteArray) ((valDel Mk Sk byk ((htop ((⟨#[]⟩, 0, 0) : KR ByteArray) Sk).1)).2.1)).2.1 ≤ now_)), sV ((htop ((⟨#[]⟩, 0, 0) : KR ByteArray) ((valDel Mk Sk byk ((htop ((⟨#[]⟩, 0, 0) : KR ByteArray) Sk).1)).2.1)).1), bV (decide (0 < ((valDel Mk Sk byk ((htop ((⟨#[]⟩, 0, 0) : KR ByteArray) Sk).1)).2.1).length ∧ (htop ((⟨#[]⟩, 0, 0) : KR ByteArray) ((valDel Mk Sk byk ((htop ((⟨#[]⟩, 0, 0) : KR ByteArray) Sk).1)).2.1)).2.1 ≤ now_))] (fun w => by kernel_rfl) ?_
    refine Sq.done ?_
    refine Ex'.round (g := (f, j, Mk, Sk, byk, .slice a6 rw.length c7, rw)) (f - 1, j + 1, (valDel Mk Sk byk ((htop ((⟨#[]⟩, 0, 0) : KR ByteArray) Sk).1)).1, (valDel Mk Sk byk ((htop ((⟨#[]⟩, 0, 0) : KR ByteArray) Sk).1)).2.1, (valDel Mk Sk byk ((htop ((⟨#[]⟩, 0, 0) : KR ByteArray) Sk).1)).2.2.1, .slice (some ⟨b14, 0, none⟩) ((rw ++ [(htop ((⟨#[]⟩, 0, 0) : KR ByteArray) Sk).1]).length) c12, rw ++ [(htop ((⟨#[]⟩, 0, 0) : KR ByteArray) Sk).1]) ?_ ?_ (subB_eq (l := [2, 4, 6, 5, 7, 8]) (by kernel_rfl)) (fun w hw => hw.pickB [0, 1, 2, 3, 4, 5] (by kernel_rfl) (by kernel_rfl) (by kernel_rfl))
    · (try dsimp only); exact hx.step hdue
    · omega
  ·
    refine Cd.exit ?_
    refine Ex'.thenExit ?_
    refine Ex'.thenExit ?_
    refine Ex'.blockHit ?_
    refine Ex'.next ?_
    refine Cd.seq ?_
    refine Cd.region rfl ?_
    refine Sq.vals [0, 1] (rest := []) [.slice a6 rw.length c7, .slice a6 rw.length c7] (fun w => by kernel_rfl) ?_
    refine Sq.done ?_
    refine Ex'.next ?_
    refine Cd.ret ?_
    refine Ex'.ret Tryd.results15 (RVs.tmp (v := .slice a6 rw.length c7) (by kernel_rfl) (RVs.nil)) (fun w hw => ?_)
    rw [hx.fin h8]
    exact ⟨_, ⟨_, trivial, rfl, rfl⟩, hw.pickB [0, 1, 2, 5] (by kernel_rfl) (by kernel_rfl) (by kernel_rfl)⟩

def valNew  : List (ByteArray × ByteArray × ByteArray × Int) × List (KR ByteArray) × Int :=
  ([], [], 0)

set_option maxHeartbeats 4000000 in
set_option maxRecDepth 100000 in
theorem val_New   : Tri Tryd.prog 10 #[] [] (PostE (ι := Nat × Nat × Nat) (fun _ => True) (fun x => pV x.1 0) fun x => valL x.1 x.2.1 x.2.2 valNew.1 valNew.2.1 valNew.2.2 0) := by
  refine Tri.enter (args := []) Tryd.func10 rfl rfl rfl (fun B wz => ?_)
  refine Cd.seq ?_
  refine Cd.region rfl ?_
  refine Sq.vals [0] (rest := []) [.pointer none] (fun w => by kernel_rfl) ?_
  refine Sq.done ?_
  refine Ex'.next ?_
  refine Cd.seq ?_
  refine Cd.region rfl ?_
  refine Sq.ex [] (l := []) (o_newMap Value.string itV) (by kernel_rfl) rfl (by kernel_rfl) (fun _ => Nat.zero_le _) ?_; intro b3 _
  refine Sq.ex [] (l := []) (o_call (by kernel_rfl) Tryd.call29 (hp_NewS)) (by kernel_rfl) rfl (by kernel_rfl) (fun _ => Nat.le_of_ble_eq_true (by kernel_rfl)) ?_; rintro b4 _
  refine Sq.vals [2] (rest := [3, 4]) [.agg #[.map (some b3), pV b4 0, iV 0]] (fun w => by kernel_rfl) ?_
  refine Sq.ex [] (l := []) (o_newBox (v := .agg #[.map (some b3), pV b4 0, iV 0]) [.map (some b3), pV b4 0, iV 0] (by kernel_rfl) rfl) (by kernel_rfl) rfl (by kernel_rfl) (fun _ => Nat.zero_le _) ?_; intro b5 _
  refine Sq.vals [4] (rest := []) [pV b5 0] (fun w => by kernel_rfl) ?_
  refine Sq.done ?_
  refine Ex'.next ?_
  refine Cd.ret ?_
  refine Ex'.ret Tryd.results10 (RVs.tmp (v := pV b5 0) (by kernel_rfl) (RVs.nil)) (fun w hw => ?_)
  have e : valNew = ([], [], 0) := by unfold valNew; rfl
  rw [e]
  exact ⟨_, ⟨(b5, b3, b4), trivial, rfl, rfl⟩, hw.pickB [2, 0, 1] (by kernel_rfl) (by kernel_rfl) (by kernel_rfl)⟩

end Go.Proofs.YtnijaeipkbpibaaDoor
