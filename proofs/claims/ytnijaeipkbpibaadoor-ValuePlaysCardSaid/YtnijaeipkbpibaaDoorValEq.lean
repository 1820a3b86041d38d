/- Items compared; few calls. -/
import Derived.Test.YtnijaeipkbpibaaDoorSepJ
import Derived.Test.YtnijaeipkbpibaaDoorValPureB
import Derived.Test.YtnijaeipkbpibaaDoorRefA
set_option linter.unusedVariables false
namespace Go.Proofs.YtnijaeipkbpibaaDoor
open Go.RowKit Go.MapKept

theorem o_eqItem {σ : List (Nat × Value)} {dst : Option Tmp} {ty yt : TypeId} {pos : String} {after : Array Edge} {g : Option (Nat × Bool)} {x y : Operand} (a0 b0 : ByteArray) (a1 b1 : ByteArray) (a2 b2 : Int) (hx : ev σ x = some (.agg #[sV a0, sV a1, iV a2])) (hy : ev σ y = some (.agg #[sV b0, sV b1, iV b2])) :
    OprV Tryd.prog σ ⟨dst, .binOp .eql 24 x y yt, ty, pos, after, g⟩ (.bool (decide (a0 = b0 ∧ a1 = b1 ∧ a2 = b2))) := oprV_of fun ρ hρ w => by
  have u3 := Tryd.underlying3
  have a3_ := Tryd.isAgg3
  have z3_ := Tryd.sizeOf3
  have u9 := Tryd.underlying9
  have a9_ := Tryd.isAgg9
  have z9_ := Tryd.sizeOf9
  have hS : Tryd.prog.underlying 24 = some (.struct (Tryd.prog.fieldsOf 24)) := by kernel_rfl
  have hp : Tryd.prog.stoodInHeld 24 = false := by kernel_rfl
  simp only [execOp, hρ x _ hx, hρ y _ hy, Sem.run_bind, run_eqGuard_agg (P := Tryd.prog) w .eql 24 _ _ _ _ (by kernel_rfl), Result.andThen_ok]
  rw [run_eql_struct, show (10000 : Nat) = 9999 + 1 from rfl, run_equalIn_agg w 9999 24 _ _ hS hp]
  simp only [Program.fieldsOf, Tryd.underlying24]
  go_simp
  by_cases h0 : a0 = b0 <;> by_cases h1 : a1 = b1 <;> by_cases h2 : a2 = b2 <;> simp [h0, h1, h2, tl_iff]
theorem o_eqItem_ne {σ : List (Nat × Value)} {dst : Option Tmp} {ty yt : TypeId} {pos : String} {after : Array Edge} {g : Option (Nat × Bool)} {x y : Operand} (a0 b0 : ByteArray) (a1 b1 : ByteArray) (a2 b2 : Int) (hx : ev σ x = some (.agg #[sV a0, sV a1, iV a2])) (hy : ev σ y = some (.agg #[sV b0, sV b1, iV b2])) :
    OprV Tryd.prog σ ⟨dst, .binOp .neq 24 x y yt, ty, pos, after, g⟩ (.bool (decide (¬ (a0 = b0 ∧ a1 = b1 ∧ a2 = b2)))) := oprV_of fun ρ hρ w => by
  have u3 := Tryd.underlying3
  have a3_ := Tryd.isAgg3
  have z3_ := Tryd.sizeOf3
  have u9 := Tryd.underlying9
  have a9_ := Tryd.isAgg9
  have z9_ := Tryd.sizeOf9
  have hS : Tryd.prog.underlying 24 = some (.struct (Tryd.prog.fieldsOf 24)) := by kernel_rfl
  have hp : Tryd.prog.stoodInHeld 24 = false := by kernel_rfl
  simp only [execOp, hρ x _ hx, hρ y _ hy, Sem.run_bind, run_eqGuard_agg (P := Tryd.prog) w .neq 24 _ _ _ _ (by kernel_rfl), Result.andThen_ok]
  rw [run_neq_struct, show (10000 : Nat) = 9999 + 1 from rfl, run_equalIn_agg w 9999 24 _ _ hS hp]
  simp only [Program.fieldsOf, Tryd.underlying24]
  go_simp
  by_cases h0 : a0 = b0 <;> by_cases h1 : a1 = b1 <;> by_cases h2 : a2 = b2 <;> simp [h0, h1, h2, tl_iff]
set_option maxHeartbeats 8000000 in
set_option maxRecDepth 100000 in
theorem t_few {w0 : World} {a : Option Addr} {cap : Nat} {xs : List Act5} (hl : xs.length ≤ 9223372036854775807) (hs : VScr w0 (.slice a xs.length cap) xs) : Tri Tryd.prog 9 #[.slice a xs.length cap] [oldR w0] (PostE (fun b : Bool => b = true → few5 xs) (fun b => .bool b) (fun _ => [oldR w0])) := by
  refine Tri.enter (args := [.slice a xs.length cap]) Tryd.func9 rfl rfl rfl (fun B wz => ?_)
  refine Cd.seq ?_
  refine Cd.region rfl ?_
  refine Sq.vals [0] (rest := []) [bV false] (fun w => by kernel_rfl) ?_
  refine Sq.done ?_
  refine Ex'.next ?_
  refine Cd.seq ?_
  refine Cd.seq ?_
  refine Cd.region rfl ?_
  refine Sq.vals [0] (rest := []) [iV 0] (fun w => by kernel_rfl) ?_
  refine Sq.done ?_
  refine Ex'.next ?_
  refine Cd.block ?_
  refine Cd.loop (ι := Nat) (fun k => k ≤ xs.length ∧ k ≤ 150) (fun k => xs.length - k) (fun k => [(0, .slice a xs.length cap), (3, iV (k : Int))]) (fun k => [oldR w0]) 0 (⟨Nat.zero_le _, Nat.zero_le _⟩) (subB_eq (l := [0, 3]) (by kernel_rfl)) (fun w hw => hw.pickB [0] (by kernel_rfl) (by kernel_rfl) (by kernel_rfl)) ?_
  rintro k hL1
  try dsimp only at hL1 ⊢
  obtain ⟨hk, hk2⟩ := hL1
  refine Cd.seq ?_
  refine Cd.seq ?_
  refine Cd.region rfl ?_
  refine Sq.vals [0, 1, 2, 3] (rest := []) [iV (k : Int), .slice a xs.length cap, iV (xs.length : Int), bV (decide ((k : Int) < (xs.length : Int)))] (fun w => by kernel_rfl) ?_
  refine Sq.done ?_
  refine Ex'.next ?_
  refine Cd.case (p := (k : Int) < (xs.length : Int)) (by kernel_rfl) (fun h2 => ?_) (fun h2 => ?_)
  ·
    obtain ⟨g3, off4, rfl⟩ := hs.addr (by omega)
    obtain ⟨kdk, kyk, txk, dlk, nwk, hgk, hwk, hrk⟩ := hs.at (k := k) (by omega)
    refine Cd.skip ?_
    refine Ex'.next ?_
    refine Cd.seq ?_
    refine Cd.block ?_
    refine Cd.seq ?_
    refine Cd.region rfl ?_
    refine Sq.vals [0, 1, 2] (rest := [3, 4, 5, 6, 7, 8, 9, 10, 11, 12, 13, 14, 15, 16, 17, 18, 19, 20, 21]) [iV (k : Int), bV (decide ((k : Int) ≥ 150)), bV (decide ((k : Int) ≥ 150))] (fun w => by kernel_rfl) ?_
    refine Sq.case 12 (p := (k : Int) ≥ 150) rfl (fun h5 => ?_) (fun h5 => ?_)
    ·
      refine Sq.vals [3, 4, 5, 6, 7, 8, 9, 10, 11, 12, 13, 14, 15, 16, 17, 18, 19, 20, 21] (rest := []) [undef, undef, undef, undef, undef, undef, undef, undef, bV true, bV true, undef, undef, undef, undef, undef, undef, undef, undef, bV true] (fun w => by kernel_rfl) ?_
      refine Sq.done ?_
      refine Ex'.next ?_
      refine Cd.condT (by kernel_rfl) ?_
      refine Cd.seq ?_
      refine Cd.region rfl ?_
      refine Sq.vals [0] (rest := []) [bV false] (fun w => by kernel_rfl) ?_
      refine Sq.done ?_
      refine Ex'.next ?_
      refine Cd.ret ?_
      refine Ex'.blockRet ?_
      refine Ex'.thenRet ?_
      refine Ex'.thenRet ?_
      refine Ex'.blockRet ?_
      refine Ex'.thenRet ?_
      refine Ex'.ret Tryd.results9 (RVs.tmp (v := bV false) (by kernel_rfl) (RVs.nil)) (fun w hw => ?_)
      exact ⟨_, ⟨false, (fun q => by cases q), rfl, rfl⟩, hw⟩
    ·
      refine Sq.vals [3, 4] (rest := [5, 6, 7, 8, 9, 10, 11, 12, 13, 14, 15, 16, 17, 18, 19, 20, 21]) [.slice (some ⟨g3, off4, none⟩) xs.length cap, iV (k : Int)] (fun w => by kernel_rfl) ?_
      refine Sq.v (r := pV g3 (off4 + k * 5)) (o_idx (b := g3) (cap := cap) (e := 33) (off := off4) (n := xs.length) (kd := .i64) (q := (k : Int)) (i := k) (size := 5) (j := off4 + k * 5) (by kernel_rfl) (by kernel_rfl) (by rfl) (by omega) Tryd.underlying22 (by kernel_rfl) (by omega)) rfl (by kernel_rfl) ?_
      refine Sq.vals [6, 7] (rest := [8, 9, 10, 11, 12, 13, 14, 15, 16, 17, 18, 19, 20, 21]) [pV g3 (off4 + k * 5 + 1), pV g3 (off4 + k * 5 + 1)] (fun w => by kernel_rfl) ?_
      refine Sq.same [0] (l := [oldR w0]) (o_loadOld (b := g3) (j := off4 + k * 5 + 1) (u := sV kyk) (by kernel_rfl) (by kernel_rfl) (hrk 1 _ rfl)) (by kernel_rfl) rfl (by kernel_rfl) rfl ?_
      refine Sq.vals [9, 10, 11, 12] (rest := [13, 14, 15, 16, 17, 18, 19, 20, 21]) [iV (kyk.size : Int), bV (decide ((kyk.size : Int) > 300)), bV (decide ((kyk.size : Int) > 300)), bV (decide ((kyk.size : Int) > 300))] (fun w => by kernel_rfl) ?_
      refine Sq.case 22 (p := (kyk.size : Int) > 300) rfl (fun h6 => ?_) (fun h6 => ?_)
      ·
        refine Sq.vals [13, 14, 15, 16, 17, 18, 19, 20, 21] (rest := []) [undef, undef, undef, undef, undef, undef, undef, undef, bV true] (fun w => by kernel_rfl) ?_
        refine Sq.done ?_
        refine Ex'.next ?_
        refine Cd.condT (by kernel_rfl) ?_
        refine Cd.seq ?_
        refine Cd.region rfl ?_
        refine Sq.vals [0] (rest := []) [bV false] (fun w => by kernel_rfl) ?_
        refine Sq.done ?_
        refine Ex'.next ?_
        refine Cd.ret ?_
        refine Ex'.blockRet ?_
        refine Ex'.thenRet ?_
        refine Ex'.thenRet ?_
        refine Ex'.blockRet ?_
        refine Ex'.thenRet ?_
        refine Ex'.ret Tryd.results9 (RVs.tmp (v := bV false) (by kernel_rfl) (RVs.nil)) (fun w hw => ?_)
        exact ⟨_, ⟨false, (fun q => by cases q), rfl, rfl⟩, hw⟩
      ·
        refine Sq.vals [13, 14] (rest := [15, 16, 17, 18, 19, 20, 21]) [.slice (some ⟨g3, off4, none⟩) xs.length cap, iV (k : Int)] (fun w => by kernel_rfl) ?_
        refine Sq.v (r := pV g3 (off4 + k * 5)) (o_idx (b := g3) (cap := cap) (e := 33) (off := off4) (n := xs.length) (kd := .i64) (q := (k : Int)) (i := k) (size := 5) (j := off4 + k * 5) (by kernel_rfl) (by kernel_rfl) (by rfl) (by omega) Tryd.underlying22 (by kernel_rfl) (by omega)) rfl (by kernel_rfl) ?_
        refine Sq.vals [16, 17] (rest := [18, 19, 20, 21]) [pV g3 (off4 + k * 5 + 1), pV g3 (off4 + k * 5 + 1 + 1)] (fun w => by kernel_rfl) ?_
        refine Sq.same [0] (l := [oldR w0]) (o_loadOld (b := g3) (j := off4 + k * 5 + 1 + 1) (u := sV txk) (by kernel_rfl) (by kernel_rfl) (hrk 2 _ rfl)) (by kernel_rfl) rfl (by kernel_rfl) rfl ?_
        refine Sq.vals [19, 20, 21] (rest := []) [iV (txk.size : Int), bV (decide ((txk.size : Int) > 600)), bV (decide ((txk.size : Int) > 600))] (fun w => by kernel_rfl) ?_
        refine Sq.done ?_
        refine Ex'.next ?_
        refine Cd.case (p := (txk.size : Int) > 600) (by kernel_rfl) (fun h7 => ?_) (fun h7 => ?_)
        ·
          refine Cd.seq ?_
          refine Cd.region rfl ?_
          refine Sq.vals [0] (rest := []) [bV false] (fun w => by kernel_rfl) ?_
          refine Sq.done ?_
          refine Ex'.next ?_
          refine Cd.ret ?_
          refine Ex'.blockRet ?_
          refine Ex'.thenRet ?_
          refine Ex'.thenRet ?_
          refine Ex'.blockRet ?_
          refine Ex'.thenRet ?_
          refine Ex'.ret Tryd.results9 (RVs.tmp (v := bV false) (by kernel_rfl) (RVs.nil)) (fun w hw => ?_)
          exact ⟨_, ⟨false, (fun q => by cases q), rfl, rfl⟩, hw⟩
        ·
          refine Cd.skip ?_
          refine Ex'.blockNormal ?_
          refine Ex'.next ?_
          refine Cd.region rfl ?_
          refine Sq.vals [0] (rest := [1, 2]) [iV (k : Int)] (fun w => by kernel_rfl) ?_
          refine Sq.v (r := iV ((k : Int) + 1)) (o_add (k := .i64) (a := (k : Int)) (b := 1) (c := (k : Int) + 1) (by kernel_rfl) (by kernel_rfl) (w64 rfl (by omega))) rfl (by kernel_rfl) ?_
          refine Sq.vals [2] (rest := []) [iV ((k : Int) + 1)] (fun w => by kernel_rfl) ?_
          refine Sq.done ?_
          refine Ex'.round (g := k) (k + 1) ?_ ?_ (subB_eq (l := [0, 3]) (by kernel_rfl)) (fun w hw => hw.pickB [0] (by kernel_rfl) (by kernel_rfl) (by kernel_rfl))
          · (try dsimp only); exact ⟨by omega, by omega⟩
          · omega
  ·
    refine Cd.exit ?_
    refine Ex'.thenExit ?_
    refine Ex'.thenExit ?_
    refine Ex'.blockHit ?_
    refine Ex'.next ?_
    refine Cd.seq ?_
    refine Cd.region rfl ?_
    refine Sq.vals [0] (rest := []) [bV true] (fun w => by kernel_rfl) ?_
    refine Sq.done ?_
    refine Ex'.next ?_
    refine Cd.ret ?_
    refine Ex'.ret Tryd.results9 (RVs.tmp (v := bV true) (by kernel_rfl) (RVs.nil)) (fun w hw => ?_)
    exact ⟨_, ⟨true, fun _ => (by unfold few5; omega), rfl, rfl⟩, hw⟩

end Go.Proofs.YtnijaeipkbpibaaDoor
