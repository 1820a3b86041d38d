/- PolSt, PolN, SepX, PolR -/
import Derived.Test.YtholinnmjoelkaaGreatDoorM25
import Derived.Test.YtholinnmjoelkaaGreatDoorM26
import Derived.Test.YtholinnmjoelkaaGreatDoorM27
set_option linter.unusedVariables false
set_option linter.unusedSimpArgs false
namespace Go.Proofs.YtholinnmjoelkaaGreatDoor
inductive PSt where
  | lru (most : Int) (ks : LB)
  | lfu (most now : Int) (ch : Bool) (S : KS)
  | srl (most t : Int) (ns cs gs : LB) (ms : Mks)
  | arc (most p : Int) (t1 t2 b1 b2 : LB)
namespace PSt
def kind : PSt → Int
  | lru .. => 0
  | lfu _ _ ch _ => if ch = true then 2 else 1
  | srl .. => 3
  | arc .. => 4
def most : PSt → Int
  | lru m _ => m
  | lfu m _ _ _ => m
  | srl m _ _ _ _ _ => m
  | arc m _ _ _ _ _ => m
def keys : PSt → LB
  | lru _ ks => ks.reverse
  | lfu _ _ _ S => ksf S
  | srl _ _ ns cs _ _ => (cs ++ ns).reverse
  | arc _ _ t1 t2 _ _ => t1.reverse ++ t2.reverse
def ghosts : PSt → LB
  | lru .. => []
  | lfu .. => []
  | srl _ _ _ _ gs _ => gs
  | arc _ _ _ _ b1 b2 => b1 ++ b2
def victim : PSt → ByteArray × Bool
  | lru m ks => lqVictim m ks
  | lfu m now ch S => lfuVictim m now ch S
  | srl m t ns cs gs ms => srlVictim m t ns cs gs ms
  | arc m p t1 t2 b1 b2 => arcVictim m p t1 t2 b1 b2
def req : PSt → ByteArray → PSt × Bool × ByteArray × Bool
  | lru m ks, key => (lru m (lqReq m ks key).1, (lqReq m ks key).2)
  | lfu m now ch S, key => (lfu m (lfuReq m now ch S key).1 ch (lfuReq m now ch S key).2.1, (lfuReq m now ch S key).2.2)
  | srl m t ns cs gs ms, key => (srl m (srlReq m t ns cs gs ms key).1 (srlReq m t ns cs gs ms key).2.1 (srlReq m t ns cs gs ms key).2.2.1 (srlReq m t ns cs gs ms key).2.2.2.1 (srlReq m t ns cs gs ms key).2.2.2.2.1, (srlReq m t ns cs gs ms key).2.2.2.2.2)
  | arc m p t1 t2 b1 b2, key => (arc m (arcReq m p t1 t2 b1 b2 key).1 (arcReq m p t1 t2 b1 b2 key).2.1 (arcReq m p t1 t2 b1 b2 key).2.2.1 (arcReq m p t1 t2 b1 b2 key).2.2.2.1 (arcReq m p t1 t2 b1 b2 key).2.2.2.2.1, (arcReq m p t1 t2 b1 b2 key).2.2.2.2.2)
def remove : PSt → ByteArray → PSt × Bool
  | lru m ks, key => (lru m (lqRemove m ks key).1, (lqRemove m ks key).2)
  | lfu m now ch S, key => (lfu m now ch (lfuRemove m now ch S key).1, (lfuRemove m now ch S key).2)
  | srl m t ns cs gs ms, key => (srl m t (srlRemove m t ns cs gs ms key).1 (srlRemove m t ns cs gs ms key).2.1 (srlRemove m t ns cs gs ms key).2.2.1 (srlRemove m t ns cs gs ms key).2.2.2.1, (srlRemove m t ns cs gs ms key).2.2.2.2)
  | arc m p t1 t2 b1 b2, key => (arc m p (arcRemove m p t1 t2 b1 b2 key).1 (arcRemove m p t1 t2 b1 b2 key).2.1 (arcRemove m p t1 t2 b1 b2 key).2.2.1 (arcRemove m p t1 t2 b1 b2 key).2.2.2.1, (arcRemove m p t1 t2 b1 b2 key).2.2.2.2)
def adopt : PSt → ByteArray → PSt × Bool
  | lru m ks, key => (lru m (lqAdopt m ks key).1, (lqAdopt m ks key).2)
  | lfu m now ch S, key => (lfu m (lfuAdopt m now ch S key).1 ch (lfuAdopt m now ch S key).2.1, (lfuAdopt m now ch S key).2.2)
  | srl m t ns cs gs ms, key => (srl m t (srlAdopt m t ns cs gs ms key).1 cs (srlAdopt m t ns cs gs ms key).2.1 (srlAdopt m t ns cs gs ms key).2.2.1, (srlAdopt m t ns cs gs ms key).2.2.2)
  | arc m p t1 t2 b1 b2, key => (arc m p (arcAdopt m p t1 t2 b1 b2 key).1 (arcAdopt m p t1 t2 b1 b2 key).2.1 (arcAdopt m p t1 t2 b1 b2 key).2.2.1 (arcAdopt m p t1 t2 b1 b2 key).2.2.2.1, (arcAdopt m p t1 t2 b1 b2 key).2.2.2.2)
def drop : PSt → PSt × ByteArray × Bool
  | lru m ks => (lru m (lqDrop m ks).1, (lqDrop m ks).2)
  | lfu m now ch S => (lfu m now ch (lfuDrop m now ch S).1, (lfuDrop m now ch S).2)
  | srl m t ns cs gs ms => (srl m t (srlDrop m t ns cs gs ms).1 (srlDrop m t ns cs gs ms).2.1 gs (srlDrop m t ns cs gs ms).2.2.1, (srlDrop m t ns cs gs ms).2.2.2)
  | arc m p t1 t2 b1 b2 => (arc m p (arcDrop m p t1 t2 b1 b2).1 (arcDrop m p t1 t2 b1 b2).2.1 b1 b2, (arcDrop m p t1 t2 b1 b2).2.2)
def resize : PSt → Int → PSt × LB
  | lru m ks, mo => (lru (lqResize m ks mo).1 (lqResize m ks mo).2.1, (lqResize m ks mo).2.2)
  | lfu m now ch S, mo => (lfu (lfuResize m now ch S mo).1 now ch (lfuResize m now ch S mo).2.1, (lfuResize m now ch S mo).2.2)
  | srl m t ns cs gs ms, mo => (srl (srlResize m t ns cs gs ms mo).1 (srlResize m t ns cs gs ms mo).2.1 (srlResize m t ns cs gs ms mo).2.2.1 (srlResize m t ns cs gs ms mo).2.2.2.1 (srlResize m t ns cs gs ms mo).2.2.2.2.1 (srlResize m t ns cs gs ms mo).2.2.2.2.2.1, (srlResize m t ns cs gs ms mo).2.2.2.2.2.2)
  | arc m p t1 t2 b1 b2, mo => (arc (arcResize m p t1 t2 b1 b2 mo).1 (arcResize m p t1 t2 b1 b2 mo).2.1 (arcResize m p t1 t2 b1 b2 mo).2.2.1 (arcResize m p t1 t2 b1 b2 mo).2.2.2.1 (arcResize m p t1 t2 b1 b2 mo).2.2.2.2.1 (arcResize m p t1 t2 b1 b2 mo).2.2.2.2.2.1, (arcResize m p t1 t2 b1 b2 mo).2.2.2.2.2.2)
def new (kind most : Int) : PSt :=
  if kind = 0 then lru (lqNew most).1 (lqNew most).2
  else if kind = 1 ∨ kind = 2 then lfu (lfuNew most (decide (kind = 2))).1 (lfuNew most (decide (kind = 2))).2.1 (lfuNew most (decide (kind = 2))).2.2.1 (lfuNew most (decide (kind = 2))).2.2.2
  else if kind = 3 then srl (srlNew most).1 (srlNew most).2.1 (srlNew most).2.2.1 (srlNew most).2.2.2.1 (srlNew most).2.2.2.2.1 (srlNew most).2.2.2.2.2
  else arc (arcNew most).1 (arcNew most).2.1 (arcNew most).2.2.1 (arcNew most).2.2.2.1 (arcNew most).2.2.2.2.1 (arcNew most).2.2.2.2.2
def Inv : PSt → Int → Prop
  | lru m ks, _ => LqI m ks
  | lfu m now _ S, j => LfuI m now S ∧ now ≤ j
  | srl m t ns cs gs ms, _ => SrlJ m t ns cs gs ms
  | arc m p t1 t2 b1 b2, _ => ArcI m p t1 t2 b1 b2
end PSt
theorem PSt.Inv.up {st : PSt} {j j' : Int} (h : st.Inv j) (hj : j ≤ j') : st.Inv j' := by
  cases st with
  | lfu m now ch S => exact ⟨h.1, Int.le_trans h.2 hj⟩
  | lru => exact h
  | srl => exact h
  | arc => exact h
variable {st : PSt} {j : Int} {key : ByteArray}
theorem PSt.Inv.nodup (h : st.Inv j) : st.keys.Nodup := by
  cases st with
  | lru m ks => exact (List.reverse_perm ks).nodup_iff.2 (LqI.nd h)
  | lfu m now ch S => exact (And.left h).nd
  | srl m t ns cs gs ms => exact (List.reverse_perm _).nodup_iff.2 (SrlJ.b h).nl
  | arc m p t1 t2 b1 b2 =>
    refine nodup_cn.2 fun k => ?_
    have := ArcI.n h k
    show cn (t1.reverse ++ t2.reverse) k ≤ 1
    rw [cn_app, cn_rev, cn_rev]; omega
theorem PSt.Inv.m0 (h : st.Inv j) : 0 ≤ st.most := by
  cases st with
  | lru m ks => exact LqI.h0 h
  | lfu m now ch S => have h1 := (And.left h).len; show 0 ≤ m; omega
  | srl m t ns cs gs ms => exact SrlJ.h0 h
  | arc m p t1 t2 b1 b2 => exact ArcI.h0 h
theorem PSt.Inv.len (h : st.Inv j) : (st.keys.length : Int) ≤ st.most := by
  cases st with
  | lru m ks => show (ks.reverse.length : Int) ≤ m; rw [List.length_reverse]; exact LqI.len h
  | lfu m now ch S => show ((ksf S).length : Int) ≤ m; rw [show (ksf S).length = S.length from List.length_map _]; exact (And.left h).len
  | srl m t ns cs gs ms => show ((cs ++ ns).reverse.length : Int) ≤ m; rw [List.length_reverse]; exact SrlJ.len h
  | arc m p t1 t2 b1 b2 => have := ArcI.len h; show ((t1.reverse ++ t2.reverse).length : Int) ≤ m; simp only [List.length_append, List.length_reverse]; omega
theorem PSt.Inv.req (h : st.Inv j) (key : ByteArray) {x} (hx : st.req key = x) : x.1.Inv (j + 1) ∧ x.1.most = st.most ∧ x.1.kind = st.kind ∧ (0 < st.most → ReqP st.most st.keys key x.1.keys x.2.1 x.2.2.1 x.2.2.2) ∧
    (st.most = 0 → x.1.keys = st.keys ∧ x.1.ghosts = st.ghosts ∧ x.2 = (decide (key ∈ st.keys), ⟨#[]⟩, false)) := by
  cases st with
  | lru m ks =>
    obtain ⟨h1, h2, h3⟩ := LqI.req h key rfl
    subst hx
    refine ⟨h1, rfl, rfl, h2, fun q => ?_⟩
    have h4 := h3 q
    refine ⟨by show (lqReq m ks key).1.reverse = _; rw [h4]; rfl, rfl, ?_⟩
    show (lqReq m ks key).2 = _
    rw [h4, show decide (key ∈ PSt.keys (.lru m ks)) = decide (key ∈ ks) by rw [decide_eq_decide]; exact List.mem_reverse]
  | lfu m now ch S =>
    have h0 := PSt.Inv.m0 h
    obtain ⟨h1, h2, h3, h4⟩ := LfuI.reqP (ch := ch) (And.left h) h0 key rfl
    have hj := And.right h
    subst hx
    refine ⟨⟨h1, by show (lfuReq m now ch S key).1 ≤ j + 1; omega⟩, rfl, rfl, h3, fun q => ?_⟩
    have h5 := h4 q
    exact ⟨by show ksf (lfuReq m now ch S key).2.1 = _; rw [h5]; rfl, rfl, by show (lfuReq m now ch S key).2.2 = _; rw [h5]; rfl⟩
  | srl m t ns cs gs ms =>
    obtain ⟨h1, h2, h3⟩ := SrlJ.reqP h key rfl
    subst hx
    refine ⟨h1, rfl, rfl, h2, fun q => ?_⟩
    have h4 := h3 q
    refine ⟨by show ((srlReq m t ns cs gs ms key).2.2.1 ++ (srlReq m t ns cs gs ms key).2.1).reverse = _; rw [h4]; rfl, by show (srlReq m t ns cs gs ms key).2.2.2.1 = _; rw [h4]; rfl, ?_⟩
    show (srlReq m t ns cs gs ms key).2.2.2.2.2 = _
    rw [h4, show decide (key ∈ PSt.keys (.srl m t ns cs gs ms)) = decide (key ∈ cs ++ ns) by rw [decide_eq_decide]; exact List.mem_reverse]
  | arc m p t1 t2 b1 b2 =>
    obtain ⟨h1, h2, h3⟩ := ArcI.reqP h key rfl
    subst hx
    refine ⟨h1, rfl, rfl, h2, fun q => ?_⟩
    have h4 := h3 q
    exact ⟨by show (arcReq m p t1 t2 b1 b2 key).2.1.reverse ++ (arcReq m p t1 t2 b1 b2 key).2.2.1.reverse = _; rw [h4]; rfl, by show (arcReq m p t1 t2 b1 b2 key).2.2.2.1 ++ (arcReq m p t1 t2 b1 b2 key).2.2.2.2.1 = _; rw [h4]; rfl, by show (arcReq m p t1 t2 b1 b2 key).2.2.2.2.2 = _; rw [h4]; rfl⟩
theorem PSt.Inv.remove (h : st.Inv j) (key : ByteArray) {x} (hx : st.remove key = x) : x.1.Inv j ∧ x.1.most = st.most ∧ x.1.kind = st.kind ∧ RemP st.keys key x.1.keys x.1.ghosts x.2 := by
  cases st with
  | lru m ks => obtain ⟨h1, h2⟩ := LqI.remove h key rfl; subst hx; exact ⟨h1, rfl, rfl, h2⟩
  | lfu m now ch S => obtain ⟨h1, h2⟩ := LfuI.remP (ch := ch) (And.left h) key rfl; subst hx; exact ⟨⟨h1, And.right h⟩, rfl, rfl, h2⟩
  | srl m t ns cs gs ms => obtain ⟨h1, h2⟩ := SrlJ.remP h key rfl; subst hx; exact ⟨h1, rfl, rfl, h2⟩
  | arc m p t1 t2 b1 b2 => obtain ⟨h1, h2⟩ := ArcI.remP h key rfl; subst hx; exact ⟨h1, rfl, rfl, h2⟩
theorem PSt.Inv.adopt (h : st.Inv j) (key : ByteArray) {x} (hx : st.adopt key = x) : x.1.Inv (j + 1) ∧ x.1.most = st.most ∧ x.1.kind = st.kind ∧ AdoP st.most st.keys key x.1.keys x.1.ghosts x.2 := by
  cases st with
  | lru m ks => obtain ⟨h1, h2⟩ := LqI.adopt h key rfl; subst hx; exact ⟨h1, rfl, rfl, h2⟩
  | lfu m now ch S => obtain ⟨h1, h2, h3, h4⟩ := LfuI.adoP (ch := ch) (And.left h) key rfl; have hj := And.right h; subst hx; exact ⟨⟨h1, by show (lfuAdopt m now ch S key).1 ≤ j + 1; omega⟩, rfl, rfl, h3⟩
  | srl m t ns cs gs ms => obtain ⟨h1, h2⟩ := SrlJ.adoP h key rfl; subst hx; exact ⟨h1, rfl, rfl, h2⟩
  | arc m p t1 t2 b1 b2 => obtain ⟨h1, h2⟩ := ArcI.adoP h key rfl; subst hx; exact ⟨h1, rfl, rfl, h2⟩
theorem PSt.Inv.drop (h : st.Inv j) {x} (hx : st.drop = x) : x.1.Inv j ∧ x.1.most = st.most ∧ x.1.kind = st.kind ∧ DroP st.keys st.ghosts x.1.keys x.1.ghosts x.2.1 x.2.2 ∧ st.victim = x.2 := by
  cases st with
  | lru m ks => obtain ⟨h1, h2, h3⟩ := LqI.drop h rfl; subst hx; exact ⟨h1, rfl, rfl, h2, h3⟩
  | lfu m now ch S => obtain ⟨h1, h2, h3⟩ := LfuI.droP (ch := ch) (And.left h) rfl; subst hx; exact ⟨⟨h1, And.right h⟩, rfl, rfl, h2, h3⟩
  | srl m t ns cs gs ms => obtain ⟨h1, h2, h3⟩ := SrlJ.droP h rfl; subst hx; exact ⟨h1, rfl, rfl, h2, h3⟩
  | arc m p t1 t2 b1 b2 => obtain ⟨h1, h2, h3⟩ := ArcI.droP h rfl; subst hx; exact ⟨h1, rfl, rfl, h2, h3⟩
theorem PSt.Inv.resize (h : st.Inv j) {mo : Int} (h0 : 0 ≤ mo) {x} (hx : st.resize mo = x) : x.1.Inv j ∧ x.1.most = mo ∧ x.1.kind = st.kind ∧ RszP mo st.keys x.1.keys x.2 := by
  cases st with
  | lru m ks => obtain ⟨h1, h2, h3⟩ := LqI.resize h h0 rfl; subst hx; exact ⟨by show LqI (lqResize m ks mo).1 _; rw [h1]; exact h2, h1, rfl, h3⟩
  | lfu m now ch S => obtain ⟨h1, h2, h3⟩ := LfuI.rszP (ch := ch) (And.left h) h0 rfl; subst hx; exact ⟨⟨by show LfuI (lfuResize m now ch S mo).1 _ _; rw [h1]; exact h2, And.right h⟩, h1, rfl, h3⟩
  | srl m t ns cs gs ms => obtain ⟨h1, h2, h3⟩ := SrlJ.rszP h h0 rfl; subst hx; exact ⟨by show SrlJ (srlResize m t ns cs gs ms mo).1 _ _ _ _ _; rw [h1]; exact h2, h1, rfl, h3⟩
  | arc m p t1 t2 b1 b2 => obtain ⟨h1, h2, h3⟩ := ArcI.rszP h h0 rfl; subst hx; exact ⟨by show ArcI (arcResize m p t1 t2 b1 b2 mo).1 _ _ _ _ _; rw [h1]; exact h2, h1, rfl, h3⟩
theorem PSt.Inv.new {kind most : Int} (hk : 0 ≤ kind ∧ kind ≤ 4) (hm : 0 ≤ most) : (PSt.new kind most).Inv 0 ∧ (PSt.new kind most).most = most ∧ (PSt.new kind most).kind = kind ∧ (PSt.new kind most).keys = [] ∧ (PSt.new kind most).ghosts = [] := by
  unfold PSt.new
  by_cases h0 : kind = 0
  · rw [if_pos h0, lqNew_nn hm]; exact ⟨LqI.new hm, rfl, h0.symm, rfl, rfl⟩
  rw [if_neg h0]
  by_cases h1 : kind = 1 ∨ kind = 2
  · rw [if_pos h1, lfuNew_nn hm]
    refine ⟨⟨LfuI.new hm, Int.le_refl _⟩, rfl, ?_, rfl, rfl⟩
    show (if decide (kind = 2) = true then (2 : Int) else 1) = kind
    rcases h1 with q | q <;> simp [q]
  rw [if_neg h1]
  by_cases h3 : kind = 3
  · rw [if_pos h3, srlNew_nn hm]; exact ⟨(SrlI.new hm).j (by dsimp only; omega) (by dsimp only; omega), rfl, h3.symm, rfl, rfl⟩
  · rw [if_neg h3, arcNew_nn hm]; exact ⟨ArcI.new hm, rfl, by show (4 : Int) = kind; omega, rfl, rfl⟩
end Go.Proofs.YtholinnmjoelkaaGreatDoor
namespace Go.Proofs.YtholinnmjoelkaaGreatDoor
set_option maxHeartbeats 8000000
set_option maxRecDepth 100000
open Go.RowKit Go.MapKept
theorem pol_New_0 {most : Int} (hm : 0 ≤ most ∧ most ≤ 16777216) : Tri Tryz.prog 15 #[iV 0, iV most] [] (PostE (ι := Nat × Nat × Nat) (fun _ => True) (fun x => .tuple #[pV x.1 0, .nilIface]) fun x => [polBLru x.1 (x.2.1) most] ++ lruL x.2.1 x.2.2 most [] 0) := by
 refine Tri.en (args := [iV 0, iV most]) Tryz.func15 (fun B wz => ?_)
 refine Cd.s1 (Sq.vl [0, 1] [.pointer none, .nilIface] (Sq.d4 (Cd.seq (Cd.s1 (Sq.vl [0, 1, 2, 3, 4, 5] [iV 0, bV false, bV false, iV 0, bV false, bV false] (Sq.d4 (Cd.cF (Cd.skip (Ex'.next (Cd.seq (Cd.s1 (Sq.vl [0] [iV most] ?_))))))))))))
 refine Sq.sm [] (l := []) (o_cl Tryz.call44 ((t_right (m := most)).re (vT hm))) rfl (Sq.vl [2] [bV false] (Sq.d4 (Cd.cF (Cd.skip (Ex'.next (Cd.s1 (Sq.vl [0, 1, 2] [iV 0, iV most, .agg #[iV 0, iV most, .nilFunc, .nilFunc, .nilFunc, .nilFunc, .nilFunc, .nilFunc, .nilFunc, .nilFunc, .nilFunc, .nilFunc]] ?_)))))))
 refine Sq.e0 [] (l := []) (o_newBox (v := .agg #[iV 0, iV most, .nilFunc, .nilFunc, .nilFunc, .nilFunc, .nilFunc, .nilFunc, .nilFunc, .nilFunc, .nilFunc, .nilFunc]) [iV 0, iV most, .nilFunc, .nilFunc, .nilFunc, .nilFunc, .nilFunc, .nilFunc, .nilFunc, .nilFunc, .nilFunc, .nilFunc] (by kernel_rfl) rfl) rfl ?_; intro b3 _
 refine Sq.vl [4] [pV b3 0] (Sq.d1 (Sq.vl [0] [bV false] (Sq.d4 (Cd.seq (Cd.s1 (Sq.vl [0] [iV 0] (Sq.done (Ex'.next (Cd.block (Cd.seq (Cd.block (Cd.seq (Cd.block (Cd.seq (Cd.block (Cd.seq (Cd.block (Cd.seq (Cd.block (Cd.seq (Cd.seq (Cd.s1 (Sq.vl [0, 1] [bV true, bV true] ?_)))))))))))))))))))))))
 refine Sq.d4 (Cd.cT (Cd.exit (Ex'.thenExit (Ex'.thenExit (Ex'.blockHit (Ex'.next (Cd.seq (Cd.s1 (Sq.vl [0] [iV most] ?_)))))))))
 refine Sq.e1 [] (l := []) (o_cl Tryz.call45 (Tri.ex (L' := fun x => lruL x.1 x.2 most [] 0) (lru_New most (by omega)) (fun x => by rw [lqNew_nn (show 0 ≤ most by omega)]))) rfl ?_; rintro ⟨b4, lb5⟩ _
 refine Sq.vl [2] [pV b4 0] (Sq.d4 (Cd.s0 (Sq.vl [0, 1, 2, 3, 4, 5, 6, 7, 8, 9, 10, 11, 12, 13, 14, 15, 16, 17, 18, 19, 20, 21, 22, 23, 24, 25, 26, 27, 28, 29, 30, 31] [pV b3 0, pV b3 0, pV b3 0, pV b3 0, pV b3 0, pV b3 0, pV b3 0, pV b3 0, pV b3 0, pV b3 0, pV b4 0, .func (.func 46) #[pV b4 0] #[], pV b4 0, .func (.func 47) #[pV b4 0] #[], pV b4 0, .func (.func 48) #[pV b4 0] #[], pV b4 0, .func (.func 49) #[pV b4 0] #[], pV b4 0, .func (.func 50) #[pV b4 0] #[], pV b4 0, .func (.func 51) #[pV b4 0] #[], pV b4 0, .func (.func 52) #[pV b4 0] #[], pV b4 0, .func (.func 53) #[pV b4 0] #[], pV b4 0, .func (.func 54) #[pV b4 0] #[], pV b4 0, .func (.func 55) #[pV b4 0] #[], pV b3 0, pV b3 2] (Sq.sm [0] (l := [blkR b3 [iV 0, iV most, .nilFunc, .nilFunc, .nilFunc, .nilFunc, .nilFunc, .nilFunc, .nilFunc, .nilFunc, .nilFunc, .nilFunc] 93]) (o_st (i := 2) (v := .func (.func 46) #[pV b4 0] #[])) rfl (Sq.vl [33, 34] [pV b3 0, pV b3 3] (Sq.sm [0] (l := [blkR b3 [iV 0, iV most, .func (.func 46) #[pV b4 0] #[], .nilFunc, .nilFunc, .nilFunc, .nilFunc, .nilFunc, .nilFunc, .nilFunc, .nilFunc, .nilFunc] 93]) (o_st (i := 3) (v := .func (.func 47) #[pV b4 0] #[])) rfl (Sq.vl [36, 37] [pV b3 0, pV b3 4] (Sq.sm [0] (l := [blkR b3 [iV 0, iV most, .func (.func 46) #[pV b4 0] #[], .func (.func 47) #[pV b4 0] #[], .nilFunc, .nilFunc, .nilFunc, .nilFunc, .nilFunc, .nilFunc, .nilFunc, .nilFunc] 93]) (o_st (i := 4) (v := .func (.func 48) #[pV b4 0] #[])) rfl ?_))))))))
 refine Sq.vl [39, 40] [pV b3 0, pV b3 5] (Sq.sm [0] (l := [blkR b3 [iV 0, iV most, .func (.func 46) #[pV b4 0] #[], .func (.func 47) #[pV b4 0] #[], .func (.func 48) #[pV b4 0] #[], .nilFunc, .nilFunc, .nilFunc, .nilFunc, .nilFunc, .nilFunc, .nilFunc] 93]) (o_st (i := 5) (v := .func (.func 49) #[pV b4 0] #[])) rfl (Sq.vl [42, 43] [pV b3 0, pV b3 6] (Sq.sm [0] (l := [blkR b3 [iV 0, iV most, .func (.func 46) #[pV b4 0] #[], .func (.func 47) #[pV b4 0] #[], .func (.func 48) #[pV b4 0] #[], .func (.func 49) #[pV b4 0] #[], .nilFunc, .nilFunc, .nilFunc, .nilFunc, .nilFunc, .nilFunc] 93]) (o_st (i := 6) (v := .func (.func 50) #[pV b4 0] #[])) rfl (Sq.vl [45, 46] [pV b3 0, pV b3 7] (Sq.sm [0] (l := [blkR b3 [iV 0, iV most, .func (.func 46) #[pV b4 0] #[], .func (.func 47) #[pV b4 0] #[], .func (.func 48) #[pV b4 0] #[], .func (.func 49) #[pV b4 0] #[], .func (.func 50) #[pV b4 0] #[], .nilFunc, .nilFunc, .nilFunc, .nilFunc, .nilFunc] 93]) (o_st (i := 7) (v := .func (.func 51) #[pV b4 0] #[])) rfl (Sq.vl [48, 49] [pV b3 0, pV b3 8] (Sq.sm [0] (l := [blkR b3 [iV 0, iV most, .func (.func 46) #[pV b4 0] #[], .func (.func 47) #[pV b4 0] #[], .func (.func 48) #[pV b4 0] #[], .func (.func 49) #[pV b4 0] #[], .func (.func 50) #[pV b4 0] #[], .func (.func 51) #[pV b4 0] #[], .nilFunc, .nilFunc, .nilFunc, .nilFunc] 93]) (o_st (i := 8) (v := .func (.func 52) #[pV b4 0] #[])) rfl ?_)))))))
 refine Sq.vl [51, 52] [pV b3 0, pV b3 9] (Sq.sm [0] (l := [blkR b3 [iV 0, iV most, .func (.func 46) #[pV b4 0] #[], .func (.func 47) #[pV b4 0] #[], .func (.func 48) #[pV b4 0] #[], .func (.func 49) #[pV b4 0] #[], .func (.func 50) #[pV b4 0] #[], .func (.func 51) #[pV b4 0] #[], .func (.func 52) #[pV b4 0] #[], .nilFunc, .nilFunc, .nilFunc] 93]) (o_st (i := 9) (v := .func (.func 53) #[pV b4 0] #[])) rfl (Sq.vl [54, 55] [pV b3 0, pV b3 10] (Sq.sm [0] (l := [blkR b3 [iV 0, iV most, .func (.func 46) #[pV b4 0] #[], .func (.func 47) #[pV b4 0] #[], .func (.func 48) #[pV b4 0] #[], .func (.func 49) #[pV b4 0] #[], .func (.func 50) #[pV b4 0] #[], .func (.func 51) #[pV b4 0] #[], .func (.func 52) #[pV b4 0] #[], .func (.func 53) #[pV b4 0] #[], .nilFunc, .nilFunc] 93]) (o_st (i := 10) (v := .func (.func 54) #[pV b4 0] #[])) rfl (Sq.vl [57, 58] [pV b3 0, pV b3 11] (Sq.sm [0] (l := [blkR b3 [iV 0, iV most, .func (.func 46) #[pV b4 0] #[], .func (.func 47) #[pV b4 0] #[], .func (.func 48) #[pV b4 0] #[], .func (.func 49) #[pV b4 0] #[], .func (.func 50) #[pV b4 0] #[], .func (.func 51) #[pV b4 0] #[], .func (.func 52) #[pV b4 0] #[], .func (.func 53) #[pV b4 0] #[], .func (.func 54) #[pV b4 0] #[], .nilFunc] 93]) (o_st (i := 11) (v := .func (.func 55) #[pV b4 0] #[])) rfl (Sq.done (Ex'.next (Cd.exit (Ex'.blockMiss rfl (Ex'.thenExit (Ex'.blockMiss rfl (Ex'.thenExit (Ex'.blockMiss rfl (Ex'.thenExit (Ex'.blockMiss rfl (Ex'.thenExit (Ex'.blockHit (Ex'.next (Cd.s1 ?_)))))))))))))))))))
 refine Sq.vl [0, 1, 2] [pV b3 0, pV b3 0, .nilIface] (Sq.d4 (Cd.ret (Ex'.ret Tryz.results15 (RVs.tm (v := pV b3 0) (RVs.tmp (v := .nilIface) (by kernel_rfl) RVs.nil)) (fun w hw => ?_))))
 exact ⟨_, ⟨(b3, b4, lb5), trivial, rfl, rfl⟩, hw.pk [0, 1, 2]⟩
 
theorem pol_New_1 {most : Int} (hm : 0 ≤ most ∧ most ≤ 16777216) : Tri Tryz.prog 15 #[iV 1, iV most] [] (PostE (ι := Nat × Nat × Nat) (fun _ => True) (fun x => .tuple #[pV x.1 0, .nilIface]) fun x => [polBLfu x.1 (x.2.1) 1 most] ++ lfuL x.2.1 x.2.2 most 0 false [] 0) := by
 refine Tri.en (args := [iV 1, iV most]) Tryz.func15 (fun B wz => ?_)
 refine Cd.s1 (Sq.vl [0, 1] [.pointer none, .nilIface] (Sq.d4 (Cd.seq (Cd.s1 (Sq.vl [0, 1, 2, 3, 4, 5] [iV 1, bV false, bV false, iV 1, bV false, bV false] (Sq.d4 (Cd.cF (Cd.skip (Ex'.next (Cd.seq (Cd.s1 (Sq.vl [0] [iV most] ?_))))))))))))
 refine Sq.sm [] (l := []) (o_cl Tryz.call44 ((t_right (m := most)).re (vT hm))) rfl (Sq.vl [2] [bV false] (Sq.d4 (Cd.cF (Cd.skip (Ex'.next (Cd.s1 (Sq.vl [0, 1, 2] [iV 1, iV most, .agg #[iV 1, iV most, .nilFunc, .nilFunc, .nilFunc, .nilFunc, .nilFunc, .nilFunc, .nilFunc, .nilFunc, .nilFunc, .nilFunc]] ?_)))))))
 refine Sq.e0 [] (l := []) (o_newBox (v := .agg #[iV 1, iV most, .nilFunc, .nilFunc, .nilFunc, .nilFunc, .nilFunc, .nilFunc, .nilFunc, .nilFunc, .nilFunc, .nilFunc]) [iV 1, iV most, .nilFunc, .nilFunc, .nilFunc, .nilFunc, .nilFunc, .nilFunc, .nilFunc, .nilFunc, .nilFunc, .nilFunc] (by kernel_rfl) rfl) rfl ?_; intro b3 _
 refine Sq.vl [4] [pV b3 0] (Sq.d1 (Sq.vl [0] [bV false] (Sq.d4 (Cd.seq (Cd.s1 (Sq.vl [0] [iV 1] (Sq.done (Ex'.next (Cd.block (Cd.seq (Cd.block (Cd.seq (Cd.block (Cd.seq (Cd.block (Cd.seq (Cd.block (Cd.seq (Cd.block (Cd.seq (Cd.seq (Cd.s1 (Sq.vl [0, 1] [bV false, bV false] ?_)))))))))))))))))))))))
 refine Sq.d4 (Cd.cF (Cd.skip (Ex'.next (Cd.seq (Cd.s1 (Sq.vl [0, 1] [bV false, bV false] (Sq.d4 (Cd.cF (Cd.skip (Ex'.next (Cd.seq (Cd.s1 (Sq.vl [0, 1] [bV true, bV true] ?_)))))))))))))
 refine Sq.d4 (Cd.cT (Cd.exit (Ex'.thenExit (Ex'.thenExit (Ex'.blockMiss rfl (Ex'.thenExit (Ex'.blockMiss rfl (Ex'.thenExit (Ex'.blockHit (Ex'.next (Cd.seq (Cd.s1 (Sq.vl [0, 1] [iV most, bV false] ?_)))))))))))))
 refine Sq.e1 [] (l := []) (o_cl Tryz.call56 (Tri.ex (L' := fun x => lfuL x.1 x.2 most 0 false [] 0) (lfu_New most false (by omega)) (fun x => by rw [lfuNew_nn (show 0 ≤ most by omega)]))) rfl ?_; rintro ⟨b4, qb5⟩ _
 refine Sq.vl [3] [pV b4 0] (Sq.d4 (Cd.s0 (Sq.vl [0, 1, 2, 3, 4, 5, 6, 7, 8, 9, 10, 11, 12, 13, 14, 15, 16, 17, 18, 19, 20, 21, 22, 23, 24, 25, 26, 27, 28, 29, 30, 31] [pV b3 0, pV b3 0, pV b3 0, pV b3 0, pV b3 0, pV b3 0, pV b3 0, pV b3 0, pV b3 0, pV b3 0, pV b4 0, .func (.func 57) #[pV b4 0] #[], pV b4 0, .func (.func 58) #[pV b4 0] #[], pV b4 0, .func (.func 59) #[pV b4 0] #[], pV b4 0, .func (.func 60) #[pV b4 0] #[], pV b4 0, .func (.func 61) #[pV b4 0] #[], pV b4 0, .func (.func 62) #[pV b4 0] #[], pV b4 0, .func (.func 63) #[pV b4 0] #[], pV b4 0, .func (.func 64) #[pV b4 0] #[], pV b4 0, .func (.func 65) #[pV b4 0] #[], pV b4 0, .func (.func 66) #[pV b4 0] #[], pV b3 0, pV b3 2] (Sq.sm [0] (l := [blkR b3 [iV 1, iV most, .nilFunc, .nilFunc, .nilFunc, .nilFunc, .nilFunc, .nilFunc, .nilFunc, .nilFunc, .nilFunc, .nilFunc] 93]) (o_st (i := 2) (v := .func (.func 57) #[pV b4 0] #[])) rfl (Sq.vl [33, 34] [pV b3 0, pV b3 3] (Sq.sm [0] (l := [blkR b3 [iV 1, iV most, .func (.func 57) #[pV b4 0] #[], .nilFunc, .nilFunc, .nilFunc, .nilFunc, .nilFunc, .nilFunc, .nilFunc, .nilFunc, .nilFunc] 93]) (o_st (i := 3) (v := .func (.func 58) #[pV b4 0] #[])) rfl (Sq.vl [36, 37] [pV b3 0, pV b3 4] (Sq.sm [0] (l := [blkR b3 [iV 1, iV most, .func (.func 57) #[pV b4 0] #[], .func (.func 58) #[pV b4 0] #[], .nilFunc, .nilFunc, .nilFunc, .nilFunc, .nilFunc, .nilFunc, .nilFunc, .nilFunc] 93]) (o_st (i := 4) (v := .func (.func 59) #[pV b4 0] #[])) rfl ?_))))))))
 refine Sq.vl [39, 40] [pV b3 0, pV b3 5] (Sq.sm [0] (l := [blkR b3 [iV 1, iV most, .func (.func 57) #[pV b4 0] #[], .func (.func 58) #[pV b4 0] #[], .func (.func 59) #[pV b4 0] #[], .nilFunc, .nilFunc, .nilFunc, .nilFunc, .nilFunc, .nilFunc, .nilFunc] 93]) (o_st (i := 5) (v := .func (.func 60) #[pV b4 0] #[])) rfl (Sq.vl [42, 43] [pV b3 0, pV b3 6] (Sq.sm [0] (l := [blkR b3 [iV 1, iV most, .func (.func 57) #[pV b4 0] #[], .func (.func 58) #[pV b4 0] #[], .func (.func 59) #[pV b4 0] #[], .func (.func 60) #[pV b4 0] #[], .nilFunc, .nilFunc, .nilFunc, .nilFunc, .nilFunc, .nilFunc] 93]) (o_st (i := 6) (v := .func (.func 61) #[pV b4 0] #[])) rfl (Sq.vl [45, 46] [pV b3 0, pV b3 7] (Sq.sm [0] (l := [blkR b3 [iV 1, iV most, .func (.func 57) #[pV b4 0] #[], .func (.func 58) #[pV b4 0] #[], .func (.func 59) #[pV b4 0] #[], .func (.func 60) #[pV b4 0] #[], .func (.func 61) #[pV b4 0] #[], .nilFunc, .nilFunc, .nilFunc, .nilFunc, .nilFunc] 93]) (o_st (i := 7) (v := .func (.func 62) #[pV b4 0] #[])) rfl (Sq.vl [48, 49] [pV b3 0, pV b3 8] (Sq.sm [0] (l := [blkR b3 [iV 1, iV most, .func (.func 57) #[pV b4 0] #[], .func (.func 58) #[pV b4 0] #[], .func (.func 59) #[pV b4 0] #[], .func (.func 60) #[pV b4 0] #[], .func (.func 61) #[pV b4 0] #[], .func (.func 62) #[pV b4 0] #[], .nilFunc, .nilFunc, .nilFunc, .nilFunc] 93]) (o_st (i := 8) (v := .func (.func 63) #[pV b4 0] #[])) rfl ?_)))))))
 refine Sq.vl [51, 52] [pV b3 0, pV b3 9] (Sq.sm [0] (l := [blkR b3 [iV 1, iV most, .func (.func 57) #[pV b4 0] #[], .func (.func 58) #[pV b4 0] #[], .func (.func 59) #[pV b4 0] #[], .func (.func 60) #[pV b4 0] #[], .func (.func 61) #[pV b4 0] #[], .func (.func 62) #[pV b4 0] #[], .func (.func 63) #[pV b4 0] #[], .nilFunc, .nilFunc, .nilFunc] 93]) (o_st (i := 9) (v := .func (.func 64) #[pV b4 0] #[])) rfl (Sq.vl [54, 55] [pV b3 0, pV b3 10] (Sq.sm [0] (l := [blkR b3 [iV 1, iV most, .func (.func 57) #[pV b4 0] #[], .func (.func 58) #[pV b4 0] #[], .func (.func 59) #[pV b4 0] #[], .func (.func 60) #[pV b4 0] #[], .func (.func 61) #[pV b4 0] #[], .func (.func 62) #[pV b4 0] #[], .func (.func 63) #[pV b4 0] #[], .func (.func 64) #[pV b4 0] #[], .nilFunc, .nilFunc] 93]) (o_st (i := 10) (v := .func (.func 65) #[pV b4 0] #[])) rfl (Sq.vl [57, 58] [pV b3 0, pV b3 11] (Sq.sm [0] (l := [blkR b3 [iV 1, iV most, .func (.func 57) #[pV b4 0] #[], .func (.func 58) #[pV b4 0] #[], .func (.func 59) #[pV b4 0] #[], .func (.func 60) #[pV b4 0] #[], .func (.func 61) #[pV b4 0] #[], .func (.func 62) #[pV b4 0] #[], .func (.func 63) #[pV b4 0] #[], .func (.func 64) #[pV b4 0] #[], .func (.func 65) #[pV b4 0] #[], .nilFunc] 93]) (o_st (i := 11) (v := .func (.func 66) #[pV b4 0] #[])) rfl (Sq.done (Ex'.next (Cd.exit (Ex'.blockMiss rfl (Ex'.thenExit (Ex'.blockMiss rfl (Ex'.thenExit (Ex'.blockHit (Ex'.next (Cd.s1 (Sq.vl [0, 1, 2] [pV b3 0, pV b3 0, .nilIface] ?_))))))))))))))))
 refine Sq.d4 (Cd.ret (Ex'.ret Tryz.results15 (RVs.tm (v := pV b3 0) (RVs.tmp (v := .nilIface) (by kernel_rfl) RVs.nil)) (fun w hw => ?_)))
 exact ⟨_, ⟨(b3, b4, qb5), trivial, rfl, rfl⟩, hw.pk [0, 1, 2]⟩
 
theorem pol_New_2 {most : Int} (hm : 0 ≤ most ∧ most ≤ 16777216) : Tri Tryz.prog 15 #[iV 2, iV most] [] (PostE (ι := Nat × Nat × Nat) (fun _ => True) (fun x => .tuple #[pV x.1 0, .nilIface]) fun x => [polBLfu x.1 (x.2.1) 2 most] ++ lfuL x.2.1 x.2.2 most 0 true [] 0) := by
 refine Tri.en (args := [iV 2, iV most]) Tryz.func15 (fun B wz => ?_)
 refine Cd.s1 (Sq.vl [0, 1] [.pointer none, .nilIface] (Sq.d4 (Cd.seq (Cd.s1 (Sq.vl [0, 1, 2, 3, 4, 5] [iV 2, bV false, bV false, iV 2, bV false, bV false] (Sq.d4 (Cd.cF (Cd.skip (Ex'.next (Cd.seq (Cd.s1 (Sq.vl [0] [iV most] ?_))))))))))))
 refine Sq.sm [] (l := []) (o_cl Tryz.call44 ((t_right (m := most)).re (vT hm))) rfl (Sq.vl [2] [bV false] (Sq.d4 (Cd.cF (Cd.skip (Ex'.next (Cd.s1 (Sq.vl [0, 1, 2] [iV 2, iV most, .agg #[iV 2, iV most, .nilFunc, .nilFunc, .nilFunc, .nilFunc, .nilFunc, .nilFunc, .nilFunc, .nilFunc, .nilFunc, .nilFunc]] ?_)))))))
 refine Sq.e0 [] (l := []) (o_newBox (v := .agg #[iV 2, iV most, .nilFunc, .nilFunc, .nilFunc, .nilFunc, .nilFunc, .nilFunc, .nilFunc, .nilFunc, .nilFunc, .nilFunc]) [iV 2, iV most, .nilFunc, .nilFunc, .nilFunc, .nilFunc, .nilFunc, .nilFunc, .nilFunc, .nilFunc, .nilFunc, .nilFunc] (by kernel_rfl) rfl) rfl ?_; intro b3 _
 refine Sq.vl [4] [pV b3 0] (Sq.d1 (Sq.vl [0] [bV false] (Sq.d4 (Cd.seq (Cd.s1 (Sq.vl [0] [iV 2] (Sq.done (Ex'.next (Cd.block (Cd.seq (Cd.block (Cd.seq (Cd.block (Cd.seq (Cd.block (Cd.seq (Cd.block (Cd.seq (Cd.block (Cd.seq (Cd.seq (Cd.s1 (Sq.vl [0, 1] [bV false, bV false] ?_)))))))))))))))))))))))
 refine Sq.d4 (Cd.cF (Cd.skip (Ex'.next (Cd.seq (Cd.s1 (Sq.vl [0, 1] [bV true, bV true] (Sq.d4 (Cd.cT (Cd.exit (Ex'.thenExit (Ex'.thenExit (Ex'.blockMiss rfl (Ex'.thenExit (Ex'.blockHit (Ex'.next (Cd.s0 (Sq.vl [0] [bV true] ?_)))))))))))))))))
 refine Sq.done (Ex'.blockNormal (Ex'.next (Cd.seq (Cd.s1 (Sq.vl [0, 1] [iV most, bV true] ?_)))))
 refine Sq.e1 [] (l := []) (o_cl Tryz.call56 (Tri.ex (L' := fun x => lfuL x.1 x.2 most 0 true [] 0) (lfu_New most true (by omega)) (fun x => by rw [lfuNew_nn (show 0 ≤ most by omega)]))) rfl ?_; rintro ⟨b4, qb5⟩ _
 refine Sq.vl [3] [pV b4 0] (Sq.d4 (Cd.s0 (Sq.vl [0, 1, 2, 3, 4, 5, 6, 7, 8, 9, 10, 11, 12, 13, 14, 15, 16, 17, 18, 19, 20, 21, 22, 23, 24, 25, 26, 27, 28, 29, 30, 31] [pV b3 0, pV b3 0, pV b3 0, pV b3 0, pV b3 0, pV b3 0, pV b3 0, pV b3 0, pV b3 0, pV b3 0, pV b4 0, .func (.func 57) #[pV b4 0] #[], pV b4 0, .func (.func 58) #[pV b4 0] #[], pV b4 0, .func (.func 59) #[pV b4 0] #[], pV b4 0, .func (.func 60) #[pV b4 0] #[], pV b4 0, .func (.func 61) #[pV b4 0] #[], pV b4 0, .func (.func 62) #[pV b4 0] #[], pV b4 0, .func (.func 63) #[pV b4 0] #[], pV b4 0, .func (.func 64) #[pV b4 0] #[], pV b4 0, .func (.func 65) #[pV b4 0] #[], pV b4 0, .func (.func 66) #[pV b4 0] #[], pV b3 0, pV b3 2] (Sq.sm [0] (l := [blkR b3 [iV 2, iV most, .nilFunc, .nilFunc, .nilFunc, .nilFunc, .nilFunc, .nilFunc, .nilFunc, .nilFunc, .nilFunc, .nilFunc] 93]) (o_st (i := 2) (v := .func (.func 57) #[pV b4 0] #[])) rfl (Sq.vl [33, 34] [pV b3 0, pV b3 3] (Sq.sm [0] (l := [blkR b3 [iV 2, iV most, .func (.func 57) #[pV b4 0] #[], .nilFunc, .nilFunc, .nilFunc, .nilFunc, .nilFunc, .nilFunc, .nilFunc, .nilFunc, .nilFunc] 93]) (o_st (i := 3) (v := .func (.func 58) #[pV b4 0] #[])) rfl (Sq.vl [36, 37] [pV b3 0, pV b3 4] (Sq.sm [0] (l := [blkR b3 [iV 2, iV most, .func (.func 57) #[pV b4 0] #[], .func (.func 58) #[pV b4 0] #[], .nilFunc, .nilFunc, .nilFunc, .nilFunc, .nilFunc, .nilFunc, .nilFunc, .nilFunc] 93]) (o_st (i := 4) (v := .func (.func 59) #[pV b4 0] #[])) rfl ?_))))))))
 refine Sq.vl [39, 40] [pV b3 0, pV b3 5] (Sq.sm [0] (l := [blkR b3 [iV 2, iV most, .func (.func 57) #[pV b4 0] #[], .func (.func 58) #[pV b4 0] #[], .func (.func 59) #[pV b4 0] #[], .nilFunc, .nilFunc, .nilFunc, .nilFunc, .nilFunc, .nilFunc, .nilFunc] 93]) (o_st (i := 5) (v := .func (.func 60) #[pV b4 0] #[])) rfl (Sq.vl [42, 43] [pV b3 0, pV b3 6] (Sq.sm [0] (l := [blkR b3 [iV 2, iV most, .func (.func 57) #[pV b4 0] #[], .func (.func 58) #[pV b4 0] #[], .func (.func 59) #[pV b4 0] #[], .func (.func 60) #[pV b4 0] #[], .nilFunc, .nilFunc, .nilFunc, .nilFunc, .nilFunc, .nilFunc] 93]) (o_st (i := 6) (v := .func (.func 61) #[pV b4 0] #[])) rfl (Sq.vl [45, 46] [pV b3 0, pV b3 7] (Sq.sm [0] (l := [blkR b3 [iV 2, iV most, .func (.func 57) #[pV b4 0] #[], .func (.func 58) #[pV b4 0] #[], .func (.func 59) #[pV b4 0] #[], .func (.func 60) #[pV b4 0] #[], .func (.func 61) #[pV b4 0] #[], .nilFunc, .nilFunc, .nilFunc, .nilFunc, .nilFunc] 93]) (o_st (i := 7) (v := .func (.func 62) #[pV b4 0] #[])) rfl (Sq.vl [48, 49] [pV b3 0, pV b3 8] (Sq.sm [0] (l := [blkR b3 [iV 2, iV most, .func (.func 57) #[pV b4 0] #[], .func (.func 58) #[pV b4 0] #[], .func (.func 59) #[pV b4 0] #[], .func (.func 60) #[pV b4 0] #[], .func (.func 61) #[pV b4 0] #[], .func (.func 62) #[pV b4 0] #[], .nilFunc, .nilFunc, .nilFunc, .nilFunc] 93]) (o_st (i := 8) (v := .func (.func 63) #[pV b4 0] #[])) rfl ?_)))))))
 refine Sq.vl [51, 52] [pV b3 0, pV b3 9] (Sq.sm [0] (l := [blkR b3 [iV 2, iV most, .func (.func 57) #[pV b4 0] #[], .func (.func 58) #[pV b4 0] #[], .func (.func 59) #[pV b4 0] #[], .func (.func 60) #[pV b4 0] #[], .func (.func 61) #[pV b4 0] #[], .func (.func 62) #[pV b4 0] #[], .func (.func 63) #[pV b4 0] #[], .nilFunc, .nilFunc, .nilFunc] 93]) (o_st (i := 9) (v := .func (.func 64) #[pV b4 0] #[])) rfl (Sq.vl [54, 55] [pV b3 0, pV b3 10] (Sq.sm [0] (l := [blkR b3 [iV 2, iV most, .func (.func 57) #[pV b4 0] #[], .func (.func 58) #[pV b4 0] #[], .func (.func 59) #[pV b4 0] #[], .func (.func 60) #[pV b4 0] #[], .func (.func 61) #[pV b4 0] #[], .func (.func 62) #[pV b4 0] #[], .func (.func 63) #[pV b4 0] #[], .func (.func 64) #[pV b4 0] #[], .nilFunc, .nilFunc] 93]) (o_st (i := 10) (v := .func (.func 65) #[pV b4 0] #[])) rfl (Sq.vl [57, 58] [pV b3 0, pV b3 11] (Sq.sm [0] (l := [blkR b3 [iV 2, iV most, .func (.func 57) #[pV b4 0] #[], .func (.func 58) #[pV b4 0] #[], .func (.func 59) #[pV b4 0] #[], .func (.func 60) #[pV b4 0] #[], .func (.func 61) #[pV b4 0] #[], .func (.func 62) #[pV b4 0] #[], .func (.func 63) #[pV b4 0] #[], .func (.func 64) #[pV b4 0] #[], .func (.func 65) #[pV b4 0] #[], .nilFunc] 93]) (o_st (i := 11) (v := .func (.func 66) #[pV b4 0] #[])) rfl (Sq.done (Ex'.next (Cd.exit (Ex'.blockMiss rfl (Ex'.thenExit (Ex'.blockMiss rfl (Ex'.thenExit (Ex'.blockHit (Ex'.next (Cd.s1 (Sq.vl [0, 1, 2] [pV b3 0, pV b3 0, .nilIface] ?_))))))))))))))))
 refine Sq.d4 (Cd.ret (Ex'.ret Tryz.results15 (RVs.tm (v := pV b3 0) (RVs.tmp (v := .nilIface) (by kernel_rfl) RVs.nil)) (fun w hw => ?_)))
 exact ⟨_, ⟨(b3, b4, qb5), trivial, rfl, rfl⟩, hw.pk [0, 1, 2]⟩
 
theorem pol_New_3 {most : Int} (hm : 0 ≤ most ∧ most ≤ 16777216) : Tri Tryz.prog 15 #[iV 3, iV most] [] (PostE (ι := Nat × Nat × Nat × Nat × Nat × Nat) (fun _ => True) (fun x => .tuple #[pV x.1 0, .nilIface]) fun x => [polBSrl x.1 (x.2.1) most] ++ srlL x.2.1 x.2.2.1 x.2.2.2.1 x.2.2.2.2.1 x.2.2.2.2.2 most (most / 2) [] [] [] [] 0) := by
 refine Tri.en (args := [iV 3, iV most]) Tryz.func15 (fun B wz => ?_)
 refine Cd.s1 (Sq.vl [0, 1] [.pointer none, .nilIface] (Sq.d4 (Cd.seq (Cd.s1 (Sq.vl [0, 1, 2, 3, 4, 5] [iV 3, bV false, bV false, iV 3, bV false, bV false] (Sq.d4 (Cd.cF (Cd.skip (Ex'.next (Cd.seq (Cd.s1 (Sq.vl [0] [iV most] ?_))))))))))))
 refine Sq.sm [] (l := []) (o_cl Tryz.call44 ((t_right (m := most)).re (vT hm))) rfl (Sq.vl [2] [bV false] (Sq.d4 (Cd.cF (Cd.skip (Ex'.next (Cd.s1 (Sq.vl [0, 1, 2] [iV 3, iV most, .agg #[iV 3, iV most, .nilFunc, .nilFunc, .nilFunc, .nilFunc, .nilFunc, .nilFunc, .nilFunc, .nilFunc, .nilFunc, .nilFunc]] ?_)))))))
 refine Sq.e0 [] (l := []) (o_newBox (v := .agg #[iV 3, iV most, .nilFunc, .nilFunc, .nilFunc, .nilFunc, .nilFunc, .nilFunc, .nilFunc, .nilFunc, .nilFunc, .nilFunc]) [iV 3, iV most, .nilFunc, .nilFunc, .nilFunc, .nilFunc, .nilFunc, .nilFunc, .nilFunc, .nilFunc, .nilFunc, .nilFunc] (by kernel_rfl) rfl) rfl ?_; intro b3 _
 refine Sq.vl [4] [pV b3 0] (Sq.d1 (Sq.vl [0] [bV false] (Sq.d4 (Cd.seq (Cd.s1 (Sq.vl [0] [iV 3] (Sq.done (Ex'.next (Cd.block (Cd.seq (Cd.block (Cd.seq (Cd.block (Cd.seq (Cd.block (Cd.seq (Cd.block (Cd.seq (Cd.block (Cd.seq (Cd.seq (Cd.s1 (Sq.vl [0, 1] [bV false, bV false] ?_)))))))))))))))))))))))
 refine Sq.d4 (Cd.cF (Cd.skip (Ex'.next (Cd.seq (Cd.s1 (Sq.vl [0, 1] [bV false, bV false] (Sq.d4 (Cd.cF (Cd.skip (Ex'.next (Cd.seq (Cd.s1 (Sq.vl [0, 1] [bV false, bV false] ?_)))))))))))))
 refine Sq.d4 (Cd.cF (Cd.skip (Ex'.next (Cd.s1 (Sq.vl [0, 1] [bV true, bV true] (Sq.d4 (Cd.cT (Cd.exit (Ex'.thenExit (Ex'.blockMiss rfl (Ex'.thenExit (Ex'.blockMiss rfl (Ex'.thenExit (Ex'.blockMiss rfl (Ex'.thenExit (Ex'.blockHit (Ex'.next (Cd.seq (Cd.seq (Cd.s0 ?_))))))))))))))))))))
 refine Sq.vl [0] [iV most] ?_
 refine Sq.e1 [] (l := []) (o_cl Tryz.call67 (Tri.ex (L' := fun x => srlL x.1 x.2.1 x.2.2.1 x.2.2.2.1 x.2.2.2.2 most (most / 2) [] [] [] [] 0) (srl_New most (by omega)) (fun x => by rw [srlNew_nn (show 0 ≤ most by omega)]))) rfl ?_; rintro ⟨b4, nb5, ab6, gb7, mb8⟩ _
 refine Sq.vl [2] [pV b4 0] (Sq.d4 (Cd.s0 (Sq.vl [0, 1, 2, 3, 4, 5, 6, 7, 8, 9, 10, 11, 12, 13, 14, 15, 16, 17, 18, 19, 20, 21, 22, 23, 24, 25, 26, 27, 28, 29, 30, 31] [pV b3 0, pV b3 0, pV b3 0, pV b3 0, pV b3 0, pV b3 0, pV b3 0, pV b3 0, pV b3 0, pV b3 0, pV b4 0, .func (.func 68) #[pV b4 0] #[], pV b4 0, .func (.func 69) #[pV b4 0] #[], pV b4 0, .func (.func 70) #[pV b4 0] #[], pV b4 0, .func (.func 71) #[pV b4 0] #[], pV b4 0, .func (.func 72) #[pV b4 0] #[], pV b4 0, .func (.func 73) #[pV b4 0] #[], pV b4 0, .func (.func 74) #[pV b4 0] #[], pV b4 0, .func (.func 75) #[pV b4 0] #[], pV b4 0, .func (.func 76) #[pV b4 0] #[], pV b4 0, .func (.func 77) #[pV b4 0] #[], pV b3 0, pV b3 2] (Sq.sm [0] (l := [blkR b3 [iV 3, iV most, .nilFunc, .nilFunc, .nilFunc, .nilFunc, .nilFunc, .nilFunc, .nilFunc, .nilFunc, .nilFunc, .nilFunc] 93]) (o_st (i := 2) (v := .func (.func 68) #[pV b4 0] #[])) rfl (Sq.vl [33, 34] [pV b3 0, pV b3 3] (Sq.sm [0] (l := [blkR b3 [iV 3, iV most, .func (.func 68) #[pV b4 0] #[], .nilFunc, .nilFunc, .nilFunc, .nilFunc, .nilFunc, .nilFunc, .nilFunc, .nilFunc, .nilFunc] 93]) (o_st (i := 3) (v := .func (.func 69) #[pV b4 0] #[])) rfl (Sq.vl [36, 37] [pV b3 0, pV b3 4] (Sq.sm [0] (l := [blkR b3 [iV 3, iV most, .func (.func 68) #[pV b4 0] #[], .func (.func 69) #[pV b4 0] #[], .nilFunc, .nilFunc, .nilFunc, .nilFunc, .nilFunc, .nilFunc, .nilFunc, .nilFunc] 93]) (o_st (i := 4) (v := .func (.func 70) #[pV b4 0] #[])) rfl ?_))))))))
 refine Sq.vl [39, 40] [pV b3 0, pV b3 5] (Sq.sm [0] (l := [blkR b3 [iV 3, iV most, .func (.func 68) #[pV b4 0] #[], .func (.func 69) #[pV b4 0] #[], .func (.func 70) #[pV b4 0] #[], .nilFunc, .nilFunc, .nilFunc, .nilFunc, .nilFunc, .nilFunc, .nilFunc] 93]) (o_st (i := 5) (v := .func (.func 71) #[pV b4 0] #[])) rfl (Sq.vl [42, 43] [pV b3 0, pV b3 6] (Sq.sm [0] (l := [blkR b3 [iV 3, iV most, .func (.func 68) #[pV b4 0] #[], .func (.func 69) #[pV b4 0] #[], .func (.func 70) #[pV b4 0] #[], .func (.func 71) #[pV b4 0] #[], .nilFunc, .nilFunc, .nilFunc, .nilFunc, .nilFunc, .nilFunc] 93]) (o_st (i := 6) (v := .func (.func 72) #[pV b4 0] #[])) rfl (Sq.vl [45, 46] [pV b3 0, pV b3 7] (Sq.sm [0] (l := [blkR b3 [iV 3, iV most, .func (.func 68) #[pV b4 0] #[], .func (.func 69) #[pV b4 0] #[], .func (.func 70) #[pV b4 0] #[], .func (.func 71) #[pV b4 0] #[], .func (.func 72) #[pV b4 0] #[], .nilFunc, .nilFunc, .nilFunc, .nilFunc, .nilFunc] 93]) (o_st (i := 7) (v := .func (.func 73) #[pV b4 0] #[])) rfl (Sq.vl [48, 49] [pV b3 0, pV b3 8] (Sq.sm [0] (l := [blkR b3 [iV 3, iV most, .func (.func 68) #[pV b4 0] #[], .func (.func 69) #[pV b4 0] #[], .func (.func 70) #[pV b4 0] #[], .func (.func 71) #[pV b4 0] #[], .func (.func 72) #[pV b4 0] #[], .func (.func 73) #[pV b4 0] #[], .nilFunc, .nilFunc, .nilFunc, .nilFunc] 93]) (o_st (i := 8) (v := .func (.func 74) #[pV b4 0] #[])) rfl ?_)))))))
 refine Sq.vl [51, 52] [pV b3 0, pV b3 9] (Sq.sm [0] (l := [blkR b3 [iV 3, iV most, .func (.func 68) #[pV b4 0] #[], .func (.func 69) #[pV b4 0] #[], .func (.func 70) #[pV b4 0] #[], .func (.func 71) #[pV b4 0] #[], .func (.func 72) #[pV b4 0] #[], .func (.func 73) #[pV b4 0] #[], .func (.func 74) #[pV b4 0] #[], .nilFunc, .nilFunc, .nilFunc] 93]) (o_st (i := 9) (v := .func (.func 75) #[pV b4 0] #[])) rfl (Sq.vl [54, 55] [pV b3 0, pV b3 10] (Sq.sm [0] (l := [blkR b3 [iV 3, iV most, .func (.func 68) #[pV b4 0] #[], .func (.func 69) #[pV b4 0] #[], .func (.func 70) #[pV b4 0] #[], .func (.func 71) #[pV b4 0] #[], .func (.func 72) #[pV b4 0] #[], .func (.func 73) #[pV b4 0] #[], .func (.func 74) #[pV b4 0] #[], .func (.func 75) #[pV b4 0] #[], .nilFunc, .nilFunc] 93]) (o_st (i := 10) (v := .func (.func 76) #[pV b4 0] #[])) rfl (Sq.vl [57, 58] [pV b3 0, pV b3 11] (Sq.sm [0] (l := [blkR b3 [iV 3, iV most, .func (.func 68) #[pV b4 0] #[], .func (.func 69) #[pV b4 0] #[], .func (.func 70) #[pV b4 0] #[], .func (.func 71) #[pV b4 0] #[], .func (.func 72) #[pV b4 0] #[], .func (.func 73) #[pV b4 0] #[], .func (.func 74) #[pV b4 0] #[], .func (.func 75) #[pV b4 0] #[], .func (.func 76) #[pV b4 0] #[], .nilFunc] 93]) (o_st (i := 11) (v := .func (.func 77) #[pV b4 0] #[])) rfl (Sq.done (Ex'.next (Cd.exit (Ex'.blockMiss rfl (Ex'.thenExit (Ex'.blockHit (Ex'.next (Cd.s1 (Sq.vl [0, 1, 2] [pV b3 0, pV b3 0, .nilIface] ?_))))))))))))))
 refine Sq.d4 (Cd.ret (Ex'.ret Tryz.results15 (RVs.tm (v := pV b3 0) (RVs.tmp (v := .nilIface) (by kernel_rfl) RVs.nil)) (fun w hw => ?_)))
 exact ⟨_, ⟨(b3, b4, nb5, ab6, gb7, mb8), trivial, rfl, rfl⟩, hw.pk [0, 1, 2, 3, 4, 5]⟩
 
theorem pol_New_4 {most : Int} (hm : 0 ≤ most ∧ most ≤ 16777216) : Tri Tryz.prog 15 #[iV 4, iV most] [] (PostE (ι := Nat × Nat × Nat × Nat × Nat × Nat) (fun _ => True) (fun x => .tuple #[pV x.1 0, .nilIface]) fun x => [polBArc x.1 (x.2.1) most] ++ arcL x.2.1 x.2.2.1 x.2.2.2.1 x.2.2.2.2.1 x.2.2.2.2.2 most 0 [] [] [] [] 0) := by
 refine Tri.en (args := [iV 4, iV most]) Tryz.func15 (fun B wz => ?_)
 refine Cd.s1 (Sq.vl [0, 1] [.pointer none, .nilIface] (Sq.d4 (Cd.seq (Cd.s1 (Sq.vl [0, 1, 2, 3, 4, 5] [iV 4, bV false, bV false, iV 4, bV false, bV false] (Sq.d4 (Cd.cF (Cd.skip (Ex'.next (Cd.seq (Cd.s1 (Sq.vl [0] [iV most] ?_))))))))))))
 refine Sq.sm [] (l := []) (o_cl Tryz.call44 ((t_right (m := most)).re (vT hm))) rfl (Sq.vl [2] [bV false] (Sq.d4 (Cd.cF (Cd.skip (Ex'.next (Cd.s1 (Sq.vl [0, 1, 2] [iV 4, iV most, .agg #[iV 4, iV most, .nilFunc, .nilFunc, .nilFunc, .nilFunc, .nilFunc, .nilFunc, .nilFunc, .nilFunc, .nilFunc, .nilFunc]] ?_)))))))
 refine Sq.e0 [] (l := []) (o_newBox (v := .agg #[iV 4, iV most, .nilFunc, .nilFunc, .nilFunc, .nilFunc, .nilFunc, .nilFunc, .nilFunc, .nilFunc, .nilFunc, .nilFunc]) [iV 4, iV most, .nilFunc, .nilFunc, .nilFunc, .nilFunc, .nilFunc, .nilFunc, .nilFunc, .nilFunc, .nilFunc, .nilFunc] (by kernel_rfl) rfl) rfl ?_; intro b3 _
 refine Sq.vl [4] [pV b3 0] (Sq.d1 (Sq.vl [0] [bV false] (Sq.d4 (Cd.seq (Cd.s1 (Sq.vl [0] [iV 4] (Sq.done (Ex'.next (Cd.block (Cd.seq (Cd.block (Cd.seq (Cd.block (Cd.seq (Cd.block (Cd.seq (Cd.block (Cd.seq (Cd.block (Cd.seq (Cd.seq (Cd.s1 (Sq.vl [0, 1] [bV false, bV false] ?_)))))))))))))))))))))))
 refine Sq.d4 (Cd.cF (Cd.skip (Ex'.next (Cd.seq (Cd.s1 (Sq.vl [0, 1] [bV false, bV false] (Sq.d4 (Cd.cF (Cd.skip (Ex'.next (Cd.seq (Cd.s1 (Sq.vl [0, 1] [bV false, bV false] ?_)))))))))))))
 refine Sq.d4 (Cd.cF (Cd.skip (Ex'.next (Cd.s1 (Sq.vl [0, 1] [bV false, bV false] (Sq.d4 (Cd.cF (Cd.skip (Ex'.next (Cd.exit (Ex'.blockMiss rfl (Ex'.thenExit (Ex'.blockMiss rfl (Ex'.thenExit (Ex'.blockMiss rfl (Ex'.thenExit (Ex'.blockMiss rfl (Ex'.thenExit (Ex'.blockHit (Ex'.next (Cd.seq (Cd.s1 ?_))))))))))))))))))))))
 refine Sq.vl [0] [iV most] ?_
 refine Sq.e1 [] (l := []) (o_cl Tryz.call78 (Tri.ex (L' := fun x => arcL x.1 x.2.1 x.2.2.1 x.2.2.2.1 x.2.2.2.2 most 0 [] [] [] [] 0) (arc_New most (by omega)) (fun x => by rw [arcNew_nn (show 0 ≤ most by omega)]))) rfl ?_; rintro ⟨b4, lt15, lt26, lb17, lb28⟩ _
 refine Sq.vl [2] [pV b4 0] (Sq.d4 (Cd.s0 (Sq.vl [0, 1, 2, 3, 4, 5, 6, 7, 8, 9, 10, 11, 12, 13, 14, 15, 16, 17, 18, 19, 20, 21, 22, 23, 24, 25, 26, 27, 28, 29, 30, 31] [pV b3 0, pV b3 0, pV b3 0, pV b3 0, pV b3 0, pV b3 0, pV b3 0, pV b3 0, pV b3 0, pV b3 0, pV b4 0, .func (.func 79) #[pV b4 0] #[], pV b4 0, .func (.func 80) #[pV b4 0] #[], pV b4 0, .func (.func 81) #[pV b4 0] #[], pV b4 0, .func (.func 82) #[pV b4 0] #[], pV b4 0, .func (.func 83) #[pV b4 0] #[], pV b4 0, .func (.func 84) #[pV b4 0] #[], pV b4 0, .func (.func 85) #[pV b4 0] #[], pV b4 0, .func (.func 86) #[pV b4 0] #[], pV b4 0, .func (.func 87) #[pV b4 0] #[], pV b4 0, .func (.func 88) #[pV b4 0] #[], pV b3 0, pV b3 2] (Sq.sm [0] (l := [blkR b3 [iV 4, iV most, .nilFunc, .nilFunc, .nilFunc, .nilFunc, .nilFunc, .nilFunc, .nilFunc, .nilFunc, .nilFunc, .nilFunc] 93]) (o_st (i := 2) (v := .func (.func 79) #[pV b4 0] #[])) rfl (Sq.vl [33, 34] [pV b3 0, pV b3 3] (Sq.sm [0] (l := [blkR b3 [iV 4, iV most, .func (.func 79) #[pV b4 0] #[], .nilFunc, .nilFunc, .nilFunc, .nilFunc, .nilFunc, .nilFunc, .nilFunc, .nilFunc, .nilFunc] 93]) (o_st (i := 3) (v := .func (.func 80) #[pV b4 0] #[])) rfl (Sq.vl [36, 37] [pV b3 0, pV b3 4] (Sq.sm [0] (l := [blkR b3 [iV 4, iV most, .func (.func 79) #[pV b4 0] #[], .func (.func 80) #[pV b4 0] #[], .nilFunc, .nilFunc, .nilFunc, .nilFunc, .nilFunc, .nilFunc, .nilFunc, .nilFunc] 93]) (o_st (i := 4) (v := .func (.func 81) #[pV b4 0] #[])) rfl ?_))))))))
 refine Sq.vl [39, 40] [pV b3 0, pV b3 5] (Sq.sm [0] (l := [blkR b3 [iV 4, iV most, .func (.func 79) #[pV b4 0] #[], .func (.func 80) #[pV b4 0] #[], .func (.func 81) #[pV b4 0] #[], .nilFunc, .nilFunc, .nilFunc, .nilFunc, .nilFunc, .nilFunc, .nilFunc] 93]) (o_st (i := 5) (v := .func (.func 82) #[pV b4 0] #[])) rfl (Sq.vl [42, 43] [pV b3 0, pV b3 6] (Sq.sm [0] (l := [blkR b3 [iV 4, iV most, .func (.func 79) #[pV b4 0] #[], .func (.func 80) #[pV b4 0] #[], .func (.func 81) #[pV b4 0] #[], .func (.func 82) #[pV b4 0] #[], .nilFunc, .nilFunc, .nilFunc, .nilFunc, .nilFunc, .nilFunc] 93]) (o_st (i := 6) (v := .func (.func 83) #[pV b4 0] #[])) rfl (Sq.vl [45, 46] [pV b3 0, pV b3 7] (Sq.sm [0] (l := [blkR b3 [iV 4, iV most, .func (.func 79) #[pV b4 0] #[], .func (.func 80) #[pV b4 0] #[], .func (.func 81) #[pV b4 0] #[], .func (.func 82) #[pV b4 0] #[], .func (.func 83) #[pV b4 0] #[], .nilFunc, .nilFunc, .nilFunc, .nilFunc, .nilFunc] 93]) (o_st (i := 7) (v := .func (.func 84) #[pV b4 0] #[])) rfl (Sq.vl [48, 49] [pV b3 0, pV b3 8] (Sq.sm [0] (l := [blkR b3 [iV 4, iV most, .func (.func 79) #[pV b4 0] #[], .func (.func 80) #[pV b4 0] #[], .func (.func 81) #[pV b4 0] #[], .func (.func 82) #[pV b4 0] #[], .func (.func 83) #[pV b4 0] #[], .func (.func 84) #[pV b4 0] #[], .nilFunc, .nilFunc, .nilFunc, .nilFunc] 93]) (o_st (i := 8) (v := .func (.func 85) #[pV b4 0] #[])) rfl ?_)))))))
 refine Sq.vl [51, 52] [pV b3 0, pV b3 9] (Sq.sm [0] (l := [blkR b3 [iV 4, iV most, .func (.func 79) #[pV b4 0] #[], .func (.func 80) #[pV b4 0] #[], .func (.func 81) #[pV b4 0] #[], .func (.func 82) #[pV b4 0] #[], .func (.func 83) #[pV b4 0] #[], .func (.func 84) #[pV b4 0] #[], .func (.func 85) #[pV b4 0] #[], .nilFunc, .nilFunc, .nilFunc] 93]) (o_st (i := 9) (v := .func (.func 86) #[pV b4 0] #[])) rfl (Sq.vl [54, 55] [pV b3 0, pV b3 10] (Sq.sm [0] (l := [blkR b3 [iV 4, iV most, .func (.func 79) #[pV b4 0] #[], .func (.func 80) #[pV b4 0] #[], .func (.func 81) #[pV b4 0] #[], .func (.func 82) #[pV b4 0] #[], .func (.func 83) #[pV b4 0] #[], .func (.func 84) #[pV b4 0] #[], .func (.func 85) #[pV b4 0] #[], .func (.func 86) #[pV b4 0] #[], .nilFunc, .nilFunc] 93]) (o_st (i := 10) (v := .func (.func 87) #[pV b4 0] #[])) rfl (Sq.vl [57, 58] [pV b3 0, pV b3 11] (Sq.sm [0] (l := [blkR b3 [iV 4, iV most, .func (.func 79) #[pV b4 0] #[], .func (.func 80) #[pV b4 0] #[], .func (.func 81) #[pV b4 0] #[], .func (.func 82) #[pV b4 0] #[], .func (.func 83) #[pV b4 0] #[], .func (.func 84) #[pV b4 0] #[], .func (.func 85) #[pV b4 0] #[], .func (.func 86) #[pV b4 0] #[], .func (.func 87) #[pV b4 0] #[], .nilFunc] 93]) (o_st (i := 11) (v := .func (.func 88) #[pV b4 0] #[])) rfl (Sq.done (Ex'.next (Cd.exit (Ex'.blockHit (Ex'.next (Cd.s1 (Sq.vl [0, 1, 2] [pV b3 0, pV b3 0, .nilIface] ?_))))))))))))
 refine Sq.d4 (Cd.ret (Ex'.ret Tryz.results15 (RVs.tm (v := pV b3 0) (RVs.tmp (v := .nilIface) (by kernel_rfl) RVs.nil)) (fun w hw => ?_)))
 exact ⟨_, ⟨(b3, b4, lt15, lt26, lb17, lb28), trivial, rfl, rfl⟩, hw.pk [0, 1, 2, 3, 4, 5]⟩
 
end Go.Proofs.YtholinnmjoelkaaGreatDoor
namespace Go.Proofs.YtholinnmjoelkaaGreatDoor
open Go.RowKit Go.MapKept
theorem tri_compE {P : Program} {fn : Nat} {args : Array Value} {ι κ : Type} {φ : κ → Prop} {F : κ → Value} {f f' : ι → List Res} {N : κ → Res} (h : ∀ x, Tri P fn args (f x) (PostE φ F fun v => f' x ++ [N v])) :
    Tri P fn args [compR f] (PostE φ F fun v => [compR f', N v]) := by
  intro w own hH hO
  obtain ⟨x, own1, h1, h2⟩ := hH 0 (compR f) rfl
  refine (h x w (fun k => if k < w.heap.size ∧ own1 k ≤ (f x).length then own1 k else 0) (fun i R hi => Res.mov _ (h2 i R hi) (Nat.le_refl _) fun k hk q => ⟨?_, rfl⟩) (fun k _ => ?_)).mono ?_
  · have := (List.getElem?_eq_some_iff.1 hi).1
    show (if k < w.heap.size ∧ own1 k ≤ (f x).length then own1 k else 0) = i + 1
    rw [if_pos ⟨hk, by omega⟩]; exact q
  · split <;> omega
  · rintro e w' ⟨v, rfl, l', own', ⟨y, hφ, rfl, rfl⟩, h3, h4, h5⟩
    have hsel : ∀ k, k < w.heap.size → (if k < w.heap.size ∧ own1 k ≤ (f x).length then own1 k else 0) ≠ 0 → own k = 1 := fun k hk q => by
      split at q
      · exact h1 k hk q
      · exact absurd rfl q
    refine ⟨_, rfl, [compR f', N y], fun k => if own' k = (f' x).length + 1 then 2 else if own' k ≠ 0 ∧ own' k ≤ (f' x).length then 1 else if k < w.heap.size ∧ own k ≠ 1 then own k else 0, ⟨y, hφ, rfl, rfl⟩, fun i R hi => ?_, h4.mono fun k hk q => (by rw [hsel k hk q]; simp), fun k hk q => ?_⟩
    · match i, hi with
      | 0, hi =>
        cases hi
        refine ⟨x, fun k => if own' k ≤ (f' x).length then own' k else 0, fun k _ q => ?_, fun i R hi => ?_⟩
        · replace q : (if own' k ≤ (f' x).length then own' k else 0) ≠ 0 := q
          by_cases e : own' k ≤ (f' x).length
          · rw [if_pos e] at q
            show (if own' k = (f' x).length + 1 then 2 else if own' k ≠ 0 ∧ own' k ≤ (f' x).length then 1 else if k < w.heap.size ∧ own k ≠ 1 then own k else 0) = 0 + 1
            rw [if_neg (by omega), if_pos ⟨q, e⟩]
          · rw [if_neg e] at q; exact absurd rfl q
        · have hl := (List.getElem?_eq_some_iff.1 hi).1
          refine Res.mov _ (h3 i R (by rw [List.getElem?_append_left hl]; exact hi)) (Nat.le_refl _) fun k _ q => ⟨?_, rfl⟩
          show (if own' k ≤ (f' x).length then own' k else 0) = i + 1
          rw [if_pos (by omega)]; exact q
      | 1, hi =>
        cases hi
        refine Res.mov _ (h3 (f' x).length (N y) (by simp)) (Nat.le_refl _) fun k _ q => ⟨?_, rfl⟩
        show (if own' k = (f' x).length + 1 then 2 else if own' k ≠ 0 ∧ own' k ≤ (f' x).length then 1 else if k < w.heap.size ∧ own k ≠ 1 then own k else 0) = 1 + 1
        rw [if_pos q]
    · by_cases e : own' k ≠ 0
      · rw [hsel k hk (h5 k hk e)]; simp
      · have e0 : own' k = 0 := Classical.not_not.1 e
        replace q : (if own' k = (f' x).length + 1 then 2 else if own' k ≠ 0 ∧ own' k ≤ (f' x).length then 1 else if k < w.heap.size ∧ own k ≠ 1 then own k else 0) ≠ 0 := q
        rw [if_neg (by omega), if_neg (fun w => e w.1)] at q
        split at q
        · exact q
        · exact absurd rfl q
theorem tri_compN {P : Program} {fn : Nat} {args : Array Value} {ι : Type} {F : Nat → Value} {g : Nat → ι → List Res} (h : Tri P fn args [] (PostE (ι := Nat × ι) (fun _ => True) (fun x => F x.1) fun x => g x.1 x.2)) :
    Tri P fn args [] (PostE (fun _ => True) F fun b => [compR (g b)]) := by
  intro w own hH hO
  refine (h w own hH hO).mono ?_
  rintro e w' ⟨v, rfl, l', own', ⟨x, _, rfl, rfl⟩, h3, h4, h5⟩
  refine ⟨_, rfl, [compR (g x.1)], fun k => if own' k ≠ 0 then 1 else 0, ⟨x.1, trivial, rfl, rfl⟩, fun i R hi => ?_, h4, fun k hk q => ?_⟩
  · match i, hi with
    | 0, hi =>
      cases hi
      refine ⟨x.2, own', fun k _ q => ?_, h3⟩
      show (if own' k ≠ 0 then 1 else 0) = 0 + 1
      rw [if_pos q]
  · by_cases e : own' k ≠ 0
    · exact h5 k hk e
    · replace q : (if own' k ≠ 0 then 1 else 0) ≠ 0 := q
      rw [if_neg e] at q; exact absurd rfl q
end Go.Proofs.YtholinnmjoelkaaGreatDoor
namespace Go.Proofs.YtholinnmjoelkaaGreatDoor
open Go.RowKit Go.MapKept
def polR (p : Nat) (st : PSt) (n : Nat) : Res := match st with
  | .lru m ks => compR fun x : Nat × Nat => [polBLru p x.1 m] ++ lruL x.1 x.2 m ks n
  | .lfu m now ch S => compR fun x : Nat × Nat => [polBLfu p x.1 (if ch = true then 2 else 1) m] ++ lfuL x.1 x.2 m now ch S n
  | .srl m t ns cs gs ms => compR fun x : Nat × Nat × Nat × Nat × Nat => [polBSrl p x.1 m] ++ srlL x.1 x.2.1 x.2.2.1 x.2.2.2.1 x.2.2.2.2 m t ns cs gs ms n
  | .arc m q t1 t2 b1 b2 => compR fun x : Nat × Nat × Nat × Nat × Nat => [polBArc p x.1 m] ++ arcL x.1 x.2.1 x.2.2.1 x.2.2.2.1 x.2.2.2.2 m q t1 t2 b1 b2 n
def PSt.Bd : PSt → Nat → Prop
  | .lru _ ks, j => ks.length ≤ j
  | .lfu _ now _ S, j => (0 ≤ now ∧ now ≤ 1000000000) ∧ TmB 1000000000 S ∧ S.length ≤ j
  | .srl m t ns cs _ _, j => 0 ≤ m ∧ (0 ≤ t ∧ t ≤ 4611686018427387904) ∧ cs.length + ns.length ≤ j
  | .arc m q t1 t2 _ _, j => (0 ≤ m ∧ m ≤ 4611686018427387904) ∧ (0 ≤ q ∧ q ≤ m) ∧ t1.length + t2.length ≤ j
theorem PSt.Inv.bd {st : PSt} {i : Int} {j : Nat} (h : st.Inv i) (hi : i ≤ 1000000000) (hm : st.most ≤ 4611686018427387904) (hj : st.keys.length ≤ j) : st.Bd j := by
  cases st with
  | lru m ks => show ks.length ≤ j; rw [show PSt.keys (.lru m ks) = ks.reverse from rfl, List.length_reverse] at hj; exact hj
  | lfu m now ch S =>
    obtain ⟨h1, h2⟩ := h
    rw [show PSt.keys (.lfu m now ch S) = ksf S from rfl, show (ksf S).length = S.length from List.length_map _] at hj
    exact ⟨⟨h1.n0, by omega⟩, h1.tmb (by omega), hj⟩
  | srl m t ns cs gs ms =>
    have h1 := SrlJ.h0 h; have h2 := SrlJ.t0 h; have h3 := SrlJ.tm h
    have hm : m ≤ 4611686018427387904 := hm
    rw [show PSt.keys (.srl m t ns cs gs ms) = (cs ++ ns).reverse from rfl, List.length_reverse, List.length_append] at hj
    exact ⟨h1, ⟨h2, by omega⟩, hj⟩
  | arc m q t1 t2 b1 b2 =>
    have h1 := ArcI.h0 h; have h2 := ArcI.p0 h; have h3 := ArcI.pm h
    rw [show PSt.keys (.arc m q t1 t2 b1 b2) = t1.reverse ++ t2.reverse from rfl, List.length_append, List.length_reverse, List.length_reverse] at hj
    exact ⟨⟨h1, hm⟩, ⟨h2, h3⟩, hj⟩
section
variable {p n n' j : Nat} {st : PSt} {i : Int}
theorem pol_Kind (hb : n + j + 10 ≤ 1000000000) (hB : st.Bd j) : Tri Tryz.prog 40 #[pV p 0] [polR p st n] (Same [polR p st n] (iV st.kind)) := by
  cases st with
  | lru => exact tri_comp (fun x => pol_Kind_lru hb hB) (fun x => rfl)
  | lfu => exact tri_comp (fun x => pol_Kind_lfu hb hB.1 hB.2.1 hB.2.2) (fun x => rfl)
  | srl => exact tri_comp (fun x => pol_Kind_srl hb hB.1 hB.2.1 hB.2.2) (fun x => rfl)
  | arc => exact tri_comp (fun x => pol_Kind_arc hb hB.1 hB.2.1 hB.2.2) (fun x => rfl)
theorem pol_Most (hb : n + j + 10 ≤ 1000000000) (hB : st.Bd j) : Tri Tryz.prog 29 #[pV p 0] [polR p st n] (Same [polR p st n] (iV st.most)) := by
  cases st with
  | lru => exact tri_comp (fun x => pol_Most_lru hb hB) (fun x => rfl)
  | lfu => exact tri_comp (fun x => pol_Most_lfu hb hB.1 hB.2.1 hB.2.2) (fun x => rfl)
  | srl => exact tri_comp (fun x => pol_Most_srl hb hB.1 hB.2.1 hB.2.2) (fun x => rfl)
  | arc => exact tri_comp (fun x => pol_Most_arc hb hB.1 hB.2.1 hB.2.2) (fun x => rfl)
theorem pol_Has (key : ByteArray) (hI : st.Inv i) (hb : n + j + 10 ≤ 1000000000) (hB : st.Bd j) : Tri Tryz.prog 19 #[pV p 0, sV key] [polR p st n] (Same [polR p st n] (bV (decide (key ∈ st.keys)))) := by
  cases st with
  | lru m ks => exact tri_comp (fun x => (pol_Has_lru key hb hB).re (congrArg Value.bool (show decide (key ∈ ks) = decide (key ∈ ks.reverse) by rw [decide_eq_decide]; exact List.mem_reverse.symm))) (fun x => rfl)
  | lfu m now ch S => exact tri_comp (fun x => (pol_Has_lfu key hb hB.1 hB.2.1 hB.2.2).re (congrArg Value.bool (LfuI.hasD (And.left hI) key))) (fun x => rfl)
  | srl m t ns cs gs ms => exact tri_comp (fun x => (pol_Has_srl key hb hB.1 hB.2.1 hB.2.2).re (congrArg Value.bool (srlHas_eq.trans (show decide (key ∈ cs ++ ns) = decide (key ∈ (cs ++ ns).reverse) by rw [decide_eq_decide]; exact List.mem_reverse.symm)))) (fun x => rfl)
  | arc m q t1 t2 b1 b2 => exact tri_comp (fun x => (pol_Has_arc key hb hB.1 hB.2.1 hB.2.2).re (congrArg Value.bool (arcHas_eq.trans (show decide (key ∈ t1 ∨ key ∈ t2) = decide (key ∈ t1.reverse ++ t2.reverse) by rw [decide_eq_decide]; simp)))) (fun x => rfl)
theorem pol_Len (hb : n + j + 10 ≤ 1000000000) (hB : st.Bd j) : Tri Tryz.prog 20 #[pV p 0] [polR p st n] (Same [polR p st n] (iV st.keys.length)) := by
  cases st with
  | lru m ks => exact tri_comp (fun x => (pol_Len_lru hb hB).re (congrArg iV (show (ks.length : Int) = (ks.reverse.length : Int) by rw [List.length_reverse]))) (fun x => rfl)
  | lfu m now ch S => exact tri_comp (fun x => (pol_Len_lfu hb hB.1 hB.2.1 hB.2.2).re (congrArg iV (show (S.length : Int) = ((ksf S).length : Int) by rw [show (ksf S).length = S.length from List.length_map _]))) (fun x => rfl)
  | srl m t ns cs gs ms => exact tri_comp (fun x => (pol_Len_srl hb hB.1 hB.2.1 hB.2.2).re (congrArg iV (srlLen_sum.trans (show (cs.length : Int) + ns.length = ((cs ++ ns).reverse.length : Int) by simp; omega)))) (fun x => rfl)
  | arc m q t1 t2 b1 b2 => exact tri_comp (fun x => (pol_Len_arc hb hB.1 hB.2.1 hB.2.2).re (congrArg iV (show (t1.length : Int) + t2.length = ((t1.reverse ++ t2.reverse).length : Int) by simp))) (fun x => rfl)
theorem pol_Victim (hb : n + j + 10 ≤ 1000000000) (hB : st.Bd j) : Tri Tryz.prog 23 #[pV p 0] [polR p st n] (Same [polR p st n] (.tuple #[sV st.victim.1, bV st.victim.2])) := by
  cases st with
  | lru => exact tri_comp (fun x => pol_Victim_lru hb hB) (fun x => rfl)
  | lfu => exact tri_comp (fun x => pol_Victim_lfu hb hB.1 hB.2.1 hB.2.2) (fun x => rfl)
  | srl => exact tri_comp (fun x => pol_Victim_srl hb hB.1 hB.2.1 hB.2.2) (fun x => rfl)
  | arc => exact tri_comp (fun x => pol_Victim_arc hb hB.1 hB.2.1 hB.2.2) (fun x => rfl)
theorem pol_Drop (hb : n + j + 10 ≤ 1000000000) (hB : st.Bd j) : Tri Tryz.prog 24 #[pV p 0] [polR p st n] (Same [polR p st.drop.1 n] (.tuple #[sV st.drop.2.1, bV st.drop.2.2])) := by
  cases st with
  | lru => exact tri_comp (fun x => pol_Drop_lru hb hB) (fun x => rfl)
  | lfu => exact tri_comp (fun x => pol_Drop_lfu hb hB.1 hB.2.1 hB.2.2) (fun x => rfl)
  | srl => exact tri_comp (fun x => pol_Drop_srl hb hB.1 hB.2.1 hB.2.2) (fun x => rfl)
  | arc => exact tri_comp (fun x => pol_Drop_arc hb hB.1 hB.2.1 hB.2.2) (fun x => rfl)
theorem pol_Remove (key : ByteArray) (hb : n + j + 10 ≤ 1000000000) (hB : st.Bd j) : Tri Tryz.prog 21 #[pV p 0, sV key] [polR p st n] (Same [polR p (st.remove key).1 n] (bV (st.remove key).2)) := by
  cases st with
  | lru => exact tri_comp (fun x => pol_Remove_lru key hb hB) (fun x => rfl)
  | lfu => exact tri_comp (fun x => pol_Remove_lfu key hb hB.1 hB.2.1 hB.2.2) (fun x => rfl)
  | srl => exact tri_comp (fun x => pol_Remove_srl key hb hB.1 hB.2.1 hB.2.2) (fun x => rfl)
  | arc => exact tri_comp (fun x => pol_Remove_arc key hb hB.1 hB.2.1 hB.2.2) (fun x => rfl)
theorem pol_Request (key : ByteArray) (hb : n + j + 10 ≤ 1000000000) (hn : n + j + 5 ≤ n') (hB : st.Bd j) : Tri Tryz.prog 17 #[pV p 0, sV key] [polR p st n]
    (Same [polR p (st.req key).1 n'] (.agg #[bV (st.req key).2.1, sV (st.req key).2.2.1, bV (st.req key).2.2.2])) := by
  cases st with
  | lru => exact tri_comp (fun x => pol_Request_lru key hb hn hB) (fun x => rfl)
  | lfu => exact tri_comp (fun x => pol_Request_lfu key hb hn hB.1 hB.2.1 hB.2.2) (fun x => rfl)
  | srl => exact tri_comp (fun x => pol_Request_srl key hb hn hB.1 hB.2.1 hB.2.2) (fun x => rfl)
  | arc => exact tri_comp (fun x => pol_Request_arc key hb hn hB.1 hB.2.1 hB.2.2) (fun x => rfl)
theorem pol_Adopt (key : ByteArray) (hb : n + j + 10 ≤ 1000000000) (hn : n + j + 5 ≤ n') (hB : st.Bd j) : Tri Tryz.prog 26 #[pV p 0, sV key] [polR p st n]
    (Same [polR p (st.adopt key).1 n'] (bV (st.adopt key).2)) := by
  cases st with
  | lru => exact tri_comp (fun x => pol_Adopt_lru key hb hn hB) (fun x => rfl)
  | lfu => exact tri_comp (fun x => pol_Adopt_lfu key hb hn hB.1 hB.2.1 hB.2.2) (fun x => rfl)
  | srl => exact tri_comp (fun x => pol_Adopt_srl key hb hn hB.1 hB.2.1 hB.2.2) (fun x => rfl)
  | arc => exact tri_comp (fun x => pol_Adopt_arc key hb hn hB.1 hB.2.1 hB.2.2) (fun x => rfl)
theorem pol_Keys (hb : n + j + 10 ≤ 1000000000) (hB : st.Bd j) : Tri Tryz.prog 16 #[pV p 0] [polR p st n] (PostE (fun _ => True) id fun v => [polR p st n] ++ [rowR 9 1 v st.keys.length (st.keys.map Value.string)]) := by
  cases st with
  | lru m ks => exact tri_compE (fun x => pol_Keys_lru hb hB)
  | lfu m now ch S => exact tri_compE (fun x => pol_Keys_lfu hb hB.1 hB.2.1 hB.2.2)
  | srl m t ns cs gs ms => exact tri_compE (fun x => by have h := pol_Keys_srl (q := p) (b := x.1) (nb := x.2.1) (ab := x.2.2.1) (gb := x.2.2.2.1) (mb := x.2.2.2.2) (gs := gs) (ms := ms) hb hB.1 hB.2.1 hB.2.2; rw [srlKeys_eq] at h; exact h)
  | arc m q t1 t2 b1 b2 => exact tri_compE (fun x => pol_Keys_arc hb hB.1 hB.2.1 hB.2.2)
theorem pol_Resize {mo : Int} (hb : n + j + 10 ≤ 1000000000) (hn : n + j + 5 ≤ n') (hmo : 0 ≤ mo ∧ mo ≤ 16777216) (hB : st.Bd j) : Tri Tryz.prog 28 #[pV p 0, iV mo] [polR p st n]
    (PostE (fun _ => True) (fun v => .tuple #[v, .nilIface]) fun v => [polR p (st.resize mo).1 n'] ++ [rowR 9 1 v (st.resize mo).2.length ((st.resize mo).2.map Value.string)]) := by
  cases st with
  | lru => exact tri_compE (fun x => pol_Resize_lru mo hb hn hB hmo)
  | lfu => exact tri_compE (fun x => pol_Resize_lfu mo hb hn hB.1 hB.2.1 hB.2.2 hmo)
  | srl => exact tri_compE (fun x => pol_Resize_srl mo hb hn hB.1 hB.2.1 hB.2.2 hmo)
  | arc => exact tri_compE (fun x => pol_Resize_arc mo hb hn hB.1 hB.2.1 hB.2.2 hmo)
theorem tri_nilE {P : Program} {fn : Nat} {args : Array Value} {l l' : List Res} {e size : Nat} (h : Tri P fn args l (Same l' (.slice none 0 0))) : Tri P fn args l (PostE (fun _ => True) id fun v => l' ++ [rowR e size v 0 []]) := by
  intro w own hH hO
  refine (h w own hH hO).mono ?_
  rintro ev w' ⟨v, rfl, l1, own', ⟨rfl, rfl⟩, h3, h4, h5⟩
  refine ⟨_, rfl, _, own', ⟨_, trivial, rfl, rfl⟩, fun i R hi => ?_, h4, h5⟩
  by_cases q : i < l1.length
  · rw [List.getElem?_append_left q] at hi; exact h3 i R hi
  · rw [List.getElem?_append_right (by omega)] at hi
    have e0 : i - l1.length = 0 := by
      have := (List.getElem?_eq_some_iff.1 hi).1
      simp only [List.length_singleton] at this; omega
    rw [e0] at hi
    cases hi
    exact Row.nil w' _ e size
theorem pol_Ghosts (hb : n + j + 10 ≤ 1000000000) (hB : st.Bd j) : Tri Tryz.prog 22 #[pV p 0] [polR p st n] (PostE (fun _ => True) id fun v => [polR p st n] ++ [rowR 9 1 v st.ghosts.length (st.ghosts.map Value.string)]) := by
  cases st with
  | lru m ks => exact tri_compE (fun x => tri_nilE (pol_Ghosts_lru hb hB))
  | lfu m now ch S => exact tri_compE (fun x => tri_nilE (pol_Ghosts_lfu hb hB.1 hB.2.1 hB.2.2))
  | srl m t ns cs gs ms => exact tri_compE (fun x => pol_Ghosts_srl hb hB.1 hB.2.1 hB.2.2)
  | arc m q t1 t2 b1 b2 => exact tri_compE (fun x => pol_Ghosts_arc hb hB.1 hB.2.1 hB.2.2)
theorem pol_New {kind most : Int} (hk : 0 ≤ kind ∧ kind ≤ 4) (hm : 0 ≤ most ∧ most ≤ 16777216) : Tri Tryz.prog 15 #[iV kind, iV most] [] (PostE (fun _ => True) (fun b => .tuple #[pV b 0, .nilIface]) fun b => [polR b (PSt.new kind most) 0]) := by
  rcases (by omega : kind = 0 ∨ kind = 1 ∨ kind = 2 ∨ kind = 3 ∨ kind = 4) with rfl | rfl | rfl | rfl | rfl
  · rw [show PSt.new 0 most = .lru most [] by unfold PSt.new; rw [if_pos rfl, lqNew_nn hm.1]]
    exact tri_compN (F := fun b => .tuple #[pV b 0, .nilIface]) (g := fun b (x : Nat × Nat) => [polBLru b x.1 most] ++ lruL x.1 x.2 most [] 0) (pol_New_0 hm)
  · rw [show PSt.new 1 most = .lfu most 0 false [] by unfold PSt.new; rw [if_neg (by decide), if_pos (by decide), lfuNew_nn hm.1]; rfl]
    exact tri_compN (F := fun b => .tuple #[pV b 0, .nilIface]) (g := fun b (x : Nat × Nat) => [polBLfu b x.1 1 most] ++ lfuL x.1 x.2 most 0 false [] 0) (pol_New_1 hm)
  · rw [show PSt.new 2 most = .lfu most 0 true [] by unfold PSt.new; rw [if_neg (by decide), if_pos (by decide), lfuNew_nn hm.1]; rfl]
    exact tri_compN (F := fun b => .tuple #[pV b 0, .nilIface]) (g := fun b (x : Nat × Nat) => [polBLfu b x.1 2 most] ++ lfuL x.1 x.2 most 0 true [] 0) (pol_New_2 hm)
  · rw [show PSt.new 3 most = .srl most (most / 2) [] [] [] [] by unfold PSt.new; rw [if_neg (by decide), if_neg (by decide), if_pos rfl, srlNew_nn hm.1]]
    exact tri_compN (F := fun b => .tuple #[pV b 0, .nilIface]) (g := fun b (x : Nat × Nat × Nat × Nat × Nat) => [polBSrl b x.1 most] ++ srlL x.1 x.2.1 x.2.2.1 x.2.2.2.1 x.2.2.2.2 most (most / 2) [] [] [] [] 0) (pol_New_3 hm)
  · rw [show PSt.new 4 most = .arc most 0 [] [] [] [] by unfold PSt.new; rw [if_neg (by decide), if_neg (by decide), if_neg (by decide), arcNew_nn hm.1]]
    exact tri_compN (F := fun b => .tuple #[pV b 0, .nilIface]) (g := fun b (x : Nat × Nat × Nat × Nat × Nat) => [polBArc b x.1 most] ++ arcL x.1 x.2.1 x.2.2.1 x.2.2.2.1 x.2.2.2.2 most 0 [] [] [] [] 0) (pol_New_4 hm)
end
end Go.Proofs.YtholinnmjoelkaaGreatDoor
