/- ListC -/
import Derived.Test.YtholinnmjoelkaaGreatDoorM10
set_option linter.unusedVariables false
set_option linter.unusedSimpArgs false
namespace Go.Proofs.YtholinnmjoelkaaGreatDoor
open Go.RowKit Go.MapKept
section
variable {w : World} {b : Nat} {S : Nat → Prop} {keys : List ByteArray} {pl : Nat}
set_option maxHeartbeats 400000 in
theorem list_Keys (h : ListAt w b S keys pl) (hb : pl ≤ 1000000000) :
    Calls Tryz.prog 134 #[.pointer (some ⟨b, 0, none⟩)] w fun e w' => ∃ v', e = .returned v' ∧ Mod Nil w w' ∧ Row w' (fun k => w.heap.size ≤ k) 9 1 v' keys.length (keys.map Value.string) := by
  have hle := h.le
  obtain ⟨ab, ac, mb, ev, cur, K, N, L, E, m, idx, h⟩ := h
  obtain ⟨c0, c1, c2, _, _⟩ := h.cells
  have hac := h.nac
  have hm := h.acm
  unfold maxLen at hm
  have p0 := h.arena.at _ _ (h.pl 0 (by omega)).2.1
  have hfst := chain_first _ _ h.ring.chain
  have hkl : keys.length = idx.length := by rw [← h.ring.keys_eq, List.length_map]
  have H := hid h
  have HF := hid hfst
  clear h hfst
  have HL := hid hkl
  rw [hkl] at hle
  clear hkl
  go_enter Tryz.func134, Tryz.ntmps134
  go_wp2
  go_loopg [3, 4] idx.length (fun g o i wr => ∃ l1 l2, idx = l1 ++ l2 ∧ g = l2.length ∧ i = .int .i64 ((l2.head?.getD 0 : Nat) : Int) ∧ Mod Nil w wr ∧ Row wr (fun k => w.heap.size ≤ k) 9 1 o l1.length ((l1.map K).map Value.string))
  case atStart => exact ⟨[], idx, rfl, rfl, by rw [HF.out], Mod.refl _ _, Row.nil _ _ _ _⟩
  case round =>
    obtain ⟨l1, l2, hidx, rfl, rfl, hmod, hr⟩ := hrel
    cases l2 with
    | nil =>
      have HI := hid hidx
      have HR := hid hr
      have HM := hid hmod
      clear hidx hr hmod
      simp only [List.head?_nil, Option.getD_none]
      go_wp2
      go_ret
      refine ⟨_, rfl, HM.out, ?_⟩
      have e : idx = l1 := by rw [HI.out, List.append_nil]
      have := HR.out
      rw [← e, H.out.ring.keys_eq] at this
      rw [HL.out]
      exact this
    | cons i l2 =>
      have hi : i ∈ idx := by rw [hidx]; simp
      obtain ⟨hNi, hLi, hNi2, hLi2, hi0, hin⟩ := H.out.ring.beside hi
      have hl1 : l1.length + 1 ≤ idx.length := by rw [hidx]; simp
      have hc := H.out.ring.chain
      rw [hidx] at hc
      have hnx := chain_first _ _ ((chain_split l1 0).1 hc).2
      have pi := H.out.pl i hin
      have p1 := hmod.cell (H.out.arena.at _ _ pi.1) (fun q => q)
      have p2 := hmod.cell (H.out.arena.at _ _ pi.2.1) (fun q => q)
      have c0' := hmod.cell c0 (fun q => q)
      have hf : ((i : Int) != 0) = true := net (by omega)
      have HI := hid hidx
      have HN := hid hnx
      have hS := H.out.own
      have HA := hid H.out.arena.lt
      have HB := hid H.out.str.lt
      clear hidx hnx hc pi hi c0 c1 c2 p0
      simp only [List.head?_cons, Option.getD_some]
      go_wp2_with (at_builtin; refine wpRowPush rfl _ _ rfl sl_str (by omega) hr rfl rfl (by simp) [.string (K i)] 9 rfl ?_ ?_ ?_ ?_)
      · simp [Value.oneCell']
      · unfold maxLen; omega
      · omega
      · intro v' w2 hr' hm' hs'
        have hm2 : Mod Nil w w2 := hmod.trans' hm' fun j hj q => (Nat.not_lt.2 q hj).elim
        have c0'' := hm'.cell c0' (fun q => Nat.not_lt.2 q HB.out)
        have p2'' := hm'.cell p2 (fun q => Nat.not_lt.2 q HA.out)
        have hr2 := hr'.mono (S' := fun k => w.heap.size ≤ k) fun j _ q => q.elim id fun q => Nat.le_trans hmod.size q
        have HM2 := hid hm2
        have HR2 := hid hr2
        clear hr' hm' hs' hr hmod p1 p2 c0' hm2 hr2
        go_wp2
        go_roundg l2.length
        case measure => simp
        case rel => exact ⟨l1 ++ [i], l2, by rw [HI.out]; simp, rfl, by rw [HN.out], HM2.out, by
          have := HR2.out
          simpa using this⟩
theorem Places.fill {n kx nx i : Nat} {cur : List Value} {K : Nat → ByteArray} {N L : Nat → Nat} {k : ByteArray} (h : ∀ j, j < n → j ≠ kx → cur[j * 3]? = some (.string (K j)) ∧ cur[j * 3 + 1]? = some (.int .i64 (N j)) ∧ cur[j * 3 + 2]? = some (.int .i64 (L j))) (hl : kx * 3 + 2 < cur.length) :
    Places n (((cur.set (kx * 3) (.string k)).set (kx * 3 + 1) (.int .i64 nx)).set (kx * 3 + 2) (.int .i64 i)) (upd K kx k) (upd N kx nx) (upd L kx i) := by
  intro j hj
  by_cases e : j = kx
  · subst e
    rw [upd_same, upd_same, upd_same]
    refine ⟨?_, ?_, ?_⟩
    · rw [List.getElem?_set_ne (by omega), List.getElem?_set_ne (by omega), List.getElem?_set_self (by omega)]
    · rw [List.getElem?_set_ne (by omega), List.getElem?_set_self (by simp; omega)]
    · rw [List.getElem?_set_self (by simp; omega)]
  · obtain ⟨h1, h2, h3⟩ := h j hj e
    rw [upd_other _ _ e, upd_other _ _ e, upd_other _ _ e]
    refine ⟨?_, ?_, ?_⟩ <;> (rw [List.getElem?_set_ne (by omega), List.getElem?_set_ne (by omega), List.getElem?_set_ne (by omega)]; assumption)
theorem chain_next {N L : Nat → Nat} {b : Nat} {l2 : List Nat} : ∀ (l1 : List Nat) (a : Nat), Chain N L a (l1 ++ l2) b → N (l1.getLast?.getD a) = l2.head?.getD b
  | [], a, h => chain_first l2 a h
  | x :: l1, a, h => by rw [last_cons]; exact chain_next l1 x h.2.2
theorem ListMem.grow {ab ac n mb : Nat} {ev : Value} {cur : List Value} {E : List Nat} {m : List (ByteArray × Nat)} (h : ListMem w b S ab ac n mb ev cur E m) {w2 : World} {v' : Value} {news : List Value} {S1 : Nat → Prop}
    (hm : Mod (fun k => (Value.slice (some ⟨ab, 0, none⟩) n ac).ownBlock = some k) w w2) (hr : Row w2 (fun k => (Value.slice (some ⟨ab, 0, none⟩) n ac).ownBlock = some k ∨ w.heap.size ≤ k) 232 3 v' (n + 1) (cur.take (n * 3) ++ news))
    (hS : ∀ k, S k → S1 k) (hS1 : ∀ k, w.heap.size ≤ k → S1 k) :
    ∃ g cp cur2, v' = .slice (some ⟨g, 0, none⟩) (n + 1) cp ∧ w2.cell? ⟨b, 0, none⟩ = some (.slice (some ⟨ab, 0, none⟩) n ac) ∧ w2.frozen? ⟨b, 0, none⟩ = false ∧ ListMem (w2.setCell ⟨b, 0, none⟩ v') b S1 g cp (n + 1) mb ev cur2 E m ∧ Mod S w (w2.setCell ⟨b, 0, none⟩ v') ∧ cur2.take ((n + 1) * 3) = cur.take (n * 3) ++ news := by
  have hown : ∀ k, (Value.slice (some ⟨ab, 0, none⟩) n ac).ownBlock = some k → k = ab := fun k q => by simp [Value.ownBlock] at q; exact q.symm
  rcases hr.shape with ⟨_, h0, _⟩ | ⟨g, cp, cur2, rfl, hg, hB, hn2, hc2, hl2, ht2⟩
  · omega
  · have s1 := hm.blk h.str fun q => h.ne (hown b q).symm
    have m1 := h.mp.same (hm.block mb h.mp.lt fun q => h.mp.ne h.arena (hown mb q))
    have e1 : Row w2 S 3 1 ev E.length (E.map fun i : Nat => .int .i64 (i : Int)) :=
      (h.emp.self.mod hm fun k _ q q' => h.emp.ne h.arena (by decide) k q (hown k q').symm).mono fun k _ q => h.emp.2 k q
    have hgb : b ≠ g := s1.ne hB (by decide)
    refine ⟨g, cp, cur2, rfl, s1.at 0 _ rfl, s1.free 0, ⟨s1.set 0 _, hB.setne (Ne.symm hgb) _, hl2, hn2, hc2, (e1.mono fun k _ q => hS k q).setne (e1.ne s1 (by decide)) _, m1.setne (m1.ne s1) _, ⟨hS _ h.own.1, hg.elim (fun q => hown g q ▸ hS _ h.own.2.1) (hS1 g), hS _ h.own.2.2⟩⟩, ?_, ht2⟩
    exact ((Mod.refl S w).trans' hm fun k _ q => hown k q ▸ h.own.2.1).setCell (fun _ => h.own.1) _
def Ready (w wx : World) (b : Nat) (S : Nat → Prop) (mb n : Nat) (K : Nat → ByteArray) (N L : Nat → Nat) (E : List Nat) (m : List (ByteArray × Nat)) (kx : Nat) : Prop :=
  ∃ ab ac n' ev cur E', ListMem wx b (fun k => S k ∨ w.heap.size ≤ k) ab ac n' mb ev cur E' m ∧ Mod S w wx ∧ ((E = E' ++ [kx] ∧ n' = n) ∨ (E = [] ∧ E' = [] ∧ kx = n ∧ n' = n + 1)) ∧
    ∀ j, j < n' → j ≠ kx → cur[j * 3]? = some (.string (K j)) ∧ cur[j * 3 + 1]? = some (.int .i64 (N j)) ∧ cur[j * 3 + 2]? = some (.int .i64 (L j))
set_option maxHeartbeats 1600000 in
set_option maxRecDepth 100000 in
theorem list_behind {ab ac mb : Nat} {ev : Value} {cur : List Value} {K : Nat → ByteArray} {N L : Nat → Nat} {E : List Nat} {m : List (ByteArray × Nat)} {l1 l2 : List Nat}
    (h : ListIn w b S ab ac (pl + 1) mb ev cur K N L E m keys (l1 ++ l2)) (hb : pl ≤ 1000000000) {key : ByteArray} (hk : lk m key = none) {i : Nat} (hi : i = l1.getLast?.getD 0) :
    Calls Tryz.prog 178 #[.pointer (some ⟨b, 0, none⟩), .string key, .int .i64 (i : Int)] w fun e w' => e = .returned (.tuple #[]) ∧ Left w w' b S (l1.map K ++ key :: l2.map K) (max pl (keys.length + 1)) := by
  obtain ⟨c0, c1, c2, d0, d1⟩ := h.cells
  have hlt := h.str.lt
  have hac := h.nac
  have hm := h.acm
  unfold maxLen at hm
  obtain ⟨ea, ec, he, _, _⟩ := h.emp.len
  subst he
  have hc := h.ring.count
  have hel : E.length ≤ pl := by omega
  have H := hid h
  have HI := hid hi
  have HK := hid hk
  have HC := hid hc
  clear h hi hk hc
  go_enter Tryz.func178, Tryz.ntmps178
  go_upto_if 20 with (fail)
  go_cut [6] (fun kv wx => ∃ kx : Nat, kv = .int .i64 (kx : Int) ∧ Ready w wx b S mb (pl + 1) K N L E m kx)
  case first =>
    rcases List.eq_nil_or_concat E with he0 | ⟨E', kx, he0⟩
    · subst he0
      have hz0 := hid (Blk.at H.out.str 0 _ rfl)
      have hrow : Row w S 232 3 (.slice (some ⟨ab, 0, none⟩) (pl + 1) ac) (pl + 1) (cur.take ((pl + 1) * 3)) := Row.mk H.out.own.2.1 H.out.arena H.out.nac H.out.acm H.out.clen rfl
      have HR := hid hrow
      clear hrow
      go_wp2_with (at_builtin; refine wpRowPush rfl _ _ rfl sl_place (by omega) HR.out.self rfl rfl (by simp) [.string ⟨#[]⟩, .int .i64 0, .int .i64 0] 232 rfl ?_ ?_ ?_ ?_)
      · simp [Value.oneCell']
      · unfold maxLen; omega
      · omega
      · intro v' w2 hr' hm' hs'
        obtain ⟨g, cp, cur2, rfl, x0, x1, hM2, hD2, ht2⟩ := H.out.toListMem.grow (S1 := fun k => S k ∨ w.heap.size ≤ k) hm' hr' (fun k q => .inl q) (fun k q => .inr q)
        have HR2 : Hid (Ready w (w2.setCell ⟨b, 0, none⟩ (.slice (some ⟨g, 0, none⟩) (pl + 1 + 1) cp)) b S mb (pl + 1) K N L [] m (pl + 1)) := hid (by
          refine ⟨g, cp, pl + 1 + 1, _, cur2, [], hM2, hD2, .inr ⟨rfl, rfl, rfl, rfl⟩, fun j hj hne => ?_⟩
          have hjl : j < pl + 1 := by omega
          obtain ⟨q1, q2, q3⟩ := H.out.pl j hjl
          have hcl := H.out.clen
          have hnac := H.out.nac
          have hg' : ∀ t, t < (pl + 1) * 3 → cur2[t]? = cur[t]? := fun t ht => by
            have e1 : cur2[t]? = (cur2.take ((pl + 1 + 1) * 3))[t]? := by rw [List.getElem?_take, if_pos (by omega)]
            rw [e1, ht2, List.getElem?_append_left (by rw [List.length_take]; omega), List.getElem?_take, if_pos ht]
          exact ⟨(hg' _ (by omega)).trans q1, (hg' _ (by omega)).trans q2, (hg' _ (by omega)).trans q3⟩)
        clear hr' hm' hs' hM2 hD2 ht2
        go_wp2_with fail
        go_meet
        exact ⟨pl + 1, rfl, HR2.out⟩
    · have hpos : 0 < E.length := by rw [he0]; simp
      obtain ⟨ge, he1⟩ : ∃ ge, ea = some ⟨ge, 0, none⟩ := by
        rcases H.out.emp.shape with ⟨_, e, _⟩ | ⟨g, cap, cur, e, _⟩
        · omega
        · injection e with e1; exact ⟨g, e1⟩
      subst he1
      have hcell := (H.out.emp.1.cellAt (E.length - 1) (by omega)).trans (show (E.map fun i : Nat => Value.int .i64 (i : Int))[E.length - 1]? = some (.int .i64 (kx : Int)) from by rw [he0]; simp)
      have hecap : E.length ≤ ec ∧ ec ≤ maxLen := by obtain ⟨_, _, e, q1, q2⟩ := H.out.emp.len; injection e with _ _ e3; subst e3; exact ⟨q1, q2⟩
      have h1 : (1 : Int) ≤ (E.length : Int) := by omega
      have h2 : (E.length : Int) - 1 < (E.length : Int) := by omega
      have h3 : (E.length : Int) - 1 ≤ (ec : Int) := by omega
      have h4 : ((E.length : Int) - 1).toNat = E.length - 1 := by omega
      have HE := hid he0
      have hgt : ge < w.heap.size := (H.out.emp.lt ge rfl)
      have hbg : b ≠ ge := H.out.emp.ne H.out.str (by decide) ge rfl
      clear he0
      go_wp2_with fail
      go_region
      have HR2 : Hid (Ready w (w.setCell ⟨b, 1, none⟩ (.slice (some ⟨ge, 0, none⟩) (E.length - 1) ec)).drew b S mb (pl + 1) K N L E m kx) := hid (by
        have hrow : Row w S 3 1 (.slice (some ⟨ge, 0, none⟩) E'.length ec) E'.length (E'.map fun i : Nat => .int .i64 (i : Int)) := by
          rcases H.out.emp.shape with ⟨_, e, _⟩ | ⟨g, cap, cu, e, q1, q2, q3, q4, q5, q6⟩
          · omega
          · injection e with e1 _ e3
            injection e1 with e1; injection e1 with e1
            subst e1 e3
            have hl : E.length = E'.length + 1 := by rw [HE.out]; simp
            refine Row.mk q1 q2 (by omega) q4 q5 ?_
            have : cu.take (E'.length * 1) = (cu.take (E.length * 1)).take E'.length := by rw [List.take_take]; congr 1; omega
            rw [this, q6, HE.out]
            simp
        have hl : E.length - 1 = E'.length := by rw [HE.out]; simp
        rw [hl]
        refine ⟨ab, ac, pl + 1, _, cur, E', (H.out.toListMem.empty (w1 := w) (fun k _ q => .inl q) (Mod.refl _ _) (hrow.mono fun k _ q => .inl q)).modNil ((Mod.refl _ _).drew), ((Mod.refl S w).setCell (fun _ => H.out.own.1) _).drew, .inl ⟨by rw [HE.out]; simp, rfl⟩, fun j hj _ => H.out.pl j hj⟩)
      go_wp2_with fail
      go_meet
      exact ⟨kx, rfl, HR2.out⟩
  case rest =>
    obtain ⟨kx, rfl, hR⟩ := hcut
    obtain ⟨ab', ac', n', ev', cur', E', hM, hD, hE, hP⟩ := hR
    have hkx : kx ∉ l1 ++ l2 ∧ kx ≠ 0 ∧ kx < n' ∧ pl + 1 ≤ n' := by
      have hc := HC.out
      rcases hE with ⟨e, rfl⟩ | ⟨_, _, rfl, rfl⟩
      · have := H.out.ring.freeIn kx (by rw [e]; simp)
        exact ⟨this.2.2, by omega, this.2.1, Nat.le_refl _⟩
      · exact ⟨fun q => absurd (H.out.ring.bound _ q) (Nat.lt_irrefl _), by omega, by omega, by omega⟩
    obtain ⟨hk1, hk2, hk3, hk4⟩ := hkx
    have hi1 : i < pl + 1 ∧ i ≠ kx := by
      rw [HI.out]
      rcases last_mem l1 0 with e | e
      · rw [e]; exact ⟨by omega, Ne.symm hk2⟩
      · exact ⟨H.out.ring.bound _ (by simp [e]), fun q => hk1 (by rw [← q]; simp [e])⟩
    obtain ⟨nx, hnx⟩ : ∃ nx, nx = l2.head?.getD 0 := ⟨_, rfl⟩
    have hnx1 : nx < pl + 1 ∧ nx ≠ kx := by
      rw [hnx]
      rcases head_mem l2 0 with e | e
      · rw [e]; exact ⟨by omega, Ne.symm hk2⟩
      · exact ⟨H.out.ring.bound _ (by simp [e]), fun q => hk1 (by rw [← q]; simp [e])⟩
    obtain ⟨hi2, hi3⟩ := hi1
    obtain ⟨hnx2, hnx3⟩ := hnx1
    have hni : N i = nx := by rw [HI.out, hnx]; exact chain_next l1 0 H.out.ring.chain
    have hac' := hM.nac
    have hm' := hM.acm
    unfold maxLen at hm'
    have p1 := hM.arena.at _ _ (hP i (by omega) hi3).2.1
    rw [hni] at p1
    have HN := hid hnx
    have HP := hid hP
    have HE := hid hE
    have HM := hid hM
    have HD := hid hD
    clear hnx hP hE hM hD hni c0 c1 c2 d0 d1 hac hm
    obtain ⟨c0, c1, c2, d0, d1⟩ := HM.out.cells
    obtain ⟨v0, hv0⟩ := HM.out.has (j := kx * 3) (by omega)
    obtain ⟨v1, hv1⟩ := HM.out.has (j := kx * 3 + 1) (by omega)
    obtain ⟨v2, hv2⟩ := HM.out.has (j := kx * 3 + 2) (by omega)
    have y0 := HM.out.arena.free (kx * 3)
    have y1 := HM.out.arena.free (kx * 3 + 1)
    have y2 := HM.out.arena.free (kx * 3 + 2)
    have hin' : (i : Int) < (n' : Int) := by omega
    have hkn' : (kx : Int) < (n' : Int) := by omega
    have hS1 : ab' < w.heap.size → S ab' := fun hk => HM.out.own.2.1.resolve_right (by omega)
    go_upto_region 6 with (fail)
    go_cut [] (fun wx => ListMem wx b (fun k => S k ∨ w.heap.size ≤ k) ab' ac' n' mb ev' (((cur'.set (kx * 3) (.string key)).set (kx * 3 + 1) (.int .i64 nx)).set (kx * 3 + 2) (.int .i64 i)) E' m ∧ Mod S w wx)
    case first =>
      go_wp2_with fail
      go_meet
      exact ⟨((HM.out.put (kx * 3) (.string key)).put (kx * 3 + 1) (.int .i64 nx)).put (kx * 3 + 2) (.int .i64 i),
        ((HD.out.setCell (p := ⟨ab', kx * 3, none⟩) hS1 (.string key)).setCell (p := ⟨ab', kx * 3 + 1, none⟩) hS1 (.int .i64 nx)).setCell (p := ⟨ab', kx * 3 + 2, none⟩) hS1 (.int .i64 i)⟩
    case rest =>
    clear c0 c1 c2 d0 d1 v0 hv0 v1 hv1 v2 hv2 y0 y1 y2 p1 HM HD
    obtain ⟨HM, HD⟩ := hcut
    obtain ⟨c0, c1, c2, d0, d1⟩ := HM.cells
    obtain ⟨v0, hv0⟩ := HM.has (j := i * 3 + 1) (by omega)
    obtain ⟨v1, hv1⟩ := HM.has (j := nx * 3 + 2) (by omega)
    have y0 := HM.arena.free (i * 3 + 1)
    have y1 := HM.arena.free (nx * 3 + 2)
    have hnn' : (nx : Int) < (n' : Int) := by omega
    have HM' := hid HM
    have HD' := hid HD
    clear HM HD
    go_upto_region 7 with (fail)
    go_cut [] (fun wx => ListMem wx b (fun k => S k ∨ w.heap.size ≤ k) ab' ac' n' mb ev' (((((cur'.set (kx * 3) (.string key)).set (kx * 3 + 1) (.int .i64 nx)).set (kx * 3 + 2) (.int .i64 i)).set (i * 3 + 1) (.int .i64 kx)).set (nx * 3 + 2) (.int .i64 kx)) E' m ∧ Mod S w wx)
    case first =>
      go_region
      have r : Hid (ListMem (((wc.setCell ⟨ab', i * 3 + 1, none⟩ (.int .i64 kx)).setCell ⟨ab', nx * 3 + 2, none⟩ (.int .i64 kx)).drew) b (fun k => S k ∨ w.heap.size ≤ k) ab' ac' n' mb ev' (((((cur'.set (kx * 3) (.string key)).set (kx * 3 + 1) (.int .i64 nx)).set (kx * 3 + 2) (.int .i64 i)).set (i * 3 + 1) (.int .i64 kx)).set (nx * 3 + 2) (.int .i64 kx)) E' m ∧ Mod S w (((wc.setCell ⟨ab', i * 3 + 1, none⟩ (.int .i64 kx)).setCell ⟨ab', nx * 3 + 2, none⟩ (.int .i64 kx)).drew)) :=
        hid ⟨((HM'.out.put (i * 3 + 1) (.int .i64 kx)).put (nx * 3 + 2) (.int .i64 kx)).modNil ((Mod.refl _ _).drew), ((HD'.out.setCell (p := ⟨ab', i * 3 + 1, none⟩) hS1 (.int .i64 kx)).setCell (p := ⟨ab', nx * 3 + 2, none⟩) hS1 (.int .i64 kx)).drew⟩
      go_wp2_with fail
      go_meet
      exact r.out
    case rest =>
      obtain ⟨HM, HD⟩ := hcut
      obtain ⟨c0', c1', c2', _, _⟩ := HM.cells
      have HM3 := hid HM
      have HD3 := hid HD
      clear HM HD c0 c1 c2 d0 d1 hv0 hv1 y0 y1
      go_wp2_with (at_mapUpdate; refine wpMapStore rfl _ _ _ rfl key_str Tryz.underlying225 HM3.out.mp rfl key kx rfl rfl ?_; intro w3 hm3 hg3)
      go_end0
      refine ⟨rfl, HD3.out.grown hg3 (fun k hk _ => by injection hk with hk; subst hk; exact H.out.own.2.2), fun k => S k ∨ w.heap.size ≤ k, fun k q => q, ab', ac', mb, ev', (((((cur'.set (kx * 3) (.string key)).set (kx * 3 + 1) (.int .i64 nx)).set (kx * 3 + 2) (.int .i64 i)).set (i * 3 + 1) (.int .i64 kx)).set (nx * 3 + 2) (.int .i64 kx)), upd K kx key, upd (upd N kx nx) i kx, upd (upd L kx i) nx kx, E', put m key kx, l1 ++ kx :: l2, ?_⟩
      have hmax : max pl (keys.length + 1) + 1 = n' := by
        have hc := HC.out
        rcases HE.out with ⟨e, e2⟩ | ⟨e, _, _, e2⟩
        · rw [e] at hc; simp at hc; omega
        · rw [e] at hc; simp at hc; omega
      rw [hmax]
      have hcl : kx * 3 + 2 < cur'.length := by have := HM3.out.clen; simp at this; omega
      refine ⟨HM3.out.map hm3 hg3, ((Places.fill HP.out hcl).setN i kx).setL nx kx, ?_⟩
      rw [HN.out, HI.out]
      exact Ring.lay H.out.ring HK.out HE.out
theorem Left.then {w w1 w2 : World} {keys2 : List ByteArray} {pl2 : Nat} {S' : Nat → Prop} (hm : Mod S w w1) (hs : ∀ k, S' k → S k ∨ w.heap.size ≤ k) (h2 : Left w1 w2 b S' keys2 pl2) : Left w w2 b S keys2 pl2 := by
  obtain ⟨hm2, S2, hs2, hl2⟩ := h2
  refine ⟨hm.trans' hm2 fun k hk q => (hs k q).resolve_right (by omega), S2, fun k q => ?_, hl2⟩
  rcases hs2 k q with q | q
  · exact hs k q
  · exact .inr (Nat.le_trans hm.size q)
theorem list_Front (h : ListAt w b S keys pl) (hb : pl ≤ 1000000000) (key : ByteArray) :
    Calls Tryz.prog 130 #[.pointer (some ⟨b, 0, none⟩), .string key] w fun e w' => e = .returned (.tuple #[]) ∧ Left w w' b S (fr keys key) (max pl (fr keys key).length) := by
  have H := hid h
  clear h
  go_enter Tryz.func130, Tryz.ntmps130
  go_wp2_with (go_at_call 131; refine (list_Remove H.out hb key).mono ?_; rintro e w1 ⟨rfl, hm, S', hs, ab, ac, mb, ev, cur, K, N, L, E, m, idx, hl⟩; have HL := hid hl; clear hl)
  have hno : lk m key = none := by
    cases hk : lk m key with
    | none => rfl
    | some i => exact absurd (HL.out.ring.mem_keys.2 ⟨i, hk⟩) (by simp [mem_rm])
  have hbeh := list_behind (l1 := []) (l2 := idx) HL.out hb hno (i := 0) rfl
  have e1 : ([] : List Nat).map K ++ key :: idx.map K = fr keys key := by rw [HL.out.ring.keys_eq]; rfl
  have e2 : (fr keys key).length = (rm keys key).length + 1 := by simp [fr]
  rw [e1, ← e2, show ((0 : Nat) : Int) = 0 from rfl] at hbeh
  have HB := hid hbeh
  clear hbeh hno e1 e2
  go_wp2_with (go_at_call 178; refine HB.out.mono ?_; rintro e w2 ⟨rfl, hl2⟩; have HL2 := hid hl2; clear hl2)
  go_end0
  exact ⟨rfl, Left.then hm hs HL2.out⟩
end
end Go.Proofs.YtholinnmjoelkaaGreatDoor
