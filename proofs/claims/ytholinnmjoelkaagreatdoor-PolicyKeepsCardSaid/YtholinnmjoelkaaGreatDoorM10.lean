/- ListA, ListB -/
import Derived.Test.YtholinnmjoelkaaGreatDoorM09
import Derived.Deep.DeepCutAuto
set_option linter.unusedVariables false
set_option linter.unusedSimpArgs false
namespace Go.Proofs.YtholinnmjoelkaaGreatDoor
open Go.RowKit Go.MapKept
theorem key_str : KeyT Tryz.prog 9 Value.string := strKey Tryz.underlying9
theorem zero_int (w : World) : (zeroValue 3).run Tryz.prog w = .ok (.int .i64 0) w := by kernel_rfl
theorem sl_int : ElemT Tryz.prog 226 3 1 8 := elemT (z := .int .i64 0) Tryz.underlying226 (by kernel_rfl) rfl
theorem sl_place : ElemT Tryz.prog 224 232 3 32 := elemT (z := .agg #[.string ⟨#[]⟩, .int .i64 0, .int .i64 0]) Tryz.underlying224 (by kernel_rfl) rfl
structure ListMem (w : World) (b : Nat) (S : Nat → Prop) (ab ac n mb : Nat) (ev : Value) (cur : List Value) (E : List Nat) (m : List (ByteArray × Nat)) : Prop where
  str : Blk w b [.slice (some ⟨ab, 0, none⟩) n ac, ev, .map (some mb)] 228
  arena : Blk w ab cur 232
  clen : cur.length = ac * 3
  nac : n ≤ ac
  acm : ac ≤ maxLen
  emp : Row w S 3 1 ev E.length (E.map fun i : Nat => .int .i64 (i : Int))
  mp : MapAt Value.string (fun i : Nat => .int .i64 (i : Int)) w mb m
  own : S b ∧ S ab ∧ S mb
def Places (n : Nat) (cur : List Value) (K : Nat → ByteArray) (N L : Nat → Nat) : Prop :=
  ∀ j, j < n → cur[j * 3]? = some (.string (K j)) ∧ cur[j * 3 + 1]? = some (.int .i64 (N j)) ∧ cur[j * 3 + 2]? = some (.int .i64 (L j))
structure ListIn (w : World) (b : Nat) (S : Nat → Prop) (ab ac n mb : Nat) (ev : Value) (cur : List Value) (K : Nat → ByteArray) (N L : Nat → Nat) (E : List Nat) (m : List (ByteArray × Nat)) (keys : List ByteArray) (idx : List Nat) : Prop extends ListMem w b S ab ac n mb ev cur E m where
  pl : Places n cur K N L
  ring : Ring n K N L E m keys idx
section
variable {w : World} {b : Nat} {S : Nat → Prop} {ab ac n mb : Nat} {ev : Value} {cur : List Value} {E : List Nat} {m : List (ByteArray × Nat)}
theorem ListMem.move {w' : World} {S' : Nat → Prop} (h : ListMem w b S ab ac n mb ev cur E m) (hz : w.heap.size ≤ w'.heap.size) (hs : ∀ k, k < w.heap.size → S k → S' k ∧ w'.heap[k]? = w.heap[k]?) : ListMem w' b S' ab ac n mb ev cur E m := by
  obtain ⟨o1, o2, o3⟩ := h.own
  exact ⟨h.str.same (hs b h.str.lt o1).2, h.arena.same (hs ab h.arena.lt o2).2, h.clen, h.nac, h.acm, h.emp.move hz hs, h.mp.same (hs mb h.mp.lt o3).2, ⟨(hs b h.str.lt o1).1, (hs ab h.arena.lt o2).1, (hs mb h.mp.lt o3).1⟩⟩
theorem ListMem.modNil {w' : World} (h : ListMem w b S ab ac n mb ev cur E m) (hm : Mod Nil w w') : ListMem w' b S ab ac n mb ev cur E m := h.move hm.size fun k hk q => ⟨q, hm.block k hk fun q => q⟩
theorem ListMem.ne (h : ListMem w b S ab ac n mb ev cur E m) : ab ≠ b := h.arena.ne h.str (by decide)
theorem ListMem.put (h : ListMem w b S ab ac n mb ev cur E m) (j : Nat) (u : Value) : ListMem (w.setCell ⟨ab, j, none⟩ u) b S ab ac n mb ev (cur.set j u) E m :=
  ⟨h.str.setne (Ne.symm h.ne) u, h.arena.set j u, by rw [List.length_set]; exact h.clen, h.nac, h.acm, h.emp.setne (h.emp.ne h.arena (by decide)) u, h.mp.setne (h.mp.ne h.arena) u, h.own⟩
theorem ListMem.has (h : ListMem w b S ab ac n mb ev cur E m) {j : Nat} (hj : j < ac * 3) : ∃ v, w.cell? ⟨ab, j, none⟩ = some v :=
  ⟨_, h.arena.at _ _ (List.getElem?_eq_getElem (by rw [h.clen]; exact hj))⟩
theorem ListMem.cells (h : ListMem w b S ab ac n mb ev cur E m) : w.cell? ⟨b, 0, none⟩ = some (.slice (some ⟨ab, 0, none⟩) n ac) ∧ w.cell? ⟨b, 1, none⟩ = some ev ∧ w.cell? ⟨b, 2, none⟩ = some (.map (some mb)) ∧ w.frozen? ⟨b, 0, none⟩ = false ∧ w.frozen? ⟨b, 1, none⟩ = false :=
  ⟨h.str.at 0 _ rfl, h.str.at 1 _ rfl, h.str.at 2 _ rfl, h.str.free 0, h.str.free 1⟩
theorem ListMem.empty (h : ListMem w b S ab ac n mb ev cur E m) {w1 : World} {S' : Nat → Prop} {v' : Value} {E' : List Nat} (hs : ∀ k, k < w.heap.size → S k → S' k) (hm : Mod (fun k => ev.ownBlock = some k) w w1)
    (hr : Row w1 S' 3 1 v' E'.length (E'.map fun i : Nat => .int .i64 (i : Int))) : ListMem (w1.setCell ⟨b, 1, none⟩ v') b S' ab ac n mb v' cur E' m := by
  have b1 := hm.blk h.str fun q => h.emp.ne h.str (by decide) b q rfl
  have a1 := hm.blk h.arena fun q => h.emp.ne h.arena (by decide) ab q rfl
  have m1 := h.mp.same (hm.block mb h.mp.lt fun q => h.emp.neMap h.mp mb q rfl)
  obtain ⟨o1, o2, o3⟩ := h.own
  exact ⟨b1.set 1 v', a1.setne h.ne v', h.clen, h.nac, h.acm, hr.setne (hr.ne b1 (by decide)) v', m1.setne (m1.ne b1) v', ⟨hs b h.str.lt o1, hs ab h.arena.lt o2, hs mb h.mp.lt o3⟩⟩
theorem ListMem.map (h : ListMem w b S ab ac n mb ev cur E m) {w1 : World} {m' : List (ByteArray × Nat)} (hm : MapAt Value.string (fun i : Nat => .int .i64 (i : Int)) w1 mb m') (hg : w.grownBy w1 (some mb)) : ListMem w1 b S ab ac n mb ev cur E m' := by
  have hn : ∀ k, k < w.heap.size → k ≠ mb → w1.heap[k]? = w.heap[k]? := fun k hk q => hg.block k hk fun e => q (by injection e)
  refine ⟨h.str.same (hn b h.str.lt (Ne.symm (h.mp.ne h.str))), h.arena.same (hn ab h.arena.lt (Ne.symm (h.mp.ne h.arena))), h.clen, h.nac, h.acm, ?_, hm, h.own⟩
  have hne := h.emp.neMap h.mp
  obtain ⟨q1, q2⟩ := h.emp
  refine ⟨q1.kept hg ?_, q2⟩
  cases hv : ev.ownBlock with
  | none => exact .inl rfl
  | some g => exact .inr fun e => hne g hv (by injection e with e; exact e.symm)
end
theorem Places.setK {n : Nat} {cur : List Value} {K : Nat → ByteArray} {N L : Nat → Nat} (h : Places n cur K N L) (i : Nat) (x : ByteArray) : Places n (cur.set (i * 3) (.string x)) (upd K i x) N L := by
  intro j hj
  obtain ⟨h1, h2, h3⟩ := h j hj
  have hl := (List.getElem?_eq_some_iff.1 h1).1
  refine ⟨?_, by rw [List.getElem?_set_ne (by omega)]; exact h2, by rw [List.getElem?_set_ne (by omega)]; exact h3⟩
  by_cases e : j = i
  · subst e; rw [upd_same, List.getElem?_set_self hl]
  · rw [upd_other _ _ e, List.getElem?_set_ne (by omega)]; exact h1
theorem Places.setN {n : Nat} {cur : List Value} {K : Nat → ByteArray} {N L : Nat → Nat} (h : Places n cur K N L) (i x : Nat) : Places n (cur.set (i * 3 + 1) (.int .i64 x)) K (upd N i x) L := by
  intro j hj
  obtain ⟨h1, h2, h3⟩ := h j hj
  have hl := (List.getElem?_eq_some_iff.1 h2).1
  refine ⟨by rw [List.getElem?_set_ne (by omega)]; exact h1, ?_, by rw [List.getElem?_set_ne (by omega)]; exact h3⟩
  by_cases e : j = i
  · subst e; rw [upd_same, List.getElem?_set_self hl]
  · rw [upd_other _ _ e, List.getElem?_set_ne (by omega)]; exact h2
theorem Places.setL {n : Nat} {cur : List Value} {K : Nat → ByteArray} {N L : Nat → Nat} (h : Places n cur K N L) (i x : Nat) : Places n (cur.set (i * 3 + 2) (.int .i64 x)) K N (upd L i x) := by
  intro j hj
  obtain ⟨h1, h2, h3⟩ := h j hj
  have hl := (List.getElem?_eq_some_iff.1 h3).1
  refine ⟨by rw [List.getElem?_set_ne (by omega)]; exact h1, by rw [List.getElem?_set_ne (by omega)]; exact h2, ?_⟩
  by_cases e : j = i
  · subst e; rw [upd_same, List.getElem?_set_self hl]
  · rw [upd_other _ _ e, List.getElem?_set_ne (by omega)]; exact h3
def ListAt (w : World) (b : Nat) (S : Nat → Prop) (keys : List ByteArray) (pl : Nat) : Prop :=
  ∃ ab ac mb ev cur K N L E m idx, ListIn w b S ab ac (pl + 1) mb ev cur K N L E m keys idx
section
variable {w w' : World} {b : Nat} {S S' : Nat → Prop} {keys : List ByteArray} {pl : Nat}
theorem ListAt.move (h : ListAt w b S keys pl) (hz : w.heap.size ≤ w'.heap.size) (hs : ∀ k, k < w.heap.size → S k → S' k ∧ w'.heap[k]? = w.heap[k]?) : ListAt w' b S' keys pl := by
  obtain ⟨ab, ac, mb, ev, cur, K, N, L, E, m, idx, h⟩ := h
  exact ⟨ab, ac, mb, ev, cur, K, N, L, E, m, idx, ⟨h.toListMem.move hz hs, h.pl, h.ring⟩⟩
theorem ListAt.mono (h : ListAt w b S keys pl) (hs : ∀ k, k < w.heap.size → S k → S' k) : ListAt w b S' keys pl := h.move (Nat.le_refl _) fun k hk q => ⟨hs k hk q, rfl⟩
theorem ListAt.mod {T : Nat → Prop} (h : ListAt w b S keys pl) (hm : Mod T w w') (hd : ∀ k, k < w.heap.size → S k → ¬ T k) : ListAt w' b S keys pl :=
  h.move hm.size fun k hk q => ⟨q, hm.block k hk (hd k hk q)⟩
theorem ListAt.modNil (h : ListAt w b S keys pl) (hm : Mod Nil w w') : ListAt w' b S keys pl := h.mod hm fun _ _ _ q => q
theorem ListAt.drew (h : ListAt w b S keys pl) : ListAt w.drew b S keys pl := h.modNil ((Mod.refl _ _).drew)
theorem ListAt.lt (h : ListAt w b S keys pl) : b < w.heap.size ∧ S b := by
  obtain ⟨ab, ac, mb, ev, cur, K, N, L, E, m, idx, h⟩ := h
  exact ⟨h.str.lt, h.own.1⟩
theorem ListAt.uniq (h : ListAt w b S keys pl) : keys.Nodup := by
  obtain ⟨ab, ac, mb, ev, cur, K, N, L, E, m, idx, h⟩ := h
  exact h.ring.uniq
theorem ListAt.le (h : ListAt w b S keys pl) : keys.length ≤ pl := by
  obtain ⟨ab, ac, mb, ev, cur, K, N, L, E, m, idx, h⟩ := h
  have := h.ring.count; omega
end
def Left (w w' : World) (b : Nat) (S : Nat → Prop) (keys : List ByteArray) (pl : Nat) : Prop :=
  Mod S w w' ∧ ∃ S', (∀ k, S' k → S k ∨ w.heap.size ≤ k) ∧ ListAt w' b S' keys pl
section
variable {w : World} {b : Nat} {S : Nat → Prop} {keys : List ByteArray} {pl : Nat}
theorem list_Len (h : ListAt w b S keys pl) :
    Calls Tryz.prog 128 #[.pointer (some ⟨b, 0, none⟩)] w fun e w' => e = .returned (.int .i64 keys.length) ∧ w = w' := by
  obtain ⟨ab, ac, mb, ev, cur, K, N, L, E, m, idx, h⟩ := h
  have h2 := h.str.at 2 _ rfl
  have hl := h.mp.len (P := Tryz.prog) Tryz.underlying225 3
  rw [h.ring.size] at hl
  clear h
  go_enter Tryz.func128, Tryz.ntmps128
  go_wp2
  go_ret
  exact ⟨rfl, rfl⟩
theorem list_Has (h : ListAt w b S keys pl) (key : ByteArray) :
    Calls Tryz.prog 127 #[.pointer (some ⟨b, 0, none⟩), .string key] w fun e w' => e = .returned (.bool (decide (key ∈ keys))) ∧ w = w' := by
  obtain ⟨ab, ac, mb, ev, cur, K, N, L, E, m, idx, h⟩ := h
  have h2 := h.str.at 2 _ rfl
  have hl := h.mp.ask key_str Tryz.underlying225 (zero_int w) key
  have hk : (lk m key).isSome = decide (key ∈ keys) := by
    rw [Bool.eq_iff_iff, decide_eq_true_iff, h.ring.mem_keys, Option.isSome_iff_exists]
  rw [hk] at hl
  clear h hk
  go_enter Tryz.func127, Tryz.ntmps127
  go_wp2
  go_ret
  exact ⟨rfl, rfl⟩
set_option maxHeartbeats 1600000 in
set_option maxRecDepth 100000 in
theorem list_Remove (h : ListAt w b S keys pl) (hb : pl ≤ 1000000000) (key : ByteArray) :
    Calls Tryz.prog 131 #[.pointer (some ⟨b, 0, none⟩), .string key] w fun e w' => e = .returned (.bool (decide (key ∈ keys))) ∧ Left w w' b S (rm keys key) pl := by
  have h0 := h
  obtain ⟨ab, ac, mb, ev, cur, K, N, L, E, m, idx, h⟩ := h
  have b0 := h.str.at 0 _ rfl
  have b2 := h.str.at 2 _ rfl
  have hl := h.mp.ask key_str Tryz.underlying225 (zero_int w) key
  cases hk : lk m key with
  | none =>
    have hno : key ∉ keys := fun q => by obtain ⟨i, hi⟩ := h.ring.mem_keys.1 q; rw [hk] at hi; cases hi
    have H0 := hid h0
    rw [hk] at hl
    simp only [Option.map_none, Option.getD_none, Option.isSome_none] at hl
    have HN := hid hno
    clear h h0 hk hno
    go_enter Tryz.func131, Tryz.ntmps131
    go_wp2
    go_ret
    have e : rm keys key = keys := List.filter_eq_self.2 fun x hx => by simpa using fun q : x = key => HN.out (q ▸ hx)
    exact ⟨ret_bool (by simp [HN.out]), Mod.refl _ _, S, fun k q => .inl q, by rw [e]; exact H0.out⟩
  | some i =>
    have hyes : key ∈ keys := h.ring.mem_keys.2 ⟨i, hk⟩
    have hi := ((h.ring.map key i).1 hk).1
    obtain ⟨hNi, hLi, hNi2, hLi2, hi0, hin⟩ := h.ring.beside hi
    have hc := h.ring.count
    have hac := h.nac
    rw [hk] at hl
    simp only [Option.map_some, Option.getD_some, Option.isSome_some] at hl
    have pi := h.pl i hin
    have p0 := h.arena.at _ _ pi.1
    have p1 := h.arena.at _ _ pi.2.1
    have p2 := h.arena.at _ _ pi.2.2
    have q1 := h.arena.at _ _ (h.pl (L i) hLi).2.1
    have q2 := h.arena.at _ _ (h.pl (N i) hNi).2.2
    have g1 := h.arena.free (L i * 3 + 1)
    have g2 := h.arena.free (N i * 3 + 2)
    have hlt1 : ab < w.heap.size := h.arena.lt
    have hlt2 : b < w.heap.size := h.str.lt
    have hne := h.ne
    have H := hid h
    have HK := hid hk
    have HC := hid hc
    clear h h0 hk pi hc
    go_enter Tryz.func131, Tryz.ntmps131
    go_upto_region 5 with (fail)
    go_cut [] (fun wx => ListMem wx b S ab ac (pl + 1) mb ev ((cur.set (L i * 3 + 1) (.int .i64 (N i))).set (N i * 3 + 2) (.int .i64 (L i))) E m ∧ Mod S w wx)
    case first =>
      go_region
      obtain ⟨W1, hW1⟩ : ∃ W1, W1 = (((w.setCell { block := ab, off := L i * 3 + 1 } (Value.int IntKind.i64 ↑(N i))).setCell { block := ab, off := N i * 3 + 2 } (Value.int IntKind.i64 ↑(L i))).alloc (Obj.cells #[Value.string (K i), Value.int IntKind.i64 ↑(N i), Value.int IntKind.i64 ↑(L i)] 232)).drew := ⟨_, rfl⟩
      rw [← hW1]
      have r1 : ListMem W1 b S ab ac (pl + 1) mb ev ((cur.set (L i * 3 + 1) (.int .i64 (N i))).set (N i * 3 + 2) (.int .i64 (L i))) E m := by
        rw [hW1]; exact ((H.out.toListMem.put _ _).put _ _).modNil (((Mod.refl _ _).alloc _).drew)
      have r2 : Mod S w W1 := by
        rw [hW1]; exact ((((Mod.refl S w).setCell (fun _ => H.out.own.2.1) _).setCell (fun _ => H.out.own.2.1) _).alloc _).drew
      have r := hid (And.intro r1 r2)
      clear r1 r2 hW1
      go_wp2_with fail
      go_meet
      exact r.out
    case rest =>
      obtain ⟨HM, HD⟩ := hcut
      clear p0 p1 p2 q1 q2 g1 g2 b0 b2 hl hlt1 hlt2
      obtain ⟨z0, z1, z2, t0, t1⟩ := HM.cells
      obtain ⟨v0, hv0⟩ := HM.has (j := i * 3) (by omega)
      obtain ⟨v1, hv1⟩ := HM.has (j := i * 3 + 1) (by omega)
      obtain ⟨v2, hv2⟩ := HM.has (j := i * 3 + 2) (by omega)
      have y0 := HM.arena.free (i * 3)
      have y1 := HM.arena.free (i * 3 + 1)
      have y2 := HM.arena.free (i * 3 + 2)
      have HM2 := hid (((HM.put (i * 3) (.string ⟨#[]⟩)).put (i * 3 + 1) (.int .i64 0)).put (i * 3 + 2) (.int .i64 0))
      have hel : E.length ≤ pl := by have := HC.out; omega
      have HM' := hid HM
      have HD' := hid HD
      clear HM HD
      go_wp2_with (at_builtin; refine wpRowPush rfl _ _ rfl sl_int (by omega) HM2.out.emp.self rfl rfl (by simp) [.int .i64 (i : Int)] 3 rfl ?_ ?_ ?_ ?_)
      · simp [Value.oneCell']
      · unfold maxLen; omega
      · omega
      · intro v' w2 hr' hm' hs'
        obtain ⟨g, cp, rfl⟩ : ∃ g cp, v' = .slice (some ⟨g, 0, none⟩) (E.length + 1) cp := by
          rcases hr'.shape with ⟨_, h0, _⟩ | ⟨g, cp, _, e, _⟩
          · omega
          · exact ⟨g, cp, e⟩
        have hsz : w.heap.size ≤ wc.heap.size := HD'.out.size
        have HM3 := HM2.out.empty (S' := fun k => S k ∨ w.heap.size ≤ k) (E' := E ++ [i]) (fun k _ q => .inl q) hm' (by
          rw [List.length_append, List.map_append]
          exact hr'.mono fun k _ q => q.imp (HM2.out.emp.2 k) (fun q => Nat.le_trans hsz (by simpa using q)))
        have hb1 := hm'.blk HM2.out.str fun q => HM2.out.emp.ne HM2.out.str (by decide) b q rfl
        have x1 := hb1.at 1 _ rfl
        have x2 := hb1.free 1
        obtain ⟨y0', y1', y2', _, _⟩ := HM3.cells
        have hd3 : Mod S wc (w2.setCell ⟨b, 1, none⟩ (.slice (some ⟨g, 0, none⟩) (E.length + 1) cp)) :=
          (((((Mod.refl S wc).setCell (p := ⟨ab, i * 3, none⟩) (fun _ => H.out.own.2.1) (.string ⟨#[]⟩)).setCell (p := ⟨ab, i * 3 + 1, none⟩) (fun _ => H.out.own.2.1) (.int .i64 0)).setCell (p := ⟨ab, i * 3 + 2, none⟩) (fun _ => H.out.own.2.1) (.int .i64 0)).trans' hm' fun k _ q => HM2.out.emp.2 k q).setCell (fun _ => H.out.own.1) _
        have HD3 := hid (HD'.out.trans hd3)
        have HM3' := hid HM3
        clear hd3 HM3 hr' hm' hs' hb1 hsz HD' HM'
        go_wp2_with (at_delete; refine wpMapDel rfl _ _ _ rfl key_str Tryz.underlying225 HM3'.out.mp rfl key rfl ?_; intro w3 hm3 hg3)
        go_ret
        refine ⟨ret_bool (by simp [hyes]), HD3.out.grown hg3 (fun k hk _ => by injection hk with hk; subst hk; exact H.out.own.2.2), fun k => S k ∨ w.heap.size ≤ k, fun k q => q, ab, ac, mb, _, _, upd K i ⟨#[]⟩, upd (upd N (L i) (N i)) i 0, upd (upd L (N i) (L i)) i 0, E ++ [i], del m key, idx.filter (· ≠ i), ⟨HM3'.out.map hm3 hg3, ?_, ?_⟩⟩
        · exact ((((H.out.pl.setN (L i) (N i)).setL (N i) (L i)).setK i ⟨#[]⟩).setN i 0).setL i 0
        · exact H.out.ring.off HK.out H.out.mp.nodup
end
end Go.Proofs.YtholinnmjoelkaaGreatDoor
namespace Go.Proofs.YtholinnmjoelkaaGreatDoor
open Go.RowKit Go.MapKept
theorem quietSame {P : Program} {f : FuncId} {args : Array Value} {w : World} {n : Nat} {v : Value}
    (h : Calls P f args (w.drewN n) fun e w' => e = .returned v ∧ w.drewN n = w') : Calls P f args (w.drewN n) fun e w'' => e = .returned v ∧ ∃ m, w'' = w.drewN m :=
  h.mono fun _ _ ⟨he, hm⟩ => ⟨he, n, hm.symm⟩
section
variable {w : World} {b : Nat} {S : Nat → Prop} {keys : List ByteArray} {pl : Nat}
theorem ListAt.drewN (h : ListAt w b S keys pl) (n : Nat) : ListAt (w.drewN n) b S keys pl := h.modNil ((Mod.refl _ _).drewN n)
theorem list_Last (h : ListAt w b S keys pl) :
    Calls Tryz.prog 132 #[.pointer (some ⟨b, 0, none⟩)] w fun e w' => e = .returned (.tuple #[.string (keys.getLast?.getD ⟨#[]⟩), .bool (decide (0 < keys.length))]) ∧ ∃ n, w' = w.drewN n := by
  have h0 := h
  obtain ⟨ab, ac, mb, ev, cur, K, N, L, E, m, idx, h⟩ := h
  obtain ⟨c0, c1, c2, _, _⟩ := h.cells
  have hn := h.ring.next_lt
  have hac := h.nac
  have hm := h.acm
  unfold maxLen at hm
  have p0 := h.arena.at _ _ (h.pl 0 (by omega)).2.2
  have p1 := h.arena.at _ _ (h.pl (L 0) hn.2).1
  rw [h.ring.last] at p1
  have hN := hn.2
  have hN2 : (L 0 : Int) < ((pl + 1 : Nat) : Int) := by omega
  clear h hn
  have H0 := hid h0
  clear h0
  go_enter Tryz.func132, Tryz.ntmps132
  go_wp2_with (fail)
  go_quiet ((go_at_call 128; exact quietSame (list_Len (H0.out.drewN _))))
  go_wp2
  go_ret2
  exact ⟨by simp, _, rfl⟩
theorem rm_last {keys : List ByteArray} (hn : keys.Nodup) {x : ByteArray} (hx : keys.getLast? = some x) : rm keys x = keys.dropLast := by
  obtain ⟨ys, rfl⟩ := List.getLast?_eq_some_iff.1 hx
  rw [List.nodup_append] at hn
  rw [rm_append, rm_same, List.append_nil, List.dropLast_concat]
  exact List.filter_eq_self.2 fun y hy => by simpa using hn.2.2 y hy x (by simp)
theorem list_Pop (h : ListAt w b S keys pl) (hb : pl ≤ 1000000000) :
    Calls Tryz.prog 129 #[.pointer (some ⟨b, 0, none⟩)] w fun e w' => e = .returned (.tuple #[.string (keys.getLast?.getD ⟨#[]⟩), .bool (decide (0 < keys.length))]) ∧ Left w w' b S keys.dropLast pl := by
  have H := hid h
  by_cases h0 : keys.length = 0
  · have hk : keys = [] := List.eq_nil_of_length_eq_zero h0
    subst hk
    clear h h0
    go_enter Tryz.func129, Tryz.ntmps129
    go_wp2_with (go_at_call 132; refine (list_Last H.out).mono ?_; rintro e w1 ⟨rfl, n, rfl⟩)
    go_ret2
    exact ⟨rfl, (Mod.refl _ _).drewN n, S, fun k q => .inl q, H.out.drewN n⟩
  · obtain ⟨x, hx⟩ : ∃ x, keys.getLast? = some x := by
      cases hg : keys.getLast? with
      | none => rw [List.getLast?_eq_none_iff] at hg; subst hg; simp at h0
      | some x => exact ⟨x, rfl⟩
    have hmem : x ∈ keys := List.mem_of_getLast? hx
    have hd : decide (0 < keys.length) = true := by simp; omega
    have hrm := rm_last h.uniq hx
    rw [hx, hd]
    have HR := hid hrm
    have HX := hid hx
    clear h h0 hx hrm
    have hl : Calls Tryz.prog 132 #[.pointer (some ⟨b, 0, none⟩)] w fun e w' => e = .returned (.tuple #[.string x, .bool true]) ∧ ∃ n, w' = w.drewN n := by
      have := list_Last H.out
      rw [HX.out, hd] at this
      exact this
    have HL := hid hl
    clear hl hd
    go_enter Tryz.func129, Tryz.ntmps129
    go_wp2_with (first
      | (go_at_call 132; refine HL.out.mono ?_; rintro e w1 ⟨rfl, n, rfl⟩)
      | (go_at_call 131; refine (list_Remove (H.out.drewN n) hb x).mono ?_; rintro e w1 ⟨rfl, hm, S', hs, hl⟩))
    go_ret2
    exact ⟨rfl, ((Mod.refl S w).drewN n).trans hm, S', hs, by rw [← HR.out]; exact hl⟩
theorem list_New : Calls Tryz.prog 126 #[] w fun e w' => ∃ b, e = .returned (.pointer (some ⟨b, 0, none⟩)) ∧ Mod Nil w w' ∧ ∃ S', (∀ k, S' k → w.heap.size ≤ k) ∧ ListAt w' b S' [] 0 := by
  have hmk : ∀ w : World, (Instr.makeSlice 224 (.int .i64 1) (.int .i64 1)).run Tryz.prog w = .ok (.slice (some ⟨w.heap.size, 0, none⟩) 1 1) (w.alloc (.cells #[.string ⟨#[]⟩, .int .i64 0, .int .i64 0] 232)) := fun _ => by kernel_rfl
  have hmm := @run_makeMap Tryz.prog
  go_enter Tryz.func126, Tryz.ntmps126
  go_wp2
  go_ret
  refine ⟨w.heap.size + 1 + 1, by simp, (((Mod.refl Nil w).alloc _).alloc _).alloc _, fun k => w.heap.size ≤ k, fun k q => q, w.heap.size, 1, w.heap.size + 1, .slice none 0 0, [.string ⟨#[]⟩, .int .i64 0, .int .i64 0], fun _ => ⟨#[]⟩, fun _ => 0, fun _ => 0, [], [], [], ⟨⟨?_, ?_, rfl, Nat.le_refl _, by unfold maxLen; omega, Row.nil _ _ _ _, ?_, ⟨by omega, by omega, by omega⟩⟩, ?_, Ring.new⟩⟩
  · have := Blk.new ((w.alloc (.cells #[.string ⟨#[]⟩, .int .i64 0, .int .i64 0] 232)).alloc (.map #[] 0)) [.slice (some ⟨w.heap.size, 0, none⟩) 1 1, .slice none 0 0, .map (some (w.heap.size + 1))] 228
    simpa using this
  · exact ((Blk.new w [.string ⟨#[]⟩, .int .i64 0, .int .i64 0] 232).alloc _).alloc _
  · have := (MapAt.new Value.string (fun i : Nat => .int .i64 (i : Int)) (w.alloc (.cells #[.string ⟨#[]⟩, .int .i64 0, .int .i64 0] 232))).alloc (.cells #[.slice (some ⟨w.heap.size, 0, none⟩) 1 1, .slice none 0 0, .map (some (w.heap.size + 1))] 228)
    simpa using this
  · intro j hj
    have : j = 0 := by omega
    subst this
    exact ⟨rfl, rfl, rfl⟩
end
end Go.Proofs.YtholinnmjoelkaaGreatDoor
