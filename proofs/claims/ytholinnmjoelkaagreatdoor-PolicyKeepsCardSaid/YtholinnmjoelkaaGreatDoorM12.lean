/- RowLaws, ListW, Rev, ListS, SepH, SepI, SepJ -/
import Derived.Test.YtholinnmjoelkaaGreatDoorM11
import Derived.RegionTactic
import Derived.Laws.BytesString
import Derived.LoopN
import Derived.Laws.StructEq
set_option linter.unusedVariables false
set_option linter.unusedSimpArgs false
namespace Go.Proofs.YtholinnmjoelkaaGreatDoor
open Go.RowKit Go.MapKept
theorem length_rm {ks : List ByteArray} (h : ks.Nodup) (k : ByteArray) : (rm ks k).length = if k ∈ ks then ks.length - 1 else ks.length := by
  have e : rm ks k = ks.erase k := (List.Nodup.erase_eq_filter h k).symm ▸ List.filter_congr fun x _ => by by_cases q : x = k <;> simp [q]
  rw [e, List.length_erase]
theorem rm_not {ks : List ByteArray} {k : ByteArray} (h : k ∉ ks) : rm ks k = ks := List.filter_eq_self.2 fun x hx => by simpa using fun q : x = k => h (q ▸ hx)
theorem mem_fr {ks : List ByteArray} {k x : ByteArray} : x ∈ fr ks k ↔ x = k ∨ x ∈ ks := by
  rw [fr, List.mem_cons, mem_rm]
  by_cases e : x = k <;> simp [e]
theorem length_fr {ks : List ByteArray} (h : ks.Nodup) (k : ByteArray) : (fr ks k).length = if k ∈ ks then ks.length else ks.length + 1 := by
  rw [fr, List.length_cons, length_rm h]
  by_cases e : k ∈ ks
  · have := List.length_pos_of_mem e; simp [e]; omega
  · simp [e]
theorem nodup_fr {ks : List ByteArray} (h : ks.Nodup) (k : ByteArray) : (fr ks k).Nodup := List.nodup_cons.2 ⟨fun q => (mem_rm.1 q).2 rfl, h.filter _⟩
def SetOf (l : List (ByteArray × Bool)) (ks : List ByteArray) : Prop := (∀ x, (lk l x).isSome = decide (x ∈ ks)) ∧ l.length = ks.length
theorem SetOf.nil : SetOf [] [] := ⟨fun x => by simp [lk], rfl⟩
theorem SetOf.put {l : List (ByteArray × Bool)} {ks : List ByteArray} (h : SetOf l ks) (hn : ks.Nodup) (k : ByteArray) : SetOf (put l k true) (fr ks k) := by
  refine ⟨fun x => ?_, ?_⟩
  · rw [lk_put, Bool.eq_iff_iff, decide_eq_true_iff, mem_fr]
    by_cases e : x = k
    · simp [e]
    · have := h.1 x
      rw [Bool.eq_iff_iff, decide_eq_true_iff] at this
      simp [e, this]
  · rw [length_put, length_fr hn, h.1 k, h.2]
    simp
theorem fr_not {ks : List ByteArray} {k : ByteArray} (h : k ∉ ks) : fr ks k = k :: ks := by rw [fr, rm_not h]
end Go.Proofs.YtholinnmjoelkaaGreatDoor
namespace Go.Proofs.YtholinnmjoelkaaGreatDoor
open Go.RowKit Go.MapKept
def LL (w : World) (S : Nat → Prop) (b : Nat) (keys : List ByteArray) (n : Nat) : Prop := ∃ pl, pl ≤ n ∧ ListAt w b S keys pl
section
variable {w w' : World} {S S' : Nat → Prop} {b n : Nat} {keys : List ByteArray}
theorem LL.move (h : LL w S b keys n) (hz : w.heap.size ≤ w'.heap.size) (hs : ∀ k, k < w.heap.size → S k → S' k ∧ w'.heap[k]? = w.heap[k]?) : LL w' S' b keys n := by
  obtain ⟨pl, h1, h2⟩ := h; exact ⟨pl, h1, h2.move hz hs⟩
instance {b : Nat} {keys : List ByteArray} {n : Nat} : Mov (fun w S => LL w S b keys n) := ⟨fun h hz hs => h.move hz hs⟩
theorem LL.keep {own own' : Nat → Nat} {c : Nat} (h : LL w (fun k => own k = c) b keys n) (K : Keeps w w' own own' c) : LL w' (fun k => own' k = c) b keys n := h.move K.size K.block
theorem LL.uniq (h : LL w S b keys n) : keys.Nodup := by obtain ⟨pl, _, h⟩ := h; exact h.uniq
theorem LL.le (h : LL w S b keys n) : keys.length ≤ n := by obtain ⟨pl, h1, h⟩ := h; exact Nat.le_trans h.le h1
theorem LL.up (h : LL w S b keys n) {m : Nat} (hm : n ≤ m) : LL w S b keys m := by obtain ⟨pl, h1, h⟩ := h; exact ⟨pl, Nat.le_trans h1 hm, h⟩
theorem w_New {w : World} : Calls Tryz.prog 126 #[] w (MakesP w fun b w S => LL w S b [] 0) :=
  list_New.mono fun _ _ ⟨b, he, hm, S', hs, ht⟩ => ⟨b, he, hm, 0, Nat.le_refl _, ht.mono fun k _ q => hs k q⟩
theorem w_Len (h : LL w S b keys n) : Calls Tryz.prog 128 #[.pointer (some ⟨b, 0, none⟩)] w fun e w' => e = .returned (.int .i64 keys.length) ∧ w = w' := by
  obtain ⟨pl, h1, h⟩ := h; exact list_Len h
theorem w_Has (h : LL w S b keys n) (key : ByteArray) : Calls Tryz.prog 127 #[.pointer (some ⟨b, 0, none⟩), .string key] w fun e w' => e = .returned (.bool (decide (key ∈ keys))) ∧ w = w' := by
  obtain ⟨pl, h1, h⟩ := h; exact list_Has h key
theorem w_Last (h : LL w S b keys n) : Calls Tryz.prog 132 #[.pointer (some ⟨b, 0, none⟩)] w (Reads w (.tuple #[.string (keys.getLast?.getD ⟨#[]⟩), .bool (decide (0 < keys.length))])) := by
  obtain ⟨pl, h1, h⟩ := h; exact list_Last h
theorem w_Pop (h : LL w S b keys n) (hb : n ≤ 1000000000) : Calls Tryz.prog 129 #[.pointer (some ⟨b, 0, none⟩)] w (After S w (.tuple #[.string (keys.getLast?.getD ⟨#[]⟩), .bool (decide (0 < keys.length))]) fun w S => LL w S b keys.dropLast n) := by
  obtain ⟨pl, h1, h⟩ := h
  exact (list_Pop h (by omega)).mono fun _ _ ⟨he, hm, S', hs, hl⟩ => ⟨he, hm, S', hs, pl, h1, hl⟩
theorem w_Remove (h : LL w S b keys n) (hb : n ≤ 1000000000) (key : ByteArray) : Calls Tryz.prog 131 #[.pointer (some ⟨b, 0, none⟩), .string key] w (After S w (.bool (decide (key ∈ keys))) fun w S => LL w S b (rm keys key) n) := by
  obtain ⟨pl, h1, h⟩ := h
  exact (list_Remove h (by omega) key).mono fun _ _ ⟨he, hm, S', hs, hl⟩ => ⟨he, hm, S', hs, pl, h1, hl⟩
theorem w_Front (h : LL w S b keys n) (hb : n ≤ 1000000000) (key : ByteArray) : Calls Tryz.prog 130 #[.pointer (some ⟨b, 0, none⟩), .string key] w (After S w (.tuple #[]) fun w S => LL w S b (fr keys key) (n + 1)) := by
  obtain ⟨pl, h1, h⟩ := h
  have h2 := fr_le keys key
  have h3 := h.le
  exact (list_Front h (by omega) key).mono fun _ _ ⟨he, hm, S', hs, hl⟩ => ⟨he, hm, S', hs, _, by omega, hl⟩
theorem w_Keys (h : LL w S b keys n) (hb : n ≤ 1000000000) : Calls Tryz.prog 134 #[.pointer (some ⟨b, 0, none⟩)] w (Makes w fun v w S => Row w S 9 1 v keys.length (keys.map Value.string)) := by
  obtain ⟨pl, h1, h⟩ := h
  exact list_Keys h (by omega)
end
section
variable {w : World} {S : Nat → Prop} {v : Value} {xs : List ByteArray}
theorem r_Has (h : Strs w S v xs) (key : ByteArray) : Calls Tryz.prog 18 #[v, .string key] w fun e w' => e = .returned (.bool (decide (key ∈ xs))) ∧ w = w' := ref03_Has v xs key w S h
end
end Go.Proofs.YtholinnmjoelkaaGreatDoor
namespace Go.Proofs.YtholinnmjoelkaaGreatDoor
open Go.RowKit Go.MapKept
def revAt (ks : List ByteArray) (i p : Nat) : ByteArray := if p < i ∨ ks.length ≤ p + i then (ks[ks.length - 1 - p]?).getD ⟨#[]⟩ else (ks[p]?).getD ⟨#[]⟩
theorem rev_done {ks : List ByteArray} {i : Nat} (h : ks.length ≤ i + i + 1) (p : Nat) (hp : p < ks.length) : ks.reverse[p]? = some (revAt ks i p) := by
  unfold revAt
  rw [List.getElem?_reverse hp]
  split
  · rw [List.getElem?_eq_getElem (by omega)]; rfl
  · have : p = ks.length - 1 - p := by omega
    rw [← this, List.getElem?_eq_getElem hp]; rfl
theorem rev_start {ks : List ByteArray} (p : Nat) (hp : p < ks.length) : ks[p]? = some (revAt ks 0 p) := by
  unfold revAt
  rw [if_neg (by omega), List.getElem?_eq_getElem hp]; rfl
theorem rev_i {ks : List ByteArray} {i : Nat} (h : i + i + 1 < ks.length) : revAt ks i i = (ks[i]?).getD ⟨#[]⟩ ∧ revAt ks i (ks.length - 1 - i) = (ks[ks.length - 1 - i]?).getD ⟨#[]⟩ ∧ revAt ks (i + 1) i = (ks[ks.length - 1 - i]?).getD ⟨#[]⟩ ∧ revAt ks (i + 1) (ks.length - 1 - i) = (ks[i]?).getD ⟨#[]⟩ := by
  unfold revAt
  refine ⟨if_neg (by omega), if_neg (by omega), if_pos (by omega), ?_⟩
  rw [if_pos (by omega)]
  congr 2
  omega
theorem rev_other {ks : List ByteArray} {i p : Nat} (h : i + i + 1 < ks.length) (h1 : p ≠ i) (h2 : p ≠ ks.length - 1 - i) (hp : p < ks.length) : revAt ks (i + 1) p = revAt ks i p := by
  unfold revAt
  by_cases q : p < i ∨ ks.length ≤ p + i
  · rw [if_pos (by omega), if_pos q]
  · rw [if_neg (by omega), if_neg q]
def RevInv (wr : World) (g : Nat) (T : TypeId) (len : Nat) (ks : List ByteArray) (i : Nat) : Prop := ∃ cur : List Value, Blk wr g cur T ∧ cur.length = len ∧ ∀ p, p < ks.length → cur[p]? = some (.string (revAt ks i p))
section
variable {w w' : World} {S S' : Nat → Prop} {b n : Nat} {v : Value} {ks : List ByteArray}
set_option maxHeartbeats 1600000 in
set_option maxRecDepth 100000 in
theorem w_Reverse (h : Row w S 9 1 v ks.length (ks.map Value.string)) (hb : ks.length ≤ 1000000000) :
    Calls Tryz.prog 135 #[v] w (After S w (.tuple #[]) fun w S => Row w S 9 1 v ks.reverse.length (ks.reverse.map Value.string)) := by
  rcases h.shape with ⟨rfl, h0, h1⟩ | ⟨g, cap, cur, rfl, hS, hB, hn, hc, hl, hx⟩
  · have hk : ks = [] := List.eq_nil_of_length_eq_zero h0
    subst hk
    have H := hid h
    clear h h1 h0
    go_enter Tryz.func135, Tryz.ntmps135
    go_wp2_with fail
    go_loop [2, 3] (fun i j => i = .int .i64 0 ∧ j = .int .i64 (-1)) (fun i j => 0)
    case atStart => exact ⟨rfl, rfl⟩
    case round =>
      obtain ⟨rfl, rfl⟩ := hrel
      go_wp2
      go_end0
      exact ⟨rfl, Mod.refl _ _, S, fun _ q => .inl q, H.out⟩
  · unfold maxLen at hc
    have hstart : RevInv w g 9 cap ks 0 := ⟨cur, hB, by omega, fun p hp => by
      have e : (cur.take (ks.length * 1))[p]? = (ks.map Value.string)[p]? := by rw [hx]
      rw [List.getElem?_take, if_pos (by omega), List.getElem?_map, rev_start p hp] at e
      exact e⟩
    have HI := hid hstart
    have HS := hid hS
    clear h hB hx hl hstart hS
    go_enter Tryz.func135, Tryz.ntmps135
    go_wp2_with fail
    go_loopw [2, 3] (fun vi vj wr => ∃ i : Nat, i ≤ ks.length ∧ vi = .int .i64 i ∧ vj = .int .i64 ((ks.length : Int) - 1 - i) ∧ (i = 0 ∨ i + i ≤ ks.length + 1) ∧ Mod S w wr ∧ RevInv wr g 9 cap ks i) (fun vi _ _ => ks.length - (intOf vi).toNat)
    case atStart => exact ⟨0, by omega, rfl, congrArg (Value.int .i64) (by omega), .inl rfl, Mod.refl _ _, HI.out⟩
    case round =>
      obtain ⟨i, hi, rfl, rfl, hii, hm, cu, hB, hl, hx⟩ := hrel
      by_cases hlt : (i : Int) < (ks.length : Int) - 1 - i
      · have hlt2 : i + i + 1 < ks.length := by omega
        obtain ⟨r1, r2, r3, r4⟩ := rev_i hlt2
        have e1 : ((ks.length : Int) - 1 - i).toNat = ks.length - 1 - i := by omega
        have e2 : ((i : Int)).toNat = i := by omega
        have p0 := hB.at i _ (hx i (by omega))
        have p1 := hB.at (ks.length - 1 - i) _ (hx (ks.length - 1 - i) (by omega))
        have f0 := hB.free i
        have f1 := hB.free (ks.length - 1 - i)
        have b0 : (0 : Int) ≤ (ks.length : Int) - 1 - i := by omega
        have b1 : (ks.length : Int) - 1 - i < ks.length := by omega
        have b2 : (i : Int) < ks.length := by omega
        have hne : i ≠ ks.length - 1 - i := by omega
        have hlt64 : ((ks.length : Nat) : Int) ≤ 1000000000 := by omega
        obtain ⟨x, hxx⟩ : ∃ x, x = revAt ks i i := ⟨_, rfl⟩
        obtain ⟨y, hyy⟩ : ∃ y, y = revAt ks i (ks.length - 1 - i) := ⟨_, rfl⟩
        rw [← hxx] at p0
        rw [← hyy] at p1
        rw [← hxx] at r1
        rw [← hyy] at r2
        have R1 := hid r1; have R2 := hid r2; have R3 := hid r3; have R4 := hid r4
        have HB := hid hB; have HX := hid hx; have HL := hid hl; have HM := hid hm; have E1 := hid e1
        obtain ⟨j, hj⟩ : ∃ j, j = ks.length - 1 - i := ⟨_, rfl⟩
        obtain ⟨J, hJ⟩ : ∃ J : Int, J = (ks.length : Int) - 1 - i := ⟨_, rfl⟩
        rw [← hj] at p1 f1 e1 hne
        rw [← hJ] at e1 b0 b1 hlt ⊢
        have HJ := hid hj; have HJJ := hid hJ
        clear r1 r2 r3 r4 hB hx hl hm hxx hyy hj hii
        have hJ1 : -9000000000 ≤ J ∧ J ≤ 1000000000 := by omega
        obtain ⟨hJ2, hJ3⟩ := hJ1
        clear hJ
        have HR : Hid (RevInv ((wr.setCell ⟨g, i, none⟩ (.string y)).setCell ⟨g, j, none⟩ (.string x)).drew g 9 cap ks (i + 1)) := hid (by
          refine ⟨_, ((HB.out.set i (.string y)).set j (.string x)).drew, by rw [List.length_set, List.length_set]; exact HL.out, fun p hp => ?_⟩
          have hcl : cu.length = cap := HL.out
          have hje := HJ.out
          by_cases q1 : p = j
          · subst q1
            rw [List.getElem?_set_self (by rw [List.length_set]; omega), HJ.out, R4.out, ← R1.out]
          · rw [List.getElem?_set_ne (Ne.symm q1)]
            by_cases q2 : p = i
            · subst q2
              rw [List.getElem?_set_self (by omega), R3.out, ← R2.out]
            · rw [List.getElem?_set_ne (Ne.symm q2), HX.out p hp, rev_other hlt2 q2 (by omega) hp])
        have HM2 := hid (((HM.out.setCell (p := ⟨g, i, none⟩) (fun _ => HS.out) (.string y)).setCell (p := ⟨g, j, none⟩) (fun _ => HS.out) (.string x)).drew)
        clear HX
        go_wp2_with fail
        go_region
        go_wp2_with fail
        go_roundw
        case rel => exact ⟨i + 1, by omega, by go_num, congrArg (Value.int .i64) (by have := HJJ.out; omega), by omega, HM2.out, HR.out⟩
        case measure => simp [intOf]; omega
      · go_wp2
        go_end0
        refine ⟨rfl, hm, S, fun _ q => .inl q, ?_⟩
        have hl2 : ks.reverse.length = ks.length := List.length_reverse
        show Row wr S 9 1 _ ks.length ((ks.map Value.string).reverse)
        rw [← List.map_reverse]
        refine Row.mk HS.out hB hn (by unfold maxLen; omega) (by omega) ?_
        apply List.ext_getElem?
        intro p
        rw [List.getElem?_take, List.getElem?_map]
        split
        · rename_i hp
          rw [hx p (by omega), rev_done (i := i) (by omega) p (by omega)]; rfl
        · rw [List.getElem?_eq_none (by rw [hl2]; omega)]; rfl
end
end Go.Proofs.YtholinnmjoelkaaGreatDoor
namespace Go.Proofs.YtholinnmjoelkaaGreatDoor
open Go.RowKit Go.MapKept
def llR (lb : Nat) (ks : List ByteArray) (n : Nat) : Res := .of fun w S => LL w S lb ks n
theorem llR.up {lb : Nat} {ks : List ByteArray} {n m : Nat} (h : n ≤ m) (w : World) (S : Nat → Prop) (q : (llR lb ks n).p w S) : (llR lb ks m).p w S := LL.up q h
theorem llR.le {lb : Nat} {ks : List ByteArray} {n : Nat} (w : World) (S : Nat → Prop) (q : (llR lb ks n).p w S) : ks.Nodup ∧ ks.length ≤ n := ⟨LL.uniq q, LL.le q⟩
section
variable {lb n : Nat} {ks : List ByteArray}
theorem t_New : Tri Tryz.prog 126 #[] [] (PostE (fun _ => True) (fun b => pV b 0) fun b => [] ++ [llR b [] 0]) := tri_makeP fun w own h => w_New
theorem t_Len : Tri Tryz.prog 128 #[pV lb 0] [llR lb ks n] (Same [llR lb ks n] (iV ks.length)) := tri_same fun w own h => w_Len (h 0 _ rfl)
theorem t_Has (key : ByteArray) : Tri Tryz.prog 127 #[pV lb 0, sV key] [llR lb ks n] (Same [llR lb ks n] (bV (decide (key ∈ ks)))) := tri_same fun w own h => w_Has (h 0 _ rfl) key
theorem t_Last : Tri Tryz.prog 132 #[pV lb 0] [llR lb ks n] (Same [llR lb ks n] (.tuple #[sV (ks.getLast?.getD ⟨#[]⟩), bV (decide (0 < ks.length))])) := tri_reads fun w own h => w_Last (h 0 _ rfl)
theorem t_Pop (hb : n ≤ 1000000000) : Tri Tryz.prog 129 #[pV lb 0] [llR lb ks n] (Same [llR lb ks.dropLast n] (.tuple #[sV (ks.getLast?.getD ⟨#[]⟩), bV (decide (0 < ks.length))])) := tri_after fun w S h => w_Pop h hb
theorem t_Remove (key : ByteArray) (hb : n ≤ 1000000000) : Tri Tryz.prog 131 #[pV lb 0, sV key] [llR lb ks n] (Same [llR lb (rm ks key) n] (bV (decide (key ∈ ks)))) := tri_after fun w S h => w_Remove h hb key
theorem t_Front (key : ByteArray) (hb : n ≤ 1000000000) : Tri Tryz.prog 130 #[pV lb 0, sV key] [llR lb ks n] (Same [llR lb (fr ks key) (n + 1)] (.tuple #[])) := tri_after fun w S h => w_Front h hb key
theorem t_Keys (hb : n ≤ 1000000000) : Tri Tryz.prog 134 #[pV lb 0] [llR lb ks n] (PostE (fun _ => True) id fun v => [llR lb ks n] ++ [rowR 9 1 v ks.length (ks.map Value.string)]) := tri_make fun w own h => w_Keys (h 0 _ rfl) hb
theorem t_Reverse {v : Value} (hb : ks.length ≤ 1000000000) : Tri Tryz.prog 135 #[v] [rowR 9 1 v ks.length (ks.map Value.string)] (Same [rowR 9 1 v ks.length (ks.reverse.map Value.string)] (.tuple #[])) := tri_after fun w S h => after_as (w_Reverse h hb) rfl fun w S q => by rw [List.length_reverse] at q; exact q
end
end Go.Proofs.YtholinnmjoelkaaGreatDoor
namespace Go.Proofs.YtholinnmjoelkaaGreatDoor
open Go.RowKit Go.MapKept
def capOf : Value → Nat
  | .slice _ _ c => c
  | _ => 0
section
variable {P : Program} {f : Nat} {args : Array Value} {l L : List Res} {E n : Nat} {xs : List Value} {size : Nat}
theorem Tri.row (hn : 0 < n) (h : Tri P f args l (PostE (fun _ => True) id fun v => L ++ [rowR E size v n xs])) :
    Tri P f args l (PostE (ι := Nat × Nat) (fun _ => True) (fun y => .slice (some ⟨y.1, 0, none⟩) n y.2) fun y => L ++ [rowR E size (.slice (some ⟨y.1, 0, none⟩) n y.2) n xs]) := by
  intro w own hH hO
  refine (h w own hH hO).mono ?_
  rintro e w' ⟨v, rfl, l', own', ⟨x, _, rfl, rfl⟩, h2, h3, h4⟩
  have hR := h2 L.length (rowR E size v n xs) (by simp)
  obtain ⟨a, c, rfl, _, _⟩ := row_slice _ _ hR
  obtain ⟨b, rfl⟩ := row_addr hn _ _ hR
  exact ⟨_, rfl, _, own', ⟨(b, c), trivial, rfl, rfl⟩, h2, h3, h4⟩
end
end Go.Proofs.YtholinnmjoelkaaGreatDoor
namespace Go.Proofs.YtholinnmjoelkaaGreatDoor
open Go.RowKit Go.MapKept
section
variable {P : Program} {σ : List (Nat × Value)} {dst : Option Tmp} {ty t d : TypeId} {pos : String} {after : Array Edge} {g : Option (Nat × Bool)} {x y : Operand}
def strOf (ns : List Int) : ByteArray := ns.foldl (fun r n => r.push (UInt8.ofNat n.toNat)) ByteArray.empty
theorem o_lit0 {e size : TypeId} (hu : P.underlying t = some (.slice e)) (hi : sizeT P e size = true) :
    Opr P σ ⟨dst, .buildSlice t 0 #[], ty, pos, after, g⟩ [] (PostE (fun _ => True) (fun b => .slice (some ⟨b, 0, none⟩) 0 0) fun b => [rowR e size (.slice (some ⟨b, 0, none⟩) 0 0) 0 []]) := by
  intro ρ hρ w own hH hO
  unfold sizeT at hi
  cases hq : P.info? e with
  | none => simp [hq] at hi
  | some q =>
    refine .inl ⟨_, _, .inl (by simp [execOp, Instr.buildSlice, run_underlying hu, sizeOf, typeInfo, hq, Instr.fill, newRow, Result.andThen]; rfl), became_new hH hO ((Mod.refl _ _).alloc _) (R := rowR e size (.slice (some ⟨w.heap.size, 0, none⟩) 0 0) 0 []) ⟨⟨by simp, .inr ⟨w.heap.size, 0, #[], rfl, Nat.zero_le _, (by show (w.heap.push _)[w.heap.size]? = some _; simp), Nat.le_refl _, Nat.zero_le _, by simp, by simp⟩⟩, fun g hg => ?_⟩ ⟨w.heap.size, trivial, rfl, rfl⟩⟩
    cases hg; exact Nat.le_refl _
end
section
variable {K : Cx} {Q : Exit → Act → World → Prop} {σ : List (Nat × Value)} {Γ : List Res} {c : Code}
theorem Cd.unroll (n : Nat) (h : Cd K c (Exit.then (Code.rounds K.P c Q n) Q) σ Γ) : Cd K (.loop c) Q σ Γ := fun a w hS hΓ => wp_loop_rounds (n + 1) (h a w hS hΓ)
theorem Ex'.again {n : Nat} (h : Cd K c (Exit.then (Code.rounds K.P c Q n) Q) σ Γ) : Ex' K .normal (Exit.then (Code.rounds K.P c Q (n + 1)) Q) σ Γ := fun a w hS hΓ => h a w hS hΓ
end
def addrOf : Value → Option Addr
  | .slice a _ _ => a
  | _ => none
theorem Tri.rowA {P : Program} {f : Nat} {args : Array Value} {l L : List Res} {E n : Nat} {xs : List Value} {size : Nat} (h : Tri P f args l (PostE (fun _ => True) id fun v => L ++ [rowR E size v n xs])) :
    Tri P f args l (PostE (ι := Option Addr × Nat) (fun _ => True) (fun y => .slice y.1 n y.2) fun y => L ++ [rowR E size (.slice y.1 n y.2) n xs]) := by
  intro w own hH hO
  refine (h w own hH hO).mono ?_
  rintro e w' ⟨v, rfl, l', own', ⟨x, _, rfl, rfl⟩, h2, h3, h4⟩
  have hR := h2 L.length (rowR E size v n xs) (by simp)
  obtain ⟨a, c, rfl, _, _⟩ := row_slice _ _ hR
  exact ⟨_, rfl, _, own', ⟨(a, c), trivial, rfl, rfl⟩, h2, h3, h4⟩
end Go.Proofs.YtholinnmjoelkaaGreatDoor
namespace Go.Proofs.YtholinnmjoelkaaGreatDoor
open Go.RowKit Go.MapKept
theorem tl_iff (a b : ByteArray) : a.toList = b.toList ↔ a = b := by
  have h := beq_toListBytes a b
  constructor
  · intro e; rw [e] at h; simpa using h
  · intro e; rw [e]
theorem setL_take : ∀ (vs l : List Value) (i m : Nat), (setL l i vs).take m = setL (l.take m) i vs
  | [], l, i, m => rfl
  | v :: vs, l, i, m => by rw [setL, setL, setL_take vs, List.take_set]
theorem setL_len : ∀ (vs l : List Value) (i : Nat), (setL l i vs).length = l.length
  | [], l, i => rfl
  | v :: vs, l, i => by rw [setL, setL_len vs, List.length_set]
theorem setL_mid : ∀ (b p a r : List Value), a.length = b.length → setL (p ++ a ++ r) p.length b = p ++ b ++ r
  | [], p, a, r, h => by
    have : a = [] := List.eq_nil_of_length_eq_zero h
    subst this; rfl
  | v :: b, p, a, r, h => by
    match a, h with
    | c :: a, h =>
      have h' : a.length = b.length := by simpa using h
      have := setL_mid b (p ++ [v]) a r h'
      rw [setL]
      simp only [List.length_append, List.length_singleton, List.append_assoc, List.singleton_append] at this
      rw [show (p ++ (c :: a) ++ r).set p.length v = p ++ (v :: (a ++ r)) from by simp [List.set_append_right]]
      simpa using this
theorem flat_len {α : Type} {f : α → List Value} {k : Nat} (hf : ∀ x, (f x).length = k) : ∀ l : List α, (l.flatMap f).length = l.length * k
  | [] => by simp
  | x :: l => by rw [List.flatMap_cons, List.length_append, hf, flat_len hf l, List.length_cons, Nat.add_mul, Nat.one_mul, Nat.add_comm]
theorem set_flat {α : Type} {f : α → List Value} {k : Nat} (hf : ∀ x, (f x).length = k) {l : List α} {i : Nat} (hi : i < l.length) (x : α) : setL (l.flatMap f) (i * k) (f x) = (l.set i x).flatMap f := by
  have e : l = l.take i ++ l[i] :: l.drop (i + 1) := by rw [List.getElem_cons_drop, List.take_append_drop]
  rw [List.set_eq_take_append_cons_drop, if_pos hi]
  conv => lhs; rw [e]
  rw [List.flatMap_append, List.flatMap_cons, List.flatMap_append, List.flatMap_cons]
  have hl : ((l.take i).flatMap f).length = i * k := by rw [flat_len hf, List.length_take, Nat.min_eq_left (by omega)]
  have := setL_mid (f x) ((l.take i).flatMap f) (f l[i]) ((l.drop (i + 1)).flatMap f) (by rw [hf, hf])
  rw [hl] at this
  simpa using this
theorem rec_get {α : Type} {f : α → List Value} {k : Nat} (hf : ∀ x, (f x).length = k) {z : α} {l : List α} {i j : Nat} (hi : i < l.length) (hj : j < k) : (l.flatMap f)[i * k + j]? = (f (l.getD i z))[j]? := by
  rw [get_flat hf l i j hi hj, List.getD_eq_getElem?_getD, List.getElem?_eq_getElem hi]; rfl
theorem rec_gets {α : Type} {f : α → List Value} {k : Nat} (hf : ∀ x, (f x).length = k) {z : α} {l : List α} {i o : Nat} {cs : List Value} (hi : i < l.length) (ho : o + cs.length ≤ k) (hc : ((f (l.getD i z)).drop o).take cs.length = cs) :
    ∀ j v, cs[j]? = some v → (l.flatMap f)[i * k + o + j]? = some v := fun j v hj => by
  have hjl := (List.getElem?_eq_some_iff.1 hj).1
  rw [Nat.add_assoc, rec_get hf (z := z) hi (show o + j < k by omega)]
  have := congrArg (fun l : List Value => l[j]?) hc
  rw [List.getElem?_take, if_pos hjl, List.getElem?_drop] at this
  rw [this]; exact hj
section
variable {P : Program} {σ : List (Nat × Value)} {t E size n b cap j : Nat} {xs xs' : List Value} {dst : Option Tmp} {ty : TypeId} {pos : String} {after : Array Edge} {g : Option (Nat × Bool)} {x y : Operand}
theorem o_loadRowN (cs : List Value) (hx : ev σ x = some (.pointer (some ⟨b, j, none⟩))) (hn : 0 < n) (ht : rowT P t cs.length = true) (hu : ∀ i v, cs[i]? = some v → xs[j + i]? = some v) :
    Opr P σ ⟨dst, .load t x, ty, pos, after, g⟩ [rowR E size (.slice (some ⟨b, 0, none⟩) n cap) n xs] (Same [rowR E size (.slice (some ⟨b, 0, none⟩) n cap) n xs] (.agg cs.toArray)) := by
  intro ρ hρ w own hH hO
  have hb : Row w (fun k => own k = 0 + 1) E size (.slice (some ⟨b, 0, none⟩) n cap) n xs := hH 0 _ rfl
  obtain ⟨g', off', e1, _, _, hc⟩ := hb.cells.addr hn
  injection e1 with e1
  injection e1 with e1 e2
  subst e1 e2
  exact .inl ⟨_, w, .inl (by simp [execOp, hρ x _ hx, run_loadN (n := 0) ht (fun i v hi => by have := hc (j + i) v (hu i v hi); rwa [Nat.zero_add] at this), Result.andThen]), became_same hH ⟨rfl, rfl⟩⟩
theorem o_storeRowN {v : Value} (hx : ev σ x = some (.pointer (some ⟨b, j, none⟩))) (hy : ev σ y = some v) (hn : 0 < n) (hs : sizeT P t v.cells.size = true) (hi : j + v.cells.size ≤ n * size) (h1 : v.cells.toList.all Value.oneCell' = true) (he : setL xs j v.cells.toList = xs') :
    Opr P σ ⟨dst, .store t x y, ty, pos, after, g⟩ [rowR E size (.slice (some ⟨b, 0, none⟩) n cap) n xs] (Same [rowR E size (.slice (some ⟨b, 0, none⟩) n cap) n xs'] undef) := by
  intro ρ hρ w own hH hO
  have hr : Row w (fun k => own k = 0 + 1) E size (.slice (some ⟨b, 0, none⟩) n cap) n xs := hH 0 _ rfl
  rcases hr.shape with ⟨e1, e2, _⟩ | ⟨g', cap', cur, e1, hS, hb, hnc, hc, hl, hx2⟩
  · omega
  · cases e1
    have hB : BlkAt w (fun k => own k = 0 + 1) b cur E := ⟨hb, hS⟩
    obtain ⟨h2, h3⟩ := blk_sets v.cells.toList j cur w hB
    have hle : n * size ≤ cap * size := Nat.mul_le_mul_right _ hnc
    refine .inl ⟨undef, _, .inr ⟨by simp [execOp, hρ x _ hx, hρ y _ hy, run_storeN hB hs (show j + v.cells.size ≤ cur.length by rw [hl]; omega) h1, Result.andThen], rfl⟩, [rowR E size (.slice (some ⟨b, 0, none⟩) n cap) n xs'], own, ⟨rfl, rfl⟩, fun i R hj => ?_, h3.mono fun k _ q => by simp at q; omega, fun _ _ q => q⟩
    match i, hj with
    | 0, hj =>
      cases hj
      refine Row.mk h2.2 h2.1 hnc hc (by rw [setL_len]; exact hl) ?_
      rw [setL_take, hx2, he]
theorem rowR.cut {a : Option Addr} {m : Nat} (h : m ≤ n) (hx : xs.take (m * size) = xs') (w : World) (S : Nat → Prop) (q : (rowR E size (.slice a n cap) n xs).p w S) : (rowR E size (.slice a m cap) m xs').p w S := by
  have hr : Row w S E size (.slice a n cap) n xs := q
  rcases hr.shape with ⟨e1, e2, e3⟩ | ⟨g', cap', cur, e1, hS, hb, hnc, hc, hl, hx2⟩
  · subst e2 e3
    have : m = 0 := by omega
    subst this
    cases e1
    have : xs' = [] := by rw [← hx]; simp
    subst this
    exact Row.nil w S E size
  · cases e1
    exact Row.mk hS hb (by omega) hc hl (by rw [← hx, ← hx2, List.take_take, Nat.min_eq_left (Nat.mul_le_mul_right _ h)])
end
theorem take_flat {α : Type} {f : α → List Value} {k : Nat} (hf : ∀ x, (f x).length = k) (l : List α) (m : Nat) : (l.flatMap f).take (m * k) = (l.take m).flatMap f := by
  rcases Nat.lt_or_ge m l.length with h | h
  · have e : l = l.take m ++ l.drop m := (List.take_append_drop m l).symm
    conv => lhs; rw [e]
    rw [List.flatMap_append, List.take_append_of_le_length (by rw [flat_len hf, List.length_take, Nat.min_eq_left (by omega)]; exact Nat.le_refl _), List.take_of_length_le]
    rw [flat_len hf, List.length_take, Nat.min_eq_left (by omega)]; exact Nat.le_refl _
  · rw [List.take_of_length_le h, List.take_of_length_le]
    rw [flat_len hf]; exact Nat.mul_le_mul_right _ h
end Go.Proofs.YtholinnmjoelkaaGreatDoor
