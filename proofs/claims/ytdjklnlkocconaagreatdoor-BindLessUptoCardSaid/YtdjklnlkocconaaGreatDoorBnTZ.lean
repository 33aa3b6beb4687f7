/-
  slices.Sorted(maps.Keys(m)) at keys that are ints: the two calls, one behind the other.
  A map of numbers to true: what it answers, what a store makes of it, its keys sorted.
  bind.Needs: the places of the statements on which one leans, rising: a new row.
  A row of numbers that is taken from ahead and appended to behind; a row of marks.
-/
import Derived.Test.YtdjklnlkocconaaGreatDoorIter
import Derived.Test.YtdjklnlkocconaaGreatDoorShelf2
import Derived.Test.YtdjklnlkocconaaGreatDoorBnSZ
import Derived.Test.YtdjklnlkocconaaGreatDoorBnPZ
import Derived.Lib.Hide
import Derived.ArgAppend
namespace Go.Proofs.YtdjklnlkocconaaGreatDoor
open Go Go.RowKit Go.Maps Go.Sort Go.Shelf

theorem sortsA (m : Nat) : AnyZI.SortsIn Tryz.prog Tryz.sortedA_ren Fence.wide m :=
  ⟨fun blk off cap ss W hH hblk hsz => callsIn_wide.2 (AnyM.slices_Sort_int Tryz.laysSlM5_f45 blk off cap ss W hH hblk hsz),
   fun p cap W => callsIn_wide.2 (AnyM.slices_Sort_int_none Tryz.laysSlM5_f45 p cap W)⟩

theorem keys_any (b : Option Nat) (W : World) :
    Calls Tryz.prog 30 #[.map b] W fun e w' => e = .returned (.func (.func 46) #[] #[.pointer (some ⟨W.heap.size, 0, none⟩)]) ∧ w' = W.alloc (.cells #[.map b] 57) :=
  (callsIn_wide (n := 5)).1 (AnyZI.keys_in Tryz.keysA Fence.wide 5 trivial rfl b W)

theorem sorted_any {H : Type} (b nn : Nat) (D0 : DataW H) (R : Value → Option (DataW H × List MemPlace)) (w : World) (hown : w.ownsMap Tryz.prog 3 R b nn D0) (hmax : Maps.size D0 ≤ maxLen) (hbytes : Maps.size D0 * 8 ≤ 140737488355328) (g : Nat) (hg : g = w.heap.size) :
    Calls Tryz.prog 29 #[.func (.func 46) #[] #[.pointer (some ⟨g, 0, none⟩)]] (w.alloc (.cells #[.map (some b)] 57)) fun e w' => ∃ (v : Value) (ss : List Int), e = .returned v ∧ ss.Perm (intKeys D0) ∧
      w'.ownsRow (w.heap.size + 1) 3 1 v ss.length ((ss.mergeSort (fun x y => decide (x ≤ y))).map encZ) ∧ Below (w.heap.size + 1) (w.alloc (.cells #[.map (some b)] 57)) w' := by
  subst hg
  have hbl := hown.lt
  have hseq : SeqGives Fence.wide 2 Tryz.prog 46 #[.pointer (some ⟨w.heap.size, 0, none⟩)] encZ (fun ss => ss.Perm (intKeys D0)) (Maps.size D0) (w.alloc (.cells #[.map (some b)] 57)) :=
    AnyZI.keys_gives (ρ := Tryz.keysA_ren) { Tryz.keysA with } Fence.wide _ trivial rfl (by omega) w.heap.size b nn D0 _ (by simp) (by simp) (by
      obtain ⟨es, clock, hb, Ft, hs, hD⟩ := hown
      exact ⟨es, clock, (Below.heap_alloc _ _ b hbl).trans hb, Ft, hs, hD⟩)
  have cS := AnyZI.sorted_in Tryz.sortedA Fence.wide 5 trivial trivial trivial trivial rfl (by omega) (sortsA _) (enters_of Tryz.func45 (by kernel_rfl) rfl) 46 #[.pointer (some ⟨w.heap.size, 0, none⟩)] trivial (enters_of Tryz.func46 (by kernel_rfl) rfl) _ _ hmax hbytes _ hseq
  change CallsIn _ _ Tryz.prog 29 _ _ _ at cS
  refine ((callsIn_wide (n := 5)).1 cS).mono ?_
  rintro e w' ⟨v, ss, he, hS, hrow, _, hb⟩
  have hz : (w.alloc (.cells #[.map (some b)] 57)).heap.size = w.heap.size + 1 := by simp
  rw [hz] at hrow hb
  exact ⟨v, ss, he, hS, hrow, hb⟩
end Go.Proofs.YtdjklnlkocconaaGreatDoor

namespace Go.Proofs.YtdjklnlkocconaaGreatDoor
open Go Go.RowKit Go.Maps

def intL (l : List Nat) : List Value := l.map fun j : Nat => .int .i64 (j : Int)
def plc (l : List St) (s : List UInt8) : Nat := (placeS l s).toNat
theorem grown_any {w w' : World} {row : Option Nat} (h : w.grownBy w' none) : w.grownBy w' row := ⟨h.os, h.tape, h.output, h.size, fun k hk _ => h.block k hk (by simp)⟩
theorem onceF_len (r : List (List UInt8)) : ∀ acc : List (List UInt8), (onceF r acc).length ≤ acc.length + r.length := by
  induction r with
  | nil => intro acc; exact Nat.le_refl _
  | cons s r ih =>
    intro acc
    rw [onceF]
    split
    · have := ih acc
      simp only [List.length_cons]
      omega
    · have := ih (acc ++ [s])
      simp only [List.length_append, List.length_cons, List.length_nil] at this ⊢
      omega
theorem usesD_len (x : St) : (usesD x).length ≤ (usesSt x).length := by
  have := onceF_len ((usesSt x).map (·.1)) []
  rw [List.length_map] at this
  simpa [usesD] using this

theorem zeroBool (w : World) : (zeroValue 4).run Tryz.prog w = .ok (.bool false) w := by kernel_rfl
theorem wfNat {n : Nat} (h : n ≤ 1000000) : (Lit.int .i64 (n : Int)).wf = true := by
  have h1 : IntKind.i64.min ≤ (n : Int) := by
    show (-9223372036854775808 : Int) ≤ _
    omega
  have h2 : (n : Int) ≤ IntKind.i64.max := by
    show _ ≤ (9223372036854775807 : Int)
    omega
  unfold Lit.wf
  rw [Bool.and_eq_true, decide_eq_true_eq, decide_eq_true_eq]
  exact ⟨h1, h2⟩
theorem plainBool_inv {P : Program} {e : TypeId} (he : P.underlying e = some .bool) {v : Value} {z : DataW Unit × List MemPlace} (h : plainElem P e v = some z) : ∃ c, v = .bool c ∧ z = (.lit (.bool c), []) := by
  unfold plainElem at h
  rw [he] at h
  cases v <;> simp at h
  exact ⟨_, rfl, h.symm⟩

/-- The map of those that are needed. -/
def NeedAt (w : World) (b n : Nat) (need : List Nat) : Prop := ∃ D : DataW Unit, w.ownsMap Tryz.prog 3 (plainElem Tryz.prog 4) b n D ∧ IsMap D ∧ (∀ j : Nat, D.atKey (.int .i64 j) (.lit (.bool false)) = .lit (.bool (need.contains j))) ∧ ∀ x : Int, Maps.has D (.int .i64 x) = true ↔ ∃ j : Nat, x = j ∧ j ∈ need

theorem NeedAt.still {w w' : World} {b n : Nat} {need : List Nat} (h : NeedAt w b n need) (hg : w.grownBy w' none) : NeedAt w' b n need := by
  obtain ⟨D, h1, h2, h3, h4⟩ := h
  exact ⟨D, h1.kept hg (by simp), h2, h3, h4⟩
theorem NeedAt.lt {w : World} {b n : Nat} {need : List Nat} (h : NeedAt w b n need) : b < w.heap.size := by
  obtain ⟨D, h1, _⟩ := h
  exact h1.lt
theorem NeedAt.new (w : World) : NeedAt (w.alloc (.map #[] 0)) w.heap.size 0 [] := ⟨.map [], World.ownsMap_made _ _ _ _, isMap_empty, fun _ => rfl, fun x => ⟨fun h => (by cases h), fun ⟨j, _, h⟩ => (by cases h)⟩⟩

theorem NeedAt.look {w : World} {b n : Nat} {need : List Nat} (h : NeedAt w b n need) (k : Nat) (hk : k ≤ 1000000) : (Instr.lookup 57 (.map (some b)) (.int .i64 (k : Int)) false).run Tryz.prog w = .ok (.bool (need.contains k)) w := by
  obtain ⟨D, h1, _, h3, _⟩ := h
  obtain ⟨v, ps, hrun, hv⟩ := h1.lookup (int_keyed Tryz.underlying3) Tryz.underlying57 (zeroBool w) (plainElem_bool Tryz.underlying4 false) (keyOf_int_mk Tryz.underlying3 (wfNat hk))
  obtain ⟨c, rfl, hc⟩ := plainBool_inv Tryz.underlying4 hv
  rw [h3 k] at hc
  simp at hc
  rw [hrun, ← hc.1]
  simp

theorem NeedAt.put {w : World} {b n : Nat} {need : List Nat} (h : NeedAt w b n need) (k : Nat) (hk : k ≤ 1000000) (hn : n < maxLen) : ∃ w', (Instr.mapUpdate 57 (.map (some b)) (.int .i64 (k : Int)) (.bool true)).run Tryz.prog w = .ok () w' ∧ NeedAt w' b (n + 1) (need ++ [k]) ∧ w.grownBy w' (some b) := by
  obtain ⟨D, h1, h2, h3, h4⟩ := h
  obtain ⟨w', hrun, hown, hg⟩ := h1.update (int_keyed Tryz.underlying3) Tryz.underlying57 hn (keyOf_int_mk Tryz.underlying3 (wfNat hk)) (plainElem_bool Tryz.underlying4 true)
  refine ⟨w', hrun, ⟨_, hown, h2.put _ _, fun j => ?_, fun x => ?_⟩, hg⟩
  · by_cases e : j = k
    · subst e
      rw [atKey_put_same h2 (by trivial)]
      simp
    · rw [atKey_put_other (fun h => e (by have := (Lit.int.inj h).2; omega)), h3 j]
      simp [e]
  · by_cases e : x = (k : Int)
    · subst e
      rw [has_put_same h2 (by trivial)]
      exact ⟨fun _ => ⟨k, rfl, by simp⟩, fun _ => rfl⟩
    · rw [has_put_other (fun h => e (Lit.int.inj h).2), h4 x]
      constructor
      · rintro ⟨j, rfl, hj⟩; exact ⟨j, rfl, by simp [hj]⟩
      · rintro ⟨j, rfl, hj⟩
        rcases List.mem_append.1 hj with hj | hj
        · exact ⟨j, rfl, hj⟩
        · simp at hj; subst hj; exact absurd rfl e

theorem NeedAt.out {w : World} {b n : Nat} {need : List Nat} (h : NeedAt w b n need) : ∃ D : DataW Unit, w.ownsMap Tryz.prog 3 (plainElem Tryz.prog 4) b n D ∧ Maps.size D ≤ n ∧ ∀ ss : List Int, ss.Nodup → (∀ x, x ∈ ss ↔ ∃ j : Nat, x = j ∧ j ∈ need) → ss.Perm (intKeys D) := by
  obtain ⟨D, h1, h2, h3, h4⟩ := h
  refine ⟨D, h1, h1.size_le, fun ss hnd hm => ?_⟩
  obtain ⟨es, hD, hpw, _⟩ := h1.entries (int_keyed Tryz.underlying3)
  obtain ⟨es', hD', hko⟩ := h1.keysOf
  obtain rfl : es = es' := by rw [hD] at hD'; simpa using hD'
  subst hD
  exact perm_intKeys hpw (fun p hp => by obtain ⟨v, hv⟩ := hko p hp; obtain ⟨x, _, hx, _⟩ := Maps.keyOf_i64 Tryz.underlying3 hv; exact ⟨x, hx⟩) hnd (fun x => by rw [hm x, h4 x])

/-- What is sorted at the end. -/
theorem sort_keys {l : List St} {i : Nat} {need : List Nat} {K ss : List Int} (hm : ∀ j, j ∈ need ↔ j ∈ needsS l i) (hK : ∀ ss : List Int, ss.Nodup → (∀ x, x ∈ ss ↔ ∃ j : Nat, x = j ∧ j ∈ need) → ss.Perm K) (hp : ss.Perm K) :
    (ss.mergeSort (fun x y => decide (x ≤ y))).map encZ = intL (needsS l i) ∧ ss.length = (needsS l i).length := by
  have hnd : ((needsS l i).map fun j : Nat => (j : Int)).Nodup := by
    rw [List.Nodup, List.pairwise_map]
    exact (needsS_sorted l i).imp fun h => by omega
  have h1 := hK _ hnd (fun x => by
    rw [List.mem_map]
    constructor
    · rintro ⟨j, h, rfl⟩; exact ⟨j, rfl, (hm j).2 h⟩
    · rintro ⟨j, rfl, h⟩; exact ⟨j, (hm j).1 h, rfl⟩)
  have h2 := hp.trans h1.symm
  have h3 := sort_needs (l := l) (i := i) (h2.nodup_iff.2 hnd) (fun x => by
    rw [h2.mem_iff, List.mem_map]
    constructor
    · rintro ⟨j, h, rfl⟩; exact ⟨j, rfl, h⟩
    · rintro ⟨j, rfl, h⟩; exact ⟨j, h, rfl⟩)
  refine ⟨?_, ?_⟩
  · rw [h3, List.map_map, intL]
    rfl
  · rw [h2.length_eq, List.length_map]

def InAt (w3 : World) (l : List St) (L : List (List UInt8)) (need : List Nat) (b cnt m k : Nat) (u : Value) (wr : World) : Prop := ∃ j : Nat, u = .int .i64 j ∧ j ≤ m ∧ m < k + j ∧ w3.grownBy wr (some b) ∧ NeedAt wr b (cnt + j) (need ++ (L.take j).map (plc l))
def NdAt (w : World) (l : List St) (R : List Nat) (i0 b k : Nat) (u : Value) (wr : World) : Prop := ∃ (t : Nat) (kk : Int) (need : List Nat) (cnt : Nat), u = .int .i64 kk ∧ kk = (t : Int) - 1 ∧ t ≤ i0 + 1 ∧ t < k ∧ Below w.heap.size w wr ∧ NeedAt wr b cnt need ∧ cnt ≤ (i0 + 1 - t) * 4000000 ∧ backF (outS l) i0 t need = R

theorem needsV_of {l : List St} {i0 : Nat} (h : (checkS l).2 = 0) (hi : i0 < l.length) : needsV l (i0 : Int) = needsS l i0 := by
  rw [needsV, if_pos ⟨h, by omega, by omega⟩]
  rfl
theorem needsV_not {l : List St} {i : Int} (h : ¬ ((checkS l).2 = 0 ∧ 0 ≤ i ∧ i < l.length)) : needsV l i = [] := by rw [needsV, if_neg h]

end Go.Proofs.YtdjklnlkocconaaGreatDoor

namespace Go.Proofs.YtdjklnlkocconaaGreatDoor
open Go Go.RowKit Go.Maps

/-- What the call gives back: a row. -/
def RowE (w : World) (l : List Nat) (e : Ending) (w' : World) : Prop := ∃ v, e = .returned v ∧ w'.ownsRow w.heap.size 3 1 v l.length (intL l) ∧ Below w.heap.size w w'
theorem rowE_nil {w w' : World} (hb : Below w.heap.size w w') : RowE w [] (.returned (.slice none 0 0)) w' := ⟨_, rfl, World.ownsRow_nil _ _ _ _, hb⟩

set_option maxHeartbeats 4000000 in
set_option maxRecDepth 100000 in
theorem needs_any (l : List St) (v : Value) (i : Int) (w : World) (hp : Prints l) (hnl : ∀ x ∈ l, x.name.length ≤ maxLen ∧ ∀ u ∈ usesSt x, u.1.length ≤ maxLen) (hus : ∀ x ∈ l, (usesSt x).length ≤ 4000000) (h : StsIs w v l) (hgd : Good w) :
    Calls Tryz.prog 12 #[v, .int .i64 i] w (RowE w (needsV l i)) := by
  have H := Lib.hid h
  have HCH := Lib.hid (bcheck_any l v w hp hnl hus h hgd)
  have HUS := Lib.hid hus
  obtain ⟨hn, a, c, rfl, _⟩ := h
  obtain ⟨n, hln⟩ : ∃ n, l.length = n := ⟨_, rfl⟩
  rw [hln] at hn H HCH ⊢
  have HLN := Lib.hid hln
  clear hp hnl hus hgd
  by_cases hok : (checkS l).2 = 0 ∧ 0 ≤ i ∧ i < n
  case neg =>
    rw [needsV_not (by rw [hln]; exact hok)]
    obtain ⟨E, hE⟩ : ∃ q, (checkS l).2 = q := ⟨_, rfl⟩
    rw [hE] at hok HCH
    clear hE hln
    by_cases hE0 : E = 0
    · subst hE0
      by_cases hi0 : i < 0
      · clear hok
        go_enter Tryz.func12, Tryz.ntmps12
        go_wp2_with fail
        refine HCH.out.mono ?_
        rintro e w1 ⟨rfl, hb1⟩
        go_wp2
        go_ret
        exact rowE_nil hb1
      · have hi1 : (n : Int) ≤ i := by omega
        have hd1 : decide ((n : Int) ≤ i) = true := by simp; omega
        clear hok
        go_enter Tryz.func12, Tryz.ntmps12
        go_wp2_with fail
        refine HCH.out.mono ?_
        rintro e w1 ⟨rfl, hb1⟩
        go_wp2
        go_ret
        exact rowE_nil hb1
    · have hEn : (E != 0) = true := by simpa using hE0
      clear hok hE0
      go_enter Tryz.func12, Tryz.ntmps12
      go_wp2_with fail
      refine HCH.out.mono ?_
      rintro e w1 ⟨rfl, hb1⟩
      go_wp2
      go_ret
      exact rowE_nil hb1
  obtain ⟨h0, h1, h2⟩ := hok
  obtain ⟨i0, rfl⟩ := Int.eq_ofNat_of_zero_le h1
  have hin : i0 < n := by omega
  rw [needsV_of h0 (by rw [hln]; exact hin)]
  obtain ⟨hpt, hck⟩ := checkS_ok h0
  have HCK := Lib.hid hck
  obtain ⟨t, ht⟩ := hpt
  have hn1000 : n ≤ 1000 := by
    have := ((printS_iff l t).1 ht).2.1
    omega
  rw [h0] at HCH
  obtain ⟨NS, hNS⟩ : ∃ q, needsS l i0 = q := ⟨_, rfl⟩
  obtain ⟨R, hR⟩ : ∃ q, backF (outS l) i0 (i0 + 1) [] = q := ⟨_, rfl⟩
  have HRS : Hid (∀ j, j ∈ R ↔ j ∈ needsS l i0) := by
    intro j
    rw [needsS_mem hck, ← hR]
    have h := backS_spec (outS l) i0 (outS_lower hck) j
    rw [backS] at h
    rw [h]
    refine ⟨fun r => ⟨?_, r⟩, fun r => r.2⟩
    have := r.lower (outS_lower hck)
    omega
  rw [hNS]
  have HNS := Lib.hid hNS
  have HR := Lib.hid hR
  obtain ⟨E1, hE1⟩ : ∃ q, (checkS l).1 = q := ⟨_, rfl⟩
  rw [hE1] at HCH
  have hmm := @run_makeMap Tryz.prog
  have hmf : ∀ (fn : Fn) (first cap : Array Value) (w : World), (Instr.makeFunc fn first cap).run Tryz.prog w = .ok (.func fn first cap) w := fun _ _ _ _ => rfl
  have hd0 : decide ((n : Int) ≤ (i0 : Int)) = false := by simp; omega
  have hd1 : decide (n ≤ i0) = false := by simp; omega
  have hd9 : decide ((i0 : Int) < 0) = false := by simp
  clear h0 h1 h2 hck ht hNS hR hln hE1
  go_enter Tryz.func12, Tryz.ntmps12
  go_wp2_with fail
  refine HCH.out.mono ?_
  rintro e w1 ⟨rfl, hb1⟩
  have B1 := Lib.hid hb1
  clear HCH hb1
  go_wp2_with fail
  have HA0 : Hid (NdAt w l R i0 w1.heap.size (i0 + 2) (.int .i64 (i0 : Int)) (w1.alloc (.map #[] 0))) := ⟨i0 + 1, (i0 : Int), [], 0, rfl, by omega, Nat.le_refl _, by omega, B1.out.alloc B1.out.size _, NeedAt.new _, by omega, HR.out⟩
  have hbb := B1.out.size
  generalize w1.heap.size = b at *
  generalize (w1.alloc (.map #[] 0)) = w2 at *
  clear B1 HR hd0 hd1 hd9 hmm
  go_loopg [8] (i0 + 2) (fun k u wr => Hid (NdAt w l R i0 b k u wr))
  case atStart => exact HA0
  case round =>
    obtain ⟨t, kk, need, cnt, rfl, hkk, hti, htk, hbw, hne, hcnt, hr⟩ := hrel.out
    have HB := Lib.hid hbw
    have HNE := Lib.hid hne
    have HBF := Lib.hid hr
    clear hrel hbw hne hr HA0
    cases t with
    | zero =>
      obtain rfl : kk = -1 := by omega
      obtain rfl : need = R := HBF.out
      obtain ⟨D, hD1, hD2, hD3⟩ := HNE.out.out
      have HD1 := Lib.hid hD1
      have HD3 := Lib.hid hD3
      clear hD1 hD3 hkk hmf
      go_wp2_with fail
      refine (keys_any (some b) _).mono ?_
      rintro e w4 ⟨rfl, rfl⟩
      go_wp2_with fail
      refine (sorted_any b cnt D _ wr HD1.out (by unfold maxLen; omega) (by omega) wr.heap.size rfl).mono ?_
      rintro e w5 ⟨v, ss, rfl, hperm, hrow, hb5⟩
      obtain ⟨hs1, hs2⟩ := sort_keys HRS.out HD3.out hperm
      rw [hs1, hs2] at hrow
      have HRW := Lib.hid hrow
      have HBZ : Hid (Below w.heap.size w w5) := (HB.out.alloc HB.out.size _).trans (hb5.mono (by have := HB.out.size; omega))
      clear hperm hrow hb5 hs1 hs2
      go_wp2
      go_ret
      refine ⟨_, rfl, ?_, HBZ.out⟩
      have h := HRW.out
      rw [HNS.out] at h
      exact Joins.ownsRow_le h (by have := HB.out.size; omega)
    | succ k0 =>
      obtain rfl : kk = (k0 : Int) := by omega
      have hdz : decide (0 ≤ (k0 : Int)) = true := by simp
      clear hkk
      by_cases hki : k0 = i0
      · have HRN : Hid (backF (outS l) i0 k0 (need ++ outS l k0) = R) := by
          have h := HBF.out
          rw [backF, if_pos (.inl hki)] at h
          exact h
        have hdi : decide ((k0 : Int) < (i0 : Int)) = false := by simp; omega
        have hdi2 : decide (k0 < i0) = false := by simp; omega
        clear HBF hki
        obtain ⟨x, hx⟩ : ∃ x, l[k0]? = some x := ⟨l[k0]'(by rw [HLN.out]; omega), List.getElem?_eq_getElem _⟩
        have HX := Lib.hid hx
        obtain ⟨g1, o1, cap1, e1, hl1, A, B, q1, na, nb⟩ := (sts_below H.out HB.out).get hx
        injection e1 with e1a e1b e1c
        subst e1a e1c
        clear e1b
        obtain ⟨kind, name, xa, xb, rule, N, d, K, snap⟩ := x
        have x0 := q1 0 (by decide)
        have x1 := q1 1 (by decide)
        have x2 := q1 2 (by decide)
        have x3 := q1 3 (by decide)
        have x4 := q1 4 (by decide)
        have x5 := q1 5 (by decide)
        have x6 := q1 6 (by decide)
        have x7 := q1 7 (by decide)
        have x8 := q1 8 (by decide)
        have x9 := q1 9 (by decide)
        have x10 := q1 10 (by decide)
        have x11 := q1 11 (by decide)
        have x12 := q1 12 (by decide)
        simp only [stCells, List.getElem?_cons_succ, List.getElem?_cons_zero, Nat.add_zero] at x0 x1 x2 x3 x4 x5 x6 x7 x8 x9 x10 x11 x12
        have NA := Lib.hid na
        have NB := Lib.hid nb
        have HUL : Hid ((usesN xa).length + (usesN xb).length ≤ 4000000) := by have h := HUS.out _ (List.mem_of_getElem? hx); rw [usesSt_len] at h; exact h
        have hd2 : decide (k0 < n) = true := by simp; omega
        have hd3 : decide ((k0 : Int) < (n : Int)) = true := by simp; omega
        have hkn : k0 < n := by omega
        clear q1 hx na nb
        go_wp2_with fail
        refine (bUses_any kind name xa xb rule N d K snap A B _ NA.out NB.out HUL.out).mono ?_
        rintro e w3 ⟨va, rfl, hra, hb3⟩
        obtain ⟨L, hL⟩ : ∃ q, usesD ⟨kind, name, xa, xb, rule, N, d, K, snap⟩ = q := ⟨_, rfl⟩
        have HOUT : Hid (outS l k0 = L.map (plc l)) := by
          show _ = _
          rw [outS_some HX.out, hL]
          rfl
        have HED : Hid (∀ s ∈ L, ∃ j : Nat, placeS l s = j ∧ j < k0) := by
          intro s hs
          rw [← hL] at hs
          obtain ⟨j, y, h1, h2, _, _⟩ := bound_edge HCK.out HX.out hs
          exact ⟨j, h1, h2⟩
        have hLl : L.length ≤ 4000000 := by
          rw [← hL]
          exact Nat.le_trans (usesD_len _) (HUS.out _ (List.mem_of_getElem? HX.out))
        rw [hL] at hra
        obtain ⟨m, hm⟩ : ∃ m, L.length = m := ⟨_, rfl⟩
        have HUM : Hid (L.length = m) := hm
        rw [hm] at hra hLl
        obtain ⟨aa, ca, rfl⟩ := owns_shape hra
        have HRA := Lib.hid hra
        have HB3 : Hid (Below w.heap.size w w3) := HB.out.trans (hb3.mono HB.out.size)
        have HN3 : Hid (NeedAt w3 b cnt need) := HNE.out.still (grown_of_below hb3 none)
        have hrl := hra.lt
        have HRL : Hid (∀ g, (Value.slice aa m ca).ownBlock = some g → b < g) := by
          intro g e
          have h1 := (hrl g e).1
          have h2 := HNE.out.lt
          omega
        have hb0 : b < w3.heap.size := HN3.out.lt
        clear hL hm hra hb3 NA NB HUL HB HNE hrl x0 x1 x2 x3 x4 x5 x6 x7 x8 x9 x10 x11 x12
        go_wp2_with fail
        obtain ⟨gO, hgO⟩ : ∃ q, q = gk := ⟨_, rfl⟩
        subst hgO
        go_loopg [49] (m + 1) (fun k u wr => Hid (InAt w3 l L need b cnt m k u wr))
        case atStart => exact ⟨0, rfl, Nat.zero_le _, by omega, grown_refl _ _, by rw [List.take_zero, List.map_nil, List.append_nil]; exact HN3.out⟩
        case round =>
          obtain ⟨j, rfl, hj, hkj, hbw, hne⟩ := hrel.out
          have HBW := Lib.hid hbw
          have HNW := Lib.hid hne
          clear hrel hbw hne
          by_cases hjm : j < m
          · obtain ⟨s, hsj⟩ : ∃ s, L[j]? = some s := ⟨L[j]'(by rw [HUM.out]; exact hjm), List.getElem?_eq_getElem _⟩
            have HSJ := Lib.hid hsj
            obtain ⟨P, hP, hPk⟩ := HED.out s (List.mem_of_getElem? hsj)
            obtain ⟨ga, capa, hv, _, hga, _, hca⟩ := owns_slice HRA.out (by omega)
            have hbga : b < ga := HRL.out ga (by rw [hv]; rfl)
            cases hv
            have y0 := (World.cell?_of_block (a := ⟨ga, j, none⟩) (HBW.out.block ga hga (fun e => by have := Option.some.inj (show some ga = some b from e); omega))).trans (hca _ _ (strL_get hsj))
            have hd4 : decide (j < m) = true := by simp; omega
            have hd5 : decide ((j : Int) < (m : Int)) = true := by simp; omega
            have HBR : Hid (Below w.heap.size w wr) := HB3.out.grown HBW.out HB3.out.size (fun k e => by have := Option.some.inj (show some b = some k from e); omega)
            have HIX : Hid (Calls Tryz.prog 27 #[.slice (some ⟨g1, o1, none⟩) n c, .func (.func 28) #[] #[.pointer (some ⟨wr.heap.size, 0, none⟩)]] (wr.alloc (.cells #[.string (bs s)] 9)) fun e w' => e = .returned (.int .i64 (P : Int)) ∧ (wr.alloc (.cells #[.string (bs s)] 9)).grownBy w' none) := by
              show Calls _ _ _ _ _
              rw [← hP]
              exact index_n l _ wr.heap.size s _ ((sts_below H.out HBR.out).still (grown_alloc _ _ _)) (by simp) (Blk1.new wr _ _).cell
            have HPN : Hid (plc l s = P) := by
              show _ = _
              rw [plc, hP]
              rfl
            clear hsj hP hca
            go_wp2_with fail
            refine HIX.out.mono ?_
            rintro e w5 ⟨rfl, hg5⟩
            have HG5 : Hid (wr.grownBy w5 none) := grown_trans (grown_alloc _ _ _) hg5
            obtain ⟨w6, hrun6, hne6, hgrow6⟩ := (HNW.out.still HG5.out).put P (by omega) (by unfold maxLen; omega)
            have HR6 : Hid (w3.grownBy w6 (some b)) := grown_trans (grown_trans HBW.out (grown_any HG5.out)) hgrow6
            have HN6 : Hid (NeedAt w6 b (cnt + (j + 1)) (need ++ (L.take (j + 1)).map (plc l))) := by
              show NeedAt _ _ _ _
              rw [List.take_add_one, HSJ.out, List.map_append, ← List.append_assoc, ← Nat.add_assoc]
              have e : ((some s).toList.map (plc l)) = [P] := by
                show [plc l s] = _
                rw [HPN.out]
              rw [e]
              exact hne6
            clear hg5 hne6 hgrow6 HIX y0 HBW HNW HBR
            go_wp2
            go_roundg (gk - 1)
            case measure => omega
            case rel => exact ⟨j + 1, by go_num, by omega, by omega, HR6.out, HN6.out⟩
          · have hjm2 : j = m := by omega
            have hd4 : decide (j < m) = false := by simp; omega
            have hd5 : decide ((j : Int) < (m : Int)) = false := by simp; omega
            have HNF : Hid (NeedAt wr b (cnt + m) (need ++ outS l k0)) := by
              have h := HNW.out
              rw [hjm2, List.take_of_length_le (by rw [HUM.out]; omega), ← HOUT.out] at h
              exact h
            have HBR : Hid (Below w.heap.size w wr) := HB3.out.grown HBW.out HB3.out.size (fun k e => by have := Option.some.inj (show some b = some k from e); omega)
            clear hjm2 HNW HBW HB3 HN3
            go_wp2
            go_roundg (gO - 1)
            case measure => omega
            case rel => exact ⟨k0, (k0 : Int) - 1, need ++ outS l k0, cnt + m, rfl, rfl, by omega, by omega, HBR.out, HNF.out, by omega, HRN.out⟩
      · have hklt : k0 < i0 := by omega
        have hdi : decide ((k0 : Int) < (i0 : Int)) = true := by simp; omega
        have hdi2 : decide (k0 < i0) = true := by simp; omega
        have hlk := HNE.out.look k0 (by omega)
        obtain ⟨cb, hcb⟩ : ∃ q, need.contains k0 = q := ⟨_, rfl⟩
        rw [hcb] at hlk
        cases cb with
        | false =>
          have HRN : Hid (backF (outS l) i0 k0 need = R) := by
            have h := HBF.out
            rw [backF, if_neg (by rw [hcb]; simp [hki])] at h
            exact h
          clear HBF hcb
          go_wp2
          go_roundg (gk - 1)
          case measure => omega
          case rel => exact ⟨k0, (k0 : Int) - 1, need, cnt, rfl, rfl, by omega, by omega, HB.out, HNE.out, Nat.le_trans hcnt (Nat.mul_le_mul_right _ (by omega)), HRN.out⟩
        | true =>
          have HRN : Hid (backF (outS l) i0 k0 (need ++ outS l k0) = R) := by
            have h := HBF.out
            rw [backF, if_pos (.inr hcb)] at h
            exact h
          clear HBF hcb
          obtain ⟨x, hx⟩ : ∃ x, l[k0]? = some x := ⟨l[k0]'(by rw [HLN.out]; omega), List.getElem?_eq_getElem _⟩
          have HX := Lib.hid hx
          obtain ⟨g1, o1, cap1, e1, hl1, A, B, q1, na, nb⟩ := (sts_below H.out HB.out).get hx
          injection e1 with e1a e1b e1c
          subst e1a e1c
          clear e1b
          obtain ⟨kind, name, xa, xb, rule, N, d, K, snap⟩ := x
          have x0 := q1 0 (by decide)
          have x1 := q1 1 (by decide)
          have x2 := q1 2 (by decide)
          have x3 := q1 3 (by decide)
          have x4 := q1 4 (by decide)
          have x5 := q1 5 (by decide)
          have x6 := q1 6 (by decide)
          have x7 := q1 7 (by decide)
          have x8 := q1 8 (by decide)
          have x9 := q1 9 (by decide)
          have x10 := q1 10 (by decide)
          have x11 := q1 11 (by decide)
          have x12 := q1 12 (by decide)
          simp only [stCells, List.getElem?_cons_succ, List.getElem?_cons_zero, Nat.add_zero] at x0 x1 x2 x3 x4 x5 x6 x7 x8 x9 x10 x11 x12
          have NA := Lib.hid na
          have NB := Lib.hid nb
          have HUL : Hid ((usesN xa).length + (usesN xb).length ≤ 4000000) := by have h := HUS.out _ (List.mem_of_getElem? hx); rw [usesSt_len] at h; exact h
          have hd2 : decide (k0 < n) = true := by simp; omega
          have hd3 : decide ((k0 : Int) < (n : Int)) = true := by simp; omega
          have hkn : k0 < n := by omega
          clear q1 hx na nb
          go_wp2_with fail
          refine (bUses_any kind name xa xb rule N d K snap A B _ NA.out NB.out HUL.out).mono ?_
          rintro e w3 ⟨va, rfl, hra, hb3⟩
          obtain ⟨L, hL⟩ : ∃ q, usesD ⟨kind, name, xa, xb, rule, N, d, K, snap⟩ = q := ⟨_, rfl⟩
          have HOUT : Hid (outS l k0 = L.map (plc l)) := by
            show _ = _
            rw [outS_some HX.out, hL]
            rfl
          have HED : Hid (∀ s ∈ L, ∃ j : Nat, placeS l s = j ∧ j < k0) := by
            intro s hs
            rw [← hL] at hs
            obtain ⟨j, y, h1, h2, _, _⟩ := bound_edge HCK.out HX.out hs
            exact ⟨j, h1, h2⟩
          have hLl : L.length ≤ 4000000 := by
            rw [← hL]
            exact Nat.le_trans (usesD_len _) (HUS.out _ (List.mem_of_getElem? HX.out))
          rw [hL] at hra
          obtain ⟨m, hm⟩ : ∃ m, L.length = m := ⟨_, rfl⟩
          have HUM : Hid (L.length = m) := hm
          rw [hm] at hra hLl
          obtain ⟨aa, ca, rfl⟩ := owns_shape hra
          have HRA := Lib.hid hra
          have HB3 : Hid (Below w.heap.size w w3) := HB.out.trans (hb3.mono HB.out.size)
          have HN3 : Hid (NeedAt w3 b cnt need) := HNE.out.still (grown_of_below hb3 none)
          have hrl := hra.lt
          have HRL : Hid (∀ g, (Value.slice aa m ca).ownBlock = some g → b < g) := by
            intro g e
            have h1 := (hrl g e).1
            have h2 := HNE.out.lt
            omega
          have hb0 : b < w3.heap.size := HN3.out.lt
          clear hL hm hra hb3 NA NB HUL HB HNE hrl x0 x1 x2 x3 x4 x5 x6 x7 x8 x9 x10 x11 x12
          go_wp2_with fail
          obtain ⟨gO, hgO⟩ : ∃ q, q = gk := ⟨_, rfl⟩
          subst hgO
          go_loopg [49] (m + 1) (fun k u wr => Hid (InAt w3 l L need b cnt m k u wr))
          case atStart => exact ⟨0, rfl, Nat.zero_le _, by omega, grown_refl _ _, by rw [List.take_zero, List.map_nil, List.append_nil]; exact HN3.out⟩
          case round =>
            obtain ⟨j, rfl, hj, hkj, hbw, hne⟩ := hrel.out
            have HBW := Lib.hid hbw
            have HNW := Lib.hid hne
            clear hrel hbw hne
            by_cases hjm : j < m
            · obtain ⟨s, hsj⟩ : ∃ s, L[j]? = some s := ⟨L[j]'(by rw [HUM.out]; exact hjm), List.getElem?_eq_getElem _⟩
              have HSJ := Lib.hid hsj
              obtain ⟨P, hP, hPk⟩ := HED.out s (List.mem_of_getElem? hsj)
              obtain ⟨ga, capa, hv, _, hga, _, hca⟩ := owns_slice HRA.out (by omega)
              have hbga : b < ga := HRL.out ga (by rw [hv]; rfl)
              cases hv
              have y0 := (World.cell?_of_block (a := ⟨ga, j, none⟩) (HBW.out.block ga hga (fun e => by have := Option.some.inj (show some ga = some b from e); omega))).trans (hca _ _ (strL_get hsj))
              have hd4 : decide (j < m) = true := by simp; omega
              have hd5 : decide ((j : Int) < (m : Int)) = true := by simp; omega
              have HBR : Hid (Below w.heap.size w wr) := HB3.out.grown HBW.out HB3.out.size (fun k e => by have := Option.some.inj (show some b = some k from e); omega)
              have HIX : Hid (Calls Tryz.prog 27 #[.slice (some ⟨g1, o1, none⟩) n c, .func (.func 28) #[] #[.pointer (some ⟨wr.heap.size, 0, none⟩)]] (wr.alloc (.cells #[.string (bs s)] 9)) fun e w' => e = .returned (.int .i64 (P : Int)) ∧ (wr.alloc (.cells #[.string (bs s)] 9)).grownBy w' none) := by
                show Calls _ _ _ _ _
                rw [← hP]
                exact index_n l _ wr.heap.size s _ ((sts_below H.out HBR.out).still (grown_alloc _ _ _)) (by simp) (Blk1.new wr _ _).cell
              have HPN : Hid (plc l s = P) := by
                show _ = _
                rw [plc, hP]
                rfl
              clear hsj hP hca
              go_wp2_with fail
              refine HIX.out.mono ?_
              rintro e w5 ⟨rfl, hg5⟩
              have HG5 : Hid (wr.grownBy w5 none) := grown_trans (grown_alloc _ _ _) hg5
              obtain ⟨w6, hrun6, hne6, hgrow6⟩ := (HNW.out.still HG5.out).put P (by omega) (by unfold maxLen; omega)
              have HR6 : Hid (w3.grownBy w6 (some b)) := grown_trans (grown_trans HBW.out (grown_any HG5.out)) hgrow6
              have HN6 : Hid (NeedAt w6 b (cnt + (j + 1)) (need ++ (L.take (j + 1)).map (plc l))) := by
                show NeedAt _ _ _ _
                rw [List.take_add_one, HSJ.out, List.map_append, ← List.append_assoc, ← Nat.add_assoc]
                have e : ((some s).toList.map (plc l)) = [P] := by
                  show [plc l s] = _
                  rw [HPN.out]
                rw [e]
                exact hne6
              clear hg5 hne6 hgrow6 HIX y0 HBW HNW HBR
              go_wp2
              go_roundg (gk - 1)
              case measure => omega
              case rel => exact ⟨j + 1, by go_num, by omega, by omega, HR6.out, HN6.out⟩
            · have hjm2 : j = m := by omega
              have hd4 : decide (j < m) = false := by simp; omega
              have hd5 : decide ((j : Int) < (m : Int)) = false := by simp; omega
              have HNF : Hid (NeedAt wr b (cnt + m) (need ++ outS l k0)) := by
                have h := HNW.out
                rw [hjm2, List.take_of_length_le (by rw [HUM.out]; omega), ← HOUT.out] at h
                exact h
              have HBR : Hid (Below w.heap.size w wr) := HB3.out.grown HBW.out HB3.out.size (fun k e => by have := Option.some.inj (show some b = some k from e); omega)
              clear hjm2 HNW HBW HB3 HN3
              go_wp2
              go_roundg (gO - 1)
              case measure => omega
              case rel => exact ⟨k0, (k0 : Int) - 1, need ++ outS l k0, cnt + m, rfl, rfl, by omega, by omega, HBR.out, HNF.out, by omega, HRN.out⟩
end Go.Proofs.YtdjklnlkocconaaGreatDoor

namespace Go.Proofs.YtdjklnlkocconaaGreatDoor
open Go Go.RowKit

def QRow (w : World) (B : Nat) (v : Value) (xs : List Nat) : Prop := ∃ g o c cur, v = .slice (some ⟨g, o, none⟩) xs.length c ∧ B ≤ g ∧ xs.length ≤ c ∧ c ≤ maxLen ∧ w.heap[g]? = some (.cells cur 3 (0, 0)) ∧ o + c ≤ cur.size ∧ ∀ (j x : Nat), xs[j]? = some x → cur[o + j]? = some (.int .i64 (x : Int))

theorem QRow.lit {w : World} {B b : Nat} {x : Nat} (h : Blk1 w b (.int .i64 (x : Int)) 3) (hb : B ≤ b) : QRow w B (.slice (some ⟨b, 0, none⟩) 1 1) [x] :=
  ⟨b, 0, 1, #[.int .i64 (x : Int)], rfl, hb, Nat.le_refl _, by decide, h, Nat.le_refl _, fun j y hy => by
    cases j with
    | zero => obtain rfl : x = y := by simpa using hy
              rfl
    | succ j => simp at hy⟩
theorem QRow.lt {w : World} {B : Nat} {v : Value} {xs : List Nat} (h : QRow w B v xs) : ∃ g, v.ownBlock = some g ∧ B ≤ g ∧ g < w.heap.size := by
  obtain ⟨g, o, c, cur, rfl, hB, _, _, hg, _⟩ := h
  exact ⟨g, rfl, hB, (Array.getElem?_eq_some_iff.1 hg).1⟩
theorem QRow.kept {w w' : World} {B : Nat} {v : Value} {xs : List Nat} (h : QRow w B v xs) (hb : ∀ g, v.ownBlock = some g → w'.heap[g]? = w.heap[g]?) : QRow w' B v xs := by
  obtain ⟨g, o, c, cur, rfl, hB, h1, h2, hg, h3⟩ := h
  exact ⟨g, o, c, cur, rfl, hB, h1, h2, (hb g rfl).trans hg, h3⟩
def boolL (n : Nat) (need : List Nat) : List Value := (List.range n).map fun k => .bool (need.contains k)
def NArr (w : World) (b n : Nat) (need : List Nat) : Prop := w.ownsRow b 4 1 (.slice (some ⟨b, 0, none⟩) n n) n (boolL n need)
theorem NArr.lt {w : World} {b n : Nat} {need : List Nat} (h : NArr w b n need) : b < w.heap.size := (World.ownsRow.lt h b rfl).2
theorem NArr.kept {w w' : World} {b n : Nat} {need : List Nat} (h : NArr w b n need) (hb : w'.heap[b]? = w.heap[b]?) : NArr w' b n need := by
  refine ⟨h.1, ?_⟩
  rcases h.2 with ⟨h', _⟩ | ⟨g, cap, cur, h', h1, hg, h2⟩
  · cases h'
  · obtain ⟨rfl, _⟩ : b = g ∧ n = cap := by injection h' with e1 e2 e3; injection e1 with e1; injection e1 with e1 _ _; exact ⟨e1, e3⟩
    exact .inr ⟨b, cap, cur, h', h1, hb.trans hg, h2⟩
theorem boolL_get {n : Nat} {need : List Nat} {k : Nat} (hk : k < n) : (boolL n need)[k]? = some (.bool (need.contains k)) := by
  rw [boolL, List.getElem?_map, List.getElem?_range hk]
  rfl
theorem NArr.cell {w : World} {b n : Nat} {need : List Nat} (h : NArr w b n need) {k : Nat} (hk : k < n) : w.cell? ⟨b, k, none⟩ = some (.bool (need.contains k)) := by
  rw [World.ownsRow.cellAt h k (by omega), boolL_get hk]
theorem NArr.free {w : World} {b n : Nat} {need : List Nat} (h : NArr w b n need) (k : Nat) : w.frozen? ⟨b, k, none⟩ = false := World.ownsRow.frozenAt h k
theorem boolL_set {n : Nat} {need : List Nat} {k : Nat} : (boolL n need).set k (.bool true) = boolL n (need ++ [k]) := by
  apply List.ext_getElem?
  intro j
  rw [List.getElem?_set]
  by_cases hj : j < n
  · rw [boolL_get hj, boolL_get hj]
    by_cases e : k = j
    · subst e
      rw [if_pos rfl, if_pos (by simp [boolL, hj])]
      simp
    · rw [if_neg e]
      have : ¬ j = k := fun h => e h.symm
      simp [this]
  · have h1 : (boolL n (need ++ [k]))[j]? = none := by rw [boolL, List.getElem?_eq_none]; simp; omega
    have h2 : (boolL n need)[j]? = none := by rw [boolL, List.getElem?_eq_none]; simp; omega
    rw [h1, h2]
    by_cases e : k = j
    · subst e
      rw [if_pos rfl, if_neg (by simp [boolL]; omega)]
    · rw [if_neg e]
theorem NArr.store {w : World} {b n : Nat} {need : List Nat} (h : NArr w b n need) (k : Nat) : NArr (w.setCell ⟨b, k, none⟩ (.bool true)) b n (need ++ [k]) ∧ w.grownBy (w.setCell ⟨b, k, none⟩ (.bool true)) (some b) := by
  obtain ⟨h1, h2⟩ := World.ownsRow.stored h k (.bool true)
  rw [boolL_set] at h1
  exact ⟨h1, h2⟩
theorem info4 : (Tryz.prog.info? 4).map (fun i => (i.zero, i.size, i.bytes)) = some (some (.bool false), 1, 1) := by kernel_rfl
end Go.Proofs.YtdjklnlkocconaaGreatDoor
