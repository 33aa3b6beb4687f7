import Derived.WalkKit
import Derived.Laws.AppendOwn
import Derived.BigQuiet
import Derived.RegionTactic
namespace Go.Proofs.YtcmplpkmfbhpdaaGreat
open Go Go.RowKit

theorem agw {p : Program} {w : World} {at_ : Addr} {u : TypeId} {k : Addr} {v : Value} {b : Bool} {w' : World} {l : List Addr} (h : w.viewStore p at_ u k v b = .ok (w', l)) : w'.drawn = w.drawn := by
  unfold World.viewStore at h;simp only [bind, Except.bind, pure, Except.pure] at h;repeat' split at h
  all_goals first
    | cases h; done
    | (cases h; rfl)

theorem agG {p : Program} {w : World} {a : Addr} {v : Value} {b : Bool} {w' : World} {l : List Addr} (h : w.farStore p a v b = .ok (w', l)) : w'.drawn = w.drawn := by
  unfold World.farStore at h;split at h
  · split at h
    · rename_i r hr
      cases h;exact agw hr
    · cases h
  · cases h

theorem apM {α : Type} (k : Ask α) (w : World) : w.drawn <= (w.ask k).2.drawn := by
  induction k generalizing w with
  | done a => exact Nat.le_refl _
  | ask what range k ih =>
    unfold World.ask;simp only;split
    · exact ih _ _
    · exact Nat.le_trans (Nat.le_succ _) (ih _ { w with drawn := w.drawn + 1 })

theorem aoN (w : World) (c : Sys) : w.drawn <= (w.sys c).2.drawn := by
  unfold World.sys;have h := apM (Kernel.perform c w.os) w;split
  · exact Nat.le_refl _
  · rename_i r os w1 _ he
    rw [he] at h;exact h

/-- A run never takes a draw back. -/
theorem abz {α : Type} {p : Program} (s : Sem α) {w w' : World} {a : α} (h : s.run p w = .ok a w') : w.drawn <= w'.drawn := by
  induction s generalizing w with
  | pure a => cases h; exact Nat.le_refl _
  | load m a k ih =>
    unfold Sem.run at h;split at h
    · exact ih _ h
    · split at h
      · exact ih _ h
      · cases h
  | store m a v k ih =>
    cases v <;> simp only [Sem.run] at h;all_goals first
      | (cases h; done)
      | (split at h
         · split at h
           · cases h
           · exact (show (w.setCell a _).drawn <= w'.drawn from ih h)
         · split at h
           · rename_i w1 l he
             have := ih h;rw [agG he] at this;exact this
           · cases h)
  | new o k ih => exact (show ({ w with heap := w.heap.push o } : World).drawn <= w'.drawn from ih _ h)
  | shape r k ih => exact ih _ h
  | freeze a n k ih =>
    have := ih (w := w.freeze a n) h;refine Nat.le_trans (Nat.le_of_eq ?_) this;unfold World.freeze;split <;> rfl
  | frozen a k ih => exact ih _ h
  | getObj r k ih =>
    unfold Sem.run at h;split at h
    · cases h
    · exact ih _ h
    · cases h
  | setObj r o k ih =>
    unfold Sem.run at h;split at h
    · cases h
    · exact (show ({ w with heap := w.heap.setIfInBounds r o } : World).drawn <= w'.drawn from ih h)
    · cases h
  | choose q k ih =>
    unfold Sem.run at h;split at h
    · exact ih _ h
    · exact Nat.le_trans (Nat.le_succ _) (ih _ h)
  | sys c k ih => exact Nat.le_trans (aoN w c) (ih _ h)
  | program k ih => exact ih _ h
  | mark m k ih => exact ih h
  | halt h0 => cases h

theorem ah8 {P : Program} {ops : Array Oper} {Q : Exit -> Act -> World -> Prop} {a : Act} {w : World} {rest : List Oper} {o : Oper} (hw : Region.wanted o (yielded ops a.tmps) = true)
    (h : ∀ K : Act -> World -> Prop, (∀ a w, wpList P ops Q rest a w -> K a w) -> o.wp P a w K Q) : wpList P ops Q (o :: rest) a w :=
  wpList_step λK hK => by simp only [hw, if_true]; exact h K hK

/-- append onto a row of the call's own, and the count of draws. -/
theorem aav {P : Program} (w : World) {ops : Array Oper} {rest : List Oper} {o : Oper} {a : Act} {Q : Exit -> Act -> World -> Prop} (hw : Region.wanted o (yielded ops a.tmps) = true) (s x : Operand) (t : TypeId)
    (ho : o.op = .call { callee := .builtin .append, args := #[s, x], argTypes := #[t, t] })
    (base : Nat) (e : TypeId) (i : TypeInfo) (z : Value) (size bytes : Nat) (ht : P.underlying t = some (.slice e)) (hi : P.info? e = some i) (hz : i.zero = some z)
    (hsize : i.size = size) (hby : i.bytes = bytes) (hzs : z.cells.size = size) (hsz : 0 < size)
    (v : Value) (n : Nat) (xs : List Value) (hs : a.eval s = v) (hown : w.ownsRow base e size v n xs)
    (ad : Addr) (m c : Nat) (news : List Value) (hx : a.eval x = .slice (some ad) m c) (hl : news.length = m * size) (hnews : ∀ j u, news[j]? = some u -> w.cell? (ad.add j) = some u) (h1 : ∀ u ∈ news, u.oneCell' = true)
    (h63 : n + m <= maxLen) (hbytes : (n + m) * bytes <= 140737488355328) (hbase : base <= w.heap.size)
    (h : ∀ v' w', w'.ownsRow base e size v' (n + m) (xs ++ news) -> w.grownBy w' v.ownBlock -> w.drawn <= w'.drawn -> wpList P ops Q rest (a.put o.dst v') w') : wpList P ops Q (o :: rest) a w := by
  refine ah8 hw λK hK => ?_;obtain ⟨v', w', hr, h2, h3, _⟩ := run_append_own (P := P) w base t o.type e i z size bytes ht hi hz hsize hby hzs hsz v n xs hown ad m c news hl hnews h1 h63 hbytes hbase;have hd := abz _ hr;unfold Oper.wp execOp;simp only [ho, resolve, invoke, builtin, Sem.run_bind, Sem.run_pure, Result.andThen_ok, List.map_toArray, List.map_cons, List.map_nil, hs, hx, hr];exact hK _ _ (h v' w' h2 h3 hd)
end Go.Proofs.YtcmplpkmfbhpdaaGreat
