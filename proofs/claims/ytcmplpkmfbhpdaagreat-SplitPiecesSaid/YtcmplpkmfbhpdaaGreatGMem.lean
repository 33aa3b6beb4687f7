import Derived.Test.YtcmplpkmfbhpdaaGreatProg
import Derived.Test.YtcmplpkmfbhpdaaGreatGDiv
import Derived.Test.YtcmplpkmfbhpdaaGreatGWorld
import Derived.WalkKit
import Derived.WalkSpells
import Derived.WalkLawsBesides
import Derived.ProofKit
import Derived.LaidMore
import Derived.LaidLaws
import Derived.OpenShut
import Derived.Stop.Joined
import Derived.MakeChecks
import Derived.Carry
import Derived.BigQuiet
import Derived.Deep.QuietTactic
import Derived.StillTailTactics
import Derived.Deep.LoopGhost
import Derived.Deep.RegionHeld3
import Derived.Deep.RegionWith
import Derived.Deep.AppendLies
import Derived.RegionTactic
import Derived.LoopN
import Derived.Laws.Rows
import Derived.IntWalk
import Derived.Lib.LaidTab
import Derived.Lib.ItoaNum
import Derived.Lib.SmallJoins
import Derived.Lib.Hide
namespace Go.Proofs.YtcmplpkmfbhpdaaGreat
open Go Go.RowKit
theorem aar {w w':World} (h:Below w.heap.size w w') (row:Option Nat):w.grownBy w' row:=
 ⟨h.os,h.tape,h.output,h.size,λk hk _=>h.block k hk⟩
theorem aaU (w:World) (p:Addr) (u:Value):w.grownBy (w.setCell p u) (some p.block):=
 ⟨rfl,rfl,rfl,by simp[World.setCell],λk _ hne=>Below.heap_setCell _ _ _ _ (λe=>hne (by rw[e]))⟩
theorem amw {w w':World} {B:Nat} {e:TypeId} {size:Nat} {v:Value} {n:Nat} {xs:List Value} (h:w.ownsRow B e size v n xs) (hb:Below w.heap.size w w'):w'.ownsRow B e size v n xs:=by
 refine h.kept (aar hb none) ?_;cases v.ownBlock with
 |none=>exact .inl rfl
 |some k=>exact .inr (by simp)
theorem abf (w:World) (l:List Value) (t:TypeId) {b:Nat} (hb:b=w.heap.size):∀ j u,l[j]? =some u->(w.alloc (.cells l.toArray t)).cell? ((⟨b,0,none⟩:Addr).add j)=some u:=by
 intro j u hj;subst hb;have e:(⟨w.heap.size,0,none⟩:Addr).add j=⟨w.heap.size,j,none⟩:=by
  unfold Addr.add;split
  ·rename_i h;subst h;rfl
  ·simp
 rw[e];unfold World.cell?;rw[(MapKept.heap_alloc w _).1];simpa using hj
theorem aqW {w:World} {B:Nat} {e:TypeId} {size:Nat} {v:Value} {xs:List Value} (h:w.ownsRow B e size v 0 xs):∃ a cap,v= .slice a 0 cap:=by
 obtain⟨_,⟨h0,_⟩ | ⟨g,cap,cur,rfl,_⟩⟩:=h
 ·exact⟨none,0,h0⟩
 ·exact⟨_,cap,rfl⟩
theorem abk {a b c:World} {row:Option Nat} (h:a.grownBy b row) (k:b.grownBy c row):a.grownBy c row:=
 ⟨k.os.trans h.os,k.tape.trans h.tape,k.output.trans h.output,Nat.le_trans h.size k.size,λj hj hne=>(k.block j (Nat.lt_of_lt_of_le hj h.size) hne).trans (h.block j hj hne)⟩
theorem aab (w:World) (o:Obj) (row:Option Nat):w.grownBy (w.alloc o) row:=aar ((Below.refl _ _).alloc (Nat.le_refl _) _) row
def aaR (w w':World):Prop:=∀ (g:Nat) (cs:Array Value),w.heap[g]? =some (Obj.cells cs 213 (0,0))->w'.heap[g]? =some (Obj.cells cs 213 (0,0))
theorem aaR.refl (w:World):aaR w w:=λ_ _ h=>h
theorem aaR.trans {a b c:World} (h:aaR a b) (k:aaR b c):aaR a c:=λg cs e=>k g cs (h g cs e)
theorem aaC {w w':World} (hg:w.grownBy w' none):aaR w w':=λg cs e=>(hg.block g (Array.getElem?_eq_some_iff.1 e).1 (by simp)).trans e
theorem aaL {T:TypeId} {w:World} {g j:Nat} {cs:List Value} (hB:w.heap[g]? =some (.cells cs.toArray T (0,0))) (hT:T≠213) (v:Value):aaR w (w.setCell ⟨g,j,none⟩ v):=by
 intro b c e;have hne:b≠g:=by
  rintro rfl;rw[hB] at e;injection e with e
  injection e with _ e2
  exact hT e2
 rw[Below.heap_setCell _ _ _ _ hne];exact e
structure Own (B:Nat) (w w':World):Prop where
 b:Below B w w'
 d:w.drawn<=w'.drawn
theorem Own.refl (B:Nat) (w:World):Own B w w:=⟨Below.refl _ _,Nat.le_refl _⟩
theorem Own.trans {B:Nat} {a b c:World} (h:Own B a b) (k:Own B b c):Own B a c:=⟨h.b.trans k.b,Nat.le_trans h.d k.d⟩
theorem Own.alloc {B:Nat} {a b:World} (h:Own B a b) (hB:B<=b.heap.size) (o:Obj):Own B a (b.alloc o):=⟨h.b.alloc hB o,h.d⟩
theorem Own.drew {B:Nat} {a b:World} (h:Own B a b):Own B a b.drew:=⟨h.b.drew,Nat.le_succ_of_le h.d⟩
theorem Own.drewN {B:Nat} {a b:World} (h:Own B a b) (n:Nat):Own B a (b.drewN n):=⟨⟨h.b.os,h.b.tape,h.b.output,h.b.size,h.b.block⟩,Nat.le_trans h.d (Nat.le_add_right _ _)⟩
theorem Own.set {B:Nat} {a b:World} (h:Own B a b) {g:Nat} (hg:B<=g) (j:Nat) (v:Value):Own B a (b.setCell ⟨g,j,none⟩ v):=⟨h.b.setCell hg v,h.d⟩
theorem Own.mono {B C:Nat} {w w':World} (h:Own B w w') (hC:C<=B):Own C w w':=⟨h.b.mono hC,h.d⟩
theorem Own.size {B:Nat} {w w':World} (h:Own B w w'):w.heap.size<=w'.heap.size:=h.b.size
abbrev Gr (w w':World):Prop:=Own w.heap.size w w'
theorem Gr.grown {w w':World} (h:Gr w w'):w.grownBy w' none:=aar h.b none
theorem Gr.keep {w w':World} (h:Gr w w'):aaR w w':=aaC h.grown
theorem Own.call {B:Nat} {a b c:World} (h:Own B a b) (hB:B<=b.heap.size) (k:Gr b c):Own B a c:=h.trans (k.mono hB)
theorem ab2 {w w':World} (h:w.grownBy w' none) (d:w.drawn<=w'.drawn):Gr w w':=⟨⟨h.os,h.tape,h.output,h.size,λk hk=>h.block k hk (by simp)⟩,d⟩
def abi (w:World) (a:Option Addr) (l:List Nat):Prop:=l=[]\/∃ (g:Nat) (cs:Array Value),a=some ⟨g,0,none⟩/\w.heap[g]? =some (Obj.cells cs 213 (0,0))/\∀ (j x:Nat),l[j]? =some x->cs[j]? =some (Value.int .u32 (x:Nat))
theorem abi.keep {w w':World} {a:Option Addr} {l:List Nat} (h:abi w a l) (k:aaR w w'):abi w' a l:=by
 rcases h with h | ⟨g,cs,rfl,hb,hc⟩
 ·exact .inl h
 ·exact .inr ⟨g,cs,rfl,k g cs hb,hc⟩
theorem abi.own {w w':World} {a:Option Addr} {l:List Nat} (h:abi w a l) (o:Gr w w'):abi w' a l:=h.keep o.keep
theorem abi.cells {w:World} {a:Option Addr} {l:List Nat} (h:abi w a l) (hl:l≠[]):∃ g,a=some ⟨g,0,none⟩/\g<w.heap.size/\∀ (j x:Nat),l[j]? =some x->w.cell? ⟨g,j,none⟩=some (Value.int .u32 (x:Nat)):=by
 rcases h with h | ⟨g,cs,rfl,hb,hc⟩
 ·exact absurd h hl
 ·refine⟨g,rfl,(Array.getElem?_eq_some_iff.1 hb).1,λj x hx=> ?_⟩;unfold World.cell?;simp[hb,hc j x hx]
theorem abi.take {w:World} {a:Option Addr} {l:List Nat} (h:abi w a l) (k:Nat):abi w a (l.take k):=by
 rcases h with rfl | ⟨g,cs,rfl,hb,hc⟩
 ·exact .inl (by simp)
 ·refine .inr ⟨g,cs,rfl,hb,λj x hx=>hc j x ?_⟩;rw[List.getElem?_take] at hx;split at hx
  ·exact hx
  ·cases hx
def aaD (w:World) (v:Value) (n:Nat):Prop:=∃ a,v= .agg #[.slice a (limbs n).length (limbs n).length]/\abi w a (limbs n)
theorem aaD.keep {w w':World} {v:Value} {n:Nat} (h:aaD w v n) (k:aaR w w'):aaD w' v n:=by
 obtain⟨a,h1,h2⟩:=h;exact⟨a,h1,h2.keep k⟩
def aak (T:TypeId) (w:World) (g:Nat) (cs:List Value):Prop:=w.heap[g]? =some (.cells cs.toArray T (0,0))
theorem aak.cell {T:TypeId} {w:World} {g:Nat} {cs:List Value} (h:aak T w g cs) (j:Nat):w.cell? ⟨g,j,none⟩=cs[j]? :=by
 unfold aak at h;unfold World.cell?;simp[h]
theorem aak.free {T:TypeId} {w:World} {g:Nat} {cs:List Value} (h:aak T w g cs) (j:Nat):w.frozen? ⟨g,j,none⟩=false:=by
 unfold aak at h;simp[World.frozen?,h]
theorem aak.lt {T:TypeId} {w:World} {g:Nat} {cs:List Value} (h:aak T w g cs):g<w.heap.size:=by
 unfold aak at h;rcases Nat.lt_or_ge g w.heap.size with h' | h'
 ·exact h'
 ·simp[Array.getElem?_eq_none h'] at h
theorem aak.grown {T:TypeId} {w w':World} {g:Nat} {cs:List Value} {row:Option Nat} (h:aak T w g cs) (hg:w.grownBy w' row) (hn:some g≠row):aak T w' g cs:=(hg.block g h.lt hn).trans h
theorem aak.still {T:TypeId} {w w':World} {g:Nat} {cs:List Value} (h:aak T w g cs) (hg:w.grownBy w' none):aak T w' g cs:=h.grown hg (by simp)
theorem aak.set {T:TypeId} {w:World} {g:Nat} {cs:List Value} (h:aak T w g cs) (j:Nat) (v:Value):aak T (w.setCell ⟨g,j,none⟩ v) g (cs.set j v):=by
 unfold aak at h ⊢;simp[World.setCell,Array.getElem?_modify,h]
theorem aak.new (T:TypeId) (w:World) (cs:List Value):aak T (w.alloc (.cells cs.toArray T)) w.heap.size cs:=(MapKept.heap_alloc w _).1
def aeo (P:Program) (ty:TypeId):Bool:=match P.underlying ty with | some (.struct _)=>true | _=>false
theorem afU {T ty:TypeId} {P:Program} {R:Ending->World->Prop} {a:Act} {w:World} {g:Nat} {cs:List Value} {f:Func} {t:Tmp} (h:f.results= #[.cell t ty])
  (hu:aeo P ty=true) (hi:(P.info? ty).map (·.size)=some cs.length)
  (hp:a.tmps.getD t undef= .pointer (some ⟨g,0,none⟩)) (ha:a.defers=[]) (hB:aak T w g cs) (hR:R (.returned (.agg cs.toArray)) w):bodyPost P f R .ret a w:=by
 unfold aeo at hu;split at hu
 ·rename_i fs he;exact bodyPost_ret (results_cell_row h a.tmps w g T cs.toArray (0,0) _ hp hB he rfl (by simpa using hi)) ha hR
 ·cases hu
theorem acG {T:TypeId} {R:Ending->World->Prop} {a:Act} {w:World} {g:Nat} {x:Value} {f:Func} {t:Tmp} (h:f.results= #[.cell t 35])
  (hp:a.tmps.getD t undef= .pointer (some ⟨g,0,none⟩)) (ha:a.defers=[]) (hB:aak T w g [x]) (hR:R (.returned (.agg #[x])) w):bodyPost Tryz.prog f R .ret a w:=
 afU h (by kernel_rfl) (by kernel_rfl) hp ha hB hR
theorem anj {w:World} {g:Nat} {cs:List Value} {l:List Nat} (hB:aak 213 w g cs) (hcs:cs=l.map λx:Nat=>Value.int .u32 x):abi w (some ⟨g,0,none⟩) l:=by
 subst hcs;refine .inr ⟨_,_,rfl,hB,λj x hx=> ?_⟩;simp[hx]
theorem aaN {T:TypeId} {w:World} {cs:List Value} {g:Nat} (hg:g=w.heap.size):aak T (w.alloc (.cells cs.toArray T)) g cs:=by subst hg;exact aak.new _ _ _
theorem info213 : (Tryz.prog.info? 213).map (λi=>(i.zero,i.size,i.bytes))=some (some (.int .u32 0),1,4):=by kernel_rfl
theorem akA {w:World} {B:Nat} {T:TypeId} {g n:Nat} {xs:List Value} (h:w.ownsRow B T 1 (.slice (some ⟨g,0,none⟩) n n) n xs):aak T w g xs:=by
 obtain⟨_,⟨h0,_⟩ | ⟨g',cap,cur,e,_,hh,_,_,hs,ht⟩⟩:=h
 ·cases h0
 ·cases e;unfold aak;rw[List.take_of_length_le (by simp;omega)] at ht;rw[hh,<- ht]
theorem afX (w:World) (n:Nat) (hn:n<=1000000):∃ w',(Instr.makeSlice 33 (.int .i64 (n:Int)) (.int .i64 (n:Int))).run Tryz.prog w= .ok (.slice (some ⟨w.heap.size,0,none⟩) n n) w'/\aak 213 w' w.heap.size ((List.replicate n 0).map λx:Nat=>Value.int .u32 x)/\Gr w w':=by
 obtain⟨i0,hi,hz0,hz1,hz2⟩:=info_parts info213;obtain⟨w',h1,h2,h3⟩:=run_make_full (P:=Tryz.prog) w w.heap.size 33 213 i0 (.int .u32 0) 1 Tryz.underlying33 hi hz0 hz1 .i64 .i64 n (by rw[hz2];omega) (by unfold maxLen;omega) (Nat.le_refl _);refine⟨w',h1,?_,ab2 h3 (abz _ h1)⟩;have e:(madeCells (Value.int .u32 0).cells (n*1)).toList=(List.replicate n 0).map λx:Nat=>Value.int .u32 x:=by
  rw[Nat.mul_one];show (madeCells #[.int .u32 0] n).toList=_;rw[toList_madeCells_one,List.map_replicate];rfl
 rw[e] at h2;exact akA h2
end Go.Proofs.YtcmplpkmfbhpdaaGreat
