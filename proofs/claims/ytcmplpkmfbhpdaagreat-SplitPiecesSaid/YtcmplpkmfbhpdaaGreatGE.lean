import Derived.Test.YtcmplpkmfbhpdaaGreatGD
namespace Go.Proofs.YtcmplpkmfbhpdaaGreat
open Go Go.RowKit
def avH (w:World) (a b:Option Addr) (l m:List Nat) (k:Nat) (v cv u:Value) (wr:World):Prop:=
 ∃ (i:Nat) (o:List Nat) (c:Nat),cv= .int .i64 c/\u= .int .i64 i/\wr.ownsRow (w.heap.size+1+1+1) 213 1 v i (o.map λx:Nat=>Value.int .u32 x)/\LessAt l m i o c/\i<=l.length/\l.length<k+i/\
  aak 35 wr w.heap.size [.slice a l.length l.length]/\aak 35 wr (w.heap.size+1) [.slice b m.length m.length]/\aak 35 wr (w.heap.size+1+1) [.slice none 0 0]/\Own w.heap.size w wr
theorem agp {w:World} {B n:Nat} {v:Value} {l:List Nat} (h:w.ownsRow B 213 1 v n (l.map λx:Nat=>Value.int .u32 x)) (hl:l.length=n) :
  ∃ a c,v= .slice a n c/\n<=c/\abi w a l:=by
 by_cases hn:0<n
 ·exact adG h hn hl
 ·obtain rfl:n=0:=by omega
  obtain⟨a,c,rfl⟩:=aqW h;exact⟨a,c,rfl,Nat.zero_le _,.inl (List.length_eq_zero_iff.1 hl)⟩
set_option maxHeartbeats 8000000 in
set_option maxRecDepth 100000 in
theorem akn (x y:Nat) (v u:Value) (w:World) (hv:aaD w v x) (hu:aaD w u y) (hx:(limbs x).length<=900000) (hxy:y<=x) :
  Calls Tryz.prog 172 #[v,u] w λe w'=>∃ r,e= .returned r/\aaD w' r (x-y)/\Own w.heap.size w w':=by
 have hlm:=limbs_mono hxy;obtain⟨a,rfl,hr⟩:=hv;obtain⟨b,rfl,hs⟩:=hu;have HX:=Lib.hid (val_limbs x);have HY:=Lib.hid (val_limbs y);have HLX:=Lib.hid (limbs_limb x);have HLY:=Lib.hid (limbs_limb y);have HR:=Lib.hid hr;have HS:=Lib.hid hs;clear hr hs;obtain⟨i0,hi,hz0,hz1,hz2⟩:=info_parts info213;obtain⟨l,hl⟩:∃ l,l=limbs x:=⟨_,rfl⟩
 obtain⟨m,hm⟩:∃ m,m=limbs y:=⟨_,rfl⟩
 rw[<- hl] at HX HLX HR hx hlm ⊢;rw[<- hm] at HY HLY HS hlm ⊢;clear hl hm;obtain⟨w1,hmk,hown,hgk⟩:=run_make_own (P:=Tryz.prog) (w:=(((w.alloc (.cells #[.slice a l.length l.length] 35)).alloc (.cells #[.slice b m.length m.length] 35)).alloc (.cells #[.slice none 0 0] 35))) (w.heap.size+1+1+1) 33 213 i0 (.int .u32 0) 1 Tryz.underlying33 hi hz0 hz1 .i64 .i64 (l.length) (by rw[hz2];omega) (by unfold maxLen;omega) (by simp);have hdk:=abz _ hmk;have HB1:Hid (aak 35 (((w.alloc (.cells #[.slice a l.length l.length] 35)).alloc (.cells #[.slice b m.length m.length] 35)).alloc (.cells #[.slice none 0 0] 35)) w.heap.size [.slice a l.length l.length]):=((aak.new _ w [.slice a l.length l.length]).still (aab _ _ none)).still (aab _ _ none);have HB2:Hid (aak 35 (((w.alloc (.cells #[.slice a l.length l.length] 35)).alloc (.cells #[.slice b m.length m.length] 35)).alloc (.cells #[.slice none 0 0] 35)) (w.heap.size+1) [.slice b m.length m.length]):=(aaN (cs:=[.slice b m.length m.length]) (by simp)).still (aab _ _ none);have HB3:Hid (aak 35 (((w.alloc (.cells #[.slice a l.length l.length] 35)).alloc (.cells #[.slice b m.length m.length] 35)).alloc (.cells #[.slice none 0 0] 35)) (w.heap.size+1+1) [.slice none 0 0]):=aaN (cs:=[.slice none 0 0]) (by simp);have HG:Hid (Own w.heap.size w (((w.alloc (.cells #[.slice a l.length l.length] 35)).alloc (.cells #[.slice b m.length m.length] 35)).alloc (.cells #[.slice none 0 0] 35))):=((aap _ _).alloc (by simp) _).alloc (by simp;omega) _;have HC1:=Lib.hid (HB1.out.still hgk);have HC2:=Lib.hid (HB2.out.still hgk);have HC3:=Lib.hid (HB3.out.still hgk);have HG1:Hid (Own w.heap.size w w1):=HG.out.call HG.out.size (ab2 hgk hdk);simp only[World.size_alloc] at hmk hown;push_cast at hmk
 have HOWN:=Lib.hid hown;have hwz:w.heap.size+1+1+1<=w1.heap.size:=by have:=hgk.size;simpa using this
 have hd1:=HC1.out.cell 0;have hd2:=HC2.out.cell 0;simp only[List.getElem?_cons_zero] at hd1 hd2;clear hown hgk hdk HB1 HB2 HB3 HG;go_enter Tryz.func172,Tryz.ntmps172
 go_wp2_with fail
 go_loopg [5,6,17] (l.length+1) (λk v c u wr=>Hid (avH w a b l m k v c u wr))
 case atStart=>exact⟨0,[],0,rfl,rfl,HOWN.out,less_start _ _,Nat.zero_le _,by omega,HC1.out,HC2.out,HC3.out,HG1.out⟩
 case round=>
  clear HOWN HC1 HC2 HC3 HG1 hd1 hd2 hmk;obtain⟨i,o,b0,rfl,rfl,hown,hat,hil,hik,hb1,hb2,hb3,hg⟩:=hrel.out;have HOWN:=Lib.hid hown;have HAT:=Lib.hid hat;have HB1:=Lib.hid hb1;have HB2:=Lib.hid hb2;have HB3:=Lib.hid hb3;have HG:=Lib.hid hg;have hcb:b0<2:=hat.2.2.1;have holen:o.length=i:=hat.1;clear hrel hown hat hb1 hb2 hb3 hg;have hb1:=HB1.out.cell 0;have hb2:=HB2.out.cell 0;have hb3:=HB3.out.cell 0;have hf3:=HB3.out.free 0;have hsz1:=HB1.out.lt;have hsz2:=HB2.out.lt;have hsz3:=HB3.out.lt;simp only[List.getElem?_cons_zero] at hb1 hb2 hb3;by_cases hlt:i<l.length
  ·obtain⟨p,hp⟩:∃ p,l[i]? =some p:=⟨l[i]'(by omega),List.getElem?_eq_getElem _⟩
   have hpb:=HLX.out p (List.mem_of_getElem? hp);obtain⟨g,ha,hgl,hcell⟩:=((HR.out.own HG.out)).cells (by rintro h;rw[h] at hlt;simp at hlt);subst ha;have hc0:=hcell _ _ hp;have HP:=Lib.hid hp;have hlt2:(i:Int)<l.length:=by omega
   clear hp hcell;by_cases hm:i<m.length
   ·obtain⟨q,hq⟩:∃ q,m[i]? =some q:=⟨m[i]'(by omega),List.getElem?_eq_getElem _⟩
    have hqb:=HLY.out q (List.mem_of_getElem? hq);obtain⟨g2,ha2,hgl2,hcell2⟩:=((HS.out.own HG.out)).cells (by rintro h;rw[h] at hm;simp at hm);subst ha2;have hc2:=hcell2 _ _ hq;have hm2:(i:Int)<m.length:=by omega
    by_cases hsg:p<b0+q
    ·obtain⟨Z,hZ⟩:∃ Z,Z=p+4294967296-(b0+q):=⟨_,rfl⟩
     have hZb:Z<4294967296:=by omega
     have hneg:(p:Int)-(b0:Int)-(q:Int)<0:=by omega
     have hz:(p:Int)-(b0:Int)-(q:Int)+4294967296=(Z:Int):=by omega
     have HN:Hid (LessAt l m (i+1) (o++[Z]) 1):=less_both HAT.out HP.out hq (z:=Z) (b':=1) (by omega) (by omega) (by omega);clear hZ hq hcell2;go_wp2_with (at_builtin;refine aav _ (by rfl) _ _ 33 (by rfl) (w.heap.size+1+1+1) 213 i0 (.int .u32 0) 1 4 Tryz.underlying33 hi hz0 hz1 hz2 (by rfl) (by decide) _ _ _ (by rfl) (HOWN.out.alloc _) ⟨wr.heap.size,0,none⟩ 1 1 [.int .u32 (Z:Nat)] (by rfl) (by rfl) (abf wr _ _ rfl) (by intro u hu;cases hu with | head=>rfl | tail _ h=>cases h) (by unfold maxLen;omega) (by omega) (by simp;omega) ?_)
     intro v' w2 hown2 hgrow2 hd2;have HNE:=Lib.hid (abA HOWN.out);have HW2:=Lib.hid (aba HG.out HOWN.out hgrow2 hd2);have HB12:=Lib.hid ((HB1.out.still (aab _ _ none)).grown hgrow2 (Ne.symm HNE.out.1));have HB22:=Lib.hid ((HB2.out.still (aab _ _ none)).grown hgrow2 (Ne.symm HNE.out.2.1));have HB32:=Lib.hid ((HB3.out.still (aab _ _ none)).grown hgrow2 (Ne.symm HNE.out.2.2));have HO2:=Lib.hid (by rw[<- List.map_singleton (f:=λx:Nat=>Value.int .u32 x),<- List.map_append] at hown2;exact hown2);have hz2:=hgrow2.size;clear hown2 hgrow2 hd2 HOWN hb1 hb2 hb3 hf3 hc0 HB1 HB2 HB3;go_wp2_with fail
     go_roundg (gk-1)
     case measure=>omega
     case rel=>exact⟨i+1,o++[Z],1,by first | rfl | go_num,by first | rfl | go_num,HO2.out,HN.out,by omega,by omega,HB12.out,HB22.out,HB32.out,HW2.out⟩
    ·obtain⟨Z,hZ⟩:∃ Z,Z=p-(b0+q):=⟨_,rfl⟩
     have hZb:Z<4294967296:=by omega
     have hz:(p:Int)-(b0:Int)-(q:Int)=(Z:Int):=by omega
     have HN:Hid (LessAt l m (i+1) (o++[Z]) 0):=less_both HAT.out HP.out hq (z:=Z) (b':=0) (by omega) (by omega) (by omega);clear hZ hq hcell2;go_wp2_with (at_builtin;refine aav _ (by rfl) _ _ 33 (by rfl) (w.heap.size+1+1+1) 213 i0 (.int .u32 0) 1 4 Tryz.underlying33 hi hz0 hz1 hz2 (by rfl) (by decide) _ _ _ (by rfl) (HOWN.out.alloc _) ⟨wr.heap.size,0,none⟩ 1 1 [.int .u32 (Z:Nat)] (by rfl) (by rfl) (abf wr _ _ rfl) (by intro u hu;cases hu with | head=>rfl | tail _ h=>cases h) (by unfold maxLen;omega) (by omega) (by simp;omega) ?_)
     intro v' w2 hown2 hgrow2 hd2;have HNE:=Lib.hid (abA HOWN.out);have HW2:=Lib.hid (aba HG.out HOWN.out hgrow2 hd2);have HB12:=Lib.hid ((HB1.out.still (aab _ _ none)).grown hgrow2 (Ne.symm HNE.out.1));have HB22:=Lib.hid ((HB2.out.still (aab _ _ none)).grown hgrow2 (Ne.symm HNE.out.2.1));have HB32:=Lib.hid ((HB3.out.still (aab _ _ none)).grown hgrow2 (Ne.symm HNE.out.2.2));have HO2:=Lib.hid (by rw[<- List.map_singleton (f:=λx:Nat=>Value.int .u32 x),<- List.map_append] at hown2;exact hown2);have hz2:=hgrow2.size;clear hown2 hgrow2 hd2 HOWN hb1 hb2 hb3 hf3 hc0 HB1 HB2 HB3;go_wp2_with fail
     go_roundg (gk-1)
     case measure=>omega
     case rel=>exact⟨i+1,o++[Z],0,by first | rfl | go_num,by first | rfl | go_num,HO2.out,HN.out,by omega,by omega,HB12.out,HB22.out,HB32.out,HW2.out⟩
   ·have hm2:¬ (i:Int)<m.length:=by omega
    by_cases hsg:p<b0
    ·obtain⟨Z,hZ⟩:∃ Z,Z=p+4294967296-(b0):=⟨_,rfl⟩
     have hZb:Z<4294967296:=by omega
     have hneg:(p:Int)-(b0:Int)<0:=by omega
     have hz:(p:Int)-(b0:Int)+4294967296=(Z:Int):=by omega
     have HN:Hid (LessAt l m (i+1) (o++[Z]) 1):=less_one HAT.out HP.out (by omega) (z:=Z) (b':=1) (by omega) (by omega) (by omega);clear hZ;go_wp2_with (at_builtin;refine aav _ (by rfl) _ _ 33 (by rfl) (w.heap.size+1+1+1) 213 i0 (.int .u32 0) 1 4 Tryz.underlying33 hi hz0 hz1 hz2 (by rfl) (by decide) _ _ _ (by rfl) (HOWN.out.alloc _) ⟨wr.heap.size,0,none⟩ 1 1 [.int .u32 (Z:Nat)] (by rfl) (by rfl) (abf wr _ _ rfl) (by intro u hu;cases hu with | head=>rfl | tail _ h=>cases h) (by unfold maxLen;omega) (by omega) (by simp;omega) ?_)
     intro v' w2 hown2 hgrow2 hd2;have HNE:=Lib.hid (abA HOWN.out);have HW2:=Lib.hid (aba HG.out HOWN.out hgrow2 hd2);have HB12:=Lib.hid ((HB1.out.still (aab _ _ none)).grown hgrow2 (Ne.symm HNE.out.1));have HB22:=Lib.hid ((HB2.out.still (aab _ _ none)).grown hgrow2 (Ne.symm HNE.out.2.1));have HB32:=Lib.hid ((HB3.out.still (aab _ _ none)).grown hgrow2 (Ne.symm HNE.out.2.2));have HO2:=Lib.hid (by rw[<- List.map_singleton (f:=λx:Nat=>Value.int .u32 x),<- List.map_append] at hown2;exact hown2);have hz2:=hgrow2.size;clear hown2 hgrow2 hd2 HOWN hb1 hb2 hb3 hf3 hc0 HB1 HB2 HB3;go_wp2_with fail
     go_roundg (gk-1)
     case measure=>omega
     case rel=>exact⟨i+1,o++[Z],1,by first | rfl | go_num,by first | rfl | go_num,HO2.out,HN.out,by omega,by omega,HB12.out,HB22.out,HB32.out,HW2.out⟩
    ·obtain⟨Z,hZ⟩:∃ Z,Z=p-(b0):=⟨_,rfl⟩
     have hZb:Z<4294967296:=by omega
     have hz:(p:Int)-(b0:Int)=(Z:Int):=by omega
     have HN:Hid (LessAt l m (i+1) (o++[Z]) 0):=less_one HAT.out HP.out (by omega) (z:=Z) (b':=0) (by omega) (by omega) (by omega);clear hZ;go_wp2_with (at_builtin;refine aav _ (by rfl) _ _ 33 (by rfl) (w.heap.size+1+1+1) 213 i0 (.int .u32 0) 1 4 Tryz.underlying33 hi hz0 hz1 hz2 (by rfl) (by decide) _ _ _ (by rfl) (HOWN.out.alloc _) ⟨wr.heap.size,0,none⟩ 1 1 [.int .u32 (Z:Nat)] (by rfl) (by rfl) (abf wr _ _ rfl) (by intro u hu;cases hu with | head=>rfl | tail _ h=>cases h) (by unfold maxLen;omega) (by omega) (by simp;omega) ?_)
     intro v' w2 hown2 hgrow2 hd2;have HNE:=Lib.hid (abA HOWN.out);have HW2:=Lib.hid (aba HG.out HOWN.out hgrow2 hd2);have HB12:=Lib.hid ((HB1.out.still (aab _ _ none)).grown hgrow2 (Ne.symm HNE.out.1));have HB22:=Lib.hid ((HB2.out.still (aab _ _ none)).grown hgrow2 (Ne.symm HNE.out.2.1));have HB32:=Lib.hid ((HB3.out.still (aab _ _ none)).grown hgrow2 (Ne.symm HNE.out.2.2));have HO2:=Lib.hid (by rw[<- List.map_singleton (f:=λx:Nat=>Value.int .u32 x),<- List.map_append] at hown2;exact hown2);have hz2:=hgrow2.size;clear hown2 hgrow2 hd2 HOWN hb1 hb2 hb3 hf3 hc0 HB1 HB2 HB3;go_wp2_with fail
     go_roundg (gk-1)
     case measure=>omega
     case rel=>exact⟨i+1,o++[Z],0,by first | rfl | go_num,by first | rfl | go_num,HO2.out,HN.out,by omega,by omega,HB12.out,HB22.out,HB32.out,HW2.out⟩
  ·have hil2:i=l.length:=by omega
   have hlt2:¬ (i:Int)<l.length:=by omega
   obtain⟨he1,he2,he3⟩:=less_done (l:=l) (m:=m) (o:=o) (b:=b0) (by rw[<- hil2];exact HAT.out) hlm (by rw[HX.out,HY.out];exact hxy);have HE:=Lib.hid he1;have HV:Hid (valL o=x-y):=by show _=_;rw[he3,HX.out,HY.out]
   clear hil2 he1 he2 he3;obtain⟨ra,rc,hv',hrc,hrow⟩:=agp HOWN.out holen;subst hv';have HROW:=Lib.hid hrow;clear hrow HOWN;go_wp2_with fail
   refine (acW o _ _ _ _ HE.out HROW.out holen hrc (by omega)).mono ?_;rintro e3 w3 ⟨v3,rfl,hv3,hg3⟩;rw[HV.out] at hv3;have HV3:=Lib.hid hv3;have HB33:=Lib.hid (HB3.out.still (Gr.grown hg3));have HW3:=Lib.hid (HG.out.call HG.out.size hg3);have hlt3:=HB33.out.lt;have hc3:=HB33.out.cell 0;have hf3:=HB33.out.free 0;simp only[List.getElem?_cons_zero] at hc3;obtain⟨a3,rfl,_⟩:=hv3;clear hg3;go_wp2_with fail
   refine acG rfl rfl rfl (HB33.out.set 0 _) ⟨_,rfl,?_⟩;exact abO HV3.out HB33.out (by decide) HW3.out (by omega)
def aiy (P:Program) (ty:TypeId) (k:Nat):Bool:=aeo P ty && ((P.info? ty).map (·.size) == some k)
theorem acA {T ty:TypeId} {P:Program} {R:Ending->World->Prop} {a:Act} {w:World} {g:Nat} {cs:List Value} {f:Func} {t s:Tmp} (h:f.results= #[.cell t ty,.tmp s]) (hu:aiy P ty cs.length=true)
  (hp:a.tmps.getD t undef= .pointer (some ⟨g,0,none⟩)) (ha:a.defers=[]) (hB:aak T w g cs) (hR:R (.returned (.tuple #[.agg cs.toArray,a.tmps.getD s undef])) w):bodyPost P f R .ret a w:=by
 unfold aiy aeo at hu;rw[Bool.and_eq_true] at hu;obtain⟨hu,hi⟩:=hu;split at hu
 ·rename_i fs he;refine bodyPost_ret (v:= .tuple #[.agg cs.toArray,a.tmps.getD s undef]) ?_ ha hR;have hp':a.tmps[t]?.getD undef= .pointer (some ⟨g,0,none⟩):=by simpa using hp
  simp[results,h,hp',asAddr,run_loadVar_row w g T ty cs.toArray (0,0) _ hB he rfl (by simpa using hi)]
 ·cases hu
end Go.Proofs.YtcmplpkmfbhpdaaGreat
