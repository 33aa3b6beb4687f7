import Derived.Test.YtcmplpkmfbhpdaaGreatGI
namespace Go.Proofs.YtcmplpkmfbhpdaaGreat
open Go Go.RowKit
def avI (w:World) (S:Nat) (l:List Nat) (k:Nat) (v u:Value) (wr:World):Prop:=
 ∃ (i:Nat) (o:List Nat),u= .int .i64 i/\wr.ownsRow (w.heap.size+1+1) 213 1 v i (o.map λx:Nat=>Value.int .u32 x)/\afG S l i o/\i<=l.length/\l.length<k+i/\
  aak 35 wr (w.heap.size+1) [.slice none 0 0]/\Own w.heap.size w wr
set_option maxHeartbeats 8000000 in
set_option maxRecDepth 100000 in
theorem ako (x s:Nat) (v:Value) (w:World) (hv:aaD w v x) (hx:(limbs x).length<=900000) (hs:s<32) :
  Calls Tryz.prog 211 #[v,.int .i64 s] w λe w'=>∃ r,e= .returned (.tuple #[r,.int .i64 0])/\aaD w' r (x/2 ^ s)/\Own w.heap.size w w':=by
 obtain⟨a,rfl,hr⟩:=hv;have HX:=Lib.hid (val_limbs x);have HLX:=Lib.hid (limbs_limb x);have HR:=Lib.hid hr;clear hr;obtain⟨i0,hi,hz0,hz1,hz2⟩:=info_parts info213;obtain⟨l,hl⟩:∃ l,l=limbs x:=⟨_,rfl⟩
 rw[<- hl] at HX HLX HR hx ⊢;clear hl;obtain⟨S,hS⟩:∃ S,S=2 ^ s:=⟨_,rfl⟩
 have hS0:0<S:=by rw[hS];exact Nat.two_pow_pos _
 have hB:4294967296=S*2 ^ (32-s):=by rw[hS,<- Nat.pow_add,show s+(32-s)=32 by omega]
 have k0:¬ (s:Int)<0:=by omega
 have k1:¬ (s:Int)>65536:=by omega
 have k2:(s:Int)/32=0:=by omega
 have k3:(s:Int)%32=(s:Int):=by omega
 by_cases h0:l=[]
 ·subst h0;have HG:Hid (Own w.heap.size w ((w.alloc (.cells #[.slice a 0 0] 35)).alloc (.cells #[.slice none 0 0] 35))):=(aap _ _).alloc (by simp) _;have HB3:Hid (aak 35 ((w.alloc (.cells #[.slice a 0 0] 35)).alloc (.cells #[.slice none 0 0] 35)) (w.heap.size+1) [.slice none 0 0]):=aaN (cs:=[.slice none 0 0]) (by simp);have hx0:x/2 ^ s=0:=by rw[<- HX.out];simp[valL]
  go_enter Tryz.func211,Tryz.ntmps211
  go_wp2_with fail
  refine acA rfl (by kernel_rfl) rfl rfl HB3.out ⟨_,rfl,?_,HG.out⟩;exact ael _
 have hl0:0<l.length:=List.length_pos_iff.2 h0;obtain⟨g,ha,hgl,_⟩:=HR.out.cells h0;subst ha;obtain⟨w1,hmk,hown,hgk⟩:=run_make_own (P:=Tryz.prog) (w:=((w.alloc (.cells #[.slice (some ⟨g,0,none⟩) l.length l.length] 35)).alloc (.cells #[.slice none 0 0] 35))) (w.heap.size+1+1) 33 213 i0 (.int .u32 0) 1 Tryz.underlying33 hi hz0 hz1 .i64 .i64 (l.length) (by rw[hz2];omega) (by unfold maxLen;omega) (by simp);have hdk:=abz _ hmk;have HB1:Hid (aak 35 ((w.alloc (.cells #[.slice (some ⟨g,0,none⟩) l.length l.length] 35)).alloc (.cells #[.slice none 0 0] 35)) w.heap.size [.slice (some ⟨g,0,none⟩) l.length l.length]):=(aak.new _ w [.slice (some ⟨g,0,none⟩) l.length l.length]).still (aab _ _ none);have HB3:Hid (aak 35 ((w.alloc (.cells #[.slice (some ⟨g,0,none⟩) l.length l.length] 35)).alloc (.cells #[.slice none 0 0] 35)) (w.heap.size+1) [.slice none 0 0]):=aaN (cs:=[.slice none 0 0]) (by simp);have HG:Hid (Own w.heap.size w ((w.alloc (.cells #[.slice (some ⟨g,0,none⟩) l.length l.length] 35)).alloc (.cells #[.slice none 0 0] 35))):=(aap _ _).alloc (by simp) _;have HC1:=Lib.hid (HB1.out.still hgk);have HC3:=Lib.hid (HB3.out.still hgk);have HG1:Hid (Own w.heap.size w w1):=HG.out.call HG.out.size (ab2 hgk hdk);simp only[World.size_alloc] at hmk hown;push_cast at hmk
 have HOWN:=Lib.hid hown;have hwz:w.heap.size+1+1<=w1.heap.size:=by have:=hgk.size;simpa using this
 have hd1:=HC1.out.cell 0;simp only[List.getElem?_cons_zero] at hd1;clear hown hgk hdk HB1 HB3 HG;have hl1:¬ (0:Int)>=l.length:=by omega
 have hl2:¬ (l.length:Int)<=0:=by omega
 have h00:¬ (l.length=0):=by omega
 go_enter Tryz.func211,Tryz.ntmps211
 go_wp2_with fail
 go_loopg [7,35] (l.length+1) (λk v u wr=>Hid (avI w S l k v u wr))
 case atStart=>exact⟨0,[],rfl,HOWN.out,amL _ _,Nat.zero_le _,by omega,HC3.out,HG1.out⟩
 case round=>
  clear HOWN HC1 HC3 HG1 hd1 hmk;obtain⟨i,o,rfl,hown,hat,hil,hik,hb3,hg⟩:=hrel.out;have HOWN:=Lib.hid hown;have HAT:=Lib.hid hat;have HB3:=Lib.hid hb3;have HG:=Lib.hid hg;have holen:o.length=i:=hat.1;clear hrel hown hat hb3 hg;have hb3:=HB3.out.cell 0;have hf3:=HB3.out.free 0;have hsz3:=HB3.out.lt;simp only[List.getElem?_cons_zero] at hb3;by_cases hlt:i<l.length
  ·obtain⟨p,hp⟩:∃ p,l[i]? =some p:=⟨l[i]'(by omega),List.getElem?_eq_getElem _⟩
   have hpb:=HLX.out p (List.mem_of_getElem? hp);obtain⟨g',ha,hgl',hcell⟩:=((HR.out.own HG.out)).cells (by rintro h;rw[h] at hlt;simp at hlt);cases ha;have hc0:=hcell _ _ hp;have HP:=Lib.hid hp;have hlt2:(i:Int)<l.length:=by omega
   clear hp;by_cases hlt3:i+1<l.length
   ·obtain⟨q,hq⟩:∃ q,l[i+1]? =some q:=⟨l[i+1]'(by omega),List.getElem?_eq_getElem _⟩
    have hqb:=HLX.out q (List.mem_of_getElem? hq);have hc1:=hcell _ _ hq;have hi1:((i:Int)+1).toNat=i+1:=by omega
    have hlt4:(i:Int)+1<l.length:=by omega
    have hi0:0<=(i:Int)+1:=by omega
    clear hcell;obtain⟨N,hN⟩:∃ N,N=p+q*4294967296:=⟨_,rfl⟩
    have hNb:N<18446744073709551616:=by omega
    have hor:bits BinOp.or IntKind.u64 (p:Int) ((q:Int)*4294967296)=(N:Int):=by
     have:=agv 32 q p (by decide) hpb (by omega);rw[hN,Nat.add_comm];exact this
    obtain⟨Z,hZ⟩:∃ Z,Z=(N/S)%4294967296:=⟨_,rfl⟩
    obtain⟨M,hM⟩:∃ M,M=N/S:=⟨_,rfl⟩
    have hMb:M<18446744073709551616:=by rw[hM];exact Nat.lt_of_le_of_lt (Nat.div_le_self _ _) hNb
    have hshr:(N:Int)/2 ^ s=(M:Int):=by rw[hM,hS];push_cast;rfl
    have hz:(M:Int)%4294967296=(Z:Int):=by omega
    have HN:Hid (afG S l (i+1) (o++[Z])):=by
     have h:=alV HAT.out HP.out hpb hS0 hB;rw[hq,Option.getD_some] at h;rw[hZ,hN];exact h
    clear hN hZ hM hq;go_wp2_with (at_builtin;refine aav _ (by rfl) _ _ 33 (by rfl) (w.heap.size+1+1) 213 i0 (.int .u32 0) 1 4 Tryz.underlying33 hi hz0 hz1 hz2 (by rfl) (by decide) _ _ _ (by rfl) (HOWN.out.alloc _) ⟨wr.heap.size,0,none⟩ 1 1 [.int .u32 (Z:Nat)] (by rfl) (by rfl) (abf wr _ _ rfl) (by intro u hu;cases hu with | head=>rfl | tail _ h=>cases h) (by unfold maxLen;omega) (by omega) (by simp;omega) ?_)
    intro v' w2 hown2 hgrow2 hd2;have HNE:=Lib.hid (adH HOWN.out);have HW2:=Lib.hid (aba HG.out HOWN.out hgrow2 hd2);have HB32:=Lib.hid ((HB3.out.still (aab _ _ none)).grown hgrow2 (Ne.symm HNE.out));have HO2:=Lib.hid (by rw[<- List.map_singleton (f:=λx:Nat=>Value.int .u32 x),<- List.map_append] at hown2;exact hown2);have hz2:=hgrow2.size;clear hown2 hgrow2 hd2 HOWN hb3 hf3 HB3;go_wp2_with fail
    go_roundg (gk-1)
    case measure=>omega
    case rel=>exact⟨i+1,o++[Z],by first | rfl | go_num,HO2.out,HN.out,by omega,by omega,HB32.out,HW2.out⟩
   ·clear hcell;have hlt4:¬ (i:Int)+1<l.length:=by omega
    obtain⟨N,hN⟩:∃ N,N=p:=⟨_,rfl⟩
    have hNb:N<18446744073709551616:=by omega
    rw[<- hN] at hc0;obtain⟨Z,hZ⟩:∃ Z,Z=(N/S)%4294967296:=⟨_,rfl⟩
    obtain⟨M,hM⟩:∃ M,M=N/S:=⟨_,rfl⟩
    have hMb:M<18446744073709551616:=by rw[hM];exact Nat.lt_of_le_of_lt (Nat.div_le_self _ _) hNb
    have hshr:(N:Int)/2 ^ s=(M:Int):=by rw[hM,hS];push_cast;rfl
    have hz:(M:Int)%4294967296=(Z:Int):=by omega
    have HN:Hid (afG S l (i+1) (o++[Z])):=by
     have h:=alV HAT.out HP.out hpb hS0 hB;rw[List.getElem?_eq_none (by omega),Option.getD_none,Nat.zero_mul,Nat.add_zero] at h;rw[hZ,hN];exact h
    clear hN hZ hM;go_wp2_with (at_builtin;refine aav _ (by rfl) _ _ 33 (by rfl) (w.heap.size+1+1) 213 i0 (.int .u32 0) 1 4 Tryz.underlying33 hi hz0 hz1 hz2 (by rfl) (by decide) _ _ _ (by rfl) (HOWN.out.alloc _) ⟨wr.heap.size,0,none⟩ 1 1 [.int .u32 (Z:Nat)] (by rfl) (by rfl) (abf wr _ _ rfl) (by intro u hu;cases hu with | head=>rfl | tail _ h=>cases h) (by unfold maxLen;omega) (by omega) (by simp;omega) ?_)
    intro v' w2 hown2 hgrow2 hd2;have HNE:=Lib.hid (adH HOWN.out);have HW2:=Lib.hid (aba HG.out HOWN.out hgrow2 hd2);have HB32:=Lib.hid ((HB3.out.still (aab _ _ none)).grown hgrow2 (Ne.symm HNE.out));have HO2:=Lib.hid (by rw[<- List.map_singleton (f:=λx:Nat=>Value.int .u32 x),<- List.map_append] at hown2;exact hown2);have hz2:=hgrow2.size;clear hown2 hgrow2 hd2 HOWN hb3 hf3 HB3;go_wp2_with fail
    go_roundg (gk-1)
    case measure=>omega
    case rel=>exact⟨i+1,o++[Z],by first | rfl | go_num,HO2.out,HN.out,by omega,by omega,HB32.out,HW2.out⟩
  ·have hil2:i=l.length:=by omega
   have hlt2:¬ (i:Int)<l.length:=by omega
   obtain⟨he1,he2,he3⟩:=apC (S:=S) (l:=l) (o:=o) (by rw[<- hil2];exact HAT.out) hS0;have HE:=Lib.hid he1;have HV:Hid (valL o=x/2 ^ s):=by show _=_;rw[he3,HX.out,hS]
   clear hil2 he1 he2 he3;obtain⟨ra,rc,hv',hrc,hrow⟩:=agp HOWN.out holen;subst hv';have HROW:=Lib.hid hrow;have HB32:=HB3;have HW2:=HG;clear hrow HOWN;go_wp2_with fail
   refine (acW o _ _ _ _ HE.out HROW.out holen hrc (by omega)).mono ?_;rintro e3 w3 ⟨v3,rfl,hv3,hg3⟩;rw[HV.out] at hv3;have HV3:=Lib.hid hv3;have HB33:=Lib.hid (HB32.out.still (Gr.grown hg3));clear hf3;have HW3:=Lib.hid (HW2.out.call HW2.out.size hg3);have hlt3:=HB33.out.lt;have hc3:=HB33.out.cell 0;have hf3:=HB33.out.free 0;simp only[List.getElem?_cons_zero] at hc3;obtain⟨a3,rfl,_⟩:=hv3;clear hg3 HW2 HB32;go_wp2_with fail
   obtain⟨h1,h2⟩:=abO (u:= .slice a3 (limbs (x/2 ^ s)).length (limbs (x/2 ^ s)).length) HV3.out HB33.out (by decide) HW3.out (show w.heap.size<=w.heap.size+1 by omega);exact acA rfl (by kernel_rfl) rfl rfl (HB33.out.set 0 _) ⟨_,rfl,h1,h2⟩
end Go.Proofs.YtcmplpkmfbhpdaaGreat
