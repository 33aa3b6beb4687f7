import Derived.Test.YtcmplpkmfbhpdaaGreatGL
namespace Go.Proofs.YtcmplpkmfbhpdaaGreat
open Go Go.RowKit
def ayw (w:World) (gr gq gd:Nat) (d:List Nat) (ex cd:List Value) (U M k:Nat) (u:Value) (wr:World):Prop:=
 ∃ (i:Nat) (q r:List Nat),u= .int .i64 ((i:Int)-1)/\i+d.length<=M/\i<k/\afB d U M i q r/\ad7 wr gr r ex/\ad7 wr gq q []/\aak 213 wr gd cd/\
  aak 35 wr (w.heap.size+1+1) [.slice none 0 0]/\aak 35 wr (w.heap.size+1+1+1) [.slice none 0 0]/\Below w.heap.size w wr
structure ami (w w':World):Prop where
 heap:w'.heap=w.heap
 os:w'.os=w.os
 tape:w'.tape=w.tape
 output:w'.output=w.output
theorem ami.grown {w w':World} (h:ami w w'):w.grownBy w' none:=⟨h.os,h.tape,h.output,Nat.le_of_eq (by rw[h.heap]),λk _ _=>by rw[h.heap]⟩
theorem ami.below {w0 w w':World} (h:ami w w') {B:Nat} (hb:Below B w0 w):Below B w0 w':=hb.trans ⟨h.os,h.tape,h.output,Nat.le_of_eq (by rw[h.heap]),λk _=>by rw[h.heap]⟩
def arZ (two t R D:Nat) (wo:World) (k:Nat) (gv lv:Value) (wr:World):Prop:=
 ∃ G L:Nat,gv= .int .u64 G/\lv= .int .u64 L/\G*t+L=two/\R<(G+1)*D/\(L:Int)<4294967296/\(G:Int)<=4294967297/\G<k/\ami wo wr
def anO (w:World) (gr gq gd:Nat) (d q r:List Nat) (ex cd:List Value) (i G k:Nat) (bv cv u:Value) (wr:World):Prop:=
 ∃ (j:Nat) (o:List Nat) (c b:Nat),bv= .int .i64 b/\cv= .int .u64 c/\u= .int .i64 j/\j<=d.length/\d.length<k+j/\adM d r i G j o c b/\ad7 wr gr o ex/\ad7 wr gq q []/\aak 213 wr gd cd/\
  aak 35 wr (w.heap.size+1+1) [.slice none 0 0]/\aak 35 wr (w.heap.size+1+1+1) [.slice none 0 0]/\Below w.heap.size w wr
def akh (w:World) (gr gq gd:Nat) (d q r:List Nat) (ex cd:List Value) (i k:Nat) (sv u:Value) (wr:World):Prop:=
 ∃ (j:Nat) (o:List Nat) (s:Nat),sv= .int .u64 s/\u= .int .i64 j/\j<=d.length/\d.length<k+j/\adp d r i j o s/\ad7 wr gr o ex/\ad7 wr gq q []/\aak 213 wr gd cd/\
  aak 35 wr (w.heap.size+1+1) [.slice none 0 0]/\aak 35 wr (w.heap.size+1+1+1) [.slice none 0 0]/\Below w.heap.size w wr
theorem aay {w wr:World} (h:Below w.heap.size w wr) {g:Nat} (hg:w.heap.size<=g) (j:Nat) (v:Value):Below w.heap.size w (wr.setCell ⟨g,j,none⟩ v):=h.setCell hg v
theorem abd {B:Nat} {w0 w w':World} (hb:Below B w0 w) (h1:w'.heap=w.heap) (h2:w'.os=w.os) (h3:w'.tape=w.tape) (h4:w'.output=w.output):Below B w0 w':=ami.below ⟨h1,h2,h3,h4⟩ hb
theorem akz (w:World) (g h j k:Nat) (v:Value) (hne:g≠h):(w.setCell ⟨h,k,none⟩ v).cell? ⟨g,j,none⟩=w.cell? ⟨g,j,none⟩:=World.cell?_of_block (a:=⟨g,j,none⟩) (Below.heap_setCell _ _ _ _ hne)
theorem acB {T:TypeId} {w:World} {g:Nat} {v:Value} (h:aak T w g [v]):w.cell? ⟨g,0,none⟩=some v:=by rw[h.cell 0];rfl
theorem aqw {d:List Nat} {n t:Nat} (hd:Limb d) (hl:d.length=n+1) (ht:d[n]? =some t) (h:4294967296 ^ (n+1)<=valL d*2):4294967296<=2*t:=by
 have h1:=aa9 d n (by omega);rw[val_drop ht,List.drop_of_length_le (by omega)] at h1;simp only[valL,Nat.mul_zero,Nat.add_zero] at h1;have h2:=val_lt (acO hd n);rw[List.length_take,hl,Nat.min_eq_left (by omega)] at h2;obtain⟨P,hP⟩:∃ P,P=4294967296 ^ n:=⟨_,rfl⟩
 rw[Nat.pow_succ] at h;rw[<- hP] at h h1 h2;apply Nat.le_of_not_lt;intro hc;have h3:P*(2*t+2)<=P*4294967296:=Nat.mul_le_mul_left _ (by omega);rw[Nat.mul_add] at h3;have h4:P*(2*t)=P*t*2:=by rw[Nat.mul_left_comm,Nat.mul_comm 2]
 omega
set_option maxHeartbeats 16000000 in
set_option maxRecDepth 1000000 in
theorem akq (x y:Nat) (v u:Value) (w:World) (hv:aaD w v x) (hu:aaD w u y) (hxy:y<=x) (hx:(limbs x).length<=800000) (hy:2<=(limbs y).length) :
  Calls Tryz.prog 170 #[v,u] w λe w'=>av7 x y w' e/\Below w.heap.size w w':=by
 have HV:=Lib.hid hv;have HU:=Lib.hid hu;have HLY:=Lib.hid (limbs_mono hxy);have HNX:=Lib.hid hx;have hy0:limbs y≠[]:=by intro h;rw[h] at hy;simp at hy
 have HS:=Lib.hid hu;obtain⟨a,rfl,_⟩:=hv;obtain⟨b,rfl,hs⟩:=hu;have HSR:=Lib.hid hs;obtain⟨n,hn⟩:∃ n,n=(limbs x).length:=⟨_,rfl⟩
 obtain⟨m,hm⟩:∃ m,(limbs y).length=m+2:=⟨(limbs y).length-2,by omega⟩
 have HN:=Lib.hid hn;have HM:=Lib.hid hm;have hmn:m+2<=n:=by have:=HLY.out;omega
 have hn8:n<=800000:=by omega
 obtain⟨t,ht⟩:∃ t,(limbs y)[m+1]? =some t:=⟨(limbs y)[m+1]'(by omega),List.getElem?_eq_getElem _⟩
 have htl:(limbs y).getLast hy0=t:=by
  rw[List.getLast_eq_getElem];have:=(List.getElem?_eq_some_iff.1 ht).2;rw[<- this];congr 1
  omega
 have ht0:0<t:=by rw[<- htl];exact af9 hy0
 have htb:t<4294967296:=limbs_limb y t (List.mem_of_getElem? ht);obtain⟨hbl0,hbl1⟩:=ahe ht0 htb;obtain⟨s,hs0⟩:∃ s,s=32-Lib.bitLen t:=⟨_,rfl⟩
 have hs1:32-(Lib.bitLen t:Int)=(s:Int):=by omega
 have HNORM:=Lib.hid (amz (y:=y) (s:=s) hy0 (by rw[htl];exact hs0));have hs31:s<32:=by omega
 have htn:Int.toNat (t:Int)=t:=by omega
 rw[<- hn] at HV ⊢;rw[hm] at HU ⊢;obtain⟨gb,hgb,hglb,hcellb⟩:=HSR.out.cells hy0;subst hgb;have htc:=hcellb _ _ ht;clear hn hm hs hx hy ht htl hs0 hcellb;have HB1:=Lib.hid (anI w a (some ⟨gb,0,none⟩) n (m+2));have HB2:=Lib.hid (anH w a (some ⟨gb,0,none⟩) n (m+2));have HB3:=Lib.hid (akY w a (some ⟨gb,0,none⟩) n (m+2));have HB4:=Lib.hid (akX w a (some ⟨gb,0,none⟩) n (m+2));have HG:=Lib.hid (akW w a (some ⟨gb,0,none⟩) n (m+2));have HV1:=Lib.hid (Gr.natIs HG.out HV.out);have HU1:=Lib.hid (Gr.natIs HG.out HU.out);have htc1:=aaw HG.out htc;have hm1:((m+2:Nat):Int)-1=(m:Int)+1:=by omega
 have hm2:((m:Int)+2 == 1)=false:=by simp;omega
 have hm3:((m+2) == 1)=false:=by simp
 have hm4:((m:Int)+2 == 0)=false:=by simp;omega
 have hm5:((m+2) == 0)=false:=by simp
 have hm6:((m:Int)+2-1)=(m:Int)+1:=by omega
 have hm7:((m:Int)+1).toNat=m+1:=by omega
 go_enter Tryz.func170,Tryz.ntmps170
 go_wp2_with fail
 refine (ab1 x y _ _ _ HV1.out HU1.out (by have:=HNX.out;omega)).mono ?_;rintro e w1 ⟨rfl,hg1⟩;have HG1:=Lib.hid (HG.out.call HG.out.size hg1);have HC1:=Lib.hid (HB1.out.still (Gr.grown hg1));have HC2:=Lib.hid (HB2.out.still (Gr.grown hg1));have HC3:=Lib.hid (HB3.out.still (Gr.grown hg1));have HC4:=Lib.hid (HB4.out.still (Gr.grown hg1));have HV2:=Lib.hid (Gr.natIs hg1 HV1.out);have HU2:=Lib.hid (Gr.natIs hg1 HU1.out);have htc2:=aaw hg1 htc1;have hb1:=HC1.out.cell 0;have hb2:=HC2.out.cell 0;simp only[List.getElem?_cons_zero] at hb1 hb2;have hc:=aeV hxy;clear hg1 HV1 HU1 HB1 HB2 HB3 HB4 HG htc1;go_wp2_with fail
 refine (Tryz.bits_LeadingZeros32 (t:Int) _ (by omega) (by omega)).mono ?_;rintro e w' ⟨rfl,rfl⟩;go_wp2_with fail
 refine (aiQ x s _ _ HV2.out (by have:=HNX.out;omega) hs31).mono ?_;rintro e w2 ⟨ru,rfl,hru,hg2⟩;have HG2:=Lib.hid (HG1.out.call HG1.out.size hg2);have HD2:=Lib.hid (HC2.out.still (Gr.grown hg2));have HD3:=Lib.hid (HC3.out.still (Gr.grown hg2));have HD4:=Lib.hid (HC4.out.still (Gr.grown hg2));have HU3:=Lib.hid (Gr.natIs hg2 HU2.out);have HRU:=Lib.hid hru;have hb2:=HD2.out.cell 0;simp only[List.getElem?_cons_zero] at hb2;have hlu:=limbs_mono (show x<=x*2 ^ s from Nat.le_mul_of_pos_right _ (Nat.two_pow_pos s));have hlu2:(limbs (x*2 ^ s)).length<=n+1:=by
  rw[limbs_len];have h1:=val_lt (limbs_limb x);rw[val_limbs,<- HN.out] at h1;have h2:x*2 ^ s<4294967296 ^ n*2 ^ s:=Nat.mul_lt_mul_of_pos_right h1 (Nat.two_pow_pos s);have h3:4294967296 ^ n*2 ^ s<=4294967296 ^ n*4294967296:=Nat.mul_le_mul_left _ (Nat.pow_le_pow_right (by decide) (show s<=32 by omega));rw[Nat.pow_succ];omega
 rw[<- HN.out] at hlu;obtain⟨au,rfl,hru2⟩:=hru;have HLU:=Lib.hid (limbs_limb (x*2 ^ s));have HVU:=Lib.hid (val_limbs (x*2 ^ s));have HROWU:=Lib.hid hru2;obtain⟨lu,hlu3⟩:∃ l,l=limbs (x*2 ^ s):=⟨_,rfl⟩
 rw[<- hlu3] at HLU HVU HROWU hlu hlu2 ⊢;have hu0:lu≠[]:=by intro h;rw[h] at hlu;simp at hlu;omega
 obtain⟨gu,hgu,hglu,hcu⟩:=HROWU.out.cells hu0;subst hgu;have HCU:=Lib.hid hcu;have hl2:=HD2.out.lt;have hl4:=HD4.out.lt;have HBU:Hid (aak 35 (w2.alloc (.cells #[.slice (some ⟨gu,0,none⟩) lu.length lu.length] 35)) w2.heap.size [.slice (some ⟨gu,0,none⟩) lu.length lu.length]):=aak.new _ _ _;have HE3:=Lib.hid (HD3.out.still (aab _ (.cells #[.slice (some ⟨gu,0,none⟩) lu.length lu.length] 35) none));have HE4:=Lib.hid (HD4.out.still (aab _ (.cells #[.slice (some ⟨gu,0,none⟩) lu.length lu.length] 35) none));have HG3:=Lib.hid (HG2.out.alloc HG2.out.size (.cells #[.slice (some ⟨gu,0,none⟩) lu.length lu.length] 35));have HU4:=Lib.hid (Gr.natIs (aap _ (.cells #[.slice (some ⟨gu,0,none⟩) lu.length lu.length] 35)) HU3.out);clear hg2 HC1 HC2 HC3 HC4 HV2 HU2 hb1 htc2 HG1 hs1 htn htc HD3 HD4 HU3 hru2 hlu3 hcu HRU HG2;go_wp2_with fail
 refine (aiQ y s _ _ HU4.out (by have:=HNX.out;have:=HLY.out;omega) hs31).mono ?_;rintro e w3 ⟨rv,rfl,hrv,hg3⟩;have HG4:=Lib.hid (HG3.out.call HG3.out.size hg3);have HF3:=Lib.hid (HE3.out.still (Gr.grown hg3));have HF4:=Lib.hid (HE4.out.still (Gr.grown hg3));have HBU2:=Lib.hid (HBU.out.still (Gr.grown hg3));obtain⟨ad,rfl,hrd⟩:=hrv;have HLD:=Lib.hid (limbs_limb (y*2 ^ s));have HVD:=Lib.hid (val_limbs (y*2 ^ s));have hld:=HNORM.out.1;have hld2:=HNORM.out.2;rw[HM.out] at hld hld2;obtain⟨d,hd3⟩:∃ l,l=limbs (y*2 ^ s):=⟨_,rfl⟩
 rw[<- hd3] at HLD HVD hrd hld ⊢;have hd0:d≠[]:=by intro h;rw[h] at hld;simp at hld
 obtain⟨gd,cd,hgd,hbd,hcd⟩:=hrd.blk hd0;subst hgd;have HBD:=Lib.hid hbd;have HCD:=Lib.hid hcd;have HD2':=Lib.hid hld2;have HLDN:=Lib.hid hld;rw[hld];have hu3:=HBU2.out.cell 0;have hl5:=HBU2.out.lt;have hl6:=HF4.out.lt;simp only[List.getElem?_cons_zero] at hu3;have HCU2:Hid (∀ j u,(lu.map λx:Nat=>Value.int .u32 x)[j]? =some u->(w3.alloc (.cells #[.slice (some ⟨gd,0,none⟩) (m+2) (m+2)] 35)).cell? ⟨gu,0+j,none⟩=some u):=by
  intro j u hj;rw[List.getElem?_map] at hj;cases hq:lu[j]? with
  |none=>rw[hq] at hj;cases hj
  |some z=>
   rw[hq] at hj;cases hj;rw[Nat.zero_add];have h1:=HCU.out j z hq;exact aaw (aap _ _) (aaw hg3 (aaw (aap _ _) h1))
 have HG5:=Lib.hid (HG4.out.alloc HG4.out.size (.cells #[.slice (some ⟨gd,0,none⟩) (m+2) (m+2)] 35));have HH3:=Lib.hid (HF3.out.still (aab _ (.cells #[.slice (some ⟨gd,0,none⟩) (m+2) (m+2)] 35) none));have HH4:=Lib.hid (HF4.out.still (aab _ (.cells #[.slice (some ⟨gd,0,none⟩) (m+2) (m+2)] 35) none));have HBD5:=Lib.hid (HBD.out.still (aab _ (.cells #[.slice (some ⟨gd,0,none⟩) (m+2) (m+2)] 35) none));obtain⟨i0,hi,hz0,hz1,hz2⟩:=info_parts info213;clear hg3 hrd hbd hcd HE3 HE4 HBU HG3 HU4 hld2 HF3 HF4 hd3;go_wp2_with fail
 refine (Tryz.slices_Clone i0 (.int .u32 0) 1 4 hi hz0 hz1 hz2 (by rfl) (by decide) (λ_=>by kernel_rfl) gu 0 lu.length lu.length (lu.map λx:Nat=>Value.int .u32 x) _ (by simp) (by unfold maxLen;omega) (by omega) HCU2.out (by intro u hu;obtain⟨z,_,rfl⟩:=List.mem_map.1 hu;rfl)).mono ?_;rintro e w4 ⟨vc,rfl,hown4,_,hb4⟩;simp only[World.size_alloc] at hown4;have HOWN4:=Lib.hid hown4;have HB6:Hid (Below w.heap.size w w4):=HG5.out.b.trans (hb4.mono (by have:=HG5.out.size;simpa using this));have HJ3:=Lib.hid (HH3.out.still (aar hb4 none));have HJ4:=Lib.hid (HH4.out.still (aar hb4 none));have HJD:=Lib.hid (HBD5.out.still (aar hb4 none));have hz4:w3.heap.size+1<=w4.heap.size:=by have:=hb4.size;simpa using this
 clear hown4 hb4 HG5 HH3 HH4 HBD5 HCU2 HCU hu3;go_wp2_with (at_builtin;refine aav _ (by rfl) _ _ 33 (by rfl) (w3.heap.size+1) 213 i0 (.int .u32 0) 1 4 Tryz.underlying33 hi hz0 hz1 hz2 (by rfl) (by decide) _ _ _ (by rfl) (HOWN4.out.alloc _) ⟨w4.heap.size,0,none⟩ 1 1 [.int .u32 0] (by rfl) (by rfl) (abf w4 _ _ rfl) (by intro u hu;cases hu with | head=>rfl | tail _ h=>cases h) (by unfold maxLen;omega) (by omega) (by simp;omega) ?_)
 intro vr w5 hown5 hgrow5 _;have HB7:Hid (Below w.heap.size w w5):=(HB6.out.alloc HB6.out.size _).grown hgrow5 (by have:=HB6.out.size;simp;omega) (λk e=>by have:=(HOWN4.out.lt k e).1;omega);have hnb:∀ k,k<w3.heap.size+1->some k≠vc.ownBlock:=λk hk e=>by have:=(HOWN4.out.lt k e.symm).1;omega
 have HK3:=Lib.hid ((HJ3.out.still (aab _ _ none)).grown hgrow5 (hnb _ (by omega)));have HK4:=Lib.hid ((HJ4.out.still (aab _ _ none)).grown hgrow5 (hnb _ (by omega)));have HKD:=Lib.hid ((HJD.out.still (aab _ _ none)).grown hgrow5 (hnb _ (by have:=HBD.out.lt;omega)));obtain⟨gr,cap,ex,rfl,hcap,hgr,hrow⟩:=ajo (l:=lu++[0]) (by rw[List.map_append];exact hown5) (by omega) (by simp);have HROW:=Lib.hid hrow;obtain⟨Q,hQ⟩:∃ Q,Q=lu.length+1-(m+2):=⟨_,rfl⟩
 obtain⟨w6,hmk,hbq,hgq⟩:=afX w5 Q (by omega);have HB8:Hid (Below w.heap.size w w6):=HB7.out.trans (hgq.b.mono HB7.out.size);have HL3:=Lib.hid (HK3.out.still (Gr.grown hgq));have HL4:=Lib.hid (HK4.out.still (Gr.grown hgq));have HLD2:=Lib.hid (HKD.out.still (Gr.grown hgq));have HROW2:=Lib.hid (HROW.out.still (Gr.grown hgq));have HBQ:=Lib.hid hbq;have hgd3:gd<w3.heap.size:=HBD.out.lt;have hgr5:gr<w5.heap.size:=aak.lt HROW.out;have hq1:((lu.length:Int)+1)-((m:Int)+2)=(Q:Int):=by omega
 have hQ0:0<Q:=by omega
 have HQ:=Lib.hid hQ;obtain⟨t,ht⟩:∃ t,d[m+1]? =some t:=⟨d[m+1]'(by omega),List.getElem?_eq_getElem _⟩
 obtain⟨nx,hnx⟩:∃ t,d[m]? =some t:=⟨d[m]'(by omega),List.getElem?_eq_getElem _⟩
 have hct:w6.cell? ⟨gd,m+1,none⟩=some (Value.int .u32 (t:Nat)):=by rw[HLD2.out.cell];exact HCD.out _ _ ht
 have hcn:w6.cell? ⟨gd,m,none⟩=some (Value.int .u32 (nx:Nat)):=by rw[HLD2.out.cell];exact HCD.out _ _ hnx
 have htb:=HLD.out t (List.mem_of_getElem? ht);have hnb2:=HLD.out nx (List.mem_of_getElem? hnx);have HT:=Lib.hid ht;have HNX2:=Lib.hid hnx;have hm8:((m:Int)+2-2)=(m:Int):=by omega
 have hm9:(m:Int)+1<(m:Int)+2:=by omega
 have hm10:(m:Int)<(m:Int)+2:=by omega
 have hm11:0<=(m:Int)+1:=by omega
 clear hown5 hgrow5 HB6 HJ3 HJ4 HJD HOWN4 hnb HK3 HK4 HKD hrow HROW hgq HB7 hQ ht hnx hbq hi hz0 hz1 hz2;obtain⟨X0,hX0⟩:∃ q,q=x:=⟨_,rfl⟩
 subst hX0;have htop:4294967296<=2*t:=aqw HLD.out hld HT.out (by rw[HVD.out];exact HD2'.out);have HSTART:=Lib.hid (apD (d:=d) (u:=lu) (n:=m+1) HLU.out hld HT.out (by omega) (by omega));have hQ2:lu.length-(m+1)=Q:=by have:=HQ.out;omega
 rw[hQ2,HVU.out] at HSTART;have HDL:=Lib.hid hld;clear hQ2;go_wp2_with fail
 go_quiet (fail)
 go_wp2_with fail
 clear hct hcn hmk;go_loopg [20] (Q+1) (λk u wr=>Hid (ayw w gr w5.heap.size gd d ex cd (X0*2 ^ s) (lu.length+1) k u wr))
 case atStart=>
  exact⟨Q,_,_,by first | rfl | go_num,by have:=HQ.out;have:=HDL.out;omega,by omega,HSTART.out,HROW2.out,aqI HBQ.out,HLD2.out,HL3.out,HL4.out,⟨HB8.out.os,HB8.out.tape,HB8.out.output,HB8.out.size,HB8.out.block⟩⟩
 case round=>
  clear HSTART HROW2 HBQ HLD2 HL3 HL4 HB8;obtain⟨i,q,r,rfl,hiM,hik,hat,hbr,hbq,hbd,hb3,hb4,hbl⟩:=hrel.out;have HAT:=Lib.hid hat;have HR:=Lib.hid hbr;have HBQ:=Lib.hid hbq;have HBDD:=Lib.hid hbd;have HB3:=Lib.hid hb3;have HB4:=Lib.hid hb4;have HBL:=Lib.hid hbl;obtain⟨gO,hgO⟩:∃ q,q=gk:=⟨_,rfl⟩
  subst hgO;rw[hld] at hiM;clear hrel hat hbr hbq hbd hb3 hb4 hbl;by_cases h0:0<i
  ·obtain⟨j,rfl⟩:∃ j,i=j+1:=⟨i-1,by omega⟩
   have hj1:(((j+1:Nat):Int)-1)=(j:Int):=by omega
   rw[hj1];clear hj1;obtain⟨r0,r1,r2,rl,t',nx',dl,e0,e1,e2,et,en,brl,bdl,b0,b1,b2,bt,bn,hR,hD,hRD,hz0⟩:=amM HAT.out HLD.out HDL.out (by omega);rw[HT.out] at et;cases et;rw[HNX2.out] at en;cases en;have c0:=HR.out.get e0;have c1:=HR.out.get e1;have c2:=HR.out.get e2;have hrlen:r.length=lu.length+1:=HAT.out.rl;have hqlen:q.length=Q:=by have:=HAT.out.ql;have:=HQ.out;have:=HDL.out;omega
   have HE0:=Lib.hid e0;have HZ0:=Lib.hid hz0;have two_lt2:=awY (B:=4294967296) (P:=4294967296 ^ m) (top:=t) (next:=nx) (two:=r0*4294967296+r1) (r2:=r2) (rl:=rl) (dl:=dl) (by rw[<- hR,<- hD];exact hRD) bn bdl;have gfirst:=aks (B:=4294967296) (P:=4294967296 ^ m) (top:=t) (next:=nx) (two:=r0*4294967296+r1) (r2:=r2) (rl:=rl) (dl:=dl) (by omega) rfl b2 brl;rw[<- hR,<- hD] at gfirst;have hgl:=λG h=>ars (B:=4294967296) (guess:=G) (two:=r0*4294967296+r1) (top:=t) h two_lt2 htop;obtain⟨two,htwo⟩:∃ two,two=r0*4294967296+r1:=⟨_,rfl⟩
   have hor:bits BinOp.or IntKind.u64 ((r0:Int)*4294967296) (r1:Int)=(two:Int):=by
    have:=ad4 32 r0 r1 (by decide) b1 (by omega);rw[htwo];exact this
   rw[<- htwo] at two_lt2 gfirst hR;obtain⟨G0,hG0⟩:∃ G,G=two/t:=⟨_,rfl⟩
   obtain⟨L0,hL0⟩:∃ L,L=two%t:=⟨_,rfl⟩
   have hdm:G0*t+L0=two:=by rw[hG0,hL0,Nat.mul_comm];exact Nat.div_add_mod _ _
   have hG0b:G0<4294967296+2:=hgl G0 (by omega);have hL0b:L0<4294967296:=by rw[hL0];exact Nat.lt_trans (Nat.mod_lt _ (by omega)) bt
   rw[<- hG0] at gfirst;have hdv:(two:Int).tdiv (t:Int)=(G0:Int):=by rw[hG0,Int.tdiv_eq_ediv_of_nonneg (by omega)];rfl
   have hmd:(two:Int).tmod (t:Int)=(L0:Int):=by rw[hL0,Int.tmod_eq_emod_of_nonneg (by omega)];rfl
   have htwob:two<18446744073709551616:=by omega
   have HRR:=Lib.hid hR;have HDD:=Lib.hid hD;have HRDD:=Lib.hid hRD;have HTWO:=Lib.hid two_lt2;have HGF:=Lib.hid gfirst;have HDM:=Lib.hid hdm;have HBR2:Hid (rl<4294967296 ^ m/\dl<4294967296 ^ m):=⟨brl,bdl⟩
   have s0:((j:Int)+1-1)=(j:Int):=by omega
   have s1:((j:Int)+((m:Int)+2)).toNat=j+m+2:=by omega
   have s2:((j:Int)+((m:Int)+2)-1).toNat=j+m+1:=by omega
   have s3:((j:Int)+((m:Int)+2)-2).toNat=j+m:=by omega
   have s4:(j:Int)+((m:Int)+2)<(lu.length:Int)+1:=by omega
   have s5:0<=(j:Int)+((m:Int)+2)-1:=by omega
   have s6:0<=(j:Int)+((m:Int)+2)-2:=by omega
   have s7:0<=(j:Int)+((m:Int)+2):=by omega
   have s8:(j:Int)+((m:Int)+2)-1<(lu.length:Int)+1:=by omega
   have s9:(j:Int)+((m:Int)+2)-2<(lu.length:Int)+1:=by omega
   have t0:((t:Int) == 0)=false:=by simp;omega
   have t1:¬ (t:Int)=0:=by omega
   clear e0 e1 e2 brl bdl hR hD hRD hz0 two_lt2 gfirst hgl htwo hG0 hL0 hdm h0;go_wp2_with fail
   go_quiet (fail)
   go_wp2_with fail
   go_quiet (fail)
   go_wp2_with fail
   obtain⟨wo,hwo⟩:∃ q:World,q=wr:=⟨_,rfl⟩
   subst hwo;go_loopg [22,23] (G0+1) (λk g l wr=>Hid (arZ two t (valL (r.drop j)) (valL d) wo k g l wr))
   case atStart=>exact⟨G0,L0,rfl,rfl,HDM.out,HGF.out,by omega,by omega,by omega,⟨rfl,rfl,rfl,rfl⟩⟩
   case round=>
    obtain⟨G,L,rfl,rfl,hsum,hup,hLb,hGb,hGk,hsw⟩:=hrel.out;have HSUM:=Lib.hid hsum;have HUP:=Lib.hid hup;have HSW:=Lib.hid hsw;have c2':=(World.cell?_of_block (a:=⟨gr,j+m,none⟩) (hsw.grown.block gr (aak.lt HR.out) (by simp))).trans c2;clear hrel hsum hup hsw hor hdv hmd hL0b hG0b htwob c0 c1 HGF HDM;by_cases hA:(4294967296:Int)<=(G:Int)
    ·have hA2:decide ((4294967296:Int)<=(G:Int))=true:=by simp;omega
     have hA3:(4294967296:Int)<=(G:Int):=by omega
     obtain⟨G',hGG⟩:∃ G',G=G'+1:=⟨G-1,by omega⟩
     obtain⟨L',hL'⟩:∃ L',L'=L+t:=⟨_,rfl⟩
     have hG':((G:Int)-1)=(G':Int):=by omega
     have hG1:(1:Int)<=(G:Int):=by omega
     have hLt:(L:Int)+(t:Int)=(L':Int):=by omega
     have hsum':G'*t+L'=two:=by have:=HSUM.out;rw[hGG,Nat.add_mul,Nat.one_mul] at this;omega
     have hup':valL (r.drop j)<(G'+1)*valL d:=by have:=Nat.mul_le_mul_right (valL d) (show 4294967296<=G'+1 by omega);have:=HRDD.out;rw[Nat.mul_comm] at this;omega
     have HSUM':=Lib.hid hsum';have HUP':=Lib.hid hup';have hL'b:(L':Int)<=8589934591:=by omega
     have hG'b:(G':Int)<=4294967296:=by omega
     have HGK:Hid (G'+1<gk):=by show _<_;omega
     clear hL' hsum' hup' hGG hA hGk hGb hLb;by_cases hbr2:(4294967296:Int)<=(L':Int)
     ·go_wp2_with fail
      have hbr:4294967296<=L':=by omega
      obtain⟨hGB,hnx⟩:=ai9 (B:=4294967296) (guess:=G') (top:=t) (left:=L') (next:=nx) (r2:=r2) HSUM'.out hbr HTWO.out hnb2;have HNX3:=Lib.hid hnx;have HSUM2:=HSUM';have HUP2:=HUP';obtain⟨Lf,hLf⟩:∃ q,q=L':=⟨_,rfl⟩
      rw[<- hLf] at HNX3 HSUM2;obtain⟨Gf,hGf⟩:∃ q,q=G':=⟨_,rfl⟩
      rw[<- hGf] at HNX3 HSUM2 HUP2 hGB ⊢;clear hGf hLf hnx HSUM HUP HSUM' HUP' hG' hLt hbr hbr2 hL'b hG'b hG1 HGK hA2 hA3;as_aux_lemma=>
       have HLOW:Hid (Gf*valL d<valL (r.drop j)+valL d):=by
        have h:=age (B:=4294967296) (P:=4294967296 ^ m) (top:=t) (next:=nx) (two:=two) (r2:=r2) (rl:=rl) (dl:=dl) hGB HSUM2.out HNX3.out (by omega) HBR2.out.2;rw[<- HRR.out,<- HDD.out] at h;exact h
       have HRa:=Lib.hid (HR.out.still HSW.out.grown);have HQa:=Lib.hid (HBQ.out.still HSW.out.grown);have HDa:=Lib.hid (HBDD.out.still HSW.out.grown);have HB3a:=Lib.hid (HB3.out.still HSW.out.grown);have HB4a:=Lib.hid (HB4.out.still HSW.out.grown);have HBLa:Hid (Below w.heap.size w wr):=HSW.out.below HBL.out;have HBLw:Hid (w.heap.size<gr/\w.heap.size<w5.heap.size/\w.heap.size+1+1+1<gr/\w.heap.size+1+1+1<w5.heap.size/\w5.heap.size≠gr/\gd≠gr/\gd≠w5.heap.size):=⟨by omega,by omega,by omega,by omega,by omega,by omega,by omega⟩
       obtain⟨wp,hwp⟩:∃ q:World,q=wr:=⟨_,rfl⟩
       subst hwp;have hgd4:gd<gr:=by omega
       have hgr6:gr<w5.heap.size:=hgr5;clear HSW HSUM2 HNX3 c2 c2' HR HBQ HBDD HB3 HB4 HBL;go_loopg [24,25,171] (m+2+1) (λk b c u wr=>Hid (anO w gr w5.heap.size gd d q r ex cd j Gf k b c u wr))
       case atStart=>exact⟨0,r,0,0,rfl,rfl,rfl,Nat.zero_le _,by have:=HDL.out;omega,afZ j Gf HAT.out.lr,HRa.out,HQa.out,HDa.out,HB3a.out,HB4a.out,HBLa.out⟩
       case round=>
        clear HRa HQa HDa HB3a HB4a HBLa;obtain⟨k,o,c,b,rfl,rfl,rfl,hkl,hkk,hsa,hro,hbq,hbd,hb3,hb4,hbl⟩:=hrel.out;have HSA:=Lib.hid hsa;have HRO:=Lib.hid hro;have HQ3:=Lib.hid hbq;have HD3:=Lib.hid hbd;have HB3c:=Lib.hid hb3;have HB4c:=Lib.hid hb4;have HBLc:=Lib.hid hbl;have hcl:=hsa.cl;have hbb:=hsa.bl;rw[hld] at hkl hkk;clear hrel hsa hro hbq hbd hb3 hb4 hbl;by_cases hlt:k<m+2
        ·obtain⟨y',hy'⟩:∃ y,d[k]? =some y:=⟨d[k]'(by omega),List.getElem?_eq_getElem _⟩
         have hyb:=HLD.out y' (List.mem_of_getElem? hy');obtain⟨x,hx'⟩:∃ x,o[j+k]? =some x:=⟨o[j+k]'(by rw[HSA.out.len,hrlen];omega),List.getElem?_eq_getElem _⟩
         have hxb:=adm HSA.out.lo hx';have cy:wr.cell? ⟨gd,k,none⟩=some (Value.int .u32 (y':Nat)):=by rw[HD3.out.cell];exact HCD.out _ _ hy'
         have cx:=HRO.out.get hx';have fx:=aak.free HRO.out (j+k);have HY:=Lib.hid hy';have HXX:=Lib.hid hx';have i1:((j:Int)+(k:Int)).toNat=j+k:=by omega
         have i2:(j:Int)+(k:Int)<(lu.length:Int)+1:=by omega
         have i3:0<=(j:Int)+(k:Int):=by omega
         have i4:(k:Int)<(m:Int)+2:=by omega
         obtain⟨P,hP⟩:∃ P,P=Gf*y':=⟨_,rfl⟩
         have hPb:P<=4294967295*4294967295:=by rw[hP];exact Nat.mul_le_mul (by omega) (by omega)
         have hP2:(Gf:Int)*(y':Int)=(P:Int):=by rw[hP];push_cast;rfl
         obtain⟨lo,hlo⟩:∃ N,N=(c+P)%4294967296:=⟨_,rfl⟩
         obtain⟨C,hC⟩:∃ N,N=(c+P)/4294967296:=⟨_,rfl⟩
         have hlo2:((c:Int)+(P:Int))%4294967296=(lo:Int):=by omega
         have hC2:((c:Int)+(P:Int))/4294967296=(C:Int):=by omega
         have hlob:lo<4294967296:=by omega
         have HPN:Hid (P=Gf*y'/\lo=(c+P)%4294967296/\C=(c+P)/4294967296):=⟨hP,hlo,hC⟩
         clear hy' hx' hP hlo hC;by_cases hsg:x<lo+b
         ·obtain⟨Z,hZ⟩:∃ Z,Z=x+4294967296-(lo+b):=⟨_,rfl⟩
          have hZb:Z<4294967296:=by omega
          have hneg:(x:Int)-(lo:Int)-(b:Int)<0:=by omega
          have hzz:(x:Int)-(lo:Int)-(b:Int)+4294967296=(Z:Int):=by omega
          have HN:Hid (adM d r j Gf (k+1) (o.set (j+k) Z) C 1):=by
           obtain⟨p1,p2,p3⟩:=HPN.out;have h:=aeI (x':=Z) (b':=1) HSA.out hGB HY.out hyb HXX.out hZb (by omega) (by rw[<- p1,<- p2];omega);rw[<- p1,<- p3] at h;exact h
          clear hZ;go_wp2_with fail
          go_roundg (gk-1)
          case measure=>omega
          case rel=>
           refine⟨k+1,o.set (j+k) Z,C,1,by first | rfl | go_num,by first | rfl | go_num,by first | rfl | go_num,by omega,by omega,HN.out,HRO.out.set (by rw[HSA.out.len,hrlen];omega) Z,HQ3.out.set_ne (by omega) _,HD3.out.set_ne (by omega) _ _,HB3c.out.set_ne (by omega) _ _,HB4c.out.set_ne (by omega) _ _,aay HBLc.out (by have:=HBLw.out;omega) _ _⟩
         ·obtain⟨Z,hZ⟩:∃ Z,Z=x-(lo+b):=⟨_,rfl⟩
          have hZb:Z<4294967296:=by omega
          have hzz:(x:Int)-(lo:Int)-(b:Int)=(Z:Int):=by omega
          have HN:Hid (adM d r j Gf (k+1) (o.set (j+k) Z) C 0):=by
           obtain⟨p1,p2,p3⟩:=HPN.out;have h:=aeI (x':=Z) (b':=0) HSA.out hGB HY.out hyb HXX.out hZb (by omega) (by rw[<- p1,<- p2];omega);rw[<- p1,<- p3] at h;exact h
          clear hZ;go_wp2_with fail
          go_roundg (gk-1)
          case measure=>omega
          case rel=>
           refine⟨k+1,o.set (j+k) Z,C,0,by first | rfl | go_num,by first | rfl | go_num,by first | rfl | go_num,by omega,by omega,HN.out,HRO.out.set (by rw[HSA.out.len,hrlen];omega) Z,HQ3.out.set_ne (by omega) _,HD3.out.set_ne (by omega) _ _,HB3c.out.set_ne (by omega) _ _,HB4c.out.set_ne (by omega) _ _,aay HBLc.out (by have:=HBLw.out;omega) _ _⟩
        ·have hkm:k=m+2:=by omega
         have HSA2:Hid (adM d r j Gf d.length o c b):=by rw[hld,<- hkm];exact HSA.out
         obtain⟨x,hx'⟩:∃ x,o[j+d.length]? =some x:=⟨o[j+d.length]'(by rw[HSA.out.len,hrlen,hld];omega),List.getElem?_eq_getElem _⟩
         have HXX:=Lib.hid hx';rw[hld] at hx';have hxb:=adm HSA.out.lo hx';have cx:=HRO.out.get hx';have fx:=aak.free HRO.out (j+(m+2));rw[<- Nat.add_assoc] at cx fx;have holen:o.length=lu.length+1:=by rw[HSA.out.len,hrlen]
         have i4:¬ (k:Int)<(m:Int)+2:=by omega
         obtain⟨qq,hqq⟩:∃ z,q[j]? =some z:=⟨q[j]'(by omega),List.getElem?_eq_getElem _⟩
         have cq:=HQ3.out.get hqq;have fq:=aak.free HQ3.out j;have i5:(j:Int)<(Q:Int):=by omega
         have HZ3:Hid (valL (r.drop (j+d.length+1))=0):=by show _=_;rw[hld];exact HZ0.out
         have hjd:j+d.length<lu.length+1:=by rw[hld];omega
         clear hx' hqq;by_cases hsg:x<c+b
         ·obtain⟨z,hz⟩:∃ z,z=x+4294967296-(c+b):=⟨_,rfl⟩
          have hzb:z<4294967296:=by omega
          have hneg:(x:Int)-(c:Int)-(b:Int)<0:=by omega
          have hzz:((x:Int)-(c:Int)-(b:Int))%4294967296=(z:Int):=by omega
          have HZE:Hid (z+(c+b)=x+4294967296):=by show _=_;omega
          have hG0':0<Gf:=by
           rcases Nat.eq_zero_or_pos Gf with h | h
           ·exfalso;obtain⟨g1,g2⟩:=aei HSA2.out HXX.out HZ3.out;rw[h,Nat.zero_mul,Nat.add_zero] at g1;have g3:4294967296 ^ d.length*(x+1)<=4294967296 ^ d.length*(c+b):=Nat.mul_le_mul_left _ hsg;rw[Nat.mul_add] at g3;omega
           ·exact h
          obtain⟨G',hGG⟩:∃ g,g=Gf-1:=⟨_,rfl⟩
          have hG1:(1:Int)<=(Gf:Int):=by omega
          have hG2:(Gf:Int)-1=(G':Int):=by omega
          have hG3:(G':Int)<4294967296:=by omega
          have HSG:=Lib.hid hsg;have hGf4:(Gf:Int)<4294967296:=by omega
          have HGB:=Lib.hid hGB;have HGG:=Lib.hid hGG;have HRO2:Hid (ad7 (wr.setCell ⟨gr,j+m+2,none⟩ (.int .u32 z)) gr (o.set (j+(m+2)) z) ex):=HRO.out.set (by omega) z;have HQ4:Hid (ad7 (wr.setCell ⟨gr,j+m+2,none⟩ (.int .u32 z)) w5.heap.size q []):=HQ3.out.set_ne (by omega) _;have HD4':Hid (aak 213 (wr.setCell ⟨gr,j+m+2,none⟩ (.int .u32 z)) gd cd):=HD3.out.set_ne (by omega) _ _;have HB3d:Hid (aak 35 (wr.setCell ⟨gr,j+m+2,none⟩ (.int .u32 z)) (w.heap.size+1+1) [.slice none 0 0]):=HB3c.out.set_ne (by omega) _ _;have HB4d:Hid (aak 35 (wr.setCell ⟨gr,j+m+2,none⟩ (.int .u32 z)) (w.heap.size+1+1+1) [.slice none 0 0]):=HB4c.out.set_ne (by omega) _ _;have HBLd:Hid (Below w.heap.size w (wr.setCell ⟨gr,j+m+2,none⟩ (.int .u32 z))):=aay HBLc.out (by have:=HBLw.out;omega) _ _;clear hz hGG hG0' hsg hGB;go_wp2_with fail
          obtain⟨wq,hwq⟩:∃ q:World,q=wr:=⟨_,rfl⟩
          subst hwq;go_loopg [29,234] (m+2+1) (λk sv u wr=>Hid (akh w gr w5.heap.size gd d q (o.set (j+d.length) z) ex cd j k sv u wr))
          case atStart=>
           refine⟨0,o.set (j+d.length) z,0,rfl,rfl,Nat.zero_le _,by have:=HDL.out;omega,aeX j (limb_set HSA2.out.lo _ hzb),?_,HQ4.out,HD4'.out,HB3d.out,HB4d.out,HBLd.out⟩;rw[hld];exact HRO2.out
          case round=>
           clear HRO2 HQ4 HD4' HB3d HB4d HBLd HRO HQ3 HD3 HB3c HB4c HBLc cx fx cq fq;obtain⟨k2,o2,sm,rfl,rfl,hkl2,hkk2,hba,hro2,hbq2,hbd2,hb32,hb42,hbl2⟩:=hrel.out;have HBA:=Lib.hid hba;have HRO:=Lib.hid hro2;have HQ3:=Lib.hid hbq2;have HD3:=Lib.hid hbd2;have HB3c:=Lib.hid hb32;have HB4c:=Lib.hid hb42;have HBLc:=Lib.hid hbl2;have hsl:=hba.sl;have ho2len:o2.length=lu.length+1:=by rw[hba.len,List.length_set,holen]
           rw[hld] at hkl2 hkk2;clear hrel hba hro2 hbq2 hbd2 hb32 hb42 hbl2;by_cases hlt2:k2<m+2
           ·obtain⟨y',hy'⟩:∃ y,d[k2]? =some y:=⟨d[k2]'(by omega),List.getElem?_eq_getElem _⟩
            have hyb:=HLD.out y' (List.mem_of_getElem? hy');obtain⟨x2,hx2⟩:∃ x,o2[j+k2]? =some x:=⟨o2[j+k2]'(by rw[ho2len];omega),List.getElem?_eq_getElem _⟩
            have hxb2:=adm HBA.out.lo hx2;have cy:wr.cell? ⟨gd,k2,none⟩=some (Value.int .u32 (y':Nat)):=by rw[HD3.out.cell];exact HCD.out _ _ hy'
            have cx:=HRO.out.get hx2;have fx:=aak.free HRO.out (j+k2);have i1:((j:Int)+(k2:Int)).toNat=j+k2:=by omega
            have i2:(j:Int)+(k2:Int)<(lu.length:Int)+1:=by omega
            have i3:0<=(j:Int)+(k2:Int):=by omega
            have i6:(k2:Int)<(m:Int)+2:=by omega
            obtain⟨Z2,hZ2⟩:∃ N,N=(sm+(x2+y'))%4294967296:=⟨_,rfl⟩
            obtain⟨C2,hC2⟩:∃ N,N=(sm+(x2+y'))/4294967296:=⟨_,rfl⟩
            have hZ2':((sm:Int)+((x2:Int)+(y':Int)))%4294967296=(Z2:Int):=by omega
            have hC2':((sm:Int)+((x2:Int)+(y':Int)))/4294967296=(C2:Int):=by omega
            have HN:Hid (adp d (o.set (j+d.length) z) j (k2+1) (o2.set (j+k2) Z2) C2):=by
             rw[hZ2,hC2];exact ah6 HBA.out hy' hyb hx2
            clear hy' hx2 hZ2 hC2;go_wp2_with fail
            go_quiet (fail)
            go_wp2_with fail
            go_roundg (gk-1)
            case measure=>omega
            case rel=>
             exact⟨k2+1,o2.set (j+k2) Z2,C2,by first | rfl | go_num,by first | rfl | go_num,by omega,by omega,HN.out,HRO.out.set (by rw[ho2len];omega) Z2,HQ3.out.set_ne (by omega) _,HD3.out.set_ne (by omega) _ _,HB3c.out.set_ne (by omega) _ _,HB4c.out.set_ne (by omega) _ _,abd (aay HBLc.out (g:=gr) (by have:=HBLw.out;omega) (j+k2) (.int .u32 Z2)) rfl rfl rfl rfl⟩
           ·have hkm2:k2=m+2:=by omega
            have HBA2:Hid (adp d (o.set (j+d.length) z) j d.length o2 sm):=by
             have h:=HBA.out;rw[show k2=d.length by omega] at h;exact h
            obtain⟨ez,eg,ed⟩:=ah2 HAT.out HLD.out HSA2.out hjd HXX.out HZ3.out HSG.out HGB.out HLOW.out HZE.out HBA2.out;rw[hld] at ez;have cx:=HRO.out.get ez;have fx:=aak.free HRO.out (j+(m+2));rw[<- Nat.add_assoc] at cx fx;have i6:¬ (k2:Int)<(m:Int)+2:=by omega
            obtain⟨qq,hqq⟩:∃ z,q[j]? =some z:=⟨q[j]'(by omega),List.getElem?_eq_getElem _⟩
            have cq:=HQ3.out.get hqq;have fq:=aak.free HQ3.out j;obtain⟨Z2,hZ2⟩:∃ N,N=(z+sm)%4294967296:=⟨_,rfl⟩
            have hZ2':((z:Int)+(sm:Int))%4294967296=(Z2:Int):=by omega
            have hZ3':IntKind.u32.wrap ((z:Int)+(sm:Int))=(Z2:Int):=hZ2';have hsm:(sm:Int)%4294967296=(sm:Int):=by omega
            rw[<- hZ2,<- HGG.out] at ed;rw[hld] at ed;have HN:=Lib.hid ed;clear ez ed hqq hZ2 eg;go_wp2_with fail
            go_roundg (gO-1)
            case measure=>omega
            case rel=>
             exact⟨j,q.set j G',o2.set (j+(m+2)) Z2,by first | rfl | go_num,by rw[hld];omega,by omega,HN.out,(HRO.out.set (by omega) Z2).set_ne (by omega) _,(HQ3.out.set_ne (by omega) _).set (by omega) G',(HD3.out.set_ne (by omega) _ _).set_ne (by omega) _ _,(HB3c.out.set_ne (by omega) _ _).set_ne (by omega) _ _,(HB4c.out.set_ne (by omega) _ _).set_ne (by omega) _ _,aay (aay HBLc.out (by have:=HBLw.out;omega) _ _) (by have:=HBLw.out;omega) _ _⟩
         ·obtain⟨Z,hZ⟩:∃ Z,Z=x-(c+b):=⟨_,rfl⟩
          have hZb:Z<4294967296:=by omega
          have hzz:(x:Int)-(c:Int)-(b:Int)=(Z:Int):=by omega
          have HN:Hid (afB d (X0*2 ^ s) (lu.length+1) j (q.set j Gf) (o.set (j+d.length) Z)):=by
           rw[hZ];exact akb HAT.out HSA2.out hjd HXX.out HZ3.out (by omega) hGB HUP2.out
          rw[hld] at HN;clear hZ;go_wp2_with fail
          go_roundg (gO-1)
          case measure=>omega
          case rel=>
           exact⟨j,q.set j Gf,o.set (j+(m+2)) Z,by first | rfl | go_num,by rw[hld];omega,by omega,HN.out,(HRO.out.set (by omega) Z).set_ne (by omega) _,(HQ3.out.set_ne (by omega) _).set (by omega) Gf,(HD3.out.set_ne (by omega) _ _).set_ne (by omega) _ _,(HB3c.out.set_ne (by omega) _ _).set_ne (by omega) _ _,(HB4c.out.set_ne (by omega) _ _).set_ne (by omega) _ _,aay (aay HBLc.out (by have:=HBLw.out;omega) _ _) (by have:=HBLw.out;omega) _ _⟩
     ·go_wp2_with fail
      go_roundg (gk-1)
      case measure=>have:=HGK.out;omega
      case rel=>exact⟨G',L',by first | rfl | go_num,by first | rfl | go_num,HSUM'.out,HUP'.out,by omega,by omega,by have:=HGK.out;omega,HSW.out⟩
    ·have hA2:decide ((4294967296:Int)<=(G:Int))=false:=by simp;omega
     have hA3:¬ (4294967296:Int)<=(G:Int):=by omega
     obtain⟨P,hP⟩:∃ P,P=G*nx:=⟨_,rfl⟩
     have hPb:P<=4294967295*4294967295:=by rw[hP];exact Nat.mul_le_mul (by omega) (by omega)
     have hP2:(G:Int)*(nx:Int)=(P:Int):=by rw[hP];push_cast;rfl
     obtain⟨V,hV⟩:∃ V,V=L*4294967296+r2:=⟨_,rfl⟩
     have hor:bits BinOp.or IntKind.u64 ((L:Int)*4294967296) (r2:Int)=(V:Int):=by
      have:=ad4 32 L r2 (by decide) b2 (by omega);rw[hV];exact this
     have HPV:Hid (P=G*nx/\V=L*4294967296+r2):=⟨hP,hV⟩
     have hVb:V<18446744073709551616:=by omega
     clear hP hV;by_cases hB:V<P
     ·have hB2:(V:Int)<(P:Int):=by omega
      have hG0':0<G:=by
       rcases Nat.eq_zero_or_pos G with rfl | h
       ·have:=HPV.out.1;simp at this;omega
       ·exact h
      obtain⟨G',hGG⟩:∃ G',G=G'+1:=⟨G-1,by omega⟩
      obtain⟨L',hL'⟩:∃ L',L'=L+t:=⟨_,rfl⟩
      have hG':((G:Int)-1)=(G':Int):=by omega
      have hG1:(1:Int)<=(G:Int):=by omega
      have hLt:(L:Int)+(t:Int)=(L':Int):=by omega
      have hsum':G'*t+L'=two:=by have:=HSUM.out;rw[hGG,Nat.add_mul,Nat.one_mul] at this;omega
      have hup':valL (r.drop j)<(G'+1)*valL d:=by have:=apw (B:=4294967296) (P:=4294967296 ^ m) (top:=t) (next:=nx) (two:=two) (r2:=r2) (rl:=rl) (dl:=dl) (guess:=G'+1) (left:=L) (by rw[<- hGG];exact HSUM.out) (by rw[<- hGG,<- HPV.out.1,<- HPV.out.2];exact hB) HBR2.out.1;rw[<- HRR.out,<- HDD.out] at this;exact this
      have HSUM':=Lib.hid hsum';have HUP':=Lib.hid hup';have hL'b:(L':Int)<=8589934591:=by omega
      have hG'b:(G':Int)<=4294967296:=by omega
      have HGK:Hid (G'+1<gk):=by show _<_;omega
      clear hL' hsum' hup' hGG hA hGk hG0';by_cases hbr2:(4294967296:Int)<=(L':Int)
      ·go_wp2_with fail
       have hbr:4294967296<=L':=by omega
       obtain⟨hGB,hnx⟩:=ai9 (B:=4294967296) (guess:=G') (top:=t) (left:=L') (next:=nx) (r2:=r2) HSUM'.out hbr HTWO.out hnb2;have HNX3:=Lib.hid hnx;have HSUM2:=HSUM';have HUP2:=HUP';obtain⟨Lf,hLf⟩:∃ q,q=L':=⟨_,rfl⟩
       rw[<- hLf] at HNX3 HSUM2;obtain⟨Gf,hGf⟩:∃ q,q=G':=⟨_,rfl⟩
       rw[<- hGf] at HNX3 HSUM2 HUP2 hGB ⊢;clear hGf hLf hnx HSUM HUP HSUM' HUP' hG' hLt hbr hbr2 hL'b hG'b hG1 HGK hGb hLb hA2 hA3 hP2 hor hPb hVb HPV hB hB2;as_aux_lemma=>
        have HLOW:Hid (Gf*valL d<valL (r.drop j)+valL d):=by
         have h:=age (B:=4294967296) (P:=4294967296 ^ m) (top:=t) (next:=nx) (two:=two) (r2:=r2) (rl:=rl) (dl:=dl) hGB HSUM2.out HNX3.out (by omega) HBR2.out.2;rw[<- HRR.out,<- HDD.out] at h;exact h
        have HRa:=Lib.hid (HR.out.still HSW.out.grown);have HQa:=Lib.hid (HBQ.out.still HSW.out.grown);have HDa:=Lib.hid (HBDD.out.still HSW.out.grown);have HB3a:=Lib.hid (HB3.out.still HSW.out.grown);have HB4a:=Lib.hid (HB4.out.still HSW.out.grown);have HBLa:Hid (Below w.heap.size w wr):=HSW.out.below HBL.out;have HBLw:Hid (w.heap.size<gr/\w.heap.size<w5.heap.size/\w.heap.size+1+1+1<gr/\w.heap.size+1+1+1<w5.heap.size/\w5.heap.size≠gr/\gd≠gr/\gd≠w5.heap.size):=⟨by omega,by omega,by omega,by omega,by omega,by omega,by omega⟩
        obtain⟨wp,hwp⟩:∃ q:World,q=wr:=⟨_,rfl⟩
        subst hwp;have hgd4:gd<gr:=by omega
        have hgr6:gr<w5.heap.size:=hgr5;clear HSW HSUM2 HNX3 c2 c2' HR HBQ HBDD HB3 HB4 HBL;go_loopg [24,25,171] (m+2+1) (λk b c u wr=>Hid (anO w gr w5.heap.size gd d q r ex cd j Gf k b c u wr))
        case atStart=>exact⟨0,r,0,0,rfl,rfl,rfl,Nat.zero_le _,by have:=HDL.out;omega,afZ j Gf HAT.out.lr,HRa.out,HQa.out,HDa.out,HB3a.out,HB4a.out,HBLa.out⟩
        case round=>
         clear HRa HQa HDa HB3a HB4a HBLa;obtain⟨k,o,c,b,rfl,rfl,rfl,hkl,hkk,hsa,hro,hbq,hbd,hb3,hb4,hbl⟩:=hrel.out;have HSA:=Lib.hid hsa;have HRO:=Lib.hid hro;have HQ3:=Lib.hid hbq;have HD3:=Lib.hid hbd;have HB3c:=Lib.hid hb3;have HB4c:=Lib.hid hb4;have HBLc:=Lib.hid hbl;have hcl:=hsa.cl;have hbb:=hsa.bl;rw[hld] at hkl hkk;clear hrel hsa hro hbq hbd hb3 hb4 hbl;by_cases hlt:k<m+2
         ·obtain⟨y',hy'⟩:∃ y,d[k]? =some y:=⟨d[k]'(by omega),List.getElem?_eq_getElem _⟩
          have hyb:=HLD.out y' (List.mem_of_getElem? hy');obtain⟨x,hx'⟩:∃ x,o[j+k]? =some x:=⟨o[j+k]'(by rw[HSA.out.len,hrlen];omega),List.getElem?_eq_getElem _⟩
          have hxb:=adm HSA.out.lo hx';have cy:wr.cell? ⟨gd,k,none⟩=some (Value.int .u32 (y':Nat)):=by rw[HD3.out.cell];exact HCD.out _ _ hy'
          have cx:=HRO.out.get hx';have fx:=aak.free HRO.out (j+k);have HY:=Lib.hid hy';have HXX:=Lib.hid hx';have i1:((j:Int)+(k:Int)).toNat=j+k:=by omega
          have i2:(j:Int)+(k:Int)<(lu.length:Int)+1:=by omega
          have i3:0<=(j:Int)+(k:Int):=by omega
          have i4:(k:Int)<(m:Int)+2:=by omega
          obtain⟨P,hP⟩:∃ P,P=Gf*y':=⟨_,rfl⟩
          have hPb:P<=4294967295*4294967295:=by rw[hP];exact Nat.mul_le_mul (by omega) (by omega)
          have hP2:(Gf:Int)*(y':Int)=(P:Int):=by rw[hP];push_cast;rfl
          obtain⟨lo,hlo⟩:∃ N,N=(c+P)%4294967296:=⟨_,rfl⟩
          obtain⟨C,hC⟩:∃ N,N=(c+P)/4294967296:=⟨_,rfl⟩
          have hlo2:((c:Int)+(P:Int))%4294967296=(lo:Int):=by omega
          have hC2:((c:Int)+(P:Int))/4294967296=(C:Int):=by omega
          have hlob:lo<4294967296:=by omega
          have HPN:Hid (P=Gf*y'/\lo=(c+P)%4294967296/\C=(c+P)/4294967296):=⟨hP,hlo,hC⟩
          clear hy' hx' hP hlo hC;by_cases hsg:x<lo+b
          ·obtain⟨Z,hZ⟩:∃ Z,Z=x+4294967296-(lo+b):=⟨_,rfl⟩
           have hZb:Z<4294967296:=by omega
           have hneg:(x:Int)-(lo:Int)-(b:Int)<0:=by omega
           have hzz:(x:Int)-(lo:Int)-(b:Int)+4294967296=(Z:Int):=by omega
           have HN:Hid (adM d r j Gf (k+1) (o.set (j+k) Z) C 1):=by
            obtain⟨p1,p2,p3⟩:=HPN.out;have h:=aeI (x':=Z) (b':=1) HSA.out hGB HY.out hyb HXX.out hZb (by omega) (by rw[<- p1,<- p2];omega);rw[<- p1,<- p3] at h;exact h
           clear hZ;go_wp2_with fail
           go_roundg (gk-1)
           case measure=>omega
           case rel=>
            refine⟨k+1,o.set (j+k) Z,C,1,by first | rfl | go_num,by first | rfl | go_num,by first | rfl | go_num,by omega,by omega,HN.out,HRO.out.set (by rw[HSA.out.len,hrlen];omega) Z,HQ3.out.set_ne (by omega) _,HD3.out.set_ne (by omega) _ _,HB3c.out.set_ne (by omega) _ _,HB4c.out.set_ne (by omega) _ _,aay HBLc.out (by have:=HBLw.out;omega) _ _⟩
          ·obtain⟨Z,hZ⟩:∃ Z,Z=x-(lo+b):=⟨_,rfl⟩
           have hZb:Z<4294967296:=by omega
           have hzz:(x:Int)-(lo:Int)-(b:Int)=(Z:Int):=by omega
           have HN:Hid (adM d r j Gf (k+1) (o.set (j+k) Z) C 0):=by
            obtain⟨p1,p2,p3⟩:=HPN.out;have h:=aeI (x':=Z) (b':=0) HSA.out hGB HY.out hyb HXX.out hZb (by omega) (by rw[<- p1,<- p2];omega);rw[<- p1,<- p3] at h;exact h
           clear hZ;go_wp2_with fail
           go_roundg (gk-1)
           case measure=>omega
           case rel=>
            refine⟨k+1,o.set (j+k) Z,C,0,by first | rfl | go_num,by first | rfl | go_num,by first | rfl | go_num,by omega,by omega,HN.out,HRO.out.set (by rw[HSA.out.len,hrlen];omega) Z,HQ3.out.set_ne (by omega) _,HD3.out.set_ne (by omega) _ _,HB3c.out.set_ne (by omega) _ _,HB4c.out.set_ne (by omega) _ _,aay HBLc.out (by have:=HBLw.out;omega) _ _⟩
         ·have hkm:k=m+2:=by omega
          have HSA2:Hid (adM d r j Gf d.length o c b):=by rw[hld,<- hkm];exact HSA.out
          obtain⟨x,hx'⟩:∃ x,o[j+d.length]? =some x:=⟨o[j+d.length]'(by rw[HSA.out.len,hrlen,hld];omega),List.getElem?_eq_getElem _⟩
          have HXX:=Lib.hid hx';rw[hld] at hx';have hxb:=adm HSA.out.lo hx';have cx:=HRO.out.get hx';have fx:=aak.free HRO.out (j+(m+2));rw[<- Nat.add_assoc] at cx fx;have holen:o.length=lu.length+1:=by rw[HSA.out.len,hrlen]
          have i4:¬ (k:Int)<(m:Int)+2:=by omega
          obtain⟨qq,hqq⟩:∃ z,q[j]? =some z:=⟨q[j]'(by omega),List.getElem?_eq_getElem _⟩
          have cq:=HQ3.out.get hqq;have fq:=aak.free HQ3.out j;have i5:(j:Int)<(Q:Int):=by omega
          have HZ3:Hid (valL (r.drop (j+d.length+1))=0):=by show _=_;rw[hld];exact HZ0.out
          have hjd:j+d.length<lu.length+1:=by rw[hld];omega
          clear hx' hqq;by_cases hsg:x<c+b
          ·obtain⟨z,hz⟩:∃ z,z=x+4294967296-(c+b):=⟨_,rfl⟩
           have hzb:z<4294967296:=by omega
           have hneg:(x:Int)-(c:Int)-(b:Int)<0:=by omega
           have hzz:((x:Int)-(c:Int)-(b:Int))%4294967296=(z:Int):=by omega
           have HZE:Hid (z+(c+b)=x+4294967296):=by show _=_;omega
           have hG0':0<Gf:=by
            rcases Nat.eq_zero_or_pos Gf with h | h
            ·exfalso;obtain⟨g1,g2⟩:=aei HSA2.out HXX.out HZ3.out;rw[h,Nat.zero_mul,Nat.add_zero] at g1;have g3:4294967296 ^ d.length*(x+1)<=4294967296 ^ d.length*(c+b):=Nat.mul_le_mul_left _ hsg;rw[Nat.mul_add] at g3;omega
            ·exact h
           obtain⟨G',hGG⟩:∃ g,g=Gf-1:=⟨_,rfl⟩
           have hG1:(1:Int)<=(Gf:Int):=by omega
           have hG2:(Gf:Int)-1=(G':Int):=by omega
           have hG3:(G':Int)<4294967296:=by omega
           have HSG:=Lib.hid hsg;have hGf4:(Gf:Int)<4294967296:=by omega
           have HGB:=Lib.hid hGB;have HGG:=Lib.hid hGG;have HRO2:Hid (ad7 (wr.setCell ⟨gr,j+m+2,none⟩ (.int .u32 z)) gr (o.set (j+(m+2)) z) ex):=HRO.out.set (by omega) z;have HQ4:Hid (ad7 (wr.setCell ⟨gr,j+m+2,none⟩ (.int .u32 z)) w5.heap.size q []):=HQ3.out.set_ne (by omega) _;have HD4':Hid (aak 213 (wr.setCell ⟨gr,j+m+2,none⟩ (.int .u32 z)) gd cd):=HD3.out.set_ne (by omega) _ _;have HB3d:Hid (aak 35 (wr.setCell ⟨gr,j+m+2,none⟩ (.int .u32 z)) (w.heap.size+1+1) [.slice none 0 0]):=HB3c.out.set_ne (by omega) _ _;have HB4d:Hid (aak 35 (wr.setCell ⟨gr,j+m+2,none⟩ (.int .u32 z)) (w.heap.size+1+1+1) [.slice none 0 0]):=HB4c.out.set_ne (by omega) _ _;have HBLd:Hid (Below w.heap.size w (wr.setCell ⟨gr,j+m+2,none⟩ (.int .u32 z))):=aay HBLc.out (by have:=HBLw.out;omega) _ _;clear hz hGG hG0' hsg hGB;go_wp2_with fail
           obtain⟨wq,hwq⟩:∃ q:World,q=wr:=⟨_,rfl⟩
           subst hwq;go_loopg [29,234] (m+2+1) (λk sv u wr=>Hid (akh w gr w5.heap.size gd d q (o.set (j+d.length) z) ex cd j k sv u wr))
           case atStart=>
            refine⟨0,o.set (j+d.length) z,0,rfl,rfl,Nat.zero_le _,by have:=HDL.out;omega,aeX j (limb_set HSA2.out.lo _ hzb),?_,HQ4.out,HD4'.out,HB3d.out,HB4d.out,HBLd.out⟩;rw[hld];exact HRO2.out
           case round=>
            clear HRO2 HQ4 HD4' HB3d HB4d HBLd HRO HQ3 HD3 HB3c HB4c HBLc cx fx cq fq;obtain⟨k2,o2,sm,rfl,rfl,hkl2,hkk2,hba,hro2,hbq2,hbd2,hb32,hb42,hbl2⟩:=hrel.out;have HBA:=Lib.hid hba;have HRO:=Lib.hid hro2;have HQ3:=Lib.hid hbq2;have HD3:=Lib.hid hbd2;have HB3c:=Lib.hid hb32;have HB4c:=Lib.hid hb42;have HBLc:=Lib.hid hbl2;have hsl:=hba.sl;have ho2len:o2.length=lu.length+1:=by rw[hba.len,List.length_set,holen]
            rw[hld] at hkl2 hkk2;clear hrel hba hro2 hbq2 hbd2 hb32 hb42 hbl2;by_cases hlt2:k2<m+2
            ·obtain⟨y',hy'⟩:∃ y,d[k2]? =some y:=⟨d[k2]'(by omega),List.getElem?_eq_getElem _⟩
             have hyb:=HLD.out y' (List.mem_of_getElem? hy');obtain⟨x2,hx2⟩:∃ x,o2[j+k2]? =some x:=⟨o2[j+k2]'(by rw[ho2len];omega),List.getElem?_eq_getElem _⟩
             have hxb2:=adm HBA.out.lo hx2;have cy:wr.cell? ⟨gd,k2,none⟩=some (Value.int .u32 (y':Nat)):=by rw[HD3.out.cell];exact HCD.out _ _ hy'
             have cx:=HRO.out.get hx2;have fx:=aak.free HRO.out (j+k2);have i1:((j:Int)+(k2:Int)).toNat=j+k2:=by omega
             have i2:(j:Int)+(k2:Int)<(lu.length:Int)+1:=by omega
             have i3:0<=(j:Int)+(k2:Int):=by omega
             have i6:(k2:Int)<(m:Int)+2:=by omega
             obtain⟨Z2,hZ2⟩:∃ N,N=(sm+(x2+y'))%4294967296:=⟨_,rfl⟩
             obtain⟨C2,hC2⟩:∃ N,N=(sm+(x2+y'))/4294967296:=⟨_,rfl⟩
             have hZ2':((sm:Int)+((x2:Int)+(y':Int)))%4294967296=(Z2:Int):=by omega
             have hC2':((sm:Int)+((x2:Int)+(y':Int)))/4294967296=(C2:Int):=by omega
             have HN:Hid (adp d (o.set (j+d.length) z) j (k2+1) (o2.set (j+k2) Z2) C2):=by
              rw[hZ2,hC2];exact ah6 HBA.out hy' hyb hx2
             clear hy' hx2 hZ2 hC2;go_wp2_with fail
             go_quiet (fail)
             go_wp2_with fail
             go_roundg (gk-1)
             case measure=>omega
             case rel=>
              exact⟨k2+1,o2.set (j+k2) Z2,C2,by first | rfl | go_num,by first | rfl | go_num,by omega,by omega,HN.out,HRO.out.set (by rw[ho2len];omega) Z2,HQ3.out.set_ne (by omega) _,HD3.out.set_ne (by omega) _ _,HB3c.out.set_ne (by omega) _ _,HB4c.out.set_ne (by omega) _ _,abd (aay HBLc.out (g:=gr) (by have:=HBLw.out;omega) (j+k2) (.int .u32 Z2)) rfl rfl rfl rfl⟩
            ·have hkm2:k2=m+2:=by omega
             have HBA2:Hid (adp d (o.set (j+d.length) z) j d.length o2 sm):=by
              have h:=HBA.out;rw[show k2=d.length by omega] at h;exact h
             obtain⟨ez,eg,ed⟩:=ah2 HAT.out HLD.out HSA2.out hjd HXX.out HZ3.out HSG.out HGB.out HLOW.out HZE.out HBA2.out;rw[hld] at ez;have cx:=HRO.out.get ez;have fx:=aak.free HRO.out (j+(m+2));rw[<- Nat.add_assoc] at cx fx;have i6:¬ (k2:Int)<(m:Int)+2:=by omega
             obtain⟨qq,hqq⟩:∃ z,q[j]? =some z:=⟨q[j]'(by omega),List.getElem?_eq_getElem _⟩
             have cq:=HQ3.out.get hqq;have fq:=aak.free HQ3.out j;obtain⟨Z2,hZ2⟩:∃ N,N=(z+sm)%4294967296:=⟨_,rfl⟩
             have hZ2':((z:Int)+(sm:Int))%4294967296=(Z2:Int):=by omega
             have hZ3':IntKind.u32.wrap ((z:Int)+(sm:Int))=(Z2:Int):=hZ2';have hsm:(sm:Int)%4294967296=(sm:Int):=by omega
             rw[<- hZ2,<- HGG.out] at ed;rw[hld] at ed;have HN:=Lib.hid ed;clear ez ed hqq hZ2 eg;go_wp2_with fail
             go_roundg (gO-1)
             case measure=>omega
             case rel=>
              exact⟨j,q.set j G',o2.set (j+(m+2)) Z2,by first | rfl | go_num,by rw[hld];omega,by omega,HN.out,(HRO.out.set (by omega) Z2).set_ne (by omega) _,(HQ3.out.set_ne (by omega) _).set (by omega) G',(HD3.out.set_ne (by omega) _ _).set_ne (by omega) _ _,(HB3c.out.set_ne (by omega) _ _).set_ne (by omega) _ _,(HB4c.out.set_ne (by omega) _ _).set_ne (by omega) _ _,aay (aay HBLc.out (by have:=HBLw.out;omega) _ _) (by have:=HBLw.out;omega) _ _⟩
          ·obtain⟨Z,hZ⟩:∃ Z,Z=x-(c+b):=⟨_,rfl⟩
           have hZb:Z<4294967296:=by omega
           have hzz:(x:Int)-(c:Int)-(b:Int)=(Z:Int):=by omega
           have HN:Hid (afB d (X0*2 ^ s) (lu.length+1) j (q.set j Gf) (o.set (j+d.length) Z)):=by
            rw[hZ];exact akb HAT.out HSA2.out hjd HXX.out HZ3.out (by omega) hGB HUP2.out
           rw[hld] at HN;clear hZ;go_wp2_with fail
           go_roundg (gO-1)
           case measure=>omega
           case rel=>
            exact⟨j,q.set j Gf,o.set (j+(m+2)) Z,by first | rfl | go_num,by rw[hld];omega,by omega,HN.out,(HRO.out.set (by omega) Z).set_ne (by omega) _,(HQ3.out.set_ne (by omega) _).set (by omega) Gf,(HD3.out.set_ne (by omega) _ _).set_ne (by omega) _ _,(HB3c.out.set_ne (by omega) _ _).set_ne (by omega) _ _,(HB4c.out.set_ne (by omega) _ _).set_ne (by omega) _ _,aay (aay HBLc.out (by have:=HBLw.out;omega) _ _) (by have:=HBLw.out;omega) _ _⟩
      ·go_wp2_with fail
       go_roundg (gk-1)
       case measure=>have:=HGK.out;omega
       case rel=>exact⟨G',L',by first | rfl | go_num,by first | rfl | go_num,HSUM'.out,HUP'.out,by omega,by omega,by have:=HGK.out;omega,HSW.out⟩
     ·have hB2:¬ (V:Int)<(P:Int):=by omega
      go_wp2_with fail
      have hGB:G<4294967296:=by omega
      have HNX3:Hid (G*nx<=L*4294967296+r2):=by show _<=_;rw[<- HPV.out.1,<- HPV.out.2];omega
      have HSUM2:=HSUM;have HUP2:=HUP;obtain⟨Lf,hLf⟩:∃ q,q=L:=⟨_,rfl⟩
      rw[<- hLf] at HNX3 HSUM2;obtain⟨Gf,hGf⟩:∃ q,q=G:=⟨_,rfl⟩
      rw[<- hGf] at HNX3 HSUM2 HUP2 hGB ⊢;clear hGf hLf HSUM HUP hB hB2 HPV hP2 hor hPb hVb hA2 hA3 hA hLb hGb hGk;as_aux_lemma=>
       have HLOW:Hid (Gf*valL d<valL (r.drop j)+valL d):=by
        have h:=age (B:=4294967296) (P:=4294967296 ^ m) (top:=t) (next:=nx) (two:=two) (r2:=r2) (rl:=rl) (dl:=dl) hGB HSUM2.out HNX3.out (by omega) HBR2.out.2;rw[<- HRR.out,<- HDD.out] at h;exact h
       have HRa:=Lib.hid (HR.out.still HSW.out.grown);have HQa:=Lib.hid (HBQ.out.still HSW.out.grown);have HDa:=Lib.hid (HBDD.out.still HSW.out.grown);have HB3a:=Lib.hid (HB3.out.still HSW.out.grown);have HB4a:=Lib.hid (HB4.out.still HSW.out.grown);have HBLa:Hid (Below w.heap.size w wr):=HSW.out.below HBL.out;have HBLw:Hid (w.heap.size<gr/\w.heap.size<w5.heap.size/\w.heap.size+1+1+1<gr/\w.heap.size+1+1+1<w5.heap.size/\w5.heap.size≠gr/\gd≠gr/\gd≠w5.heap.size):=⟨by omega,by omega,by omega,by omega,by omega,by omega,by omega⟩
       obtain⟨wp,hwp⟩:∃ q:World,q=wr:=⟨_,rfl⟩
       subst hwp;have hgd4:gd<gr:=by omega
       have hgr6:gr<w5.heap.size:=hgr5;clear HSW HSUM2 HNX3 c2 c2' HR HBQ HBDD HB3 HB4 HBL;go_loopg [24,25,171] (m+2+1) (λk b c u wr=>Hid (anO w gr w5.heap.size gd d q r ex cd j Gf k b c u wr))
       case atStart=>exact⟨0,r,0,0,rfl,rfl,rfl,Nat.zero_le _,by have:=HDL.out;omega,afZ j Gf HAT.out.lr,HRa.out,HQa.out,HDa.out,HB3a.out,HB4a.out,HBLa.out⟩
       case round=>
        clear HRa HQa HDa HB3a HB4a HBLa;obtain⟨k,o,c,b,rfl,rfl,rfl,hkl,hkk,hsa,hro,hbq,hbd,hb3,hb4,hbl⟩:=hrel.out;have HSA:=Lib.hid hsa;have HRO:=Lib.hid hro;have HQ3:=Lib.hid hbq;have HD3:=Lib.hid hbd;have HB3c:=Lib.hid hb3;have HB4c:=Lib.hid hb4;have HBLc:=Lib.hid hbl;have hcl:=hsa.cl;have hbb:=hsa.bl;rw[hld] at hkl hkk;clear hrel hsa hro hbq hbd hb3 hb4 hbl;by_cases hlt:k<m+2
        ·obtain⟨y',hy'⟩:∃ y,d[k]? =some y:=⟨d[k]'(by omega),List.getElem?_eq_getElem _⟩
         have hyb:=HLD.out y' (List.mem_of_getElem? hy');obtain⟨x,hx'⟩:∃ x,o[j+k]? =some x:=⟨o[j+k]'(by rw[HSA.out.len,hrlen];omega),List.getElem?_eq_getElem _⟩
         have hxb:=adm HSA.out.lo hx';have cy:wr.cell? ⟨gd,k,none⟩=some (Value.int .u32 (y':Nat)):=by rw[HD3.out.cell];exact HCD.out _ _ hy'
         have cx:=HRO.out.get hx';have fx:=aak.free HRO.out (j+k);have HY:=Lib.hid hy';have HXX:=Lib.hid hx';have i1:((j:Int)+(k:Int)).toNat=j+k:=by omega
         have i2:(j:Int)+(k:Int)<(lu.length:Int)+1:=by omega
         have i3:0<=(j:Int)+(k:Int):=by omega
         have i4:(k:Int)<(m:Int)+2:=by omega
         obtain⟨P,hP⟩:∃ P,P=Gf*y':=⟨_,rfl⟩
         have hPb:P<=4294967295*4294967295:=by rw[hP];exact Nat.mul_le_mul (by omega) (by omega)
         have hP2:(Gf:Int)*(y':Int)=(P:Int):=by rw[hP];push_cast;rfl
         obtain⟨lo,hlo⟩:∃ N,N=(c+P)%4294967296:=⟨_,rfl⟩
         obtain⟨C,hC⟩:∃ N,N=(c+P)/4294967296:=⟨_,rfl⟩
         have hlo2:((c:Int)+(P:Int))%4294967296=(lo:Int):=by omega
         have hC2:((c:Int)+(P:Int))/4294967296=(C:Int):=by omega
         have hlob:lo<4294967296:=by omega
         have HPN:Hid (P=Gf*y'/\lo=(c+P)%4294967296/\C=(c+P)/4294967296):=⟨hP,hlo,hC⟩
         clear hy' hx' hP hlo hC;by_cases hsg:x<lo+b
         ·obtain⟨Z,hZ⟩:∃ Z,Z=x+4294967296-(lo+b):=⟨_,rfl⟩
          have hZb:Z<4294967296:=by omega
          have hneg:(x:Int)-(lo:Int)-(b:Int)<0:=by omega
          have hzz:(x:Int)-(lo:Int)-(b:Int)+4294967296=(Z:Int):=by omega
          have HN:Hid (adM d r j Gf (k+1) (o.set (j+k) Z) C 1):=by
           obtain⟨p1,p2,p3⟩:=HPN.out;have h:=aeI (x':=Z) (b':=1) HSA.out hGB HY.out hyb HXX.out hZb (by omega) (by rw[<- p1,<- p2];omega);rw[<- p1,<- p3] at h;exact h
          clear hZ;go_wp2_with fail
          go_roundg (gk-1)
          case measure=>omega
          case rel=>
           refine⟨k+1,o.set (j+k) Z,C,1,by first | rfl | go_num,by first | rfl | go_num,by first | rfl | go_num,by omega,by omega,HN.out,HRO.out.set (by rw[HSA.out.len,hrlen];omega) Z,HQ3.out.set_ne (by omega) _,HD3.out.set_ne (by omega) _ _,HB3c.out.set_ne (by omega) _ _,HB4c.out.set_ne (by omega) _ _,aay HBLc.out (by have:=HBLw.out;omega) _ _⟩
         ·obtain⟨Z,hZ⟩:∃ Z,Z=x-(lo+b):=⟨_,rfl⟩
          have hZb:Z<4294967296:=by omega
          have hzz:(x:Int)-(lo:Int)-(b:Int)=(Z:Int):=by omega
          have HN:Hid (adM d r j Gf (k+1) (o.set (j+k) Z) C 0):=by
           obtain⟨p1,p2,p3⟩:=HPN.out;have h:=aeI (x':=Z) (b':=0) HSA.out hGB HY.out hyb HXX.out hZb (by omega) (by rw[<- p1,<- p2];omega);rw[<- p1,<- p3] at h;exact h
          clear hZ;go_wp2_with fail
          go_roundg (gk-1)
          case measure=>omega
          case rel=>
           refine⟨k+1,o.set (j+k) Z,C,0,by first | rfl | go_num,by first | rfl | go_num,by first | rfl | go_num,by omega,by omega,HN.out,HRO.out.set (by rw[HSA.out.len,hrlen];omega) Z,HQ3.out.set_ne (by omega) _,HD3.out.set_ne (by omega) _ _,HB3c.out.set_ne (by omega) _ _,HB4c.out.set_ne (by omega) _ _,aay HBLc.out (by have:=HBLw.out;omega) _ _⟩
        ·have hkm:k=m+2:=by omega
         have HSA2:Hid (adM d r j Gf d.length o c b):=by rw[hld,<- hkm];exact HSA.out
         obtain⟨x,hx'⟩:∃ x,o[j+d.length]? =some x:=⟨o[j+d.length]'(by rw[HSA.out.len,hrlen,hld];omega),List.getElem?_eq_getElem _⟩
         have HXX:=Lib.hid hx';rw[hld] at hx';have hxb:=adm HSA.out.lo hx';have cx:=HRO.out.get hx';have fx:=aak.free HRO.out (j+(m+2));rw[<- Nat.add_assoc] at cx fx;have holen:o.length=lu.length+1:=by rw[HSA.out.len,hrlen]
         have i4:¬ (k:Int)<(m:Int)+2:=by omega
         obtain⟨qq,hqq⟩:∃ z,q[j]? =some z:=⟨q[j]'(by omega),List.getElem?_eq_getElem _⟩
         have cq:=HQ3.out.get hqq;have fq:=aak.free HQ3.out j;have i5:(j:Int)<(Q:Int):=by omega
         have HZ3:Hid (valL (r.drop (j+d.length+1))=0):=by show _=_;rw[hld];exact HZ0.out
         have hjd:j+d.length<lu.length+1:=by rw[hld];omega
         clear hx' hqq;by_cases hsg:x<c+b
         ·obtain⟨z,hz⟩:∃ z,z=x+4294967296-(c+b):=⟨_,rfl⟩
          have hzb:z<4294967296:=by omega
          have hneg:(x:Int)-(c:Int)-(b:Int)<0:=by omega
          have hzz:((x:Int)-(c:Int)-(b:Int))%4294967296=(z:Int):=by omega
          have HZE:Hid (z+(c+b)=x+4294967296):=by show _=_;omega
          have hG0':0<Gf:=by
           rcases Nat.eq_zero_or_pos Gf with h | h
           ·exfalso;obtain⟨g1,g2⟩:=aei HSA2.out HXX.out HZ3.out;rw[h,Nat.zero_mul,Nat.add_zero] at g1;have g3:4294967296 ^ d.length*(x+1)<=4294967296 ^ d.length*(c+b):=Nat.mul_le_mul_left _ hsg;rw[Nat.mul_add] at g3;omega
           ·exact h
          obtain⟨G',hGG⟩:∃ g,g=Gf-1:=⟨_,rfl⟩
          have hG1:(1:Int)<=(Gf:Int):=by omega
          have hG2:(Gf:Int)-1=(G':Int):=by omega
          have hG3:(G':Int)<4294967296:=by omega
          have HSG:=Lib.hid hsg;have hGf4:(Gf:Int)<4294967296:=by omega
          have HGB:=Lib.hid hGB;have HGG:=Lib.hid hGG;have HRO2:Hid (ad7 (wr.setCell ⟨gr,j+m+2,none⟩ (.int .u32 z)) gr (o.set (j+(m+2)) z) ex):=HRO.out.set (by omega) z;have HQ4:Hid (ad7 (wr.setCell ⟨gr,j+m+2,none⟩ (.int .u32 z)) w5.heap.size q []):=HQ3.out.set_ne (by omega) _;have HD4':Hid (aak 213 (wr.setCell ⟨gr,j+m+2,none⟩ (.int .u32 z)) gd cd):=HD3.out.set_ne (by omega) _ _;have HB3d:Hid (aak 35 (wr.setCell ⟨gr,j+m+2,none⟩ (.int .u32 z)) (w.heap.size+1+1) [.slice none 0 0]):=HB3c.out.set_ne (by omega) _ _;have HB4d:Hid (aak 35 (wr.setCell ⟨gr,j+m+2,none⟩ (.int .u32 z)) (w.heap.size+1+1+1) [.slice none 0 0]):=HB4c.out.set_ne (by omega) _ _;have HBLd:Hid (Below w.heap.size w (wr.setCell ⟨gr,j+m+2,none⟩ (.int .u32 z))):=aay HBLc.out (by have:=HBLw.out;omega) _ _;clear hz hGG hG0' hsg hGB;go_wp2_with fail
          obtain⟨wq,hwq⟩:∃ q:World,q=wr:=⟨_,rfl⟩
          subst hwq;go_loopg [29,234] (m+2+1) (λk sv u wr=>Hid (akh w gr w5.heap.size gd d q (o.set (j+d.length) z) ex cd j k sv u wr))
          case atStart=>
           refine⟨0,o.set (j+d.length) z,0,rfl,rfl,Nat.zero_le _,by have:=HDL.out;omega,aeX j (limb_set HSA2.out.lo _ hzb),?_,HQ4.out,HD4'.out,HB3d.out,HB4d.out,HBLd.out⟩;rw[hld];exact HRO2.out
          case round=>
           clear HRO2 HQ4 HD4' HB3d HB4d HBLd HRO HQ3 HD3 HB3c HB4c HBLc cx fx cq fq;obtain⟨k2,o2,sm,rfl,rfl,hkl2,hkk2,hba,hro2,hbq2,hbd2,hb32,hb42,hbl2⟩:=hrel.out;have HBA:=Lib.hid hba;have HRO:=Lib.hid hro2;have HQ3:=Lib.hid hbq2;have HD3:=Lib.hid hbd2;have HB3c:=Lib.hid hb32;have HB4c:=Lib.hid hb42;have HBLc:=Lib.hid hbl2;have hsl:=hba.sl;have ho2len:o2.length=lu.length+1:=by rw[hba.len,List.length_set,holen]
           rw[hld] at hkl2 hkk2;clear hrel hba hro2 hbq2 hbd2 hb32 hb42 hbl2;by_cases hlt2:k2<m+2
           ·obtain⟨y',hy'⟩:∃ y,d[k2]? =some y:=⟨d[k2]'(by omega),List.getElem?_eq_getElem _⟩
            have hyb:=HLD.out y' (List.mem_of_getElem? hy');obtain⟨x2,hx2⟩:∃ x,o2[j+k2]? =some x:=⟨o2[j+k2]'(by rw[ho2len];omega),List.getElem?_eq_getElem _⟩
            have hxb2:=adm HBA.out.lo hx2;have cy:wr.cell? ⟨gd,k2,none⟩=some (Value.int .u32 (y':Nat)):=by rw[HD3.out.cell];exact HCD.out _ _ hy'
            have cx:=HRO.out.get hx2;have fx:=aak.free HRO.out (j+k2);have i1:((j:Int)+(k2:Int)).toNat=j+k2:=by omega
            have i2:(j:Int)+(k2:Int)<(lu.length:Int)+1:=by omega
            have i3:0<=(j:Int)+(k2:Int):=by omega
            have i6:(k2:Int)<(m:Int)+2:=by omega
            obtain⟨Z2,hZ2⟩:∃ N,N=(sm+(x2+y'))%4294967296:=⟨_,rfl⟩
            obtain⟨C2,hC2⟩:∃ N,N=(sm+(x2+y'))/4294967296:=⟨_,rfl⟩
            have hZ2':((sm:Int)+((x2:Int)+(y':Int)))%4294967296=(Z2:Int):=by omega
            have hC2':((sm:Int)+((x2:Int)+(y':Int)))/4294967296=(C2:Int):=by omega
            have HN:Hid (adp d (o.set (j+d.length) z) j (k2+1) (o2.set (j+k2) Z2) C2):=by
             rw[hZ2,hC2];exact ah6 HBA.out hy' hyb hx2
            clear hy' hx2 hZ2 hC2;go_wp2_with fail
            go_quiet (fail)
            go_wp2_with fail
            go_roundg (gk-1)
            case measure=>omega
            case rel=>
             exact⟨k2+1,o2.set (j+k2) Z2,C2,by first | rfl | go_num,by first | rfl | go_num,by omega,by omega,HN.out,HRO.out.set (by rw[ho2len];omega) Z2,HQ3.out.set_ne (by omega) _,HD3.out.set_ne (by omega) _ _,HB3c.out.set_ne (by omega) _ _,HB4c.out.set_ne (by omega) _ _,abd (aay HBLc.out (g:=gr) (by have:=HBLw.out;omega) (j+k2) (.int .u32 Z2)) rfl rfl rfl rfl⟩
           ·have hkm2:k2=m+2:=by omega
            have HBA2:Hid (adp d (o.set (j+d.length) z) j d.length o2 sm):=by
             have h:=HBA.out;rw[show k2=d.length by omega] at h;exact h
            obtain⟨ez,eg,ed⟩:=ah2 HAT.out HLD.out HSA2.out hjd HXX.out HZ3.out HSG.out HGB.out HLOW.out HZE.out HBA2.out;rw[hld] at ez;have cx:=HRO.out.get ez;have fx:=aak.free HRO.out (j+(m+2));rw[<- Nat.add_assoc] at cx fx;have i6:¬ (k2:Int)<(m:Int)+2:=by omega
            obtain⟨qq,hqq⟩:∃ z,q[j]? =some z:=⟨q[j]'(by omega),List.getElem?_eq_getElem _⟩
            have cq:=HQ3.out.get hqq;have fq:=aak.free HQ3.out j;obtain⟨Z2,hZ2⟩:∃ N,N=(z+sm)%4294967296:=⟨_,rfl⟩
            have hZ2':((z:Int)+(sm:Int))%4294967296=(Z2:Int):=by omega
            have hZ3':IntKind.u32.wrap ((z:Int)+(sm:Int))=(Z2:Int):=hZ2';have hsm:(sm:Int)%4294967296=(sm:Int):=by omega
            rw[<- hZ2,<- HGG.out] at ed;rw[hld] at ed;have HN:=Lib.hid ed;clear ez ed hqq hZ2 eg;go_wp2_with fail
            go_roundg (gO-1)
            case measure=>omega
            case rel=>
             exact⟨j,q.set j G',o2.set (j+(m+2)) Z2,by first | rfl | go_num,by rw[hld];omega,by omega,HN.out,(HRO.out.set (by omega) Z2).set_ne (by omega) _,(HQ3.out.set_ne (by omega) _).set (by omega) G',(HD3.out.set_ne (by omega) _ _).set_ne (by omega) _ _,(HB3c.out.set_ne (by omega) _ _).set_ne (by omega) _ _,(HB4c.out.set_ne (by omega) _ _).set_ne (by omega) _ _,aay (aay HBLc.out (by have:=HBLw.out;omega) _ _) (by have:=HBLw.out;omega) _ _⟩
         ·obtain⟨Z,hZ⟩:∃ Z,Z=x-(c+b):=⟨_,rfl⟩
          have hZb:Z<4294967296:=by omega
          have hzz:(x:Int)-(c:Int)-(b:Int)=(Z:Int):=by omega
          have HN:Hid (afB d (X0*2 ^ s) (lu.length+1) j (q.set j Gf) (o.set (j+d.length) Z)):=by
           rw[hZ];exact akb HAT.out HSA2.out hjd HXX.out HZ3.out (by omega) hGB HUP2.out
          rw[hld] at HN;clear hZ;go_wp2_with fail
          go_roundg (gO-1)
          case measure=>omega
          case rel=>
           exact⟨j,q.set j Gf,o.set (j+(m+2)) Z,by first | rfl | go_num,by rw[hld];omega,by omega,HN.out,(HRO.out.set (by omega) Z).set_ne (by omega) _,(HQ3.out.set_ne (by omega) _).set (by omega) Gf,(HD3.out.set_ne (by omega) _ _).set_ne (by omega) _ _,(HB3c.out.set_ne (by omega) _ _).set_ne (by omega) _ _,(HB4c.out.set_ne (by omega) _ _).set_ne (by omega) _ _,aay (aay HBLc.out (by have:=HBLw.out;omega) _ _) (by have:=HBLw.out;omega) _ _⟩
  ·obtain rfl:i=0:=by omega
   obtain⟨hqv,hrv⟩:=avt HAT.out;have hrlen:r.length=lu.length+1:=HAT.out.rl;have hqlen:q.length=Q:=by have:=HAT.out.ql;have:=HQ.out;have:=HDL.out;omega
   have hlr:(limbs (valL r)).length<=m+2:=by
    rw[limbs_len];have h1:=HAT.out.lt;rw[List.drop_zero] at h1;have h2:=val_lt HLD.out;rw[hld] at h2;omega
   have hp:=Nat.two_pow_pos s;have HQV:Hid (valL q=X0/y):=by show _=_;rw[hqv,HVD.out,Nat.mul_div_mul_right _ _ hp]
   have HRV:Hid (valL r/2 ^ s=X0%y):=by show _=_;rw[hrv,HVD.out,Nat.mul_mod_mul_right,Nat.mul_div_cancel _ hp]
   have HLR:=Lib.hid HAT.out.lr;have HLQ:=Lib.hid HAT.out.lq;have HROWR:=Lib.hid (ad7.row HR.out);have HLRN:=Lib.hid hlr;have HHL:=Lib.hid hrlen;have HQL:=Lib.hid hqlen;clear hqv hrv hrlen hqlen hlr hp h0;go_wp2_with fail
   refine (acW r _ _ _ _ HLR.out HROWR.out HHL.out hcap (by omega)).mono ?_;rintro e w7 ⟨v7,rfl,hv7,hg7⟩;have HBL7:Hid (Below w.heap.size w w7):=HBL.out.trans (hg7.b.mono HBL.out.size);have HQ7:=Lib.hid (HBQ.out.still (Gr.grown hg7));have HB37:=Lib.hid (HB3.out.still (Gr.grown hg7));have HB47:=Lib.hid (HB4.out.still (Gr.grown hg7));have HV7:=Lib.hid hv7;obtain⟨a7,rfl,_⟩:=hv7;clear hg7 HBL HBQ HB3 HB4 HR HROWR;go_wp2_with fail
   refine (ako (valL r) s _ _ HV7.out (by have:=HLRN.out;omega) hs31).mono ?_;rintro e w8 ⟨v8,rfl,hv8,hg8⟩;rw[HRV.out] at hv8;have HBL8:Hid (Below w.heap.size w w8):=HBL7.out.trans (hg8.b.mono HBL7.out.size);have HQ8:=Lib.hid (HQ7.out.still (Gr.grown hg8));have HB38:=Lib.hid (HB37.out.still (Gr.grown hg8));have HB48:=Lib.hid (HB47.out.still (Gr.grown hg8));have HV8:=Lib.hid hv8;obtain⟨a8,rfl,_⟩:=hv8;obtain⟨n8,hn8'⟩:∃ n,n=(limbs (X0%y)).length:=⟨_,rfl⟩
   rw[<- hn8'] at HV8 ⊢;clear hg8 HBL7 HQ7 HB37 HB47 hn8';have hl8:=HB48.out.lt;have HBX:Hid (aak 35 (w8.alloc (.cells #[.slice a8 n8 n8] 35)) w8.heap.size [.slice a8 n8 n8]):=aak.new _ _ _;have HQ9:=Lib.hid (HQ8.out.still (aab _ (.cells #[.slice a8 n8 n8] 35) none));have HB39:=Lib.hid (HB38.out.still (aab _ (.cells #[.slice a8 n8 n8] 35) none));have HB49:=Lib.hid (HB48.out.still (aab _ (.cells #[.slice a8 n8 n8] 35) none));have HBL9:Hid (Below w.heap.size w (w8.alloc (.cells #[.slice a8 n8 n8] 35))):=HBL8.out.alloc HBL8.out.size _;have HV9:=Lib.hid (Gr.natIs (aap _ (.cells #[.slice a8 n8 n8] 35)) HV8.out);have HROWQ:Hid (abi (w8.alloc (.cells #[.slice a8 n8 n8] 35)).drew (some ⟨w5.heap.size,0,none⟩) q):=(ad7.row HQ9.out).keep (λ_ _ h=>h);have HB39d:Hid (aak 35 (w8.alloc (.cells #[.slice a8 n8 n8] 35)).drew (w.heap.size+1+1) [.slice none 0 0]):=HB39.out;have HB49d:Hid (aak 35 (w8.alloc (.cells #[.slice a8 n8 n8] 35)).drew (w.heap.size+1+1+1) [.slice none 0 0]):=HB49.out;have HV9d:Hid (aaD (w8.alloc (.cells #[.slice a8 n8 n8] 35)).drew (.agg #[.slice a8 n8 n8]) (X0%y)):=HV9.out.keep (λ_ _ h=>h);have HBL9d:Hid (Below w.heap.size w (w8.alloc (.cells #[.slice a8 n8 n8] 35)).drew):=abd HBL9.out rfl rfl rfl rfl;have hx9:=HBX.out.cell 0;simp only[List.getElem?_cons_zero] at hx9;go_wp2_with fail
   go_region_held3 (λw'=>w'.cell? ⟨w8.heap.size,0,none⟩=some (.slice a8 n8 n8)) (first | go_keep | exact aaw hg9 hx9 | (rw[akz _ _ _ _ _ _ (by omega)];assumption))
    ((go_at_call 169;refine (acW q _ _ _ _ HLQ.out HROWQ.out HQL.out (Nat.le_refl _) (by omega)).mono ?_;rintro e w9 ⟨v9,rfl,hv9,hg9⟩;obtain⟨a9,rfl,hr9⟩:=hv9;have HC3:=Lib.hid (HB39d.out.still (Gr.grown hg9));have HC4:=Lib.hid (HB49d.out.still (Gr.grown hg9));have HVF:=Lib.hid (Gr.natIs hg9 HV9d.out);have HBL10:=Lib.hid (HBL9d.out.trans (hg9.b.mono HBL9d.out.size));have HR9:=Lib.hid hr9;have x3:=acB HC3.out;have x4:=acB HC4.out;have f3:=HC3.out.free 0;have f4:=HC4.out.free 0;have l4:=HC4.out.lt;clear hr9))
   have hyp:0<y:=Nat.pos_of_ne_zero (λh=>hy0 (by rw[h];exact limbs_zero));obtain⟨n9,hn9⟩:∃ n,n=(limbs (valL q)).length:=⟨_,rfl⟩
   have HN9:Hid (aaD w9 (.agg #[.slice a9 n9 n9]) (X0/y)):=by rw[hn9,<- HQV.out];exact⟨a9,rfl,HR9.out⟩
   rw[<- hn9];clear hn9;go_wp2_with fail
   have HF3:Hid (aak 35 ((w9.setCell ⟨w.heap.size+1+1,0,none⟩ (.slice a9 n9 n9)).setCell ⟨w.heap.size+1+1+1,0,none⟩ (.slice a8 n8 n8)) (w.heap.size+1+1) [.slice a9 n9 n9]):=(HC3.out.set 0 (.slice a9 n9 n9)).set_ne (by omega) 0 _;have HF4:Hid (aak 35 ((w9.setCell ⟨w.heap.size+1+1,0,none⟩ (.slice a9 n9 n9)).setCell ⟨w.heap.size+1+1+1,0,none⟩ (.slice a8 n8 n8)) (w.heap.size+1+1+1) [.slice a8 n8 n8]):=(HC4.out.set_ne (by omega) 0 _).set 0 _;have hkp:aaR w9 ((w9.setCell ⟨w.heap.size+1+1,0,none⟩ (.slice a9 n9 n9)).setCell ⟨w.heap.size+1+1+1,0,none⟩ (.slice a8 n8 n8)):=(aaL HC3.out (by decide) _).trans (aaL (HC4.out.set_ne (by omega) 0 _) (by decide) _);exact aep rfl (by kernel_rfl) (by kernel_rfl) rfl rfl rfl HF3.out HF4.out ⟨.inr ⟨hyp,_,_,rfl,HN9.out.keep hkp,HVF.out.keep hkp⟩,aay (aay HBL10.out (by omega) _ _) (by omega) _ _⟩
end Go.Proofs.YtcmplpkmfbhpdaaGreat
