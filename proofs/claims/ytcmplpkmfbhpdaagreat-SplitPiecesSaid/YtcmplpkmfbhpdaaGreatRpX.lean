import Derived.Test.YtcmplpkmfbhpdaaGreatRnZ
import Derived.Test.YtcmplpkmfbhpdaaGreatSpU
namespace Go.Proofs.YtcmplpkmfbhpdaaGreat
open Go Go.RowKit
def OkR (p:Rp):Prop:=0<p.2.2
def toQ (p:Rp):Pq:=(Rat.divInt p.1 p.2.2,Rat.divInt p.2.1 p.2.2)
def toS (s:Rp × Rp):Sq:=(toQ s.1,toQ s.2)
theorem abZ {w:Int} (h:0<w):(0:Rat)<(w:Rat):=by exact_mod_cast h
theorem ag9 {a w:Int} (h:0<w):Rat.divInt a w*(w:Rat)=(a:Rat):=by
 rw[Rat.divInt_eq_div];exact Rat.div_mul_cancel (by have:=abZ h;grind)
theorem ahk {p:Rp} (h:OkR p):(toQ p).1*(p.2.2:Rat)=(p.1:Rat):=ag9 h
theorem ahj {p:Rp} (h:OkR p):(toQ p).2*(p.2.2:Rat)=(p.2.1:Rat):=ag9 h
theorem agi (u v:Int):abe u v=abg (u:Rat) (v:Rat):=by
 unfold abe abg;have h1:((u:Rat)<(v:Rat))↔u<v:=by exact_mod_cast Iff.rfl
 have h2:((v:Rat)<(u:Rat))↔v<u:=by exact_mod_cast Iff.rfl
 simp only[h1,h2]
theorem alC {x y W:Rat} (hW:0<W):x*W<y*W↔x<y:=by
 constructor
 ·intro h;have h2:0<(y-x)*W:=by grind
  rcases ajT x y with k | k | k
  ·exact k
  ·rw[k] at h;grind
  ·have:=Rat.mul_nonneg (show 0<=x-y by grind) (Rat.le_of_lt hW);grind
 ·intro h;have:=Rat.mul_pos (show 0<y-x by grind) hW;grind
theorem aeW {x y W:Rat} (hW:0<W):abg (x*W) (y*W)=abg x y:=by
 unfold abg;simp only[alC hW]
def aaA (p q:Rp):Int:=if abe (p.1*q.2.2) (q.1*p.2.2)≠0 then abe (p.1*q.2.2) (q.1*p.2.2) else abe (p.2.1*q.2.2) (q.2.1*p.2.2)
theorem adV {p q:Rp} (hp:OkR p) (hq:OkR q):aaA p q=abL (toQ p) (toQ q):=by
 have hW:(0:Rat)<(p.2.2:Rat)*(q.2.2:Rat):=Rat.mul_pos (abZ hp) (abZ hq);have e1:abe (p.1*q.2.2) (q.1*p.2.2)=abg (toQ p).1 (toQ q).1:=by
  have a1:((p.1*q.2.2:Int):Rat)=(toQ p).1*((p.2.2:Rat)*(q.2.2:Rat)):=by rw[Rat.intCast_mul,<- ahk hp];grind
  have a2:((q.1*p.2.2:Int):Rat)=(toQ q).1*((p.2.2:Rat)*(q.2.2:Rat)):=by rw[Rat.intCast_mul,<- ahk hq];grind
  rw[agi,a1,a2,aeW hW]
 have e2:abe (p.2.1*q.2.2) (q.2.1*p.2.2)=abg (toQ p).2 (toQ q).2:=by
  have a1:((p.2.1*q.2.2:Int):Rat)=(toQ p).2*((p.2.2:Rat)*(q.2.2:Rat)):=by rw[Rat.intCast_mul,<- ahj hp];grind
  have a2:((q.2.1*p.2.2:Int):Rat)=(toQ q).2*((p.2.2:Rat)*(q.2.2:Rat)):=by rw[Rat.intCast_mul,<- ahj hq];grind
  rw[agi,a1,a2,aeW hW]
 unfold aaA abL aaW;rw[e1,e2]
def rlx (a b:Rp):Int:=b.1*a.2.2-a.1*b.2.2
def rly (a b:Rp):Int:=b.2.1*a.2.2-a.2.1*b.2.2
theorem akJ {a b:Rp} (ha:OkR a) (hb:OkR b):((rlx a b:Int):Rat)=((toQ b).1-(toQ a).1)*((a.2.2:Rat)*(b.2.2:Rat)):=by
 unfold rlx;rw[Rat.intCast_sub,Rat.intCast_mul,Rat.intCast_mul,<- ahk ha,<- ahk hb];grind
theorem akH {a b:Rp} (ha:OkR a) (hb:OkR b):((rly a b:Int):Rat)=((toQ b).2-(toQ a).2)*((a.2.2:Rat)*(b.2.2:Rat)):=by
 unfold rly;rw[Rat.intCast_sub,Rat.intCast_mul,Rat.intCast_mul,<- ahj ha,<- ahj hb];grind
def afx (a b c:Rp):Int:=abe (rlx a b*rly a c) (rly a b*rlx a c)
theorem aqH {a b c:Rp} (ha:OkR a) (hb:OkR b) (hc:OkR c):afx a b c=abg (((toQ b).1-(toQ a).1)*((toQ c).2-(toQ a).2)) (((toQ b).2-(toQ a).2)*((toQ c).1-(toQ a).1)):=by
 have hW:(0:Rat)<((a.2.2:Rat)*(b.2.2:Rat))*((a.2.2:Rat)*(c.2.2:Rat)):=Rat.mul_pos (Rat.mul_pos (abZ ha) (abZ hb)) (Rat.mul_pos (abZ ha) (abZ hc));have a1:((rlx a b*rly a c:Int):Rat)=(((toQ b).1-(toQ a).1)*((toQ c).2-(toQ a).2))*(((a.2.2:Rat)*(b.2.2:Rat))*((a.2.2:Rat)*(c.2.2:Rat))):=by rw[Rat.intCast_mul,akJ ha hb,akH ha hc];grind
 have a2:((rly a b*rlx a c:Int):Rat)=(((toQ b).2-(toQ a).2)*((toQ c).1-(toQ a).1))*(((a.2.2:Rat)*(b.2.2:Rat))*((a.2.2:Rat)*(c.2.2:Rat))):=by rw[Rat.intCast_mul,akH ha hb,akJ ha hc];grind
 unfold afx;rw[agi,a1,a2,aeW hW]
def rtimes (a b c:Rp):Int:=rlx a b*rlx a c+rly a b*rly a c
theorem aoV {a b c:Rp} (ha:OkR a) (hb:OkR b) (hc:OkR c):rtimes a b c<=0↔((toQ b).1-(toQ a).1)*((toQ c).1-(toQ a).1)+((toQ b).2-(toQ a).2)*((toQ c).2-(toQ a).2)<=0:=by
 have hW:(0:Rat)<((a.2.2:Rat)*(b.2.2:Rat))*((a.2.2:Rat)*(c.2.2:Rat)):=Rat.mul_pos (Rat.mul_pos (abZ ha) (abZ hb)) (Rat.mul_pos (abZ ha) (abZ hc));have e:((rtimes a b c:Int):Rat)=(((toQ b).1-(toQ a).1)*((toQ c).1-(toQ a).1)+((toQ b).2-(toQ a).2)*((toQ c).2-(toQ a).2))*(((a.2.2:Rat)*(b.2.2:Rat))*((a.2.2:Rat)*(c.2.2:Rat))):=by
  unfold rtimes;rw[Rat.intCast_add,Rat.intCast_mul,Rat.intCast_mul,akJ ha hb,akH ha hc,akH ha hb,akJ ha hc];grind
 have h1:rtimes a b c<=0↔((rtimes a b c:Int):Rat)<=0:=by exact_mod_cast Iff.rfl
 rw[h1,e];generalize ((toQ b).1-(toQ a).1)*((toQ c).1-(toQ a).1)+((toQ b).2-(toQ a).2)*((toQ c).2-(toQ a).2)=d;have h2:=alC (x:=0) (y:=d) hW;grind
def ron (s:Rp × Rp) (p:Rp):Bool:=afx s.1 s.2 p == 0 && decide ((rtimes p s.1 s.2).sign<=0)
theorem azv (x:Rat):0<=x*x:=by
 rcases Rat.le_total (a:=0) (b:=x) with h | h
 ·exact Rat.mul_nonneg h h
 ·have:=Rat.mul_nonneg (show 0 <= -x by grind) (show 0 <= -x by grind);grind
theorem axo {a b c d:Rat} (h1:a*d=b*c) (h2:a*c+b*d<=0):a*c<=0/\b*d<=0:=by
 -- (a c)(b d) is a square
 have h3:(a*c)*(b*d)=(a*d)*(a*d):=by
  have:(a*c)*(b*d)=(a*d)*(b*c):=by grind
  rw[this,<- h1]
 have h4:=azv (a*d);rw[<- h3] at h4;constructor
 ·rcases Rat.le_total (a:=a*c) (b:=0) with k | k
  ·exact k
  ·by_cases e:a*c=0
   ·grind
   ·have h5:0<a*c:=by grind
    have:=adt h5 h4;grind
 ·rcases Rat.le_total (a:=b*d) (b:=0) with k | k
  ·exact k
  ·by_cases e:b*d=0
   ·grind
   ·have h5:0<b*d:=by grind
    have:=adt (j:=a*c) h5 (by grind);grind
theorem aoz {a b u:Rat} (h:(a-u)*(b-u)<=0):ad9 a b u:=by
 unfold ad9;rcases Rat.le_total (a:=a) (b:=u) with h1 | h1<;>rcases Rat.le_total (a:=b) (b:=u) with h2 | h2
 ·-- both below: one is it
  have:=Rat.mul_nonneg (show 0<=u-a by grind) (show 0<=u-b by grind);rcases aaQ (show (a-u)*(b-u)=0 by grind) with z | z
  ·right;grind
  ·left;grind
 ·left;grind
 ·right;grind
 ·have:=Rat.mul_nonneg (show 0<=a-u by grind) (show 0<=b-u by grind);rcases aaQ (show (a-u)*(b-u)=0 by grind) with z | z
  ·left;grind
  ·right;grind
theorem an4 {a b u:Rat} (h:ad9 a b u):(a-u)*(b-u)<=0:=by
 unfold ad9 at h;rcases h with ⟨h1,h2⟩ | ⟨h1,h2⟩
 ·have:=Rat.mul_nonneg (show 0<=u-a by grind) (show 0<=b-u by grind);grind
 ·have:=Rat.mul_nonneg (show 0<=a-u by grind) (show 0<=u-b by grind);grind
theorem aeJ {s:Rp × Rp} {p:Rp} (h1:OkR s.1) (h2:OkR s.2) (hp:OkR p):ron s p=true↔OnQ (toS s) (toQ p):=by
 unfold ron;rw[Bool.and_eq_true,beq_iff_eq,decide_eq_true_eq,aqH h1 h2 hp,acn];have hs:(rtimes p s.1 s.2).sign<=0↔rtimes p s.1 s.2<=0:=by
  rcases apR (rtimes p s.1 s.2) with ⟨e,k⟩ | ⟨e,k⟩ | ⟨e,k⟩<;>rw[e]<;>omega
 rw[hs,aoV hp h1 h2];constructor
 ·rintro⟨k1,k2⟩;have:=axo (a:=(toQ s.1).1-(toQ p).1) (b:=(toQ s.1).2-(toQ p).2) (c:=(toQ s.2).1-(toQ p).1) (d:=(toQ s.2).2-(toQ p).2) (by grind) k2;exact⟨k1,aoz this.1,aoz this.2⟩
 ·intro h;have hx:=an4 h.x;have hy:=an4 h.y;have hc:=h.c;unfold toS at hx hy hc;dsimp only at hx hy hc;exact⟨hc,by grind⟩
end Go.Proofs.YtcmplpkmfbhpdaaGreat
namespace Go.Proofs.YtcmplpkmfbhpdaaGreat
open Go Go.RowKit
def rlA (s:Rp × Rp):Int:=s.1.2.1*s.2.2.2-s.2.2.1*s.1.2.2
def rlB (s:Rp × Rp):Int:=s.2.1*s.1.2.2-s.1.1*s.2.2.2
def rlC (s:Rp × Rp):Int:=s.2.1*s.1.2.1-s.1.1*s.2.2.1
def wS (s:Rp × Rp):Rat:=(s.1.2.2:Rat)*(s.2.2.2:Rat)
def OkS (s:Rp × Rp):Prop:=OkR s.1/\OkR s.2
theorem agI {s:Rp × Rp} (h:OkS s):0<wS s:=Rat.mul_pos (abZ h.1) (abZ h.2)
theorem akO {s:Rp × Rp} (h:OkS s):((rlA s:Int):Rat)= -((toS s).2.2-(toS s).1.2)*wS s:=by
 unfold rlA wS toS;rw[Rat.intCast_sub,Rat.intCast_mul,Rat.intCast_mul,<- ahj h.1,<- ahj h.2];grind
theorem akN {s:Rp × Rp} (h:OkS s):((rlB s:Int):Rat)=((toS s).2.1-(toS s).1.1)*wS s:=by
 unfold rlB wS toS;rw[Rat.intCast_sub,Rat.intCast_mul,Rat.intCast_mul,<- ahk h.1,<- ahk h.2];grind
theorem akL {s:Rp × Rp} (h:OkS s):((rlC s:Int):Rat)=((toS s).2.1*(toS s).1.2-(toS s).1.1*(toS s).2.2)*wS s:=by
 unfold rlC wS toS;rw[Rat.intCast_sub,Rat.intCast_mul,Rat.intCast_mul,<- ahk h.1,<- ahk h.2,<- ahj h.1,<- ahj h.2];grind
def ajs (s t:Rp × Rp):Bool:=abe (rlA s*rlB t) (rlB s*rlA t) == 0
def rcW (s t:Rp × Rp):Int:=rlA s*rlB t-rlB s*rlA t
def rcX (s t:Rp × Rp):Int:=rlC s*rlB t-rlB s*rlC t
def rcY (s t:Rp × Rp):Int:=rlA s*rlC t-rlC s*rlA t
def aa2 (s t:Rp × Rp):Rp:=if rcW s t<0 then (-rcX s t,-rcY s t,-rcW s t) else (rcX s t,rcY s t,rcW s t)
theorem anl {s t:Rp × Rp} (hs:OkS s) (ht:OkS t):((rcW s t:Int):Rat)=crQ (toS s) (toS t)*(wS s*wS t):=by
 unfold rcW crQ;rw[Rat.intCast_sub,Rat.intCast_mul,Rat.intCast_mul,akO hs,akN hs,akO ht,akN ht];grind
theorem ald {s t:Rp × Rp} (hs:OkS s) (ht:OkS t):ajs s t=true↔crQ (toS s) (toS t)=0:=by
 have hW:=Rat.mul_pos (agI hs) (agI ht);have e:ajs s t=true↔rcW s t=0:=by
  unfold ajs rcW;rw[beq_iff_eq];unfold abe;constructor
  ·intro h;split at h
   ·cases h
   ·split at h
    ·cases h
    ·omega
  ·intro h;rw[if_neg (by omega),if_neg (by omega)]
 have h2:rcW s t=0↔((rcW s t:Int):Rat)=0:=by exact_mod_cast Iff.rfl
 rw[e,h2,anl hs ht];constructor
 ·intro h;rcases aaQ h with z | z
  ·exact z
  ·grind
 ·intro h;rw[h];grind
theorem af4 {s t:Rp × Rp} (h:rcW s t≠0):OkR (aa2 s t):=by
 unfold OkR aa2;split
 ·show 0 < -rcW s t;omega
 ·show 0<rcW s t;omega
theorem ao2 {s t:Rp × Rp} (h:rcW s t≠0):(toQ (aa2 s t)).1*((rcW s t:Int):Rat)=((rcX s t:Int):Rat)/\(toQ (aa2 s t)).2*((rcW s t:Int):Rat)=((rcY s t:Int):Rat):=by
 have h1:=ahk (af4 h);have h2:=ahj (af4 h);by_cases k:rcW s t<0
 ·have e:aa2 s t=(-rcX s t,-rcY s t,-rcW s t):=by unfold aa2;rw[if_pos k]
  rw[e] at h1 h2 ⊢;dsimp only at h1 h2;rw[Rat.intCast_neg,Rat.intCast_neg] at h1 h2;exact⟨by grind,by grind⟩
 ·have e:aa2 s t=(rcX s t,rcY s t,rcW s t):=by unfold aa2;rw[if_neg k]
  rw[e] at h1 h2 ⊢;exact⟨h1,h2⟩
theorem akm {s t:Rp × Rp} (hs:OkS s) (ht:OkS t) (hc:crQ (toS s) (toS t)≠0) {q:Pq} (h1:OnQ (toS s) q) (h2:OnQ (toS t) q):toQ (aa2 s t)=q:=by
 have hW:=Rat.mul_pos (agI hs) (agI ht);have hw:=anl hs ht;have hne:((rcW s t:Int):Rat)≠0:=by
  rw[hw];intro z;rcases aaQ z with z | z
  ·exact hc z
  ·grind
 have hwi:rcW s t≠0:=λz=>hne (by rw[z];rfl);obtain⟨k1,k2⟩:=ao2 hwi;have c1:=h1.c;have c2:=h2.c;have ex:((rcX s t:Int):Rat)=q.1*((rcW s t:Int):Rat):=by
  rw[hw];unfold rcX crQ;rw[Rat.intCast_sub,Rat.intCast_mul,Rat.intCast_mul,akN hs,akL hs,akN ht,akL ht];generalize wS s=u at *;generalize wS t=v at *;have e:((toS s).2.1*(toS s).1.2-(toS s).1.1*(toS s).2.2)=((toS s).2.1-(toS s).1.1)*q.2-((toS s).2.2-(toS s).1.2)*q.1:=by grind
  have e':((toS t).2.1*(toS t).1.2-(toS t).1.1*(toS t).2.2)=((toS t).2.1-(toS t).1.1)*q.2-((toS t).2.2-(toS t).1.2)*q.1:=by grind
  rw[e,e'];grind
 have ey:((rcY s t:Int):Rat)=q.2*((rcW s t:Int):Rat):=by
  rw[hw];unfold rcY crQ;rw[Rat.intCast_sub,Rat.intCast_mul,Rat.intCast_mul,akO hs,akL hs,akO ht,akL ht];generalize wS s=u at *;generalize wS t=v at *;have e:((toS s).2.1*(toS s).1.2-(toS s).1.1*(toS s).2.2)=((toS s).2.1-(toS s).1.1)*q.2-((toS s).2.2-(toS s).1.2)*q.1:=by grind
  have e':((toS t).2.1*(toS t).1.2-(toS t).1.1*(toS t).2.2)=((toS t).2.1-(toS t).1.1)*q.2-((toS t).2.2-(toS t).1.2)*q.1:=by grind
  rw[e,e'];grind
 rw[ex] at k1;rw[ey] at k2;have z1:((toQ (aa2 s t)).1-q.1)*((rcW s t:Int):Rat)=0:=by grind
 have z2:((toQ (aa2 s t)).2-q.2)*((rcW s t:Int):Rat)=0:=by grind
 rcases aaQ z1 with z1 | z1
 ·rcases aaQ z2 with z2 | z2
  ·exact Prod.ext (by grind) (by grind)
  ·exact absurd z2 hne
 ·exact absurd z1 hne
def rst (s t:Rp × Rp) (out:List Rp) (p:Rp):List Rp:=
 if (ron s p && ron t p)=true then
  match out with
  |[a,b]=>[if aaA p a<0 then p else a,if 0<aaA p b then p else b]
  |_=>[p,p]
 else out
def aim (s t:Rp × Rp):List Rp:=[s.1,s.2,t.1,t.2].foldl (rst s t) []
def acL (s t:Rp × Rp):List Rp:=
 if ajs s t=true then
  match aim s t with
  |[a,b]=>if aaA a b=0 then [a] else [a,b]
  |l=>l
 else if (ron s (aa2 s t) && ron t (aa2 s t))=true then [aa2 s t] else []
structure as4 (l out:List Rp):Prop where
 h:(l=[]/\out=[])\/∃ a b,out=[a,b]/\a∈l/\b∈l/\∀ p∈l,¬ ab7 (toQ p) (toQ a)/\¬ ab7 (toQ b) (toQ p)
theorem as4.step {s t:Rp × Rp} {l out:List Rp} {p:Rp} (h:as4 l out) (hok:∀ q∈l,OkR q) (hp:OkR p):as4 (if (ron s p && ron t p)=true then l++[p] else l) (rst s t out p):=by
 unfold rst;split
 ·rename_i hon;refine⟨.inr ?_⟩;rcases h.h with ⟨rfl,rfl⟩ | ⟨a,b,rfl,ha,hb,hm⟩
  ·exact⟨p,p,rfl,by simp,by simp,λq hq=>by
    have e:q=p:=by simpa using hq
    rw[e];exact⟨aaB _,aaB _⟩⟩
  ·have ea:=adV hp (hok a ha);have eb:=adV hp (hok b hb);refine⟨_,_,rfl,?_,?_,λq hq=> ?_⟩
   ·split
    ·simp
    ·exact List.mem_append_left _ ha
   ·split
    ·simp
    ·exact List.mem_append_left _ hb
   ·have la:aaA p a<0↔ab7 (toQ p) (toQ a):=by rw[ea,abP]
    have lb:0<aaA p b↔ab7 (toQ b) (toQ p):=by rw[eb,afq]
    rcases List.mem_append.1 hq with hq | hq
    ·obtain⟨h1,h2⟩:=hm q hq;constructor
     ·split
      ·rename_i k;exact λz=>h1 (aaT z (la.1 k))
      ·exact h1
     ·split
      ·rename_i k;exact λz=>h2 (aaT (lb.1 k) z)
      ·exact h2
    ·have e:q=p:=by simpa using hq
     rw[e];constructor
     ·split
      ·exact aaB _
      ·rename_i k;exact λz=>k (la.2 z)
     ·split
      ·exact aaB _
      ·rename_i k;exact λz=>k (lb.2 z)
 ·exact h
def onL (s t:Rp × Rp) (l:List Rp):List Rp:=l.filter λp=>ron s p && ron t p
theorem aqZ (s t:Rp × Rp) (l:List Rp) (p:Rp):onL s t (l++[p])=if (ron s p && ron t p)=true then onL s t l++[p] else onL s t l:=by
 unfold onL;rw[List.filter_append];split
 ·rename_i h;rw[List.filter_cons,if_pos h,List.filter_nil]
 ·rename_i h;rw[List.filter_cons,if_neg h,List.filter_nil,List.append_nil]
theorem aiG {s t:Rp × Rp} : ∀ (r l out:List Rp),as4 (onL s t l) out->(∀ q∈l,OkR q)->(∀ q∈r,OkR q)->as4 (onL s t (l++r)) (r.foldl (rst s t) out)
 |[],l,out,h,_,_=>by simpa using h
 |p::r,l,out,h,h1,h2=>by
  have hp:=h2 p List.mem_cons_self;have hs:as4 (onL s t (l++[p])) (rst s t out p):=by
   rw[aqZ];exact h.step (λq hq=>h1 q (List.mem_filter.1 hq).1) hp
  have:=aiG r (l++[p]) (rst s t out p) hs (λq hq=>by
   rcases List.mem_append.1 hq with hq | hq
   ·exact h1 q hq
   ·have e:q=p:=by simpa using hq
    rw[e];exact hp) λq hq=>h2 q (List.mem_cons_of_mem _ hq)
  simpa using this
theorem ao0 {s t:Rp × Rp} (hs:OkS s) (ht:OkS t):as4 (onL s t [s.1,s.2,t.1,t.2]) (aim s t):=by
 have:=aiG (s:=s) (t:=t) [s.1,s.2,t.1,t.2] [] [] ⟨.inl ⟨rfl,rfl⟩⟩ (λq hq=>by cases hq) λq hq=>by
  simp only[List.mem_cons,List.not_mem_nil,or_false] at hq;rcases hq with rfl | rfl | rfl | rfl
  ·exact hs.1
  ·exact hs.2
  ·exact ht.1
  ·exact ht.2
 exact this
theorem acx {s:Rp × Rp} : (toS s).1=toQ s.1/\(toS s).2=toQ s.2:=⟨rfl,rfl⟩
theorem aes {s t:Rp × Rp} (hs:OkS s) (ht:OkS t):(∀ p∈acL s t,OkR p)/\∀ q,(∃ p,p∈acL s t/\toQ p=q)↔q∈acM (toS s) (toS t):=by
 have four:∀ p,p=s.1\/p=s.2\/p=t.1\/p=t.2->OkR p:=by
  rintro p (rfl | rfl | rfl | rfl)
  ·exact hs.1
  ·exact hs.2
  ·exact ht.1
  ·exact ht.2
 have onm:∀ p,p∈onL s t [s.1,s.2,t.1,t.2]↔(p=s.1\/p=s.2\/p=t.1\/p=t.2)/\OnQ (toS s) (toQ p)/\OnQ (toS t) (toQ p):=λp=>by
  unfold onL;rw[List.mem_filter];simp only[List.mem_cons,List.not_mem_nil,or_false,Bool.and_eq_true];constructor
  ·rintro⟨h1,h2,h3⟩;exact⟨h1,(aeJ hs.1 hs.2 (four p h1)).1 h2,(aeJ ht.1 ht.2 (four p h1)).1 h3⟩
  ·rintro⟨h1,h2,h3⟩;exact⟨h1,(aeJ hs.1 hs.2 (four p h1)).2 h2,(aeJ ht.1 ht.2 (four p h1)).2 h3⟩
 unfold acL;by_cases hp:ajs s t=true
 ·rw[if_pos hp];have hc:=(ald hs ht).1 hp;rcases (ao0 hs ht).h with ⟨e1,e2⟩ | ⟨a,b,e,ha,hb,hm⟩
  ·rw[e2];refine⟨(λp h=>by cases h),λq=>⟨(λ⟨p,h,_⟩=>by cases h),λh=> ?_⟩⟩;obtain⟨h1,h2,h3⟩:=(adB _ _ q).1 h;have h3:=h3.resolve_left λz=>z hc;have:∃ p,p∈onL s t [s.1,s.2,t.1,t.2]:=by
    rcases h3 with h3 | h3 | h3 | h3
    ·exact⟨s.1,(onm _).2 ⟨.inl rfl,by rw[<- acx.1,<- h3];exact⟨h1,h2⟩⟩⟩
    ·exact⟨s.2,(onm _).2 ⟨.inr (.inl rfl),by rw[<- acx.2,<- h3];exact⟨h1,h2⟩⟩⟩
    ·exact⟨t.1,(onm _).2 ⟨.inr (.inr (.inl rfl)),by rw[<- (acx (s:=t)).1,<- h3];exact⟨h1,h2⟩⟩⟩
    ·exact⟨t.2,(onm _).2 ⟨.inr (.inr (.inr rfl)),by rw[<- (acx (s:=t)).2,<- h3];exact⟨h1,h2⟩⟩⟩
   obtain⟨p,hp⟩:=this;rw[e1] at hp;cases hp
  ·rw[e];have ma:=(onm a).1 ha;have mb:=(onm b).1 hb;have oka:=four a ma.1;have okb:=four b mb.1;have hab:=adV oka okb;have mem:∀ p,p∈(if aaA a b=0 then [a] else [a,b])↔(p=a\/(p=b/\aaA a b≠0)):=λp=>by
    split
    ·rename_i k;simp[k]
    ·rename_i k;simp[k]
   show (∀ p∈(if aaA a b=0 then [a] else [a,b]),OkR p)/\∀ q,(∃ p,p∈(if aaA a b=0 then [a] else [a,b])/\toQ p=q)↔_;refine⟨λp h=> ?_,λq=> ?_⟩
   ·rcases (mem p).1 h with rfl | ⟨rfl,_⟩
    ·exact oka
    ·exact okb
   ·have isEnd:∀ p,(p=s.1\/p=s.2\/p=t.1\/p=t.2)->(toQ p=(toS s).1\/toQ p=(toS s).2\/toQ p=(toS t).1\/toQ p=(toS t).2):=by
     rintro p (rfl | rfl | rfl | rfl)
     ·exact .inl rfl
     ·exact .inr (.inl rfl)
     ·exact .inr (.inr (.inl rfl))
     ·exact .inr (.inr (.inr rfl))
    constructor
    ·rintro⟨p,h,rfl⟩;rcases (mem p).1 h with rfl | ⟨rfl,_⟩
     ·exact (adB _ _ _).2 ⟨ma.2.1,ma.2.2,.inr (isEnd _ ma.1)⟩
     ·exact (adB _ _ _).2 ⟨mb.2.1,mb.2.2,.inr (isEnd _ mb.1)⟩
    ·intro h;obtain⟨h1,h2,h3⟩:=(adB _ _ q).1 h;have h3:=h3.resolve_left λz=>z hc
     -- an end on both: neither below the least nor above the greatest
     have:∃ p,p∈onL s t [s.1,s.2,t.1,t.2]/\toQ p=q:=by
      rcases h3 with h3 | h3 | h3 | h3
      ·exact⟨s.1,(onm _).2 ⟨.inl rfl,by rw[<- acx.1,<- h3];exact⟨h1,h2⟩⟩,h3.symm⟩
      ·exact⟨s.2,(onm _).2 ⟨.inr (.inl rfl),by rw[<- acx.2,<- h3];exact⟨h1,h2⟩⟩,h3.symm⟩
      ·exact⟨t.1,(onm _).2 ⟨.inr (.inr (.inl rfl)),by rw[<- (acx (s:=t)).1,<- h3];exact⟨h1,h2⟩⟩,h3.symm⟩
      ·exact⟨t.2,(onm _).2 ⟨.inr (.inr (.inr rfl)),by rw[<- (acx (s:=t)).2,<- h3];exact⟨h1,h2⟩⟩,h3.symm⟩
     obtain⟨p,hp,rfl⟩:=this;have hlo:=hm p hp;have hq:toQ p=toQ a\/toQ p=toQ b:=Classical.byContradiction λhn=>by
      rw[not_or] at hn;have l1:ab7 (toQ a) (toQ p):=by
       rcases aa8 (toQ a) (toQ p) with z | z | z
       ·exact z
       ·exact absurd z.symm hn.1
       ·exact absurd z hlo.1
      have l2:ab7 (toQ p) (toQ b):=by
       rcases aa8 (toQ p) (toQ b) with z | z | z
       ·exact z
       ·exact absurd z hn.2
       ·exact absurd z hlo.2
      rcases h3 with h3 | h3 | h3 | h3<;>rw[h3] at l1 l2
      ·exact OnQ.ext1 ma.2.1 mb.2.1 l1 l2
      ·exact OnQ.ext2 ma.2.1 mb.2.1 l1 l2
      ·exact OnQ.ext1 ma.2.2 mb.2.2 l1 l2
      ·exact OnQ.ext2 ma.2.2 mb.2.2 l1 l2
     rcases hq with z | z
     ·exact⟨a,(mem a).2 (.inl rfl),z.symm⟩
     ·by_cases k:aaA a b=0
      ·rw[hab,abD] at k;exact⟨a,(mem a).2 (.inl rfl),by rw[k,z]⟩
      ·exact⟨b,(mem b).2 (.inr ⟨rfl,k⟩),z.symm⟩
 ·rw[if_neg hp];have hc:crQ (toS s) (toS t)≠0:=λz=>hp ((ald hs ht).2 z);have hw:rcW s t≠0:=λz=>hc (by
   have:=anl hs ht;rw[z] at this;have hW:=Rat.mul_pos (agI hs) (agI ht);rcases aaQ this.symm with k | k
   ·exact k
   ·grind)
  have ok:=af4 hw;have on1:=aeJ hs.1 hs.2 ok;have on2:=aeJ ht.1 ht.2 ok;refine⟨λp h=> ?_,λq=>⟨?_,λh=> ?_⟩⟩
  ·split at h
   ·rw[List.mem_singleton.1 h];exact ok
   ·cases h
  ·rintro⟨p,h,rfl⟩;split at h
   ·rename_i k;rw[Bool.and_eq_true] at k;rw[List.mem_singleton.1 h];exact (adB _ _ _).2 ⟨on1.1 k.1,on2.1 k.2,.inl hc⟩
   ·cases h
  ·obtain⟨h1,h2,_⟩:=(adB _ _ q).1 h;have e:=akm hs ht hc h1 h2;rw[<- e] at h1 h2;rw[if_pos (by rw[Bool.and_eq_true];exact⟨on1.2 h1,on2.2 h2⟩)];exact⟨_,List.mem_singleton.2 rfl,e⟩
end Go.Proofs.YtcmplpkmfbhpdaaGreat
namespace Go.Proofs.YtcmplpkmfbhpdaaGreat
open Go Go.RowKit
section
variable {α:Type} (c:α->α->Int)
def abl (s:α):List α->List α
 |[]=>[s]
 |x::l=>if c s x=0 then x::l else if c s x<0 then s::x::l else x::abl s l
theorem ac2 {s x:α} : ∀ {l:List α},x∈abl c s l->x=s\/x∈l
 |[],h=>by
  have:x=s:=by simpa[abl] using h
  exact .inl this
 |y::l,h=>by
  unfold abl at h;split at h
  ·exact .inr h
  ·split at h
   ·rcases List.mem_cons.1 h with h | h
    ·exact .inl h
    ·exact .inr h
   ·rcases List.mem_cons.1 h with h | h
    ·rw[h];exact .inr List.mem_cons_self
    ·rcases ac2 h with h | h
     ·exact .inl h
     ·exact .inr (List.mem_cons_of_mem _ h)
theorem aeT {s x:α} : ∀ {l:List α},x∈l->x∈abl c s l
 |[],h=>by cases h
 |y::l,h=>by
  unfold abl;split
  ·exact h
  ·split
   ·exact List.mem_cons_of_mem _ h
   ·rcases List.mem_cons.1 h with h | h
    ·rw[h];exact List.mem_cons_self
    ·exact List.mem_cons_of_mem _ (aeT h)
theorem alM {s:α} : ∀ {l:List α},s∈abl c s l\/∃ x,x∈l/\c s x=0
 |[]=> .inl (by simp[abl])
 |y::l=>by
  unfold abl;split
  ·rename_i h;exact .inr ⟨y,List.mem_cons_self,h⟩
  ·split
   ·exact .inl List.mem_cons_self
   ·rcases alM (s:=s) (l:=l) with h | ⟨x,h1,h2⟩
    ·exact .inl (List.mem_cons_of_mem _ h)
    ·exact .inr ⟨x,List.mem_cons_of_mem _ h1,h2⟩
theorem afl (s:α):∀ l:List α,l.length<=(abl c s l).length/\(abl c s l).length<=l.length+1
 |[]=>by simp[abl]
 |y::l=>by
  unfold abl;split
  ·simp
  ·split
   ·simp
   ·have:=afl s l;simp only[List.length_cons];omega
variable {β:Type} {f:α->β} {lt:β->β->Prop} {ok:α->Prop}
theorem alL (h0:∀ x y,ok x->ok y->c x y=0->f x=f y) {s:α} (hs:ok s) {l:List α} (hl:∀ x∈l,ok x) (q:β):(∃ x,x∈abl c s l/\f x=q)↔f s=q\/∃ x,x∈l/\f x=q:=by
 constructor
 ·rintro⟨x,h1,h2⟩;rcases ac2 c h1 with rfl | h
  ·exact .inl h2
  ·exact .inr ⟨x,h,h2⟩
 ·rintro (h | ⟨x,h1,h2⟩)
  ·rcases alM c (s:=s) (l:=l) with k | ⟨x,k1,k2⟩
   ·exact⟨s,k,h⟩
   ·exact⟨x,aeT c k1,by rw[<- h0 s x hs (hl x k1) k2];exact h⟩
  ·exact⟨x,aeT c h1,h2⟩
theorem ad3 (h1:∀ x y,ok x->ok y->(c x y<0↔lt (f x) (f y))) (h2:∀ x y,ok x->ok y->c x y≠0->¬ c x y<0->lt (f y) (f x)) (ht:∀ a b d,lt a b->lt b d->lt a d) {s:α} (hs:ok s):∀ {l:List α},(∀ x∈l,ok x)->l.Pairwise (λx y=>lt (f x) (f y))->(abl c s l).Pairwise (λx y=>lt (f x) (f y))
 |[],_,_=>by simp[abl]
 |y::l,ho,hp=>by
  obtain⟨k1,k2⟩:=List.pairwise_cons.1 hp;have hy:=ho y List.mem_cons_self;unfold abl;split
  ·exact hp
  ·rename_i hne;split
   ·rename_i hlt;have:=(h1 s y hs hy).1 hlt;refine List.pairwise_cons.2 ⟨λx hx=> ?_,hp⟩;rcases List.mem_cons.1 hx with rfl | hx
    ·exact this
    ·exact ht _ _ _ this (k1 x hx)
   ·rename_i hlt;have hys:=h2 s y hs hy hne hlt;refine List.pairwise_cons.2 ⟨λx hx=> ?_,ad3 h1 h2 ht hs (λx hx=>ho x (List.mem_cons_of_mem _ hx)) k2⟩;rcases ac2 c hx with rfl | hx
    ·exact hys
    ·exact k1 x hx
theorem ahA {s:α} : ∀ {l:List α} {k:Nat},k<=l.length->(∀ j x,j<k->l[j]? =some x->c s x≠0/\¬ c s x<0)->(∀ x,l[k]? =some x->c s x≠0/\c s x<0)->abl c s l=l.take k++s::l.drop k
 |[],k,hk,_,_=>by
  obtain rfl:k=0:=by simpa using hk
  rfl
 |y::l,0,_,_,h2=>by
  have:=h2 y rfl;unfold abl;rw[if_neg this.1,if_pos this.2];rfl
 |y::l,k+1,hk,h1,h2=>by
  have:=h1 0 y (by omega) rfl;unfold abl;rw[if_neg this.1,if_neg this.2,ahA (l:=l) (k:=k) (by simpa using hk) (λj x hj hx=>h1 (j+1) x (by omega) (by simpa using hx)) λx hx=>h2 x (by simpa using hx)];simp
theorem agc {s:α} : ∀ {l:List α} {k:Nat} {z:α},(∀ j x,j<k->l[j]? =some x->c s x≠0/\¬ c s x<0)->l[k]? =some z->c s z=0->abl c s l=l
 |[],k,z,_,h,_=>by simp at h
 |y::l,0,z,_,h,h0=>by
  have:y=z:=by simpa using h
  subst this;unfold abl;rw[if_pos h0]
 |y::l,k+1,z,h1,h,h0=>by
  have:=h1 0 y (by omega) rfl;unfold abl;rw[if_neg this.1,if_neg this.2,agc (l:=l) (k:=k) (λj x hj hx=>h1 (j+1) x (by omega) (by simpa using hx)) (by simpa using h) h0]
end
def aaV (s t:Rp × Rp):Int:=if aaA s.1 t.1≠0 then aaA s.1 t.1 else aaA s.2 t.2
theorem ali {s t:Rp × Rp} (hs:OkS s) (ht:OkS t):aaV s t=aa5 (toS s) (toS t):=by
 unfold aaV aa5 toS;rw[adV hs.1 ht.1,adV hs.2 ht.2]
theorem ajS {p q:Rp} (hp:OkR p) (hq:OkR q):aaA p q<0↔ab7 (toQ p) (toQ q):=by rw[adV hp hq,abP]
theorem akQ {p q:Rp} (hp:OkR p) (hq:OkR q):aaA p q=0↔toQ p=toQ q:=by rw[adV hp hq,abD]
theorem auq {p q:Rp} (hp:OkR p) (hq:OkR q) (h0:aaA p q≠0) (h:¬ aaA p q<0):ab7 (toQ q) (toQ p):=by
 rw[ajS hp hq] at h;rcases aa8 (toQ p) (toQ q) with z | z | z
 ·exact absurd z h
 ·exact absurd ((akQ hp hq).2 z) h0
 ·exact z
theorem ac0 {p q:Rp × Rp} (hp:OkS p) (hq:OkS q):aaV p q<0↔agA (toS p) (toS q):=by rw[ali hp hq,ac5]
theorem afK {p q:Rp × Rp} (hp:OkS p) (hq:OkS q):aaV p q=0↔toS p=toS q:=by rw[ali hp hq,afp]
theorem alh {p q:Rp × Rp} (hp:OkS p) (hq:OkS q) (h0:aaV p q≠0) (h:¬ aaV p q<0):agA (toS q) (toS p):=by
 rw[ac0 hp hq] at h;rcases aen (toS p) (toS q) with z | z | z
 ·exact absurd z h
 ·exact absurd ((afK hp hq).2 z) h0
 ·exact z
structure aii (l:List Rp):Prop where
 ok:∀ p∈l,OkR p
 s:l.Pairwise λp q=>ab7 (toQ p) (toQ q)
structure akD (l:List (Rp × Rp)):Prop where
 ok:∀ p∈l,OkS p
 s:l.Pairwise λp q=>agA (toS p) (toS q)
theorem aii.nil:aii []:=⟨(λp h=>by cases h),List.Pairwise.nil⟩
theorem akD.nil:akD []:=⟨(λp h=>by cases h),List.Pairwise.nil⟩
theorem aii.ins {l:List Rp} (h:aii l) {p:Rp} (hp:OkR p):aii (abl aaA p l):=by
 refine⟨λq hq=> ?_,ad3 (f:=toQ) (ok:=OkR) aaA (λx y hx hy=>ajS hx hy) (λx y hx hy=>auq hx hy) (λ_ _ _=>aaT) hp h.ok h.s⟩;rcases ac2 aaA hq with rfl | hq
 ·exact hp
 ·exact h.ok q hq
theorem aii.img {l:List Rp} (h:aii l) {p:Rp} (hp:OkR p) (q:Pq):(∃ x,x∈abl aaA p l/\toQ x=q)↔toQ p=q\/∃ x,x∈l/\toQ x=q:=
 alL (f:=toQ) (ok:=OkR) aaA (λ_x _y hx hy=>(akQ hx hy).1) hp h.ok q
theorem akD.ins {l:List (Rp × Rp)} (h:akD l) {p:Rp × Rp} (hp:OkS p):akD (abl aaV p l):=by
 refine⟨λq hq=> ?_,ad3 (f:=toS) (ok:=OkS) aaV (λx y hx hy=>ac0 hx hy) (λx y hx hy=>alh hx hy) (λ_ _ _=>abc) hp h.ok h.s⟩;rcases ac2 aaV hq with rfl | hq
 ·exact hp
 ·exact h.ok q hq
theorem akD.img {l:List (Rp × Rp)} (h:akD l) {p:Rp × Rp} (hp:OkS p) (q:Sq):(∃ x,x∈abl aaV p l/\toS x=q)↔toS p=q\/∃ x,x∈l/\toS x=q:=
 alL (f:=toS) (ok:=OkS) aaV (λ_x _y hx hy=>(afK hx hy).1) hp h.ok q
def acT (c r:List Rp):List Rp:=r.foldl (λc p=>abl aaA p c) c
theorem ahL:∀ {r c:List Rp},aii c->(∀ p∈r,OkR p)->aii (acT c r)/\∀ q,(∃ x,x∈acT c r/\toQ x=q)↔(∃ x,x∈c/\toQ x=q)\/∃ x,x∈r/\toQ x=q
 |[],c,h,_=>⟨h,λq=>by simp[acT]⟩
 |p::r,c,h,ho=>by
  have hp:=ho p List.mem_cons_self;obtain⟨h1,h2⟩:=ahL (r:=r) (h.ins hp) λq hq=>ho q (List.mem_cons_of_mem _ hq);refine⟨h1,λq=> ?_⟩;show (∃ x,x∈acT (abl aaA p c) r/\toQ x=q)↔_;rw[h2,h.img hp];constructor
  ·rintro ((z | z) | ⟨x,z1,z2⟩)
   ·exact .inr ⟨p,List.mem_cons_self,z⟩
   ·exact .inl z
   ·exact .inr ⟨x,List.mem_cons_of_mem _ z1,z2⟩
  ·rintro (z | ⟨x,z1,z2⟩)
   ·exact .inl (.inr z)
   ·rcases List.mem_cons.1 z1 with rfl | z1
    ·exact .inl (.inl z2)
    ·exact .inr ⟨x,z1,z2⟩
theorem aiL (c r r':List Rp):acT c (r++r')=acT (acT c r) r':=by unfold acT;rw[List.foldl_append]
def ajB (b:List (Rp × Rp)) (i m:Nat):List Rp:=(List.range m).flatMap λk=>if k=i then [] else acL (b.getD i rs0) (b.getD k rs0)
def aby (b:List (Rp × Rp)) (i m:Nat):List Rp:=acT [] ([(b.getD i rs0).1,(b.getD i rs0).2]++ajB b i m)
theorem ahc (b:List (Rp × Rp)) (i:Nat):aby b i 0=abl aaA (b.getD i rs0).2 (abl aaA (b.getD i rs0).1 []):=rfl
theorem aeU (b:List (Rp × Rp)) (i m:Nat):aby b i (m+1)=acT (aby b i m) (if m=i then [] else acL (b.getD i rs0) (b.getD m rs0)):=by
 unfold aby ajB;rw[List.range_succ,List.flatMap_append,<- List.append_assoc,aiL];simp
def adl (c:List Rp) (m:Nat) (out:List (Rp × Rp)):List (Rp × Rp):=(List.range m).foldl (λo j=>abl aaV (c.getD j (0,0,0),c.getD (j+1) (0,0,0)) o) out
theorem ac7 (c:List Rp) (m:Nat) (out:List (Rp × Rp)):adl c (m+1) out=abl aaV (c.getD m (0,0,0),c.getD (m+1) (0,0,0)) (adl c m out):=by
 unfold adl;rw[List.range_succ,List.foldl_append];rfl
def ofR (b:List (Rp × Rp)) (n:Nat):List (Rp × Rp):=(List.range n).foldl (λo i=>adl (aby b i b.length) ((aby b i b.length).length-1) o) []
theorem ahR (b:List (Rp × Rp)) (n:Nat):ofR b (n+1)=adl (aby b n b.length) ((aby b n b.length).length-1) (ofR b n):=by
 unfold ofR;rw[List.range_succ,List.foldl_append];rfl
section
variable {b:List (Rp × Rp)} (hb:∀ s∈b,OkS s)
include hb
theorem av4 {i:Nat} (hi:i<b.length):OkS (b.getD i rs0):=by
 have:b.getD i rs0=b[i]:=by simp[List.getD,hi]
 rw[this];exact hb _ (List.getElem_mem hi)
omit hb in
theorem ans {i:Nat} (hi:i<b.length):(b.map toS).getD i sq0=toS (b.getD i rs0):=by simp[List.getD,hi]
theorem arJ {i m:Nat} (hi:i<b.length) (hm:m<=b.length):∀ p∈ajB b i m,OkR p:=by
 intro p hp;unfold ajB at hp;obtain⟨k,hk,hp⟩:=List.mem_flatMap.1 hp;have hk:=List.mem_range.1 hk;split at hp
 ·cases hp
 ·exact (aes (av4 hb hi) (av4 hb (by omega:k<b.length))).1 p hp
theorem ajf {i m:Nat} (hi:i<b.length) (hm:m<=b.length):aii (aby b i m)/\∀ q,(∃ x,x∈aby b i m/\toQ x=q)↔(q=(toS (b.getD i rs0)).1\/q=(toS (b.getD i rs0)).2\/∃ k,k<m/\k≠i/\q∈acM (toS (b.getD i rs0)) (toS (b.getD k rs0))):=by
 have ha:=av4 hb hi;obtain⟨h1,h2⟩:=ahL (c:=[]) (r:=[(b.getD i rs0).1,(b.getD i rs0).2]++ajB b i m) aii.nil (λp hp=>by
  rcases List.mem_append.1 hp with hp | hp
  ·simp only[List.mem_cons,List.not_mem_nil,or_false] at hp;rcases hp with rfl | rfl
   ·exact ha.1
   ·exact ha.2
  ·exact arJ hb hi hm p hp)
 refine⟨h1,λq=> ?_⟩;show (∃ x,x∈acT [] _/\toQ x=q)↔_;rw[h2];constructor
 ·rintro (⟨x,z,_⟩ | ⟨x,z,rfl⟩)
  ·cases z
  ·rcases List.mem_append.1 z with z | z
   ·simp only[List.mem_cons,List.not_mem_nil,or_false] at z;rcases z with rfl | rfl
    ·exact .inl rfl
    ·exact .inr (.inl rfl)
   ·unfold ajB at z;obtain⟨k,hk,z⟩:=List.mem_flatMap.1 z;have hk:=List.mem_range.1 hk;split at z
    ·cases z
    ·rename_i hne;exact .inr (.inr ⟨k,hk,hne,((aes ha (av4 hb (by omega:k<b.length))).2 _).1 ⟨x,z,rfl⟩⟩)
 ·rintro (rfl | rfl | ⟨k,hk,hne,z⟩)
  ·exact .inr ⟨_,List.mem_append_left _ (by simp),rfl⟩
  ·exact .inr ⟨(b.getD i rs0).2,List.mem_append_left _ (by simp),rfl⟩
  ·obtain⟨x,z1,z2⟩:=((aes ha (av4 hb (by omega:k<b.length))).2 q).2 z;refine .inr ⟨x,List.mem_append_right _ ?_,z2⟩;unfold ajB;exact List.mem_flatMap.2 ⟨k,List.mem_range.2 hk,by rw[if_neg hne];exact z1⟩
theorem apF {i:Nat} (hi:i<b.length) (q:Pq):(∃ x,x∈aby b i b.length/\toQ x=q)↔apW (b.map toS) i q:=by
 rw[(ajf hb hi (Nat.le_refl _)).2 q];unfold apW;rw[ans hi,List.length_map];refine or_congr Iff.rfl (or_congr Iff.rfl ⟨?_,?_⟩)
 ·rintro⟨k,h1,h2,h3⟩;exact⟨k,h1,h2,by rw[ans h1];exact h3⟩
 ·rintro⟨k,h1,h2,h3⟩;rw[ans h1] at h3;exact⟨k,h1,h2,h3⟩
omit hb in
theorem aeS {c:List Rp} (hc:aii c):∀ {m:Nat} {out:List (Rp × Rp)},m+1<=c.length\/m=0->akD out->akD (adl c m out)/\∀ t,(∃ x,x∈adl c m out/\toS x=t)↔(∃ x,x∈out/\toS x=t)\/∃ j,j<m/\t=(toQ (c.getD j (0,0,0)),toQ (c.getD (j+1) (0,0,0)))
 |0,out,_,ho=>⟨ho,λt=>by simp[adl]⟩
 |m+1,out,hm,ho=>by
  have hm':m+2<=c.length:=by omega
  obtain⟨h1,h2⟩:=aeS hc (m:=m) (out:=out) (by omega) ho;have oka:∀ j,j<c.length->OkR (c.getD j (0,0,0)):=λj hj=>by
   have:c.getD j (0,0,0)=c[j]:=by simp[List.getD,hj]
   rw[this];exact hc.ok _ (List.getElem_mem hj)
  have hok:OkS (c.getD m (0,0,0),c.getD (m+1) (0,0,0)):=⟨oka m (by omega),oka (m+1) (by omega)⟩
  rw[ac7];refine⟨h1.ins hok,λt=> ?_⟩;rw[h1.img hok,h2];constructor
  ·rintro (z | z | ⟨j,z1,z2⟩)
   ·exact .inr ⟨m,by omega,z.symm⟩
   ·exact .inl z
   ·exact .inr ⟨j,by omega,z2⟩
  ·rintro (z | ⟨j,z1,z2⟩)
   ·exact .inr (.inl z)
   ·by_cases e:j=m
    ·subst e;exact .inl z2.symm
    ·exact .inr (.inr ⟨j,by omega,z2⟩)
omit hb in
theorem amP {c:List Rp} (hc:aii c) (t:Sq):(∃ j,j<c.length-1/\t=(toQ (c.getD j (0,0,0)),toQ (c.getD (j+1) (0,0,0))))↔abX (c.map toQ) t:=by
 have hs:(c.map toQ).Pairwise λp q=>¬ abL q p<0:=by
  refine List.Pairwise.map _ (λp q h=> ?_) hc.s;rw[abP];exact λz=>aaB _ (aaT h z)
 have at':∀ j,j<c.length->(c.map toQ).getD j (0,0)=toQ (c.getD j (0,0,0)):=λj hj=>by simp[List.getD,hj]
 constructor
 ·rintro⟨j,hj,rfl⟩;have:=ae5 hs (k:=j) (by rw[List.length_map];omega) (by
   rw[at' j (by omega),at' (j+1) (by omega)];have h1:j<c.length:=by omega
   have h2:j+1<c.length:=by omega
   have:=List.pairwise_iff_getElem.1 hc.s j (j+1) h1 h2 (by omega);have e1:c.getD j (0,0,0)=c[j]:=by simp[List.getD,h1]
   have e2:c.getD (j+1) (0,0,0)=c[j+1]:=by simp[List.getD,h2]
   rw[e1,e2];exact auY this)
  rwa [at' j (by omega),at' (j+1) (by omega)] at this
 ·intro h;obtain⟨k,hk,e⟩:=adw hs h;rw[List.length_map] at hk;rw[at' k (by omega),at' (k+1) hk] at e;exact⟨k,by omega,e⟩
theorem an5:∀ {n:Nat},n<=b.length->akD (ofR b n)/\∀ t,(∃ x,x∈ofR b n/\toS x=t)↔∃ i,i<n/\abX ((aby b i b.length).map toQ) t
 |0,_=>⟨akD.nil,λt=>by simp[ofR]⟩
 |n+1,hn=>by
  obtain⟨h1,h2⟩:=an5 (n:=n) (by omega);have hc:=(ajf hb (show n<b.length by omega) (Nat.le_refl _)).1;obtain⟨h3,h4⟩:=aeS hc (m:=(aby b n b.length).length-1) (out:=ofR b n) (by omega) h1;rw[ahR];refine⟨h3,λt=> ?_⟩;rw[h4,h2,amP hc];constructor
  ·rintro (⟨i,z1,z2⟩ | z)
   ·exact⟨i,by omega,z2⟩
   ·exact⟨n,by omega,z⟩
  ·rintro⟨i,z1,z2⟩;by_cases e:i=n
   ·subst e;exact .inr z2
   ·exact .inl ⟨i,by omega,z2⟩
theorem axy (hl:b.length<=20000):(ofR b b.length).map toS=ofP (b.map toS):=by
 obtain⟨h1,h2⟩:=an5 hb (Nat.le_refl b.length);refine (aiu ⟨List.Pairwise.map _ (λp q h=>h) h1.s,λt=> ?_⟩).symm;rw[ah7 (C:=λi=>(aby b i b.length).map toQ) (λi hi p=>by
  rw[List.length_map] at hi;rw[List.mem_map,apF hb hi]),List.mem_map,h2,List.length_map]
 exact⟨λh=>⟨hl,h⟩,λh=>h.2⟩
end
end Go.Proofs.YtcmplpkmfbhpdaaGreat
