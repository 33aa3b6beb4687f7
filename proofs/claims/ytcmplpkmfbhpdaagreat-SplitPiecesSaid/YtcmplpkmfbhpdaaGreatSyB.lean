import Derived.Test.YtcmplpkmfbhpdaaGreatSyA
namespace Go.Proofs.YtcmplpkmfbhpdaaGreat
open Go Go.RowKit
abbrev Run:=(Nat->Option aae)->List AV->Nat->Option Eff
def aed (ok:aaa->Value->Prop) (l:List AV) (vs:List Value):Prop:=l.length=vs.length/\∀ (i:Nat) (av:AV) (v:Value),l[i]? =some av->vs[i]? =some v->av.ok ok v
def abQ (P:Program) (f:FuncId):Bool:=
 match P.funcs[f]? with
 | some fn => fn.body.isSome && !(fn.name == "runtime.NumGoroutine")
 |none=>false
def aai (P:Program) (D:Prop) (B:Nat) (f:FuncId) (run:Run):Prop:=
 abQ P f=true/\∀ (b:Nat->Option aae) (avs:List AV) (t:Nat) (e:Eff),run b avs t=some e->aca e.ps->∀ (G:Nat->GV) (F:Nat->Prop) (w:World) (vs:List Value),ad6 B ⟨λ_=>none,b⟩ G F ⟨#[],[]⟩ w->aed (GOk G F w) avs vs->
  Calls P f vs.toArray w λen w'=>∃ v,en= .returned v/\∃ G' F',acJ D B ⟨λ_=>none,b⟩ (e.rc none [] []) G F w G' F' v w'
def anh (c:aaa) (d:Nat):Option aaa:=
 match c with
 | .own k o=>some (.own k (o+d))
 | .oel k sz i o=>some (.oel k sz i (o+d))
 | .el sz n e i o=>some (.el sz n e i (o+d))
 |_=>none
def anE (P:Program) (S:TypeId) (f:Nat):Option Nat:=
 match P.underlying S with
 |some (.struct fs)=>match fs[f]? with
  |some fd=>match P.info? fd.type with
   |some i=>match i.size with
    |0=>none
    |_+1=>some fd.offset
   |none=>none
  |none=>none
 |_=>none
def awq (P:Program) (S:TypeId) (f:Nat):Option (Bool × Nat × Nat):=
 match P.underlying S with
 |some (.struct fs)=>match fs[f]? with
  |some fd=>match tyI P fd.type with
   |some (ag,n)=>some (ag,fd.offset,n)
   |none=>none
  |none=>none
 |_=>none
def abb (P:Program) (T:TypeId):Option (TypeId × TypeInfo):=
 match P.underlying T with
 |some (.slice e)=>match P.info? e with
  |some i=>some (e,i)
  |none=>none
 |_=>none
def azm (P:Program) (T:TypeId):Option (Nat × Nat):=
 match P.underlying T with
 |some (.array n e)=>match P.info? e with
  |some i=>some (n,i.size)
  |none=>none
 |_=>none
def aeH (P:Program) (T:TypeId):Option (List aaa):=
 match P.info? T with
 |some i=>match i.zero with
  |some z=>match z.cells.toList.all (·.oneCell') with
   |true=>some (z.cells.toList.map afd)
   |false=>none
  |none=>none
 |none=>none
def bnd (R:FS) (d:Int):Option Operand->Option Int
 |none=>some d
 |some o=>match ab3 R o with
  |some (.s false [.v (.int _ a)])=>some a
  |_=>none
def azn (P:Program) (T:TypeId):Bool:=
 match P.underlying T with
 |some (.array n e)=>match P.underlying e,P.info? e with
  |some (.int .i64),some ie=>Nat.beq n 2 && Nat.beq ie.size 1 && !P.eqGuardType P.depth T
  |_,_=>false
 |_=>false
def amg:List aaa->Option (Int × Int)
 |[.v (.int .i64 a),.v (.int .i64 b)]=>some (a,b)
 |_=>none
def ayH (op:BinOp) (k:IntKind) (a b:Int):Option (Value × List Prop):=
 match op with
 | .add=>some (.int k (k.wrap (a+b)),[])
 | .sub=>some (.int k (k.wrap (a-b)),[])
 | .mul=>some (.int k (k.wrap (a*b)),[])
 | .quo=>some (.int k (k.wrap (a.tdiv b)),[b≠0])
 | .rem=>some (.int k (a.tmod b),[b≠0])
 | .and=>some (.int k (bits .and k a b),[])
 | .or=>some (.int k (bits .or k a b),[])
 | .eql=>some (.bool (a == b),[])
 | .neq=>some (.bool (a != b),[])
 | .lss=>some (.bool (decide (a<b)),[])
 | .leq=>some (.bool (decide (a<=b)),[])
 | .gtr=>some (.bool (decide (a>b)),[])
 | .geq=>some (.bool (decide (a>=b)),[])
 |_=>none
def amb (R:FS):List Operand->Option (List AV)
 |[]=>some []
 |x::l=>match ab3 R x with
  |some av=>match amb R l with
   |some avs=>some (av::avs)
   |none=>none
  |none=>none
def ahp (place:Nat->Option (Nat × Nat)) (l:List aaa):List (Nat × AV)->Option (List aaa)
 |[]=>some l
 |(i,.s _ c)::rest=>match place i with
  |none=>none
  |some (off,size)=>match Nat.beq c.length size && Nat.ble (off+size) l.length with
   |true=>ahp place (l.take off++c++l.drop (off+c.length)) rest
   |false=>none
 |_=>none
def parts (R:FS):List (Nat × Operand)->Option (List (Nat × AV))
 |[]=>some []
 |(i,x)::l=>match ab3 R x with
  |some av=>match parts R l with
   |some avs=>some ((i,av)::avs)
   |none=>none
  |none=>none
def agP (sz:Nat):Nat->List aaa->List (List aaa)
 |0,_=>[]
 |n+1,l=>l.take sz::agP sz n (l.drop sz)
def amc (T:TypeId) (l:List aaa):Option Nat->Option Eff
 |some t=>match Nat.beq T 213 || (awJ l).any (Nat.beq t) with
  |true=>none
  |false=>some { val:=some (.s false [.own t 0]),set:=[(t,.st T l)],nws:=[t] }
 |none=>none
def aaa.isClo:aaa->Bool
 | .clo .. =>true
 |_=>false
def akZ:List AV->Option (List aaa)
 |[]=>some []
 | .s false [c]::l=>match c.isClo with
  |true=>none
  |false=>match akZ l with
   |some cs=>some (c::cs)
   |none=>none
 |_::_=>none
def acD (c:aaa):Option Eff:=some { val:=some (.s false [c]) }
def akG (k T sz m:Nat) (e:Nat->List aaa) (nms:List Nat) (i off:Nat) (ly:List aaa):Option Eff:=
 match ly.all λc=> !c.isClo with
 |true=>some { set:=[(k,.rowN T sz m (λj=>if j=i then (e i).take off++ly++(e i).drop (off+ly.length) else e j) (ly.flatMap aaa.nm0++nms))],ps:=[i<m] }
 |false=>none
def ajZ (P:Program) (R:FS) (T:TypeId) (x y:Operand):Option Eff:=
 match tyI P T,ab3 R x,ab3 R y with
 |some (_,n),some (.s false [.own k off]),some (.s _ ly)=>match R.b k with
  |some (.st T' l)=>match Nat.beq ly.length n && Nat.ble (off+ly.length) l.length with
   |true=>some { set:=[(k,.st T' (l.take off++ly++l.drop (off+ly.length)))] }
   |false=>none
  |_=>none
 |some (_,n),some (.s false [.oel k sz i off]),some (.s _ ly)=>match R.b k with
  |some (.row T' sz' m e)=>match Nat.beq ly.length n && Nat.ble (off+ly.length) sz && Nat.beq sz sz' with
   |true=>match ly.all aaa.cl with
    |true=>some { set:=[(k,.row T' sz' m λj=>if j=i then (e i).take off++ly++(e i).drop (off+ly.length) else e j)],ps:=[i<m] }
    |false=>akG k T' sz' m e [] i off ly
   |false=>none
  |some (.rowN T' sz' m e nms)=>match Nat.beq ly.length n && Nat.ble (off+ly.length) sz && Nat.beq sz sz' with
   |true=>akG k T' sz' m e nms i off ly
   |false=>none
  |_=>none
 |_,_,_=>none
def atn (P:Program) (R:FS) (T:TypeId) (x i:Operand):Option Eff:=
 match ab3 R i with
 |some (.s false [.v (.int _ z)])=>match ab3 R x with
  |some (.s false [.hd k])=>match R.b k,abb P T with
   |some (.row _ sz n _),some (_,ie)=>match Nat.beq ie.size sz with
    |true=>some { val:=some (.s false [.oel k sz z.toNat 0]),ps:=[0<=z/\z<n] }
    |false=>none
   |some (.rowN _ sz n _ _),some (_,ie)=>match Nat.beq ie.size sz with
    |true=>some { val:=some (.s false [.oel k sz z.toNat 0]),ps:=[0<=z/\z<n] }
    |false=>none
   |_,_=>none
  |some (.s false [.row sz n e])=>match abb P T with
   |some (_,ie)=>match Nat.beq ie.size sz with
    |true=>some { val:=some (.s false [.el sz n e z.toNat 0]),ps:=[0<=z/\z<n] }
    |false=>none
   |_=>none
  |some (.s false [.pt k sz a n])=>match abb P T with
   |some (_,ie)=>match Nat.beq ie.size sz with
    |true=>some { val:=some (.s false [.oel k sz (a+z.toNat) 0]),ps:=[0<=z/\z<n] }
    |false=>none
   |_=>none
  |some (.s false [.own k off])=>match azm P T with
   |some (n,sz)=>some { val:=some (.s false [.own k (off+z.toNat*sz)]),ps:=[0<=z/\z<n] }
   |none=>none
  |_=>none
 |_=>none
def has:List Nat->Nat->Bool
 |[],_=>false
 |a::l,k=>match Nat.beq a k with
  |true=>true
  |false=>has l k
def ahQ (P:Program) (R:FS) (T:TypeId) (s x:Operand) (dst:Option Nat):Option Eff:=
 match abb P T,dst with
 |some (eT,ie),some t=>match ie.zero with
  |some z=>match Nat.beq eT 213 || Nat.beq ie.size 0 || Nat.beq ie.bytes 0 || !Nat.beq z.cells.size ie.size with
   |true=>none
   |false=>
    let src:Option (Nat × (Nat->List aaa)):=match ab3 R x with
     |some (.s false [.hd k2])=>match R.b k2 with
      |some (.row _ sz2 n2 e2)=>match Nat.beq sz2 ie.size with
       |true=>some (n2,e2)
       |false=>none
      |_=>none
     |some (.s false [.row sz2 n2 e2])=>match Nat.beq sz2 ie.size with
      |true=>some (n2,e2)
      |false=>none
     |_=>none
    match src with
    |none=>none
    |some (n2,e2)=>match ab3 R s with
     |some (.s false [.hd k])=>match R.b k with
      |some (.row eT' sz n e)=>match Nat.beq sz ie.size && Nat.beq eT' eT && !Nat.beq k t with
       |true=>some { val:=some (.s false [.hd t]),set:=[(t,.row eT sz (n+n2) λj=>if j<n then e j else e2 (j-n))],nws:=[t],del:=[k],ps:=[0<=n2/\(n+n2)*ie.bytes<=140737488355328] }
       |false=>none
      |_=>none
     |some (.s false [.v (.slice none 0 0)])=>some { val:=some (.s false [.hd t]),set:=[(t,.row eT ie.size n2 e2)],nws:=[t],ps:=[0<=n2/\n2*ie.bytes<=140737488355328] }
     |some (.s false [.fh k i x])=>match R.b k with
      |some (.fam eT' sz n hc len e nms)=>match Nat.beq sz ie.size && Nat.beq eT' eT && !Nat.beq k t && !has nms t with
       |true=>some { val:=some (.s false [.hd t]),set:=[(k,.fam eT sz n (λj=>if j=i then some (.hd t) else hc j) (λj=>if j=i then len i+n2 else len j) (λj q=>if j=i then (if q<len i then e i q else e2 (q-len i)) else e j q) (t::nms)),(t,.gho)],nws:=[t],ps:=[i<n/\hc i=some (.fh k i x),0<n2/\(len i+n2)*ie.bytes<=140737488355328] }
       |false=>none
      |_=>none
     |_=>none
  |none=>none
 |_,_=>none
def ak0:aaa->Option Bool
 | .t=>some true
 | .f=>some false
 | .v (.bool b)=>some b
 |_=>none
def ap2:aaa->Option ByteArray
 | .v (.string s)=>some s
 |_=>none
def aon (P:Program) (T:TypeId):Bool:=match P.underlying T with
 |some .bool=>true
 |_=>false
def atl (P:Program) (op:BinOp) (T:TypeId) (c c':aaa):Option Eff:=
 match ak0 c,ak0 c' with
 |some a,some b=>match aon P T with
  |true=>match op with
   | .eql=>acD (.v (.bool (a == b)))
   | .neq=>acD (.v (.bool !(a == b)))
   |_=>none
  |false=>none
 |_,_=>match ap2 c,ap2 c' with
  |some a,some b=>match op with
   | .eql=>acD (.v (.bool (a.toList == b.toList)))
   | .neq=>acD (.v (.bool !(a.toList == b.toList)))
   | .add=>some { val:=some (.s false [.v (.string (a++b))]),ps:=[((a.size+b.size:Nat):Int)<=9223372036854775807] }
   |_=>none
  |_,_=>none
def afE (P:Program) (T:TypeId):Bool:=match P.underlying T with
 |some .string=>true
 |_=>false
def aj0 (P:Program) (R:FS) (T:TypeId) (x:Operand):Option Eff:=
 match ab3 R x with
 |some (.s false [.pt k sz a n])=>match R.b k,abb P T with
  |some (.row T' sz' m e),some (eT,ie)=>match aeH P eT with
   |some z=>match Nat.beq sz sz' && Nat.beq ie.size sz && Nat.beq z.length sz && z.all aaa.cl with
    |true=>some { set:=[(k,.row T' sz' m λj=>if a<=j/\j<a+n then z else e j)],ps:=[a+n<=m] }
    |false=>none
   |none=>none
  |_,_=>none
 |_=>none
def atm (P:Program) (R:FS) (T:TypeId) (x:Operand):Option Eff:=
 match ab3 R x with
 |some (.s false [.hd k])=>match R.b k,abb P T with
  |some (.row _ _ n _),some _=>acD (.v (.int .i64 n))
  |some (.rowN _ _ n _ _),some _=>acD (.v (.int .i64 n))
  |_,_=>none
 |some (.s false [.row _ n _])=>match abb P T with
  |some _=>acD (.v (.int .i64 n))
  |none=>none
 |some (.s false [.v (.slice none 0 0)])=>match abb P T with
  |some _=>acD (.v (.int .i64 0))
  |none=>none
 |some (.s false [.pt _ _ _ n])=>match abb P T with
  |some _=>acD (.v (.int .i64 n))
  |none=>none
 |some (.s false [.v (.string s)])=>match afE P T with
  |true=>some { val:=some (.s false [.v (.int .i64 s.size)]) }
  |false=>none
 |some (.s false [.z x _ 0])=>match abb P T with
  |some _=>acD (.v (.int .i64 (limbs x.natAbs).length))
  |none=>none
 |some (.s false [.m x])=>match abb P T with
  |some _=>acD (.v (.int .i64 (Dec.limbs x).length))
  |none=>none
 |_=>none
def afF:List aaa->Int
 |[.v (.int .u8 x)]=>x
 |_=>0
def amU (n:Nat) (e:Nat->List aaa):ByteArray:=((List.range n).map λi=>afF (e i)).foldl (λr x=>r.push (UInt8.ofNat x.toNat)) ByteArray.empty
def ajx (s:ByteArray) (i:Nat):Int:=if h:i<s.size then ((s[i]'h).toNat:Int) else 0
def ajY (P:Program) (R:FS) (T:TypeId) (x i:Operand):Option Eff:=
 match afE P T,ab3 R x,ab3 R i with
 |true,some (.s false [.v (.string s)]),some (.s false [.v (.int _ a)])=>some { val:=some (.s false [.v (.int .u8 (ajx s a.toNat))]),ps:=[0<=a/\a<s.size] }
 |_,_,_=>none
def ajX (R:FS) (x:Operand) (lo hi:Option Operand):Option Eff:=
 match ab3 R x with
 |some (.s false [.v (.string s)])=>match bnd R 0 lo,bnd R s.size hi with
  |some a,some b=>some { val:=some (.s false [.v (.string (s.extract a.toNat b.toNat))]),ps:=[0<=a/\a<=b/\b<=s.size] }
  |_,_=>none
 |_=>none
def aih:Value->Value->Bool
 | .string a,.string b=>b == a
 | .int _ a,.int _ b=>b == a
 |_,_=>false
def acu (key:Nat->Value) (n:Nat) (x:Value):Nat:=(List.range n).findIdx λi=>aih (key i) x
def KD.has:KD->Value->Bool
 | .str,.string _=>true
 | .int k,.int k' _=>decide (k=k')
 |_,_=>false
def aAn (P:Program) (K:TypeId):Option KD:=
 match P.underlying K with
 |some .string=>some .str
 |some (.int k)=>some (.int k)
 |_=>none
def ap1:Value->Option (Bool × List aaa)
 | .agg cs=>match cs.toList.all (·.oneCell') with
  |true=>some (true,cs.toList.map afd)
  |false=>none
 |v=>match v.oneCell' with
  |true=>some (false,[afd v])
  |false=>none
def avZ (P:Program) (T:TypeId):Option (KD × Value × Bool × List aaa):=
 match P.underlying T with
 |some (.map K E)=>match aAn P K,P.info? E with
  |some kd,some i=>match i.zero with
   |some z=>match ap1 z with
    |some (ag,zl)=>some (kd,z,ag,zl)
    |none=>none
   |none=>none
  |_,_=>none
 |_=>none
def ahP (P:Program) (R:FS) (T:TypeId) (x i:Operand):Option Eff:=
 match avZ P T,ab3 R x,ab3 R i with
 |some (kd,z,_,_),some (.s false [.hd k]),some (.s false [.v u])=>match R.b k with
  |some (.mp kd' z' n key ag val _)=>match decide (kd=kd') && kd.has u with
   |true=>some { val:=some (.s ag (val (acu key n u))),ps:=[z'=z] }
   |false=>none
  |_=>none
 |_,_,_=>none
def ahO (P:Program) (R:FS) (T:TypeId) (m x y:Operand):Option Eff:=
 match avZ P T,ab3 R m,ab3 R x,ab3 R y with
 |some (kd,_,_,_),some (.s false [.hd k]),some (.s false [.v u]),some (.s ag' l)=>match R.b k with
  |some (.mp kd' z' n key ag val nms)=>match decide (kd=kd') && (kd.has u && (decide (ag=ag') && l.all λc=> !c.isClo)) with
   |true=>some { set:=[(k,.mp kd' z' (if acu key n u<n then n else n+1) (λi=>if i=acu key n u then u else key i) ag (λi=>if i=acu key n u then l else if n<i then val n else val i) (l.flatMap aaa.nm0++nms))] }
   |false=>none
  |_=>none
 |_,_,_,_=>none
def af7 (P:Program) (T:TypeId) (dst:Option Nat):Option Eff:=
 match avZ P T,dst with
 |some (kd,z,ag,zl),some t=>some { val:=some (.s false [.hd t]),set:=[(t,.mp kd z 0 (λ_=> .nilIface) ag (λ_=>zl) [])],nws:=[t] }
 |_,_=>none
def opx (P:Program) (Γ : FuncId->Option Run) (R:FS) (o:Oper):Option Eff:=
 match o.op with
 | .move x | .assign x=>match ab3 R x with
  |some av=>some { val:=some av }
  |none=>none
 | .pick c a b=>match ab3 R c with
  |some (.s false [.t])=>match ab3 R a with
   |some av=>some { val:=some av }
   |none=>none
  |some (.s false [.f])=>match ab3 R b with
   |some av=>some { val:=some av }
   |none=>none
  |_=>none
 | .alloc T=>match aeH P T with
  |some l=>amc T l o.dst
  |none=>none
 | .box T x=>match ab3 R x with
  |some (.s _ l)=>amc T l o.dst
  |_=>none
 | .load T x=>match tyI P T,ab3 R x with
  |some (ag,n),some (.s false [c])=>match adX R c n with
   |some (l,ps)=>match Nat.beq l.length n && (ag || Nat.beq n 1) with
    |true=>some { val:=some (.s ag l),ps:=ps }
    |false=>none
   |none=>none
  |_,_=>none
 | .store T x y=>ajZ P R T x y
 | .fieldAddr S x f=>match anE P S f,ab3 R x with
  |some d,some (.s false [c])=>match anh c d with
   |some c'=>acD c'
   |none=>none
  |_,_=>none
 | .indexAddr T x i=>atn P R T x i
 | .binOp op T x y _=>match ab3 R x,ab3 R y with
  |some (.s false [.v (.int k a)]),some (.s false [.v (.int k' b)])=>match decide (k=k') with
   |true=>match ayH op k a b with
    |some (v,ps)=>some { val:=some (.s false [.v v]),ps:=ps }
    |none=>none
   |false=>none
  |some (.s true l),some (.s true l')=>match amg l,amg l',azn P T with
   |some (a,b),some (a',b'),true=>match op with
    | .eql=>acD (.v (.bool (a == a' && b == b')))
    | .neq=>acD (.v (.bool !(a == a' && b == b')))
    |_=>none
   |_,_,_=>none
  |some (.s false [c]),some (.s false [c'])=>atl P op T c c'
  |_,_=>none
 | .convert S T x=>match ab3 R x,P.underlying S,P.underlying T with
  |some (.s false [.v (.int _ a)]),some (.int _),some (.int k)=>acD (.v (.int k (k.wrap a)))
  |some (.s false [.hd k]),some (.slice eT),some .string=>match R.b k,P.underlying eT with
   |some (.row _ 1 n e),some (.int .u8)=>some { val:=some (.s false [.v (.string (amU n e))]),ps:=[∀ i,i<n->∃ x,e i=[.v (.int .u8 x)]] }
   |_,_=>none
  |_,_,_=>none
 | .unOp .not _ x=>match ab3 R x with
  |some (.s false [.v (.bool b)])=>acD (.v (.bool !b))
  |some (.s false [.t])=>acD .f
  |some (.s false [.f])=>acD .t
  |_=>none
 | .unOp .neg _ x=>match ab3 R x with
  |some (.s false [.v (.int k a)])=>acD (.v (.int k (k.wrap (0-a))))
  |_=>none
 | .extract x i=>match ab3 R x with
  |some (.tup l)=>match l[i]? with
   |some (ag,c)=>some { val:=some (.s ag c) }
   |none=>none
  |_=>none
 | .field S x f=>match awq P S f,ab3 R x with
  |some (ag,off,n),some (.s true l)=>match Nat.beq ((l.drop off).take n).length n && (ag || Nat.beq n 1) with
   |true=>some { val:=some (.s ag ((l.drop off).take n)) }
   |false=>none
  |_,_=>none
 | .build T ps=>match aeH P T,P.underlying T,parts R ps.toList with
  |some z,some (.struct fs),some avs=>match ahp (λi=>match fs[i]? with
    |some f=>match P.info? f.type with
     |some ti=>some (f.offset,ti.size)
     |none=>none
    |none=>none) z avs,fs.toList.all λf=>(P.info? f.type).isSome with
   |some l,true=>some { val:=some (.s true l) }
   |_,_=>none
  |some z,some (.array _ e),some avs=>match P.info? e with
   |some ie=>match ahp (λi=>some (i*ie.size,ie.size)) z avs with
    |some l=>some { val:=some (.s true l) }
    |none=>none
   |none=>none
  |_,_,_=>none
 | .buildSlice T len ps=>match abb P T,parts R ps.toList,o.dst with
  |some (eT,ie),some avs,some t=>match aeH P eT with
   |some z=>match ahp (λi=>some (i*ie.size,ie.size)) ((List.replicate len z).flatten) avs with
    |some l=>match Nat.ble (len*ie.size) 16777216 && Nat.beq z.length ie.size && !Nat.beq ie.size 0 && Nat.beq l.length (len*ie.size) && !Nat.beq eT 213 && l.all aaa.cl with
     |true=>some { val:=some (.s false [.hd t]),set:=[(t,.row eT ie.size len λi=>(agP ie.size len l).getD i [])],nws:=[t] }
     |false=>none
    |none=>none
   |none=>none
  |_,_,_=>none
 | .makeSlice T x y=>match ab3 R x,ab3 R y,abb P T,o.dst with
  |some (.s false [.v (.int _ a)]),some (.s false [.v (.int _ b)]),some (eT,ie),some t=>match aeH P eT with
   |some z=>match Nat.beq z.length ie.size && !Nat.beq ie.size 0 && !Nat.beq eT 213 && z.all aaa.cl with
    |true=>some { val:=some (.s false [.hd t]),set:=[(t,.row eT ie.size a.toNat λ_=>z)],nws:=[t],ps:=[a=b,0<=a,ie.bytes*a.toNat<=281474976710656/\a.toNat<=9223372036854775807] }
    |false=>none
   |none=>none
  |_,_,_,_=>none
 | .index T x i=>ajY P R T x i
 | .makeMap T none=>af7 P T o.dst
 | .lookup T x i false=>ahP P R T x i
 | .mapUpdate T m x y=>ahO P R T m x y
 | .slice T x lo hi none=>match afE P T with
  |true=>ajX R x lo hi
  |false=>match ab3 R x,abb P T with
   |some (.s false [.row sz n e]),some (_,ie)=>match bnd R 0 lo,bnd R n hi,Nat.beq ie.size sz with
    |some a,some b,true=>some { val:=some (.s false [.row sz (b.toNat-a.toNat) λi=>e (i+a.toNat)]),ps:=[0<=a/\a<=b/\b<=n] }
    |_,_,_=>none
   |some (.s false [.hd k]),some (_,ie)=>match R.b k with
    |some (.row _ sz n _)=>match bnd R 0 lo,bnd R n hi,Nat.beq ie.size sz with
     |some a,some b,true=>some { val:=some (.s false [.pt k sz a.toNat (b.toNat-a.toNat)]),ps:=[0<=a/\a<=b/\b<=n] }
     |_,_,_=>none
    |_=>none
   |_,_=>none
 | .makeFunc (.func f) first caps=>match first.size,amb R caps.toList with
  |0,some avs=>match akZ avs with
   |some cs=>acD (.clo f cs)
   |none=>none
  |_,_=>none
 | .call { callee:= .builtin .len,args,argTypes } =>match args.toList,argTypes.toList with
  |[x],[T]=>atm P R T x
  |_,_=>none
 | .call { callee:= .builtin .clear,args,argTypes } =>match args.toList,argTypes.toList with
  |[x],[T]=>aj0 P R T x
  |_,_=>none
 | .call { callee:= .builtin .append,args,argTypes } =>match args.toList,argTypes.toList with
  |[s,x],[T,T']=>match Nat.beq T T' with
   |true=>ahQ P R T s x o.dst
   |false=>none
  |_,_=>none
 | .call { callee:= .value x,args,.. } =>match ab3 R x,amb R args.toList with
  |some (.s false [.clo f caps]),some avs=>match Γ f with
   |some run=>run R.b (avs++caps.map λc=> .s false [c]) (o.dst.getD 0)
   |none=>none
  |_,_=>none
 |_=>none
end Go.Proofs.YtcmplpkmfbhpdaaGreat
namespace Go.Proofs.YtcmplpkmfbhpdaaGreat
open Go Go.RowKit
section
variable {P:Program} {D:Prop} {B:Nat} {R:FS} {G:Nat->GV} {F:Nat->Prop} {a:Act} {w:World} {o:Oper} {e:Eff} {rs br:List Nat}
theorem aas {s:Sem Value} {v:Value} {w':World} (h:s.run P w= .ok v w'):(do pure (Next.value (<- s)):Sem Next).run P w= .ok (.value v) w':=by
 simp[h]
theorem aaG {ok:aaa->Value->Prop} {c:aaa} {v:Value} (h:ok c v):AV.ok ok (.s false [c]) v:=⟨c,rfl,h⟩
theorem aal {ok:aaa->Value->Prop} {c:aaa} {v:Value} (h:AV.ok ok (.s false [c]) v):ok c v:=by
 obtain⟨c',e1,h1⟩:=h;cases e1;exact h1
theorem aaz (hs:e.set=[]) (h:∀ (G:Nat->GV) (F:Nat->Prop) (a:Act) (w:World),ad6 B R G F a w->∃ v,(execOp a.eval o).run P w= .ok (.value v) w/\∀ av,e.val=some av->av.ok (GOk G F w) v):ada P D B o R (e.rc o.dst rs br):=by
 intro G F a w V;obtain⟨v,h1,h2⟩:=h G F a w V;exact abC h1 ⟨G,F,acJ.pure V hs h2⟩
theorem ara {l:List Nat} {t:Nat} (h:l.any (Nat.beq t)=false):t ∉ l:=λhm=>by
 rw[List.any_eq_false] at h;exact h t hm (Nat.beq_refl t)
theorem asj {T:TypeId} {l:List aaa} (h:amc T l o.dst=some e) (run:∀ (G:Nat->GV) (F:Nat->Prop) (a:Act) (w:World),ad6 B R G F a w->∃ cs:List Value,abu (GOk G F w) l cs/\(execOp a.eval o).run P w= .ok (.value (.pointer (some ⟨w.heap.size,0,none⟩))) (w.alloc (.cells cs.toArray T))):ada P D B o R (e.rc o.dst rs br):=by
 unfold amc at h;split at h
 ·rename_i t ht;split at h
  ·cases h
  ·rename_i hc;cases h;rw[Bool.or_eq_false_iff] at hc;intro G F a w V;obtain⟨cs,h1,h2⟩:=run G F a w V;exact abC h2 ⟨_,F,acJ.mkSt V (aaY hc.1) h1 (ara hc.2) rfl rfl rfl⟩
 ·cases h
theorem adz {T:TypeId} {l:List aaa} (h:aeH P T=some l):∃ i z,P.info? T=some i/\i.zero=some z/\l.length=z.cells.toList.length/\∀ (G:Nat->GV) (F:Nat->Prop) (w:World),abu (GOk G F w) l z.cells.toList:=by
 unfold aeH at h;split at h
 ·rename_i i hi;split at h
  ·rename_i z hz;split at h
   ·rename_i hall;cases h;refine⟨i,z,hi,hz,by simp,λG F w=>⟨by simp,λj c u h1 h2=> ?_⟩⟩;rw[List.getElem?_map,h2] at h1;cases h1;exact afr (List.all_eq_true.1 hall u (List.mem_of_getElem? h2))
   ·cases h
  ·cases h
 ·cases h
theorem aq8 {T:TypeId} {l:List aaa} (ho:o.op= .alloc T) (hz:aeH P T=some l) (h:amc T l o.dst=some e):ada P D B o R (e.rc o.dst rs br):=by
 obtain⟨i,z,h1,h2,_,h3⟩:=adz hz;refine asj h λG F a w V=>⟨z.cells.toList,h3 G F w,?_⟩
 simp only[execOp,ho];refine aas ?_;simp only[Instr.alloc,zeroValue,typeInfo,Sem.run_bind,run_program,Result.andThen_ok,h1,h2,Sem.run_pure,newVar,newRow,run_newObj,Array.toArray_toList];rfl
theorem axu {T:TypeId} {x:Operand} {ag:Bool} {l:List aaa} (ho:o.op= .box T x) (hx:ab3 R x=some (.s ag l)) (h:amc T l o.dst=some e):ada P D B o R (e.rc o.dst rs br):=by
 refine asj h λG F a w V=>⟨(a.eval x).cells.toList,SOk.cells (λ_ _ hk=>hk.one) (opnd_ok V hx),?_⟩
 simp only[execOp,ho];refine aas ?_;simp only[Instr.box,Sem.run_bind,Result.andThen_ok,Sem.run_pure,newVar,newRow,run_newObj,Array.toArray_toList];rfl
theorem aux {T:TypeId} {x:Operand} {ag:Bool} {n:Nat} {c:aaa} {l:List aaa} {ps:List Prop} (ho:o.op= .load T x) (ht:tyI P T=some (ag,n)) (hx:ab3 R x=some (.s false [c])) (hc:adX R c n=some (l,ps))
  (hn:(Nat.beq l.length n && (ag || Nat.beq n 1))=true) (hp:aca ps) (h:e= { val:=some (.s ag l),ps:=ps }):ada P D B o R (e.rc o.dst rs br):=by
 subst h;rw[Bool.and_eq_true,Bool.or_eq_true] at hn;refine aaz rfl λG F a w V=> ?_;obtain⟨g,off,cs,e1,h1,h2⟩:=ahd V hc hp (aal (opnd_ok V hx));have hlen:cs.length=n:=by rw[<- h2.1];exact aaq hn.1
 refine⟨if ag then .agg cs.toArray else cs.getD 0 undef,?_,λav hav=> ?_⟩
 ·simp only[execOp,ho];rw[e1];exact aas (aiF ht hlen h1 λhf=>hn.2.elim (λh=>by rw[hf] at h;cases h) aaq)
 ·cases hav;cases ag with
  |true=>exact⟨cs,rfl,h2⟩
  |false=>
   have:n=1:=hn.2.elim (λh=>by cases h) aaq;subst this;match cs,l,hlen,h2 with
   |[u],[c'],_,h2=>exact⟨c',rfl,h2.2 0 c' u rfl rfl⟩
   |[u],[],_,h2=>cases h2.1
   |[u],_::_::_,_,h2=>cases h2.1
theorem adZ {T:TypeId} {ag:Bool} {n g off:Nat} {v:Value} {T':TypeId} {cur:Array Value} (ht:tyI P T=some (ag,n)) (hg:w.heap[g]? =some (.cells cur T' (0,0))) (hn:v.cells.toList.length=n) (hfit:off+v.cells.toList.length<=cur.size) (h1:∀ u∈v.cells.toList,u.oneCell'=true) :
  (Instr.storeAt T (.pointer (some ⟨g,off,none⟩)) v).run P w= .ok () (w.setRow g (cur.toList.take off++v.cells.toList++cur.toList.drop (off+v.cells.toList.length)).toArray):=by
 obtain⟨_,e2⟩:=aeP (w:=w) ht;have hs:=run_storeCells_at (P:=P) g off T' v.cells.toList 0 cur w hg (by simpa using hfit) h1;simp only[Nat.add_zero] at hs;subst hn;simp[Instr.storeAt,Instr.sureAddr,storeVar,e2,hs]
theorem aq2 {T:TypeId} {x y:Operand} (ho:o.op= .store T x y) (h:ajZ P R T x y=some e) (hp:aca e.ps):ada P D B o R (e.rc o.dst rs br):=by
 unfold ajZ at h;split at h
 ·rename_i ag n k off ag' ly ht hx hy;split at h
  ·rename_i T' l hb;split at h
   ·rename_i hc;cases h;rw[Bool.and_eq_true] at hc;intro G F a w V;have hyo:=SOk.cells (λ_ _ hk=>hk.one) (opnd_ok V hy);obtain⟨g,e1,e2⟩:=(aal (opnd_ok V hx):GOk G F w (.own k off) _)
    obtain⟨g',e3,cs,hB,hl,hpost⟩:=acJ.setSt (v:=undef) (r:=Eff.rc { set:=[(k,.st T' (l.take off++ly++l.drop (off+ly.length)))] } o.dst rs br) V hb hyo (Nat.le_of_ble_eq_true hc.2) rfl rfl;rw[e1] at e3;cases e3;refine aht ?_ ⟨G,F,hpost⟩;simp only[execOp,ho,e2];have:=adZ (P:=P) (v:=a.eval y) (off:=off) ht hB (by rw[<- hyo.1];exact aaq hc.1) (by rw[<- hyo.1];simp only[List.size_toArray];rw[hl];exact Nat.le_of_ble_eq_true hc.2) hyo.one;simp only[Sem.run_bind,this];rfl
   ·cases h
  ·cases h
 ·rename_i ag n k sz i off ag' ly ht hx hy;have genN:∀ (T' m:Nat) (el:Nat->List aaa) (nms:List Nat) (b0:aae),R.b k=some b0->((b0= .row T' sz m el/\nms=[])\/b0= .rowN T' sz m el nms)->Nat.beq ly.length n=true->Nat.ble (off+ly.length) sz=true->akG k T' sz m el nms i off ly=some e->ada P D B o R (e.rc o.dst rs br):=by
   intro T' m el nms b0 hb hb0 hc1 hc2 h;unfold akG at h;split at h
   ·rename_i hcl;cases h;intro G F a w V;have hyo:=SOk.cells (λ_ _ hk=>hk.one) (opnd_ok V hy);have hy0:abu (abw G F w) ly (a.eval y).cells.toList:=hyo.mono λc hcm v hv=>by
     have h1:=List.all_eq_true.1 hcl c hcm;cases c with
     |clo=>cases h1
     |_=>simpa only[GOk] using hv
    obtain⟨g,n',c',e1,e2⟩:=(aal (opnd_ok V hx):GOk G F w (.oel k sz i off) _)
    obtain⟨g',c'',e3,cur,hB,hl,hpost⟩:=acJ.setRwN (v:=undef) (r:=Eff.rc { set:=[(k,.rowN T' sz m (λj=>if j=i then (el i).take off++ly++(el i).drop (off+ly.length) else el j) (ly.flatMap aaa.nm0++nms))],ps:=[i<m] } o.dst rs br) V hb hb0 hp.1 hy0 (Nat.le_of_ble_eq_true hc2) rfl rfl;rw[e1] at e3;cases e3;refine aht ?_ ⟨G,F,hpost⟩;simp only[execOp,ho,e2];have:=adZ (P:=P) (v:=a.eval y) (off:=i*sz+off) ht hB (by rw[<- hyo.1];exact aaq hc1) hl hyo.one;simp only[Sem.run_bind,this];rfl
   ·cases h
  split at h
  ·rename_i T' sz' m el hb;split at h
   ·rename_i hc;simp only[Bool.and_eq_true] at hc;obtain⟨⟨hc1,hc2⟩,hc3⟩:=hc;have:=aaq hc3;subst this;split at h
    ·rename_i hc4;cases h;intro G F a w V;have hyo:=SOk.cells (λ_ _ hk=>hk.one) (opnd_ok V hy);obtain⟨g,n',c',e1,e2⟩:=(aal (opnd_ok V hx):GOk G F w (.oel k sz i off) _)
     obtain⟨g',c'',e3,cur,hB,hl,hpost⟩:=acJ.setRw (v:=undef) (r:=Eff.rc { set:=[(k,.row T' sz m λj=>if j=i then (el i).take off++ly++(el i).drop (off+ly.length) else el j)],ps:=[i<m] } o.dst rs br) V hb hp.1 hyo hc4 (Nat.le_of_ble_eq_true hc2) rfl rfl;rw[e1] at e3;cases e3;refine aht ?_ ⟨G,F,hpost⟩;simp only[execOp,ho,e2];have:=adZ (P:=P) (v:=a.eval y) (off:=i*sz+off) ht hB (by rw[<- hyo.1];exact aaq hc1) hl hyo.one;simp only[Sem.run_bind,this];rfl
    ·exact genN T' m el [] _ hb (.inl ⟨rfl,rfl⟩) hc1 hc2 h
   ·cases h
  ·rename_i T' sz' m el nms hb;split at h
   ·rename_i hc;simp only[Bool.and_eq_true] at hc;obtain⟨⟨hc1,hc2⟩,hc3⟩:=hc;have:=aaq hc3;subst this;exact genN T' m el nms _ hb (.inr rfl) hc1 hc2 h
   ·cases h
  ·cases h
 ·cases h
theorem aoR {c c':aaa} {d:Nat} {v:Value} (h:anh c d=some c') (hv:GOk G F w c v):∃ g off,v= .pointer (some ⟨g,off,none⟩)/\GOk G F w c' (.pointer (some ⟨g,off+d,none⟩)):=by
 cases c with
 |own k off=>
  cases h;obtain⟨g,e1,rfl⟩:=hv;exact⟨g,off,rfl,g,e1,rfl⟩
 |oel k sz i off=>
  cases h;obtain⟨g,n,c,e1,rfl⟩:=hv;exact⟨g,_,rfl,g,n,c,e1,by rw[Nat.add_assoc]⟩
 |el sz n e i off=>
  cases h;have hv':COk F w (.el sz n e i off) v:=hv;cases hv' with
  |el vals hF hk hl hc ho=>exact⟨_,_,rfl,by rw[Nat.add_assoc];exact COk.el vals hF hk hl hc ho⟩
 |_=>cases h
theorem aq5 {S:TypeId} {x:Operand} {f d:Nat} {c c':aaa} (ho:o.op= .fieldAddr S x f) (hf:anE P S f=some d) (hx:ab3 R x=some (.s false [c])) (hs:anh c d=some c') (h:acD c'=some e):ada P D B o R (e.rc o.dst rs br):=by
 cases h;refine aaz rfl λG F a w V=> ?_;obtain⟨g,off,e1,h1⟩:=aoR hs (aal (opnd_ok V hx));refine⟨.pointer (some ⟨g,off+d,none⟩),?_,λav hav=>by cases hav;exact aaG h1⟩;unfold anE at hf;split at hf
 ·rename_i fs hu;split at hf
  ·rename_i fd hfd;split at hf
   ·rename_i i hi;split at hf
    ·cases hf
    ·rename_i n hn;cases hf;simp only[execOp,ho,e1];refine aas ?_;simp[Instr.fieldAt,run_underlying hu,hfd,Instr.sureAddr,fieldPlace,sizeOf,typeInfo,hi,hn,Addr.add_lit]
   ·cases hf
  ·cases hf
 ·cases hf
theorem afh {T eT:TypeId} {ie:TypeInfo} {g off len cap:Nat} {k:IntKind} {z:Int} (h:abb P T=some (eT,ie)) (h0:0<=z/\z<len):(Instr.indexAt T (.slice (some ⟨g,off,none⟩) len cap) (.int k z)).run P w= .ok (.pointer (some ⟨g,off+z.toNat*ie.size,none⟩)) w:=by
 unfold abb at h;split at h
 ·rename_i e hu;split at h
  ·rename_i i hi;cases h;simp[Instr.indexAt,asIntOf,run_underlying hu,h0,sizeOf,typeInfo,hi,Addr.add_lit]
  ·cases h
 ·cases h
theorem aqE {T:TypeId} {n sz g off:Nat} {k:IntKind} {z:Int} (h:azm P T=some (n,sz)) (h0:0<=z/\z<n):(Instr.indexAt T (.pointer (some ⟨g,off,none⟩)) (.int k z)).run P w= .ok (.pointer (some ⟨g,off+z.toNat*sz,none⟩)) w:=by
 unfold azm at h;split at h
 ·rename_i n e hu;split at h
  ·rename_i i hi;cases h;simp[Instr.indexAt,asIntOf,run_underlying hu,Instr.sureAddr,h0,sizeOf,typeInfo,hi,Addr.add_lit]
  ·cases h
 ·cases h
theorem abm {x u:Value} (h:GOk G F w (.v x) u):u=x/\x.oneCell'=true:=by
 have h':COk F w (.v x) u:=h;exact match h' with
 | .v _ h2=>⟨rfl,h2⟩
theorem axt {T:TypeId} {x i:Operand} (ho:o.op= .indexAddr T x i) (h:atn P R T x i=some e) (hp:aca e.ps):ada P D B o R (e.rc o.dst rs br):=by
 unfold atn at h;split at h
 ·rename_i kd z hi;have hiv:∀ (G:Nat->GV) (F:Nat->Prop) (a:Act) (w:World),ad6 B R G F a w->a.eval i= .int kd z:=λG F a w V=>(abm (aal (opnd_ok V hi))).1;split at h
  ·rename_i k hx;split at h
   ·rename_i eT' sz n el e2 ie hb hs;split at h
    ·rename_i hsz;cases h;have:=aaq hsz;subst this;refine aaz rfl λG F a w V=> ?_;obtain⟨u,eu,xs,h5,_⟩:=V.bk k _ hb;have hk:a.eval x=u:=by rw[((aal (opnd_ok V hx)):GOk G F w (.hd k) _).1,eu];rfl
     obtain⟨_,⟨_,hn0⟩ | ⟨g,cap,cur,e1,_⟩⟩:=h5
     ·have:=hp.1;omega
     refine⟨.pointer (some ⟨g,0+z.toNat*ie.size,none⟩),?_,λav hav=>by cases hav;exact aaG ⟨g,n,cap,by rw[eu];exact e1,by simp⟩⟩;simp only[execOp,ho,hiv G F a w V,hk,e1];exact aas (afh hs hp.1)
    ·cases h
   ·rename_i eT' sz n el nms e2 ie hb hs;split at h
    ·rename_i hsz;cases h;have:=aaq hsz;subst this;refine aaz rfl λG F a w V=> ?_;obtain⟨u,eu,⟨xs,h5,_⟩,_⟩:=V.bk k _ hb;have hk:a.eval x=u:=by rw[((aal (opnd_ok V hx)):GOk G F w (.hd k) _).1,eu];rfl
     obtain⟨_,⟨_,hn0⟩ | ⟨g,cap,cur,e1,_⟩⟩:=h5
     ·have:=hp.1;omega
     refine⟨.pointer (some ⟨g,0+z.toNat*ie.size,none⟩),?_,λav hav=>by cases hav;exact aaG ⟨g,n,cap,by rw[eu];exact e1,by simp⟩⟩;simp only[execOp,ho,hiv G F a w V,hk,e1];exact aas (afh hs hp.1)
    ·cases h
   ·cases h
  ·rename_i sz n el hx;split at h
   ·rename_i e2 ie hs;split at h
    ·rename_i hsz;cases h;have:=aaq hsz;subst this;refine aaz rfl λG F a w V=> ?_;have hk0:=aal (opnd_ok V hx);have hk:COk F w (.row ie.size n el) (a.eval x):=hk0;generalize hu:a.eval x=u at hk;cases hk with
     |row0=>have:=hp.1;omega
     |row vals hF hn hl hc hoo=>
      rename_i g off c;refine⟨.pointer (some ⟨g,off+z.toNat*ie.size,none⟩),?_,λav hav=>by cases hav;exact aaG (GOk.of (COk.el (off:=0) vals hF (by have:=hp.1;omega) hl hc hoo))⟩;simp only[execOp,ho,hiv G F a w V,hu];exact aas (afh hs hp.1)
    ·cases h
   ·cases h
  ·rename_i k sz n0 n hx;split at h
   ·rename_i e2 ie hs;split at h
    ·rename_i hsz;cases h;have:=aaq hsz;subst this;refine aaz rfl λG F a w V=> ?_;obtain⟨hz,_⟩:=hp;have hk:abw G F w (.pt k ie.size n0 n) (a.eval x):=(aal (opnd_ok V hx):GOk G F w (.pt k ie.size n0 n) _)
     rcases hk with ⟨h0,_⟩ | ⟨h0,g,m,c,e1,e3,e4⟩
     ·omega
     refine⟨.pointer (some ⟨g,n0*ie.size+z.toNat*ie.size,none⟩),?_,λav hav=>by cases hav;exact aaG ⟨g,m,c,e1,by rw[Nat.add_mul,Nat.add_zero]⟩⟩;simp only[execOp,ho,hiv G F a w V,e4];exact aas (afh hs hz)
    ·cases h
   ·cases h
  ·rename_i k off hx;split at h
   ·rename_i n sz hs;cases h;refine aaz rfl λG F a w V=> ?_;obtain⟨g,e1,e2⟩:=(aal (opnd_ok V hx):GOk G F w (.own k off) _)
    refine⟨.pointer (some ⟨g,off+z.toNat*sz,none⟩),?_,λav hav=>by cases hav;exact aaG ⟨g,e1,rfl⟩⟩;simp only[execOp,ho,hiv G F a w V,e2];exact aas (aqE hs hp.1)
   ·cases h
  ·cases h
 ·cases h
theorem axv {op:BinOp} {xT yT:TypeId} {x y:Operand} {k:IntKind} {m n:Int} {v:Value} {ps:List Prop} (ho:o.op= .binOp op xT x y yT) (hx:ab3 R x=some (.s false [.v (.int k m)])) (hy:ab3 R y=some (.s false [.v (.int k n)])) (hb:ayH op k m n=some (v,ps)) (hp:aca ps) (h:e= { val:=some (.s false [.v v]),ps:=ps }):ada P D B o R (e.rc o.dst rs br):=by
 subst h;refine aaz rfl λG F a w V=> ?_;have h1:=(abm (aal (opnd_ok V hx))).1;have h2:=(abm (aal (opnd_ok V hy))).1;have h1v:v.oneCell'=true:=by
  cases op<;>simp only[ayH,Option.some.injEq,Prod.mk.injEq,reduceCtorEq] at hb;all_goals (obtain⟨rfl,rfl⟩:=hb;rfl)
 refine⟨v,?_,λav hav=>by cases hav;exact aaG (GOk.of (.v v h1v))⟩;simp only[execOp,ho,h1,h2];refine aas ?_;cases op<;>simp only[ayH,Option.some.injEq,Prod.mk.injEq,reduceCtorEq] at hb;all_goals (obtain⟨rfl,rfl⟩:=hb)
 all_goals first
  |(simp[eqGuard,binOp,Op.intArith,Op.intCmp];done)
  |(simp[eqGuard,binOp_and,binOp_or,intBits_and,intBits_or];done)
  |(have:=hp.1;simp[eqGuard,binOp,Op.intDiv,this];done)
end
end Go.Proofs.YtcmplpkmfbhpdaaGreat
namespace Go.Proofs.YtcmplpkmfbhpdaaGreat
open Go Go.RowKit
section
variable {P:Program} {D:Prop} {B:Nat} {R:FS} {G:Nat->GV} {F:Nat->Prop} {a:Act} {w:World} {o:Oper} {e:Eff} {rs br:List Nat}
theorem asU (a b:ByteArray):(a == b)=true↔a=b:=by
 obtain⟨x⟩:=a;obtain⟨y⟩:=b;constructor
 ·intro h;have e:x=y:=by simpa using (show (x == y)=true from h)
  rw[e]
 ·intro h;cases h;show (x == x)=true;simp
theorem afQ (key:Nat->Value) (n:Nat) (x:Value):acu key n x<=n:=by
 unfold acu;exact Nat.le_trans List.findIdx_le_length (by simp)
theorem aj6 {key:Nat->Value} {n:Nat} {x:Value} (h:acu key n x<n):aih (key (acu key n x)) x=true:=by
 have:=List.findIdx_getElem (xs:=List.range n) (p:=λi=>aih (key i) x) (w:=by simpa[acu] using h);simpa[acu] using this
theorem avf {key:Nat->Value} {n:Nat} {x:Value} {i:Nat} (h:i<acu key n x):aih (key i) x=false:=by
 have hle:=afQ key n x;have:=List.not_of_lt_findIdx (xs:=List.range n) (p:=λi=>aih (key i) x) (i:=i) h;simpa using this
theorem avd {key:Nat->Value} {n:Nat} {x:Value} {i:Nat} (hi:i<n) (h:aih (key i) x=true) (hl:∀ j,j<i->aih (key j) x=false):acu key n x=i:=by
 rcases Nat.lt_trichotomy (acu key n x) i with k | k | k
 ·have h1:=aj6 (key:=key) (n:=n) (x:=x) (by omega);rw[hl _ k] at h1;cases h1
 ·exact k
 ·have:=avf k;rw[h] at this;cases this
theorem ave {key:Nat->Value} {n:Nat} {x:Value} (h:∀ j,j<n->aih (key j) x=false):acu key n x=n:=by
 rcases Nat.lt_or_ge (acu key n x) n with k | k
 ·have h1:=aj6 k;rw[h _ k] at h1;cases h1
 ·have:=afQ key n x;omega
def KD.desc:KD->TypeDesc
 | .str=> .string
 | .int k=> .int k
theorem au5 {kd:KD} {u v:Value} (hu:kd.has u=true) (hv:kd.ok v):Instr.sameNow kd.desc u v=some (aih v u):=by
 cases kd with
 |str=>
  obtain⟨s,rfl⟩:=hv;cases u with
  |string b=>
   rfl
  |_=>cases hu
 |int k=>
  obtain⟨z,rfl⟩:=hv;cases u with
  |int k' b=>
   simp only[KD.has,decide_eq_true_eq] at hu;subst hu;simp only[KD.desc,Instr.sameNow,aih,if_true]
  |_=>cases hu
theorem alU {kd:KD} {u:Value} (hu:kd.has u=true) {key:Nat->Value} : ∀ (es:List MapEntry) (i:Nat),(∀ (j:Nat) (e:MapEntry),es[j]? =some e->e.key=key (i+j)/\kd.ok e.key)->
  Instr.findNow kd.desc u es i=some (match es.findIdx? λe=>aih e.key u with | some j=>(es[j]?).map λe=>(i+j,e.val) | none=>none)
 |[],i,_=>rfl
 |e::es,i,h=>by
  have h0:=h 0 e rfl;unfold Instr.findNow;rw[au5 hu h0.2];cases hk:aih e.key u with
  |true=>simp[List.findIdx?_cons,hk]
  |false=>
   simp only[List.findIdx?_cons,hk];rw[alU hu es (i+1) λj x hx=>by
    have:=h (j+1) x (by simpa using hx);rwa [show i+(j+1)=i+1+j by omega] at this]
   cases hf:es.findIdx? λe=>aih e.key u with
   |none=>simp
   |some j=>
    simp only[Bool.false_eq_true,if_false,Option.map_some,List.getElem?_cons_succ];congr 1
    cases es[j]? with
    |none=>rfl
    |some x=>simp only[Option.map_some];congr 2;omega
theorem arB {kd:KD} {u:Value} (hu:kd.has u=true) {key:Nat->Value} {es:List MapEntry} {n:Nat} (hn:es.length=n) (h:∀ (j:Nat) (e:MapEntry),es[j]? =some e->e.key=key j/\kd.ok e.key) :
  Instr.findNow kd.desc u es 0=some (match es[acu key n u]? with | some e=>some (acu key n u,e.val) | none=>none):=by
 rw[alU (key:=key) hu es 0 (λj e he=>by rw[Nat.zero_add];exact h j e he)];congr 1
 cases hf:es.findIdx? λe=>aih e.key u with
 |none=>
  have hno:=List.findIdx?_eq_none_iff.1 hf;have:acu key n u=n:=ave λj hj=>by
   have hj':j<es.length:=by omega
   have:=hno es[j] (List.getElem_mem hj');rw[<- (h j es[j] (List.getElem?_eq_getElem hj')).1];simpa using this
  rw[this,List.getElem?_eq_none (by omega)]
 |some j=>
  obtain⟨hj,h1,h2⟩:=List.findIdx?_eq_some_iff_getElem.1 hf;have:acu key n u=j:=avd (by omega) (by rw[<- (h j es[j] (List.getElem?_eq_getElem hj)).1];exact h1) λi hi=>by
   have hi':i<es.length:=by omega
   rw[<- (h i es[i] (List.getElem?_eq_getElem hi')).1];simpa using h2 i hi
  rw[this,List.getElem?_eq_getElem hj];simp only[List.getElem?_eq_getElem hj,Option.map_some,Nat.zero_add]
theorem aqj {z:Value} {ag:Bool} {zl:List aaa} (h:ap1 z=some (ag,zl)) (G:Nat->GV) (F:Nat->Prop) (w:World):SOk (abw G F w) ag zl z/\(∀ c∈zl,c.nm0=[])/\∀ c∈zl,c.isClo=false:=by
 have cv:∀ v:Value,(afd v).nm0=[]/\(afd v).isClo=false:=λv=>by unfold afd;split<;>exact⟨rfl,rfl⟩
 have c0:∀ v:Value,v.oneCell'=true->abw G F w (afd v) v:=λv hv=>by
  have:=afr (G:=G) (F:=F) (w:=w) hv;have hc:=(cv v).2;cases hcv:afd v with
  |clo f caps=>rw[hcv] at hc;cases hc
  |_=>rw[hcv] at this;simpa only[GOk] using this
 unfold ap1 at h;split at h
 ·rename_i cs;split at h
  ·rename_i hall;cases h;refine⟨⟨cs.toList,rfl,by simp,λi c v h1 h2=> ?_⟩,λc hc=> ?_,λc hc=> ?_⟩
   ·rw[List.getElem?_map,h2] at h1;cases h1;exact c0 v (List.all_eq_true.1 hall v (List.mem_of_getElem? h2))
   ·obtain⟨v,_,rfl⟩:=List.mem_map.1 hc;exact (cv v).1
   ·obtain⟨v,_,rfl⟩:=List.mem_map.1 hc;exact (cv v).2
  ·cases h
 ·split at h
  ·rename_i h1;cases h;refine⟨⟨_,rfl,c0 z h1⟩,λc hc=> ?_,λc hc=> ?_⟩
   ·rw[List.mem_singleton.1 hc];exact (cv z).1
   ·rw[List.mem_singleton.1 hc];exact (cv z).2
  ·cases h
theorem aj4 {T:TypeId} {kd:KD} {z:Value} {ag:Bool} {zl:List aaa} (h:avZ P T=some (kd,z,ag,zl)):∃ K E i,P.underlying T=some (.map K E)/\P.underlying K=some kd.desc/\P.info? E=some i/\i.zero=some z/\ap1 z=some (ag,zl):=by
 unfold avZ at h;split at h
 ·rename_i K E hT;split at h
  ·rename_i kd' i hk hi;split at h
   ·rename_i z' hz;split at h
    ·rename_i ag' zl' hza;cases h;refine⟨K,E,i,hT,?_,hi,hz,hza⟩;unfold aAn at hk;split at hk
     ·rename_i h1;cases hk;exact h1
     ·rename_i k h1;cases hk;exact h1
     ·cases hk
    ·cases h
   ·cases h
  ·cases h
 ·cases h
theorem ahv {T:TypeId} {d:TypeDesc} (h:P.underlying T=some d) (w:World):(underlying T).run P w= .ok d w:=by
 simp[underlying,h]
theorem ae6 {K:TypeId} {kd:KD} (h:P.underlying K=some kd.desc) (em:Bool) (u:Value) (hu:kd.has u=true) (w:World):(Instr.checkKey em 10000 K u).run P w= .ok () w:=by
 unfold Instr.checkKey;rw[Sem.run_bind,ahv h];simp only[Result.andThen_ok];cases kd with
 |str=>cases u with
  |string s=>rfl
  |_=>cases hu
 |int k=>cases u with
  |int k' z=>rfl
  |_=>cases hu
theorem ag8 {g:Nat} {es:Array MapEntry} {ck:Nat} (h:w.heap[g]? =some (.map es ck)):(getObj g).run P w= .ok (.map es ck) w:=by simp[getObj,Sem.run,h]
theorem agU {g:Nat} {es:Array MapEntry} {ck:Nat} (h:w.heap[g]? =some (.map es ck)) (o':Obj):(setObj g o').run P w= .ok () { w with heap:=w.heap.setIfInBounds g o' } :=by simp[setObj,Sem.run,h]
theorem agr {K:TypeId} {kd:KD} (h:P.underlying K=some kd.desc) {u:Value} (hu:kd.has u=true) {key:Nat->Value} {es:Array MapEntry} {n:Nat} (hn:es.size=n) (hk:∀ (j:Nat) (e:MapEntry),es[j]? =some e->e.key=key j/\kd.ok e.key) (w:World) :
  (Instr.findKey K u es.toList).run P w= .ok (match es[acu key n u]? with | some e=>some (acu key n u,e.val) | none=>none) w:=by
 unfold Instr.findKey;rw[Sem.run_bind,ahv h];simp only[Result.andThen_ok];rw[arB hu (n:=n) (by simpa using hn) (λj e he=>hk j e (by simpa using he))];simp
theorem akk {T K E:TypeId} {kd:KD} {i:TypeInfo} {z:Value} (hT:P.underlying T=some (.map K E)) (hK:P.underlying K=some kd.desc) (hi:P.info? E=some i) (hz:i.zero=some z) {g:Nat} {es:Array MapEntry} {ck:Nat} (hg:w.heap[g]? =some (.map es ck)) {u:Value} (hu:kd.has u=true) {key:Nat->Value} {n:Nat} (hn:es.size=n) (hk:∀ (j:Nat) (e:MapEntry),es[j]? =some e->e.key=key j/\kd.ok e.key) :
  (Instr.lookup T (.map (some g)) u false).run P w= .ok (match es[acu key n u]? with | some e=>e.val | none=>z) w:=by
 unfold Instr.lookup;rw[Sem.run_bind,ahv hT];simp only[Result.andThen_ok,Sem.run_bind,ag8 hg,Sem.run_pure,ae6 hK _ u hu,agr hK hu hn hk];cases hx:es[acu key n u]? with
 |some e=>simp
 |none=>simp[zeroValue,typeInfo,hi,hz]
theorem apa {T:TypeId} {x i:Operand} (ho:o.op= .lookup T x i false) (h:ahP P R T x i=some e) (hp:aca e.ps):ada P D B o R (e.rc o.dst rs br):=by
 unfold ahP at h;split at h
 ·rename_i kd z ag0 zl k u hm hx hi;split at h
  ·rename_i kd' z' n key ag val nms hb;split at h
   ·rename_i hc;cases h;rw[Bool.and_eq_true,decide_eq_true_eq] at hc;obtain⟨rfl,hu⟩:=hc;obtain⟨rfl,_⟩:=hp;obtain⟨K,E,i',h1,h2,h3,h4,h5⟩:=aj4 hm;refine aaz rfl λG F a w V=> ?_;obtain⟨⟨g,es,ck,eg,hB,hg,hn,hes,hz⟩,hnm⟩:=V.bk k _ hb;have ex:a.eval x= .map (some g):=by
     have:=aal (opnd_ok V hx);have:=(this:abw G F w (.hd k) _).1;rw[this,eg]
    have ei:=(abm (aal (opnd_ok V hi))).1;have run:=akk (P:=P) (w:=w) h1 h2 h3 h4 hg hu hn λj e he=>⟨(hes j e he).1,(hes j e he).2.1⟩
    refine⟨match es[acu key n u]? with | some e=>e.val | none=>z',?_,λav hav=> ?_⟩
    ·simp only[execOp,ho,ex,ei];exact aas run
    ·cases hav;show SOk (GOk G F w) ag _ _;have up:∀ {v:Value},SOk (abw G F w) ag (val (acu key n u)) v->SOk (GOk G F w) ag (val (acu key n u)) v:=λhv=>SOk.mono hv λc _ v hv=>GOk.of0 hv;refine up ?_;have hle:=afQ key n u;rcases Nat.lt_or_ge (acu key n u) n with q | q
     ·have hl:acu key n u<es.size:=by omega
      rw[Array.getElem?_eq_getElem hl];exact (hes _ _ (Array.getElem?_eq_getElem hl)).2.2
     ·have e1:acu key n u=n:=by omega
      rw[Array.getElem?_eq_none (by omega),e1];exact hz
   ·cases h
  ·cases h
 ·cases h
theorem arq {g:Nat} {es:Array MapEntry} {ck:Nat} (h:w.heap[g]? =some (.map es ck)) (o':Obj):aaR w { w with heap:=w.heap.setIfInBounds g o' } :=by
 intro b c e;have hne:g≠b:=by
  rintro rfl;rw[h] at e;cases e
 show (w.heap.setIfInBounds g o')[b]? =_;rw[Array.getElem?_setIfInBounds_ne hne];exact e
theorem ajn {kd:KD} {u v:Value} (hu:kd.has u=true) (hv:kd.ok v) (h:aih v u=true):Instr.sameBits 10000 v u=true:=by
 cases kd with
 |str=>
  obtain⟨s,rfl⟩:=hv;cases u with
  |string b=>
   have e:b=s:=(asU b s).1 h;subst e;exact (asU b b).2 rfl
  |_=>cases hu
 |int k=>
  obtain⟨z,rfl⟩:=hv;cases u with
  |int k' b=>
   simp only[KD.has,decide_eq_true_eq] at hu;have e:b=z:=by simpa[aih] using h
   simp[Instr.sameBits,e,hu]
  |_=>cases hu
def adW (es:Array MapEntry) (ck j:Nat) (u v:Value):Obj:=
 match es[j]? with
 |some _=> .map (es.modify j λe=> { e with key:=u,val:=v }) ck
 |none=> .map (es.push { key:=u,val:=v,born:=ck }) (ck+1)
theorem akj {T K E:TypeId} {kd:KD} (hT:P.underlying T=some (.map K E)) (hK:P.underlying K=some kd.desc) {g:Nat} {es:Array MapEntry} {ck:Nat} (hg:w.heap[g]? =some (.map es ck)) {u v:Value} (hu:kd.has u=true) {key:Nat->Value} {n:Nat} (hn:es.size=n) (hk:∀ (j:Nat) (e:MapEntry),es[j]? =some e->e.key=key j/\kd.ok e.key) :
  (Instr.mapUpdate T (.map (some g)) u v).run P w= .ok () { w with heap:=w.heap.setIfInBounds g (adW es ck (acu key n u) u v) } :=by
 unfold Instr.mapUpdate;rw[Sem.run_bind,ahv hT];simp only[Result.andThen_ok,Sem.run_bind,ag8 hg,ae6 hK _ u hu,agr hK hu hn hk];unfold adW;cases hx:es[acu key n u]? with
 |none=>simp[agU hg]
 |some e=>
  have hb:aih e.key u=true:=by
   have hl:acu key n u<n:=Nat.lt_of_lt_of_eq (Array.getElem?_eq_some_iff.1 hx).1 hn;rw[(hk _ e hx).1];exact aj6 hl
  have hs:=ajn hu (hk _ e hx).2 hb;simp[Instr.keyThatStays,hx,hs,agU hg]
theorem apq {kd:KD} {u:Value} (h:kd.has u=true):kd.ok u:=by
 cases kd with
 |str=>cases u with
  |string s=>exact⟨s,rfl⟩
  |_=>cases h
 |int k=>cases u with
  |int k' z=>simp only[KD.has,decide_eq_true_eq] at h;exact⟨z,by rw[h]⟩
  |_=>cases h
theorem ari {es:Array MapEntry} {ck n:Nat} {key:Nat->Value} {u v:Value} (hn:es.size=n):∃ es' ck',adW es ck (acu key n u) u v= .map es' ck'/\es'.size=(if acu key n u<n then n else n+1)/\∀ (i:Nat) (e:MapEntry),es'[i]? =some e->(i=acu key n u/\e.key=u/\e.val=v)\/(i≠acu key n u/\i<n/\∃ e0,es[i]? =some e0/\e.key=e0.key/\e.val=e0.val):=by
 unfold adW;have hle:=afQ key n u;by_cases hl:acu key n u<n
 ·have hl':acu key n u<es.size:=by omega
  rw[Array.getElem?_eq_getElem hl',if_pos hl];refine⟨_,_,rfl,by simp[hn],λi e he=> ?_⟩;rw[Array.getElem?_modify] at he;split at he
  ·rename_i hi;rw[<- hi,Array.getElem?_eq_getElem hl'] at he;cases he;exact .inl ⟨hi.symm,rfl,rfl⟩
  ·rename_i hi;exact .inr ⟨λk=>hi k.symm,by rw[<- hn];exact (Array.getElem?_eq_some_iff.1 he).1,e,he,rfl,rfl⟩
 ·have e1:acu key n u=n:=by omega
  rw[Array.getElem?_eq_none (by omega),if_neg hl];refine⟨_,_,rfl,by simp[hn],λi e he=> ?_⟩;rw[Array.getElem?_push] at he;split at he
  ·rename_i hi;cases he;exact .inl ⟨by omega,rfl,rfl⟩
  ·have hi:i<n:=by rw[<- hn];exact (Array.getElem?_eq_some_iff.1 he).1
   exact .inr ⟨by omega,hi,e,he,rfl,rfl⟩
theorem axS {c:aaa} {v:Value} (h:GOk G F w c v) (hc:c.isClo=false):abw G F w c v:=by
 cases c with
 |clo f caps=>cases hc
 |_=>simpa only[GOk] using h
theorem ao9 {T:TypeId} {m x y:Operand} (ho:o.op= .mapUpdate T m x y) (h:ahO P R T m x y=some e):ada P D B o R (e.rc o.dst rs br):=by
 unfold ahO at h;split at h
 ·rename_i kd z ag0 zl k u ag' l hm hmo hx hy;split at h
  ·rename_i kd' z' n key ag val nms hb;split at h
   ·rename_i hc;cases h;simp only[Bool.and_eq_true,decide_eq_true_eq] at hc;obtain⟨rfl,hu,rfl,hcl⟩:=hc;obtain⟨K,E,i',h1,h2,h3,h4,h5⟩:=aj4 hm;intro G F a w V;obtain⟨⟨g,es,ck,eg,hB,hg,hn,hes,hz⟩,hnm⟩:=V.bk k _ hb;have ex:a.eval m= .map (some g):=by
     have:=aal (opnd_ok V hmo);have:=(this:abw G F w (.hd k) _).1;rw[this,eg]
    have ei:=(abm (aal (opnd_ok V hx))).1;have hv:SOk (abw G F w) ag l (a.eval y):=SOk.mono (opnd_ok V hy:SOk (GOk G F w) ag l (a.eval y)) λc hc v hv=>axS hv (by simpa using List.all_eq_true.1 hcl c hc);have run:=akj (P:=P) (w:=w) (v:=a.eval y) h1 h2 hg hu hn λj e he=>⟨(hes j e he).1,(hes j e he).2.1⟩
    have hlt:g<w.heap.size:=(Array.getElem?_eq_some_iff.1 hg).1;obtain⟨es',ck',e1,e2,e3⟩:=ari (es:=es) (ck:=ck) (key:=key) (u:=u) (v:=a.eval y) hn;have hle:=afQ key n u;refine aht (w':= { w with heap:=w.heap.setIfInBounds g (adW es ck (acu key n u) u (a.eval y)) }) ?_ ⟨G,F,acJ.set1 V hb rfl rfl (λg' hg'=> ?_) (by simp) ⟨rfl,rfl,rfl⟩ (λ_=>Nat.le_refl _) (arq hg _) λhst=> ?_⟩
    ·simp only[execOp,ho,ex,ei];simp[run]
    ·show (w.heap.setIfInBounds g _)[g']? =_;rw[Array.getElem?_setIfInBounds_ne];rintro rfl;exact hg' (by rw[eg])
    ·refine⟨⟨g,es',ck',eg,hB,?_,e2,λi e he=> ?_,?_⟩,λi c q hi hc hq=> ?_⟩
     ·show (w.heap.setIfInBounds g _)[g]? =_;rw[Array.getElem?_setIfInBounds_self_of_lt hlt,e1]
     ·have mono:∀ {l:List aaa} {v:Value},SOk (abw G F w) ag l v->SOk (abw G F { w with heap:=w.heap.setIfInBounds g (adW es ck (acu key n u) u (a.eval y)) }) ag l v:=λhv=>SOk.mono hv λc _ v hv=>hv.stay hst λ_ _ h=>h;rcases e3 i e he with ⟨q1,q2,q3⟩ | ⟨q1,q2,e0,q3,q4,q5⟩
      ·dsimp only;rw[if_pos q1,if_pos q1,q2,q3];exact⟨rfl,apq hu,mono hv⟩
      ·obtain⟨p1,p2,p3⟩:=hes i e0 q3;dsimp only;rw[if_neg q1,if_neg q1,if_neg (by omega),q4,q5];exact⟨p1,p2,mono p3⟩
     ·have mono:∀ {l:List aaa} {v:Value},SOk (abw G F w) ag l v->SOk (abw G F { w with heap:=w.heap.setIfInBounds g (adW es ck (acu key n u) u (a.eval y)) }) ag l v:=λhv=>SOk.mono hv λc _ v hv=>hv.stay hst λ_ _ h=>h;dsimp only;by_cases hl:acu key n u<n
      ·rw[if_pos hl,if_neg (by omega),if_neg (by omega)];exact mono hz
      ·rw[if_neg hl,if_neg (by omega),if_pos (by omega)];exact mono hz
     ·dsimp only at hc;by_cases q1:i=acu key n u
      ·rw[if_pos q1] at hc;exact List.mem_append_left _ (List.mem_flatMap.2 ⟨c,hc,hq⟩)
      ·rw[if_neg q1] at hc;split at hc
       ·exact List.mem_append_right _ (hnm n c q (Nat.le_refl n) hc hq)
       ·exact List.mem_append_right _ (hnm i c q (by omega) hc hq)
   ·cases h
  ·cases h
 ·cases h
theorem amy {T:TypeId} (ho:o.op= .makeMap T none) (h:af7 P T o.dst=some e):ada P D B o R (e.rc o.dst rs br):=by
 unfold af7 at h;split at h
 ·rename_i kd z ag zl t hm ht;cases h;obtain⟨K,E,i',h1,h2,h3,h4,h5⟩:=aj4 hm;intro G F a w V;have hG:upG G t ⟨.map (some w.heap.size),λx=>x=w.heap.size⟩ t=⟨.map (some w.heap.size),λx=>x=w.heap.size⟩:=by simp[upG]
  have hgr:=aab w (.map #[] 0) none;have hst:ae9 G F w (upG G t ⟨.map (some w.heap.size),λx=>x=w.heap.size⟩) F (w.alloc (.map #[] 0)) (λk=>k=t):=
   ⟨λk hk=>by simp[upG,hk],λ_ h=>h,aaC hgr,λb hb=>hgr.block b (V.fl b hb) (by simp)⟩
  refine abC (w':=w.alloc (.map #[] 0)) (v:= .map (some w.heap.size)) ?_ ⟨upG G t ⟨.map (some w.heap.size),λx=>x=w.heap.size⟩,F,?_⟩
  ·simp only[execOp,ho];exact aas rfl
  ·refine⟨λk hk=> ?_,λk hk=> ?_,λ_ h=>h,λ_ h=> .inl h,λb hb=> ?_,rfl,rfl,rfl,by simp,λ_=>Nat.le_refl _,hst.k,λg hg _=>hgr.block g hg (by simp),λav hav=> ?_,λk b hkb=> ?_,λk k' b b' hk hk' hne=> ?_⟩
   ·have:k≠t:=by rintro rfl;simp[Eff.rc,lk,Nat.beq_refl] at hk
    simp[upG,this]
   ·have:k≠t:=by rintro rfl;simp[Eff.rc] at hk
    simp[upG,this]
   ·have:=V.fl b hb;simp;omega
   ·cases hav;exact aaG (c:= .hd t) ⟨by rw[hG],rfl⟩
   ·obtain⟨rfl,rfl⟩:=aaO (show lk [(t,aae.mp kd z 0 (λ_=> .nilIface) ag (λ_=>zl) [])] k=some b from hkb);rw[hG];obtain⟨z1,z2,z3⟩:=aqj h5 (upG G t ⟨.map (some w.heap.size),λx=>x=w.heap.size⟩) F (w.alloc (.map #[] 0));refine⟨⟨⟨w.heap.size,#[],0,rfl,V.bs,by show (w.heap.push _)[w.heap.size]? =_;simp,rfl,λi e he=>by simp at he,z1⟩,λi c q _ hc hq=>by rw[z2 c hc] at hq;cases hq⟩,λg hg=> ?_⟩;have:g=w.heap.size:=hg;subst this;exact⟨λhF=>Nat.lt_irrefl _ (V.fl _ hF),.inl (Nat.le_refl _)⟩
   ·exact absurd ((aaO (show lk [(t,aae.mp kd z 0 (λ_=> .nilIface) ag (λ_=>zl) [])] k=some b from hk)).1.symm.trans (aaO (show lk [(t,aae.mp kd z 0 (λ_=> .nilIface) ag (λ_=>zl) [])] k'=some b' from hk')).1) hne
 ·cases h
end
end Go.Proofs.YtcmplpkmfbhpdaaGreat
namespace Go.Proofs.YtcmplpkmfbhpdaaGreat
open Go Go.RowKit
section
variable {P:Program} {D:Prop} {B:Nat} {R:FS} {G:Nat->GV} {F:Nat->Prop} {a:Act} {w:World} {o:Oper} {e:Eff} {rs br:List Nat}
theorem afn {ok:aaa->Value->Prop} (hone:∀ c v,ok c v->v.oneCell'=true) {place:Nat->Option (Nat × Nat)} : ∀ {avs:List (Nat × AV)} {ps:List (Nat × Value)} {l l':List aaa} {cs:List Value},ahp place l avs=some l'->abu ok l cs->avs.length=ps.length->
  (∀ (i:Nat) (p:Nat × AV) (q:Nat × Value),avs[i]? =some p->ps[i]? =some q->p.1=q.1/\p.2.ok ok q.2)->∃ cs':List Value,Instr.fill place cs.toArray ps=some cs'.toArray/\abu ok l' cs'/\l'.length=l.length
 |[],[],l,l',cs,h,hl,_,_=>by cases h;exact⟨cs,rfl,hl,rfl⟩
 |(i,.tup _)::_,_,_,_,_,h,_,_,_=>by cases h
 |(i,.s ag c)::rest,(j,v)::ps,l,l',cs,h,hl,hlen,hp=>by
  obtain⟨e1,hv⟩:=hp 0 _ _ rfl rfl;simp only at e1;subst e1;have hc:abu ok c v.cells.toList:=SOk.cells hone hv;simp only[ahp] at h;split at h
  ·cases h
  ·rename_i off size hpl;split at h
   ·rename_i hcond;rw[Bool.and_eq_true] at hcond;have h1:=aaq hcond.1;have h2:=Nat.le_of_ble_eq_true hcond.2;subst h1;have hsz:v.cells.size=c.length:=by rw[hc.1];simp
    have key:(v.cells.zipIdx.foldl (λcs (x:Value × Nat)=>cs.setIfInBounds (off+x.2) x.1) cs.toArray)=(cs.take off++v.cells.toList++cs.drop (off+c.length)).toArray:=by
     have gen:∀ (m:List Value) (k:Nat) (A:List Value),off+k+m.length<=A.length->(m.zipIdx k).foldl (λ(cs:Array Value) (x:Value × Nat)=>cs.setIfInBounds (off+x.2) x.1) A.toArray=(A.take (off+k)++m++A.drop (off+k+m.length)).toArray:=by
      intro m;induction m with
      |nil=>intro k A _;simp
      |cons x m ih=>
       intro k A hA;simp only[List.length_cons] at hA;simp only[List.zipIdx_cons,List.foldl_cons,List.setIfInBounds_toArray];rw[ih (k+1) (A.set (off+k) x) (by simp;omega)];congr 1
       apply List.ext_getElem?;intro q;simp only[List.append_assoc,List.length_cons];rcases Nat.lt_or_ge q (off+k) with c1 | c1
       ·rw[List.getElem?_append_left (by simp;omega),List.getElem?_append_left (by simp;omega)];simp only[List.getElem?_take];rw[if_pos (by omega),if_pos c1,List.getElem?_set_ne (by omega)]
       ·rw[List.getElem?_append_right (l₁:=A.take (off+k)) (by simp;omega)];have hl1:(A.take (off+k)).length=off+k:=by simp;omega
        rw[hl1];rcases Nat.lt_or_ge q (off+k+1) with c2 | c2
        ·have:q=off+k:=by omega
         subst this;rw[List.getElem?_append_left (by simp;omega)];simp only[List.getElem?_take];rw[if_pos (by omega),List.getElem?_set_self (by omega)];simp
        ·have hl2:((A.set (off+k) x).take (off+(k+1))).length=off+(k+1):=by simp;omega
         rw[List.getElem?_append_right (by rw[hl2];omega),hl2];have e3:q-(off+k)=(q-(off+(k+1)))+1:=by omega
         rw[e3,List.cons_append,List.getElem?_cons_succ];rcases Nat.lt_or_ge (q-(off+(k+1))) m.length with c3 | c3
         ·rw[List.getElem?_append_left c3,List.getElem?_append_left c3]
         ·rw[List.getElem?_append_right c3,List.getElem?_append_right c3,List.getElem?_drop,List.getElem?_drop,List.getElem?_set_ne (by omega)];congr 1
          omega
     have:=gen v.cells.toList 0 cs (by rw[<- hl.1];simp;omega);simp only[Nat.add_zero] at this;rw[<- Array.foldl_toList,Array.toList_zipIdx];rw[hc.1];exact this
    obtain⟨cs',k1,k2,k3⟩:=afn hone h (((hl.take off).append hc).append (hl.drop (off+c.length))) (by simpa using hlen) (λi p q h3 h4=>hp (i+1) p q (by simpa using h3) (by simpa using h4));refine⟨cs',?_,k2,?_⟩
    ·simp only[Instr.fill,hpl];rw[if_neg]
     ·rw[key];exact k1
     ·have:=hl.1;simp[hsz];omega
    ·rw[k3];simp;omega
   ·cases h
 |[],_::_,_,_,_,_,_,h,_=>by cases h
 |(i,.s ag c)::rest,[],_,_,_,_,_,h,_=>by cases h
theorem afj (V:ad6 B R G F a w):∀ {ps:List (Nat × Operand)} {avs:List (Nat × AV)},parts R ps=some avs->avs.length=(ps.map λp=>(p.1,a.eval p.2)).length/\∀ (i:Nat) (p:Nat × AV) (q:Nat × Value),avs[i]? =some p->(ps.map λp=>(p.1,a.eval p.2))[i]? =some q->p.1=q.1/\p.2.ok (GOk G F w) q.2
 |[],avs,h=>by cases h;exact⟨rfl,λi p q h1=>by simp at h1⟩
 |(j,x)::l,avs,h=>by
  simp only[parts] at h;split at h
  ·rename_i av hav;split at h
   ·rename_i avs' hr;cases h;obtain⟨h1,h2⟩:=afj V hr;refine⟨by simpa using h1,λi p q h3 h4=> ?_⟩;match i,h3,h4 with
    |0,h3,h4=>cases h3;cases h4;exact⟨rfl,opnd_ok V hav⟩
    |i+1,h3,h4=>exact h2 i p q (by simpa using h3) (by simpa using h4)
   ·cases h
  ·cases h
theorem ahN (V:ad6 B R G F a w):∀ {xs:List Operand} {avs:List AV},amb R xs=some avs->aed (GOk G F w) avs (xs.map a.eval)
 |[],avs,h=>by cases h;exact⟨rfl,λi p q h1=>by simp at h1⟩
 |x::l,avs,h=>by
  simp only[amb] at h;split at h
  ·rename_i av hav;split at h
   ·rename_i avs' hr;cases h;obtain⟨h1,h2⟩:=ahN V hr;refine⟨by simpa using h1,λi p q h3 h4=> ?_⟩;match i,h3,h4 with
    |0,h3,h4=>cases h3;cases h4;exact opnd_ok V hav
    |i+1,h3,h4=>exact h2 i p q (by simpa using h3) (by simpa using h4)
   ·cases h
  ·cases h
theorem aq7 {T:TypeId} {ps:Array (Nat × Operand)} {z l:List aaa} {fs:Array Field} {avs:List (Nat × AV)} (ho:o.op= .build T ps) (hz:aeH P T=some z) (hu:P.underlying T=some (.struct fs)) (hav:parts R ps.toList=some avs)
  (hf:ahp (λi=>match fs[i]? with
    |some f=>match P.info? f.type with
     |some ti=>some (f.offset,ti.size)
     |none=>none
    |none=>none) z avs=some l) (hall:(fs.toList.all λf=>(P.info? f.type).isSome)=true) (h:e= { val:=some (.s true l) }):ada P D B o R (e.rc o.dst rs br):=by
 subst h;refine aaz rfl λG F a w V=> ?_;obtain⟨i,z',h1,h2,_,h3⟩:=adz hz;obtain⟨q1,q2⟩:=afj V hav;obtain⟨cs',k1,k2,_⟩:=afn (λ_ _ hk=>hk.one) hf (h3 G F w) q1 q2;refine⟨.agg cs'.toArray,?_,λav hav=>by cases hav;exact⟨cs',rfl,k2⟩⟩;simp only[execOp,ho];refine aas (run_build w T _ cs'.toArray ?_);have hm:∀ (l:List Field),(l.all λ(f:Field)=>(P.info? f.type).isSome)=true->∃ pl:List (Nat × Nat),l.mapM (λ(f:Field)=>(P.info? f.type).map λi=>(f.offset,i.size))=some pl/\∀ (i:Nat),pl[i]? =match l[i]? with
    |some f=>match P.info? f.type with
     |some ti=>some (f.offset,ti.size)
     |none=>none
    |none=>none:=by
  intro l;induction l with
  |nil=>intro _;exact⟨[],rfl,λi=>by simp⟩
  |cons f l ih=>
   intro hl;simp only[List.all_cons,Bool.and_eq_true] at hl;obtain⟨pl,e1,e2⟩:=ih hl.2;obtain⟨ti,hti⟩:=Option.isSome_iff_exists.1 hl.1;refine⟨(f.offset,ti.size)::pl,by simp[List.mapM_cons,hti,e1],λi=> ?_⟩;match i with
   |0=>simp[hti]
   |i+1=>simpa using e2 i
 obtain⟨pl,e1,e2⟩:=hm fs.toList hall;have e3:(λ(i:Nat)=>pl.toArray[i]?)=λ(i:Nat)=>match fs[i]? with
    |some f=>match P.info? f.type with
     |some ti=>some (f.offset,ti.size)
     |none=>none
    |none=>none:=by
  funext i;rw[List.getElem?_toArray,e2 i,Array.getElem?_toList]
 unfold Program.built;simp only[h1,hu,h2,e1];rw[e3];simpa using k1
theorem ale {z:List aaa} {cs:List Value} {ok:aaa->Value->Prop} (h:abu ok z cs):∀ n,abu ok (List.replicate n z).flatten (List.replicate n cs).flatten
 |0=>⟨rfl,λi c v h1=>by simp at h1⟩
 |n+1=>by
  rw[List.replicate_succ,List.replicate_succ,List.flatten_cons,List.flatten_cons];exact h.append (ale h n)
theorem ai0 (z:Array Value) (n:Nat) (hz:0<z.size):((Array.range (n*z.size)).map (z[· % z.size]!)).toList=(List.replicate n z.toList).flatten:=by
 apply List.ext_getElem?;intro i;have hlen:(List.replicate n z.toList).flatten.length=n*z.size:=by simp
 rcases Nat.lt_or_ge i (n*z.size) with hi | hi
 ·have hfl:∀ (n i:Nat),i<n*z.size->(List.replicate n z.toList).flatten[i]? =z.toList[i%z.size]? :=by
   intro n;induction n with
   |zero=>intro i hi;omega
   |succ n ih=>
    intro i hi;rw[List.replicate_succ,List.flatten_cons];rcases Nat.lt_or_ge i z.size with h | h
    ·rw[List.getElem?_append_left (by simpa using h),Nat.mod_eq_of_lt h]
    ·rw[List.getElem?_append_right (by simpa using h)];simp only[Array.length_toList];rw[ih (i-z.size) (by rw[Nat.add_mul] at hi;omega),Nat.mod_eq_sub_mod h]
  rw[hfl n i hi];have hm:=Nat.mod_lt i hz;simp[hi,hm]
 ·rw[List.getElem?_eq_none (by simpa using hi),List.getElem?_eq_none (by rw[hlen];exact hi)]
theorem agj (sz:Nat):∀ (n:Nat) (l:List aaa) (i:Nat),i<n->(agP sz n l).getD i []=(l.drop (i*sz)).take sz
 |0,_,_,h=>by omega
 |n+1,l,0,_=>by simp[agP]
 |n+1,l,i+1,h=>by
  have:=agj sz n (l.drop sz) i (by omega);simp only[agP,List.getD_cons_succ];rw[this,List.drop_drop];congr 2
  rw[Nat.add_mul];omega
theorem apb {T eT:TypeId} {n:Nat} {ie:TypeInfo} {ps:Array (Nat × Operand)} {z l:List aaa} {avs:List (Nat × AV)} (ho:o.op= .build T ps) (hz:aeH P T=some z) (hu:P.underlying T=some (.array n eT)) (hav:parts R ps.toList=some avs) (hi:P.info? eT=some ie)
  (hf:ahp (λi=>some (i*ie.size,ie.size)) z avs=some l) (h:e= { val:=some (.s true l) }):ada P D B o R (e.rc o.dst rs br):=by
 subst h;refine aaz rfl λG F a w V=> ?_;obtain⟨i,z',h1,h2,_,h3⟩:=adz hz;obtain⟨q1,q2⟩:=afj V hav;obtain⟨cs',k1,k2,_⟩:=afn (λ_ _ hk=>hk.one) hf (h3 G F w) q1 q2;refine⟨.agg cs'.toArray,?_,λav hav=>by cases hav;exact⟨cs',rfl,k2⟩⟩;simp only[execOp,ho];refine aas (run_build w T _ cs'.toArray ?_);unfold Program.built;simp only[h1,hu,h2,hi];simpa using k1
theorem auh {P:Program} {T e:TypeId} {ie:TypeInfo} (w:World) (hT:P.underlying T=some (.array 2 e)) (he:P.underlying e=some (.int .i64)) (hi:P.info? e=some ie) (hs:ie.size=1) (a b a' b':Int) :
  (Op.equal T (.agg #[.int .i64 a,.int .i64 b]) (.agg #[.int .i64 a',.int .i64 b'])).run P w= .ok (a == a' && b == b') w:=by
 have h1:∀ (d:Nat) (x y:Int),(Op.equalIn (d+1) e (.int .i64 x) (.int .i64 y)).run P w= .ok (x == y) w:=λd x y=>by simp[Op.equalIn,run_underlying he]
 have ha:(isAgg e).run P w= .ok false w:=by simp[isAgg,run_underlying he]
 have hp:∀ (xs:Array Value) (i:Nat) (v:Value),xs[i]? =some v->(part e xs i).run P w= .ok v w:=by
  intro xs i v hv;simp[part,sizeOf,typeInfo,hi,hs,hv,ha]
 have hz:(sizeOf e).run P w= .ok 1 w:=by simp[sizeOf,typeInfo,hi,hs]
 show (Op.equalIn (9998+1+1) T _ _).run P w=_;rw[Op.equalIn];simp only[Sem.run_bind,run_underlying hT,Result.andThen_ok,hz,Std.Legacy.Range.forIn_eq_forIn_range',Std.Legacy.Range.size];simp only[show List.range' 0 ((2-0+1-1)/1) 1=[0,1] from rfl,List.forIn_cons,List.forIn_nil,Sem.run_bind,hp _ _ _ (show (#[Value.int .i64 a,.int .i64 b])[0*1]? =some (.int .i64 a) from rfl),hp _ _ _ (show (#[Value.int .i64 a',.int .i64 b'])[0*1]? =some (.int .i64 a') from rfl),Result.andThen_ok,h1];by_cases h:a=a'
 ·subst h;simp[hp _ _ _ (show (#[Value.int .i64 a,.int .i64 b])[1]? =some (.int .i64 b) from rfl),hp _ _ _ (show (#[Value.int .i64 a,.int .i64 b'])[1]? =some (.int .i64 b') from rfl),h1];by_cases h2:b=b'<;>simp[h2]
 ·simp[h]
theorem alK {G:Nat->GV} {F:Nat->Prop} {w:World} {l:List aaa} {a b:Int} {v:Value} (h:amg l=some (a,b)) (hv:AV.ok (GOk G F w) (.s true l) v):v= .agg #[.int .i64 a,.int .i64 b]:=by
 unfold amg at h;split at h
 ·cases h;obtain⟨cs,rfl,h1,h2⟩:=hv;match cs,h1 with
  |[x,y],_=>
   have e1:=(abm (h2 0 _ x rfl rfl)).1;have e2:=(abm (h2 1 _ y rfl rfl)).1;rw[e1,e2]
 ·cases h
theorem asl {op:BinOp} {T yT:TypeId} {x y:Operand} {l l':List aaa} {a b a' b':Int} {v:Value} (ho:o.op= .binOp op T x y yT) (hx:ab3 R x=some (.s true l)) (hy:ab3 R y=some (.s true l')) (h1:amg l=some (a,b)) (h2:amg l'=some (a',b')) (hT:azn P T=true)
  (hv:(op= .eql/\v= .bool (a == a' && b == b'))\/(op= .neq/\v= .bool !(a == a' && b == b'))) (h:e= { val:=some (.s false [.v v]) }):ada P D B o R (e.rc o.dst rs br):=by
 subst h;refine aaz rfl λG F a0 w V=> ?_;have e1:=alK h1 (opnd_ok V hx);have e2:=alK h2 (opnd_ok V hy);have h1v:v.oneCell'=true:=by rcases hv with ⟨_,rfl⟩ | ⟨_,rfl⟩<;>rfl
 refine⟨v,?_,λav hav=>by cases hav;exact aaG (GOk.of (.v v h1v))⟩;simp only[execOp,ho,e1,e2];refine aas ?_;unfold azn at hT;split at hT
 ·rename_i n eT hu;split at hT
  ·rename_i ie he hi;rw[Bool.and_eq_true,Bool.and_eq_true] at hT;obtain⟨⟨t1,t2⟩,t3⟩:=hT;have t1:=aaq t1;have t2:=aaq t2;subst t1;have hg:P.eqGuardType P.depth T=false:=by simpa using t3
   have hq:=auh w hu he hi t2 a b a' b';rcases hv with ⟨rfl,rfl⟩ | ⟨rfl,rfl⟩
   ·rw[Sem.run_bind,run_eqGuard_agg (hm:=hg)];simp[binOp,hq]
   ·rw[Sem.run_bind,run_eqGuard_agg (hm:=hg)];simp[binOp,hq]
  ·cases hT
 ·cases hT
theorem apc {T eT:TypeId} {ie:TypeInfo} {len t:Nat} {ps:Array (Nat × Operand)} {z l:List aaa} {avs:List (Nat × AV)} (ho:o.op= .buildSlice T len ps) (hs:abb P T=some (eT,ie)) (hav:parts R ps.toList=some avs) (hd:o.dst=some t) (hz:aeH P eT=some z)
  (hf:ahp (λi=>some (i*ie.size,ie.size)) ((List.replicate len z).flatten) avs=some l) (hc:(Nat.ble (len*ie.size) 16777216 && Nat.beq z.length ie.size && !Nat.beq ie.size 0 && Nat.beq l.length (len*ie.size) && !Nat.beq eT 213 && l.all aaa.cl)=true)
  (h:e= { val:=some (.s false [.hd t]),set:=[(t,.row eT ie.size len λi=>(agP ie.size len l).getD i [])],nws:=[t] }):ada P D B o R (e.rc o.dst rs br):=by
 subst h;simp only[Bool.and_eq_true,Bool.not_eq_true'] at hc;obtain⟨⟨⟨⟨⟨c1,c2⟩,c3⟩,c4⟩,c5⟩,c6⟩:=hc;have hb:=Nat.le_of_ble_eq_true c1;have hsz0:=aaY c3;have hll:=aaq c4;obtain⟨i,z',h1,h2,h4,h3⟩:=adz hz;have hi:P.info? eT=some ie/\P.underlying T=some (.slice eT):=by
  unfold abb at hs;split at hs
  ·rename_i e' hu;split at hs
   ·rename_i i' hi';cases hs;exact⟨hi',hu⟩
   ·cases hs
  ·cases hs
 have:i=ie:=by rw[hi.1] at h1;exact (Option.some.inj h1).symm
 subst this;have hzs:z'.cells.size=i.size:=by
  have:=aaq c2;rw[h4] at this;simpa using this
 intro G F a w V;obtain⟨q1,q2⟩:=afj V hav;obtain⟨cs',k1,k2,k3⟩:=afn (λ_ _ hk=>hk.one) hf (ale (h3 G F w) len) q1 q2;have hcl:=abu.cl k2 c6;have run:(execOp a.eval o).run P w= .ok (.value (.slice (some ⟨w.heap.size,0,none⟩) len len)) (w.alloc (.cells cs'.toArray eT)):=by
  simp only[execOp,ho];refine aas ?_;have hk1:Instr.fill (λi'=>some (i'*i.size,i.size)) ((Array.range (len*i.size)).map (z'.cells[· % z'.cells.size]!)) (ps.map λ(j,x)=>(j,a.eval x)).toList=some cs'.toArray:=by
   have:=ai0 z'.cells len (by omega);rw[hzs] at this;have e5:(Array.range (len*i.size)).map (z'.cells[· % i.size]!)=(List.replicate len z'.cells.toList).flatten.toArray:=by rw[<- this,Array.toArray_toList]
   rw[hzs,e5];simpa using k1
  by_cases h0:len*i.size=0
  ·have hl0:len=0:=by
    rcases Nat.mul_eq_zero.1 h0 with h | h
    ·exact h
    ·exact absurd h hsz0
   subst hl0;have hk2:Instr.fill (λi'=>some (i'*i.size,i.size)) #[] (ps.toList.map λp=>(p.1,a.eval p.2))=some cs'.toArray:=by simpa[show Array.range 0= #[] from rfl] using hk1
   simp[Instr.buildSlice,run_underlying hi.2,sizeOf,typeInfo,hi.1,newRow,hk2,show Array.range 0= #[] from rfl]
  ·have hk2:Instr.fill (λi'=>some (i'*i.size,i.size)) ((Array.range (len*i.size)).map (z'.cells[· % z'.cells.size]!)) (ps.toList.map λp=>(p.1,a.eval p.2))=some cs'.toArray:=by simpa using hk1
   simp[Instr.buildSlice,run_underlying hi.2,sizeOf,typeInfo,hi.1,newRow,zeroValue,h2,hk2,Nat.not_lt.2 hb,h0]
 refine abC run ⟨_,F,acJ.mkRw (row:=none) V (aaY c5) (Nat.pos_of_ne_zero hsz0) (xs:=cs') ⟨by rw[<- k2.1];exact hll,.inr ⟨w.heap.size,len,cs'.toArray,rfl,V.bs,heap_alloc_new w _,Nat.le_refl _,?_,by simp;rw[<- k2.1];exact hll,?_⟩⟩ (aab _ _ _) (λ_=>Nat.le_refl _) (aaC (aab _ _ none)) (λg hg=>by cases hg) (λg hg=>by cases hg;exact .inl (Nat.le_refl _)) (λj hj=> ?_) (λj q c v hj hq hv=> ?_) (by rw[hd];rfl) rfl rfl⟩
 ·have:=Nat.le_mul_of_pos_right len (Nat.pos_of_ne_zero hsz0);unfold maxLen;omega
 ·simp only[];rw[List.take_of_length_le (by rw[<- k2.1,hll];exact Nat.le_refl _)]
 ·have:=Nat.mul_le_mul_right i.size (show j+1<=len by omega);rw[Nat.add_mul,Nat.one_mul] at this;rw[agj _ _ _ _ hj];simp;omega
 ·rw[agj _ _ _ _ hj,List.getElem?_take] at hq;split at hq
  ·rw[List.getElem?_drop] at hq;exact hcl.2 _ c v hq hv
  ·cases hq
theorem auw {T eT:TypeId} {ie:TypeInfo} {t:Nat} {x y:Operand} {k k':IntKind} {m n:Int} {z:List aaa} (ho:o.op= .makeSlice T x y) (hx:ab3 R x=some (.s false [.v (.int k m)])) (hy:ab3 R y=some (.s false [.v (.int k' n)])) (hs:abb P T=some (eT,ie)) (hz:aeH P eT=some z)
  (hc:(Nat.beq z.length ie.size && !Nat.beq ie.size 0 && !Nat.beq eT 213 && z.all aaa.cl)=true) (hd:o.dst=some t) (hp:aca e.ps)
  (h:e= { val:=some (.s false [.hd t]),set:=[(t,.row eT ie.size m.toNat λ_=>z)],nws:=[t],ps:=[m=n,0<=m,ie.bytes*m.toNat<=281474976710656/\m.toNat<=9223372036854775807] }):ada P D B o R (e.rc o.dst rs br):=by
 subst h;obtain⟨p1,p2,⟨p3,p4⟩,_⟩:=hp;subst p1;obtain⟨a',rfl⟩:=Int.eq_ofNat_of_zero_le p2;rw[Int.toNat_natCast] at p3 p4;simp only[Bool.and_eq_true,Bool.not_eq_true'] at hc;obtain⟨⟨⟨c1,c2⟩,c3⟩,c4⟩:=hc;have hsz0:=aaY c2;obtain⟨i,z',h1,h2,h4,h3⟩:=adz hz;have hi:P.info? eT=some ie/\P.underlying T=some (.slice eT):=by
  unfold abb at hs;split at hs
  ·rename_i e' hu;split at hs
   ·rename_i i' hi';cases hs;exact⟨hi',hu⟩
   ·cases hs
  ·cases hs
 have:i=ie:=by rw[hi.1] at h1;exact (Option.some.inj h1).symm
 subst this;have hzs:z'.cells.size=i.size:=by
  have:=aaq c1;rw[h4] at this;simpa using this
 intro G F a w V;have hb':(i.bytes:Int)*(a':Int)<=281474976710656:=by
  have h:((i.bytes*a':Nat):Int)<=281474976710656:=by omega
  rwa [Int.natCast_mul] at h
 have r1:=run_make (P:=P) w T eT i z' hi.2 hi.1 h2 k k' a' a' (by omega) (Int.le_refl _) hb' (by omega);simp only[Int.toNat_natCast] at r1;have r2:=World.ownsRow_lit (e:=eT) w (madeCells z'.cells (a'*i.size)) a' V.bs (by unfold maxLen;omega) (size_madeCells _ _);have run:(execOp a.eval o).run P w= .ok (.value (.slice (some ⟨w.heap.size,0,none⟩) a' a')) (w.alloc (.cells (madeCells z'.cells (a'*i.size)) eT)):=by
  simp only[execOp,ho,(abm (aal (opnd_ok V hx))).1,(abm (aal (opnd_ok V hy))).1];exact aas r1
 have hcl:=abu.cl (h3 G F w) c4;refine abC run ⟨_,F,acJ.mkRw (row:=none) V (aaY c3) (Nat.pos_of_ne_zero hsz0) r2 (aab _ _ _) (λ_=>Nat.le_refl _) (aaC (aab _ _ none)) (λg hg=>by cases hg) (λg hg=>by cases hg;exact .inl (Nat.le_refl _)) (λj hj=>aaq c1) (λj q c v hj hq hv=> ?_) (by rw[hd];rfl) rfl rfl⟩;have hql:q<i.size:=by
  have:=(List.getElem?_eq_some_iff.1 hq).1;rw[aaq c1] at this;exact this
 have hmod:(j*i.size+q)%z'.cells.size=q:=by
  rw[hzs,Nat.mul_comm,Nat.mul_add_mod,Nat.mod_eq_of_lt hql]
 have hlt:q<z'.cells.toList.length:=by simpa[hzs] using hql
 have e:v=z'.cells.toList[q]:=by
  simp only[madeCells,Array.toList_map,Array.toList_range,List.getElem?_map] at hv;rw[List.getElem?_range (by
   have:=Nat.mul_le_mul_right i.size (Nat.succ_le_of_lt (show j<a' by simpa using hj));rw[Nat.succ_mul] at this;omega)] at hv
  simp only[Option.map_some,Option.some.injEq] at hv;rw[<- hv,hmod];simp[getElem!_pos,hzs,hql]
 rw[e];exact hcl.2 q c _ hq (List.getElem?_eq_getElem hlt)
theorem ar7 {P:Program} {T e:TypeId} {ie:TypeInfo} (w:World) (hu:P.underlying T=some (.slice e)) (hi:P.info? e=some ie) (ad:Option Addr) (n c:Nat) (lo hi':Option Value) (a b:Int)
  (hlo:lo=none/\a=0\/∃ k,lo=some (.int k a)) (hhi:hi'=none/\b=n\/∃ k,hi'=some (.int k b)) (h:0<=a/\a<=b/\b<=n) (hnc:n<=c) :
  (Instr.slice T (.slice ad n c) lo hi' none).run P w= .ok (.slice (if c=a.toNat then ad else ad.map (·.add (a.toNat*ie.size))) (b.toNat-a.toNat) (c-a.toNat)) w:=by
 have hz:(sizeOf e).run P w= .ok ie.size w:=by simp[sizeOf,typeInfo,hi]
 have sb:∀ (k:IntKind) (i:Int) (y:Nat) (code:BoundsCode),0<=i->i<=y->(Instr.sliceBound (.int k i) y code).run P w= .ok i.toNat w:=λk i y code h0 h1=>by simp[Instr.sliceBound,asIntOf,h0,h1]
 have key:(Instr.sliceBounds true n c lo hi' none).run P w= .ok (a.toNat,b.toNat,c) w:=by
  rcases hlo with ⟨rfl,rfl⟩ | ⟨k,rfl⟩<;>rcases hhi with ⟨rfl,rfl⟩ | ⟨k',rfl⟩
  ·simp[Instr.sliceBounds]
  ·simp[Instr.sliceBounds,sb k' b c _ (by omega) (by omega)]
  ·simp[Instr.sliceBounds,sb k a n _ (by omega) (by omega)]
  ·simp[Instr.sliceBounds,sb k' b c _ (by omega) (by omega),sb k a b.toNat _ (by omega) (by omega)]
 simp only[Instr.slice,Sem.run_bind,run_underlying hu,Result.andThen_ok,key,hz,Sem.run_pure]
theorem agQ (V:ad6 B R G F a w) {d x:Int} {o:Option Operand} (h:bnd R d o=some x):(o.map a.eval=none/\x=d)\/∃ k,o.map a.eval=some (.int k x):=by
 cases o with
 |none=>cases h;exact .inl ⟨rfl,rfl⟩
 |some o=>
  simp only[bnd] at h;split at h
  ·rename_i k y hy;cases h;exact .inr ⟨k,by rw[Option.map_some,(abm (aal (opnd_ok V hy))).1]⟩
  ·cases h
theorem ahY {T:TypeId} (h:afE P T=true):P.underlying T=some .string:=by
 unfold afE at h;split at h
 ·assumption
 ·cases h
theorem aq1 {T:TypeId} {x i:Operand} (ho:o.op= .index T x i) (h:ajY P R T x i=some e) (hp:aca e.ps):ada P D B o R (e.rc o.dst rs br):=by
 unfold ajY at h;split at h
 ·rename_i s k a hT hx hi;cases h;obtain⟨⟨h1,h2⟩,_⟩:=hp;refine aaz rfl λG F ac w V=> ?_;have ex:=(abm (aal (opnd_ok V hx))).1;have ei:=(abm (aal (opnd_ok V hi))).1;have hlt:a.toNat<s.size:=by omega
  refine⟨.int .u8 (ajx s a.toNat),?_,λav' hav=>by cases hav;exact aaG (GOk.of (.v _ rfl))⟩;simp only[execOp,ho,ex,ei];refine aas ?_;rw[run_index_string w T s k a (ahY hT),dif_pos ⟨h1,h2⟩,ajx,dif_pos hlt]
 ·cases h
theorem aoU (w:World) {T:TypeId} (hT:P.underlying T=some .string) (s:ByteArray) (lo hi:Option Value) (a b:Int) (hlo:(lo=none/\a=0)\/∃ k,lo=some (.int k a)) (hhi:(hi=none/\b=s.size)\/∃ k,hi=some (.int k b)) (hb:0<=a/\a<=b/\b<=s.size) :
  (Instr.slice T (.string s) lo hi none).run P w= .ok (.string (s.extract a.toNat b.toNat)) w:=by
 have sb:∀ (k:IntKind) (i:Int) (y:Nat) (code:BoundsCode),0<=i->i<=y->(Instr.sliceBound (.int k i) y code).run P w= .ok i.toNat w:=λk i y code h0 h1=>by simp[Instr.sliceBound,asIntOf,h0,h1]
 have key:(Instr.sliceBounds false s.size s.size lo hi none).run P w= .ok (a.toNat,b.toNat,s.size) w:=by
  rcases hlo with ⟨rfl,rfl⟩ | ⟨k,rfl⟩<;>rcases hhi with ⟨rfl,rfl⟩ | ⟨k',rfl⟩
  ·simp[Instr.sliceBounds]
  ·simp[Instr.sliceBounds,sb k' b s.size _ (by omega) (by omega)]
  ·simp[Instr.sliceBounds,sb k a s.size _ (by omega) (by omega)]
  ·simp[Instr.sliceBounds,sb k' b s.size _ (by omega) (by omega),sb k a b.toNat _ (by omega) (by omega)]
 simp only[Instr.slice,Sem.run_bind,run_underlying hT,Result.andThen_ok];show Sem.run P (do
  let __x <- Instr.sliceBounds false s.size s.size lo hi none
  pure (Value.string (s.extract __x.fst __x.2.fst))) w=_
 simp only[Sem.run_bind,key,Result.andThen_ok,Sem.run_pure]
theorem aq0 {T:TypeId} {x:Operand} {lo hi:Option Operand} (ho:o.op= .slice T x lo hi none) (hT:afE P T=true) (h:ajX R x lo hi=some e) (hp:aca e.ps):ada P D B o R (e.rc o.dst rs br):=by
 unfold ajX at h;split at h
 ·rename_i s hx;split at h
  ·rename_i a b ha hb;cases h;obtain⟨h1,_⟩:=hp;refine aaz rfl λG F ac w V=> ?_;have ex:=(abm (aal (opnd_ok V hx))).1;refine⟨.string (s.extract a.toNat b.toNat),?_,λav' hav=>by cases hav;exact aaG (GOk.of (.v _ rfl))⟩;simp only[execOp,ho,ex];refine aas ?_;rw[Option.map_none,run_sliceAt_string (w:=w) _ _ _ _ _ (ahY hT)];exact aoU w (ahY hT) s _ _ a b (agQ V ha) (agQ V hb) h1
  ·cases h
 ·cases h
theorem aq3 {T eT:TypeId} {ie:TypeInfo} {x:Operand} {lo hi:Option Operand} {sz n:Nat} {el:Nat->List aaa} {p q:Int} (ho:o.op= .slice T x lo hi none) (hx:ab3 R x=some (.s false [.row sz n el])) (hs:abb P T=some (eT,ie)) (hlo:bnd R 0 lo=some p) (hhi:bnd R n hi=some q) (hsz:Nat.beq ie.size sz=true) (hp:aca e.ps)
  (h:e= { val:=some (.s false [.row sz (q.toNat-p.toNat) λi=>el (i+p.toNat)]),ps:=[0<=p/\p<=q/\q<=n] }):ada P D B o R (e.rc o.dst rs br):=by
 subst h;obtain⟨hb,_⟩:=hp;have hz:=aaq hsz;have hi:P.info? eT=some ie/\P.underlying T=some (.slice eT):=by
  unfold abb at hs;split at hs
  ·rename_i e' hu;split at hs
   ·rename_i i' hi';cases hs;exact⟨hi',hu⟩
   ·cases hs
  ·cases hs
 have hel:P.underlying T=some (.slice (P.elem T)):=by
  have:P.elem T=eT:=by simp[Program.elem,hi.2]
  rw[this];exact hi.2
 refine aaz rfl λG F a w V=> ?_;have hv0:GOk G F w (.row sz n el) (a.eval x):=aal (opnd_ok V hx);have hv:COk F w (.row sz n el) (a.eval x):=hv0;have run:∀ (ad:Option Addr) (c:Nat),a.eval x= .slice ad n c->n<=c->(execOp a.eval o).run P w= .ok (.value (.slice (if c=p.toNat then ad else ad.map (·.add (p.toNat*ie.size))) (q.toNat-p.toNat) (c-p.toNat))) w:=by
  intro ad c e1 hnc;simp only[execOp,ho,e1];refine aas ?_;rw[Option.map_none,run_sliceAt_slice (w:=w) _ _ _ _ _ hel];exact ar7 w hi.2 hi.1 ad n c _ _ p q (agQ V hlo) (agQ V hhi) hb hnc
 generalize hX:a.eval x=X at hv run;cases hv with
 |row0=>
  have h0:q.toNat-p.toNat=0:=by omega
  refine⟨_,run _ _ rfl (Nat.zero_le _),λav hav=> ?_⟩;cases hav;refine aaG (GOk.of ?_);rw[h0];exact .row0
 |row vals hF hn hl hc hoc=>
  rename_i g off c;refine⟨_,run _ _ rfl hn,λav hav=> ?_⟩;cases hav;refine aaG (GOk.of ?_);by_cases hcp:c=p.toNat
  ·have h0:q.toNat-p.toNat=0:=by omega
   rw[h0];exact .row0
  ·rw[if_neg hcp,Option.map_some,Addr.add_lit,hz];refine .row (λi j=>vals (i+p.toNat) j) hF (by omega) (λi hi'=>hl _ (by omega)) (λi j hi' hj=> ?_) λi j c' hi' hj=>hoc _ j c' (by omega) hj;have:=hc (i+p.toNat) j (by omega) hj;rw[show off+p.toNat*sz+i*sz+j=off+(i+p.toNat)*sz+j by rw[Nat.add_mul];omega];exact this
theorem aeC {c:aaa} {b:Bool} {u:Value} (h:ak0 c=some b) (hv:GOk G F w c u):u= .bool b:=by
 unfold ak0 at h;split at h
 ·cases h;have h3:COk F w .t u:=hv;cases h3;rfl
 ·cases h;have h3:COk F w .f u:=hv;cases h3;rfl
 ·cases h;exact (abm hv).1
 ·cases h
theorem adA {c:aaa} {s:ByteArray} {u:Value} (h:ap2 c=some s) (hv:GOk G F w c u):u= .string s:=by
 unfold ap2 at h;split at h
 ·cases h;exact (abm hv).1
 ·cases h
theorem axq {op:BinOp} {T yT:TypeId} {x y:Operand} {c c':aaa} (ho:o.op= .binOp op T x y yT) (hx:ab3 R x=some (.s false [c])) (hy:ab3 R y=some (.s false [c'])) (h:atl P op T c c'=some e) (hp:aca e.ps):ada P D B o R (e.rc o.dst rs br):=by
 unfold atl at h;split at h
 ·rename_i a b ha hb;split at h
  ·rename_i hT;have hu:P.underlying T=some .bool:=by
    unfold aon at hT;split at hT
    ·assumption
    ·cases hT
   have hq:∀ w,(Op.equal T (.bool a) (.bool b)).run P w= .ok (a == b) w:=λw=>by
    show (Op.equalIn (9999+1) T _ _).run P w=_;rw[Op.equalIn];simp[run_underlying hu]
   split at h
   ·cases h;refine aaz rfl λG F a0 w V=>⟨.bool (a == b),?_,λav hav=>by cases hav;exact aaG (GOk.of (.v _ rfl))⟩
    have h1:=aeC ha (aal (opnd_ok V hx));have h2:=aeC hb (aal (opnd_ok V hy));simp only[execOp,ho,h1,h2];refine aas ?_;simp[eqGuard,binOp,hq]
   ·cases h;refine aaz rfl λG F a0 w V=>⟨.bool !(a == b),?_,λav hav=>by cases hav;exact aaG (GOk.of (.v _ rfl))⟩
    have h1:=aeC ha (aal (opnd_ok V hx));have h2:=aeC hb (aal (opnd_ok V hy));simp only[execOp,ho,h1,h2];refine aas ?_;simp[eqGuard,binOp,hq]
   ·cases h
  ·cases h
 ·split at h
  ·rename_i a b ha hb;split at h
   ·cases h;refine aaz rfl λG F a0 w V=>⟨.bool (a.toList == b.toList),?_,λav hav=>by cases hav;exact aaG (GOk.of (.v _ rfl))⟩
    have h1:=adA ha (aal (opnd_ok V hx));have h2:=adA hb (aal (opnd_ok V hy));simp only[execOp,ho,h1,h2];refine aas ?_;simp[eqGuard,binOp,Op.stringOp]
   ·cases h;refine aaz rfl λG F a0 w V=>⟨.bool !(a.toList == b.toList),?_,λav hav=>by cases hav;exact aaG (GOk.of (.v _ rfl))⟩
    have h1:=adA ha (aal (opnd_ok V hx));have h2:=adA hb (aal (opnd_ok V hy));simp only[execOp,ho,h1,h2];refine aas ?_;simp[eqGuard,binOp,Op.stringOp]
   ·cases h;obtain⟨hp1,_⟩:=hp;refine aaz rfl λG F a0 w V=>⟨.string (a++b),?_,λav hav=>by cases hav;exact aaG (GOk.of (.v _ rfl))⟩
    have h1:=adA ha (aal (opnd_ok V hx));have h2:=adA hb (aal (opnd_ok V hy));simp only[execOp,ho,h1,h2];refine aas ?_;have hm:¬ ((a.size+b.size:Nat):Int)>IntKind.i64.max:=by
     have:IntKind.i64.max=9223372036854775807:=by rfl
     rw[this];omega
    simp only[eqGuard,binOp,Op.stringOp,if_neg hm];simp
   ·cases h
  ·cases h
theorem axs {T:TypeId} {x:Operand} {at_:Array TypeId} {args:Array Operand} (ho:o.op= .call { callee:= .builtin .len,args:=args,argTypes:=at_ }) (ha:args.toList=[x]) (hT:at_.toList=[T]) (h:atm P R T x=some e):ada P D B o R (e.rc o.dst rs br):=by
 have ea:args= #[x]:=by rw[<- Array.toArray_toList (xs:=args),ha]
 have eT:at_= #[T]:=by rw[<- Array.toArray_toList (xs:=at_),hT]
 subst ea eT;have run:∀ (a:Act) (w:World) (p:Option Addr) (n c:Nat) (y:TypeId × TypeInfo),abb P T=some y->a.eval x= .slice p n c->(execOp a.eval o).run P w= .ok (.value (.int .i64 n)) w:=λa w p n c y hs hx=>by
  unfold abb at hs;split at hs
  ·rename_i e' hu;have:(Builtin.len_ #[T] o.type #[.slice p n c]).run P w= .ok (goInt n) w:=by simp[Builtin.len_,run_underlying hu]
   simp[execOp,ho,resolve,invoke,builtin,hx,this,goInt]
  ·cases hs
 unfold atm at h;split at h
 ·rename_i k hx;split at h
  ·rename_i eT' sz n el y hb hs;cases h;refine aaz rfl λG F a w V=> ?_;obtain⟨u,eu,xs,h5,_⟩:=V.bk k _ hb;have hk:a.eval x=u:=by rw[((aal (opnd_ok V hx)):GOk G F w (.hd k) _).1,eu];rfl
   refine⟨.int .i64 n,?_,λav hav=>by cases hav;exact aaG (GOk.of (.v _ rfl))⟩;obtain⟨_,⟨e1,hn0⟩ | ⟨g,cap,cur,e1,_⟩⟩:=h5
   ·rw[e1] at hk;subst hn0;exact run a w _ _ _ _ hs hk
   ·rw[e1] at hk;exact run a w _ _ _ _ hs hk
  ·rename_i eT' sz n el nms y hb hs;cases h;refine aaz rfl λG F a w V=> ?_;obtain⟨u,eu,⟨xs,h5,_⟩,_⟩:=V.bk k _ hb;have hk:a.eval x=u:=by rw[((aal (opnd_ok V hx)):GOk G F w (.hd k) _).1,eu];rfl
   refine⟨.int .i64 n,?_,λav hav=>by cases hav;exact aaG (GOk.of (.v _ rfl))⟩;obtain⟨_,⟨e1,hn0⟩ | ⟨g,cap,cur,e1,_⟩⟩:=h5
   ·rw[e1] at hk;subst hn0;exact run a w _ _ _ _ hs hk
   ·rw[e1] at hk;exact run a w _ _ _ _ hs hk
  ·cases h
 ·rename_i sz n el hx;split at h
  ·rename_i y hs;cases h;refine aaz rfl λG F a w V=> ?_;have hk0:=aal (opnd_ok V hx);have hk:COk F w (.row sz n el) (a.eval x):=hk0;refine⟨.int .i64 n,?_,λav hav=>by cases hav;exact aaG (GOk.of (.v _ rfl))⟩;generalize hu:a.eval x=u at hk;cases hk with
   |row0=>exact run a w _ _ _ _ hs hu
   |row vals hF hn hl hc hoo=>exact run a w _ _ _ _ hs hu
  ·cases h
 ·rename_i hx;split at h
  ·rename_i y hs;cases h;refine aaz rfl λG F a w V=> ?_;exact⟨.int .i64 0,run a w _ _ _ _ hs (abm (aal (opnd_ok V hx))).1,λav hav=>by cases hav;exact aaG (GOk.of (.v _ rfl))⟩
  ·cases h
 ·rename_i k sz a0 n hx;split at h
  ·rename_i y hs;cases h;refine aaz rfl λG F a w V=> ?_;refine⟨.int .i64 n,?_,λav hav=>by cases hav;exact aaG (GOk.of (.v _ rfl))⟩;have hk:abw G F w (.pt k sz a0 n) (a.eval x):=(aal (opnd_ok V hx):GOk G F w (.pt k sz a0 n) _)
   rcases hk with ⟨rfl,p,c,e1⟩ | ⟨_,g,m,c,_,_,e1⟩
   ·exact run a w _ _ _ _ hs e1
   ·exact run a w _ _ _ _ hs e1
  ·cases h
 ·rename_i s hx;split at h
  ·rename_i hT;cases h;have hu:P.underlying T=some .string:=by
    unfold afE at hT;split at hT
    ·assumption
    ·cases hT
   refine aaz rfl λG F a w V=> ?_;refine⟨.int .i64 s.size,?_,λav hav=>by cases hav;exact aaG (GOk.of (.v _ rfl))⟩;have e1:=(abm (aal (opnd_ok V hx))).1;have:(Builtin.len_ #[T] o.type #[.string s]).run P w= .ok (goInt s.size) w:=by simp[Builtin.len_,run_underlying hu]
   simp[execOp,ho,resolve,invoke,builtin,e1,this,goInt]
  ·cases h
 ·rename_i x0 s0 hx;split at h
  ·rename_i y hs;cases h;refine aaz rfl λG F a w V=> ?_;have hk:COk F w (.z x0 s0 0) (a.eval x):=(aal (opnd_ok V hx):GOk G F w (.z x0 s0 0) _)
   refine⟨.int .i64 (limbs x0.natAbs).length,?_,λav hav=>by cases hav;exact aaG (GOk.of (.v _ rfl))⟩;generalize hu:a.eval x=u at hk;cases hk with
   |z h0 _=>
    obtain⟨p,h1,_⟩:=h0;rw[h1] at hu;exact run a w _ _ _ _ hs hu
  ·cases h
 ·rename_i x0 hx;split at h
  ·rename_i y hs;cases h;refine aaz rfl λG F a w V=> ?_;have hk:COk F w (.m x0) (a.eval x):=(aal (opnd_ok V hx):GOk G F w (.m x0) _)
   refine⟨.int .i64 (Dec.limbs x0).length,?_,λav hav=>by cases hav;exact aaG (GOk.of (.v _ rfl))⟩;generalize hu:a.eval x=u at hk;cases hk with
   |m h0=>
    generalize (Dec.limbs x0).length=n at h0 ⊢;cases h0 with
    |row0=>exact run a w _ _ _ _ hs hu
    |row=>exact run a w _ _ _ _ hs hu
  ·cases h
 ·cases h
theorem axr {S T eT T':TypeId} {x:Operand} {k n:Nat} {el:Nat->List aaa} (ho:o.op= .convert S T x) (hx:ab3 R x=some (.s false [.hd k])) (hS:P.underlying S=some (.slice eT)) (hT:P.underlying T=some .string) (hb:R.b k=some (.row T' 1 n el)) (he:P.underlying eT=some (.int .u8)) (hp:∀ i,i<n->∃ x,el i=[.v (.int .u8 x)]) :
  ada P D B o R (Eff.rc { val:=some (.s false [.v (.string (amU n el))]),ps:=[∀ i,i<n->∃ x,el i=[.v (.int .u8 x)]] } o.dst rs br):=by
 refine aaz rfl λG F a w V=> ?_;obtain⟨u,eu,xs,h5,hTn,_,hl,hoo⟩:=V.bk k _ hb;have hk:a.eval x=u:=by rw[((aal (opnd_ok V hx)):GOk G F w (.hd k) _).1,eu];rfl
 have hcs:=λg hg=>h5.cells (g:=g) hg;refine⟨.string (amU n el),?_,λav hav=>by cases hav;exact aaG (GOk.of (.v _ rfl))⟩;obtain⟨hlen,⟨e1,hn0⟩ | ⟨g,cap,cur,e1,_⟩⟩:=h5
 ·subst hn0;rw[e1] at hk;simp only[execOp,ho,hk];refine aas ?_;rw[run_convert_bytes_string w S T eT none 0 0 hS he hT];rfl
 ·rw[e1] at hk hcs;simp only[execOp,ho,hk];refine aas ?_;rw[run_convert_bytes_string w S T eT _ n cap hS he hT];have hx:∀ i,i<n->xs[i]? =some (.int .u8 (afF (el i))):=λi hi=>by
   obtain⟨y,hy⟩:=hp i hi;have hix:i<xs.length:=by rw[hlen];omega
   have h9:=hoo i 0 (.v (.int .u8 y)) xs[i] hi (by rw[hy];rfl) (by rw[Nat.mul_one,Nat.add_zero];exact List.getElem?_eq_getElem hix);have h10:xs[i]= .int .u8 y:=by
    generalize xs[i]=z at h9;cases h9;rfl
   rw[List.getElem?_eq_getElem hix,h10,hy];rfl
  have hxs:xs=((List.range n).map λi=>afF (el i)).map (Value.int .u8):=by
   apply List.ext_getElem?;intro i;rw[List.map_map,List.getElem?_map];rcases Nat.lt_or_ge i n with hi | hi
   ·rw[hx i hi,List.getElem?_range hi];rfl
   ·rw[List.getElem?_eq_none (by omega),List.getElem?_eq_none (by simpa using hi)];rfl
  refine run_bytesToString w _ n cap ((List.range n).map λi=>afF (el i)) ?_;rw[<- hxs];have:=run_loadCells_list (P:=P) (w:=w) ⟨g,0,none⟩ xs (hcs g rfl);rw[hlen,Nat.mul_one] at this;exact this
theorem aq4 {T eT:TypeId} {ie:TypeInfo} {x:Operand} {lo hi:Option Operand} {T' sz n k:Nat} {el:Nat->List aaa} {p q:Int} (ho:o.op= .slice T x lo hi none) (hx:ab3 R x=some (.s false [.hd k])) (hb:R.b k=some (.row T' sz n el)) (hs:abb P T=some (eT,ie)) (hlo:bnd R 0 lo=some p) (hhi:bnd R n hi=some q) (hsz:Nat.beq ie.size sz=true) (hp:aca e.ps)
  (h:e= { val:=some (.s false [.pt k sz p.toNat (q.toNat-p.toNat)]),ps:=[0<=p/\p<=q/\q<=n] }):ada P D B o R (e.rc o.dst rs br):=by
 subst h;obtain⟨hb3,_⟩:=hp;have hz:=aaq hsz;have hi:P.info? eT=some ie/\P.underlying T=some (.slice eT):=by
  unfold abb at hs;split at hs
  ·rename_i e' hu;split at hs
   ·rename_i i' hi';cases hs;exact⟨hi',hu⟩
   ·cases hs
  ·cases hs
 have hel:P.underlying T=some (.slice (P.elem T)):=by
  have:P.elem T=eT:=by simp[Program.elem,hi.2]
  rw[this];exact hi.2
 refine aaz rfl λG F a w V=> ?_;have run:∀ (ad:Option Addr) (c:Nat),a.eval x= .slice ad n c->n<=c->(execOp a.eval o).run P w= .ok (.value (.slice (if c=p.toNat then ad else ad.map (·.add (p.toNat*ie.size))) (q.toNat-p.toNat) (c-p.toNat))) w:=by
  intro ad c e1 hnc;simp only[execOp,ho,e1];refine aas ?_;rw[Option.map_none,run_sliceAt_slice (w:=w) _ _ _ _ _ hel];exact ar7 w hi.2 hi.1 ad n c _ _ p q (agQ V hlo) (agQ V hhi) hb3 hnc
 obtain⟨u,eu,xs,h5,_⟩:=V.bk k _ hb;have hk:a.eval x=u:=by rw[((aal (opnd_ok V hx)):GOk G F w (.hd k) _).1,eu];rfl
 obtain⟨_,⟨e1,hn0⟩ | ⟨g,cap,cur,e1,_,_,hc,_⟩⟩:=h5
 ·subst hn0;rw[e1] at hk;refine⟨_,run _ _ hk (Nat.le_refl _),λav hav=> ?_⟩;cases hav;have h0:q.toNat-p.toNat=0:=by omega
  rw[h0];exact aaG (.inl ⟨rfl,_,_,rfl⟩)
 ·rw[e1] at hk;refine⟨_,run _ _ hk hc,λav hav=> ?_⟩;cases hav;rcases Nat.eq_zero_or_pos (q.toNat-p.toNat) with h0 | h0
  ·rw[h0];exact aaG (.inl ⟨rfl,_,_,rfl⟩)
  ·refine aaG (.inr ⟨h0,g,n,cap,by rw[eu];exact e1,by omega,?_⟩);rw[if_neg (by omega),Option.map_some,Addr.add_lit,hz,Nat.zero_add]
theorem aq6 {T:TypeId} {x:Operand} {at_:Array TypeId} {args:Array Operand} (ho:o.op= .call { callee:= .builtin .clear,args:=args,argTypes:=at_ }) (ha:args.toList=[x]) (hT:at_.toList=[T]) (h:aj0 P R T x=some e) (hp:aca e.ps):ada P D B o R (e.rc o.dst rs br):=by
 have ea:args= #[x]:=by rw[<- Array.toArray_toList (xs:=args),ha]
 have eT:at_= #[T]:=by rw[<- Array.toArray_toList (xs:=at_),hT]
 subst ea eT;unfold aj0 at h;split at h
 ·rename_i k sz a0 n hx;split at h
  ·rename_i T' sz' m el eT ie hb hs;split at h
   ·rename_i z hz;split at h
    ·rename_i hc;cases h;simp only[Bool.and_eq_true] at hc;obtain⟨⟨⟨c1,c2⟩,c3⟩,c4⟩:=hc;have:=aaq c1;subst this;obtain⟨hp1,_⟩:=hp;obtain⟨i,z',h1,h2,h4,h3⟩:=adz hz;have hi:P.info? eT=some ie/\P.underlying T=some (.slice eT):=by
      unfold abb at hs;split at hs
      ·rename_i e' hu;split at hs
       ·rename_i i' hi';cases hs;exact⟨hi',hu⟩
       ·cases hs
      ·cases hs
     intro G F a w V;have hk:abw G F w (.pt k sz a0 n) (a.eval x):=(aal (opnd_ok V hx):GOk G F w (.pt k sz a0 n) _)
     have hzv:(zeroValue eT).run P w= .ok z' w:=by simp[zeroValue,typeInfo,h1,h2]
     rcases hk with ⟨rfl,ad,c,e1⟩ | ⟨h0,g,m',c,e1,e3,e4⟩
     ·have run:(execOp a.eval o).run P w= .ok (.value (.tuple #[])) w:=by
       have:(Builtin.clear_ #[T] o.type #[.slice ad 0 c]).run P w= .ok (.tuple #[]) w:=by
        cases ad<;>simp[Builtin.clear_,run_underlying hi.2]
       simp[execOp,ho,resolve,invoke,builtin,e1,this]
      refine abC run ⟨G,F,acJ.set1 V hb rfl rfl (λ_ _=>rfl) rfl ⟨rfl,rfl,rfl⟩ (λ_=>Nat.le_refl _) (aaR.refl _) λ_=> ?_⟩;have hf:(λj=>if a0<=j/\j<a0+0 then z else el j)=el:=by
       funext j;rw[if_neg (by omega)]
      rw[hf];exact V.bk k _ hb
     ·obtain⟨g',c',e5,cur,hh,hfit,hpost⟩:=acJ.clrRw (v:= .tuple #[]) (r:=Eff.rc { set:=[(k,.row T' sz m λj=>if a0<=j/\j<a0+n then z else el j)],ps:=[a0+n<=m] } o.dst rs br) V hb h0 hp1 (abu.cl (h3 G F w) c4) (aaq c3) rfl rfl;rw[e1] at e5;cases e5;refine abC ?_ ⟨G,F,hpost⟩;have hzs:z'.cells.size=sz:=by
       have:=aaq c3;rw[h4] at this;simpa using this
      have hzp:0<z'.cells.size:=by
       obtain⟨u,eu,xs,h5,hT0,hs0,_⟩:=V.bk k _ hb;omega
      have hzc:(Builtin.zeroCells z'.cells n).toList=(List.replicate n z'.cells.toList).flatten:=ai0 z'.cells n hzp;have h1c:∀ v∈(List.replicate n z'.cells.toList).flatten,v.oneCell'=true:=λv hv=>by
       obtain⟨l,hl,hvl⟩:=List.mem_flatten.1 hv;rw[List.eq_of_mem_replicate hl] at hvl;exact (h3 G F w).one v hvl
      have hst:=run_storeCells_at (P:=P) g (a0*sz) T' (List.replicate n z'.cells.toList).flatten 0 cur w hh (by simpa using hfit) h1c;simp only[Nat.add_zero] at hst;obtain⟨n',rfl⟩:∃ n',n=n'+1:=⟨n-1,by omega⟩
      have:(Builtin.clear_ #[T] o.type #[.slice (some ⟨g,a0*sz,none⟩) (n'+1) (c-a0)]).run P w= .ok (.tuple #[]) (w.setRow g (cur.toList.take (a0*sz)++(List.replicate (n'+1) z'.cells.toList).flatten++cur.toList.drop (a0*sz+(List.replicate (n'+1) z'.cells.toList).flatten.length)).toArray):=by
       simp only[Builtin.clear_,List.getElem?_toArray,List.getElem?_cons_zero,Sem.run_bind,run_underlying hi.2,Result.andThen_ok,hzv,hzc,hst,Sem.run_pure]
      simp[execOp,ho,resolve,invoke,builtin,e4,this]
    ·cases h
   ·cases h
  ·cases h
 ·cases h
end
end Go.Proofs.YtcmplpkmfbhpdaaGreat
namespace Go.Proofs.YtcmplpkmfbhpdaaGreat
open Go Go.RowKit
section
variable {P:Program} {D:Prop} {B:Nat} {R:FS} {G:Nat->GV} {F:Nat->Prop} {a:Act} {w:World} {o:Oper} {e:Eff} {rs br:List Nat}
theorem alO {k:Nat} : ∀ {l:List Nat},has l k=true↔k∈l
 |[]=>by simp[has]
 |a::l=>by
  simp only[has,List.mem_cons];split
  ·rename_i e;exact⟨λ_=> .inl (aaq e).symm,λ_=>rfl⟩
  ·rename_i e;rw[alO (l:=l)];exact⟨.inr,λh=>h.elim (λh=>absurd h.symm (aaY e)) id⟩
theorem ant {α:Type _} {a b j:Nat} {x y z:α} (h:lk [(a,x),(b,y)] j=some z):(a=j/\x=z)\/(b=j/\y=z):=by
 simp only[lk] at h;split at h
 ·rename_i e;cases h;exact .inl ⟨aaq e,rfl⟩
 ·split at h
  ·rename_i e;cases h;exact .inr ⟨aaq e,rfl⟩
  ·cases h
theorem adv {v:Value} {n:Nat} {xs:List Value} {B:Nat} {t ty e:TypeId} {i:TypeInfo} {z:Value} (hu:P.underlying t=some (.slice e)) (hi:P.info? e=some i) (hz:i.zero=some z) (hown:w.ownsRow B e i.size v n xs)
  {ad:Addr} {m c:Nat} {news:List Value} (hl:news.length=m*i.size) (hnews:∀ j u,news[j]? =some u->w.cell? (ad.add j)=some u) (h1:∀ u∈news,u.oneCell'=true) (hm0:0<m) (hb:(n+m)*i.bytes<=140737488355328) (h63:n+m<=maxLen)
  {u:Value} {w':World} (hr:(Builtin.append_ #[t,t] ty #[v,.slice (some ad) m c]).run P w= .ok u w'):∀ g,u.ownBlock=some g->w.heap.size<=g\/v.ownBlock=some g:=by
 intro g hg;have hsmall:n+m<=9223372036854775807:=by simp only[maxLen] at h63;omega
 have hcs:=λg hg=>hown.cells (g:=g) hg;obtain⟨hx,⟨rfl,rfl⟩ | ⟨g0,cap,cur,rfl,hbg,hh,hnc,hcm,hcs2,htake⟩⟩:=hown
 ·have:=run_append_nil (P:=P) w t ty e i z hu hi hz ad m c news hl hnews hm0 (by omega) (by rw[Nat.zero_add] at hb;omega);rw[this] at hr;cases hr;cases hg;exact .inl (Nat.le_refl _)
 ·by_cases hroom:n+m<=cap
  ·have hfit:n*i.size+news.length<=cur.size:=by rw[hl,hcs2,<- Nat.add_mul];exact Nat.mul_le_mul_right _ hroom
   have:=run_append_room (P:=P) w t ty e i hu hi g0 n cap cur hh ad m c news hl hnews h1 hroom hfit;rw[this] at hr;cases hr;cases hg;exact .inr rfl
  ·have:=run_append_grow (P:=P) w t ty e i z hu hi hz ⟨g0,0,none⟩ n cap xs hx (hcs g0 rfl) ad m c news hl hnews (by omega) (by omega) (growslice_fits (by omega) hb);rw[this] at hr;cases hr;cases hg;exact .inl (Nat.le_refl _)
theorem adx {P:Program} {w:World} (t ty e:TypeId) (i:TypeInfo) (ht:P.underlying t=some (.slice e)) (hi:P.info? e=some i) (b:Option Addr) (n cap:Nat) (hn:n<=cap) (xa:Option Addr) (c:Nat) :
  (Builtin.append_ #[t,t] ty #[.slice b n cap,.slice xa 0 c]).run P w= .ok (.slice b n cap) w:=by
 have hf:(Builtin.firstCells i.size 0 (.slice xa 0 c)).run P w= .ok #[] w:=by
  cases xa with
  |none=>exact run_firstCells_none _ _ _ _ _
  |some a=>exact run_firstCells_some (P:=P) w i.size 0 a 0 c [] (by simp) (λj v h=>by simp at h)
 cases b<;>simp[Builtin.append_,run_underlying ht,sizeOf,typeInfo,hi,Builtin.lenOf,hn,hf,storeCells]
theorem apd {T:TypeId} {s x:Operand} {args:Array Operand} {at_:Array TypeId} (ho:o.op= .call { callee:= .builtin .append,args:=args,argTypes:=at_ }) (ha:args.toList=[s,x]) (hT:at_.toList=[T,T]) (h:ahQ P R T s x o.dst=some e) (hp:aca e.ps):ada P D B o R (e.rc o.dst rs br):=by
 have ea:args= #[s,x]:=by rw[<- Array.toArray_toList (xs:=args),ha]
 have eT':at_= #[T,T]:=by rw[<- Array.toArray_toList (xs:=at_),hT]
 subst ea eT';unfold ahQ at h;split at h
 ·rename_i eT ie t hs hd;have hi:P.info? eT=some ie/\P.underlying T=some (.slice eT):=by
   unfold abb at hs;split at hs
   ·rename_i e' hu;split at hs
    ·rename_i i' hi';cases hs;exact⟨hi',hu⟩
    ·cases hs
   ·cases hs
  split at h
  ·rename_i z hz;split at h
   ·cases h
   ·rename_i hc;simp only[Bool.or_eq_false_iff,Bool.not_eq_false'] at hc;obtain⟨⟨⟨c1,c2⟩,c3⟩,c4⟩:=hc;have hT0:=aaY c1;have hsz0:0<ie.size:=Nat.pos_of_ne_zero (aaY c2);have hby0:0<ie.bytes:=Nat.pos_of_ne_zero (aaY c3);simp only at h;split at h
    ·cases h
    ·rename_i n2 e2 hsrc
     -- what is put behind
     have src:∀ (G:Nat->GV) (F:Nat->Prop) (a:Act) (w:World),ad6 B R G F a w->0<n2->∃ (ad:Addr) (c:Nat) (news:List Value),a.eval x= .slice (some ad) n2 c/\news.length=n2*ie.size/\(∀ j u,news[j]? =some u->w.cell? (ad.add j)=some u)/\(∀ u∈news,u.oneCell'=true)/\(∀ i,i<n2->(e2 i).length=ie.size)/\
       ∀ (i j:Nat) (c:aaa) (v:Value),i<n2->(e2 i)[j]? =some c->news[i*ie.size+j]? =some v->COk F w c v:=by
      intro G F a w V h0;split at hsrc
      ·rename_i k2 hx;split at hsrc
       ·rename_i T2 sz2 n2' e2' hb2;split at hsrc
        ·rename_i hq;cases hsrc;have:=aaq hq;subst this;obtain⟨u2,eu2,xs,h5,hT2,_,h6,h7⟩:=V.bk k2 _ hb2;have hk:a.eval x=u2:=by rw[((aal (opnd_ok V hx)):GOk G F w (.hd k2) _).1,eu2];rfl
         have hcs:=λg hg=>h5.cells (g:=g) hg;have hxl:=h5.1;obtain⟨_,⟨_,hn0⟩ | ⟨g,cap,cur,e1,_⟩⟩:=h5
         ·omega
         rw[e1] at hk hcs;refine⟨_,cap,xs,hk,hxl,hcs g rfl,λu hu=> ?_,h6,h7⟩;obtain⟨q,hq⟩:=List.getElem?_of_mem hu;have hql:q<n2*ie.size:=by rw[<- hxl];exact (List.getElem?_eq_some_iff.1 hq).1
         have hqd:q/ie.size<n2:=(Nat.div_lt_iff_lt_mul hsz0).2 hql;have hqm:=Nat.mod_lt q hsz0;have hee:(e2 (q/ie.size))[q%ie.size]? =some ((e2 (q/ie.size))[q%ie.size]'(by rw[h6 _ hqd];exact hqm)):=List.getElem?_eq_getElem _;exact (h7 _ _ _ u hqd hee (by rw[Nat.mul_comm,Nat.div_add_mod];exact hq)).one
        ·cases hsrc
       ·cases hsrc
      ·rename_i sz2 n2' e2' hx;split at hsrc
       ·rename_i hq;cases hsrc;have:=aaq hq;subst this;have hk0:=aal (opnd_ok V hx);have hk:COk F w (.row ie.size n2 e2) (a.eval x):=hk0;generalize a.eval x=u at hk;cases hk with
        |row0=>omega
        |row vals hF hn hl hcc hoo=>
         rename_i g off c;have hg:∀ q,q<n2*ie.size->q/ie.size<n2/\q%ie.size<ie.size:=λq hq=>⟨(Nat.div_lt_iff_lt_mul hsz0).2 hq,Nat.mod_lt q hsz0⟩
         refine⟨_,c,(List.range (n2*ie.size)).map λq=>vals (q/ie.size) (q%ie.size),rfl,by simp,λj u hj=> ?_,λu hu=> ?_,hl,λi j c v hi hc hv=> ?_⟩
         ·rw[List.getElem?_map] at hj;rcases Nat.lt_or_ge j (n2*ie.size) with hlt | hge
          ·rw[List.getElem?_range hlt] at hj;cases hj;rw[Addr.add_lit];have:=hcc _ _ (hg j hlt).1 (hg j hlt).2;rw[<- this];congr 2
           have:=Nat.div_add_mod j ie.size;rw[Nat.mul_comm] at this;omega
          ·rw[List.getElem?_eq_none (by simpa using hge)] at hj;cases hj
         ·rw[List.mem_map] at hu;obtain⟨q,hq,rfl⟩:=hu;have hq:=List.mem_range.1 hq;have hee:=List.getElem?_eq_getElem (l:=e2 (q/ie.size)) (i:=q%ie.size) (by rw[hl _ (hg q hq).1];exact (hg q hq).2);exact (hoo _ _ _ (hg q hq).1 hee).one
         ·have hj:j<ie.size:=by rw[<- hl i hi];exact (List.getElem?_eq_some_iff.1 hc).1
          have hlt:i*ie.size+j<n2*ie.size:=by
           have:=Nat.mul_le_mul_right ie.size (show i+1<=n2 by omega);rw[Nat.add_mul,Nat.one_mul] at this;omega
          rw[List.getElem?_map,List.getElem?_range hlt] at hv;have e5:(i*ie.size+j)/ie.size=i:=by
           rw[Nat.mul_comm,Nat.mul_add_div hsz0,Nat.div_eq_of_lt hj,Nat.add_zero]
          have e6:(i*ie.size+j)%ie.size=j:=by
           rw[Nat.mul_comm,Nat.mul_add_mod,Nat.mod_eq_of_lt hj]
          simp only[Option.map_some,e5,e6] at hv;cases hv;exact hoo i j c hi hc
       ·cases hsrc
      ·cases hsrc
     have src0:∀ (G:Nat->GV) (F:Nat->Prop) (a:Act) (w:World),ad6 B R G F a w->n2=0->∃ (xa:Option Addr) (c:Nat),a.eval x= .slice xa 0 c:=by
      intro G F a w V h0;split at hsrc
      ·rename_i k2 hx;split at hsrc
       ·rename_i T2 sz2 n2' e2' hb2;split at hsrc
        ·cases hsrc;subst h0;obtain⟨u2,eu2,xs,h5,_⟩:=V.bk k2 _ hb2;have hk:a.eval x=u2:=by rw[((aal (opnd_ok V hx)):GOk G F w (.hd k2) _).1,eu2];rfl
         rw[hk];obtain⟨_,⟨rfl,_⟩ | ⟨g,cap,cur,rfl,_⟩⟩:=h5<;>exact⟨_,_,rfl⟩
        ·cases hsrc
       ·cases hsrc
      ·rename_i sz2 n2' e2' hx;split at hsrc
       ·cases hsrc;subst h0;have hk0:=aal (opnd_ok V hx);have hk:COk F w (.row sz2 0 e2) (a.eval x):=hk0;generalize a.eval x=u at hk;cases hk with
        |row0=>exact⟨_,_,rfl⟩
        |row=>exact⟨_,_,rfl⟩
       ·cases hsrc
      ·cases hsrc
     have bound:∀ n m:Nat,(n+m)*ie.bytes<=140737488355328->n+m<=maxLen:=λn m hb=>by
      have:=Nat.le_mul_of_pos_right (n+m) hby0;unfold maxLen;omega
     have run:∀ (a:Act) (w w':World) (v u:Value) (ad:Option Addr) (m c:Nat),a.eval s=v->a.eval x= .slice ad m c->(Builtin.append_ #[T,T] o.type #[v,.slice ad m c]).run P w= .ok u w'->(execOp a.eval o).run P w= .ok (.value u) w':=λa w w' v u ad m c h1 h2 h3=>by
      simp[execOp,ho,resolve,invoke,builtin,h1,h2,h3]
     split at h
     ·rename_i k hsv;split at h
      ·rename_i eT' sz n el hb;split at h
       ·rename_i hq;cases h;simp only[Bool.and_eq_true,Bool.not_eq_true'] at hq;obtain⟨⟨q1,q2⟩,q3⟩:=hq;have:=aaq q1;subst this;have:=aaq q2;subst this;have hkt:=aaY q3;obtain⟨⟨_,hp2⟩,_⟩:=hp;intro G F a w V;obtain⟨v0,ev0,xs,h5,hTT,h0,h6,h7⟩:=V.bk k _ hb;have hk:a.eval s=v0:=by rw[((aal (opnd_ok V hsv)):GOk G F w (.hd k) _).1,ev0];rfl
        rcases Nat.eq_zero_or_pos n2 with hz2 | hp1
        ·obtain⟨xa,c,hx⟩:=src0 G F a w V hz2;have hob:=abr h5;have hsl:∃ b cap,v0= .slice b n cap/\n<=cap:=by
          obtain⟨_,⟨rfl,rfl⟩ | ⟨g,cap,cur,rfl,_,_,q,_⟩⟩:=h5
          ·exact⟨none,0,rfl,Nat.le_refl _⟩
          ·exact⟨_,cap,rfl,q⟩
         obtain⟨b,cap,rfl,hcap⟩:=hsl;have hr:=adx (P:=P) (w:=w) T o.type eT' ie hi.2 hi.1 b n cap hcap xa c;subst hz2;refine abC (run a w w _ _ xa 0 c hk hx hr) ⟨_,F,acJ.mkRw (row:=aa7 (.slice b n cap)) V hT0 hsz0 h5 (World.grownBy.refl w _) (λ_=>Nat.le_refl _) (aaR.refl w) (λg hgk=>⟨k,by rw[hb];simp,List.mem_singleton.2 rfl,by rw[ev0];exact hgk⟩) (λg hgu=> .inr hgu) (λi hin=> ?_) (λi j cc v hin hce hv=> ?_) (by rw[hd];rfl) rfl rfl⟩
         ·show List.length (if i<n then _ else _)=_;rw[if_pos (show i<n from hin)];exact h6 i hin
         ·simp only[if_pos (show i<n from hin)] at hce;exact h7 i j cc v hin hce hv
        obtain⟨ad,c,news,hx,hl,hnews,hone,hlen2,hval2⟩:=src G F a w V hp1;obtain⟨u,w',hr,ho',hg,_⟩:=run_append_own (P:=P) w B T o.type eT' ie z ie.size ie.bytes hi.2 hi.1 hz rfl rfl (aaq c4) hsz0 v0 n xs h5 ad n2 c news hl hnews hone (bound n n2 hp2) hp2 V.bs;have hxl:=h5.1;have hdr:=abz _ hr;have hob:=abr h5;have hold:∀ g,v0.ownBlock=some g->(G k).o g:=λg hg=>by rw[ev0];show aa7 v0=some g;rw[hob];exact hg
        have hkeep:aaR w w':=by
         intro b cs hbc;refine (hg.block b (Array.getElem?_eq_some_iff.1 hbc).1 λe7=> ?_).trans hbc;obtain⟨_,⟨e8,_⟩ | ⟨g,cap,cur,e8,_,hh,_⟩⟩:=h5
         ·rw[e8] at e7;cases e7
         ·rw[e8] at e7;cases e7;rw[hbc] at hh;injection hh with hh
          injection hh with _ hh
          exact hT0 hh.symm
        have hnewb:∀ g,aa7 u=some g->w.heap.size<=g\/v0.ownBlock=some g:=λg hgu=>by
         rw[abr ho'] at hgu;exact adv hi.2 hi.1 hz h5 hl hnews hone hp1 hp2 (bound n n2 hp2) hr g hgu
        refine abC (run a w w' _ u (some ad) n2 c hk hx hr) ⟨_,F,acJ.mkRw (row:=v0.ownBlock) V hT0 hsz0 ho' hg (λ_=>hdr) hkeep (λg hgk=>⟨k,by rw[hb];simp,List.mem_singleton.2 rfl,hold g hgk⟩) hnewb (λi hin=> ?_) (λi j cc v hin hce hv=> ?_) (by rw[hd];rfl) rfl rfl⟩
        ·show List.length (if i<n then _ else _)=_;split
         ·rename_i hlt;exact h6 i hlt
         ·exact hlen2 _ (by omega)
        ·have hjl:j<ie.size:=by
          have hll:(if i<n then el i else e2 (i-n)).length=ie.size:=by
           split
           ·rename_i hlt;exact h6 i hlt
           ·exact hlen2 _ (by omega)
          rw[<- hll];exact (List.getElem?_eq_some_iff.1 hce).1
         by_cases hlt:i<n
         ·simp only[if_pos hlt] at hce;have:=Nat.mul_le_mul_right ie.size (show i+1<=n by omega);rw[Nat.add_mul,Nat.one_mul] at this;rw[List.getElem?_append_left (by omega)] at hv;exact h7 i j cc v hlt hce hv
         ·simp only[if_neg hlt] at hce;have e9:i*ie.size=n*ie.size+(i-n)*ie.size:=by rw[<- Nat.add_mul];congr 1;omega
          rw[List.getElem?_append_right (by omega),hxl] at hv;exact hval2 (i-n) j cc v (by omega) hce (by rw[<- hv];congr 1;omega)
       ·cases h
      ·cases h
     ·rename_i hsv;cases h;obtain⟨⟨_,hp2⟩,_⟩:=hp;intro G F a w V;have hk:a.eval s= .slice none 0 0:=(abm (aal (opnd_ok V hsv))).1;rcases Nat.eq_zero_or_pos n2 with hz2 | hp1
      ·obtain⟨xa,c,hx⟩:=src0 G F a w V hz2;have hr:=adx (P:=P) (w:=w) T o.type eT ie hi.2 hi.1 none 0 0 (Nat.le_refl _) xa c;subst hz2;exact abC (run a w w _ _ xa 0 c hk hx hr) ⟨_,F,acJ.mkRw (row:=none) V hT0 hsz0 (World.ownsRow_nil _ _ _ _) (World.grownBy.refl w _) (λ_=>Nat.le_refl _) (aaR.refl w) (λg hgk=>by cases hgk) (λg hgu=>by cases hgu) (λi hin=>absurd hin (Nat.not_lt_zero _)) (λi j cc v hin=>absurd hin (Nat.not_lt_zero _)) (by rw[hd];rfl) rfl rfl⟩
      obtain⟨ad,c,news,hx,hl,hnews,hone,hlen2,hval2⟩:=src G F a w V hp1;obtain⟨u,w',hr,ho',hg,_⟩:=run_append_own (P:=P) w B T o.type eT ie z ie.size ie.bytes hi.2 hi.1 hz rfl rfl (aaq c4) hsz0 (.slice none 0 0) 0 [] (World.ownsRow_nil _ _ _ _) ad n2 c news hl hnews hone (bound 0 n2 (by rw[Nat.zero_add];exact hp2)) (by rw[Nat.zero_add];exact hp2) V.bs;rw[Nat.zero_add,List.nil_append] at ho';have hdr:=abz _ hr;have hgn:w.grownBy w' none:=hg;refine abC (run a w w' _ u (some ad) n2 c hk hx hr) ⟨_,F,acJ.mkRw (row:=none) V hT0 hsz0 ho' hgn (λ_=>hdr) (aaC hgn) (λg hgk=>by cases hgk) (λg hgu=> ?_) hlen2 hval2 (by rw[hd];rfl) rfl rfl⟩;rw[abr ho'] at hgu;rcases adv hi.2 hi.1 hz (World.ownsRow_nil _ B _ _) hl hnews hone hp1 (by rw[Nat.zero_add];exact hp2) (bound 0 n2 (by rw[Nat.zero_add];exact hp2)) hr g hgu with h9 | h9
      ·exact .inl h9
      ·cases h9
     ·rename_i k i x0 hsv;split at h
      ·rename_i eT' sz n hc len el nms hb;split at h
       ·rename_i hq;cases h;simp only[Bool.and_eq_true,Bool.not_eq_true'] at hq;obtain⟨⟨⟨q1,q2⟩,q3⟩,q4⟩:=hq;have:=aaq q1;subst this;have:=aaq q2;subst this;have hkt:=aaY q3;have htn:t ∉ nms:=λhm=>by rw[alO.2 hm] at q4;cases q4
        obtain⟨⟨hi1,hi2⟩,⟨hp1,hp2⟩,_⟩:=hp;intro G F a w V;obtain⟨ad,c,news,hx,hl,hnews,hone,hlen2,hval2⟩:=src G F a w V hp1;obtain⟨vs,f1,f2,f3⟩:=V.bk k _ hb;obtain⟨g1,⟨xs,h5,hTT,h0,h6,h7⟩,_⟩:=f1 i _ hi1 hi2;have fhv:∀ {u:Value},abw G F w (.fh k i x0) u->u=x0:=λh=>by
         have h':COk F w (.fh k i x0) _:=h;cases h';rfl
        have hsv':GOk G F w (.fh k i x0) (a.eval s):=aal (opnd_ok V hsv);have hk:a.eval s=vs i:=by rw[fhv g1,fhv hsv']
        obtain⟨u,w',hr,ho',hg,_⟩:=run_append_own (P:=P) w B T o.type eT' ie z ie.size ie.bytes hi.2 hi.1 hz rfl rfl (aaq c4) hsz0 (vs i) (len i) xs h5 ad n2 c news hl hnews hone (bound (len i) n2 hp2) hp2 V.bs;have hxl:=h5.1;have hdr:=abz _ hr;have hob:=abr h5;have hki:hc i≠none:=by rw[hi2];simp
        have hold:∀ g,(vs i).ownBlock=some g->(G k).o g:=λg hg=>(f2 g).2 ⟨i,hi1,hki,by rw[hob];exact hg⟩;have hbn:R.b k≠none:=by rw[hb];simp
        have hkeep:aaR w w':=by
         intro b cs hbc;refine (hg.block b (Array.getElem?_eq_some_iff.1 hbc).1 λe7=> ?_).trans hbc;obtain⟨_,⟨e8,_⟩ | ⟨g,cap,cur,e8,_,hh,_⟩⟩:=h5
         ·rw[e8] at e7;cases e7
         ·rw[e8] at e7;cases e7;rw[hbc] at hh;injection hh with hh
          injection hh with _ hh
          exact hT0 hh.symm
        have hnewb:∀ g,aa7 u=some g->w.heap.size<=g\/aa7 (vs i)=some g:=λg hgu=>by
         rw[abr ho'] at hgu;rw[hob];exact adv hi.2 hi.1 hz h5 hl hnews hone hp1 hp2 (bound (len i) n2 hp2) hr g hgu
        have hu1:u.oneCell'=true:=by
         obtain⟨_,⟨rfl,_⟩ | ⟨g,cap,cur,rfl,_⟩⟩:=ho'<;>rfl
        obtain⟨O,hO⟩:∃ O:Nat->Prop,O=λg=>∃ j,j<n/\(if j=i then some (aaa.hd t) else hc j)≠none/\aa7 (if j=i then u else vs j)=some g:=⟨_,rfl⟩
        obtain⟨G',hG'⟩:∃ G':Nat->GV,G'=upG (upG G t ⟨u,λ_=>False⟩) k ⟨(G k).v,O⟩:=⟨_,rfl⟩
        have hGk:G' k=⟨(G k).v,O⟩:=by rw[hG'];simp[upG]
        have hGt:G' t=⟨u,λ_=>False⟩:=by rw[hG'];simp[upG,Ne.symm hkt]
        have hGo:∀ j,j≠k->j≠t->G' j=G j:=λj h1 h2=>by rw[hG'];simp[upG,h1,h2]
        have hFr:∀ g,F g->some g≠(vs i).ownBlock:=λg hF e2=>V.nf k g hbn (hold g e2.symm) hF;have hst:ae9 G F w G' F w' (λj=>j=t):=by
         refine⟨λj hj=> ?_,λ_ h=>h,hkeep,λb hb=>hg.block b (V.fl b hb) (hFr b hb)⟩;by_cases hjk:j=k
         ·rw[hjk,hGk]
         ·rw[hGo j hjk hj]
        have hOc:∀ g,O g->w.heap.size<=g\/(G k).o g:=λg hOg=>by
         rw[hO] at hOg;obtain⟨j,hj,hne,hb⟩:=hOg;by_cases hji:j=i
         ·rw[if_pos hji] at hb;exact (hnewb g hb).imp id λh=>(f2 g).2 ⟨i,hi1,hki,h⟩
         ·rw[if_neg hji] at hb hne;exact .inr ((f2 g).2 ⟨j,hj,hne,hb⟩)
        have hlt:∀ j,j<n->hc j≠none->∀ g,aa7 (vs j)=some g->g<w.heap.size:=λj hj hne g hb2=>((V.bk k _ hb).lt g ((f2 g).2 ⟨j,hj,hne,hb2⟩)).2;refine abC (run a w w' _ u (some ad) n2 c hk hx hr) ⟨G',F,λj hj=> ?_,λj hj=> ?_,λ_ h=>h,λ_ h=> .inl h,λb hb=>Nat.lt_of_lt_of_le (V.fl b hb) hg.size,hg.os,hg.tape,hg.output,hg.size,λ_=>hdr,hkeep,λg hgl hne=>hg.block g hgl λe2=>hne k (adk.2 (.inl (aew (by simp[Eff.rc])))) hbn (hold g e2.symm),λav hav=> ?_,λj b hj=> ?_,λj j' b b' hj hj' hne g hg1 hg2=> ?_⟩
        ·have h2:=afP hj;simp[Eff.rc] at h2;exact hGo j h2.1 h2.2
        ·have h2:j≠t:=by simpa[Eff.rc] using hj
         exact hst.g j h2
        ·cases hav;exact aaG ⟨by rw[hGt],hu1⟩
        ·rcases ant hj with ⟨rfl,rfl⟩ | ⟨rfl,rfl⟩
         ·rw[hGk];refine⟨⟨λj=>if j=i then u else vs j,λj c' hj hcj=> ?_,λg=>by rw[hO],λj j' g hj hj' hne hne' hjj hb1 hb2=> ?_⟩,λg hOg=> ?_⟩
          ·by_cases hji:j=i
           ·subst hji;simp only[if_true,Option.some.injEq] at hcj ⊢;subst hcj;refine⟨⟨by rw[hGt],hu1⟩,⟨xs++news,ho',hTT,h0,λq hq=> ?_,λq j' c' v hq hce hv=> ?_⟩,λq hq=> ?_⟩
            ·show List.length (if q<len j then _ else _)=_;split
             ·rename_i h9;exact h6 q h9
             ·exact hlen2 _ (by omega)
            ·have hce:(if q<len j then el j q else e2 (q-len j))[j']? =some c':=hce;have hjl:j'<ie.size:=by
              have hll:(if q<len j then el j q else e2 (q-len j)).length=ie.size:=by
               split
               ·rename_i h9;exact h6 q h9
               ·exact hlen2 _ (by omega)
              rw[<- hll];exact (List.getElem?_eq_some_iff.1 hce).1
             by_cases h9:q<len j
             ·rw[if_pos h9] at hce;have:=Nat.mul_le_mul_right ie.size (show q+1<=len j by omega);rw[Nat.add_mul,Nat.one_mul] at this;rw[List.getElem?_append_left (by omega)] at hv;exact (h7 q j' c' v h9 hce hv).stay hst
             ·rw[if_neg h9] at hce;have e9:q*ie.size=len j*ie.size+(q-len j)*ie.size:=by rw[<- Nat.add_mul];congr 1;omega
              rw[List.getElem?_append_right (by omega),hxl] at hv;exact (hval2 (q-len j) j' c' v (by omega) hce (by rw[<- hv];congr 1;omega)).stay hst
            ·simp only[aaa.nm0,List.mem_singleton] at hq;rw[hq];exact List.mem_cons_self
           ·simp only[if_neg hji] at hcj ⊢;obtain⟨k1,k2,k3⟩:=f1 j c' hj hcj;refine⟨k1.stay hst λq hq e=>htn (by rw[<- e];exact k3 q hq),k2.stay hst λg hg2=>hg.block g (hlt j hj (by rw[hcj];simp) g hg2) λe2=> ?_,λq hq=>List.mem_cons_of_mem _ (k3 q hq)⟩;rw[<- hob] at e2;exact f3 j i g hj hi1 (by rw[hcj];simp) hki hji hg2 e2.symm
          ·have hne:(if j=i then some (aaa.hd t) else hc j)≠none:=hne;have hne':(if j'=i then some (aaa.hd t) else hc j')≠none:=hne';have one:∀ j,j<n->j≠i->hc j≠none->∀ g,aa7 u=some g->aa7 (vs j)=some g->False:=λj hj hji hne g h1 h2=>by
            rcases hnewb g h1 with h3 | h3
            ·have:=hlt j hj hne g h2;omega
            ·exact f3 j i g hj hi1 hne hki hji h2 h3
           simp only at hb1 hb2;by_cases hji:j=i
           ·have hj2:j'≠i:=λe=>hjj (by rw[hji,e]);rw[if_pos hji] at hb1;rw[if_neg hj2] at hb2 hne';exact one j' hj' hj2 hne' g hb1 hb2
           ·rw[if_neg hji] at hb1 hne;by_cases hji2:j'=i
            ·rw[if_pos hji2] at hb2;exact one j hj hji hne g hb2 hb1
            ·rw[if_neg hji2] at hb2 hne';exact f3 j j' g hj hj' hne hne' hjj hb1 hb2
          ·refine⟨λhF=> ?_,?_⟩
           ·rcases hOc g hOg with h9 | h9
            ·have:=V.fl g hF;omega
            ·exact V.nf k g hbn h9 hF
           ·exact (hOc g hOg).imp id λh9=>⟨k,adk.2 (.inl (aew (by simp[Eff.rc]))),hbn,h9⟩
         ·rw[hGt];exact⟨λg h=>h,λg h=>h.elim⟩
        ·rcases ant hj with ⟨rfl,rfl⟩ | ⟨rfl,rfl⟩
         ·rcases ant hj' with ⟨rfl,rfl⟩ | ⟨rfl,rfl⟩
          ·exact hne rfl
          ·rw[hGt] at hg2;exact hg2
         ·rw[hGt] at hg1;exact hg1
       ·cases h
      ·cases h
     ·cases h
  ·cases h
 ·cases h
theorem ajh:∀ {avs:List AV} {cs:List aaa} {vs:List Value},akZ avs=some cs->aed (GOk G F w) avs vs->abu (abw G F w) cs vs
 |[],cs,vs,h,hv=>by
  cases h;have:vs=[]:=List.eq_nil_of_length_eq_zero hv.1.symm;subst this;exact⟨rfl,λi c v h1=>by simp at h1⟩
 | .tup _::_,_,_,h,_=>by cases h
 | .s true _::_,_,_,h,_=>by cases h
 | .s false []::_,_,_,h,_=>by cases h
 | .s false (_::_::_)::_,_,_,h,_=>by cases h
 | .s false [c]::l,cs,vs,h,hv=>by
  match vs,hv with
  |[],hv=>cases hv.1
  |v::vs,hv=>
   simp only[akZ] at h;split at h
   ·cases h
   ·rename_i hnc;split at h
    ·rename_i cs' hcs;cases h;have ih:=ajh (vs:=vs) hcs ⟨by simpa using hv.1,λi av u h1 h2=>hv.2 (i+1) av u (by simpa using h1) (by simpa using h2)⟩;have h0:GOk G F w c v:=aal (hv.2 0 _ v rfl rfl);have h1:abw G F w c v:=by
      cases c with
      |clo f caps=>cases hnc
      |_=>simpa only[GOk] using h0
     refine⟨by simpa using ih.1,λi c u h2 h3=> ?_⟩;match i,h2,h3 with
     |0,h2,h3=>cases h2;cases h3;exact h1
     |i+1,h2,h3=>exact ih.2 i c u (by simpa using h2) (by simpa using h3)
    ·cases h
theorem auy {Γ : FuncId->Option Run} {x:Operand} {args:Array Operand} {at_:Array TypeId} {f:FuncId} {caps:List aaa} {avs:List AV} {run:Run} (hΓ : ∀ f run,Γ f=some run->aai P D B f run) (ho:o.op= .call { callee:= .value x,args:=args,argTypes:=at_ })
  (hx:ab3 R x=some (.s false [.clo f caps])) (ha:amb R args.toList=some avs) (hr : Γ f=some run) (h:run R.b (avs++caps.map λc=> .s false [c]) (o.dst.getD 0)=some e) (hp:aca e.ps):ada P D B o R (e.rc o.dst rs br):=by
 obtain⟨hcal,hok⟩:=hΓ f run hr;intro G F a w V;obtain⟨vs,e1,h1⟩:=(aal (opnd_ok V hx):∃ vs:List Value,a.eval x= .func (.func f) #[] vs.toArray/\abu (abw G F w) caps vs)
 have hvs:=ahN V ha;have hall:aed (GOk G F w) (avs++caps.map λc=> .s false [c]) (args.toList.map a.eval++vs):=by
  refine⟨by simp[hvs.1,h1.1],λi av v h2 h3=> ?_⟩;rcases Nat.lt_or_ge i avs.length with hi | hi
  ·rw[List.getElem?_append_left hi] at h2;rw[List.getElem?_append_left (by rw[<- hvs.1];exact hi)] at h3;exact hvs.2 i av v h2 h3
  ·rw[List.getElem?_append_right hi,List.getElem?_map] at h2;rw[List.getElem?_append_right (by rw[<- hvs.1];exact hi),<- hvs.1] at h3;cases hc:caps[i-avs.length]? with
   |none=>rw[hc] at h2;cases h2
   |some c=>
    rw[hc] at h2;cases h2;have h4:=h1.2 _ c v hc h3;refine aaG ?_;cases c with
    |clo=>exact h4.elim
    |_=>simpa only[GOk] using h4
 have V':ad6 B ⟨λ_=>none,R.b⟩ G F ⟨#[],[]⟩ w:=⟨V.bs,V.fl,V.bk,V.ne,V.nf,λt av h=>by cases h⟩
 have hcalls:=hok R.b _ _ e h hp G F w _ V' hall;refine at5 (f:=f) (xs:=(args.toList.map a.eval++vs).toArray) (w':=w) ?_ (hcalls.mono ?_)
 ·unfold abQ at hcal;split at hcal
  ·rename_i fn hfn;simp only[Bool.and_eq_true,Bool.not_eq_true'] at hcal;have hb:¬ fn.body=none:=λhbb=>by rw[hbb] at hcal;cases hcal.1
   have hn : ¬ fn.name = "runtime.NumGoroutine" := by simpa using hcal.2
   have e5:Array.map a.eval args++vs.toArray=(args.toList.map a.eval++vs).toArray:=Array.ext' (by simp);simp[execOp,ho,resolve,e1,Deferred.ofValue,invoke,callFunc,hfn,hn,hb,e5]
  ·cases hcal
 ·rintro en w'' ⟨v,rfl,G',F',p⟩;exact⟨v,rfl,G',F',p.g,p.gv,p.f,p.fn,p.fl,p.os,p.tape,p.out,p.sz,p.dr,p.k,p.h,p.v,p.s,p.d⟩
theorem abE {b:Bool} {c:aaa} {u:Value} (h:GOk G F w c u) (hc:c=tf b\/c= .v (.bool b)):u= .bool b:=by
 rcases hc with rfl | rfl
 ·cases b
  ·have h3:COk F w .f u:=h;cases h3;rfl
  ·have h3:COk F w .t u:=h;cases h3;rfl
 ·exact (abm h).1
theorem axn {Γ : FuncId->Option Run} (hΓ : ∀ f run,Γ f=some run->aai P D B f run) (h:opx P Γ R o=some e) (hp:aca e.ps):ada P D B o R (e.rc o.dst rs br):=by
 unfold opx at h;split at h
 ·rename_i x ho;split at h
  ·rename_i av hx;cases h;exact aaz rfl λG F a w V=>⟨a.eval x,by simp[execOp,ho],λav' hav=>by cases hav;exact opnd_ok V hx⟩
  ·cases h
 ·rename_i x ho;split at h
  ·rename_i av hx;cases h;exact aaz rfl λG F a w V=>⟨a.eval x,by simp[execOp,ho],λav' hav=>by cases hav;exact opnd_ok V hx⟩
  ·cases h
 ·rename_i c x y ho;split at h
  ·rename_i hc;split at h
   ·rename_i av hx;cases h;exact aaz rfl λG F a w V=>⟨a.eval x,by simp[execOp,ho,abE (b:=true) (aal (opnd_ok V hc)) (.inl rfl),asBool],λav' hav=>by cases hav;exact opnd_ok V hx⟩
   ·cases h
  ·rename_i hc;split at h
   ·rename_i av hx;cases h;exact aaz rfl λG F a w V=>⟨a.eval y,by simp[execOp,ho,abE (b:=false) (aal (opnd_ok V hc)) (.inl rfl),asBool],λav' hav=>by cases hav;exact opnd_ok V hx⟩
   ·cases h
  ·cases h
 ·rename_i T ho;split at h
  ·rename_i l hz;exact aq8 ho hz h
  ·cases h
 ·rename_i T x ho;split at h
  ·rename_i ag l hx;exact axu ho hx h
  ·cases h
 ·rename_i T x ho;split at h
  ·rename_i ag n c ht hx;split at h
   ·rename_i l ps hc;split at h
    ·rename_i hn;cases h;exact aux ho ht hx hc hn hp rfl
    ·cases h
   ·cases h
  ·cases h
 ·rename_i T x y ho;exact aq2 ho h hp
 ·rename_i S x f ho;split at h
  ·rename_i d c hf hx;split at h
   ·rename_i c' hs;exact aq5 ho hf hx hs h
   ·cases h
  ·cases h
 ·rename_i T x i ho;exact axt ho h hp
 ·rename_i op xT x y yT ho;split at h
  ·rename_i k m k' n hx hy;split at h
   ·rename_i hk;have hk:=of_decide_eq_true hk;subst hk;split at h
    ·rename_i v ps hb;cases h;exact axv ho hx hy hb hp rfl
    ·cases h
   ·cases h
  ·rename_i l l' hx hy;split at h
   ·rename_i a b a' b' h1 h2 hT;split at h
    ·cases h;exact asl ho hx hy h1 h2 hT (.inl ⟨rfl,rfl⟩) rfl
    ·cases h;exact asl ho hx hy h1 h2 hT (.inr ⟨rfl,rfl⟩) rfl
    ·cases h
   ·cases h
  ·rename_i c c' _ hx hy;exact axq ho hx hy h hp
  ·cases h
 ·rename_i S T x ho;split at h
  ·rename_i k0 n k1 k hx hS hT;cases h;exact aaz rfl λG F a w V=>⟨.int k (k.wrap n),by simp only[execOp,ho,(abm (aal (opnd_ok V hx))).1];exact aas (by simp[convert,run_underlying hS,run_underlying hT,Conv.intToInt]),λav' hav=>by cases hav;exact aaG (GOk.of (.v _ rfl))⟩
  ·rename_i k0 eT hx hS hT;split at h
   ·rename_i T' n el hb he;cases h;exact axr ho hx hS hT hb he hp.1
   ·cases h
  ·cases h
 ·rename_i T x ho;split at h
  ·rename_i b hx;cases h;exact aaz rfl λG F a w V=>⟨.bool !b,by simp[execOp,ho,(abm (aal (opnd_ok V hx))).1,Op.unary],λav' hav=>by cases hav;exact aaG (GOk.of (.v _ rfl))⟩
  ·rename_i hx;cases h;exact aaz rfl λG F a w V=>⟨.bool false,by simp[execOp,ho,abE (b:=true) (aal (opnd_ok V hx)) (.inl rfl),Op.unary],λav' hav=>by cases hav;exact aaG (GOk.of .f)⟩
  ·rename_i hx;cases h;exact aaz rfl λG F a w V=>⟨.bool true,by simp[execOp,ho,abE (b:=false) (aal (opnd_ok V hx)) (.inl rfl),Op.unary],λav' hav=>by cases hav;exact aaG (GOk.of .t)⟩
  ·cases h
 ·rename_i T x ho;split at h
  ·rename_i k n hx;cases h;exact aaz rfl λG F a w V=>⟨.int k (k.wrap (0-n)),by simp[execOp,ho,(abm (aal (opnd_ok V hx))).1,Op.unary,Op.intArith],λav' hav=>by cases hav;exact aaG (GOk.of (.v _ rfl))⟩
  ·cases h
 ·rename_i x i ho;split at h
  ·rename_i l hx;split at h
   ·rename_i ag c hl;cases h;refine aaz rfl λG F a w V=> ?_;obtain⟨vs,e1,e2,e3⟩:=opnd_ok V hx;have hi:i<vs.length:=by rw[<- e2];exact (List.getElem?_eq_some_iff.1 hl).1
    have hv:=List.getElem?_eq_getElem hi;have hv':vs.toArray[i]? =some vs[i]:=by simp[hv]
    exact⟨vs[i],by simp[execOp,ho,e1,Instr.extract,hv],λav' hav=>by cases hav;exact e3 i _ _ hl hv⟩
   ·cases h
  ·cases h
 ·rename_i S x f ho;split at h
  ·rename_i ag off n l hpo hx;split at h
   ·rename_i hc;cases h;rw[Bool.and_eq_true,Bool.or_eq_true] at hc;refine aaz rfl λG F a w V=> ?_;obtain⟨cs,e1,e2⟩:=opnd_ok V hx;have e3:=(e2.drop off).take n;have hlen:=aaq hc.1;unfold awq at hpo;split at hpo
    ·rename_i fs hu;split at hpo
     ·rename_i fd hfd;split at hpo
      ·rename_i ag' n' hty;cases hpo;obtain⟨r1,r2⟩:=aeP (w:=w) hty;have hl2:((cs.drop fd.offset).take n).length=n:=by rw[<- e3.1];exact hlen
       cases ag with
       |true=>
        have hex:cs.toArray.extract fd.offset (fd.offset+n)=((cs.drop fd.offset).take n).toArray:=by
         simp[List.extract_eq_take_drop]
        refine⟨.agg ((cs.drop fd.offset).take n).toArray,?_,λav' hav=>by cases hav;exact⟨_,rfl,e3⟩⟩;simp only[execOp,ho,e1];refine aas ?_;simp only[Instr.field,Sem.run_bind,run_underlying hu,Result.andThen_ok,hfd,asAgg,Sem.run_pure,part,r1,if_true,r2,hex]
       |false=>
        have hn1:n=1:=hc.2.elim (λh=>by cases h) aaq;subst hn1;have hlt:fd.offset<cs.length:=by simp at hl2;omega
        have hq:=List.getElem?_eq_getElem hlt;have hq2:cs.toArray[fd.offset]? =some cs[fd.offset]:=by simp[hq]
        have hll:fd.offset<l.length:=by rw[e2.1];exact hlt
        have hd1:(l.drop fd.offset).take 1=[l[fd.offset]]:=by
         rw[List.drop_eq_getElem_cons hll];rfl
        refine⟨cs[fd.offset],?_,λav' hav=>by cases hav;rw[hd1];exact aaG (e2.2 _ _ _ (List.getElem?_eq_getElem hll) hq)⟩;simp only[execOp,ho,e1];refine aas ?_;simp only[Instr.field,Sem.run_bind,run_underlying hu,Result.andThen_ok,hfd,asAgg,Sem.run_pure,part,r1,Bool.false_eq_true,if_false,hq2]
      ·cases hpo
     ·cases hpo
    ·cases hpo
   ·cases h
  ·cases h
 ·rename_i T ps ho;split at h
  ·rename_i z fs avs hz hu hav;split at h
   ·rename_i l hf hall;cases h;exact aq7 ho hz hu hav hf hall rfl
   ·cases h
  ·rename_i z n eT avs hz hu hav;split at h
   ·rename_i ie hi;split at h
    ·rename_i l hf;cases h;exact apb ho hz hu hav hi hf rfl
    ·cases h
   ·cases h
  ·cases h
 ·rename_i T len ps ho;split at h
  ·rename_i eT ie avs t hs hav hd;split at h
   ·rename_i z hz;split at h
    ·rename_i l hf;split at h
     ·rename_i hc;cases h;exact apc ho hs hav hd hz hf hc rfl
     ·cases h
    ·cases h
   ·cases h
  ·cases h
 ·rename_i T x y ho;split at h
  ·rename_i k m k' n eT ie t hx hy hs hd;split at h
   ·rename_i z hz;split at h
    ·rename_i hc;cases h;exact auw ho hx hy hs hz hc hd hp rfl
    ·cases h
   ·cases h
  ·cases h
 ·rename_i T x i ho;exact aq1 ho h hp
 ·rename_i T ho;exact amy ho h
 ·rename_i T x i ho;exact apa ho h hp
 ·rename_i T m x y ho;exact ao9 ho h
 ·rename_i T x lo hi ho;split at h
  ·rename_i hT;exact aq0 ho hT h hp
  ·split at h
   ·rename_i sz n el eT ie hx hs;split at h
    ·rename_i p q hlo hhi hsz;cases h;exact aq3 ho hx hs hlo hhi hsz hp rfl
    ·cases h
   ·rename_i k eT ie hx hs;split at h
    ·rename_i T' sz n el hb;split at h
     ·rename_i p q hlo hhi hsz;cases h;exact aq4 ho hx hb hs hlo hhi hsz hp rfl
     ·cases h
    ·cases h
   ·cases h
 ·rename_i f first caps ho
  split at h
  ·rename_i avs hfz hav;split at h
   ·rename_i cs hcs;cases h;refine aaz rfl λG F a w V=> ?_;have hf0:first= #[]:=Array.eq_empty_of_size_eq_zero hfz
    subst hf0;have h1:=ajh hcs (ahN V hav);exact⟨.func (.func f) #[] (caps.toList.map a.eval).toArray,by simp[execOp,ho,Instr.makeFunc];exact Array.ext' (by simp),λav' hav'=>by cases hav';exact aaG ⟨_,rfl,h1⟩⟩
   ·cases h
  ·cases h
 ·rename_i args at_ ho;split at h
  ·rename_i x T ha hT;exact axs ho ha hT h
  ·cases h
 ·rename_i args at_ ho;split at h
  ·rename_i x T ha hT;exact aq6 ho ha hT h hp
  ·cases h
 ·rename_i args at_ ho;split at h
  ·rename_i s x T T' ha hT;split at h
   ·rename_i hTT;have:=aaq hTT;subst this;exact apd ho ha hT h hp
   ·cases h
  ·cases h
 ·rename_i x args at_ ho;split at h
  ·rename_i f caps avs hx ha;split at h
   ·rename_i run hr;exact auy hΓ ho hx ha hr h hp
   ·cases h
  ·cases h
 ·cases h
end
end Go.Proofs.YtcmplpkmfbhpdaaGreat
