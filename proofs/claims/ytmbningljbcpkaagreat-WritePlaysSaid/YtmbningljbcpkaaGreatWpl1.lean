/- Words, plain data and contracts of the Go functions that this claim reaches. No condition beyond the hypotheses that each theorem states. -/
import Derived.OrdersIn
import Derived.RangeFuncLeaves
import Derived.RangeFuncRecord
import Derived.KernelRfl
import Derived.Scope
import Derived.RangeFuncIn
import Derived.Maps.AppendAt
import Derived.MapKept
import Derived.Laws.OwnMore
import Derived.Laws.StructEq
import Derived.Laws.IdiomCopy
import Derived.Lib.AppendZerosOnto
import Derived.Lib.Overlaps
import Derived.ProofKit
import Derived.OpenShut
import Derived.Below
import Derived.Carry
import Derived.SizedLaws
import Derived.Deep.Slices
import Derived.Laws.Strings
import Derived.Test.YtmbningljbcpkaaGreatProg
set_option linter.unusedSimpArgs false
set_option linter.unusedVariables false
namespace Go.Den
open Go
abbrev KTy:=Value→(Nat→Option Obj)→Prop
abbrev Heap:=Nat→Option Obj
abbrev Env:=Nat→Value
def abs (w:World):Heap:=fun b=>w.heap[b]?
structure Okw (w w':World):Prop where
 os:w'.os=w.os
 tape:w'.tape=w.tape
 output:w'.output=w.output
 size:w.heap.size≤w'.heap.size
theorem Okw.refl (w:World):Okw w w:=⟨rfl,rfl,rfl,Nat.le_refl _⟩
theorem Okw.trans {a b c:World}(h:Okw a b)(k:Okw b c):Okw a c:=⟨k.os.trans h.os,k.tape.trans h.tape,k.output.trans h.output,Nat.le_trans h.size k.size⟩
def put (s:Env)(d:Nat)(v:Value):Env:=fun i=>cond (Nat.beq i d) v (s i)
def putO (s:Env)(d:Option Nat)(v:Value):Env:=match d with | some d=>put s d v | none=>s
def ev (s:Env):Operand→Value
 | .tmp t=>s t
 | .const v=>v
 | .global g=>.pointer (some ⟨g,0,none⟩)
 | .func f=>.func (.func f) #[] #[]
def isc:Operand→Bool
 | .const _=>true
 | _=>false
def cel (h:Heap)(b o:Nat):Option Value:=match h b with
 | some (.cells c _ _)=>c[o]?
 | _=>none
def frz (h:Heap)(b o:Nat):Bool:=match h b with
 | some (.cells _ _ (lo,hi))=>lo≤o && o<hi
 | _=>false
def cels (h:Heap)(b:Nat):Nat→Nat→Option (List Value)
 | _,0=>some []
 | o,n+1=>match cel h b o with
  | some v=>match cels h b (o+1) n with
   | some l=>some (v::l)
   | none=>none
  | none=>none
def ldV (k:Option (Option Nat))(x:Value)(h:Heap):Option Value:=match x with
 | .pointer (some ⟨b,o,none⟩)=>match k with
  | some none=>cel h b o
  | some (some n)=>match cels h b o n with
   | some l=>some (.agg l.toArray)
   | none=>none
  | none=>none
 | _=>none
def ncV:Value→Option Value
 | .pointer (some a)=>some (.pointer (some a))
 | .func (.func f) x y=>some (.func (.func f) x y)
 | .iface t v=>some (.iface t v)
 | _=>none
def eqV (k:Nat)(c:Bool)(x y:Value):Option Bool:=match k,x,y with
 | 1,.bool a,.bool b=>some (a == b)
 | 4,.pointer none,.pointer b=>some b.isNone
 | 4,.pointer (some _),.pointer none=>some false
 | 5,.nilIface,.nilIface=>if c then some true else none
 | 5,.nilIface,.iface _ _=>some false
 | 5,.iface _ _,.nilIface=>some false
 | 6,.nilFunc,.nilFunc=>some true
 | 6,.nilFunc,.func _ _ _=>some false
 | 6,.func _ _ _,.nilFunc=>some false
 | 7,.slice none _ _,.slice b _ _=>some b.isNone
 | 7,.slice (some _) _ _,.slice none _ _=>some false
 | _,_,_=>none
def strV (op:BinOp)(a b:ByteArray):Option Value:=match op with
 | .eql=>some (.bool (a.toList == b.toList))
 | .neq=>some (.bool (!(a.toList == b.toList)))
 | .lss=>some (.bool (Op.bytesLess a.toList b.toList))
 | .gtr=>some (.bool (!(Op.bytesLess a.toList b.toList || a.toList == b.toList)))
 | .leq=>some (.bool (Op.bytesLess a.toList b.toList || a.toList == b.toList))
 | .geq=>some (.bool (!Op.bytesLess a.toList b.toList))
 | _=>none
def bitV (op:BinOp)(k:IntKind)(x y:Int):Option Value :=
 match op with
 | .and=>some (.int k (k.wrap (BitVec.ofInt k.bits x &&& BitVec.ofInt k.bits y).toNat))
 | .or=>some (.int k (k.wrap (BitVec.ofInt k.bits x ||| BitVec.ofInt k.bits y).toNat))
 | .xor=>some (.int k (k.wrap (BitVec.ofInt k.bits x ^^^ BitVec.ofInt k.bits y).toNat))
 | .andNot=>some (.int k (k.wrap (BitVec.ofInt k.bits x &&& ~~~BitVec.ofInt k.bits y).toNat))
 | _=>none
def intV (op:BinOp)(k:IntKind)(a:Int)(k':IntKind)(b:Int):Option Value:=match op with
 | .shl=>if b<0 then none else some (.int k (k.wrap (a*2 ^ (min b.toNat k.bits))))
 | .shr=>if b<0 then none else some (.int k (a.fdiv (2 ^ (min b.toNat k.bits))))
 | .add=>if k=k' then some (.int k (k.wrap (a+b))) else none
 | .sub=>if k=k' then some (.int k (k.wrap (a-b))) else none
 | .mul=>if k=k' then some (.int k (k.wrap (a*b))) else none
 | .quo=>if k=k' then (if b=0 then none else some (.int k (k.wrap (a.tdiv b)))) else none
 | .rem=>if k=k' then (if b=0 then none else some (.int k (a.tmod b))) else none
 | .eql=>if k=k' then some (.bool (a == b)) else none
 | .neq=>if k=k' then some (.bool (a != b)) else none
 | .lss=>if k=k' then some (.bool (a<b)) else none
 | .leq=>if k=k' then some (.bool (a≤b)) else none
 | .gtr=>if k=k' then some (.bool (a > b)) else none
 | .geq=>if k=k' then some (.bool (a ≥ b)) else none
 | .and=>if k=k' then bitV .and k a b else none
 | .or=>if k=k' then bitV .or k a b else none
 | .xor=>if k=k' then bitV .xor k a b else none
 | .andNot=>if k=k' then bitV .andNot k a b else none
def binV (op:BinOp)(tk:Nat)(c:Bool)(x y:Value):Option Value:=match x,y with
 | .int k a,.int k' b=>intV op k a k' b
 | .string a,.string b=>strV op a b
 | x,y=>match op with
  | .eql=>match eqV tk c x y with
   | some b=>some (.bool b)
   | none=>none
  | .neq=>match eqV tk c x y with
   | some b=>some (.bool (!b))
   | none=>none
  | _=>none
def unV (op:UnOp)(x:Value):Option Value:=match op,x with
 | .not,.bool b=>some (.bool !b)
 | .neg,.int k n=>some (.int k (k.wrap (0-n)))
 | _,_=>none
def faV (off:Option Nat)(x:Value):Option Value:=match off,x with
 | some n,.pointer (some ⟨b,o,none⟩)=>some (.pointer (some ⟨b,o+n,none⟩))
 | _,_=>none
def iaV (inf:Option (Option Nat × Nat))(x i:Value):Option Value:=match inf,x,i with
 | some (none,sz),.slice (some ⟨b,o,none⟩) len _,.int _ i=>if 0≤i∧i<len then some (.pointer (some ⟨b,o+i.toNat*sz,none⟩)) else none
 | some (some len,sz),.pointer (some ⟨b,o,none⟩),.int _ i=>if 0≤i∧i<len then some (.pointer (some ⟨b,o+i.toNat*sz,none⟩)) else none
 | _,_,_=>none
def exV (x:Value)(i:Nat):Option Value:=match x with
 | .tuple vs=>vs[i]?
 | _=>none
def pkV (c a b:Value):Option Value:=match c with
 | .bool true=>some a
 | .bool false=>some b
 | _=>none
def cvV (k:Option IntKind)(x:Value):Option Value:=match k,x with
 | some k,.int _ n=>some (.int k (k.wrap n))
 | _,_=>none
def lnV (tk:Nat)(x:Value):Option Value:=match tk,x with
 | 3,.string s=>some (.int .i64 s.size)
 | 7,.slice _ n _=>some (.int .i64 n)
 | _,_=>none
def bdV (inf:Option (Array Value × List (Nat × Nat)))(parts:List (Nat × Value)):Option Value:=match inf with
 | some (z,ps)=>match Instr.fill (fun i=>ps[i]?) z parts with
  | some c=>some (.agg c)
  | none=>none
 | none=>none
def fdV (inf:Option (Option Nat × Nat))(x:Value):Option Value:=match inf,x with
 | some (none,off),.agg cs=>cs[off]?
 | some (some n,off),.agg cs=>some (.agg (cs.extract off (off+n)))
 | _,_=>none
def stV (x i:Value):Option Value:=match x,i with
 | .string s,.int _ i=>if 0≤i then (match s[i.toNat]? with
  | some b=>some (.int .u8 b.toNat)
  | none=>none) else none
 | _,_=>none
def bnd (v:Option Value)(d y:Nat):Option Nat:=match v with
 | none=>some d
 | some (.int _ i)=>if 0≤i∧i≤y then some i.toNat else none
 | _=>none
def slV (inf:Option (Option Nat × Nat))(x:Value)(lo hi:Option Value):Option Value:=match inf,x with
 | some (none,sz),.slice a len cap=>match bnd hi len cap with
  | some h=>match bnd lo 0 h with
   | some l=>some (.slice (if cap=l then a else a.map (·.add (l*sz))) (h-l) (cap-l))
   | none=>none
  | none=>none
 | some (some n,sz),.pointer (some a)=>match bnd hi n n with
  | some h=>match bnd lo 0 h with
   | some l=>some (.slice (some (if n=l then a else a.add (l*sz))) (h-l) (n-l))
   | none=>none
  | none=>none
 | _,_=>none
def sl3V (inf:Option (Option Nat × Nat))(x:Value)(lo:Option Value)(hi mx:Value):Option Value:=match inf,x with
 | some (none,sz),.slice a _ cap=>match bnd (some mx) cap cap with
  | some m=>match bnd (some hi) m m with
   | some h=>match bnd lo 0 h with
    | some l=>some (.slice (if m=l then a else a.map (·.add (l*sz))) (h-l) (m-l))
    | none=>none
   | none=>none
  | none=>none
 | _,_=>none
def ssV (x:Value)(lo hi:Option Value):Option Value:=match x with
 | .string s=>match bnd hi s.size s.size with
  | some h=>match bnd lo 0 h with
   | some l=>some (.string (s.extract l h))
   | none=>none
  | none=>none
 | _=>none
def tsz (P:Program)(t:TypeId):Option Nat:=match P.info? t with
 | some i=>some i.size
 | none=>none
def tagg (P:Program)(t:TypeId):Option (Option Nat):=match P.underlying t with
 | some (.struct _)=>match tsz P t with
  | some n=>some (some n)
  | none=>none
 | some (.array _ _)=>match tsz P t with
  | some n=>some (some n)
  | none=>none
 | some _=>some none
 | none=>none
def tkind (P:Program)(t:TypeId):Nat:=match P.underlying t with
 | some .bool=>1
 | some (.int _)=>2
 | some .string=>3
 | some (.pointer _)=>4
 | some (.interface _)=>5
 | some (.func _ _ _)=>6
 | some (.slice _)=>7
 | some (.map _ _)=>8
 | _=>0
def foff (P:Program)(t:TypeId)(f:Nat):Option Nat:=match P.underlying t with
 | some (.struct fs)=>match fs[f]? with
  | some f=>match tsz P f.type with
   | some 0=>none
   | some _=>some f.offset
   | none=>none
  | none=>none
 | _=>none
def iinf (P:Program)(t:TypeId):Option (Option Nat × Nat):=match P.underlying t with
 | some (.slice e)=>match tsz P e with
  | some n=>some (none,n)
  | none=>none
 | some (.array len e)=>match tsz P e with
  | some n=>some (some len,n)
  | none=>none
 | _=>none
def ikind (P:Program)(t:TypeId):Option IntKind:=match P.underlying t with
 | some (.int k)=>some k
 | _=>none
def finf (P:Program)(t:TypeId)(f:Nat):Option (Option Nat × Nat):=match P.underlying t with
 | some (.struct fs)=>match fs[f]? with
  | some f=>match tagg P f.type with
   | some k=>some (k,f.offset)
   | none=>none
  | none=>none
 | _=>none
def xinf (P:Program)(t:TypeId):Option (Option Nat × Nat × Nat):=match P.underlying t with
 | some (.array len e)=>match tagg P e with
  | some k=>match tsz P e with
   | some n=>some (k,len,n)
   | none=>none
  | none=>none
 | _=>none
def xaV (inf:Option (Option Nat × Nat × Nat))(x i:Value):Option Value:=match inf,x,i with
 | some (k,len,n),.agg cs,.int _ i=>if 0≤i∧i<(len:Int) then fdV (some (k,i.toNat*n)) (.agg cs) else none
 | _,_,_=>none
def fplaces (P:Program):List Field→Option (List (Nat × Nat))
 | []=>some []
 | f::r=>match tsz P f.type with
  | some n=>match fplaces P r with
   | some l=>some ((f.offset,n)::l)
   | none=>none
  | none=>none
def binf (P:Program)(t:TypeId):Option (Array Value × List (Nat × Nat)):=match P.info? t with
 | some i=>match i.zero with
  | some z=>match P.underlying t with
   | some (.struct fs)=>match fplaces P fs.toList with
    | some l=>some (z.cells,l)
    | none=>none
   | _=>none
  | none=>none
 | none=>none
def mif (P:Program)(t:TypeId)(x:Value):Option Value:=match P.underlying t with
 | some (.interface _)=>none
 | some _=>some (.iface t x)
 | none=>none
def rdV (P:Program)(op:Op)(s:Env)(h:Heap):Option Value:=match op with
 | .load t a=>ldV (tagg P t) (ev s a) h
 | .nilCheck x=>ncV (ev s x)
 | .binOp op t x y _=>binV op (tkind P t) (isc x || isc y) (ev s x) (ev s y)
 | .unOp op _ x=>unV op (ev s x)
 | .fieldAddr t x f=>faV (foff P t f) (ev s x)
 | .field t x f=>fdV (finf P t f) (ev s x)
 | .indexAddr t x i=>iaV (iinf P t) (ev s x) (ev s i)
 | .index t x i=>if tkind P t=3 then stV (ev s x) (ev s i) else xaV (xinf P t) (ev s x) (ev s i)
 | .extract t i=>exV (ev s t) i
 | .pick c a b=>pkV (ev s c) (ev s a) (ev s b)
 | .convert src dst x=>if tkind P src=2 then cvV (ikind P dst) (ev s x) else none
 | .makeInterface t x=>mif P t (ev s x)
 | .makeFunc fn f c=>some (.func fn (f.map (ev s)) (c.map (ev s)))
 | .build t ps=>bdV (binf P t) (ps.toList.map fun (i,x)=>(i,ev s x))
 | .call c=>match c.callee with
  | .builtin .len=>match c.argTypes[0]?,c.args[0]? with
   | some t,some x=>lnV (tkind P t) (ev s x)
   | _,_=>none
  | _=>none
 | .slice t x lo hi none=>if tkind P t=3 then ssV (ev s x) (lo.map (ev s)) (hi.map (ev s)) else slV (iinf P t) (ev s x) (lo.map (ev s)) (hi.map (ev s))
 | .slice t x lo (some hi) (some mx)=>sl3V (iinf P t) (ev s x) (lo.map (ev s)) (ev s hi) (ev s mx)
 | .move x=>some (ev s x)
 | .assign x=>some (ev s x)
 | _=>none
end Go.Den
namespace Go.Den
open Go
theorem cel_abs (w:World)(b o:Nat):cel (abs w) b o=w.cell? ⟨b,o,none⟩:=by
 simp only[cel,abs,World.cell?]
 cases w.heap[b]? with
 | none=>rfl
 | some x=>cases x<;>rfl
theorem add_none (b o i:Nat):(⟨b,o,none⟩:Addr).add i=⟨b,o+i,none⟩:=by
 unfold Addr.add
 split
 ·rename_i h; subst h; rfl
 ·rfl
theorem run_loadCellsFrom (P:Program)(w:World)(b o:Nat):∀ (n i:Nat) (acc:Array Value) (l:List Value),cels (abs w) b (o+i) n=some l →
  (loadCellsFrom ⟨b,o,none⟩ i n acc).run P w = .ok (acc++l.toArray) w
 | 0,i,acc,l,h=>by simp only[cels,Option.some.injEq] at h; subst h; simp[loadCellsFrom]
 | n+1,i,acc,l,h=>by
  simp only[cels] at h
  cases hc:cel (abs w) b (o+i) with
  | none=>simp[hc] at h
  | some v =>
   cases hr:cels (abs w) b (o+i+1) n with
   | none=>simp[hc,hr] at h
   | some r =>
    simp only[hc,hr,Option.some.injEq] at h
    subst h
    have hw:w.cell? ⟨b,o+i,none⟩=some v:=by rw[← cel_abs]; exact hc
    have ih:=run_loadCellsFrom P w b o n (i+1) (acc.push v) r (by rw[← Nat.add_assoc]; exact hr)
    simp only[loadCellsFrom,Sem.run_bind,run_load,add_none,hw,Result.andThen_ok]
    rw[ih]
    simp
theorem run_underlying {P:Program}{t:TypeId}{d:TypeDesc}(h:P.underlying t=some d)(w:World):(underlying t).run P w = .ok d w:=by
 simp[underlying,h]
theorem run_typeInfo' {P:Program}{t:TypeId}{d:TypeInfo}(h:P.info? t=some d)(w:World):(typeInfo t).run P w = .ok d w:=by
 simp[typeInfo,h]
theorem run_sizeOf' {P:Program}{t:TypeId}{n:Nat}(h:tsz P t=some n)(w:World):(sizeOf t).run P w = .ok n w:=by
 unfold tsz at h
 cases hi:P.info? t with
 | none=>simp[hi] at h
 | some i=>simp only[hi,Option.some.injEq] at h; simp[sizeOf,run_typeInfo' hi,h]
theorem run_isAgg {P:Program}{t:TypeId}{k:Option Nat}(h:tagg P t=some k)(w:World):(isAgg t).run P w = .ok k.isSome w∧∀ n,k=some n→tsz P t=some n:=by
 unfold tagg at h
 cases hu:P.underlying t with
 | none=>simp[hu] at h
 | some d =>
  cases hz:tsz P t with
  | none=>cases d<;>simp[hu,hz] at h<;>subst h<;>simp[isAgg,run_underlying hu]
  | some n=>cases d<;>simp[hu,hz] at h<;>subst h<;>simp[isAgg,run_underlying hu]
theorem run_loadVar' {P:Program}{t:TypeId}{w:World}{b o:Nat}{v:Value}(h:ldV (tagg P t) (.pointer (some ⟨b,o,none⟩)) (abs w)=some v) :
  (loadVar t ⟨b,o,none⟩).run P w = .ok v w:=by
 cases ht:tagg P t with
 | none=>simp[ldV,ht] at h
 | some k =>
  obtain⟨h1,h2⟩:=run_isAgg ht w
  cases k with
  | none =>
   simp only[ldV,ht,cel_abs] at h
   simp[loadVar,h1,h]
  | some n =>
   simp only[ldV,ht] at h
   cases hc:cels (abs w) b o n with
   | none=>simp[hc] at h
   | some l =>
    simp only[hc,Option.some.injEq] at h
    subst h
    have:=run_loadCellsFrom P w b o n 0 #[] l (by simpa using hc)
    simp[loadVar,h1,run_sizeOf' (h2 n rfl),loadCells,this]
theorem run_load_op {P:Program}{t:TypeId}{w:World}{x v:Value}(h:ldV (tagg P t) x (abs w)=some v):(Instr.loadAt t x).run P w = .ok v w:=by
 match x,h with
 | .pointer (some ⟨b,o,none⟩),h=>simp[Instr.loadAt,Instr.sureAddr,run_loadVar' h]
theorem run_fieldAt' {P:Program}{t:TypeId}{f:Nat}{w:World}{x v:Value}(h:faV (foff P t f) x=some v):(Instr.fieldAt t x f).run P w = .ok v w:=by
 unfold foff at h
 cases hu:P.underlying t with
 | none=>simp[hu,faV] at h
 | some d =>
  cases d with
  | struct fs =>
   simp only[hu] at h
   cases hf:fs[f]? with
   | none=>simp[hf,faV] at h
   | some fl =>
    simp only[hf] at h
    cases hz:tsz P fl.type with
    | none=>simp[hz,faV] at h
    | some n =>
     cases n with
     | zero=>simp[hz,faV] at h
     | succ n =>
      simp only[hz] at h
      match x,h with
      | .pointer (some ⟨b,o,none⟩),h =>
       simp only[faV,Option.some.injEq] at h
       subst h
       simp[Instr.fieldAt,run_underlying hu,hf,Instr.sureAddr,fieldPlace,run_sizeOf' hz,add_none]
  | _=>simp[hu,faV] at h
theorem run_indexAt' {P:Program}{t:TypeId}{w:World}{x i v:Value}(h:iaV (iinf P t) x i=some v):(Instr.indexAt t x i).run P w = .ok v w:=by
 unfold iinf at h
 cases hu:P.underlying t with
 | none=>simp[hu,iaV] at h
 | some d =>
  cases d with
  | slice e =>
   simp only[hu] at h
   cases hz:tsz P e with
   | none=>simp[hz,iaV] at h
   | some n =>
    simp only[hz] at h
    match x,i,h with
    | .slice (some ⟨b,o,none⟩) len _,.int k j,h =>
     simp only[iaV] at h
     split at h
     ·rename_i hj
      simp only[Option.some.injEq] at h
      subst h
      simp[Instr.indexAt,asIntOf,run_underlying hu,hj,run_sizeOf' hz,add_none]
     ·cases h
  | array len e =>
   simp only[hu] at h
   cases hz:tsz P e with
   | none=>simp[hz,iaV] at h
   | some n =>
    simp only[hz] at h
    match x,i,h with
    | .pointer (some ⟨b,o,none⟩),.int k j,h =>
     simp only[iaV] at h
     split at h
     ·rename_i hj
      simp only[Option.some.injEq] at h
      subst h
      simp[Instr.indexAt,asIntOf,run_underlying hu,hj,run_sizeOf' hz,add_none,Instr.sureAddr]
     ·cases h
  | _=>simp[hu,iaV] at h
end Go.Den
namespace Go.Den
open Go
theorem run_bitV {P:Program}{w:World}{op:BinOp}{k:IntKind}{a b:Int}{v:Value}(h:bitV op k a b=some v):(Op.intBits op k a b).run P w = .ok v w:=by
 cases op<;>simp_all [bitV,Op.intBits]
theorem run_intV {P:Program}{w:World}{op:BinOp}{t:TypeId}{k k':IntKind}{a b:Int}{v:Value}(h:intV op k a k' b=some v) :
  (binOp op t (.int k a) (.int k' b)).run P w = .ok v w:=by
 cases op<;>simp only[intV] at h<;>simp only[binOp] <;>
  (split at h<;>first
    | (cases h; done)
    | (simp only[Option.some.injEq] at h; subst h; simp_all [Op.intArith,Op.intCmp]; done)
    | (rename_i hb; simp only[Option.some.injEq] at h; subst h; simp[Op.shift,hb]; done)
    | (subst_vars; split at h<;>first | (cases h; done) | (simp only[Option.some.injEq] at h; subst h; simp_all [Op.intDiv]; done))
    | (subst_vars; simp[run_bitV h]; done))
theorem run_strV {P:Program}{w:World}{op:BinOp}{t:TypeId}{a b:ByteArray}{v:Value}(h:strV op a b=some v) :
  (binOp op t (.string a) (.string b)).run P w = .ok v w:=by
 cases op<;>simp only[strV,Option.some.injEq] at h<;>first | (cases h; done) | (subst h; simp[binOp,Op.stringOp])
theorem tkind_ptr {P:Program}{t:TypeId}(h:tkind P t=4):∃ e,P.underlying t=some (.pointer e):=by
 unfold tkind at h; split at h<;>first | (cases h; done) | exact⟨_,by assumption⟩
theorem tkind_bool {P:Program}{t:TypeId}(h:tkind P t=1):P.underlying t=some .bool:=by
 unfold tkind at h; split at h<;>first | (cases h; done) | assumption
theorem tkind_int {P:Program}{t:TypeId}(h:tkind P t=2):∃ k,P.underlying t=some (.int k):=by
 unfold tkind at h; split at h<;>first | (cases h; done) | exact⟨_,by assumption⟩
theorem tkind_string {P:Program}{t:TypeId}(h:tkind P t=3):P.underlying t=some .string:=by
 unfold tkind at h; split at h<;>first | (cases h; done) | assumption
theorem tkind_iface {P:Program}{t:TypeId}(h:tkind P t=5):∃ m,P.underlying t=some (.interface m):=by
 unfold tkind at h; split at h<;>first | (cases h; done) | exact⟨_,by assumption⟩
theorem tkind_func {P:Program}{t:TypeId}(h:tkind P t=6):∃ a b c,P.underlying t=some (.func a b c):=by
 unfold tkind at h; split at h<;>first | (cases h; done) | exact⟨_,_,_,by assumption⟩
theorem tkind_slice {P:Program}{t:TypeId}(h:tkind P t=7):∃ e,P.underlying t=some (.slice e):=by
 unfold tkind at h; split at h<;>first | (cases h; done) | exact⟨_,by assumption⟩
theorem run_eqIn {P:Program}{w:World}{t:TypeId}{c:Bool}{x y:Value}{b:Bool}(h:eqV (tkind P t) c x y=some b)(d:Nat) :
  (Op.equalIn (d+1) t x y).run P w = .ok b w:=by
 unfold eqV at h
 split at h<;>rename_i hk<;>first
  | (cases h; done)
  | (have hu:=tkind_bool hk; simp only[Option.some.injEq] at h; subst h; simp[Op.equalIn,run_underlying hu]; done)
  | (obtain⟨e,hu⟩:=tkind_ptr hk; simp only[Option.some.injEq] at h; subst h; simp[Op.equalIn,run_underlying hu]; done)
  | (obtain⟨e,hu⟩:=tkind_iface hk; split at h<;>first | (cases h; done) | (simp only[Option.some.injEq] at h; subst h; simp[Op.equalIn,run_underlying hu]; done))
  | (obtain⟨e,hu⟩:=tkind_iface hk; simp only[Option.some.injEq] at h; subst h; simp[Op.equalIn,run_underlying hu]; done)
  | (obtain⟨_,_,_,hu⟩:=tkind_func hk; simp only[Option.some.injEq] at h; subst h; simp[Op.equalIn,run_underlying hu]; done)
  | (obtain⟨_,hu⟩:=tkind_slice hk; simp only[Option.some.injEq] at h; subst h; simp[Op.equalIn,run_underlying hu]; done)
theorem run_eqV {P:Program}{w:World}{t:TypeId}{c:Bool}{x y:Value}{b:Bool}(h:eqV (tkind P t) c x y=some b) :
  (Op.equal t x y).run P w = .ok b w:=run_eqIn h 9999
theorem binOp_eql {k:Nat}{c:Bool}{x y:Value}{r:Bool}(h:eqV k c x y=some r)(t:TypeId) :
  binOp .eql t x y=(do pure (.bool (← Op.equal t x y)))∧binOp .neq t x y=(do pure (.bool (!(← Op.equal t x y)))):=by
 unfold eqV at h
 split at h<;>first | (cases h; done) | exact⟨rfl,rfl⟩
theorem run_eqGuard {P:Program}{w:World}{op:BinOp}{t:TypeId}{x y:Operand}{a b:Value}{k:Nat}{r:Bool}(h:eqV k (isc x || isc y) a b=some r) :
  (eqGuard op t x y a b).run P w = .ok () w:=by
 unfold eqV at h
 split at h<;>first
  | (cases h; done)
  | (simp[eqGuard]; done)
  | (simp only[eqGuard]; cases op<;>simp; done)
  | (split at h<;>first
    | (cases h; done)
    | (rename_i hc; simp only[eqGuard]; cases x<;>cases y<;>simp_all [isc]<;>cases op<;>simp))
theorem run_binV {P:Program}{w:World}{op:BinOp}{t:TypeId}{x y:Operand}{a b:Value}{v:Value}(h:binV op (tkind P t) (isc x || isc y) a b=some v) :
  (do eqGuard op t x y a b; binOp op t a b:Sem Value).run P w = .ok v w:=by
 unfold binV at h
 split at h
 ·have hg:∀ k c k' d,(eqGuard op t x y (.int k c) (.int k' d)).run P w = .ok () w:=by
   intro k c k' d; simp only[eqGuard]; cases op<;>simp
  simp[hg,run_intV h]
 ·have hg:∀ c d,(eqGuard op t x y (.string c) (.string d)).run P w = .ok () w:=by
   intro c d; simp only[eqGuard]; cases op<;>simp
  simp[hg,run_strV h]
 ·rename_i hni hns
  split at h
  ·split at h
   ·rename_i r hr
    simp only[Option.some.injEq] at h; subst h
    have he:=run_eqV (w:=w) hr
    rw[(binOp_eql hr t).1]
    simp[run_eqGuard hr,he]
   ·cases h
  ·split at h
   ·rename_i r hr
    simp only[Option.some.injEq] at h; subst h
    have he:=run_eqV (w:=w) hr
    rw[(binOp_eql hr t).2]
    simp[run_eqGuard hr,he]
   ·cases h
  ·cases h
end Go.Den
namespace Go.Den
open Go
theorem run_ncV {P:Program}{w:World}{o:Oper}{s:Env}{x:Operand}(ho:o.op = .nilCheck x){v:Value}(h:ncV (ev s x)=some v) :
  (execOp (ev s) o).run P w = .ok (.value v) w:=by
 unfold ncV at h
 split at h<;>rename_i hx<;>first | (cases h; done) | (simp only[Option.some.injEq] at h; subst h; simp[execOp,ho,hx])
theorem run_unV {P:Program}{w:World}{op:UnOp}{x v:Value}(h:unV op x=some v):(Op.unary op x).run P w = .ok v w:=by
 unfold unV at h
 split at h<;>first | (cases h; done) | (simp only[Option.some.injEq] at h; subst h; simp[Op.unary,Op.intArith])
theorem run_exV {P:Program}{w:World}{x v:Value}{i:Nat}(h:exV x i=some v):(Instr.extract x i).run P w = .ok v w:=by
 unfold exV at h
 split at h<;>first | (cases h; done) | simp[Instr.extract,h]
theorem run_part {P:Program}{w:World}{t:TypeId}{k:Option Nat}{cs:Array Value}{off:Nat}{v:Value}(ht:tagg P t=some k)(h:fdV (some (k,off)) (.agg cs)=some v) :
  (part t cs off).run P w = .ok v w:=by
 obtain⟨h1,h2⟩:=run_isAgg ht w
 cases k with
 | none=>simp only[fdV] at h; simp[part,h1,h]
 | some n=>simp only[fdV,Option.some.injEq] at h; subst h; simp[part,h1,run_sizeOf' (h2 n rfl)]
theorem run_fdV {P:Program}{w:World}{t:TypeId}{f:Nat}{x v:Value}(h:fdV (finf P t f) x=some v):(Instr.field t x f).run P w = .ok v w:=by
 unfold finf at h
 cases hu:P.underlying t with
 | none=>simp[hu,fdV] at h
 | some d =>
  cases d with
  | struct fs =>
   simp only[hu] at h
   cases hf:fs[f]? with
   | none=>simp[hf,fdV] at h
   | some fl =>
    simp only[hf] at h
    cases ht:tagg P fl.type with
    | none=>simp[ht,fdV] at h
    | some k =>
     simp only[ht] at h
     match x,h with
     | .agg cs,h=>simp[Instr.field,run_underlying hu,hf,asAgg,run_part ht h]
     | .bool _,h | .int _ _,h | .float _ _,h | .complex _ _ _,h | .string _,h | .pointer _,h | .slice _ _ _,h | .map _,h | .chan _,h | .func _ _ _,h | .nilFunc,h | .iface _ _,h | .nilIface,h | .tuple _,h =>
      cases k<;>simp[fdV] at h
  | _=>simp[hu,fdV] at h
theorem run_fplaces {P:Program}{w:World}:∀ (fs:List Field) (l:List (Nat × Nat)),fplaces P fs=some l →
  (fs.mapM fun f=>(do pure (f.offset,← sizeOf f.type):Sem (Nat × Nat))).run P w = .ok l w
 | [],l,h=>by simp only[fplaces,Option.some.injEq] at h; subst h; simp
 | f::r,l,h=>by
  simp only[fplaces] at h
  cases hz:tsz P f.type with
  | none=>simp[hz] at h
  | some n =>
   cases hr:fplaces P r with
   | none=>simp[hz,hr] at h
   | some q =>
    simp only[hz,hr,Option.some.injEq] at h
    subst h
    have ih:=run_fplaces (w:=w) r q hr
    simp only[List.mapM_cons,Sem.run_bind,run_sizeOf' hz,Result.andThen_ok,Sem.run_pure,ih]
theorem run_bdV {P : Program} {w : World} {t : TypeId} {ps : List (Nat × Value)} {v : Value} (h : bdV (binf P t) ps = some v) : (Instr.build t ps.toArray).run P w = .ok v w := by
  unfold binf at h
  cases hi : P.info? t with
  | none => simp [hi, bdV] at h
  | some i =>
    cases hz : i.zero with
    | none => simp [hi, hz, bdV] at h
    | some z =>
      cases hu : P.underlying t with
      | none => simp [hi, hz, hu, bdV] at h
      | some d =>
        cases d with
        | struct fs =>
          simp only [hi, hz, hu] at h
          cases hf : fplaces P fs.toList with
          | none => simp [hf, bdV] at h
          | some l =>
            simp only [hf, bdV] at h
            have hm := run_fplaces (w := w) fs.toList l hf
            have hm' : (fs.mapM fun f => (do pure (f.offset, ← sizeOf f.type) : Sem (Nat × Nat))).run P w = .ok l.toArray w := by
              rw [Array.mapM_eq_mapM_toList]
              simp only [Sem.run_map, hm, Result.andThen_ok]
            cases hg : Instr.fill (fun i => l[i]?) z.cells ps with
            | none => simp [hg] at h
            | some c =>
              simp only [hg, Option.some.injEq] at h
              subst h
              have hzv : (zeroValue t).run P w = .ok z w := by simp [zeroValue, run_typeInfo' hi, hz]
              unfold Instr.build
              simp only [Sem.run_bind, hzv, Result.andThen_ok, run_underlying hu]

              rw [hm']
              simp [hg]
        | _ => simp [hi, hz, hu, bdV] at h
theorem run_mif {P:Program}{w:World}{t:TypeId}{x v:Value}(h:mif P t x=some v):(Instr.makeInterface t x).run P w = .ok v w:=by
 unfold mif at h
 cases hu:P.underlying t with
 | none=>simp[hu] at h
 | some d=>cases d<;>simp[hu] at h<;>subst h<;>simp[Instr.makeInterface,run_underlying hu]
theorem run_stV {P:Program}{w:World}{t:TypeId}(ht:tkind P t=3){x i v:Value}(h:stV x i=some v):(Instr.index t x i).run P w = .ok v w:=by
 have hu:=tkind_string ht
 unfold stV at h
 split at h
 ·split at h
  ·rename_i hi
   split at h
   ·rename_i b hb
    simp only[Option.some.injEq] at h; subst h
    simp[Instr.index,asIntOf,run_underlying hu,hi,hb]
   ·cases h
  ·cases h
 ·cases h
theorem run_xaV {P:Program}{w:World}{t:TypeId}{x i v:Value}(h:xaV (xinf P t) x i=some v):(Instr.index t x i).run P w = .ok v w:=by
 unfold xinf at h
 cases hu:P.underlying t with
 | none=>simp[hu,xaV] at h
 | some d =>
  cases d with
  | array len e =>
   simp only[hu] at h
   cases ht:tagg P e with
   | none=>simp[ht,xaV] at h
   | some k =>
    simp only[ht] at h
    cases hs:tsz P e with
    | none=>simp[hs,xaV] at h
    | some n =>
     simp only[hs] at h
     unfold xaV at h
     split at h
     ·rename_i h1
      simp only[Option.some.injEq,Prod.mk.injEq] at h1
      obtain⟨rfl,rfl,rfl⟩:=h1
      split at h
      ·rename_i hi
       simp[Instr.index,asIntOf,run_underlying hu,hi,run_sizeOf' hs,run_part ht h]
      ·cases h
     ·cases h
  | _=>simp[hu,xaV] at h
theorem run_cvV {P:Program}{w:World}{src dst:TypeId}(ht:tkind P src=2){x v:Value}(h:cvV (ikind P dst) x=some v):(convert src dst x).run P w = .ok v w:=by
 obtain⟨k,hs⟩:=tkind_int ht
 unfold ikind at h
 cases hu:P.underlying dst with
 | none=>simp[hu,cvV] at h
 | some d =>
  cases d with
  | int j =>
   simp only[hu] at h
   match x,h with
   | .int a n,h=>simp only[cvV,Option.some.injEq] at h; subst h; simp[convert,run_underlying hu,run_underlying hs,Conv.intToInt]
  | _=>simp[hu,cvV] at h
theorem run_lnV {P:Program}{w:World}{ts:Array TypeId}{xs:Array Operand}{s:Env}{ty t:TypeId}{y:Operand}{v:Value}(ht:ts[0]?=some t)(hxs:xs[0]?=some y)
  (h:lnV (tkind P t) (ev s y)=some v) :
  (Builtin.len_ ts ty (xs.map (ev s))).run P w = .ok v w:=by
 unfold lnV at h
 split at h<;>rename_i hk hx
 ·have hu:=tkind_string hk
  simp only[Option.some.injEq] at h; subst h
  simp[Builtin.len_,ht,hxs,run_underlying hu,hx,goInt]
 ·obtain⟨e,hu⟩:=tkind_slice hk
  simp only[Option.some.injEq] at h; subst h
  simp[Builtin.len_,ht,hxs,run_underlying hu,hx,goInt]
 ·cases h
theorem run_bnd {P:Program}{w:World}{v:Value}{y l d:Nat}{code:BoundsCode}(h:bnd (some v) d y=some l):(Instr.sliceBound v y code).run P w = .ok l w:=by
 unfold bnd at h
 split at h
 ·rename_i hv; cases hv
 ·rename_i hv
  cases hv
  split at h
  ·rename_i hi; simp only[Option.some.injEq] at h; subst h; simp[Instr.sliceBound,asIntOf,hi]
  ·cases h
 ·cases h
theorem run_bounds {P:Program}{w:World}{b:Bool}{len cap h l:Nat}{lo hi:Option Value}(hh:bnd hi len cap=some h)(hl:bnd lo 0 h=some l) :
  (Instr.sliceBounds b len cap lo hi none).run P w = .ok (l,h,cap) w:=by
 cases hi with
 | none =>
  simp only[bnd,Option.some.injEq] at hh; subst hh
  cases lo with
  | none=>simp only[bnd,Option.some.injEq] at hl; subst hl; simp[Instr.sliceBounds]
  | some v=>simp[Instr.sliceBounds,run_bnd hl]
 | some u =>
  cases lo with
  | none=>simp only[bnd,Option.some.injEq] at hl; subst hl; simp[Instr.sliceBounds,run_bnd hh]
  | some v=>simp[Instr.sliceBounds,run_bnd hh,run_bnd hl]
theorem run_ssV {P:Program}{w:World}{t:TypeId}(ht:tkind P t=3){x v:Value}{lo hi:Option Value}(h:ssV x lo hi=some v):(Instr.sliceAt t x lo hi none).run P w = .ok v w:=by
 have hu:=tkind_string ht
 unfold ssV at h
 split at h
 ·split at h
  ·rename_i hh
   split at h
   ·rename_i hl
    simp only[Option.some.injEq] at h; subst h
    simp[Instr.sliceAt,run_underlying hu,Instr.slice,run_bounds hh hl]
   ·cases h
  ·cases h
 ·cases h
theorem run_slV {P:Program}{w:World}{t:TypeId}{x v:Value}{lo hi:Option Value}(h:slV (iinf P t) x lo hi=some v):(Instr.sliceAt t x lo hi none).run P w = .ok v w:=by
 unfold iinf at h
 cases hu:P.underlying t with
 | none=>simp[hu,slV] at h
 | some d =>
  cases d with
  | slice e =>
   simp only[hu] at h
   cases hz:tsz P e with
   | none=>simp[hz,slV] at h
   | some n =>
    simp only[hz] at h
    unfold slV at h
    split at h<;>rename_i hi1
    ·simp only[Option.some.injEq,Prod.mk.injEq,true_and] at hi1
     subst hi1
     split at h
     ·rename_i hh
      split at h
      ·rename_i hl
       simp only[Option.some.injEq] at h; subst h
       simp[Instr.sliceAt,run_underlying hu,Instr.slice,run_bounds hh hl,run_sizeOf' hz]
      ·cases h
     ·cases h
    ·cases hi1
    ·cases h
  | array len e =>
   simp only[hu] at h
   cases hz:tsz P e with
   | none=>simp[hz,slV] at h
   | some n =>
    simp only[hz] at h
    unfold slV at h
    split at h<;>rename_i hi1
    ·cases hi1
    ·simp only[Option.some.injEq,Prod.mk.injEq] at hi1
     obtain⟨rfl,rfl⟩:=hi1
     split at h
     ·rename_i hh
      split at h
      ·rename_i hl
       simp only[Option.some.injEq] at h; subst h
       simp[Instr.sliceAt,run_underlying hu,Instr.sureAddr,run_bounds hh hl,run_sizeOf' hz]
      ·cases h
     ·cases h
    ·cases h
  | _=>simp[hu,slV] at h
theorem run_sl3V {P:Program}{w:World}{t:TypeId}{x v hi mx:Value}{lo:Option Value}(h:sl3V (iinf P t) x lo hi mx=some v):(Instr.sliceAt t x lo (some hi) (some mx)).run P w = .ok v w:=by
 unfold iinf at h
 cases hu:P.underlying t with
 | none=>simp[hu,sl3V] at h
 | some d =>
  cases d with
  | slice e =>
   simp only[hu] at h
   cases hz:tsz P e with
   | none=>simp[hz,sl3V] at h
   | some n =>
    simp only[hz] at h
    unfold sl3V at h
    split at h
    ·rename_i hi1
     simp only[Option.some.injEq,Prod.mk.injEq,true_and] at hi1
     subst hi1
     split at h
     ·rename_i hm
      split at h
      ·rename_i hh
       split at h
       ·rename_i hl
        simp only[Option.some.injEq] at h; subst h
        cases lo with
        | none=>simp only[bnd,Option.some.injEq] at hl; subst hl; simp[Instr.sliceAt,run_underlying hu,Instr.slice,Instr.sliceBounds,run_bnd hm,run_bnd hh,run_sizeOf' hz]
        | some v=>simp[Instr.sliceAt,run_underlying hu,Instr.slice,Instr.sliceBounds,run_bnd hm,run_bnd hh,run_bnd hl,run_sizeOf' hz]
       ·cases h
      ·cases h
     ·cases h
    ·cases h
  | array len e =>
   simp only[hu] at h
   cases hz:tsz P e with
   | none=>simp[hz,sl3V] at h
   | some n=>simp[hz,sl3V] at h
  | _=>simp[hu,sl3V] at h
theorem run_rdV {P:Program}{w:World}{o:Oper}{s:Env}{v:Value}(h:rdV P o.op s (abs w)=some v):(execOp (ev s) o).run P w = .ok (.value v) w:=by
 cases ho:o.op<;>simp only[ho,rdV] at h<;>try (cases h; done)
 case move x=>simp only[Option.some.injEq] at h; subst h; simp[execOp,ho]
 case assign x=>simp only[Option.some.injEq] at h; subst h; simp[execOp,ho]
 case pick c a b =>
  unfold pkV at h
  split at h<;>rename_i hc<;>first | (cases h; done) | (simp only[Option.some.injEq] at h; subst h; simp[execOp,ho,hc,asBool])
 case load t a=>simp[execOp,ho,run_load_op h]
 case nilCheck x=>exact run_ncV ho h
 case binOp op t x y _ =>
  have:=run_binV (w:=w) (t:=t) h
  simp only[execOp,ho]
  simp only[Sem.run_bind] at this ⊢
  simp[this]
 case unOp op t x=>simp[execOp,ho,run_unV h]
 case fieldAddr t x f=>simp[execOp,ho,run_fieldAt' h]
 case field t x f=>simp[execOp,ho,run_fdV h]
 case indexAddr t x i=>simp[execOp,ho,run_indexAt' h]
 case index t x i =>
  split at h
  ·rename_i ht; simp[execOp,ho,run_stV ht h]
  ·simp[execOp,ho,run_xaV h]
 case extract t i=>simp[execOp,ho,run_exV h]
 case slice t x lo hi mx =>
  cases mx with
  | some mx =>
   cases hi with
   | none=>cases h
   | some hi=>simp only at h; simp[execOp,ho,run_sl3V h]
  | none =>
   simp only at h
   split at h
   ·rename_i ht; simp[execOp,ho,run_ssV ht h]
   ·simp[execOp,ho,run_slV h]
 case convert src dst x =>
  split at h
  ·rename_i ht; simp[execOp,ho,run_cvV ht h]
  ·cases h
 case makeInterface t x=>simp[execOp,ho,run_mif h]
 case makeFunc fn f c=>simp only[Option.some.injEq] at h; subst h; simp[execOp,ho,Instr.makeFunc]
 case build t ps =>
  have:=run_bdV (w:=w) h
  have he:(List.map (fun x=>(x.fst,ev s x.snd)) ps.toList).toArray=ps.map fun (i,x)=>(i,ev s x):=by
   rw[← List.map_toArray]
  rw[he] at this
  simp[execOp,ho,this]
 case call c =>
  split at h
  ·rename_i hc
   split at h
   ·rename_i t y ht hy
    have:=run_lnV (w:=w) (ty:=o.type) ht hy h
    simp[execOp,ho,resolve,hc,invoke,builtin,this]
   ·cases h
  ·cases h
end Go.Den
namespace Go.Den
open Go
def ov (x:Option Value)(K:Value→Prop):Prop:=match x with
 | some v=>K v
 | none=>False
def vvM (P:Program)(S:Sem Value)(h:Heap)(K:KTy):Prop :=
 ∀ w,abs w=h→∃ v w',S.run P w = .ok v w'∧Okw w w'∧K v (abs w')
def uM (P:Program)(S:Sem Unit)(h:Heap)(K:Heap→Prop):Prop :=
 ∀ w,abs w=h→∃ w',S.run P w = .ok () w'∧Okw w w'∧K (abs w')
def callM (P:Program)(f:FuncId)(args:Array Value)(h:Heap)(K:KTy):Prop :=
 ∀ w,abs w=h→CallsIn Fence.wide 0 P f args w (fun e w'=>∃ v,e = .returned v∧Okw w w'∧K v (abs w'))
def roundM (P:Program)(l:Nat)(f:FuncId)(tmps:Array Value)(assign body:Code)(h:Heap)(K:KTy):Prop :=
 ∀ w,abs w=h→RoundIn Fence.wide 0 P l f tmps assign body w (fun e w'=>∃ v,e = .returned v∧Okw w w'∧K v (abs w'))
def nxM (P:Program)(S:Sem Next)(h:Heap)(K:KTy):Prop :=
 ∀ w,abs w=h →
  (∃ v w',S.run P w = .ok (.value v) w'∧Okw w w'∧K v (abs w')) ∨
  (∃ w',S.run P w = .ok .skip w'∧Okw w w'∧K undef (abs w')) ∨
  (∃ f args w',S.run P w = .ok (.enter f args) w'∧Okw w w'∧callM P f args (abs w') K) ∨
  (∃ l f tmps zas bd w',S.run P w = .ok (.round l f tmps zas bd) w'∧Okw w w'∧roundM P l f tmps zas bd (abs w') K)
def upd (h:Heap)(b:Nat)(o:Obj):Heap:=fun k=>if k=b then some o else h k
def nwM (c:Option (Array Value))(e:TypeId)(h:Heap)(K:KTy):Prop:=match c with
 | some c=>∀ b,h b=none→K (.pointer (some ⟨b,0,none⟩)) (upd h b (.cells c e (0,0)))
 | none=>False
def zc (P:Program)(e:TypeId):Option (Array Value):=match P.info? e with
 | some i=>match i.zero with
  | some z=>some z.cells
  | none=>none
 | none=>none
def bsI (P:Program)(t:TypeId):Option (TypeId × Nat × Array Value):=match P.underlying t with
 | some (.slice e)=>match tsz P e with
  | some sz=>match zc P e with
   | some z=>some (e,sz,z)
   | none=>none
  | none=>none
 | _=>none
def zrow (z:Array Value)(n:Nat):Array Value:=(Array.range n).map (z[· % z.size]!)
def bsM (inf:Option (TypeId × Nat × Array Value))(n:Nat)(ps:List (Nat × Value))(h:Heap)(K:KTy):Prop:=match inf with
 | some (e,sz,z)=>n*sz≤16777216∧match Instr.fill (fun i=>some (i*sz,sz)) (zrow z (n*sz)) ps with
  | some c=>∀ b,h b=none→K (.slice (some ⟨b,0,none⟩) n n) (upd h b (.cells c e (0,0)))
  | none=>False
 | none=>False
def cset (h:Heap)(b o:Nat)(v:Value):Heap:=fun k=>if k=b then (match h b with
 | some (.cells c e f)=>some (.cells (c.setIfInBounds o v) e f)
 | x=>x) else h k
def stC (b:Nat):Nat→List Value→Heap→(Heap→Prop)→Prop
 | _,[],h,K=>K h
 | o,v::r,h,K=>match cel h b o with
  | some _=>frz h b o=false∧v.oneCell'=true∧stC b (o+1) r (cset h b o v) K
  | none=>False
def stM (n:Option Nat)(x v:Value)(h:Heap)(K:Heap→Prop):Prop:=match n,x with
 | some n,.pointer (some ⟨b,o,none⟩)=>v.cells.size=n∧stC b o v.cells.toList h K
 | _,_=>False
def pvM (P:Program)(S:Sem Value)(K:Value→Prop):Prop:=∃ v,(∀ w,S.run P w = .ok v w)∧K v
def GoodP (P : Program) (g : Nat → Bool) : Prop := ∀ f, g f = true → ∃ fn, P.funcs[f]? = some fn ∧ fn.body.isNone = false ∧ (fn.name == "runtime.NumGoroutine") = false
def isRd:Op→Bool
 | .load _ _ | .nilCheck _ | .unOp _ _ _ | .fieldAddr _ _ _ | .field _ _ _ | .indexAddr _ _ _ | .extract _ _ | .pick _ _ _
 | .makeInterface _ _ | .makeFunc _ _ _ | .build _ _ | .slice _ _ _ _ _ | .index _ _ _ | .convert _ _ _=>true
 | .call c=>match c.callee with
  | .builtin .len=>true
  | _=>false
 | _=>false
def denOp (P:Program)(g:Nat→Bool)(o:Oper)(s:Env)(h:Heap)(K:KTy):Prop:=match o.op with
 | .move x=>K (ev s x) h
 | .assign x=>K (ev s x) h
 | .binOp op t x y _=>match tkind P t with
  | 0=>pvM P (do eqGuard op t x y (ev s x) (ev s y); binOp op t (ev s x) (ev s y)) (fun v=>K v h)
  | k=>ov (binV op k (isc x || isc y) (ev s x) (ev s y)) (fun v=>K v h)
 | .alloc e=>nwM (zc P e) e h K
 | .box e x=>nwM (some (ev s x).cells) e h K
 | .buildSlice t n ps=>bsM (bsI P t) n (ps.toList.map fun (i,x)=>(i,ev s x)) h K
 | .store t a x=>stM (tsz P t) (ev s a) (ev s x) h (fun h=>K undef h)
 | .makeSlice t l c=>vvM P (Instr.makeSlice t (ev s l) (ev s c)) h K
 | .makeMap t r=>vvM P (Instr.makeMap t (r.map (ev s))) h K
 | .mapUpdate t m k x=>uM P (Instr.mapUpdate t (ev s m) (ev s k) (ev s x)) h (fun h=>K undef h)
 | .lookup t x i ok=>vvM P (Instr.lookup t (ev s x) (ev s i) ok) h K
 | .call c=>match c.callee with
  | .value (.func f)=>match g f with
   | true=>callM P f (c.args.map (ev s)) h K
   | false=>nxM P (callFunc f (c.args.map (ev s))) h K
  | .builtin .len=>match c.argTypes[0]? with
   | some t=>match tkind P t with
    | 3=>ov (rdV P o.op s h) (fun v=>K v h)
    | 7=>ov (rdV P o.op s h) (fun v=>K v h)
    | _=>vvM P (Builtin.len_ c.argTypes o.type (c.args.map (ev s))) h K
   | none=>False
  | .builtin .append=>vvM P (Builtin.append_ c.argTypes o.type (c.args.map (ev s))) h K
  | .builtin .copy=>vvM P (Builtin.copy_ c.argTypes o.type (c.args.map (ev s))) h K
  | .builtin .clear=>vvM P (Builtin.clear_ c.argTypes o.type (c.args.map (ev s))) h K
  | .builtin .delete=>vvM P (Builtin.delete_ c.argTypes o.type (c.args.map (ev s))) h K
  | .builtin .max=>vvM P (Builtin.max_ c.argTypes o.type (c.args.map (ev s))) h K
  | .builtin .min=>vvM P (Builtin.min_ c.argTypes o.type (c.args.map (ev s))) h K
  | .builtin .cap=>vvM P (Builtin.cap_ c.argTypes o.type (c.args.map (ev s))) h K
  | .value x=>nxM P (do let d ← Deferred.ofValue (ev s x) (c.args.map (ev s)); invoke d.target d.args) h K
  | .invoke x name=>nxM P (callMethod (ev s x) name (c.args.map (ev s))) h K
  | _=>nxM P (execOp (ev s) o) h K
 | _=>match isRd o.op with
  | true=>ov (rdV P o.op s h) (fun v=>K v h)
  | false=>nxM P (execOp (ev s) o) h K
structure Rel (n:Nat)(m:List Nat)(a:Act)(s:Env):Prop where
 size:a.tmps.size=n
 get:∀ i,a.tmps.getD i undef=s i
 defers:a.defers=m.map fun r=>({ target:=.collected r,args:=#[] }:Deferred)
theorem Rel.eval {n:Nat}{m:List Nat}{a:Act}{s:Env}(h:Rel n m a s):a.eval=ev s:=by
 funext x
 cases x<;>first | rfl | exact h.get _
theorem Rel.put {n:Nat}{m:List Nat}{a:Act}{s:Env}(h:Rel n m a s){d:Option Nat}(hd:∀ t,d=some t→t<n)(v:Value):Rel n m (a.put d v) (putO s d v):=by
 cases d with
 | none=>exact h
 | some t =>
  refine⟨by simp[Act.put,h.size],fun i=>?_,by simp[Act.put,h.defers]⟩
  have ht:=hd t rfl
  have hs:=h.size
  have hg:=h.get i
  simp only[Act.put,putO,Den.put]
  by_cases hi:i=t
  ·subst hi
   simp[hs,ht]
  ·have:Nat.beq i t=false:=by rw[← Bool.not_eq_true,Nat.beq_eq]; exact hi
   simp only[this,cond_false,← hg,Array.getD_eq_getD_getElem?]
   rw[Array.getElem?_setIfInBounds_ne (Ne.symm hi)]
variable {P:Program}{g:Nat→Bool}{n:Nat}{m:List Nat}
theorem ov_some {x:Option Value}{K:Value→Prop}(h:ov x K):∃ v,x=some v∧K v:=by
 cases x with
 | none=>exact h.elim
 | some v=>exact⟨v,rfl,h⟩
variable {K:KTy}
theorem uponIn_nx {o:Oper}{a:Act}{w:World}{S:Sem Next}{Kw:Act→World→Prop}{Q:Exit→Act→World→Prop}(hn:nxM P S (abs w) K)
  (hK:∀ v w',Okw w w'→K v (abs w')→Kw (a.put o.dst v) w') (F:Fence) (hF:F=Fence.wide∨∃ l,F=Fence.wide.inRound l):o.uponIn F 0 P a Kw Q (S.run P w):=by
 rcases hn w rfl with ⟨v,w',hr,ho,hk⟩ | ⟨w',hr,ho,hk⟩ | ⟨f,args,w',hr,ho,hk⟩ | ⟨l,f,tmps,zas,bd,w',hr,ho,hk⟩
 ·rw[hr]; exact hK _ _ ho hk
 ·rw[hr]; exact hK _ _ ho hk
 ·rw[hr]
  have hc:CallsIn Fence.wide 0 P f args w' fun
   | .returned v,w''=>Kw (a.put o.dst v) w''
   | .panicked chain,w''=>Q (.panic chain) a w''
   | .outgrown,_=>LetsOut Q:=(hk w' rfl).mono (fun e w'' ⟨v,he,ho',hk'⟩=>by subst he; exact hK _ _ (ho.trans ho') hk')
  rcases hF with rfl | ⟨l,rfl⟩
  ·exact⟨fun h=>by simp[Fence.wide] at h,hc⟩
  ·exact⟨fun h=>by simp[Fence.wide,Fence.inRound] at h,hc⟩
 ·rw[hr]
  have hc:RoundIn Fence.wide 0 P l f tmps zas bd w' fun
   | .returned v,w''=>Kw (a.put o.dst v) w''
   | .panicked chain,w''=>Q (.panic chain) a w''
   | .outgrown,_=>LetsOut Q:=(hk w' rfl).mono (fun e w'' ⟨v,he,ho',hk'⟩=>by subst he; exact hK _ _ (ho.trans ho') hk')
  rcases hF with rfl | ⟨l,rfl⟩
  ·exact⟨fun h=>by simp[Fence.wide] at h,hc⟩
  ·exact⟨fun h=>by simp[Fence.wide,Fence.inRound] at h,hc⟩
theorem nx_of_ov {o:Oper}{s:Env}{h:Heap}(hd:ov (rdV P o.op s h) (fun v=>K v h)):nxM P (execOp (ev s) o) h K:=by
 obtain⟨v,hv,hk⟩:=ov_some hd
 exact fun w hw=>.inl ⟨v,w,by subst hw; exact run_rdV hv,Okw.refl w,by subst hw; exact hk⟩
theorem nx_of_vv {S:Sem Value}{S':Sem Next}{h:Heap}(hS:S'=(do pure (.value (← S))))(hd:vvM P S h K):nxM P S' h K:=by
 subst hS
 intro w hw
 obtain⟨v,w',hr,ho,hk⟩:=hd w hw
 exact .inl ⟨v,w',by simp[hr],ho,hk⟩
theorem nx_of_u {S:Sem Unit}{S':Sem Next}{h:Heap}(hS:S'=(do S; pure .skip))(hd:uM P S h (fun h=>K undef h)):nxM P S' h K:=by
 subst hS
 intro w hw
 obtain⟨w',hr,ho,hk⟩:=hd w hw
 exact .inr (.inl ⟨w',by simp[hr],ho,hk⟩)
theorem nx_of_pv {S:Sem Value}{S':Sem Next}{h:Heap}(hS:S'=(do pure (.value (← S))))(hd:pvM P S (fun v=>K v h)):nxM P S' h K:=by
 obtain⟨v,hr,hk⟩:=hd
 exact nx_of_vv hS (fun w hw=>⟨v,w,hr w,Okw.refl w,by subst hw; exact hk⟩)
theorem nx_of_call (hg:GoodP P g){f:FuncId}(hf:g f=true){o:Oper}{c:Call}(ho:o.op = .call c)(hc:c.callee = .value (.func f)){s:Env}{h:Heap}
  (hd:callM P f (c.args.map (ev s)) h K):nxM P (execOp (ev s) o) h K:=by
 obtain⟨fn,h1,h2,h3⟩:=hg f hf
 intro w hw
 refine .inr (.inr (.inl ⟨f,c.args.map (ev s),w,?_,Okw.refl w,by subst hw; exact hd⟩))
 have h3' : ¬ fn.name = "runtime.NumGoroutine" := by simpa using h3
 have h2':¬ fn.body=none:=by intro hb; simp[hb] at h2
 simp[execOp,ho,resolve,hc,ev,Deferred.ofValue,invoke,callFunc,h1,h2',h3']
theorem abs_alloc (w:World)(o:Obj):abs { w with heap:=w.heap.push o }=upd (abs w) w.heap.size o:=by
 funext k
 simp only[abs,upd,Array.getElem?_push]
theorem abs_fresh (w:World):abs w w.heap.size=none:=by simp[abs]
theorem vv_of_nw {c:Option (Array Value)}{e:TypeId}{h:Heap}{S:Sem Value}(hS:∀ a w,c=some a→S.run P w = .ok (.pointer (some ⟨w.heap.size,0,none⟩)) { w with heap:=w.heap.push (.cells a e) })
  (hd:nwM c e h K):vvM P S h K:=by
 cases c with
 | none=>exact hd.elim
 | some c =>
  intro w hw
  subst hw
  exact⟨_,_,hS c w rfl,⟨rfl,rfl,rfl,by simp⟩,by rw[abs_alloc]; exact hd _ (abs_fresh w)⟩
theorem vv_alloc {e:TypeId}{h:Heap}(hd:nwM (zc P e) e h K):vvM P (Instr.alloc e true (.tuple #[])) h K:=by
 refine vv_of_nw (fun a w hz=>?_) hd
 unfold zc at hz
 split at hz
 ·rename_i i hi
  split at hz
  ·rename_i z hz'
   simp only[Option.some.injEq] at hz; subst hz
   simp[Instr.alloc,zeroValue,run_typeInfo' hi,hz',newVar,newRow]
  ·cases hz
 ·cases hz
theorem vv_box {e:TypeId}{x:Value}{h:Heap}(hd:nwM (some x.cells) e h K):vvM P (Instr.box e x) h K:=by
 refine vv_of_nw (fun a w hz=>?_) hd
 simp only[Option.some.injEq] at hz; subst hz
 simp[Instr.box,newVar,newRow]
theorem vv_bs {t:TypeId}{n:Nat}{ps:List (Nat × Value)}{h:Heap}(hd:bsM (bsI P t) n ps h K):vvM P (Instr.buildSlice t n ps.toArray) h K:=by
 intro w hw
 subst hw
 unfold bsI at hd
 split at hd
 ·rename_i e hu
  split at hd
  ·rename_i sz hz
   split at hd
   ·rename_i zz hzc
    obtain⟨i,z,hi,hzz,hze⟩:∃ i z,P.info? e=some i∧i.zero=some z∧zz=z.cells:=by
     unfold zc at hzc
     split at hzc
     ·rename_i i hi
      split at hzc
      ·rename_i z hz'
       exact⟨i,z,hi,hz',by simpa using hzc.symm⟩
      ·cases hzc
     ·cases hzc
    subst hze
    simp only[bsM] at hd
    obtain⟨hle,hd⟩:=hd
    split at hd
    ·rename_i c hf
     refine⟨.slice (some ⟨w.heap.size,0,none⟩) n n,{ w with heap:=w.heap.push (.cells c e) },?_,⟨rfl,rfl,rfl,by simp⟩,by rw[abs_alloc]; exact hd _ (abs_fresh w)⟩
     have hnot:¬ n*sz > 2 ^ 24:=by omega
     unfold Instr.buildSlice
     simp only[Sem.run_bind,run_underlying hu,Result.andThen_ok,run_sizeOf' hz,hnot,if_false]
     by_cases h0:n*sz=0
     ·have he:∀ f:Nat→Value,(Array.range 0).map f=#[]:=by intro f; simp
      simp only[zrow] at hf
      rw[h0,he] at hf
      simp only[h0,if_true,he,Sem.run_bind,Sem.run_pure,Result.andThen_ok]
      simp[hf,newRow]
     ·simp only[h0,if_false,Sem.run_bind,zeroValue,run_typeInfo' hi,Result.andThen_ok,hzz,Sem.run_pure]
      simp only[zrow] at hf
      simp[hf,newRow]
    ·exact hd.elim
   ·exact hd.elim
  ·exact hd.elim
 ·exact hd.elim
theorem frz_abs (w:World)(b o:Nat):frz (abs w) b o=w.frozen? ⟨b,o,none⟩:=by
 simp only[frz,abs,World.frozen?]
 cases w.heap[b]? with
 | none=>rfl
 | some x=>cases x<;>rfl
theorem abs_setCell (w:World)(b o:Nat)(v:Value):abs (w.setCell ⟨b,o,none⟩ v)=cset (abs w) b o v:=by
 funext k
 simp only[abs,cset,World.setCell,Array.getElem?_modify]
 by_cases hk:k=b
 ·subst hk
  simp only[if_true]
  cases w.heap[k]? with
  | none=>rfl
  | some x=>cases x<;>rfl
 ·rw[if_neg (Ne.symm hk),if_neg hk]
theorem run_stC {b o:Nat}:∀ (l:List Value) (i:Nat) (w w0:World) (K:Heap→Prop),Okw w0 w→stC b (o+i) l (abs w) K→∃ w',(storeCells ⟨b,o,none⟩ l i).run P w = .ok () w'∧Okw w0 w'∧K (abs w')
 | [],i,w,w0,K,ho,h=>⟨w,by simp[storeCells],ho,h⟩
 | v::l,i,w,w0,K,ho,h=>by
  simp only[stC] at h
  split at h
  ·rename_i u hc
   obtain⟨hf,h1,h⟩:=h
   rw[← abs_setCell] at h
   have hsz:(w.setCell ⟨b,o+i,none⟩ v).heap.size=w.heap.size:=by simp[World.setCell]
   obtain⟨w',hr,ho',hk⟩:=run_stC l (i+1) (w.setCell ⟨b,o+i,none⟩ v) w0 K ⟨ho.os,ho.tape,ho.output,by rw[hsz]; exact ho.size⟩ (by rw[← Nat.add_assoc]; exact h)
   refine⟨w',?_,ho',hk⟩
   rw[cel_abs] at hc
   rw[frz_abs] at hf
   simp only[storeCells,Sem.run_bind,add_none,run_store P w _ v _ h1,hc,hf,Bool.false_eq_true,if_false,Result.andThen_ok,hr]
  ·exact h.elim
theorem u_of_st {t:TypeId}{x v:Value}{h:Heap}{K:Heap→Prop}(hd:stM (tsz P t) x v h K):uM P (Instr.storeAt t x v) h K:=by
 intro w hw
 subst hw
 unfold stM at hd
 split at hd
 ·rename_i n b o hz
  obtain⟨hs,hd⟩:=hd
  obtain⟨w',hr,ho,hk⟩:=run_stC (P:=P) (o:=o) v.cells.toList 0 w w K (Okw.refl w) hd
  refine⟨w',?_,ho,hk⟩
  simp[Instr.storeAt,Instr.sureAddr,storeVar,run_sizeOf' hz,hs,hr]
 ·exact hd.elim
theorem denOp_nx (hg:GoodP P g){o:Oper}{s:Env}{h:Heap}(hd:denOp P g o s h K):nxM P (execOp (ev s) o) h K:=by
 unfold denOp at hd
 split at hd
 case h_1 x ho=>exact fun w hw=>.inl ⟨ev s x,w,by simp[execOp,ho],Okw.refl w,by subst hw; exact hd⟩
 case h_2 x ho=>exact fun w hw=>.inl ⟨ev s x,w,by simp[execOp,ho],Okw.refl w,by subst hw; exact hd⟩
 case h_3 op t x y yt ho =>
  split at hd
  ·exact nx_of_pv (by simp[execOp,ho]) hd
  ·exact nx_of_ov (by rw[ho]; exact hd)
 case h_4 e ho=>exact nx_of_vv (by simp[execOp,ho]) (vv_alloc hd)
 case h_5 e x ho=>exact nx_of_vv (by simp[execOp,ho]) (vv_box hd)
 case h_6 t k ps ho =>
  have he:(List.map (fun x=>(x.fst,ev s x.snd)) ps.toList).toArray=ps.map fun (i,x)=>(i,ev s x):=by
   rw[← List.map_toArray]
  have:=vv_bs hd
  rw[he] at this
  exact nx_of_vv (by simp[execOp,ho]) this
 case h_7 t a x ho=>exact nx_of_u (by simp[execOp,ho]) (u_of_st hd)
 case h_8 t l c ho=>exact nx_of_vv (by simp[execOp,ho]) hd
 case h_9 t r ho=>exact nx_of_vv (by simp[execOp,ho]) hd
 case h_10 t m k x ho=>exact nx_of_u (by simp[execOp,ho]) hd
 case h_11 t x i ok ho=>exact nx_of_vv (by simp[execOp,ho]) hd
 case h_12 c ho =>
  split at hd
  case h_1 f hc =>
   split at hd
   ·rename_i hf; exact nx_of_call hg hf ho hc hd
   ·refine fun w hw=>?_
    have:=hd w hw
    have he:(execOp (ev s) o).run P w=(callFunc f (c.args.map (ev s))).run P w:=by
     simp[execOp,ho,resolve,hc,ev,Deferred.ofValue,invoke]
    rw[he]; exact this
  case h_2 hc =>
   split at hd
   ·split at hd
    ·exact nx_of_ov hd
    ·exact nx_of_ov hd
    ·exact nx_of_vv (by simp[execOp,ho,resolve,hc,invoke,builtin]) hd
   ·exact hd.elim
  case h_10 x hx hc=>
   refine fun w hw=>?_
   have:=hd w hw
   simpa [execOp,ho,resolve,hc] using this
  case h_11 x name hc =>
   refine fun w hw=>?_
   have:=hd w hw
   have he:(execOp (ev s) o).run P w=(callMethod (ev s x) name (c.args.map (ev s))).run P w:=by
    have h0:(#[ev s x]++c.args.map (ev s))[0]?=some (ev s x):=by simp[Array.getElem?_append]
    have h1:(c.args.map (ev s)).extract 0 c.args.size=c.args.map (ev s):=by
     simp
    simp[execOp,ho,resolve,hc,invoke,h0,h1]
   rw[he]; exact this
  case h_12=>exact hd
  all_goals (rename_i hc; exact nx_of_vv (by simp[execOp,ho,resolve,hc,invoke,builtin]) hd)
 case h_13 =>
  split at hd
  ·exact nx_of_ov hd
  ·exact hd
end Go.Den
namespace Go.Den
open Go
def isB (v:Value)(want:Bool):Bool:=match v with
 | .bool b=>b == want
 | _=>false
def dstOf (ops:Array Oper)(j:Nat):Option Nat:=match ops[j]? with
 | some o=>o.dst
 | none=>none
def wantB (ops:Array Oper)(s:Env)(gd:Option (Nat × Bool)):Bool:=match gd with
 | none=>true
 | some (j,want)=>match dstOf ops j with
  | some t=>isB (s t) want
  | none=>false
def gM (c:Bool)(A:KTy→Prop)(h:Heap)(K:KTy):Prop:=(match c with
 | true=>A
 | false=>fun k=>k undef h) K
def denL (P:Program)(g:Nat→Bool)(ops:Array Oper):List Oper→Env→Heap→(Env→Heap→Prop)→Prop
 | [],s,h,K=>K s h
 | o::r,s,h,K=>match o.guard with
  | none=>denOp P g o s h (fun v h=>denL P g ops r (putO s o.dst v) h K)
  | some gd=>gM (wantB ops s (some gd)) (fun K=>denOp P g o s h K) h (fun v h=>denL P g ops r (putO s o.dst v) h K)
def okOp (n:Nat)(o:Oper):Bool:=(match o.dst with
 | some d=>decide (d<n)
 | none=>true) && (match o.op with
 | .defer _=>false
 | .select _ _=>false
 | _=>true)
theorem okOp_dst {n:Nat}{o:Oper}(h:okOp n o=true):∀ t,o.dst=some t→t<n:=by
 intro t ht
 simp[okOp,ht] at h
 exact h.1
theorem okOp_defer {n:Nat}{o:Oper}(h:okOp n o=true):∀ c,o.op≠.defer c:=by
 intro c hc
 simp[okOp,hc] at h
variable {P:Program}{g:Nat→Bool}{n:Nat}{m:List Nat}{ops:Array Oper}
theorem wanted_eq {a:Act}{s:Env}(h:Rel n m a s)(o:Oper):Region.wanted o (yielded ops a.tmps)=wantB ops s o.guard:=by
 unfold Region.wanted wantB
 cases hg:o.guard with
 | none=>rfl
 | some gw =>
  obtain⟨j,want⟩:=gw
  simp only[yielded,dstOf]
  cases hj:ops[j]? with
  | none=>simp
  | some oj =>
   cases hd:oj.dst with
   | none=>simp[hd]
   | some t =>
    have hg:=h.get t
    rw[Array.getD_eq_getD_getElem?] at hg
    simp only[hd,Option.bind_some]
    cases ht:a.tmps[t]? with
    | none=>rw[ht] at hg; rw[← hg]; simp[isB,undef]
    | some v =>
     rw[ht] at hg
     simp only[Option.getD_some] at hg
     rw[← hg]
     cases v<;>simp[isB]
def Fw (r:Option Nat):Fence:=match r with
 | none=>Fence.wide
 | some l=>Fence.wide.inRound l
theorem Fw_or (r:Option Nat):Fw r=Fence.wide∨∃ l,Fw r=Fence.wide.inRound l:=by
 cases r with
 | none=>exact .inl rfl
 | some l=>exact .inr ⟨l,rfl⟩
theorem Fw_fn (r:Option Nat)(f:FuncId):(Fw r).fn f:=by cases r<;>trivial
theorem Fw_round (r:Option Nat):(Fw r).round=r:=by cases r<;>rfl
variable {K:KTy}
theorem opIn {r:Option Nat}{o:Oper}{a:Act}{w:World}{s:Env}{Kw:Act→World→Prop}{Q:Exit→Act→World→Prop}(hR:Rel n m a s)(ho:okOp n o=true)
  (hn:nxM P (execOp (ev s) o) (abs w) K) (hK:∀ v w',Okw w w'→K v (abs w')→Kw (a.put o.dst v) w'):o.wpIn (Fw r) 0 P a w Kw Q:=by
 refine⟨fun f _=>Fw_fn r f,?_⟩
 rw[Oper.semAt_eq _ _ _ (okOp_defer ho),hR.eval]
 exact uponIn_nx hn hK _ (Fw_or r)
theorem denL_sound (hg:GoodP P g){r:Option Nat}{w0:World}{K:Env→Heap→Prop}{Q:Exit→Act→World→Prop}
  (hQ:∀ s a w,Rel n m a s→Okw w0 w→K s (abs w)→Q .normal a w) :
  ∀ (l:List Oper) (k:Nat) (s:Env) (a:Act) (w:World),(∀ j,l[j]?=ops[k+j]?)→(∀ o∈l,okOp n o=true)→Rel n m a s→Okw w0 w →
   denL P g ops l s (abs w) K→wpOpsIn (Fw r) 0 P ops Q (List.range' k l.length) a w
 | [],k,s,a,w,_,_,hR,ho,hd=>hQ s a w hR ho hd
 | o::l,k,s,a,w,hl,hok,hR,ho,hd=>by
  have h0:ops[k]?=some o:=by simpa using (hl 0).symm
  have hl':∀ j,l[j]?=ops[k+1+j]?:=fun j=>by have:=hl (j+1); simpa [Nat.add_assoc,Nat.add_comm 1 j] using this
  have hoo:=hok o (by simp)
  have ih:=denL_sound hg (r:=r) hQ l (k+1)
  simp only[List.length_cons,List.range'_succ,wpOpsIn,h0]
  rw[wanted_eq hR]
  have step:∀ v w',Okw w w'→denL P g ops l (putO s o.dst v) (abs w') K→wpOpsIn (Fw r) 0 P ops Q (List.range' (k+1) l.length) (a.put o.dst v) w':=fun v w' ho' hd' =>
   ih _ _ _ hl' (fun o ho=>hok o (by simp[ho])) (hR.put (okOp_dst hoo) v) (ho.trans ho') hd'
  simp only[denL] at hd
  split at hd
  ·rename_i hgd
   simp only[hgd,wantB,if_true]
   exact opIn hR hoo (denOp_nx hg hd) step
  ·rename_i gd hgd
   rw[hgd]
   cases hw:wantB ops s (some gd) with
   | true =>
    simp only[hw,gM] at hd
    simp only[if_true]
    exact opIn hR hoo (denOp_nx hg hd) step
   | false =>
    simp only[hw,gM] at hd
    simp only[Bool.false_eq_true,if_false]
    exact⟨fun f _=>Fw_fn r f,step _ _ (Okw.refl w) hd⟩
end Go.Den
namespace Go.Den
open Go
def rdK:Op→Bool
 | .move _ | .assign _ | .binOp _ _ _ _ _ | .lookup _ _ _ _=>true
 | op=>isRd op
def rdP (P:Program)(S:Sem Value)(h:Heap)(v:Value):Prop:=∀ w,abs w=h→S.run P w = .ok v w
def lkM (P:Program)(S:Sem Value)(h:Heap)(K:Value→Prop):Prop:=∃ v,rdP P S h v∧K v
def denRd (P:Program)(op:Op)(s:Env)(h:Heap)(K:Value→Option (Heap→Prop)→Prop):Prop:=match op with
 | .move x=>K (ev s x) none
 | .assign x=>K (ev s x) none
 | .binOp op t x y _=>match tkind P t with
  | 0=>pvM P (do eqGuard op t x y (ev s x) (ev s y); binOp op t (ev s x) (ev s y)) (fun v=>K v none)
  | k=>ov (binV op k (isc x || isc y) (ev s x) (ev s y)) (fun v=>K v none)
 | .load t a=>ov (ldV (tagg P t) (ev s a) h) (fun v=>K v (some fun h=>ldV (tagg P t) (ev s a) h=some v))
 | .lookup t x i ok=>lkM P (Instr.lookup t (ev s x) (ev s i) ok) h (fun v=>K v (some fun h=>rdP P (Instr.lookup t (ev s x) (ev s i) ok) h v))
 | op=>match isRd op with
  | true=>ov (rdV P op s h) (fun v=>K v none)
  | false=>False
def mask (acc:List Nat)(o:Oper):Nat:=o.after.toList.foldl (fun s e=>if Region.binds .any e then s ||| 2 ^ e.on ||| acc.getD e.on 0 else s) 0
def masks (acc:List Nat):List Oper→List Nat
 | []=>acc
 | o::r=>masks (acc++[mask acc o]) r
def may (ops:Array Oper)(ms:List Nat)(L:Array Bool)(p:Nat):Bool :=
 (List.range ops.size).all fun k=>!(L.getD k false) || (match ops[k]? with
  | some o=>rdK o.op
  | none=>true) || !((ms.getD k 0).testBit p)
abbrev Pend:=List (Nat × (Heap→Prop))
def obl (ops:Array Oper)(ms:List Nat)(L:Array Bool):Pend→Heap→Prop→Prop
 | [],_,X=>X
 | (p,st)::r,h,X=>match may ops ms L p with
  | true=>st h∧obl ops ms L r h X
  | false=>obl ops ms L r h X
def addP (p:Nat)(st:Option (Heap→Prop))(l:Pend):Pend:=match st with
 | some st=>l++[(p,st)]
 | none=>l
def pickR (ops:Array Oper)(L:Array Bool):List Nat→Option Nat
 | []=>none
 | i::r=>match ops[i]? with
  | some o=>match rdK o.op && Region.free .any ops L i with
   | true=>some i
   | false=>pickR ops L r
  | none=>pickR ops L r
def gv (c:Bool)(A:(Value→Prop)→Prop)(K:Value→Prop):Prop:=(match c with
 | true=>A
 | false=>fun k=>k undef) K
def denRdG (P:Program)(op:Op)(s:Env)(h:Heap)(c:Bool)(K:Value→Option (Heap→Prop)→Prop):Prop:=match op with
 | .move x=>gv c (fun K=>K (ev s x)) (fun v=>K v none)
 | .assign x=>gv c (fun K=>K (ev s x)) (fun v=>K v none)
 | .binOp op t x y _=>match tkind P t with
  | 0=>gv c (pvM P (do eqGuard op t x y (ev s x) (ev s y); binOp op t (ev s x) (ev s y))) (fun v=>K v none)
  | k=>gv c (ov (binV op k (isc x || isc y) (ev s x) (ev s y))) (fun v=>K v none)
 | .load t a=>gv c (ov (ldV (tagg P t) (ev s a) h)) (fun v=>K v (some fun h=>c=true→ldV (tagg P t) (ev s a) h=some v))
 | .lookup t x i ok=>gv c (lkM P (Instr.lookup t (ev s x) (ev s i) ok) h) (fun v=>K v (some fun h=>c=true→rdP P (Instr.lookup t (ev s x) (ev s i) ok) h v))
 | op=>match isRd op with
  | true=>gv c (ov (rdV P op s h)) (fun v=>K v none)
  | false=>False
def andL (f:Nat→Prop):Nat→List Nat→Prop
 | i,[]=>f i
 | i,j::r=>f i∧andL f j r
theorem andL_spec {f:Nat→Prop}:∀ {l:List Nat} {i:Nat},andL f i l→∀ j∈i::l,f j
 | [],i,h,j,hj=>by simp only[List.mem_singleton] at hj; subst hj; exact h
 | k::r,i,h,j,hj=>by
  rcases List.mem_cons.1 hj with rfl | hj
  ·exact h.1
  ·exact andL_spec h.2 j hj
def denD (P:Program)(g:Nat→Bool)(ops:Array Oper)(ms:List Nat):Nat→Array Bool→Pend→Env→Heap→(Env→Heap→Prop)→Prop
 | 0,L,_,s,h,K=>match Region.ready .any ops L with
  | []=>K s h
  | _::_=>False
 | fuel+1,L,pend,s,h,K=>match Region.ready .any ops L with
  | []=>K s h
  | i::r=>match pickR ops L (i::r) with
   | some i=>match ops[i]? with
    | some o=>match o.guard with
     | none=>denRd P o.op s h (fun v st=>denD P g ops ms fuel (L.setIfInBounds i true) (addP i st pend) (putO s o.dst v) h K)
     | some gd=>denRdG P o.op s h (wantB ops s (some gd)) (fun v st=>denD P g ops ms fuel (L.setIfInBounds i true) (addP i st pend) (putO s o.dst v) h K)
    | none=>False
   | none=>andL (fun i=>match ops[i]? with
     | some o=>match o.guard with
      | none=>denOp P g o s h (fun v h=>obl ops ms (L.setIfInBounds i true) pend h (denD P g ops ms fuel (L.setIfInBounds i true) pend (putO s o.dst v) h K))
      | some gd=>gM (wantB ops s (some gd)) (fun K=>denOp P g o s h K) h (fun v h=>obl ops ms (L.setIfInBounds i true) pend h (denD P g ops ms fuel (L.setIfInBounds i true) pend (putO s o.dst v) h K))
     | none=>False) i r
section
variable {P:Program}{g:Nat→Bool}{n:Nat}{m:List Nat}{ops:Array Oper}{ms:List Nat}
def Closed (ops:Array Oper)(L:Array Bool):Prop:=∀ (k:Nat) (o:Oper),ops[k]?=some o→L.getD k false=true→∀ e∈o.after,Region.binds .any e=true→L.getD e.on false=true
theorem mask_closed {L:Array Bool}{acc:List Nat}{o:Oper}(hacc:∀ k,L.getD k false=true→∀ p,(acc.getD k 0).testBit p=true→L.getD p false=true)
  (ho:∀ e∈o.after,Region.binds .any e=true→L.getD e.on false=true):∀ p,(mask acc o).testBit p=true→L.getD p false=true:=by
 unfold mask
 have key:∀ (l:List Edge) (s:Nat),(∀ e∈l,Region.binds .any e=true→L.getD e.on false=true)→(∀ p,s.testBit p=true→L.getD p false=true) →
   ∀ p,(l.foldl (fun s e=>if Region.binds .any e then s ||| 2 ^ e.on ||| acc.getD e.on 0 else s) s).testBit p=true→L.getD p false=true:=by
  intro l
  induction l with
  | nil=>intro s _ hs p hp; exact hs p hp
  | cons e l ih =>
   intro s hl hs p hp
   simp only[List.foldl_cons] at hp
   refine ih _ (fun e' he'=>hl e' (by simp[he'])) ?_ p hp
   intro q hq
   split at hq
   ·rename_i hb
    have he:=hl e (by simp) hb
    rw[Nat.testBit_or,Nat.testBit_or,Bool.or_eq_true,Bool.or_eq_true] at hq
    rcases hq with (hq | hq) | hq
    ·exact hs q hq
    ·rw[Nat.testBit_two_pow] at hq
     have:e.on=q:=by simpa using hq
     rw[← this]; exact he
    ·exact hacc e.on he q hq
   ·exact hs q hq
 exact key o.after.toList 0 (fun e he=>ho e (by simpa using he)) (fun p hp=>by simp at hp)
theorem masks_closed {L:Array Bool}(hc:Closed ops L):∀ (l:List Oper) (acc:List Nat),(∀ j,l[j]?=ops[acc.length+j]?) →
  (∀ k,L.getD k false=true→∀ p,(acc.getD k 0).testBit p=true→L.getD p false=true) →
  ∀ k,L.getD k false=true→∀ p,((masks acc l).getD k 0).testBit p=true→L.getD p false=true
 | [],acc,_,hacc=>hacc
 | o::l,acc,hl,hacc=>by
  have h0:ops[acc.length]?=some o:=by simpa using (hl 0).symm
  refine masks_closed hc l (acc++[mask acc o]) (fun j=>by have:=hl (j+1); simpa [Nat.add_assoc,Nat.add_comm 1 j] using this) ?_
  intro k hk p hp
  by_cases hlt:k<acc.length
  ·rw[List.getD_eq_getElem?_getD,List.getElem?_append_left hlt,← List.getD_eq_getElem?_getD] at hp
   exact hacc k hk p hp
  ·by_cases he:k=acc.length
   ·subst he
    have hp':(mask acc o).testBit p=true:=by simpa using hp
    exact mask_closed hacc (fun e he hb=>hc _ o h0 hk e he hb) p hp'
   ·have:(acc++[mask acc o])[k]?=none:=by simp; omega
    simp[List.getD_eq_getElem?_getD,this] at hp
def wpAnyP (r:Option Nat)(P:Program)(ops:Array Oper)(ms:List Nat)(Q:Exit→Act→World→Prop)(pend:Pend):Nat→Array Bool→Act→World→Prop
 | 0,L,a,w=>Region.ready .any ops L=[]∧Q .normal a w
 | fuel+1,L,a,w=>(Region.ready .any ops L=[]→Q .normal a w) ∧
  ∀ j∈Region.ready .any ops L,wpOpIn (Fw r) 0 P ops Q j (fun a' w'=>(∀ p st,(p,st)∈pend→may ops ms (L.setIfInBounds j true) p=true→st (abs w')) ∧
   wpAnyP r P ops ms Q pend fuel (L.setIfInBounds j true) a' w') a w
theorem wpAnyIn_of_P {r:Option Nat}{Q:Exit→Act→World→Prop}{pend:Pend}:∀ (fuel:Nat) (L:Array Bool) (a:Act) (w:World),wpAnyP r P ops ms Q pend fuel L a w→wpAnyIn (Fw r) 0 P .any ops Q fuel L a w
 | 0,_,_,_,h=>h
 | fuel+1,_,_,_,h=>⟨h.1,fun i hi=>wpOpIn_mono (fun a' w' h'=>wpAnyIn_of_P fuel _ a' w' h'.2) (h.2 i hi)⟩
def YS (_r:Option Nat)(P:Program)(ops:Array Oper)(st:Heap→Prop)(o:Oper)(v:Value)(a:Act):Prop :=
 (Region.wanted o (yielded ops a.tmps)=true∧∀ w,st (abs w)→(execOp a.eval o).run P w = .ok (.value v) w) ∨
 (Region.wanted o (yielded ops a.tmps)=false∧v=undef)
theorem YS.of_same {r:Option Nat}{st:Heap→Prop}{o:Oper}{v:Value}{a a':Act}(hy:YS r P ops st o v a)(he:execOp a'.eval o=execOp a.eval o)
  (hw:Region.wanted o (yielded ops a'.tmps)=Region.wanted o (yielded ops a.tmps)):YS r P ops st o v a':=by
 unfold YS at *
 rw[he,hw]
 exact hy
theorem YS.wpOp {r:Option Nat}{st:Heap→Prop}{Q:Exit→Act→World→Prop}{i:Nat}{o:Oper}{v:Value}{a:Act}(hi:ops[i]?=some o)(hdf:∀ c,o.op≠.defer c)(hy:YS r P ops st o v a)
  {K:Act→World→Prop} {w:World} (hS:st (abs w)) (h:K (a.put o.dst v) w):wpOpIn (Fw r) 0 P ops Q i K a w:=by
 unfold wpOpIn
 simp only[hi]
 rcases hy with ⟨hw,hv⟩ | ⟨hw,rfl⟩
 ·simp only[hw,if_true,Oper.wpIn,Oper.semAt_eq _ _ _ hdf,hv w hS,Oper.uponIn]; exact⟨fun f _=>Fw_fn r f,h⟩
 ·simp only[hw,Bool.false_eq_true,if_false]; exact⟨fun f _=>Fw_fn r f,h⟩
theorem semAt_put {ro:Option Nat}(o:Oper)(hs:∀ cs b,o.op≠.select cs b)(hd:∀ c,o.op≠.defer c)(a:Act)(dst:Option Tmp)(v:Value)(h:∀ d,dst=some d→d ∉ o.looksAt ops) :
  o.semAt ro (a.put dst v).eval=o.semAt ro a.eval:=by
 rw[Oper.semAt_eq _ _ _ hd,Oper.semAt_eq _ _ _ hd]; exact execOp_put o hs a dst v h
theorem wpOp_putS {r:Option Nat}{st:Heap→Prop}{Q:Exit→Act→World→Prop}{j:Nat}{oi oj:Oper}{v:Value}(hj:ops[j]?=some oj)(hap:oi.apart ops oj=true)
  (hsi:∀ cs b,oi.op≠.select cs b) (hsj:∀ cs b,oj.op≠.select cs b) (hdj:∀ c,oj.op≠.defer c)
  (hQ:∀ c a w,Q (.panic c) (a.put oi.dst v) w→Q (.panic c) a w) {K:Act→World→Prop} {a:Act} {w:World}
  (hy:YS r P ops st oi v a) (h:wpOpIn (Fw r) 0 P ops Q j K (a.put oi.dst v) w) :
  wpOpIn (Fw r) 0 P ops Q j (fun a' w'=>YS r P ops st oi v a'∧K (a'.put oi.dst v) w') a w:=by
 obtain⟨h1,h2,h3⟩:=Oper.apart_spec hap
 have keep:∀ (a:Act),YS r P ops st oi v a→∀ u,YS r P ops st oi v (a.put oj.dst u):=fun a hy u =>
  hy.of_same (execOp_put oi hsi a oj.dst u h3) (wanted_put oi a oj.dst u h3)
 have keepD:∀ d,YS r P ops st oi v { a with defers:=d::a.defers }:=fun d=>hy.of_same rfl rfl
 unfold wpOpIn at *
 simp only[hj] at *
 rw[wanted_put oj a oi.dst v h1] at h
 split
 ·rename_i hw
  simp only[hw,if_true] at h
  unfold Oper.wpIn at *
  rw[semAt_put oj hsj hdj a oi.dst v h1] at h
  refine⟨fun f _=>Fw_fn r f,?_⟩
  replace h:=h.2
  generalize (oj.semAt (Fw r).round a.eval).run P w=res at *
  cases res with
  | ok x w' =>
   cases x<;>simp only[Oper.uponIn] at h ⊢
   case value u=>exact⟨keep a hy u,by rw[← Act.put_comm a v u h2]; exact h⟩
   case skip=>exact⟨keep a hy _,by rw[← Act.put_comm a v undef h2]; exact h⟩
   case defer d =>
    refine⟨keep _ (keepD d) _,?_⟩
    rw[← Act.put_comm _ v undef h2,← Act.put_defers]
    exact h
   case enter f args =>
    refine⟨h.1,CallsIn.mono h.2 fun e w'' he=>?_⟩
    cases e with
    | returned u=>exact⟨keep a hy u,by rw[← Act.put_comm a v u h2]; exact he⟩
    | panicked c=>exact hQ _ _ _ he
    | outgrown=>exact he
   case row row args=>exact⟨h.1,RowsIn.mono h.2 fun u w'' he=>⟨keep a hy u,by rw[← Act.put_comm a v u h2]; exact he⟩⟩
   case round l f tmps zas bd =>
    refine⟨h.1,RoundIn.mono h.2 fun e w'' he=>?_⟩
    cases e with
    | returned u=>exact⟨keep a hy u,by rw[← Act.put_comm a v u h2]; exact he⟩
    | panicked c=>exact hQ _ _ _ he
    | outgrown=>exact he
  | halt x w' =>
   cases x<;>simp only[Oper.uponIn] at h ⊢
   case panic u=>exact hQ _ _ _ h
 ·rename_i hw
  simp only[hw] at h
  exact⟨fun f _=>Fw_fn r f,keep a hy _,by rw[← Act.put_comm a v undef h2]; exact h.2⟩
theorem Closed.set {L:Array Bool}(hc:Closed ops L){i:Nat}(hi:i∈Region.ready .any ops L):Closed ops (L.setIfInBounds i true):=by
 intro k o hk hl e he hb
 obtain⟨_,oi,hoi,hall⟩:=mem_ready.1 hi
 by_cases hik:i=k
 ·subst hik
  have:o=oi:=Option.some.inj (hk.symm.trans hoi)
  subst this
  exact getD_set_true (hall e he hb)
 ·rw[getD_set_ne false hik] at hl
  exact getD_set_true (hc k o hk hl e he hb)
theorem may_set {L:Array Bool}{i p:Nat}{oi:Oper}(hi:ops[i]?=some oi)(hrd:rdK oi.op=true):may ops ms (L.setIfInBounds i true) p=may ops ms L p:=by
 unfold may
 congr 1
 funext k
 by_cases hik:i=k
 ·subst hik
  simp[hi,hrd]
 ·rw[getD_set_ne false hik]
theorem ready_false {L:Array Bool}{i:Nat}(hi:i∈Region.ready .any ops L):L.getD i false=false:=by
 have h:=(mem_ready.1 hi).1
 rcases Nat.lt_or_ge i L.size with h' | h'
 ·simp[h'] at h ⊢; exact h
 ·simp[Array.getElem?_eq_none h'] at h
theorem may_of_not {L:Array Bool}(hc:Closed ops L)(hms:ms=masks [] ops.toList){p:Nat}(hp:L.getD p false=false):may ops ms L p=true:=by
 unfold may
 rw[List.all_eq_true]
 intro k _
 cases hk:L.getD k false with
 | false=>rfl
 | true =>
  cases ht:(ms.getD k 0).testBit p with
  | false=>simp
  | true =>
   subst hms
   have:=masks_closed hc ops.toList [] (by simp) (fun k _ p hp=>by simp at hp) k hk p ht
   rw[hp] at this; cases this
theorem wpAnyP_first {r:Option Nat}{Q:Exit→Act→World→Prop}{pend:Pend}{st:Heap→Prop}{i:Nat}{oi:Oper}{v:Value}(hms:ms=masks [] ops.toList)(hi:ops[i]?=some oi)(hrd:rdK oi.op=true)
  (hsel:∀ (j:Nat) (o:Oper) cs b,ops[j]?=some o→o.op≠.select cs b) (hdf:∀ (j:Nat) (o:Oper) c,ops[j]?=some o→o.op≠.defer c)
  (hQ:∀ c a w,Q (.panic c) (a.put oi.dst v) w→Q (.panic c) a w) :
  ∀ (fuel:Nat) (L:Array Bool) (a:Act) (w:World),Closed ops L →
   (∀ j oj,ops[j]?=some oj→j≠i→L.getD j true=false→(∀ e∈oj.after,Region.binds .any e=true→e.on≠i)→oi.apart ops oj=true) →
   i∈Region.ready .any ops L→YS r P ops st oi v a→st (abs w) →
   wpAnyP r P ops ms Q ((i,st)::pend) fuel (L.setIfInBounds i true) (a.put oi.dst v) w→(∀ p st,(p,st)∈pend→may ops ms (L.setIfInBounds i true) p=true→st (abs w)) →
   wpAnyP r P ops ms Q pend (fuel+1) L a w:=by
 intro fuel
 induction fuel with
 | zero =>
  intro L a w hcl _ hr hy hS H hP
  refine⟨fun h=>(by rw[h] at hr; cases hr),fun j hj=>?_⟩
  by_cases hji:j=i
  ·subst hji; exact hy.wpOp hi (fun c=>hdf j oi c hi) hS ⟨hP,H⟩
  ·have:=ready_mono hj hji
   rw[H.1] at this
   cases this
 | succ fuel ih =>
  intro L a w hcl hfree hr hy hS H hP
  refine⟨fun h=>(by rw[h] at hr; cases hr),fun j hj=>?_⟩
  by_cases hji:j=i
  ·subst hji
   exact hy.wpOp hi (fun c=>hdf j oi c hi) hS ⟨hP,wpAnyP_drop H⟩
  ·have h1:=H.2 j (ready_mono hj hji)
   obtain⟨hjun,oj,hoj,hall⟩:=mem_ready.1 hj
   have hil:=ready_false hr
   have hnot:∀ e∈oj.after,Region.binds .any e=true→e.on≠i:=fun e he hb heq=>by
    have h1:=hall e he hb
    rw[heq,hil] at h1
    cases h1
   have h2:=wpOp_putS hoj (hfree j oj hoj hji hjun hnot) (fun cs b=>hsel i oi cs b hi) (fun cs b=>hsel j oj cs b hoj) (fun c=>hdf j oj c hoj) hQ hy h1
   have hfree':∀ k ok,ops[k]?=some ok→k≠i→(L.setIfInBounds j true).getD k true=false →
     (∀ e∈ok.after,Region.binds .any e=true→e.on≠i)→oi.apart ops ok=true:=fun k ok hk hki hun hno=>by
    refine hfree k ok hk hki ?_ hno
    by_cases hjk:j=k
    ·subst hjk; exact hjun
    ·rw[getD_set_ne true hjk] at hun; exact hun
   have hcl':=hcl.set hj
   have hil':(L.setIfInBounds j true).getD i false=false:=by rw[getD_set_ne false hji]; exact hil
   refine wpOpIn_mono (fun a' w' h3=>?_) h2
   obtain⟨h4,h5,h6⟩:=h3
   have hcomm:(L.setIfInBounds i true).setIfInBounds j true=(L.setIfInBounds j true).setIfInBounds i true:=Array.setIfInBounds_comm _ _ (Ne.symm hji)
   rw[hcomm] at h5 h6
   have hst:st (abs w'):=h5 i st (by simp) (by rw[may_set hi hrd]; exact may_of_not hcl' hms hil')
   refine⟨fun p st' hp hm=>h5 p st' (by simp[hp]) (by rw[may_set hi hrd]; exact hm),?_⟩
   exact ih (L.setIfInBounds j true) a' w' hcl' hfree' (ready_mono hr (Ne.symm hji)) h4 hst h6 (fun p st' hp hm=>h5 p st' (by simp[hp]) hm)
where
 wpAnyP_drop {r:Option Nat} {Q:Exit→Act→World→Prop} {pend:Pend} {x:Nat × (Heap→Prop)}:∀ {fuel:Nat} {L:Array Bool} {a:Act} {w:World},
   wpAnyP r P ops ms Q (x::pend) fuel L a w→wpAnyP r P ops ms Q pend fuel L a w
  | 0,_,_,_,h=>h
  | _+1,_,_,_,h=>⟨h.1,fun j hj=>wpOpIn_mono (fun _ _ h'=>⟨fun p st hp=>h'.1 p st (by simp[hp]),wpAnyP_drop h'.2⟩) (h.2 j hj)⟩
end
end Go.Den
namespace Go.Den
open Go
section
variable {P:Program}{g:Nat→Bool}{n:Nat}{m:List Nat}{ops:Array Oper}{ms:List Nat}
theorem wpAnyP_mem {r:Option Nat}{Q:Exit→Act→World→Prop}{pend pend':Pend}(hm:∀ p st,(p,st)∈pend'→(p,st)∈pend∨∀ h,st h):∀ {fuel:Nat} {L:Array Bool} {a:Act} {w:World},
  wpAnyP r P ops ms Q pend fuel L a w→wpAnyP r P ops ms Q pend' fuel L a w
 | 0,_,_,_,h=>h
 | _+1,_,_,_,h=>⟨h.1,fun j hj=>wpOpIn_mono (fun _ _ h'=>⟨fun p st hp hy=>(hm p st hp).elim (fun h1=>h'.1 p st h1 hy) (fun h1=>h1 _),wpAnyP_mem hm h'.2⟩) (h.2 j hj)⟩
theorem rdV_indep {op:Op}(hl:∀ t a,op≠.load t a)(s:Env)(h h':Heap):rdV P op s h=rdV P op s h':=by
 cases op<;>first | rfl | exact absurd rfl (hl _ _) | (rename_i hi mx; cases mx<;>first | rfl | (cases hi<;>rfl))
def stP (st:Option (Heap→Prop)):Heap→Prop:=match st with
 | some st=>st
 | none=>fun _=>True
theorem denRd_sound {o:Oper}{s:Env}{h:Heap}{K:Value→Option (Heap→Prop)→Prop}(hd:denRd P o.op s h K) :
  ∃ v st,K v st∧stP st h∧∀ w,stP st (abs w)→(execOp (ev s) o).run P w = .ok (.value v) w:=by
 unfold denRd at hd
 split at hd
 case h_1 x ho=>exact⟨ev s x,none,hd,trivial,fun w _=>by simp[execOp,ho]⟩
 case h_2 x ho=>exact⟨ev s x,none,hd,trivial,fun w _=>by simp[execOp,ho]⟩
 case h_3 op t x y yt ho =>
  split at hd
  ·obtain⟨v,hr,hk⟩:=hd
   exact⟨v,none,hk,trivial,fun w _=>by
    have:=hr w
    simp only[execOp,ho]
    simp only[Sem.run_bind] at this ⊢
    simp[this]⟩
  ·obtain⟨v,hv,hk⟩:=ov_some hd
   exact⟨v,none,hk,trivial,fun w _=>run_rdV (by rw[ho]; exact hv)⟩
 case h_4 t a ho =>
  obtain⟨v,hv,hk⟩:=ov_some hd
  exact⟨v,_,hk,hv,fun w hw=>run_rdV (by rw[ho]; exact hw)⟩
 case h_5 t x i ok ho =>
  obtain⟨v,hr,hk⟩:=hd
  refine⟨v,_,hk,hr,fun w hw=>?_⟩
  have:=hw w rfl
  simp only[execOp,ho]
  simp only[Sem.run_bind,this,Result.andThen_ok]
  simp
 case h_6 hx1 hx2 hx3 hx4 hx5 =>
  split at hd
  ·obtain⟨v,hv,hk⟩:=ov_some hd
   exact⟨v,none,hk,trivial,fun w _=>run_rdV (by rw[rdV_indep (fun t a he=>hx4 t a he) s (abs w) h]; exact hv)⟩
  ·exact hd.elim
theorem gv_spec {c:Bool}{A:(Value→Prop)→Prop}{K:Value→Prop}(h:gv c A K):(c=true∧A K)∨(c=false∧K undef):=by
 cases c
 ·exact .inr ⟨rfl,h⟩
 ·exact .inl ⟨rfl,h⟩
theorem denRdG_sound {o:Oper}{s:Env}{h:Heap}{c:Bool}{K:Value→Option (Heap→Prop)→Prop}(hd:denRdG P o.op s h c K) :
  ∃ v st,K v st∧stP st h∧((c=true∧∀ w,stP st (abs w)→(execOp (ev s) o).run P w = .ok (.value v) w)∨(c=false∧v=undef)):=by
 unfold denRdG at hd
 split at hd
 case h_1 x ho =>
  rcases gv_spec hd with ⟨hc,hk⟩ | ⟨hc,hk⟩
  ·exact⟨ev s x,none,hk,trivial,.inl ⟨hc,fun w _=>by simp[execOp,ho]⟩⟩
  ·exact⟨_,none,hk,trivial,.inr ⟨hc,rfl⟩⟩
 case h_2 x ho =>
  rcases gv_spec hd with ⟨hc,hk⟩ | ⟨hc,hk⟩
  ·exact⟨ev s x,none,hk,trivial,.inl ⟨hc,fun w _=>by simp[execOp,ho]⟩⟩
  ·exact⟨_,none,hk,trivial,.inr ⟨hc,rfl⟩⟩
 case h_3 op t x y yt ho =>
  split at hd
  ·rcases gv_spec hd with ⟨hc,hk⟩ | ⟨hc,hk⟩
   ·obtain⟨v,hr,hk⟩:=hk
    exact⟨v,none,hk,trivial,.inl ⟨hc,fun w _=>by
     have:=hr w
     simp only[execOp,ho]
     simp only[Sem.run_bind] at this ⊢
     simp[this]⟩⟩
   ·exact⟨_,none,hk,trivial,.inr ⟨hc,rfl⟩⟩
  ·rcases gv_spec hd with ⟨hc,hk⟩ | ⟨hc,hk⟩
   ·obtain⟨v,hv,hk⟩:=ov_some hk
    exact⟨v,none,hk,trivial,.inl ⟨hc,fun w _=>run_rdV (by rw[ho]; exact hv)⟩⟩
   ·exact⟨_,none,hk,trivial,.inr ⟨hc,rfl⟩⟩
 case h_4 t a ho =>
  rcases gv_spec hd with ⟨hc,hk⟩ | ⟨hc,hk⟩
  ·obtain⟨v,hv,hk⟩:=ov_some hk
   exact⟨v,_,hk,fun _=>hv,.inl ⟨hc,fun w hw=>run_rdV (by rw[ho]; exact hw hc)⟩⟩
  ·exact⟨_,_,hk,fun h=>(by rw[hc] at h; cases h),.inr ⟨hc,rfl⟩⟩
 case h_5 t x i ok ho =>
  rcases gv_spec hd with ⟨hc,hk⟩ | ⟨hc,hk⟩
  ·obtain⟨v,hr,hk⟩:=hk
   refine⟨v,_,hk,fun _=>hr,.inl ⟨hc,fun w hw=>?_⟩⟩
   have:=hw hc w rfl
   simp only[execOp,ho]
   simp only[Sem.run_bind,this,Result.andThen_ok]
   simp
  ·exact⟨_,_,hk,fun h=>(by rw[hc] at h; cases h),.inr ⟨hc,rfl⟩⟩
 case h_6 hx1 hx2 hx3 hx4 hx5 =>
  split at hd
  ·rcases gv_spec hd with ⟨hc,hk⟩ | ⟨hc,hk⟩
   ·obtain⟨v,hv,hk⟩:=ov_some hk
    exact⟨v,none,hk,trivial,.inl ⟨hc,fun w _=>run_rdV (by rw[rdV_indep (fun t a he=>hx4 t a he) s (abs w) h]; exact hv)⟩⟩
   ·exact⟨_,none,hk,trivial,.inr ⟨hc,rfl⟩⟩
  ·exact hd.elim
theorem pickR_spec {L:Array Bool}:∀ {l:List Nat} {i:Nat},pickR ops L l=some i→i∈l∧∃ o,ops[i]?=some o∧rdK o.op=true∧Region.free .any ops L i=true
 | j::l,i,h=>by
  simp only[pickR] at h
  split at h
  ·rename_i o ho
   split at h
   ·rename_i hb
    simp only[Option.some.injEq] at h; subst h
    simp only[Bool.and_eq_true] at hb
    exact⟨by simp,o,ho,hb.1,hb.2⟩
   ·obtain⟨h1,h2⟩:=pickR_spec h; exact⟨by simp[h1],h2⟩
  ·obtain⟨h1,h2⟩:=pickR_spec h; exact⟨by simp[h1],h2⟩
theorem obl_spec {L:Array Bool}{h:Heap}{X:Prop}:∀ {pend:Pend},obl ops ms L pend h X→X∧∀ p st,(p,st)∈pend→may ops ms L p=true→st h
 | [],hx=>⟨hx,fun _ _ hp=>by simp at hp⟩
 | (p,st)::r,hx=>by
  simp only[obl] at hx
  split at hx
  ·obtain⟨h1,h2⟩:=hx
   obtain⟨h3,h4⟩:=obl_spec h2
   refine⟨h3,fun q st' hq hy=>?_⟩
   rcases List.mem_cons.1 hq with hq | hq
   ·simp only[Prod.mk.injEq] at hq; obtain⟨rfl,rfl⟩:=hq; exact h1
   ·exact h4 q st' hq hy
  ·rename_i hf
   obtain⟨h3,h4⟩:=obl_spec hx
   refine⟨h3,fun q st' hq hy=>?_⟩
   rcases List.mem_cons.1 hq with hq | hq
   ·simp only[Prod.mk.injEq] at hq; obtain⟨rfl,rfl⟩:=hq; rw[hf] at hy; cases hy
   ·exact h4 q st' hq hy
theorem denD_sound (hg:GoodP P g){r:Option Nat}{w0:World}{K:Env→Heap→Prop}{Q:Exit→Act→World→Prop}(hms:ms=masks [] ops.toList)(hsel:Region.noSelect ops=true)
  (hok:∀ o∈ops,okOp n o=true) (hpan:∀ c a w,¬ Q (.panic c) a w)
  (hQ:∀ s a w,Rel n m a s→Okw w0 w→K s (abs w)→Q .normal a w) :
  ∀ (fuel:Nat) (L:Array Bool) (pend:Pend) (s:Env) (a:Act) (w:World),Closed ops L→Rel n m a s→Okw w0 w→(∀ p st,(p,st)∈pend→may ops ms L p=true→st (abs w)) →
   denD P g ops ms fuel L pend s (abs w) K→wpAnyP r P ops ms Q pend fuel L a w
 | 0,L,pend,s,a,w,_,hR,ho,_,hd=>by
  unfold denD at hd
  split at hd
  ·rename_i hr; exact⟨hr,hQ s a w hR ho hd⟩
  ·exact hd.elim
 | fuel+1,L,pend,s,a,w,hcl,hR,ho,hP,hd=>by
  have hokj:∀ {j:Nat} {o:Oper},ops[j]?=some o→okOp n o=true:=fun hj=>hok _ (Array.mem_of_getElem? hj)
  unfold denD at hd
  split at hd
  ·rename_i hr; exact⟨fun _=>hQ s a w hR ho hd,fun j hj=>(by rw[hr] at hj; cases hj)⟩
  ·rename_i i0 rs hr
   split at hd
   ·rename_i i hpick
    obtain⟨hmem,o,hi,hrd,hfree⟩:=pickR_spec hpick
    simp only[hi] at hd
    have hir:i∈Region.ready .any ops L:=by rw[hr]; exact hmem
    have hoo:=hokj hi
    have main:∀ v st,(Region.wanted o (yielded ops a.tmps)=true∧(∀ w,stP st (abs w)→(execOp a.eval o).run P w = .ok (.value v) w)∨Region.wanted o (yielded ops a.tmps)=false∧v=undef) →
      stP st (abs w)→denD P g ops ms fuel (L.setIfInBounds i true) (addP i st pend) (putO s o.dst v) (abs w) K→wpAnyP r P ops ms Q pend (fuel+1) L a w:=by
     intro v st hy hst hd'
     have hP':∀ p st',(p,st')∈pend→may ops ms (L.setIfInBounds i true) p=true→st' (abs w):=fun p st' hp hy=>hP p st' hp (by rw[may_set hi hrd] at hy; exact hy)
     have ih:=denD_sound hg (r:=r) hms hsel hok hpan hQ fuel (L.setIfInBounds i true) (addP i st pend) (putO s o.dst v) (a.put o.dst v) w (hcl.set hir) (hR.put (okOp_dst hoo) v) ho
      (fun p st' hp hym=>by
       clear hy
       cases st with
       | none=>exact hP' p st' hp hym
       | some st0 =>
        simp only[addP,List.mem_append,List.mem_singleton,Prod.mk.injEq] at hp
        rcases hp with hp | ⟨rfl,rfl⟩
        ·exact hP' p st' hp hym
        ·exact hst) hd'
     refine wpAnyP_first hms hi hrd (Region.noSelect_spec hsel) (fun j o c hj=>okOp_defer (hokj hj) c) (fun c a w hq=>absurd hq (hpan c _ w)) fuel L a w hcl (Region.free_spec hi hfree) hir
      (v:=v) (st:=stP st) (by
       rcases hy with ⟨h1,h2⟩ | ⟨h1,h2⟩
       ·exact .inl ⟨h1,h2⟩
       ·exact .inr ⟨h1,h2⟩) hst (wpAnyP_mem (fun p st' hp=>?_) ih) hP'
     rcases List.mem_cons.1 hp with hp1 | hp1
     ·simp only[Prod.mk.injEq] at hp1
      obtain⟨rfl,rfl⟩:=hp1
      clear hy hst
      cases st with
      | none=>exact .inr (fun _=>trivial)
      | some st0=>exact .inl (by simp[addP,stP])
     ·exact .inl (by clear hy hst; cases st<;>simp[addP,hp1])
    have hwant:=wanted_eq (ops:=ops) hR o
    split at hd
    ·rename_i hgd
     obtain⟨v,st,hk,hst,hrun⟩:=denRd_sound hd
     exact main v st (.inl ⟨by rw[hwant,hgd]; rfl,by rw[hR.eval]; exact hrun⟩) hst hk
    ·rename_i gd hgd
     obtain⟨v,st,hk,hst,hrun⟩:=denRdG_sound hd
     refine main v st ?_ hst hk
     rcases hrun with ⟨hc,hrun⟩ | ⟨hc,hv⟩
     ·exact .inl ⟨by rw[hwant,hgd]; exact hc,by rw[hR.eval]; exact hrun⟩
     ·exact .inr ⟨by rw[hwant,hgd]; exact hc,hv⟩
   ·refine⟨fun h0=>(by rw[hr] at h0; cases h0),fun j hj=>?_⟩
    have hd:=andL_spec hd j (by rw[hr] at hj; exact hj)
    have hir:=hj
    cases hi:ops[j]? with
    | none=>simp[hi] at hd
    | some o =>
     simp only[hi] at hd
     have hoo:=hokj hi
     have step:∀ v w',Okw w w'→obl ops ms (L.setIfInBounds j true) pend (abs w') (denD P g ops ms fuel (L.setIfInBounds j true) pend (putO s o.dst v) (abs w') K) →
       (∀ p st,(p,st)∈pend→may ops ms (L.setIfInBounds j true) p=true→st (abs w'))∧wpAnyP r P ops ms Q pend fuel (L.setIfInBounds j true) (a.put o.dst v) w':=by
      intro v w' ho' hob
      obtain⟨h1,h2⟩:=obl_spec hob
      exact⟨h2,denD_sound hg hms hsel hok hpan hQ fuel _ pend _ _ w' (hcl.set hir) (hR.put (okOp_dst hoo) v) (ho.trans ho') h2 h1⟩
     have hwant:=wanted_eq (ops:=ops) hR o
     unfold wpOpIn
     simp only[hi]
     rw[hwant]
     split at hd
     ·rename_i hgd
      simp only[hgd,wantB,if_true]
      exact opIn hR hoo (denOp_nx hg hd) step
     ·rename_i gd hgd
      rw[hgd]
      cases hw:wantB ops s (some gd) with
      | true =>
       simp only[hw,gM] at hd
       simp only[if_true]
       exact opIn hR hoo (denOp_nx hg hd) step
      | false =>
       simp only[hw,gM] at hd
       simp only[Bool.false_eq_true,if_false]
       exact⟨fun f _=>Fw_fn r f,step _ _ (Okw.refl w) hd⟩
theorem closed_none:Closed ops (Array.replicate ops.size false):=fun k o _ hl=>by
 exfalso
 rw[Array.getD_eq_getD_getElem?] at hl
 rcases Nat.lt_or_ge k ops.size with h | h
 ·simp[h] at hl
 ·simp[h] at hl
end
end Go.Den
namespace Go.Den
open Go
abbrev Post:=Exit→List Nat→Env→Heap→Prop
def thenM (K:List Nat→Env→Heap→Prop)(Q:Post):Post:=fun e m s h=>match e with
 | .normal=>K m s h
 | e=>Q e m s h
def puts:Env→List (Nat × Value)→Env
 | s,[]=>s
 | s,(d,v)::r=>puts (put s d v) r
def seqM (A:Post→Prop)(K:List Nat→Env→Heap→Prop)(Q:Post):Prop:=A (thenM K Q)
def blkM (id:Nat)(Q:Post):Post:=fun e m s h=>match e with
 | .exit id'=>match Nat.beq id' id with
  | true=>Q .normal m s h
  | false=>Q (.exit id') m s h
 | e=>Q e m s h
def cdM (v:Value)(A B:Prop):Prop:=match v with
 | .bool b=>(b=true→A)∧(b=false→B)
 | _=>False
def lpM (I:List Nat→Env→Heap→Prop)(μ:Env→Heap→Nat)(s0:Env)(h0:Heap)(Q:Post):Post:=fun e m s h=>match e with
 | .normal=>I m s h∧μ s h<μ s0 h0
 | e=>Q e m s h
def loopM (body:List Nat→Env→Heap→Post→Prop)(m:List Nat)(s:Env)(h:Heap)(Q:Post):Prop :=
 ∃ (I:List Nat→Env→Heap→Prop) (μ:Env→Heap→Nat),I m s h∧∀ m s h,I m s h→body m s h (lpM I μ s h Q)
def ngM (Q:Post):Post:=fun e m s h=>match e with
 | .goto _=>False
 | e=>Q e m s h
abbrev nextM (K:List Nat→Env→Heap→Prop)(Q:Post):Post:=fun e m s h=>match e with
 | .normal=>K m s h
 | e=>Q e m s h
theorem nextM_eq (K:List Nat→Env→Heap→Prop)(Q:Post):nextM K Q=thenM K Q:=by
 funext e m s h
 cases e<;>rfl
def strt:Code→Bool
 | .skip | .region _ _ _ | .label _=>true
 | .seq a b=>strt a && strt b
 | _=>false
def nrf:Code→Bool
 | .seq a b=>nrf a && nrf b
 | .cond _ x y=>nrf x && nrf y
 | .block _ c=>nrf c
 | .scope c=>nrf c
 | .loop c=>nrf c
 | .rangeFunc _ _ _ _=>false
 | _=>true
def fits (n:Nat):Code→Bool
 | .region _ ops _=>ops.toList.all (okOp n) && Region.noSelect ops
 | .seq a b=>fits n a && fits n b
 | .cond _ x y=>fits n x && fits n y
 | .block _ c=>fits n c
 | .scope c=>fits n c
 | .loop c=>fits n c
 | .rangeFunc _ ps x y=>ps.toList.all (fun t=>Nat.blt t n) && fits n x && fits n y && nrf x && nrf y
 | _=>true
def jmpM (Q:Post)(m:List Nat)(s:Env)(h:Heap):Option Code→Prop
 | none=>Q .normal m s h
 | some .ret=>Q .ret m s h
 | some (.exit id)=>Q (.exit id) m s h
 | some _=>False
def rfM (P:Program)(g:Nat→Bool)(gv:Value)(ps:Array Tmp)(zas bd:Code)(m:List Nat)(s:Env)(h:Heap)(Q:Post):Prop :=
 ∃ gf lb,gv = .func (.func gf) #[] lb∧g gf=true∧∀ (fn:FuncId) (tmps:Array Value) (b l:Nat),(∀ i,tmps.getD i undef=s i)→(ps.toList.all (fun t=>Nat.blt t tmps.size) && fits tmps.size zas && fits tmps.size bd && nrf zas && nrf bd)=true→h b=none→h l=none→l≠b →
  callM P gf (#[.func (.yield l) #[] #[]]++lb) (upd (upd h b (.deferred (some []))) l (.loop { state:=.ready,pending:=none,fn,tmps,params:=ps,assign:=zas,body:=bd,defers:=b })) fun _ h' =>
   ∃ r:Loop,h' l=some (.loop r)∧r.state≠.busy∧jmpM Q (b::m) s (upd h' l (.loop { r with state:=.exhausted })) r.pending
def den (P:Program)(g:Nat→Bool):Code→List Nat→Env→Heap→Post→Prop
 | .skip,m,s,h,Q=>Q .normal m s h
 | .region _ ops false,m,s,h,Q=>denL P g ops ops.toList s h (fun s h=>Q .normal m s h)
 | .region _ ops true,m,s,h,Q=>denD P g ops (masks [] ops.toList) ops.size (Array.replicate ops.size false) [] s h (fun s h=>Q .normal m s h)
 | .seq a b,m,s,h,Q=>match strt a with
  | true=>den P g a m s h (nextM (fun m s h=>den P g b m s h Q) Q)
  | false=>seqM (fun Q=>den P g a m s h Q) (fun m s h=>den P g b m s h Q) Q
 | .cond c x y,m,s,h,Q=>cdM (ev s c) (den P g x m s h Q) (den P g y m s h Q)
 | .block id c,m,s,h,Q=>den P g c m s h (blkM id Q)
 | .loop c,m,s,h,Q=>loopM (fun m s h Q=>den P g c m s h Q) m s h Q
 | .ret,m,s,h,Q=>Q .ret m s h
 | .exit id,m,s,h,Q=>Q (.exit id) m s h
 | .label _,m,s,h,Q=>Q .normal m s h
 | .scope c,m,s,h,Q=>den P g c m s h (ngM Q)
 | .rangeFunc f ps zas bd,m,s,h,Q=>rfM P g (ev s f) ps zas bd m s h Q
 | _,_,_,_,_=>False
theorem den_seq (P:Program)(g:Nat→Bool)(a b:Code)(m:List Nat)(s:Env)(h:Heap)(Q:Post):den P g (.seq a b) m s h Q=seqM (fun Q=>den P g a m s h Q) (fun m s h=>den P g b m s h Q) Q:=by
 cases hs:strt a
 ·simp only[den,hs]
 ·simp only[den,hs,seqM,nextM_eq]
section
variable {P:Program}{g:Nat→Bool}{n:Nat}
theorem stepR_scope {b:Frame}{a:Act}{k:List Item}{cs:List Frame}{w:World}{c:Code}:step P (lone (b.atR a (.code (.scope c)::k)) cs w) = .next (lone (b.atR a (.code c::.inScope c::k)) cs w) :=
 step_lone_go (by simp[stepG,stepG.exec,Frame.atR])
theorem stepR_inScope {b:Frame}{a:Act}{k:List Item}{cs:List Frame}{w:World}{c:Code}:step P (lone (b.atR a (.inScope c::k)) cs w) = .next (lone (b.atR a k) cs w) :=
 step_lone_go (by simp[stepG,stepG.exec,Frame.atR])
theorem wpIn_scope {F:Fence}{n:Nat}{c:Code}{Q:Exit→Act→World→Prop}{a:Act}{w:World}(h:c.wpIn F n P (Exit.noGoto Q) a w):(Code.scope c).wpIn F n P Q a w:=by
 intro b k cs hro hb hr
 have h0:(lone (b.atR a (.code (.scope c)::k)) cs w).fenced P F:=fenced_calm hb hr rfl
 obtain⟨e,a₁,w₁,hq,harr⟩:=h b (.inScope c::k) cs hro hb hr
 cases e with
 | normal=>exact⟨.normal,a₁,w₁,hq,.head h0 stepR_scope (StepsIn.trans harr (.one (fenced_calm hb hr rfl) stepR_inScope))⟩
 | exit id' =>
  have hx:exitTo id' (.inScope c::k)=exitTo id' k:=by simp[exitTo]
  exact⟨.exit id',a₁,w₁,hq,fun k' hk=>.head h0 stepR_scope (harr.1 k' (by rw[hx]; exact hk)),
   fun hr' hk=>let ⟨k₁,h1,h2⟩:=harr.2 hr' (by rw[hx]; exact hk); ⟨k₁,h1,.head h0 stepR_scope h2⟩⟩
 | goto l=>exact hq.elim
 | ret=>exact⟨_,a₁,w₁,hq,.of_steps (.one h0 stepR_scope) harr⟩
 | panic ch=>exact⟨_,a₁,w₁,hq,.of_steps (.one h0 stepR_scope) harr⟩
 | outgrown=>exact⟨_,a₁,w₁,hq,.of_steps (.one h0 stepR_scope) harr⟩
def QW (n:Nat)(w0:World)(Q:Post):Exit→Act→World→Prop:=fun e a w=>match e with
 | .panic _=>False
 | .outgrown=>False
 | e=>∃ m s,Rel n m a s∧Okw w0 w∧Q e m s (abs w)
theorem QW_intro {w0:World}{Q:Post}{e:Exit}{a:Act}{w:World}{m:List Nat}{s:Env}(he:∀ c,e≠.panic c)(he':e≠.outgrown)(hR:Rel n m a s)(ho:Okw w0 w)(hq:Q e m s (abs w)) :
  QW n w0 Q e a w:=by
 cases e<;>first | exact⟨m,s,hR,ho,hq⟩ | exact absurd rfl (he _) | exact absurd rfl he'
theorem QW_later {w0 w1:World}(h:Okw w0 w1){Q Q':Post}(hq:∀ e m s h,Q e m s h→Q' e m s h):∀ e a w,QW n w1 Q e a w→QW n w0 Q' e a w:=by
 intro e a w hx
 cases e<;>first | exact hx | (obtain⟨m,s,hR,ho,hQ⟩:=hx; exact⟨m,s,hR,h.trans ho,hq _ _ _ _ hQ⟩)
theorem abs_putObj {w:World}{l:Nat}{o o':Obj}(h:w.heap[l]?=some o):abs (w.putObj l o')=upd (abs w) l o':=by
 have hlt:=(Array.getElem?_eq_some_iff.1 h).1
 funext k
 by_cases hk:k=l
 ·subst hk
  simp[abs,World.putObj,hlt,upd]
 ·simp[abs,World.putObj,upd,hk,Ne.symm hk]
set_option maxHeartbeats 4000000 in
theorem rf_sound (hg:GoodP P g){f:Operand}{ps:Array Tmp}{zas bd:Code}{m:List Nat}{s:Env}{Q:Post}{a:Act}{w:World}(hf:fits n (.rangeFunc f ps zas bd)=true)(hR:Rel n m a s)
  (hd:rfM P g (ev s f) ps zas bd m s (abs w) Q):(Code.rangeFunc f ps zas bd).wpIn (Fw none) 0 P (QW n w Q) a w:=by
 obtain⟨gf,lb,hv,hgf,hd⟩:=hd
 obtain⟨fn',h1,h2,h3⟩:=hg gf hgf
 have h3' : ¬ fn'.name = "runtime.NumGoroutine" := by simpa using h3
 have h2':¬ fn'.body=none:=by intro hb; simp[hb] at h2
 refine wpIn_rangeFunc fun fn _=>?_
 obtain⟨L,hL⟩:∃ L:Loop,L={ state:=.ready,pending:=none,fn,tmps:=a.tmps,params:=ps,assign:=zas,body:=bd,defers:=w.heap.size }:=⟨_,rfl⟩
 obtain⟨W1,hW1⟩:∃ W1,W1=(w.alloc (.deferred (some []))).alloc (.loop L):=⟨_,rfl⟩
 have hab:abs W1=upd (upd (abs w) w.heap.size (.deferred (some []))) (w.heap.size+1) (.loop L):=by
  have e1:abs (w.alloc (.deferred (some [])))=_:=abs_alloc w (.deferred (some []))
  have e2:abs ((w.alloc (.deferred (some []))).alloc (.loop L))=_:=abs_alloc (w.alloc (.deferred (some []))) (.loop L)
  rw[World.size_alloc] at e2
  rw[hW1,e2,e1]
 have hent:(Instr.enterLoop fn a.tmps ps zas bd none).run P w = .ok (w.heap.size+1,[{ target:=.collected w.heap.size,args:=#[] }]) W1:=by
  rw[hW1,hL]; exact run_enterLoop_outer _ _ _ _ _
 have hok1:Okw w W1:=by rw[hW1]; exact⟨rfl,rfl,rfl,by rw[World.size_alloc,World.size_alloc]; omega⟩
 have hfr:abs w (w.heap.size+1)=none:=by simp[abs]
 have hc:=hd fn a.tmps w.heap.size (w.heap.size+1) hR.get (by rw[hR.size]; exact hf) (abs_fresh w) hfr (by omega) W1 (by rw[hab,hL])
 clear hab hW1 hd
 have hres:(resolve a.eval (rangeCall f (w.heap.size+1)) 0).run P W1 = .ok { target:=.fn (.func gf) lb,args:=#[.func (.yield (w.heap.size+1)) #[] #[]] } W1:=by
  have he:a.eval f = .func (.func gf) #[] lb:=by rw[hR.eval]; exact hv
  simp only[resolve,he]
  simp[go_sem]
 have hinv:(invoke (.fn (.func gf) lb) #[.func (.yield (w.heap.size+1)) #[] #[]]).run P W1 = .ok (.enter gf (#[.func (.yield (w.heap.size+1)) #[] #[]]++lb)) W1:=by
  simp[invoke,callFunc,h1,h2',h3']
 have hcall:CallsIn (Fw none) (0-1) P gf (#[.func (.yield (w.heap.size+1)) #[] #[]]++lb) W1 (rangePost (Fw none) 0 P (w.heap.size+1) (QW n w Q) { a with defers:=[({ target:=.collected w.heap.size,args:=#[] }:Deferred)]++a.defers }):=by
  refine CallsIn.mono (F:=Fw none) hc ?_
  rintro e w' ⟨v,rfl,ho,rec,hl,hb,hj⟩
  have ho':Okw w w':=hok1.trans ho
  have hl':w'.heap[w.heap.size+1]?=some (.loop rec):=hl
  refine⟨rec.pending,_,run_endLoop hl' hb,?_⟩
  have hab2:abs (w'.putObj (w.heap.size+1) (.loop { rec with state:=.exhausted }))=upd (abs w') (w.heap.size+1) (.loop { rec with state:=.exhausted }):=abs_putObj hl'
  have hok2:Okw w (w'.putObj (w.heap.size+1) (.loop { rec with state:=.exhausted })):=ho'.trans ⟨rfl,rfl,rfl,by simp[World.putObj]⟩
  have hR2:Rel n (w.heap.size::m) { a with defers:=[({ target:=.collected w.heap.size,args:=#[] }:Deferred)]++a.defers } s:=⟨hR.size,hR.get,by simp[hR.defers]⟩
  rw[← hab2] at hj
  revert hok2 hj
  generalize w'.putObj (w.heap.size+1) (.loop { rec with state:=.exhausted })=w4
  intro hj hok2
  revert hj
  generalize rec.pending=pe
  intro hj
  cases pe with
  | none=>exact QW_intro (by simp) (by simp) hR2 hok2 hj
  | some c =>
   cases c with
   | ret=>exact wpIn_ret (QW_intro (by simp) (by simp) hR2 hok2 hj)
   | exit id=>exact wpIn_exit (QW_intro (by simp) (by simp) hR2 hok2 hj)
   | _=>exact hj.elim
 have hent':(Instr.enterLoop fn a.tmps ps zas bd (Fw none).round).run P w = .ok (w.heap.size+1,[{ target:=.collected w.heap.size,args:=#[] }]) W1:=by rw[Fw_round]; exact hent
 have hdep:(Fw none).depth.isSome=true→1≤0:=fun hx=>by cases hx
 refine⟨w.heap.size+1,[{ target:=.collected w.heap.size,args:=#[] }],W1,{ target:=.fn (.func gf) lb,args:=#[.func (.yield (w.heap.size+1)) #[] #[]] },W1,gf,#[.func (.yield (w.heap.size+1)) #[] #[]]++lb,W1,?_⟩
 exact And.intro hent' (And.intro hres (And.intro (fun f' _=>Fw_fn none f') (And.intro hinv (And.intro hdep hcall))))
theorem den_sound (hg:GoodP P g)(hm:P.follows .mixedOrders=true){r:Option Nat}:∀ (c:Code) (m:List Nat) (s:Env) (Q:Post) (a:Act) (w:World),(r=none∨nrf c=true)→fits n c=true→Rel n m a s →
  den P g c m s (abs w) Q→c.wpIn (Fw r) 0 P (QW n w Q) a w
 | .skip,m,s,Q,a,w,_,_,hR,hd=>wpIn_skip (QW_intro (by simp) (by simp) hR (Okw.refl w) hd)
 | .label _,m,s,Q,a,w,_,_,hR,hd=>wpIn_label (QW_intro (by simp) (by simp) hR (Okw.refl w) hd)
 | .ret,m,s,Q,a,w,_,_,hR,hd=>wpIn_ret (QW_intro (by simp) (by simp) hR (Okw.refl w) hd)
 | .exit id,m,s,Q,a,w,_,_,hR,hd=>wpIn_exit (QW_intro (by simp) (by simp) hR (Okw.refl w) hd)
 | .region id ops false,m,s,Q,a,w,hr,hf,hR,hd=>by
  simp only[fits,Bool.and_eq_true,List.all_eq_true] at hf
  refine wpIn_region ?_
  have:=denL_sound hg (r:=r) (ops:=ops) (n:=n) (m:=m) (w0:=w) (Q:=QW n w Q) (K:=fun s h=>Q .normal m s h) (fun s a w' hR ho hk=>QW_intro (by simp) (by simp) hR ho hk) ops.toList 0 s a w (by simp) hf.1 hR (Okw.refl w) hd
  rwa [Array.length_toList,← List.range_eq_range'] at this
 | .region id ops true,m,s,Q,a,w,hr,hf,hR,hd=>by
  simp only[fits,Bool.and_eq_true,List.all_eq_true] at hf
  refine wpIn_region_any hm (wpAnyIn_of_P (ms:=masks [] ops.toList) (pend:=[]) _ _ _ _ ?_)
  exact denD_sound hg (n:=n) (m:=m) (w0:=w) (Q:=QW n w Q) (K:=fun s h=>Q .normal m s h) rfl hf.2 (fun o ho=>hf.1 o (by simpa using ho)) (fun c a w hq=>hq)
   (fun s a w' hR ho hk=>QW_intro (by simp) (by simp) hR ho hk) ops.size _ [] s a { w with drawn:=w.drawn+1 } closed_none hR ⟨rfl,rfl,rfl,Nat.le_refl _⟩ (fun _ _ hp=>by simp at hp) hd
 | .seq x y,m,s,Q,a,w,hr,hf,hR,hd=>by
  simp only[fits,Bool.and_eq_true] at hf
  rw[den_seq] at hd
  refine wpIn_seq (wpIn_mono (den_sound hg hm (r:=r) x m s _ a w (hr.imp id fun h=>by simp only[nrf,Bool.and_eq_true] at h; exact h.1) hf.1 hR hd) (fun e a' w' hq=>?_))
  cases e with
  | normal =>
   obtain⟨m',s',hR',ho,hk⟩:=hq
   exact wpIn_mono (den_sound hg hm y m' s' Q a' w' (hr.imp id fun h=>by simp only[nrf,Bool.and_eq_true] at h; exact h.2) hf.2 hR' hk) (QW_later ho (fun _ _ _ _ h=>h))
  | _=>exact hq
 | .cond c x y,m,s,Q,a,w,hr,hf,hR,hd=>by
  simp only[fits,Bool.and_eq_true] at hf
  simp only[den] at hd
  cases hv:ev s c with
  | bool b =>
   rw[hv] at hd
   refine wpIn_cond (t:=b) (by rw[hR.eval]; exact hv) ?_
   cases b with
   | true=>exact den_sound hg hm x m s Q a w (hr.imp id fun h=>by simp only[nrf,Bool.and_eq_true] at h; exact h.1) hf.1 hR (hd.1 rfl)
   | false=>exact den_sound hg hm y m s Q a w (hr.imp id fun h=>by simp only[nrf,Bool.and_eq_true] at h; exact h.2) hf.2 hR (hd.2 rfl)
  | _=>rw[hv] at hd; exact hd.elim
 | .scope c,m,s,Q,a,w,hr,hf,hR,hd=>by
  refine wpIn_scope (wpIn_mono (den_sound hg hm c m s _ a w hr hf hR hd) (fun e a' w' hq=>?_))
  cases e with
  | goto l =>
   obtain⟨m',s',hR',ho,hk⟩:=hq
   exact hk.elim
  | _=>exact hq
 | .block id c,m,s,Q,a,w,hr,hf,hR,hd=>by
  refine wpIn_block (wpIn_mono (den_sound hg hm c m s _ a w hr hf hR hd) (fun e a' w' hq=>?_))
  cases e with
  | exit id' =>
   obtain⟨m',s',hR',ho,hk⟩:=hq
   simp only[blkM] at hk
   by_cases hid:id'=id
   ·subst hid
    simp only[Exit.inBlock,if_true]
    have:Nat.beq id' id'=true:=Nat.beq_refl id'
    rw[this] at hk
    exact⟨m',s',hR',ho,hk⟩
   ·simp only[Exit.inBlock,hid,if_false]
    have:Nat.beq id' id=false:=by rw[← Bool.not_eq_true,Nat.beq_eq]; exact hid
    rw[this] at hk
    exact⟨m',s',hR',ho,hk⟩
  | _=>exact hq
 | .loop c,m,s,Q,a,w,hr,hf,hR,hd=>by
  obtain⟨I,μ,h0,hround⟩:=hd
  refine wpIn_loop (fun a' w'=>∃ m' s',Rel n m' a' s'∧Okw w w'∧I m' s' (abs w')) (fun a' w'=>μ (fun i=>a'.tmps.getD i undef) (abs w')) ⟨m,s,hR,Okw.refl w,h0⟩ ?_
  rintro a' w' ⟨m',s',hR',ho,hI⟩
  have hs:(fun i=>a'.tmps.getD i undef)=s':=funext hR'.get
  refine wpIn_mono (den_sound hg hm c m' s' _ a' w' hr hf hR' (hround m' s' (abs w') hI)) (fun e a'' w'' hq=>?_)
  cases e with
  | normal =>
   obtain⟨m'',s'',hR'',ho',hI'',hlt⟩:=hq
   refine⟨⟨m'',s'',hR'',ho.trans ho',hI''⟩,?_⟩
   rw[hs,(funext hR''.get:(fun i=>a''.tmps.getD i undef)=s'')]
   exact hlt
  | _=>first | exact hq | exact QW_later ho (fun _ _ _ _ h=>h) _ _ _ hq
 | .rangeFunc f ps zas bd,m,s,Q,a,w,hr,hf,hR,hd=>by
  have hr0:r=none:=hr.resolve_right (by simp[nrf])
  subst hr0
  exact rf_sound hg hf hR hd
 | .goto _,_,_,_,_,_,_,_,_,hd=>hd.elim
 | .refuse _,_,_,_,_,_,_,_,_,hd=>hd.elim
def envOf (args:List Value):Env:=fun i=>match args[i]? with
 | some v=>v
 | none=>undef
def mkM:List Nat→Heap→(Heap→Prop)→Prop
 | [],h,K=>K h
 | r::m,h,K=>h r=some (.deferred (some []))∧mkM m (upd h r (.deferred none)) K
def resL (P:Program)(s:Env)(h:Heap):List ResultVar→(List Value→Prop)→Prop
 | [],K=>K []
 | .tmp t::r,K=>resL P s h r (fun l=>K (s t::l))
 | .cell a t::r,K=>ov (ldV (tagg P t) (s a) h) (fun v=>resL P s h r (fun l=>K (v::l)))
def tupV (l:List Value):Value:=match l with
 | [v]=>v
 | l=>.tuple l.toArray
def retM (P:Program)(rs:List ResultVar)(K:KTy):Post:=fun e m s h=>match e with
 | .normal=>mkM m h (fun h=>resL P s h rs (fun l=>K (tupV l) h))
 | .ret=>mkM m h (fun h=>resL P s h rs (fun l=>K (tupV l) h))
 | _=>False
def resOne (tmps:Array Value):ResultVar→Sem Value
 | .tmp t=>pure (tmps.getD t undef)
 | .cell a t=>do loadVar t (← asAddr (tmps.getD a undef))
theorem results_eq (fn:Func)(tmps:Array Value):results fn tmps=(do let vs ← fn.results.mapM (resOne tmps); pure (if h:vs.size=1 then vs[0] else .tuple vs)):=by
 unfold results
 congr 1
theorem resL_run {s:Env}{w:World}{tmps:Array Value}(hs:∀ i,tmps.getD i undef=s i):∀ (rs:List ResultVar) (K:List Value→Prop),resL P s (abs w) rs K →
  ∃ l,K l∧l.length=rs.length∧(rs.mapM (resOne tmps)).run P w = .ok l w
 | [],K,h=>⟨[],h,rfl,by simp⟩
 | .tmp t::r,K,h=>by
  obtain⟨l,hk,hl,hr⟩:=resL_run hs r _ h
  exact⟨_,hk,by simp[hl],by simp only[List.mapM_cons,resOne,Sem.run_bind,Sem.run_pure,Result.andThen_ok,hr,hs]⟩
 | .cell a t::r,K,h=>by
  obtain⟨v,hv,h⟩:=ov_some h
  obtain⟨l,hk,hl,hr⟩:=resL_run hs r _ h
  refine⟨_,hk,by simp[hl],?_⟩
  match hx:s a,hv with
  | .pointer (some ⟨b,o,none⟩),hv =>
   have:=run_loadVar' hv
   simp only[List.mapM_cons,resOne,Sem.run_bind,hs,hx,asAddr,Sem.run_pure,Result.andThen_ok,this,hr]
  | .pointer (some ⟨b,o,some _⟩),hv=>simp[ldV] at hv
  | .pointer none,hv=>simp[ldV] at hv
  | .bool _,hv | .int _ _,hv | .float _ _,hv | .complex _ _ _,hv | .string _,hv | .slice _ _ _,hv | .map _,hv | .chan _,hv | .func _ _ _,hv | .nilFunc,hv | .iface _ _,hv | .nilIface,hv | .agg _,hv | .tuple _,hv =>
   simp[ldV] at hv
theorem results_run {fn:Func}{s:Env}{w:World}{tmps:Array Value}(hs:∀ i,tmps.getD i undef=s i){K:List Value→Prop}(h:resL P s (abs w) fn.results.toList K) :
  ∃ l,K l∧(results fn tmps).run P w = .ok (tupV l) w:=by
 obtain⟨l,hk,hl,hr⟩:=resL_run hs fn.results.toList K h
 refine⟨l,hk,?_⟩
 rw[results_eq,Array.mapM_eq_mapM_toList]
 simp only[Sem.run_bind,Sem.run_map,hr,Result.andThen_ok,Sem.run_pure]
 match l with
 | []=>simp[tupV]
 | [v]=>simp[tupV]
 | v::u::l=>simp[tupV]
theorem abs_take {w:World}{r:Nat}(h:abs w r=some (.deferred (some []))) :
  ∃ w',(Instr.takeDeferred r).run P w = .ok [] w'∧Okw w w'∧abs w'=upd (abs w) r (.deferred none):=by
 have hr:w.heap[r]?=some (.deferred (some [])):=h
 have hlt:r<w.heap.size:=(Array.getElem?_eq_some_iff.1 hr).1
 refine⟨{ w with heap:=w.heap.setIfInBounds r (.deferred none) },?_,⟨rfl,rfl,rfl,by simp⟩,?_⟩
 ·simp[Instr.takeDeferred,getObj,setObj,Sem.run,hr]
 ·funext k
  simp only[abs,upd]
  by_cases hk:k=r
  ·subst hk; simp[hlt]
  ·rw[if_neg hk,Array.getElem?_setIfInBounds_ne (Ne.symm hk)]
variable {K:KTy}
theorem leaves_of_mk {fn:Func}{a:Act}{s:Env}(hs:∀ i,a.tmps.getD i undef=s i){w0:World}:∀ (m:List Nat) (w:World),Okw w0 w →
  mkM m (abs w) (fun h=>resL P s h fn.results.toList (fun l=>K (tupV l) h)) →
  LeavesInM Fence.wide 0 P fn a.tmps (fun e w'=>∃ v,e = .returned v∧Okw w0 w'∧K v (abs w')) (m.map fun r=>({ target:=.collected r,args:=#[] }:Deferred)) .returning w
 | [],w,ho,h=>by
  obtain⟨l,hk,hr⟩:=results_run hs h
  exact⟨_,hr,_,rfl,ho,hk⟩
 | r::m,w,ho,⟨h1,h2⟩=>by
  obtain⟨w',ht,ho',ha⟩:=abs_take (P:=P) h1
  refine⟨by simp,.inl ⟨r,w',rfl,ht,?_⟩⟩
  exact leaves_of_mk hs m w' (ho.trans ho') (by rw[ha]; exact h2)
theorem call_of_den (hg:GoodP P g)(hm:P.follows .mixedOrders=true){f:FuncId}{fn:Func}{c:Code}{args:List Value}{h:Heap}
  (hf:P.funcs[f]?=some fn) (hb:fn.body=some c) (hfit:fits fn.ntmps c=true) (hsz:args.length≤fn.ntmps)
  (hd:den P g c [] (envOf args) h (retM P fn.results.toList K)):callM P f args.toArray h K:=by
 intro w hw
 subst hw
 refine callsIn_of_wp_marks hf hb trivial (wpIn_mono (den_sound hg hm (n:=fn.ntmps) (r:=none) c [] (envOf args) _ _ w (.inl rfl) hfit ⟨?_,?_,rfl⟩ hd) ?_)
 ·simp; omega
 ·intro i
  simp only[Array.getD_eq_getD_getElem?,envOf]
  by_cases hi:i<args.length
  ·rw[Array.getElem?_append_left (by simpa using hi)]
   simp[hi]
  ·rw[Array.getElem?_append_right (by simpa using hi)]
   have:args[i]?=none:=by simp; omega
   simp only[this,Array.getElem?_replicate]
   split<;>rfl
 ·intro e a w' hq
  cases e with
  | normal=>obtain⟨m,s,hR,ho,hk⟩:=hq; simp only[bodyPostM]; rw[hR.defers]; exact leaves_of_mk hR.get m w' ho hk
  | ret=>obtain⟨m,s,hR,ho,hk⟩:=hq; simp only[bodyPostM]; rw[hR.defers]; exact leaves_of_mk hR.get m w' ho hk
  | exit id=>obtain⟨m,s,hR,ho,hk⟩:=hq; exact hk.elim
  | goto l=>obtain⟨m,s,hR,ho,hk⟩:=hq; exact hk.elim
  | panic c=>exact hq.elim
  | outgrown=>exact hq.elim
def bodyOf (fn:Func):Code:=match fn.body with
 | some c=>c
 | none=>.skip
theorem call_of (hg:GoodP P g)(hm:P.follows .mixedOrders=true){f:FuncId}{fn:Func}{args:List Value}{h:Heap}{B:Prop}
  (hf:P.funcs[f]?=some fn) (hb:fn.body=some (bodyOf fn)) (hfit:fits fn.ntmps (bodyOf fn)=true) (hsz:args.length≤fn.ntmps)
  (hB:B=den P g (bodyOf fn) [] (envOf args) h (retM P fn.results.toList K)) (hd:B):callM P f args.toArray h K :=
 call_of_den hg hm hf hb hfit hsz (hB▸hd)
end
end Go.Den
namespace Go.Den
open Go
@[simp] theorem ov_s (v:Value)(K:Value→Prop):ov (some v) K=K v:=rfl
def Ext (h h':Heap):Prop:=∀ b o,h b=some o→h' b=some o
theorem Ext.refl (h:Heap):Ext h h:=fun _ _ x=>x
theorem Ext.trans {a b c:Heap}(x:Ext a b)(y:Ext b c):Ext a c:=fun k o e=>y k o (x k o e)
theorem Ext.upd {h:Heap}{b:Nat}(hb:h b=none)(o:Obj):Ext h (upd h b o):=fun k o' e=>by
 unfold Den.upd
 split
 ·rename_i hk; subst hk; rw[hb] at e; cases e
 ·exact e
theorem cel_ext {h h':Heap}(x:Ext h h'){b o:Nat}{v:Value}(e:cel h b o=some v):cel h' b o=some v:=by
 unfold cel at *
 split at e
 ·rename_i hb; rw[x _ _ hb]; exact e
 ·cases e
theorem cels_ext {h h':Heap}(x:Ext h h'){b:Nat}:∀ {n o:Nat} {l:List Value},cels h b o n=some l→cels h' b o n=some l
 | 0,_,_,e=>e
 | n+1,o,l,e=>by
  simp only[cels] at *
  cases hc:cel h b o with
  | none=>simp[hc] at e
  | some v =>
   cases hr:cels h b (o+1) n with
   | none=>simp[hc,hr] at e
   | some r=>rw[cel_ext x hc,cels_ext x hr]; simpa [hc,hr] using e
theorem upd_same (h:Heap)(b:Nat)(o:Obj):upd h b o b=some o:=by simp[upd]
theorem cels_upd {h:Heap}{b:Nat}{c:List Value}{e:TypeId}{f:Nat × Nat}:∀ {n o:Nat},o+n=c.length→cels (upd h b (.cells c.toArray e f)) b o n=some (c.drop o)
 | 0,o,hn=>by simp only[cels,Option.some.injEq]; symm; rw[List.drop_eq_nil_iff]; omega
 | n+1,o,hn=>by
  have hlt:o<c.length:=by omega
  have h1:cel (upd h b (.cells c.toArray e f)) b o=some c[o]:=by simp[cel,upd_same,hlt]
  have h2:cels (upd h b (.cells c.toArray e f)) b (o+1) n=some (c.drop (o+1)):=cels_upd (by omega)
  simp only[cels,h1,h2]
  rw[List.drop_eq_getElem_cons hlt]
theorem cels_get {h:Heap}{b:Nat}:∀ {n o:Nat} {l:List Value},cels h b o n=some l→l.length=n∧∀ j (hj:j<l.length),cel h b (o+j)=some l[j]
 | 0,_,l,e=>by simp only[cels,Option.some.injEq] at e; subst e; simp
 | n+1,o,l,e=>by
  simp only[cels] at e
  cases hc:cel h b o with
  | none=>simp[hc] at e
  | some v =>
   cases hr:cels h b (o+1) n with
   | none=>simp[hc,hr] at e
   | some r =>
    simp only[hc,hr,Option.some.injEq] at e
    subst e
    obtain⟨h1,h2⟩:=cels_get hr
    refine⟨by simp[h1],fun j hj=>?_⟩
    cases j with
    | zero=>simpa using hc
    | succ j=>have:=h2 j (by simpa using hj); rw[show o+(j+1)=o+1+j by omega]; simpa using this
variable {K:KTy}
theorem nw_intro {c:Array Value}{e:TypeId}{h:Heap}(hk:∀ b h',h b=none→Ext h h'→h' b=some (.cells c e (0,0))→K (.pointer (some ⟨b,0,none⟩)) h'):nwM (some c) e h K :=
 fun b hb=>hk b _ hb (Ext.upd hb _) (upd_same _ _ _)
def Sl {α:Type}(sz:Nat)(R:Heap→List Value→α→Prop)(h:Heap)(v:Value)(xs:List α):Prop :=
 (xs=[]∧∃ a c,v = .slice a 0 c) ∨
 ∃ b o cap,v = .slice (some ⟨b,o,none⟩) xs.length cap∧xs.length≤cap∧cap≤maxLen∧∀ i (hi:i<xs.length),∃ c,cels h b (o+i*sz) sz=some c∧R h c xs[i]
theorem Sl.len {α:Type}{sz:Nat}{R:Heap→List Value→α→Prop}{h:Heap}{v:Value}{xs:List α}(x:Sl sz R h v xs):lnV 7 v=some (.int .i64 xs.length):=by
 rcases x with ⟨rfl,a,c,rfl⟩ | ⟨b,o,cap,rfl,_⟩<;>rfl
theorem Sl.max {α:Type}{sz:Nat}{R:Heap→List Value→α→Prop}{h:Heap}{v:Value}{xs:List α}(x:Sl sz R h v xs):xs.length≤9223372036854775807:=by
 rcases x with ⟨rfl,a,c,rfl⟩ | ⟨b,o,cap,rfl,h1,h2,_⟩
 ·simp
 ·unfold maxLen at h2; omega
theorem Sl.ext {α:Type}{sz:Nat}{R:Heap→List Value→α→Prop}(hR:∀ {h h' c x},Ext h h'→R h c x→R h' c x){h h':Heap}(e:Ext h h'){v:Value}{xs:List α}(x:Sl sz R h v xs):Sl sz R h' v xs:=by
 rcases x with h1 | ⟨b,o,cap,rfl,h1,h2,h3⟩
 ·exact .inl h1
 ·exact .inr ⟨b,o,cap,rfl,h1,h2,fun i hi=>let ⟨c,h4,h5⟩:=h3 i hi; ⟨c,cels_ext e h4,hR e h5⟩⟩
theorem Sl.at {α:Type}{sz:Nat}{R:Heap→List Value→α→Prop}{h:Heap}{v:Value}{xs:List α}(x:Sl sz R h v xs){k:IntKind}{i:Int}(h0:0≤i)(h1:i<xs.length) :
  ∃ b o c,iaV (some (none,sz)) v (.int k i)=some (.pointer (some ⟨b,o,none⟩))∧cels h b o sz=some c∧R h c (xs[i.toNat]'(by omega)):=by
 rcases x with ⟨rfl,a,c,rfl⟩ | ⟨b,o,cap,rfl,_,_,h3⟩
 ·simp at h1; omega
 ·obtain⟨c,h4,h5⟩:=h3 i.toNat (by omega)
  exact⟨b,o+i.toNat*sz,c,by simp[iaV,h0,h1],h4,h5⟩
@[simp] theorem bin_add (t:Nat)(c:Bool)(k:IntKind)(a b:Int):binV .add t c (.int k a) (.int k b)=some (.int k (k.wrap (a+b))):=by simp[binV,intV]
@[simp] theorem bin_sub (t:Nat)(c:Bool)(k:IntKind)(a b:Int):binV .sub t c (.int k a) (.int k b)=some (.int k (k.wrap (a-b))):=by simp[binV,intV]
@[simp] theorem bin_mul (t:Nat)(c:Bool)(k:IntKind)(a b:Int):binV .mul t c (.int k a) (.int k b)=some (.int k (k.wrap (a*b))):=by simp[binV,intV]
@[simp] theorem bin_eql (t:Nat)(c:Bool)(k:IntKind)(a b:Int):binV .eql t c (.int k a) (.int k b)=some (.bool (a == b)):=by simp[binV,intV]
@[simp] theorem bin_neq (t:Nat)(c:Bool)(k:IntKind)(a b:Int):binV .neq t c (.int k a) (.int k b)=some (.bool (a != b)):=by simp[binV,intV]
@[simp] theorem bin_lss (t:Nat)(c:Bool)(k:IntKind)(a b:Int):binV .lss t c (.int k a) (.int k b)=some (.bool (a<b)):=by simp[binV,intV]
@[simp] theorem bin_leq (t:Nat)(c:Bool)(k:IntKind)(a b:Int):binV .leq t c (.int k a) (.int k b)=some (.bool (a≤b)):=by simp[binV,intV]
@[simp] theorem bin_gtr (t:Nat)(c:Bool)(k:IntKind)(a b:Int):binV .gtr t c (.int k a) (.int k b)=some (.bool (b<a)):=by simp[binV,intV]
@[simp] theorem bin_geq (t:Nat)(c:Bool)(k:IntKind)(a b:Int):binV .geq t c (.int k a) (.int k b)=some (.bool (b≤a)):=by simp[binV,intV]
theorem wrap64_id {n:Int}(h0:-9223372036854775808≤n)(h1:n≤9223372036854775807):IntKind.i64.wrap n=n:=by
 simp only[IntKind.wrap,IntKind.bits,IntKind.signed]
 simp
 split<;>omega
@[simp] theorem isB_b (b w:Bool):isB (.bool b) w=(b == w):=rfl
@[simp] theorem cd_b (b:Bool)(A B:Prop):cdM (.bool b) A B=((b=true→A)∧(b=false→B)):=rfl
@[simp] theorem gM_t (A:KTy→Prop)(h:Heap)(K:KTy):gM true A h K=A K:=rfl
@[simp] theorem gM_f (A:KTy→Prop)(h:Heap)(K:KTy):gM false A h K=K undef h:=rfl
@[simp] theorem gv_t (A:(Value→Prop)→Prop)(K:Value→Prop):gv true A K=A K:=rfl
@[simp] theorem gv_f (A:(Value→Prop)→Prop)(K:Value→Prop):gv false A K=K undef:=rfl
@[simp] theorem faV_p (n b o:Nat):faV (some n) (.pointer (some ⟨b,o,none⟩))=some (.pointer (some ⟨b,o+n,none⟩)):=rfl
@[simp] theorem ldV_c (b o:Nat)(h:Heap):ldV (some none) (.pointer (some ⟨b,o,none⟩)) h=cel h b o:=rfl
theorem ldV_n {n b o:Nat}{h:Heap}{l:List Value}(hc:cels h b o n=some l):ldV (some (some n)) (.pointer (some ⟨b,o,none⟩)) h=some (.agg l.toArray):=by simp[ldV,hc]
@[simp] theorem pkV_t (a b:Value):pkV (.bool true) a b=some a:=rfl
@[simp] theorem pkV_f (a b:Value):pkV (.bool false) a b=some b:=rfl
@[simp] theorem unV_n (b:Bool):unV .not (.bool b)=some (.bool !b):=rfl
@[simp] theorem ncV_p (a:Addr):ncV (.pointer (some a))=some (.pointer (some a)):=rfl
@[simp] theorem exV_0 (a:Value)(l:List Value):exV (.tuple (a::l).toArray) 0=some a:=by simp[exV]
@[simp] theorem exV_1 (a b:Value)(l:List Value):exV (.tuple (a::b::l).toArray) 1=some b:=by simp[exV]
@[simp] theorem exV_2 (a b c:Value)(l:List Value):exV (.tuple (a::b::c::l).toArray) 2=some c:=by simp[exV]
@[simp] theorem cvV_i (k j:IntKind)(n:Int):cvV (some k) (.int j n)=some (.int k (k.wrap n)):=rfl
@[simp] theorem lnV_s (a:Option Addr)(n c:Nat):lnV 7 (.slice a n c)=some (.int .i64 n):=rfl
@[simp] theorem lnV_t (s:ByteArray):lnV 3 (.string s)=some (.int .i64 s.size):=rfl
@[simp] theorem bin_bool_eq (c a b:Bool):binV .eql 1 c (.bool a) (.bool b)=some (.bool (a == b)):=rfl
@[simp] theorem bin_bool_ne (c a b:Bool):binV .neq 1 c (.bool a) (.bool b)=some (.bool (!(a == b))):=rfl
theorem vv_of_run {P:Program}{S:Sem Value}{h:Heap}{v:Value}(hr:∀ w,S.run P w = .ok v w)(hk:K v h):vvM P S h K :=
 fun w hw=>⟨v,w,hr w,Okw.refl w,by rw[hw]; exact hk⟩
theorem vv_max {P:Program}{ts:Array TypeId}{ty:TypeId}{k:IntKind}{a b:Int}{h:Heap}(hk:K (.int k (max a b)) h) :
  vvM P (Builtin.max_ ts ty #[.int k a,.int k b]) h K:=by
 refine vv_of_run (v:=.int k (max a b)) (fun w=>?_) hk
 have:max a b=if b > a then b else a:=by omega
 simp[Builtin.max_,Builtin.max2,this]
theorem cset_other {h:Heap}{b o k:Nat}{v:Value}(hk:k≠b):cset h b o v k=h k:=by simp[cset,hk]
theorem cset_at {h:Heap}{b o:Nat}{v:Value}{c:Array Value}{e:TypeId}{f:Nat × Nat}(hb:h b=some (.cells c e f)):cset h b o v b=some (.cells (c.setIfInBounds o v) e f):=by simp[cset,hb]
def over (c:Array Value):Nat→List Value→Array Value
 | _,[]=>c
 | o,v::r=>over (c.setIfInBounds o v) (o+1) r
theorem over_size (c:Array Value):∀ (o:Nat) (l:List Value),(over c o l).size=c.size
 | _,[]=>rfl
 | o,v::r=>by simp[over,over_size];
theorem over_get (c:Array Value):∀ (l:List Value) (o:Nat),o+l.length≤c.size→∀ i,(over c o l)[i]?=if o≤i∧i<o+l.length then l[i-o]? else c[i]?
 | [],o,_,i=>by simp[over]; intro h1 h2; omega
 | v::r,o,h,i=>by
  simp only[List.length_cons] at h
  rw[over,over_get _ r (o+1) (by simp; omega) i]
  by_cases h1:i=o
  ·subst h1
   rw[if_neg (by omega),if_pos (by simp)]
   have:i<c.size:=by omega
   simp[this]
  ·by_cases h2:o+1≤i∧i<o+1+r.length
   ·rw[if_pos h2,if_pos (by simp; omega)]
    rw[show i-o=(i-(o+1))+1 by omega]
    simp
   ·rw[if_neg h2,if_neg (by simp; omega)]
    rw[Array.getElem?_setIfInBounds_ne (Ne.symm h1)]
theorem stC_intro {b:Nat}{e:TypeId}:∀ {l:List Value} {o:Nat} {h:Heap} {c:Array Value} {K:Heap→Prop},h b=some (.cells c e (0,0))→o+l.length≤c.size→(∀ v∈l,v.oneCell'=true) →
  (∀ h',(∀ k,k≠b→h' k=h k)→h' b=some (.cells (over c o l) e (0,0))→K h')→stC b o l h K
 | [],o,h,c,K,hb,_,_,hk=>hk h (fun _ _=>rfl) hb
 | v::l,o,h,c,K,hb,hs,h1,hk=>by
  simp only[List.length_cons] at hs
  have hlt:o<c.size:=by omega
  have hc:cel h b o=some c[o]:=by simp[cel,hb,hlt]
  have hf:frz h b o=false:=by simp[frz,hb]
  simp only[stC,hc]
  refine⟨hf,h1 v (by simp),?_⟩
  refine stC_intro (cset_at hb) (by simp; omega) (fun u hu=>h1 u (by simp[hu])) (fun h' hk1 hb1=>hk h' (fun k hk2=>(hk1 k hk2).trans (cset_other hk2)) hb1)
theorem st_intro {n b o:Nat}{e:TypeId}{v:Value}{h:Heap}{c:Array Value}{K:Heap→Prop}(hb:h b=some (.cells c e (0,0)))(hn:v.cells.size=n)(hs:o+n≤c.size)(h1:∀ u∈v.cells.toList,u.oneCell'=true)
  (hk:∀ h',(∀ k,k≠b→h' k=h k)→h' b=some (.cells (over c o v.cells.toList) e (0,0))→K h'):stM (some n) (.pointer (some ⟨b,o,none⟩)) v h K :=
 ⟨hn,stC_intro hb (by simp; omega) h1 hk⟩
theorem over_all (c:Array Value)(l:List Value)(h:l.length=c.size):over c 0 l=l.toArray:=by
 apply Array.ext_getElem?
 intro i
 rw[over_get c l 0 (by omega) i]
 by_cases hi:i<l.length
 ·simp[hi]
 ·rw[if_neg (by omega)]
  have h1:c[i]?=none:=by simp; omega
  have h2:l.toArray[i]?=none:=by simp; omega
  rw[h1,h2]
theorem new_store {z:Array Value}{n:Nat}{e:TypeId}{v:Value}{h:Heap}(hz:z.size=n)(hn:v.cells.size=n)(h1:∀ u∈v.cells.toList,u.oneCell'=true)
  (hk:∀ b h',h b=none→Ext h h'→h' b=some (.cells v.cells e (0,0))→K (.pointer (some ⟨b,0,none⟩)) h'):nwM (some z) e h (fun p h'=>stM (some n) p v h' (fun h''=>K p h'')):=by
 refine nw_intro fun b h2 hb he hc=>?_
 refine st_intro hc hn (by omega) h1 (fun h3 ho hc3=>?_)
 rw[over_all _ _ (by simp[hn,hz])] at hc3
 refine hk b h3 hb (fun k o ek=>?_) (by simpa using hc3)
 have hkb:k≠b:=by rintro rfl; rw[hb] at ek; cases ek
 rw[ho k hkb]; exact he k o ek
theorem loop_intro {body:List Nat→Env→Heap→Post→Prop}{m:List Nat}{s:Env}{h:Heap}{Q:Post}(I:List Nat→Env→Heap→Prop)(μ:Env→Heap→Nat)
  (h0:I m s h) (hr:∀ m s h,I m s h→body m s h (lpM I μ s h Q)):loopM body m s h Q:=⟨I,μ,h0,hr⟩
section
variable {P:Program}{I:List Nat→Env→Heap→Prop}{μ:Env→Heap→Nat}{s0 s:Env}{h0 h:Heap}{Q:Post}{m:List Nat}{K:List Nat→Env→Heap→Prop}{i j:Nat}{R:KTy}{rs:List ResultVar}
@[simp] theorem lpM_n:lpM I μ s0 h0 Q .normal m s h=(I m s h∧μ s h<μ s0 h0):=rfl
@[simp] theorem lpM_e:lpM I μ s0 h0 Q (.exit i) m s h=Q (.exit i) m s h:=rfl
@[simp] theorem lpM_r:lpM I μ s0 h0 Q .ret m s h=Q .ret m s h:=rfl
@[simp] theorem ngM_n:ngM Q .normal m s h=Q .normal m s h:=rfl
@[simp] theorem ngM_r:ngM Q .ret m s h=Q .ret m s h:=rfl
@[simp] theorem ngM_e:ngM Q (.exit i) m s h=Q (.exit i) m s h:=rfl
@[simp] theorem blkM_n:blkM i Q .normal m s h=Q .normal m s h:=rfl
@[simp] theorem blkM_r:blkM i Q .ret m s h=Q .ret m s h:=rfl
@[simp] theorem blkM_e:blkM i Q (.exit j) m s h=if j=i then Q .normal m s h else Q (.exit j) m s h:=by
 simp only[blkM]
 by_cases e:j=i
 ·subst e; simp
 ·have:Nat.beq j i=false:=by rw[← Bool.not_eq_true,Nat.beq_eq]; exact e
  simp[this,e]
@[simp] theorem thenM_n:thenM K Q .normal m s h=K m s h:=rfl
@[simp] theorem thenM_e:thenM K Q (.exit i) m s h=Q (.exit i) m s h:=rfl
@[simp] theorem thenM_r:thenM K Q .ret m s h=Q .ret m s h:=rfl
@[simp] theorem retM_r:retM P rs R .ret [] s h=resL P s h rs (fun l=>R (tupV l) h):=rfl
@[simp] theorem retM_n:retM P rs R .normal [] s h=resL P s h rs (fun l=>R (tupV l) h):=rfl
@[simp] theorem resL_nil {L:List Value→Prop}:resL P s h [] L=L []:=rfl
@[simp] theorem resL_tmp {L:List Value→Prop}:resL P s h (.tmp i::rs) L=resL P s h rs (fun l=>L (s i::l)):=rfl
@[simp] theorem tupV_1 (v:Value):tupV [v]=v:=rfl
@[simp] theorem tupV_0:tupV [] = .tuple #[]:=rfl
@[simp] theorem tupV_2 (u v:Value):tupV [u,v] = .tuple #[u,v]:=rfl
@[simp] theorem tupV_3 (u v x:Value):tupV [u,v,x] = .tuple #[u,v,x]:=rfl
end
def num:Value→Int
 | .int _ n=>n
 | _=>0
@[simp] theorem num_int (k:IntKind)(n:Int):num (.int k n)=n:=rfl
@[simp] def lk:List (Nat × Value)→Nat→Option Value
 | [],_=>none
 | (d,v)::r,i=>match lk r i with
  | some u=>some u
  | none=>if d=i then some v else none
@[simp] theorem puts_lk:∀ (l:List (Nat × Value)) (s:Env) (i:Nat),puts s l i=(lk l i).getD (s i)
 | [],_,_=>rfl
 | (d,v)::r,s,i=>by
  rw[puts,puts_lk r,lk]
  cases hr:lk r i with
  | some u=>rfl
  | none =>
   simp only[Option.getD_none,put]
   by_cases e:d=i
   ·subst e; simp
   ·have:Nat.beq i d=false:=by rw[← Bool.not_eq_true,Nat.beq_eq]; exact fun h=>e h.symm
    simp[this,e]
@[simp] theorem puts_nil (s:Env)(i:Nat):puts s [] i=s i:=rfl
end Go.Den
namespace Go.Den
open Go
def Row (sz:Nat)(e:TypeId)(h:Heap)(v:Value)(n:Nat)(xs:List Value):Prop :=
 xs.length=n*sz∧((v = .slice none 0 0∧n=0) ∨
  ∃ g cap cur,v = .slice (some ⟨g,0,none⟩) n cap∧h g=some (.cells cur e (0,0))∧n≤cap∧cap≤maxLen∧cur.size=cap*sz∧cur.toList.take (n*sz)=xs)
def rowOf:Value→Option Nat
 | .slice (some a) _ _=>some a.block
 | _=>none
theorem rowOf_own (v:Value):rowOf v=v.ownBlock:=by cases v<;>first | rfl | (rename_i a _ _; cases a<;>rfl)
theorem Row.owns {sz:Nat}{e:TypeId}{w:World}{v:Value}{n:Nat}{xs:List Value}(r:Row sz e (abs w) v n xs):w.ownsRow 0 e sz v n xs:=by
 refine⟨r.1,?_⟩
 rcases r.2 with h | ⟨g,cap,cur,h1,h2,h3⟩
 ·exact .inl h
 ·exact .inr ⟨g,cap,cur,h1,Nat.zero_le _,h2,h3⟩
theorem Row.of {sz:Nat}{e:TypeId}{w:World}{v:Value}{n:Nat}{xs:List Value}(r:w.ownsRow 0 e sz v n xs):Row sz e (abs w) v n xs:=by
 refine⟨r.1,?_⟩
 rcases r.2 with h | ⟨g,cap,cur,h1,_,h2,h3⟩
 ·exact .inl h
 ·exact .inr ⟨g,cap,cur,h1,h2,h3⟩
def Keep (r:Option Nat)(h h':Heap):Prop:=∀ b o,h b=some o→some b≠r→h' b=some o
theorem Keep.of_ext {r:Option Nat}{h h':Heap}(x:Ext h h'):Keep r h h':=fun b o e _=>x b o e
theorem Keep.trans {r:Option Nat}{a b c:Heap}(x:Keep r a b)(y:Keep r b c):Keep r a c:=fun k o e n=>y k o (x k o e n) n
theorem Row.ext {sz:Nat}{e:TypeId}{h h':Heap}{v:Value}{n:Nat}{xs:List Value}(r:Row sz e h v n xs)(k:Ext h h'):Row sz e h' v n xs:=by
 refine⟨r.1,?_⟩
 rcases r.2 with h1 | ⟨g,cap,cur,rfl,h2,h3⟩
 ·exact .inl h1
 ·exact .inr ⟨g,cap,cur,rfl,k _ _ h2,h3⟩
theorem Row.lt {sz:Nat}{e:TypeId}{h:Heap}{v:Value}{n:Nat}{xs:List Value}(r:Row sz e h v n xs):∀ b,rowOf v=some b→∃ o,h b=some o:=by
 intro b hb
 rcases r.2 with ⟨rfl,_⟩ | ⟨g,cap,cur,rfl,h2,h3⟩
 ·simp[rowOf] at hb
 ·simp[rowOf] at hb; subst hb; exact⟨_,h2⟩
def apC (P:Program)(e:TypeId):Option (Nat × Nat × Nat):=match P.info? e with
 | some i=>match i.zero with
  | some z=>some (i.size,i.bytes,z.cells.size)
  | none=>none
 | none=>none
theorem cels_read {w:World}{b:Nat}:∀ {n o:Nat} {l:List Value},cels (abs w) b o n=some l→∀ j u,l[j]?=some u→w.cell? ((⟨b,o,none⟩:Addr).add j)=some u:=by
 intro n o l h j u hu
 obtain⟨h1,h2⟩:=cels_get h
 have hj:j<l.length:=(List.getElem?_eq_some_iff.1 hu).1
 have:=h2 j hj
 rw[cel_abs] at this
 have e:(⟨b,o,none⟩:Addr).add j=⟨b,o+j,none⟩:=by simp[Addr.add]
 rw[e,this]
 exact (List.getElem?_eq_some_iff.1 hu).2▸rfl
variable {K:KTy}
theorem app_intro {P:Program}{t ty e:TypeId}{sz bytes:Nat}{v:Value}{n:Nat}{xs:List Value}{ab ao m c:Nat}{news:List Value}{h:Heap}
  (ht:P.underlying t=some (.slice e)) (hi:apC P e=some (sz,bytes,sz)) (hsz:0<sz) (hv:Row sz e h v n xs) (hn:cels h ab ao (m*sz)=some news) (h1:∀ u∈news,u.oneCell'=true)
  (h63:n+m≤maxLen) (hby:(n+m)*bytes≤140737488355328)
  (hk:∀ v' h',Row sz e h' v' (n+m) (xs++news)→Keep (rowOf v) h h'→(rowOf v'=rowOf v∨∃ b,rowOf v'=some b∧h b=none)→K v' h') :
  vvM P (Builtin.append_ #[t,t] ty #[v,.slice (some ⟨ab,ao,none⟩) m c]) h K:=by
 intro w hw
 subst hw
 unfold apC at hi
 cases hi1:P.info? e with
 | none=>simp[hi1] at hi
 | some i =>
  cases hz:i.zero with
  | none=>simp[hi1,hz] at hi
  | some z =>
   simp only[hi1,hz,Option.some.injEq,Prod.mk.injEq] at hi
   obtain⟨v',w',hr,ho,hg,_,ha⟩:=run_append_own_at (P:=P) w 0 t ty e i z sz bytes ht hi1 hz hi.1 hi.2.1 hi.2.2 hsz v n xs hv.owns ⟨ab,ao,none⟩ m c news (cels_get hn).1 (cels_read hn) h1 h63 hby (Nat.zero_le _)
   refine⟨v',w',hr,⟨hg.os,hg.tape,hg.output,hg.size⟩,hk v' _ (Row.of ho) (fun b o hb hne=>?_) ?_⟩
   ·rw[rowOf_own] at hne
    have hlt:b<w.heap.size:=(Array.getElem?_eq_some_iff.1 hb).1
    exact (hg.block b hlt hne).trans hb
   ·rw[rowOf_own,rowOf_own]
    rcases ha with ha | ha
    ·exact .inl ha
    ·exact .inr ⟨_,ha,abs_fresh w⟩
theorem fold_over:∀ (l:List Value) (off k:Nat) (cs:Array Value),(l.zipIdx k).foldl (fun cs x=>cs.setIfInBounds (off+x.2) x.1) cs=over cs (off+k) l
 | [],_,_,_=>rfl
 | v::l,off,k,cs=>by
  simp only[List.zipIdx_cons,List.foldl_cons,over]
  rw[fold_over l off (k+1)]; congr 1
theorem zrow_size (z:Array Value)(n:Nat):(zrow z n).size=n:=by simp[zrow]
theorem fill_one {sz:Nat}{z:Array Value}{x:Value}(hx:x.cells.size=sz):Instr.fill (fun i=>some (i*sz,sz)) (zrow z (1*sz)) [(0,x)]=some x.cells:=by
 simp only[Instr.fill,hx,zrow_size]
 simp only[ne_eq,not_true,decide_false,Nat.zero_mul,Nat.zero_add,Nat.one_mul,Bool.false_or]
 have h:¬ (sz > sz):=by omega
 simp only[h,decide_false,if_false,Bool.false_eq_true,Option.some.injEq]
 rw[← Array.foldl_toList,Array.toList_zipIdx]
 have:=fold_over x.cells.toList 0 0 (zrow z sz)
 simp only[Nat.zero_add] at this
 rw[this,over_all _ _ (by rw[zrow_size]; simpa using hx)]
theorem app_one {P:Program}{t ty e:TypeId}{sz bytes:Nat}{z:Array Value}{v x:Value}{n:Nat}{xs:List Value}{h:Heap}{K:Value→Value→Heap→Prop}
  (hb:bsI P t=some (e,sz,z)) (ht:P.underlying t=some (.slice e)) (hi:apC P e=some (sz,bytes,sz)) (hsz:0<sz) (hx:x.cells.size=sz) (h1:∀ u∈x.cells.toList,u.oneCell'=true)
  (hv:Row sz e h v n xs) (h63:n+1≤maxLen) (hby:(n+1)*bytes≤140737488355328) (hs:sz≤16777216)
  (hk:∀ a v' h',Row sz e h' v' (n+1) (xs++x.cells.toList)→Keep (rowOf v) h h'→(rowOf v'=rowOf v∨∃ b,rowOf v'=some b∧h b=none)→K a v' h') :
  bsM (bsI P t) 1 [(0,x)] h fun a h'=>vvM P (Builtin.append_ #[t,t] ty #[v,a]) h' (K a):=by
 rw[hb]
 simp only[bsM]
 rw[fill_one hx]
 refine⟨by omega,fun b hbn=>?_⟩
 have he:=Ext.upd hbn (.cells x.cells e (0,0))
 have hc:cels (upd h b (.cells x.cells e (0,0))) b 0 (1*sz)=some x.cells.toList:=by
  have:=cels_upd (h:=h) (b:=b) (c:=x.cells.toList) (e:=e) (f:=(0,0)) (n:=1*sz) (o:=0) (by simpa using hx.symm)
  simpa using this
 refine app_intro ht hi hsz (hv.ext he) hc h1 h63 hby fun v' h' hr hkp ha=>hk _ v' h' hr ((Keep.of_ext he).trans hkp) ?_
 rcases ha with ha | ⟨k,ha,hn⟩
 ·exact .inl ha
 ·refine .inr ⟨k,ha,?_⟩
  cases hh:h k with
  | none=>rfl
  | some o=>rw[he _ _ hh] at hn; cases hn
theorem Ext.keep {h0 h h':Heap}{r:Option Nat}(x:Ext h0 h)(k:Keep r h h')(hr:∀ b,r=some b→h0 b=none):Ext h0 h':=fun b o e =>
 k b o (x b o e) (fun h=>by rw[hr b h.symm] at e; cases e)
theorem cels_of {h:Heap}{b:Nat}{c:Array Value}{e:TypeId}{f:Nat × Nat}(hb:h b=some (.cells c e f)):∀ {n o:Nat} {l:List Value},(c.toList.drop o).take n=l→l.length=n→cels h b o n=some l
 | 0,o,l,h1,h2=>by simp at h1; subst h1; rfl
 | n+1,o,[],h1,h2=>by simp at h2
 | n+1,o,x::l,h1,h2=>by
  have ho:o<c.toList.length:=by
   have:((c.toList.drop o).take (n+1)).length=n+1:=by rw[h1]; exact h2
   simp only[List.length_take,List.length_drop] at this
   omega
  rw[List.drop_eq_getElem_cons ho,List.take_succ_cons,List.cons.injEq] at h1
  have h3:cel h b o=some x:=by simp[cel,hb,← h1.1]
  have h4:=cels_of hb (n:=n) (o:=o+1) h1.2 (by simpa using h2)
  simp only[cels,h3,h4]
theorem flat_at {α:Type}(enc:α→List Value){sz:Nat}(henc:∀ x,(enc x).length=sz):∀ (xs:List α) (i:Nat) (hi:i<xs.length),((xs.flatMap enc).drop (i*sz)).take sz=enc xs[i]
 | x::xs,0,_=>by simp[List.take_append,henc]
 | x::xs,i+1,hi=>by
  simp only[List.flatMap_cons,List.getElem_cons_succ]
  rw[show (i+1)*sz=(enc x).length+i*sz by rw[henc,Nat.add_mul]; omega,List.drop_append]
  rw[List.drop_eq_nil_of_le (by omega),show (enc x).length+i*sz-(enc x).length=i*sz by omega,List.nil_append]
  exact flat_at enc henc xs i (by simpa using hi)
theorem Row.sl {α:Type}{enc:α→List Value}{sz:Nat}{R:Heap→List Value→α→Prop}{e:TypeId}{h:Heap}{v:Value}{xs:List α}(henc:∀ x,(enc x).length=sz)(hR:∀ x,R h (enc x) x)
  (r:Row sz e h v xs.length (xs.flatMap enc)):Sl sz R h v xs:=by
 rcases r.2 with ⟨rfl,h2⟩ | ⟨g,cap,cur,rfl,hb,h3,h4,h5,h6⟩
 ·exact .inl ⟨List.eq_nil_of_length_eq_zero h2,_,_,rfl⟩
 ·refine .inr ⟨g,0,cap,rfl,h3,h4,fun i hi=>⟨enc xs[i],cels_of hb ?_ (henc _),hR _⟩⟩
  rw[Nat.zero_add,← flat_at enc henc xs i hi,← h6,List.drop_take,List.take_take]
  congr 1
  have:(i+1)*sz≤xs.length*sz:=Nat.mul_le_mul_right _ hi
  rw[Nat.add_mul] at this; omega
end Go.Den
namespace Go.Den
open Go Go.MapKept
def MapR (d:TypeDesc)(h:Heap)(r:Nat)(f:Value→Option Value):Prop :=
 ∃ es ck,h r=some (.map es ck)∧Stamped es ck∧(∀ x∈es.toList,IsKey d x.key)∧∀ k v,IsKey d k→(f k=some v↔∃ e∈es.toList,e.key=k∧e.val=v)
theorem MapR.of {d:TypeDesc}{h h':Heap}{r:Nat}{f:Value→Option Value}(m:MapR d h r f)(e:h' r=h r):MapR d h' r f:=by
 obtain⟨es,ck,h1,h2⟩:=m
 exact⟨es,ck,e.trans h1,h2⟩
theorem MapR.lt {d:TypeDesc}{h:Heap}{r:Nat}{f:Value→Option Value}(m:MapR d h r f):∃ o,h r=some o:=by
 obtain⟨es,ck,h1,_⟩:=m
 exact⟨_,h1⟩
open Classical in
noncomputable def mset (f:Value→Option Value) (k v:Value):Value→Option Value:=fun x=>if x=k then some v else f x
end Go.Den
namespace Go.Den
open Go
@[congr] theorem gM_cong {c c':Bool} {A A':KTy→Prop} {h:Heap} {K:KTy} (hc:c=c') (hA:c'=true→A=A'):gM c A h K=gM c' A' h K:=by
 subst hc
 cases c
 ·rfl
 ·rw[hA rfl]
@[congr] theorem gv_cong {c c':Bool} {A A':(Value→Prop)→Prop} {K:Value→Prop} (hc:c=c') (hA:c'=true→A=A'):gv c A K=gv c' A' K:=by
 subst hc
 cases c
 ·rfl
 ·rw[hA rfl]
@[congr] theorem ov_cong {x x':Option Value} {K:Value→Prop} (hx:x=x'):ov x K=ov x' K:=by rw[hx]
@[congr] theorem cdM_cong {v v':Value} {A B:Prop} (hv:v=v'):cdM v A B=cdM v' A B:=by rw[hv]
@[congr] theorem nwM_cong {c c':Option (Array Value)} {e:TypeId} {h:Heap} {K:KTy} (hc:c=c'):nwM c e h K=nwM c' e h K:=by rw[hc]
@[congr] theorem stM_cong {n:Option Nat} {x x' v v':Value} {h:Heap} {K:Heap→Prop} (hx:x=x') (hv:v=v'):stM n x v h K=stM n x' v' h K:=by rw[hx,hv]
@[congr] theorem callM_cong {P:Program} {f:FuncId} {args args':Array Value} {h:Heap} {K:KTy} (ha:args=args'):callM P f args h K=callM P f args' h K:=by rw[ha]
@[congr] theorem vvM_cong {P:Program} {S S':Sem Value} {h:Heap} {K:KTy} (hS:S=S'):vvM P S h K=vvM P S' h K:=by rw[hS]
@[congr] theorem uM_cong {P:Program} {S S':Sem Unit} {h:Heap} {K:Heap→Prop} (hS:S=S'):uM P S h K=uM P S' h K:=by rw[hS]
@[congr] theorem nxM_cong {P:Program} {S S':Sem Next} {h:Heap} {K:KTy} (hS:S=S'):nxM P S h K=nxM P S' h K:=by rw[hS]
@[congr] theorem lkM_cong {P:Program} {S S':Sem Value} {h:Heap} {K:Value→Prop} (hS:S=S'):lkM P S h K=lkM P S' h K:=by rw[hS]
@[congr] theorem bsM_cong {inf:Option (TypeId × Nat × Array Value)} {n:Nat} {ps ps':List (Nat × Value)} {h:Heap} {K:KTy} (hp:ps=ps'):bsM inf n ps h K=bsM inf n ps' h K:=by rw[hp]
@[congr] theorem seqM_cong {A:Post→Prop} {K:List Nat→Env→Heap→Prop} {Q:Post}:seqM A K Q=seqM A K Q:=rfl
@[congr] theorem loopM_cong {body:List Nat→Env→Heap→Post→Prop} {m:List Nat} {s:Env} {h:Heap} {Q:Post}:loopM body m s h Q=loopM body m s h Q:=rfl
def gdv (c:Bool)(a:Value):Value:=match c with
 | true=>a
 | false=>undef
@[simp] theorem gdv_t (a:Value):gdv true a=a:=rfl
@[simp] theorem gdv_f (a:Value):gdv false a=undef:=rfl
@[simp] theorem gM_gdv (c:Bool)(a:Value)(h:Heap)(K:KTy):gM c (fun k=>k a h) h K=K (gdv c a) h:=by cases c<;>rfl
@[simp] theorem gv_gdv (c:Bool)(a:Value)(K:Value→Prop):gv c (fun k=>k a) K=K (gdv c a):=by cases c<;>rfl
@[simp] theorem gv_ov (c:Bool)(a:Value)(K:Value→Prop):gv c (ov (some a)) K=K (gdv c a):=by cases c<;>rfl
@[simp] theorem pk_and (b x:Bool):pkV (.bool b) (gdv b (.bool x)) (.bool false)=some (.bool (b && x)):=by cases b<;>rfl
@[simp] theorem pk_or {b g:Bool}(x:Bool)(hg:g=!b):pkV (.bool b) (.bool true) (gdv g (.bool x))=some (.bool (b || x)):=by subst hg; cases b<;>rfl
@[simp] theorem gdv_gdv (c:Bool)(a:Value):gdv c (gdv c a)=gdv c a:=by cases c<;>rfl
@[simp] theorem beq_dec (a b:Int):(a == b)=decide (a=b):=by by_cases h:a=b<;>simp[h]
@[simp] theorem bne_dec (a b:Int):(a != b)=!decide (a=b):=by by_cases h:a=b<;>simp[h,bne]
theorem cel_of {h:Heap}{b:Nat}{c:Array Value}{e:TypeId}{f:Nat × Nat}(hb:h b=some (.cells c e f))(o:Nat):cel h b o=c[o]?:=by simp[cel,hb]
theorem ld_box {h:Heap}{b n:Nat}{c:Array Value}{e:TypeId}{f:Nat × Nat}(hb:h b=some (.cells c e f))(hn:c.size=n):ldV (some (some n)) (.pointer (some ⟨b,0,none⟩)) h=some (.agg c):=by
 have:=ldV_n (cels_of hb (n:=n) (o:=0) (l:=c.toList) (by rw[List.drop_zero,List.take_of_length_le (by simp[hn])]) (by simpa using hn))
 simpa using this
variable {K:KTy}
theorem nw_agg {c:Array Value}{e:TypeId}{h:Heap}(hk:∀ b h',h b=none→Ext h h'→h' b=some (.cells c e (0,0))→K (.pointer (some ⟨b,0,none⟩)) h'):nwM (some (Value.agg c).cells) e h K:=nw_intro hk
@[simp] theorem cells_agg (c:Array Value):(Value.agg c).cells=c:=rfl
theorem nw_st {z:Array Value}{n:Nat}{e:TypeId}{v:Value}{h:Heap}(hz:z.size=n)(hn:v.cells.size=n)(h1:∀ u∈v.cells.toList,u.oneCell'=true)
  (hk:∀ b h',h b=none→Ext h h'→h' b=some (.cells v.cells e (0,0))→K (.pointer (some ⟨b,0,none⟩)) h'):nwM (some z) e h (fun p h'=>stM (some n) p v h' (fun h''=>K p h'')):=new_store hz hn h1 hk
theorem upd_same' (h:Heap)(b:Nat)(o:Obj):upd h b o b=some o:=upd_same h b o
theorem upd_ne {h:Heap}{b k:Nat}{o:Obj}(hk:k≠b):upd h b o k=h k:=by simp[upd,hk]
theorem nwM_s (c:Array Value)(e:TypeId)(h:Heap)(K:KTy):nwM (some c) e h K=∀ b,h b=none→K (.pointer (some ⟨b,0,none⟩)) (upd h b (.cells c e (0,0))):=rfl
end Go.Den
namespace Go.Den
open Go
def spl (xs:List Value)(o:Nat)(l:List Value):List Value:=xs.take o++l++xs.drop (o+l.length)
theorem spl_len {xs:List Value}{o:Nat}{l:List Value}(h:o+l.length≤xs.length):(spl xs o l).length=xs.length:=by simp[spl]; omega
theorem spl_get {xs:List Value}{o:Nat}{l:List Value}(h:o+l.length≤xs.length)(i:Nat):(spl xs o l)[i]?=if o≤i∧i<o+l.length then l[i-o]? else xs[i]?:=by
 unfold spl
 by_cases h1:i<o
 ·rw[if_neg (by omega),List.append_assoc,List.getElem?_append_left (by simp; omega),List.getElem?_take_of_lt h1]
 ·by_cases h2:i<o+l.length
  ·rw[if_pos (by omega),List.append_assoc,List.getElem?_append_right (by simp; omega),List.getElem?_append_left (by simp; omega)]
   congr 1; simp; omega
  ·rw[if_neg (by omega),List.getElem?_append_right (by simp; omega)]
   simp; congr 1; omega
theorem over_list {c:Array Value}{o:Nat}{l:List Value}(h:o+l.length≤c.size):(over c o l).toList=spl c.toList o l:=by
 apply List.ext_getElem?
 intro i
 rw[spl_get (by simpa using h),Array.getElem?_toList,over_get c l o h i]; simp
theorem take_spl {xs:List Value}{o n:Nat}{l:List Value}(h:o+l.length≤n)(hn:n≤xs.length):(spl xs o l).take n=spl (xs.take n) o l:=by
 apply List.ext_getElem?
 intro i
 rw[spl_get (by simp; omega)]
 by_cases hi:i<n
 ·rw[List.getElem?_take_of_lt hi,spl_get (by omega),List.getElem?_take_of_lt hi]
 ·rw[List.getElem?_eq_none (by simp[spl_len (show o+l.length≤xs.length by omega)]; omega),if_neg (by omega),List.getElem?_eq_none (by simp; omega)]
theorem Row.own {sz:Nat}{e:TypeId}{h:Heap}{v:Value}{n:Nat}{xs:List Value}(r:Row sz e h v n xs)(hn:0<n):∃ g cap cur,v = .slice (some ⟨g,0,none⟩) n cap∧h g=some (.cells cur e (0,0))∧n≤cap∧cap≤maxLen∧cur.size=cap*sz∧cur.toList.take (n*sz)=xs:=by
 rcases r.2 with ⟨_,h0⟩ | r
 ·omega
 ·exact r
theorem Row.cels {sz:Nat}{e:TypeId}{h:Heap}{v:Value}{n:Nat}{xs:List Value}(r:Row sz e h v n xs){g:Nat}(hg:rowOf v=some g){o m:Nat}(ho:o+m≤n*sz):cels h g o m=some ((xs.drop o).take m):=by
 rcases r.2 with ⟨rfl,_⟩ | ⟨g',cap,cur,rfl,hb,h1,h2,h3,h4⟩
 ·simp[rowOf] at hg
 ·simp only[rowOf,Option.some.injEq] at hg
  subst hg
  refine cels_of hb ?_ (by simp[r.1]; omega)
  rw[← h4,List.drop_take,List.take_take,Nat.min_eq_left (by omega)]
theorem Row.ia {sz:Nat}{e:TypeId}{h:Heap}{v:Value}{n:Nat}{xs:List Value}(r:Row sz e h v n xs){k:IntKind}{i:Nat}(hi:i<n):∃ g,rowOf v=some g∧iaV (some (none,sz)) v (.int k i)=some (.pointer (some ⟨g,i*sz,none⟩)):=by
 obtain⟨g,cap,cur,rfl,_⟩:=r.own (by omega)
 have:(i:Int)<n:=by omega
 exact⟨g,rfl,by simp[iaV,this]⟩
theorem Row.st {sz:Nat}{e:TypeId}{h:Heap}{v:Value}{n:Nat}{xs:List Value}(r:Row sz e h v n xs){g:Nat}(hg:rowOf v=some g){o m:Nat}{x:Value}{K:Heap→Prop}(hm:x.cells.size=m)(ho:o+m≤n*sz)(h1:∀ u∈x.cells.toList,u.oneCell'=true)
  (hk:∀ h',(∀ k,k≠g→h' k=h k)→Row sz e h' v n (spl xs o x.cells.toList)→K h'):stM (some m) (.pointer (some ⟨g,o,none⟩)) x h K:=by
 rcases r.2 with ⟨rfl,_⟩ | ⟨g',cap,cur,rfl,hb,h2,h3,h4,h5⟩
 ·simp[rowOf] at hg
 ·simp only[rowOf,Option.some.injEq] at hg
  subst hg
  have hnc:n*sz≤cap*sz:=Nat.mul_le_mul_right _ h2
  refine st_intro hb hm (by omega) h1 fun h' ho' hb'=>hk h' ho' ⟨by rw[spl_len (by simp[r.1,hm]; omega),r.1],.inr ⟨g',cap,_,rfl,hb',h2,h3,by rw[over_size,h4],?_⟩⟩
  rw[over_list (by simp[hm]; omega),take_spl (by simp[hm]; omega) (by simp; omega),h5]
theorem Row.of_at {sz:Nat}{e:TypeId}{h h':Heap}{v:Value}{n:Nat}{xs:List Value}(r:Row sz e h v n xs)(hk:∀ g,rowOf v=some g→h' g=h g):Row sz e h' v n xs:=by
 refine⟨r.1,?_⟩
 rcases r.2 with h1 | ⟨g,cap,cur,rfl,h2,h3⟩
 ·exact .inl h1
 ·exact .inr ⟨g,cap,cur,rfl,(hk g rfl).trans h2,h3⟩
def seqF (n:Nat)(F:Nat→List Value):List Value:=(List.range n).flatMap F
theorem seqF_succ (n:Nat)(F:Nat→List Value):seqF (n+1) F=seqF n F++F n:=by simp[seqF,List.range_succ]
theorem seqF_len {n sz:Nat}{F:Nat→List Value}(h:∀ i,i<n→(F i).length=sz):(seqF n F).length=n*sz:=by
 induction n with
 | zero=>simp[seqF]
 | succ n ih=>rw[seqF_succ,List.length_append,ih (fun i hi=>h i (by omega)),h n (by omega),Nat.add_mul]; omega
theorem seqF_at {n sz:Nat}{F:Nat→List Value}(h:∀ i,i<n→(F i).length=sz){i:Nat}(hi:i<n):((seqF n F).drop (i*sz)).take sz=F i:=by
 induction n with
 | zero=>omega
 | succ n ih =>
  have hl:=seqF_len (n:=n) (sz:=sz) (F:=F) (fun i hi=>h i (by omega))
  rw[seqF_succ]
  by_cases e:i=n
  ·subst e
   rw[List.drop_append,List.drop_eq_nil_of_le (by omega),hl]; simp; rw[List.take_of_length_le (by rw[h i hi]; exact Nat.le_refl _)]
  ·have hi':i<n:=by omega
   have:(i+1)*sz≤n*sz:=Nat.mul_le_mul_right _ hi'
   rw[Nat.add_mul] at this
   rw[List.drop_append_of_le_length (by omega),List.take_append_of_le_length (by simp[hl]; omega)]
   exact ih (fun i hi=>h i (by omega)) hi'
theorem seqF_get {n sz:Nat}{F:Nat→List Value}(h:∀ i,i<n→(F i).length=sz){i j:Nat}(hi:i<n)(hj:j<sz):(seqF n F)[i*sz+j]?=(F i)[j]?:=by
 rw[← seqF_at h hi,List.getElem?_take_of_lt hj,List.getElem?_drop]
theorem seqF_congr {n:Nat}{F G:Nat→List Value}(h:∀ i,i<n→F i=G i):seqF n F=seqF n G:=by
 induction n with
 | zero=>rfl
 | succ n ih=>rw[seqF_succ,seqF_succ,ih (fun i hi=>h i (by omega)),h n (by omega)]
def fset (F:Nat→List Value)(i:Nat)(l:List Value):Nat→List Value:=fun j=>if j=i then l else F j
theorem seqF_spl {n sz:Nat}{F:Nat→List Value}(h:∀ i,i<n→(F i).length=sz){i off:Nat}{l:List Value}(hi:i<n)(ho:off+l.length≤sz):spl (seqF n F) (i*sz+off) l=seqF n (fset F i (spl (F i) off l)):=by
 have hz:∀ j,j<n→(fset F i (spl (F i) off l) j).length=sz:=fun j hj=>by
  unfold fset; split
  ·rw[spl_len (by rw[h i hi]; omega),h i hi]
  ·exact h j hj
 have hin:(i+1)*sz≤n*sz:=Nat.mul_le_mul_right _ hi
 rw[Nat.add_mul] at hin
 apply List.ext_getElem?
 intro k
 rw[spl_get (by rw[seqF_len h]; omega)]
 by_cases hk:k<n*sz
 ·by_cases hsz:sz=0
  ·subst hsz; omega
  have hq:k / sz<n:=by rw[Nat.div_lt_iff_lt_mul (by omega)]; exact hk
  have hm:k % sz<sz:=Nat.mod_lt _ (by omega)
  have hkk:k / sz*sz+k % sz=k:=by rw[Nat.mul_comm]; exact Nat.div_add_mod k sz
  have e1:(seqF n F)[k]?=(F (k / sz))[k % sz]?:=by rw[← hkk,seqF_get h hq hm]; simp only[hkk]
  have e2:(seqF n (fset F i (spl (F i) off l)))[k]?=(fset F i (spl (F i) off l) (k / sz))[k % sz]?:=by rw[← hkk,seqF_get hz hq hm]; simp only[hkk]
  rw[e1,e2]
  by_cases hi2:k / sz=i
  ·subst hi2
   have:fset F (k / sz) (spl (F (k / sz)) off l) (k / sz)=spl (F (k / sz)) off l:=by simp[fset]
   rw[this,spl_get (by rw[h _ hi]; omega)]
   by_cases hc:off≤k % sz∧k % sz<off+l.length
   ·rw[if_pos (by omega),if_pos hc]; congr 1; omega
   ·rw[if_neg (by omega),if_neg hc]
  ·have:fset F i (spl (F i) off l) (k / sz)=F (k / sz):=by simp[fset,hi2]
   rw[this,if_neg]
   intro ⟨ha,hb⟩
   apply hi2
   have h1:k / sz*sz<(i+1)*sz:=by rw[Nat.add_mul]; omega
   have h2:i*sz<(k / sz+1)*sz:=by rw[Nat.add_mul]; omega
   have h3:=Nat.lt_of_mul_lt_mul_right h1
   have h4:=Nat.lt_of_mul_lt_mul_right h2
   omega
 ·rw[if_neg (by omega),List.getElem?_eq_none (by rw[seqF_len h]; omega),List.getElem?_eq_none (by rw[seqF_len hz]; omega)]
theorem fresh_of {h h':Heap}(e:Ext h h'){b:Nat}(hb:h' b=none):h b=none:=by
 cases hh:h b with
 | none=>rfl
 | some o=>rw[e _ _ hh] at hb; cases hb
theorem ne_fresh {h:Heap}{a b:Nat}{o:Obj}(ha:h a=some o)(hb:h b=none):a≠b:=fun e=>by subst e; rw[ha] at hb; cases hb
variable {K:KTy}
theorem bs_one {P:Program}{t e:TypeId}{sz:Nat}{z:Array Value}{x:Value}{h:Heap}(hb:bsI P t=some (e,sz,z))(hx:x.cells.size=sz)(hs:sz≤16777216)
  (hk:∀ b h',h b=none→Ext h h'→h' b=some (.cells x.cells e (0,0))→K (.slice (some ⟨b,0,none⟩) 1 1) h'):bsM (bsI P t) 1 [(0,x)] h K:=by
 rw[hb]
 simp only[bsM]
 rw[fill_one hx]
 exact⟨by omega,fun b hbn=>hk b _ hbn (Ext.upd hbn _) (upd_same _ _ _)⟩
theorem cels_one {h:Heap}{b:Nat}{x:Value}{e:TypeId}{f:Nat × Nat}(hb:h b=some (.cells x.cells e f)){sz:Nat}(hx:x.cells.size=sz):cels h b 0 (1*sz)=some x.cells.toList:=by
 refine cels_of hb ?_ (by simpa using hx)
 rw[List.drop_zero,List.take_of_length_le (by simpa using Nat.le_of_eq hx)]
theorem app_none {P:Program}{t ty e:TypeId}{sz bytes k:Nat}{v:Value}{n c:Nat}{a:Option Addr}{xs:List Value}{h:Heap}(ht:P.underlying t=some (.slice e))(hi:apC P e=some (sz,bytes,k))(hv:Row sz e h v n xs)(hk:K v h) :
  vvM P (Builtin.append_ #[t,t] ty #[v,.slice a 0 c]) h K:=by
 unfold apC at hi
 cases hi1:P.info? e with
 | none=>simp[hi1] at hi
 | some i =>
  refine vv_of_run (v:=v) (fun w=>?_) hk
  rcases hv.2 with ⟨rfl,rfl⟩ | ⟨g,cap,cur,rfl,_,hnc,_⟩
  ·cases a<;>simp[Builtin.append_,run_underlying ht,sizeOf,typeInfo,hi1,Builtin.lenOf,Builtin.firstCells,loadCells,loadCellsFrom,storeCells]
  ·cases a<;>simp[Builtin.append_,run_underlying ht,sizeOf,typeInfo,hi1,Builtin.lenOf,Builtin.firstCells,hnc,storeCells,loadCells,loadCellsFrom]
theorem cels_add {h:Heap}{b:Nat}:∀ {n m o:Nat} {l l':List Value},cels h b o n=some l→cels h b (o+n) m=some l'→cels h b o (n+m)=some (l++l')
 | 0,m,o,l,l',h1,h2=>by simp only[cels,Option.some.injEq] at h1; subst h1; simpa using h2
 | n+1,m,o,l,l',h1,h2=>by
  simp only[cels] at h1
  cases hc:cel h b o with
  | none=>simp[hc] at h1
  | some v =>
   cases hr:cels h b (o+1) n with
   | none=>simp[hc,hr] at h1
   | some r =>
    simp only[hc,hr,Option.some.injEq] at h1
    subst h1
    have:=cels_add (m:=m) hr (by rw[show o+1+n=o+(n+1) by omega]; exact h2)
    rw[show n+1+m=(n+m)+1 by omega]
    simp only[cels,hc,this]
    rfl
theorem cels_flat {α:Type}{sz:Nat}{enc:α→List Value}{h:Heap}{b:Nat}:∀ {xs:List α} {o:Nat},(∀ i (hi:i<xs.length),cels h b (o+i*sz) sz=some (enc xs[i]))→cels h b o (xs.length*sz)=some (xs.flatMap enc)
 | [],o,_=>by simp[cels]
 | x::xs,o,hx=>by
  have h0:=hx 0 (by simp)
  have hr:=cels_flat (xs:=xs) (o:=o+sz) (fun i hi=>by have:=hx (i+1) (by simp; omega); rw[Nat.add_mul] at this; rw[show o+sz+i*sz=o+(i*sz+1*sz) by omega]; simpa using this)
  simp only[Nat.zero_mul,Nat.add_zero,List.getElem_cons_zero] at h0
  have:=cels_add h0 hr
  rw[List.length_cons,Nat.add_mul,Nat.add_comm,Nat.one_mul]
  simpa using this
theorem app_sl {α:Type}{P:Program}{t ty e:TypeId}{sz bytes:Nat}{enc:α→List Value}{R:Heap→List Value→α→Prop}{v x:Value}{n:Nat}{xs:List Value}{ys:List α}{h:Heap}
  (ht:P.underlying t=some (.slice e)) (hi:apC P e=some (sz,bytes,sz)) (hsz:0<sz) (hv:Row sz e h v n xs) (hR:∀ {h c y},R h c y→c=enc y) (hx:Sl sz R h x ys) (h1:∀ y,∀ u∈enc y,u.oneCell'=true)
  (h63:n+ys.length≤maxLen) (hby:(n+ys.length)*bytes≤140737488355328)
  (hk:∀ v' h',Row sz e h' v' (n+ys.length) (xs++ys.flatMap enc)→Keep (rowOf v) h h'→(rowOf v'=rowOf v∨∃ b,rowOf v'=some b∧h b=none)→K v' h') :
  vvM P (Builtin.append_ #[t,t] ty #[v,x]) h K:=by
 rcases hx with ⟨rfl,a,c,rfl⟩ | ⟨b,o,cap,rfl,h2,h3,h4⟩
 ·exact app_none ht hi hv (hk v h (by simpa using hv) (fun _ _ e _=>e) (.inl rfl))
 ·refine app_intro ht hi hsz hv (news:=ys.flatMap enc) (cels_flat fun i hi=>?_) (fun u hu=>?_) h63 hby hk
  ·obtain⟨c,h5,h6⟩:=h4 i hi
   rw[h5,hR h6]
  ·obtain⟨y,_,hy⟩:=List.mem_flatMap.1 hu
   exact h1 y u hy
theorem Row.slE {α:Type}{enc:α→List Value}{sz:Nat}{R:Heap→List Value→α→Prop}{e:TypeId}{h:Heap}{v:Value}{xs:List α}(henc:∀ x,(enc x).length=sz)(hR:∀ x,R h (enc x) x)
  (r:Row sz e h v xs.length (xs.flatMap enc)):Sl sz R h v xs:=Row.sl henc hR r
@[simp] theorem bin_rem (t:Nat)(c:Bool)(k:IntKind)(a b:Int)(hb:b≠0):binV .rem t c (.int k a) (.int k b)=some (.int k (a.tmod b)):=by simp[binV,intV,hb]
@[simp] theorem bin_quo (t:Nat)(c:Bool)(k:IntKind)(a b:Int)(hb:b≠0):binV .quo t c (.int k a) (.int k b)=some (.int k (k.wrap (a.tdiv b))):=by simp[binV,intV,hb]
theorem tmod_pos {a b:Int}(h:0≤a):a.tmod b=a % b:=Int.tmod_eq_emod_of_nonneg h
theorem tmod_rng (a:Int){b:Int}(hb:0<b):-b<a.tmod b∧a.tmod b<b:=⟨Int.lt_tmod_of_pos a hb,Int.tmod_lt_of_pos a hb⟩
theorem loop_on {body:List Nat→Env→Heap→Post→Prop}{m:List Nat}{s0:Env}{h0:Heap}{Q:Post}(fix:List Nat)(I:Env→Heap→Prop)(μ:Env→Heap→Nat)(hi:I s0 h0)
  (hr:∀ s h,(∀ i∈fix,s i=s0 i)→I s h→body m s h (lpM (fun m' s h=>m'=m∧(∀ i∈fix,s i=s0 i)∧I s h) μ s h Q)):loopM body m s0 h0 Q :=
 loop_intro (fun m' s h=>m'=m∧(∀ i∈fix,s i=s0 i)∧I s h) μ ⟨rfl,fun _ _=>rfl,hi⟩ fun m' s h ⟨e,hf,hi⟩=>by subst e; exact hr s h hf hi
theorem seqM_eq (A:Post→Prop)(K:List Nat→Env→Heap→Prop)(Q:Post):seqM A K Q=A (thenM K Q):=rfl
@[simp] theorem envOf_get (l:List Value)(i:Nat):envOf l i=(l[i]?).getD undef:=by unfold envOf; cases l[i]?<;>rfl
@[simp] theorem puts_env (l:List (Nat × Value))(s:Env)(i:Nat):puts s l i=(lk l i).getD (s i):=puts_lk l s i
end Go.Den
namespace Go.Den
open Go
def eqFs (P:Program)(eq:TypeId→Value→Value→Option Bool)(xs ys:Array Value):List Field→Option Bool
 | []=>some true
 | f :: fs => if f.name = "_" then eqFs P eq xs ys fs else match fdV ((tagg P f.type).map fun k => (k, f.offset)) (.agg xs), fdV ((tagg P f.type).map fun k => (k, f.offset)) (.agg ys) with
  | some a,some b=>match eq f.type a b,eqFs P eq xs ys fs with
   | some r,some q=>some (r && q)
   | _,_=>none
  | _,_=>none
def eqS (P:Program):Nat→TypeId→Value→Value→Option Bool
 | 0,_,_,_=>none
 | d+1,t,x,y=>match P.underlying t,x,y with
  | some .bool,.bool a,.bool b=>some (a == b)
  | some (.int _),.int k a,.int k' b=>if k=k' then some (a == b) else none
  | some .string,.string a,.string b=>some (a.toList == b.toList)
  | some (.struct fs),.agg xs,.agg ys=>if P.stoodInHeld t then none else eqFs P (eqS P d) xs ys fs.toList
  | _,_,_=>none
theorem run_eqS {P:Program}:∀ {d n:Nat} {t:TypeId} {x y:Value} {b:Bool} {w:World},d≤n→eqS P d t x y=some b→(Op.equalIn n t x y).run P w = .ok b w:=by
 intro d
 induction d with
 | zero=>intro n t x y b w _ h; simp[eqS] at h
 | succ d ih =>
  intro n t x y b w hn h
  obtain⟨m,rfl⟩:∃ m,n=m+1:=⟨n-1,by omega⟩
  unfold eqS at h
  split at h
  ·rename_i hu; simp only[Option.some.injEq] at h; subst h; simp[Op.equalIn,run_underlying hu]
  ·rename_i hu
   split at h
   ·simp only[Option.some.injEq] at h; subst_vars; simp[Op.equalIn,run_underlying hu]
   ·cases h
  ·rename_i hu; simp only[Option.some.injEq] at h; subst h; simp[Op.equalIn,run_underlying hu,beq_toListBytes]
  ·rename_i fs xs ys hu
   split at h
   ·cases h
   ·rename_i hp
    have hf:P.fieldsOf t=fs:=by simp[Program.fieldsOf,hu]
    rw[run_equalIn_struct w m t xs ys (by rw[hf]; exact hu) (by simpa using hp),hf]
    clear hu hf hp
    generalize fs.toList=l at h
    induction l generalizing b w with
    | nil=>simp only[eqFs,Option.some.injEq] at h; subst h; simp[Op.eqFields]
    | cons f l ihl =>
     unfold eqFs at h
     unfold Op.eqFields
     split at h
     ·rename_i hnm
      simp only[hnm,ne_eq,not_true,if_false]
      exact ihl h
     ·rename_i hnm
      simp only[ne_eq,hnm,not_false_eq_true,if_true]
      split at h
      ·rename_i a c ha hc
       split at h
       ·rename_i r q hr hq
        simp only[Option.some.injEq] at h
        cases ht:tagg P f.type with
        | none=>rw[ht] at ha; simp[fdV] at ha
        | some k =>
         rw[ht] at ha hc
         simp only[Option.map_some] at ha hc
         have h1:=run_part (w:=w) ht ha
         have h2:=run_part (w:=w) ht hc
         have h3:=ih (w:=w) (n:=m) (by omega) hr
         simp only[Sem.run_bind,h1,h2,h3,Result.andThen_ok]
         cases r
         ·simp at h; subst h; simp
         ·simp at h; subst h; simp; exact ihl hq
       ·cases h
      ·cases h
  ·cases h
theorem pv_eq {P:Program}{S:Sem Value}{v:Value}{K:Value→Prop}(h:∀ w,S.run P w = .ok v w):pvM P S K=K v:=by
 refine propext ⟨fun ⟨u,hu,hk⟩=>?_,fun hk=>⟨v,h,hk⟩⟩
 have:=(h default).symm.trans (hu default)
 simp only[Result.ok.injEq,and_true] at this
 subst this; exact hk
theorem pv_neq {P:Program}{t:TypeId}{x y:Operand}{xs ys:Array Value}{b:Bool}{d:Nat}{K:Value→Prop}(he:eqS P d t (.agg xs) (.agg ys)=some b)(hd:d≤10000)(hg:P.eqGuardType P.depth t=false) :
  pvM P (do eqGuard .neq t x y (.agg xs) (.agg ys); binOp .neq t (.agg xs) (.agg ys)) K=K (.bool (!b)) :=
 pv_eq fun w=>by simp only[Sem.run_bind,run_eqGuard_agg w _ t x y xs ys hg,Result.andThen_ok,run_neq_struct,run_eqS hd he]
@[congr] theorem pvM_cong {P:Program} {S S':Sem Value} {K:Value→Prop} (h:S=S'):pvM P S K=pvM P S' K:=by rw[h]
end Go.Den
namespace Go.Den
open Go
variable {K:KTy}
theorem nx_fn {P:Program}{g:Nat→Bool}(hg:GoodP P g){f:FuncId}(hf:g f=true){args cap:Array Value}{h:Heap}(hd:callM P f (args++cap) h K) :
  nxM P (do let d ← Deferred.ofValue (.func (.func f) #[] cap) args; invoke d.target d.args) h K:=by
 intro w hw
 obtain⟨fn,h1,h2,h3⟩:=hg f hf
 refine .inr (.inr (.inl ⟨f,args++cap,w,?_,Okw.refl w,by rw[hw]; exact hd⟩))
 have h3' : ¬ fn.name = "runtime.NumGoroutine" := by simpa using h3
 have h2':¬ fn.body=none:=by intro hb; simp[hb] at h2
 simp[Deferred.ofValue,invoke,callFunc,h1,h2',h3']
end Go.Den
namespace Go.Den
open Go
variable {P:Program}{g:Nat→Bool}
def rfs:Code→List (Code × Code)
 | .seq a b=>rfs a++rfs b
 | .cond _ x y=>rfs x++rfs y
 | .block _ c=>rfs c
 | .scope c=>rfs c
 | .loop c=>rfs c
 | .rangeFunc _ _ x y=>[(x,y)]
 | _=>[]
def rfOf (P:Program)(f:Nat):List (Code × Code):=match P.funcs[f]? with
 | some fn=>match fn.body with
  | some c=>rfs c
  | none=>[]
 | none=>[]
def rfA (P:Program)(f k:Nat):Code:=((rfOf P f).getD k (.skip,.skip)).1
def rfB (P:Program)(f k:Nat):Code:=((rfOf P f).getD k (.skip,.skip)).2
def endM (l:Nat)(K:KTy):Post:=fun e _ _ h=>∃ r:Loop,h l=some (.loop r)∧match e with
 | .normal=>K (.bool true) (upd h l (.loop { r with state:=.ready,pending:=none }))
 | .ret=>K (.bool false) (upd h l (.loop { r with state:=.done,pending:=some .ret }))
 | .exit id=>K (.bool false) (upd h l (.loop { r with state:=.done,pending:=some (.exit id) }))
 | _=>False
variable {K:KTy}
theorem nx_yield {l:Nat}{r:Loop}{args:Array Value}{h:Heap}(hl:h l=some (.loop r))(hs:args.size=r.params.size)
  (hd:roundM P l r.fn ((r.params.zip args).foldl (fun tmps (t,a)=>tmps.setIfInBounds t a) r.tmps) r.assign r.body h K) :
  nxM P (do let d ← Deferred.ofValue (.func (.yield l) #[] #[]) args; invoke d.target d.args) h K:=by
 intro w hw
 have hl':w.heap[l]?=some (.loop r):=by rw[← hw] at hl; exact hl
 have hy:=run_yield (P:=P) hl' hs
 refine .inr (.inr (.inr ⟨l,r.fn,_,r.assign,r.body,w,?_,Okw.refl w,by rw[hw]; exact hd⟩))
 simp[Deferred.ofValue,invoke,hy]
end Go.Den
namespace Go.Den
open Go
set_option linter.unusedVariables false
abbrev Tag:=List Nat
abbrev Tags:=Nat→Tag
def fz (T:Tags)(h:Heap):Heap:=fun b=>if T b=[] then h b else none
def Wf (T:Tags)(h:Heap):Prop:=∀ b,h b=none→T b=[]
def pre (g t:Tag):Prop:=g <+: t
def non (_:Tag):Prop:=False
def two (U V:Tag→Prop)(t:Tag):Prop:=U t∨V t
structure Only (U:Tag→Prop)(T:Tags)(h:Heap)(T':Tags)(h':Heap):Prop where
 wf:Wf T' h'
 tg:∀ b o,h b=some o→T' b=T b
 al:∀ b o,h b=some o→∃ o',h' b=some o'
 kp:∀ b o,h b=some o→¬ U (T b)→h' b=some o
theorem Only.refl {U:Tag→Prop}{T:Tags}{h:Heap}(w:Wf T h):Only U T h T h:=⟨w,fun _ _ _=>rfl,fun _ o e=>⟨o,e⟩,fun _ _ e _=>e⟩
theorem Only.trans {U:Tag→Prop}{T T' T'':Tags}{h h' h'':Heap}(x:Only U T h T' h')(y:Only U T' h' T'' h''):Only U T h T'' h'' :=
 ⟨y.wf,fun b o e=>by obtain⟨o',e'⟩:=x.al b o e; rw[y.tg b o' e',x.tg b o e],fun b o e=>by obtain⟨o',e'⟩:=x.al b o e; exact y.al b o' e',
  fun b o e n=>y.kp b o (x.kp b o e n) (by rw[x.tg b o e]; exact n)⟩
theorem Only.mono {U V:Tag→Prop}{T T':Tags}{h h':Heap}(x:Only U T h T' h')(m:∀ t,U t→V t):Only V T h T' h':=⟨x.wf,x.tg,x.al,fun b o e n=>x.kp b o e (fun u=>n (m _ u))⟩
def Kp (U:Tag→Prop)(T:Tags)(h:Heap)(T':Tags)(h':Heap):Prop:=∀ b o,h b=some o→¬ U (T b)→T' b=T b∧h' b=some o
theorem Only.k {U:Tag→Prop}{T T':Tags}{h h':Heap}(x:Only U T h T' h'):Kp U T h T' h':=fun b o e n=>⟨x.tg b o e,x.kp b o e n⟩
theorem Kp.ext {U:Tag→Prop}{T T':Tags}{h h':Heap}(x:Kp U T h T' h')(u:¬ U []):Ext (fz T h) (fz T' h'):=fun b o e=>by
 unfold fz at e ⊢
 split at e
 ·rename_i ht
  obtain⟨h1,h2⟩:=x b o e (by rw[ht]; exact u)
  rw[h1,if_pos ht,h2]
 ·cases e
theorem Only.ext {U:Tag→Prop}{T T':Tags}{h h':Heap}(x:Only U T h T' h')(u:¬ U []):Ext (fz T h) (fz T' h'):=x.k.ext u
theorem Kp.at {U:Tag→Prop}{T T':Tags}{h h':Heap}(x:Kp U T h T' h'){b:Nat}{o:Obj}{t:Tag}(e:h b=some o)(ht:T b=t)(n:¬ U t):h' b=some o∧T' b=t:=by
 obtain⟨h1,h2⟩:=x b o e (by rw[ht]; exact n)
 exact⟨h2,by rw[h1,ht]⟩
theorem Only.of_ext {U:Tag→Prop}{T:Tags}{h h':Heap}(w:Wf T h)(e:Ext h h'):Only U T h T h' :=
 ⟨fun b n=>w b (by cases hb:h b with | none=>rfl | some o=>rw[e b o hb] at n; cases n),fun _ _ _=>rfl,fun b o x=>⟨o,e b o x⟩,fun b o x _=>e b o x⟩
def tset (T:Tags)(b:Nat)(t:Tag):Tags:=fun k=>if k=b then t else T k
@[simp] theorem tset_same (T:Tags)(b:Nat)(t:Tag):tset T b t b=t:=by simp[tset]
theorem tset_ne {T:Tags}{b k:Nat}{t:Tag}(h:k≠b):tset T b t k=T k:=by simp[tset,h]
theorem Only.new {U:Tag→Prop}{T:Tags}{h:Heap}{b:Nat}{o:Obj}(t:Tag)(w:Wf T h)(n:h b=none):Only U T h (tset T b t) (upd h b o):=by
 have hne:∀ k x,h k=some x→k≠b:=fun k x e hk=>by subst hk; rw[n] at e; cases e
 refine⟨fun k hk=>?_,fun k x e=>tset_ne (hne k x e),fun k x e=>⟨x,by rw[upd_ne (hne k x e)]; exact e⟩,fun k x e _=>by rw[upd_ne (hne k x e)]; exact e⟩
 by_cases hkb:k=b
 ·subst hkb; rw[upd_same'] at hk; cases hk
 ·rw[upd_ne hkb] at hk; rw[tset_ne hkb]; exact w k hk
theorem Only.upd {U:Tag→Prop}{T:Tags}{h:Heap}{b:Nat}{o o':Obj}(w:Wf T h)(e:h b=some o)(u:U (T b)):Only U T h T (upd h b o'):=by
 refine⟨fun k hk=>?_,fun _ _ _=>rfl,fun k x ek=>?_,fun k x ek n=>?_⟩
 ·by_cases hkb:k=b
  ·subst hkb; rw[upd_same'] at hk; cases hk
  ·rw[upd_ne hkb] at hk; exact w k hk
 ·by_cases hkb:k=b
  ·subst hkb; exact⟨_,upd_same' _ _ _⟩
  ·exact⟨x,by rw[upd_ne hkb]; exact ek⟩
 ·by_cases hkb:k=b
  ·subst hkb; exact absurd u n
  ·rw[upd_ne hkb]; exact ek
theorem fz_ext (T:Tags)(h:Heap):Ext (fz T h) h:=fun b o e=>by
 unfold fz at e
 split at e
 ·exact e
 ·cases e
theorem fz_nil (h:Heap):fz (fun _=>[]) h=h:=by funext b; simp[fz]
theorem wf_nil (h:Heap):Wf (fun _=>[]) h:=fun _ _=>rfl
theorem fz_at {T:Tags}{h:Heap}{b:Nat}{o:Obj}(e:h b=some o)(t:T b=[]):fz T h b=some o:=by simp[fz,t,e]
theorem fz_new {T:Tags}{h h':Heap}{b:Nat}{o:Obj}(w:Wf T h)(n:h b=none)(e:h' b=some o):fz T h' b=some o:=fz_at e (w b n)
theorem fz_of_ext {T:Tags}{h h':Heap}(e:Ext h h'):Ext (fz T h) (fz T h'):=fun b o x=>by
 unfold fz at x ⊢
 split at x
 ·rename_i t; rw[if_pos t]; exact e b o x
 ·cases x
theorem Wf.ext {T:Tags}{h h':Heap}(w:Wf T h)(e:Ext h h'):Wf T h':=(Only.of_ext (U:=non) w e).wf
theorem okw_al {w w':World}(o:Okw w w'):∀ b x,abs w b=some x→∃ x',abs w' b=some x':=fun b x e=>by
 have hb:b<w.heap.size:=(Array.getElem?_eq_some_iff.1 e).1
 exact⟨w'.heap[b]'(Nat.lt_of_lt_of_le hb o.size),by simp[abs,Nat.lt_of_lt_of_le hb o.size]⟩
variable {K:KTy}
theorem vv_al {P:Program}{S:Sem Value}{h:Heap}(x:vvM P S h fun v h'=>(∀ b o,h b=some o→∃ o',h' b=some o')→K v h'):vvM P S h K:=fun w hw=>by
 obtain⟨v,w',hr,ho,hk⟩:=x w hw
 refine⟨v,w',hr,ho,hk ?_⟩
 subst hw
 exact okw_al ho
theorem upd_of {h h':Heap}{b:Nat}{o:Obj}(k:∀ c,c≠b→h' c=h c)(e:h' b=some o):h'=upd h b o:=by
 funext c
 by_cases hc:c=b
 ·subst hc; rw[upd_same',e]
 ·rw[upd_ne hc,k c hc]
theorem upd_upd (h:Heap)(b:Nat)(o o':Obj):upd (upd h b o) b o'=upd h b o':=by
 funext c
 by_cases hc:c=b
 ·subst hc; simp only[upd_same']
 ·simp only[upd_ne hc]
def Rw (T:Tags)(h:Heap)(g:Tag)(sz:Nat)(e:TypeId)(v:Value)(n:Nat)(xs:List Value):Prop:=Row sz e h v n xs∧∀ b,rowOf v=some b→T b=g
theorem Rw.kp {U:Tag→Prop}{T T':Tags}{h h':Heap}{g:Tag}{sz:Nat}{e:TypeId}{v:Value}{n:Nat}{xs:List Value}(r:Rw T h g sz e v n xs)(x:Kp U T h T' h')(u:¬ U g):Rw T' h' g sz e v n xs:=by
 refine⟨r.1.of_at fun b hb=>?_,fun b hb=>?_⟩
 ·obtain⟨o,ho⟩:=r.1.lt b hb
  rw[ho,(x b o ho (by rw[r.2 b hb]; exact u)).2]
 ·obtain⟨o,ho⟩:=r.1.lt b hb
  rw[(x b o ho (by rw[r.2 b hb]; exact u)).1,r.2 b hb]
theorem Rw.nil (T:Tags)(h:Heap)(g:Tag)(sz:Nat)(e:TypeId):Rw T h g sz e (.slice none 0 0) 0 []:=⟨⟨by simp,.inl ⟨rfl,rfl⟩⟩,fun b hb=>by simp[rowOf] at hb⟩
theorem Rw.len {T:Tags}{h:Heap}{g:Tag}{sz:Nat}{e:TypeId}{v:Value}{n:Nat}{xs:List Value}(r:Rw T h g sz e v n xs):lnV 7 v=some (.int .i64 n):=by
 rcases r.1.2 with ⟨rfl,rfl⟩ | ⟨b,cap,cur,rfl,_⟩<;>rfl
theorem Rw.app0 {P:Program}{t ty e:TypeId}{sz bytes m c o:Nat}{g:Tag}{v:Value}{n b:Nat}{xs news:List Value}{T:Tags}{h:Heap}
  (ht:P.underlying t=some (.slice e)) (hi:apC P e=some (sz,bytes,sz)) (hsz:0<sz) (w:Wf T h) (hv:Rw T h g sz e v n xs) (hb:cels h b o (m*sz)=some news) (h1:∀ u∈news,u.oneCell'=true)
  (h63:n+m≤maxLen) (hby:(n+m)*bytes≤140737488355328)
  (hk:∀ v' T' h',Only (fun t=>t=g) T h T' h'→Rw T' h' g sz e v' (n+m) (xs++news)→(rowOf v'=rowOf v∨∃ b,rowOf v'=some b∧h b=none)→K v' h') :
  vvM P (Builtin.append_ #[t,t] ty #[v,.slice (some ⟨b,o,none⟩) m c]) h K:=by
 refine vv_al ?_
 refine app_intro ht hi hsz hv.1 hb h1 h63 hby fun v' h' hr hkp ha hal=>?_
 have hrow:∀ k,rowOf v=some k→T k=g:=hv.2
 rcases ha with ha | ⟨k,ha,hn⟩
 ·refine hk v' T h' ⟨fun k hk0=>?_,fun _ _ _=>rfl,fun k o e=>hal k o e,fun k o e n=>hkp k o e (fun hh=>n (hrow k hh.symm))⟩ ⟨hr,fun k hk0=>hrow k (by rw[← ha]; exact hk0)⟩ (.inl ha)
  cases hh:h k with
  | none=>exact w k hh
  | some o=>obtain⟨o',ho'⟩:=hal k o hh; rw[ho'] at hk0; cases hk0
 ·have hne:∀ j o,h j=some o→j≠k:=fun j o e hj=>by subst hj; rw[hn] at e; cases e
  refine hk v' (tset T k g) h' ⟨fun j hj=>?_,fun j o e=>tset_ne (hne j o e),fun j o e=>hal j o e,fun j o e n=>hkp j o e (fun hh=>n (hrow j hh.symm))⟩ ⟨hr,fun j hj=>?_⟩ (.inr ⟨k,ha,hn⟩)
  ·have hjk:j≠k:=fun e=>by
    subst e
    obtain⟨o,ho⟩:=hr.lt j ha
    rw[ho] at hj; cases hj
   rw[tset_ne hjk]
   cases hh:h j with
   | none=>exact w j hh
   | some o=>obtain⟨o',ho'⟩:=hal j o hh; rw[ho'] at hj; cases hj
  ·rw[ha] at hj
   simp only[Option.some.injEq] at hj
   subst hj
   simp
theorem Rw.app1 {P:Program}{t ty e:TypeId}{sz bytes m c o:Nat}{g:Tag}{v:Value}{n b:Nat}{xs news:List Value}{T:Tags}{h:Heap}
  (ht:P.underlying t=some (.slice e)) (hi:apC P e=some (sz,bytes,sz)) (hsz:0<sz) (w:Wf T h) (hv:Rw T h g sz e v n xs) (hb:cels h b o (m*sz)=some news) (h1:∀ u∈news,u.oneCell'=true)
  (h63:n+m≤maxLen) (hby:(n+m)*bytes≤140737488355328)
  (hk:∀ v' T' h',Only (fun t=>t=g) T h T' h'→Rw T' h' g sz e v' (n+m) (xs++news)→K v' h') :
  vvM P (Builtin.append_ #[t,t] ty #[v,.slice (some ⟨b,o,none⟩) m c]) h K :=
 Rw.app0 ht hi hsz w hv hb h1 h63 hby fun v' T' h' o r _=>hk v' T' h' o r
theorem Rw.app {P:Program}{t ty e:TypeId}{sz bytes:Nat}{z:Array Value}{g:Tag}{v x:Value}{n:Nat}{xs:List Value}{T:Tags}{h:Heap}{K:Value→Value→Heap→Prop}
  (hb:bsI P t=some (e,sz,z)) (ht:P.underlying t=some (.slice e)) (hi:apC P e=some (sz,bytes,sz)) (hsz:0<sz) (hx:x.cells.size=sz) (h1:∀ u∈x.cells.toList,u.oneCell'=true) (w:Wf T h)
  (hv:Rw T h g sz e v n xs) (h63:n+1≤maxLen) (hby:(n+1)*bytes≤140737488355328) (hs:sz≤16777216) (hg:g≠[])
  (hk:∀ a v' T' h',Only (fun t=>t=g) T h T' h'→Rw T' h' g sz e v' (n+1) (xs++x.cells.toList)→K a v' h') :
  bsM (bsI P t) 1 [(0,x)] h fun a h'=>vvM P (Builtin.append_ #[t,t] ty #[v,a]) h' (K a):=by
 refine bs_one hb hx hs fun b h1' hbn he hc=>?_
 have o1:Only (fun t=>t=g) T h T h1':=Only.of_ext w he
 exact Rw.app1 ht hi hsz o1.wf (hv.kp (U:=non) (Only.of_ext w he).k (fun h=>h)) (cels_one hc hx) h1 h63 hby fun v' T' h' o2 hr=>hk _ v' T' h' (o1.trans o2) hr
end Go.Den
namespace Go.Den
open Go
set_option linter.unusedVariables false
theorem stC_eq {b:Nat}{e:TypeId}:∀ {l:List Value} {o:Nat} {h:Heap} {c:Array Value} {K:Heap→Prop},h b=some (.cells c e (0,0))→o+l.length≤c.size→(∀ v∈l,v.oneCell'=true) →
  stC b o l h K=K (upd h b (.cells (over c o l) e (0,0)))
 | [],o,h,c,K,hb,_,_=>by
  have:h=upd h b (.cells c e (0,0)):=upd_of (fun _ _=>rfl) hb
  simp only[stC,over]
  rw[← this]
 | v::l,o,h,c,K,hb,hs,h1=>by
  simp only[List.length_cons] at hs
  have hlt:o<c.size:=by omega
  have hc:cel h b o=some c[o]:=by simp[cel,hb,hlt]
  have hf:frz h b o=false:=by simp[frz,hb]
  have hv:v.oneCell'=true:=h1 v (by simp)
  simp only[stC,hc,hf,hv,true_and]
  rw[stC_eq (cset_at hb) (by simp; omega) (fun u hu=>h1 u (by simp[hu]))]
  have:upd (cset h b o v) b (.cells (over (c.setIfInBounds o v) (o+1) l) e (0,0))=upd h b (.cells (over (c.setIfInBounds o v) (o+1) l) e (0,0)):=by
   funext k
   by_cases hk:k=b
   ·subst hk; simp only[upd_same']
   ·rw[Den.upd_ne hk,upd_ne hk,cset_other hk]
  rw[this]; rfl
theorem stm_at {n b o:Nat}{e:TypeId}{v:Value}{h:Heap}{c:Array Value}{K:Heap→Prop}(hb:h b=some (.cells c e (0,0)))(hn:v.cells.size=n)(hs:o+n≤c.size)(h1:v.cells.toList.all (fun u=>u.oneCell')=true) :
  stM (some n) (.pointer (some ⟨b,o,none⟩)) v h K=K (upd h b (.cells (over c o v.cells.toList) e (0,0))):=by
 simp only[stM,hn,true_and]
 exact stC_eq hb (by simp; omega) (List.all_eq_true.1 h1)
theorem stm_upd {n b o:Nat}{e:TypeId}{v:Value}{h:Heap}{c:Array Value}{K:Heap→Prop}(hn:v.cells.size=n)(hs:o+n≤c.size)(h1:v.cells.toList.all (fun u=>u.oneCell')=true) :
  stM (some n) (.pointer (some ⟨b,o,none⟩)) v (upd h b (.cells c e (0,0))) K=K (upd h b (.cells (over c o v.cells.toList) e (0,0))):=by
 rw[stm_at (upd_same' _ _ _) hn hs h1,upd_upd]
theorem cset_upd {h:Heap}{b b' o:Nat}{v:Value}{o':Obj}(hb:b≠b'):cset (upd h b' o') b o v=upd (cset h b o v) b' o':=by
 funext k
 unfold cset
 by_cases hk:k=b
 ·subst hk
  simp only[if_true,upd_ne hb]
 ·simp only[hk,if_false]
  by_cases hk':k=b'
  ·subst hk'; simp only[upd_same']
  ·simp only[upd_ne hk',if_neg hk]
theorem cel_skip {h:Heap}{b b' o:Nat}{o':Obj}(hb:b≠b'):cel (upd h b' o') b o=cel h b o:=by simp only[cel,upd_ne hb]
theorem frz_skip {h:Heap}{b b' o:Nat}{o':Obj}(hb:b≠b'):frz (upd h b' o') b o=frz h b o:=by simp only[frz,upd_ne hb]
theorem cels_skip {h:Heap}{b b':Nat}{o':Obj}(hb:b≠b'):∀ {n o:Nat},cels (upd h b' o') b o n=cels h b o n
 | 0,_=>rfl
 | n+1,o=>by simp only[cels,cel_skip hb,cels_skip hb]
theorem stC_skip {b b':Nat}{o':Obj}(hb:b≠b'):∀ {l:List Value} {o:Nat} {h:Heap} {K:Heap→Prop},stC b o l (upd h b' o') K=stC b o l h (fun h=>K (upd h b' o'))
 | [],o,h,K=>rfl
 | v::l,o,h,K=>by
  simp only[stC,cel_skip hb,frz_skip hb,cset_upd hb]
  cases cel h b o with
  | none=>rfl
  | some x=>simp only[stC_skip hb]
theorem stm_skip {n b b' o:Nat}{v:Value}{h:Heap}{o':Obj}{K:Heap→Prop}(hb:b≠b') :
  stM (some n) (.pointer (some ⟨b,o,none⟩)) v (upd h b' o') K=stM (some n) (.pointer (some ⟨b,o,none⟩)) v h (fun h=>K (upd h b' o')):=by
 simp only[stM,stC_skip hb]
theorem cel_same {h:Heap}{b o:Nat}{c:Array Value}{e:TypeId}{f:Nat × Nat}:cel (upd h b (.cells c e f)) b o=c[o]?:=cel_of (upd_same' _ _ _) o
theorem ext_upd {h h':Heap}{b:Nat}{o:Obj}(hb:h b=none)(e:Ext h h'):Ext h (upd h' b o):=fun k x hk=>by
 have:k≠b:=fun hkb=>by subst hkb; rw[hb] at hk; cases hk
 rw[Den.upd_ne this]; exact e k x hk
abbrev lc:Tag:=[0]
def Gd (g:Tag):Prop:=∃ k r,g=(k+1)::r
theorem Gd.nil {g:Tag}(x:Gd g):¬ pre g []:=by obtain⟨k,r,rfl⟩:=x; simp[pre]
theorem Gd.nlc {g:Tag}(x:Gd g):¬ pre g lc:=by obtain⟨k,r,rfl⟩:=x; simp[pre,List.cons_prefix_cons]
theorem Gd.app {g:Tag}(x:Gd g)(s:Tag):Gd (g++s):=by obtain⟨k,r,rfl⟩:=x; exact⟨k,r++s,rfl⟩
def Off (U:Tag→Prop)(g:Tag):Prop:=∀ t,pre g t→¬ U t
theorem Off.app {U:Tag→Prop}{g:Tag}(x:Off U g)(s:Tag):Off U (g++s):=fun t ht=>x t (by obtain⟨r,rfl⟩:=ht; exact⟨s++r,by simp⟩)
theorem Off.at {U:Tag→Prop}{g:Tag}(x:Off U g)(s:Tag):¬ U (g++s):=x _ ⟨s,rfl⟩
theorem Off.self {U:Tag→Prop}{g:Tag}(x:Off U g):¬ U g:=x _ ⟨[],by simp⟩
theorem Gd.off {g:Tag}(x:Gd g):Off (fun t=>t=lc) g:=fun t ht e=>x.nlc (e▸ht)
theorem Off.non (g:Tag):Off non g:=fun _ _ h=>h
theorem not_pre {g x y:Tag}(h:¬ x <+: y):¬ pre (g++x) (g++y):=fun p=>h ((List.prefix_append_right_inj g).1 p)
theorem off_pre {g x y:Tag}(h:¬ x <+: y)(h':¬ y <+: x):Off (pre (g++x)) (g++y):=fun t hy hx=>by
 rcases Nat.le_total (g++x).length (g++y).length with hl | hl
 ·exact h ((List.prefix_append_right_inj g).1 (List.prefix_of_prefix_length_le hx hy hl))
 ·exact h' ((List.prefix_append_right_inj g).1 (List.prefix_of_prefix_length_le hy hx hl))
theorem off_eq {g x y:Tag}(h':¬ y <+: x):Off (fun t=>t=g++x) (g++y):=fun t hy hx=>by
 subst hx
 exact h' ((List.prefix_append_right_inj g).1 hy)
theorem ne_tag {g x y:Tag}(h:x≠y):¬ (g++x=g++y):=fun e=>h (List.append_cancel_left e)
theorem app_ne {g:Tag}(a:Nat)(s:Tag):g++(a::s)≠[]:=by simp
theorem pre_app (g s:Tag):pre g (g++s):=⟨s,rfl⟩
theorem pre_trans {g s t:Tag}(h:pre (g++s) t):pre g t:=by obtain⟨r,rfl⟩:=h; exact⟨s++r,by simp⟩
theorem Only.own {U:Tag→Prop}{T T':Tags}{h h':Heap}(x:Only U T h T' h'){b:Nat}{o o':Obj}(n:h b=none)(e:h' b=some o):Only U T h T' (Den.upd h' b o'):=by
 have hne:∀ k z,h k=some z→k≠b:=fun k z ez hk=>by subst hk; rw[n] at ez; cases ez
 refine⟨fun k hk=>?_,x.tg,fun k z ek=>?_,fun k z ek u=>by rw[Den.upd_ne (hne k z ek)]; exact x.kp k z ek u⟩
 ·by_cases hkb:k=b
  ·subst hkb; rw[upd_same'] at hk; cases hk
  ·rw[Den.upd_ne hkb] at hk; exact x.wf k hk
 ·obtain⟨z',hz⟩:=x.al k z ek
  exact⟨z',by rw[Den.upd_ne (hne k z ek)]; exact hz⟩
theorem Only.st {U:Tag→Prop}{T T':Tags}{h h':Heap}(x:Only U T h T' h'){b:Nat}{o o':Obj}(e:h' b=some o)(u:U (T' b)):Only U T h T' (Den.upd h' b o'):=x.trans (Only.upd x.wf e u)
theorem Only.fresh {U:Tag→Prop}{T T':Tags}{h h':Heap}(x:Only U T h T' h'){b:Nat}(n:h' b=none):h b=none:=by
 cases hb:h b with
 | none=>rfl
 | some o=>obtain⟨o',e⟩:=x.al b o hb; rw[n] at e; cases e
theorem over_map1 {G:Nat→Value}{n i:Nat}{x:Value}(hi:i<n):over ((List.range n).map G).toArray i [x]=((List.range n).map fun k=>if k=i then x else G k).toArray:=by
 apply Array.ext_getElem?
 intro k
 rw[over_get _ _ _ (by simp; omega)]
 by_cases hk:k=i
 ·subst hk; simp[hi]
 ·have:¬ (i≤k∧k<i+1):=by omega
  by_cases hkn:k<n
  ·simp[this,hkn,hk]
  ·simp[this,hkn]
def One (v:Value):Prop:=v.oneCell'=true∧v.cells=#[v]
theorem Sl.one {α:Type}{sz:Nat}{R:Heap→List Value→α→Prop}{h:Heap}{v:Value}{xs:List α}(x:Sl sz R h v xs):One v:=by
 rcases x with ⟨rfl,a,c,rfl⟩ | ⟨b,o,cap,rfl,_⟩<;>exact⟨rfl,rfl⟩
theorem Row.one {sz:Nat}{e:TypeId}{h:Heap}{v:Value}{n:Nat}{xs:List Value}(r:Row sz e h v n xs):One v:=by
 rcases r.2 with ⟨rfl,_⟩ | ⟨g,cap,cur,rfl,_⟩<;>exact⟨rfl,rfl⟩
theorem Rw.one {T:Tags}{h:Heap}{g:Tag}{sz:Nat}{e:TypeId}{v:Value}{n:Nat}{xs:List Value}(r:Rw T h g sz e v n xs):One v:=r.1.one
@[simp] theorem one_i (k:IntKind)(n:Int):(Value.int k n).oneCell'=true:=rfl
@[simp] theorem one_s (s:ByteArray):(Value.string s).oneCell'=true:=rfl
@[simp] theorem one_b (b:Bool):(Value.bool b).oneCell'=true:=rfl
@[simp] theorem one_p (a:Option Addr):(Value.pointer a).oneCell'=true:=rfl
@[simp] theorem one_sl (a:Option Addr)(n c:Nat):(Value.slice a n c).oneCell'=true:=rfl
@[simp] theorem one_mp (a:Option Nat):(Value.map a).oneCell'=true:=rfl
@[simp] theorem cells_i (k:IntKind)(n:Int):(Value.int k n).cells=#[.int k n]:=rfl
@[simp] theorem cells_s (s:ByteArray):(Value.string s).cells=#[.string s]:=rfl
@[simp] theorem cells_b (b:Bool):(Value.bool b).cells=#[.bool b]:=rfl
@[simp] theorem cells_p (a:Option Addr):(Value.pointer a).cells=#[.pointer a]:=rfl
@[simp] theorem cells_sl (a:Option Addr)(n c:Nat):(Value.slice a n c).cells=#[.slice a n c]:=rfl
@[simp] theorem cells_mp (a:Option Nat):(Value.map a).cells=#[.map a]:=rfl
theorem Row.fz {T:Tags}{sz:Nat}{e:TypeId}{h h':Heap}{v:Value}{n:Nat}{xs:List Value}(r:Row sz e h' v n xs)(w:Wf T h)(hr:∀ b,rowOf v=some b→h b=none):Row sz e (fz T h') v n xs :=
 r.of_at fun b hb=>by
  obtain⟨o,ho⟩:=r.lt b hb
  rw[fz_new w (hr b hb) ho,ho]
end Go.Den
namespace Go.Den
open Go
variable {K:KTy}
@[simp] theorem resL_cell {P:Program}{s:Env}{h:Heap}{a t:Nat}{rs:List ResultVar}{L:List Value→Prop}:resL P s h (.cell a t::rs) L=ov (ldV (tagg P t) (s a) h) (fun v=>resL P s h rs (fun l=>L (v::l))):=rfl
theorem kb {h:Heap}{a b:Bool}(hk:K (.bool a) h)(e:a=b):K (.bool b) h:=e▸hk
theorem kv {h:Heap}{a b:Value}(hk:K a h)(e:a=b):K b h:=e▸hk
theorem gM_call0 {c:Bool}{A:KTy→Prop}{h:Heap}{a:Value}(hA:c=true→∀ K':Value→Heap→Prop,K' a h→A K')(hk:K (gdv c a) h):gM c A h K:=by
 cases c
 ·exact hk
 ·exact hA rfl _ hk
end Go.Den
namespace Go.Den
open Go
theorem cels_at {h:Heap}{b:Nat}{c:Array Value}{e:TypeId}{f:Nat × Nat}(hb:h b=some (.cells c e f)):∀ {n o:Nat},cels h b o n=if n=0∨o+n≤c.size then some (c.extract o (o+n)).toList else none
 | 0,o=>by simp[cels]
 | n+1,o=>by
  by_cases hn:o+(n+1)≤c.size
  ·rw[if_pos (.inr hn)]
   exact cels_of hb (by simp[List.extract_eq_take_drop]) (by simp; omega)
  ·rw[if_neg (by omega)]
   cases hc:cels h b o (n+1) with
   | none=>rfl
   | some l =>
    obtain⟨h1,h2⟩:=cels_get hc
    have:=h2 n (by omega)
    rw[cel_of hb] at this
    have:=(Array.getElem?_eq_some_iff.1 this).1
    omega
theorem ld_at {h:Heap}{b:Nat}{c:Array Value}{e:TypeId}{f:Nat × Nat}(hb:h b=some (.cells c e f)){n o:Nat} :
  ldV (some (some n)) (.pointer (some ⟨b,o,none⟩)) h=if n=0∨o+n≤c.size then some (.agg (c.extract o (o+n))) else none:=by
 simp only[ldV,cels_at hb]
 by_cases hn:n=0∨o+n≤c.size
 ·simp only[if_pos hn]
 ·simp only[if_neg hn]
theorem ld_same {h:Heap}{b:Nat}{c:Array Value}{e:TypeId}{f:Nat × Nat}{n o:Nat} :
  ldV (some (some n)) (.pointer (some ⟨b,o,none⟩)) (upd h b (.cells c e f))=if n=0∨o+n≤c.size then some (.agg (c.extract o (o+n))) else none:=ld_at (upd_same' _ _ _)
theorem ld_skip {h:Heap}{b b':Nat}{o':Obj}(hb:b≠b'){k:Option (Option Nat)}{o:Nat}:ldV k (.pointer (some ⟨b,o,none⟩)) (upd h b' o')=ldV k (.pointer (some ⟨b,o,none⟩)) h:=by
 simp only[ldV,cels_skip hb,cel_skip hb]
end Go.Den
namespace Go.Den
open Go
variable {K:KTy}
theorem nw_tag {c:Array Value}{e:TypeId}{h:Heap}{T:Tags}(w:Wf T h)(t:Tag)
  (hk:∀ b T' h',h b=none→Only non T h T' h'→T' b=t→h' b=some (.cells c e (0,0))→K (.pointer (some ⟨b,0,none⟩)) h'):nwM (some c) e h K:=by
 intro b n
 exact hk b _ _ n (Only.new t w n) (tset_same _ _ _) (upd_same' _ _ _)
theorem Only.up {U V:Tag→Prop}{T T' T'':Tags}{h h' h'':Heap}(x:Only V T h T' h')(y:Only U T' h' T'' h'')(m:∀ t,U t→V t):Only V T h T'' h'':=x.trans (y.mono m)
theorem non_up {V:Tag→Prop}:∀ t,non t→V t:=fun _ h=>h.elim
theorem not_non (t:Tag):¬ non t:=fun h=>h
theorem Only.see {U:Tag→Prop}{T T':Tags}{h h':Heap}(x:Only U T h T' h'){b:Nat}{o:Obj}{t:Tag}(e:h b=some o∧T b=t)(n:¬ U t):h' b=some o∧T' b=t:=x.k.at e.1 e.2 n
end Go.Den
namespace Go.Den
open Go
variable {K:KTy}
theorem bs_none {P:Program}{t e:TypeId}{sz:Nat}{z:Array Value}{h:Heap}(hb:bsI P t=some (e,sz,z))
  (hk:∀ v h',Ext h h'→Row sz e h' v 0 []→rowOf v≠none→(∀ g,rowOf v=some g→h g=none)→K v h'):bsM (bsI P t) 0 [] h K:=by
 rw[hb]
 simp only[bsM,Instr.fill]
 refine⟨by omega,fun b hbn=>hk _ _ (Ext.upd hbn _) ⟨by simp,.inr ⟨b,0,_,rfl,upd_same _ _ _,Nat.le_refl _,by unfold maxLen; omega,by simp[zrow_size],by simp⟩⟩ (by simp[rowOf]) (fun g hg=>by simp[rowOf] at hg; subst hg; exact hbn)⟩
theorem copy_intro {α:Type}{P:Program}{t ty e:TypeId}{sz bytes:Nat}{enc:α→List Value}{R:Heap→List Value→α→Prop}{x:Value}{ys:List α}{T:Tags}{h h0:Heap}{v:Value}
  (ht:P.underlying t=some (.slice e)) (hi:apC P e=some (sz,bytes,sz)) (hsz:0<sz) (w:Wf T h0) (e0:Ext h0 h) (hv:Row sz e h v 0 []) (hf:∀ g,rowOf v=some g→h0 g=none)
  (hR:∀ {h c y},R h c y→c=enc y) (hR2:∀ h y,R h (enc y) y) (hl:∀ y,(enc y).length=sz) (hx:Sl sz R h x ys) (h1:∀ y,∀ u∈enc y,u.oneCell'=true) (h63:ys.length≤maxLen) (hby:ys.length*bytes≤140737488355328)
  (hk:∀ v' h',Ext h0 h'→Sl sz R (fz T h') v' ys→K v' h') :
  vvM P (Builtin.append_ #[t,t] ty #[v,x]) h K:=by
 refine app_sl (ys:=ys) (enc:=enc) (R:=R) ht hi hsz hv hR hx h1 (by omega) (by simpa using hby) fun v' h' hr hkp ha=>?_
 have e1:Ext h0 h':=e0.keep hkp hf
 have hf':∀ b,rowOf v'=some b→h0 b=none:=fun b hb=>by
  rcases ha with ha | ⟨k,ha,hn⟩
  ·exact hf b (by rw[← ha]; exact hb)
  ·rw[ha] at hb; simp only[Option.some.injEq] at hb; subst hb; exact fresh_of e0 hn
 refine hk v' h' e1 ?_
 have:=hr.fz w hf'
 simp only[Nat.zero_add,List.nil_append] at this
 exact Row.slE hl (hR2 _) this
end Go.Den
namespace Go.Den
open Go
theorem upd_comm {h:Heap}{b c:Nat}{o p:Obj}(n:b≠c):upd (upd h b o) c p=upd (upd h c p) b o:=by
 funext k
 by_cases hb:k=b
 ·subst hb; rw[upd_ne n,upd_same',upd_same']
 ·by_cases hc:k=c
  ·subst hc; rw[upd_same',upd_ne hb,upd_same']
  ·rw[upd_ne hc,upd_ne hb,upd_ne hb,upd_ne hc]
end Go.Den
namespace Go.Den
open Go
theorem Only.enew {U:Tag→Prop}{T:Tags}{h h':Heap}{b:Nat}{o:Obj}(t:Tag)(w:Wf T h)(e:Ext h h')(n:h b=none)(hb:h' b=some o):Only U T h (tset T b t) h':=by
 have hne:∀ k x,h k=some x→k≠b:=fun k x ek hk=>by subst hk; rw[n] at ek; cases ek
 refine⟨fun k hk=>?_,fun k x ek=>tset_ne (hne k x ek),fun k x ek=>⟨x,e _ _ ek⟩,fun k x ek _=>e _ _ ek⟩
 have hkb:k≠b:=fun hh=>by subst hh; rw[hb] at hk; cases hk
 rw[tset_ne hkb]
 exact w.ext e k hk
theorem two_l {U V:Tag→Prop}:∀ t,U t→two U V t:=fun _ h=>.inl h
theorem two_r {U V:Tag→Prop}:∀ t,V t→two U V t:=fun _ h=>.inr h
end Go.Den
namespace Go.Den
open Go
set_option linter.unusedVariables false
set_option linter.unusedSimpArgs false
variable {P:Program}
theorem load_cels {w:World}{b o n:Nat}{l:List Value}(h:cels (abs w) b o n=some l):(loadCells ⟨b,o,none⟩ n).run P w = .ok l.toArray w:=by
 have:=run_loadCells_list (P:=P) w ⟨b,o,none⟩ l (cels_read h)
 rw[(cels_get h).1] at this
 exact this
theorem store_at {w:World}{b o:Nat}{e:TypeId}{l:List Value}{c:Array Value}{K:Heap→Prop}(hb:abs w b=some (.cells c e (0,0)))(hs:o+l.length≤c.size)(h1:∀ v∈l,v.oneCell'=true)
  (hk:K (upd (abs w) b (.cells (over c o l) e (0,0)))):∃ w',(storeCells ⟨b,o,none⟩ l).run P w = .ok () w'∧Okw w w'∧K (abs w'):=by
 refine run_stC (P:=P) (o:=o) l 0 w w K (Okw.refl w) ?_
 rw[Nat.add_zero,stC_eq hb hs h1]
 exact hk
theorem apC_size {e:TypeId}{sz bytes:Nat}(hi:apC P e=some (sz,bytes,sz)):∃ i z,P.info? e=some i∧i.zero=some z∧i.size=sz∧i.bytes=bytes∧z.cells.size=sz:=by
 unfold apC at hi
 cases hi1:P.info? e with
 | none=>simp[hi1] at hi
 | some i =>
  cases hz:i.zero with
  | none=>simp[hi1,hz] at hi
  | some z=>simp only[hi1,hz,Option.some.injEq,Prod.mk.injEq] at hi; exact⟨i,z,rfl,hz,hi.1,hi.2.1,hi.2.2⟩
variable {K:KTy}
theorem copy_vv {t ty e et:TypeId}{sz bytes b o n c sb so sn sc:Nat}{cur:Array Value}{cs:List Value}{h:Heap}(ht:P.underlying t=some (.slice e))(hi:apC P e=some (sz,bytes,sz))
  (hb:h b=some (.cells cur et (0,0))) (hc:cels h sb so (min sn n*sz)=some cs) (hs:o+min sn n*sz≤cur.size) (h1:∀ v∈cs,v.oneCell'=true)
  (hk:K (.int .i64 (min sn n:Nat)) (upd h b (.cells (over cur o cs) et (0,0)))) :
  vvM P (Builtin.copy_ #[t,t] ty #[.slice (some ⟨b,o,none⟩) n c,.slice (some ⟨sb,so,none⟩) sn sc]) h K:=by
 intro w hw
 subst hw
 obtain⟨i,z,hi1,hz,hsz,_,_⟩:=apC_size hi
 have hl:=load_cels (P:=P) hc
 have hlen:=(cels_get hc).1
 obtain⟨w',hr,ho,hk'⟩:=store_at (P:=P) (K:=K _) hb (by rw[hlen]; exact hs) h1 hk
 refine⟨_,w',?_,ho,hk'⟩
 subst hsz
 simp[Builtin.copy_,run_underlying ht,Builtin.lenOf,Builtin.firstCells,sizeOf,typeInfo,hi1,Nat.min_def] at hl hr ⊢
 simp[hl,hr,goInt]
theorem clear_vv {t ty e et:TypeId}{sz bytes b o n c:Nat}{cur:Array Value}{h:Heap}(ht:P.underlying t=some (.slice e))(hi:apC P e=some (sz,bytes,sz))(hz1:∀ z,zc P e=some z→z.toList.all (fun u=>u.oneCell')=true)(h0:0<sz)
  (hb:h b=some (.cells cur et (0,0))) (hs:o+n*sz≤cur.size) (hk0:n=0→K (.tuple #[]) h)
  (hk:∀ cs:List Value,cs.length=n*sz→K (.tuple #[]) (upd h b (.cells (over cur o cs) et (0,0)))) :
  vvM P (Builtin.clear_ #[t] ty #[.slice (some ⟨b,o,none⟩) n c]) h K:=by
 intro w hw
 subst hw
 by_cases hn:n=0
 ·subst hn
  exact⟨_,w,by simp[Builtin.clear_,run_underlying ht],Okw.refl w,hk0 rfl⟩
 obtain⟨i,z,hi1,hz,hsz,_,hzs⟩:=apC_size hi
 have hlen:(Builtin.zeroCells z.cells n).toList.length=n*sz:=by simp[Builtin.zeroCells,hzs]
 have hz1:=hz1 z.cells (by simp[zc,hi1,hz])
 rw[List.all_eq_true] at hz1
 have h1:∀ v∈(Builtin.zeroCells z.cells n).toList,v.oneCell'=true:=fun v hv=>by
  simp only[Builtin.zeroCells,Array.toList_map,List.mem_map] at hv
  obtain⟨k,hk1,rfl⟩:=hv
  have hlt:k % z.cells.size<z.cells.size:=Nat.mod_lt _ (by omega)
  rw[getElem!_pos z.cells _ hlt]
  exact hz1 _ (by simp)
 obtain⟨w',hr,ho,hk'⟩:=store_at (P:=P) (K:=K (.tuple #[])) hb (by rw[hlen]; exact hs) h1 (hk _ hlen)
 refine⟨_,w',?_,ho,hk'⟩
 simp[Builtin.clear_,run_underlying ht,hn,zeroValue,typeInfo,hi1,hz,hr]
theorem app_fit {t ty e et:TypeId}{sz bytes b o n c sb so m sc:Nat}{cur:Array Value}{cs:List Value}{h:Heap}(ht:P.underlying t=some (.slice e))(hi:apC P e=some (sz,bytes,sz))
  (hb:h b=some (.cells cur et (0,0))) (hc:cels h sb so (m*sz)=some cs) (hs:o+n*sz+m*sz≤cur.size) (hf:n+m≤c) (h1:∀ v∈cs,v.oneCell'=true)
  (hk:K (.slice (some ⟨b,o,none⟩) (n+m) c) (upd h b (.cells (over cur (o+n*sz) cs) et (0,0)))) :
  vvM P (Builtin.append_ #[t,t] ty #[.slice (some ⟨b,o,none⟩) n c,.slice (some ⟨sb,so,none⟩) m sc]) h K:=by
 intro w hw
 subst hw
 obtain⟨i,z,hi1,hz,hsz,_,_⟩:=apC_size hi
 have hlen:=(cels_get hc).1
 obtain⟨w',hr,ho,hk'⟩:=store_at (P:=P) (K:=K _) hb (by rw[hlen]; exact hs) h1 hk
 refine⟨_,w',?_,ho,hk'⟩
 subst hsz
 have hl:=load_cels (P:=P) hc
 simp[Builtin.append_,run_underlying ht,sizeOf,typeInfo,hi1,Builtin.lenOf,hf,Builtin.firstCells,hl,Addr.add_lit,hr]
theorem app_zeros {t tn ty e:TypeId}{sz bytes b o n c k:Nat}{kq kn:IntKind}{olds:List Value}{h:Heap}(ht:P.underlying t=some (.slice e))(htn:P.underlying tn=some (.int kn))(hi:apC P e=some (sz,bytes,sz))(h0:0<sz)
  (hc:cels h b o (n*sz)=some olds) (hk0:0<k) (hg:c<n+k) (h63:n+k≤maxLen) (hby:(n+k)*bytes≤140737488355328)
  (hk:∀ b' cap' cur,h b'=none→n+k≤cap'→cap'≤maxLen→cur.size=cap'*sz→cur.toList.take (n*sz)=olds→K (.slice (some ⟨b',0,none⟩) (n+k) cap') (upd h b' (.cells cur e (0,0)))) :
  vvM P (Builtin.append_ #[t,tn] ty #[.slice (some ⟨b,o,none⟩) n c,.int kq k]) h K:=by
 intro w hw
 subst hw
 obtain⟨i,z,hi1,hz,rfl,rfl,hzs⟩:=apC_size hi
 have hlen:=(cels_get hc).1
 have hfc:(Builtin.firstCells i.size n (.slice (some ⟨b,o,none⟩) n c)).run P w.drew = .ok olds.toArray w.drew:=by
  have:cels (abs w.drew) b o (n*i.size)=some olds:=hc
  simp[Builtin.firstCells,load_cels (P:=P) this]
 have hkb:k*i.bytes≤(n+k)*i.bytes:=Nat.mul_le_mul_right _ (by omega)
 have hmax:maxLen=4611686018427387904∨True:=.inr trivial
 have hr:=Lib.run_append_grow_zeros (P:=P) w t tn ty e i z kq kn ht htn hi1 hz (some ⟨b,o,none⟩) n c olds hfc k hk0 h0 hg (by unfold maxLen at h63; omega) (by omega) (growslice_fits hg hby)
 have hge:=grownCap_ge w (n+k) c e
 have hle:=grownCap_le_maxLen w (n+k) c e h63
 refine⟨_,_,hr,⟨rfl,rfl,rfl,by simp[World.alloc]⟩,?_⟩
 have ha:=abs_alloc w.drew (.cells (olds.toArray++Builtin.zeroCells z.cells k++Builtin.zeroCells z.cells (grownCap w (n+k) c e-(n+k))) e)
 have hd:abs w.drew=abs w:=rfl
 refine (show abs _=_ from ha)▸?_
 rw[hd]
 refine hk _ _ _ (abs_fresh w) hge hle ?_ ?_
 ·have hzc:∀ m,(Builtin.zeroCells z.cells m).size=m*i.size:=fun m=>by simp[Builtin.zeroCells,hzs]
  rw[Array.size_append,Array.size_append,hzc,hzc,List.size_toArray,hlen,← Nat.add_mul,← Nat.add_mul]
  congr 1; omega
 ·simp[← hlen,List.take_append]
theorem cap_vv {t ty e:TypeId}{a:Option Addr}{n c:Nat}{h:Heap}(ht:P.underlying t=some (.slice e))(hk:K (.int .i64 c) h):vvM P (Builtin.cap_ #[t] ty #[.slice a n c]) h K:=by
 intro w hw
 subst hw
 exact⟨_,w,by simp[Builtin.cap_,goInt,run_underlying ht],Okw.refl w,hk⟩
theorem overlaps_nx {f:FuncId}{tS tR e:TypeId}{sz bytes:Nat}{a oa la ca b ob lb cb:Nat}{A B:Array Value}{ea eb:TypeId}{h:Heap}
  (hname : (P.funcs[f]?).map (fun fn => fn.name == "runtime.NumGoroutine") = some false) (hb : (P.funcs[f]?).map (fun fn => fn.body.isNone) = some true) (hn : (P.funcs[f]?).map (fun fn => Extern.findNext fn) = some none)
  (he:(P.funcs[f]?).map (fun fn=>Extern.find fn)=some (some (Extern.SlicesOverlaps.overlaps #[tS,tS] #[tR])))
  (ht:P.underlying tS=some (.slice e)) (hi:apC P e=some (sz,bytes,sz)) (hne:a≠b) (ha:h a=some (.cells A ea (0,0))) (hbb:h b=some (.cells B eb (0,0))) (hB:B.size≠0) (hk:K (.bool false) h) :
  nxM P (callFunc f #[.slice (some ⟨a,oa,none⟩) la ca,.slice (some ⟨b,ob,none⟩) lb cb]) h K:=by
 intro w hw
 subst hw
 obtain⟨i,z,hi1,hz,hsz,_,_⟩:=apC_size hi
 have hs:∀ w,(Go.sizeOf e).run P w = .ok sz w:=fun w=>by simp[Go.sizeOf,typeInfo,hi1,hsz]
 have ha':w.heap[a]?=some (.cells A ea (0,0)):=ha
 have hb':w.heap[b]?=some (.cells B eb (0,0)):=hbb
 have h1:w.shape? a=some (ea,A.size):=by simp[World.shape?,ha']
 have h2:w.shape? b=some (eb,B.size):=by simp[World.shape?,hb']
 have h3:w.frozen? ⟨a,oa,none⟩=false:=by simp[World.frozen?,ha']
 have h4:w.frozen? { block:=a,off:=A.size }=false:=by simp[World.frozen?,ha']
 have hr:=Lib.run_overlaps_apart (P:=P) w tS tR e ht sz hs ⟨a,oa,none⟩ ⟨b,ob,none⟩ la ca lb cb hne ea eb A.size B.size h1 h2 hB h3 h4
 refine .inl ⟨_,w,?_,Okw.refl w,hk⟩
 cases hf:P.funcs[f]? with
 | none=>simp[hf] at hb
 | some fn =>
  simp only[hf,Option.map_some,Option.some.injEq] at hname hb hn he
  rw[run_callFunc_extern hf hname hb hn he,hr]
  rfl
end Go.Den
namespace Go.Den
open Go
set_option linter.unusedVariables false
set_option linter.unusedSimpArgs false
def Sn (v:Value):Prop:=∀ c,v = .slice none 0 c→c=0
theorem Sn.nil:Sn (.slice none 0 0):=fun c h=>by simp at h; exact h.symm
theorem Row.sn {sz:Nat}{e:TypeId}{h:Heap}{v:Value}{n:Nat}{xs:List Value}(r:Row sz e h v n xs):Sn v:=by
 rcases r.2 with ⟨rfl,_⟩ | ⟨g,cap,cur,rfl,_⟩
 ·exact Sn.nil
 ·intro c h; simp at h
structure Rf (sz:Nat)(e:TypeId)(h0 h:Heap)(v:Value)(n:Nat)(xs:List Value):Prop where
 ex:Ext h0 h
 row:Row sz e h v n xs
 new:∀ b,rowOf v=some b→h0 b=none
 one:∀ u∈xs,u.oneCell'=true
theorem Rf.ext {sz:Nat}{e:TypeId}{h0 h h':Heap}{v:Value}{n:Nat}{xs:List Value}(r:Rf sz e h0 h v n xs)(x:Ext h h'):Rf sz e h0 h' v n xs:=⟨r.ex.trans x,r.row.ext x,r.new,r.one⟩
theorem Rf.back {sz:Nat}{e:TypeId}{h1 h0 h:Heap}{v:Value}{n:Nat}{xs:List Value}(r:Rf sz e h0 h v n xs)(x:Ext h1 h0):Rf sz e h1 h v n xs:=⟨x.trans r.ex,r.row,fun b hb=>fresh_of x (r.new b hb),r.one⟩
theorem Rf.nil {sz:Nat}{e:TypeId}{h0 h:Heap}(x:Ext h0 h):Rf sz e h0 h (.slice none 0 0) 0 []:=⟨x,⟨by simp,.inl ⟨rfl,rfl⟩⟩,fun b hb=>by simp[rowOf] at hb,by simp⟩
theorem Rf.own {sz:Nat}{e:TypeId}{h0 h:Heap}{v:Value}{n:Nat}{xs:List Value}(r:Rf sz e h0 h v n xs)(hn:0<n):∃ g cap cur,v = .slice (some ⟨g,0,none⟩) n cap∧h0 g=none∧h g=some (.cells cur e (0,0))∧n≤cap∧cap≤maxLen∧cur.size=cap*sz∧cur.toList.take (n*sz)=xs:=by
 obtain⟨g,cap,cur,rfl,h1,h2⟩:=r.row.own hn
 exact⟨g,cap,cur,rfl,r.new g rfl,h1,h2⟩
def SlC (sz:Nat)(h:Heap)(v:Value)(n:Nat)(xs:List Value):Prop :=
 (n=0∧xs=[]∧∃ a c,v = .slice a 0 c)∨∃ b o cap,v = .slice (some ⟨b,o,none⟩) n cap∧cels h b o (n*sz)=some xs
theorem Sl.slc {α:Type}{sz:Nat}{R:Heap→List Value→α→Prop}{h:Heap}{v:Value}{ys:List α}(x:Sl sz R h v ys):∃ L:List (List Value),SlC sz h v ys.length L.flatten∧L.length=ys.length∧(∀ c∈L,c.length=sz)∧∀ i (h1:i<L.length) (h2:i<ys.length),R h L[i] ys[i]:=by
 rcases x with ⟨rfl,a,c,rfl⟩ | ⟨b,o,cap,rfl,h1,h2,h3⟩
 ·exact⟨[],.inl ⟨rfl,rfl,a,c,rfl⟩,rfl,by simp,fun i h=>by simp at h⟩
 ·have:∀ m,m≤ys.length→∃ L:List (List Value),cels h b o (m*sz)=some L.flatten∧L.length=m∧(∀ c∈L,c.length=sz)∧∀ i (h1:i<L.length) (h2:i<ys.length),R h L[i] ys[i]:=by
   intro m hm
   induction m with
   | zero=>exact⟨[],by simp[Den.cels],rfl,by simp,fun i h=>by simp at h⟩
   | succ m ih =>
    obtain⟨L,q1,q2,q3,q4⟩:=ih (by omega)
    obtain⟨c,c1,c2⟩:=h3 m (by omega)
    refine⟨L++[c],?_,by simp[q2],?_,?_⟩
    ·rw[Nat.add_mul,Nat.one_mul]
     have:=cels_add q1 c1
     simpa using this
    ·intro d hd
     rcases List.mem_append.1 hd with hd | hd
     ·exact q3 d hd
     ·simp at hd; subst hd; exact (cels_get c1).1
    ·intro i k1 k2
     by_cases hi:i<L.length
     ·rw[List.getElem_append_left hi]; exact q4 i hi k2
     ·have:i=m:=by simp at k1; omega
      subst this
      rw[List.getElem_append_right (by omega)]
      simpa [q2] using c2
  obtain⟨L,q1,q2,q3,q4⟩:=this ys.length (Nat.le_refl _)
  exact⟨L,.inr ⟨b,o,cap,rfl,q1⟩,q2,q3,q4⟩
theorem flat_take {sz:Nat}:∀ {L:List (List Value)} {i:Nat},(∀ c∈L,c.length=sz)→L.flatten.take (i*sz)=(L.take i).flatten
 | [],i,_=>by simp
 | c::L,0,_=>by simp
 | c::L,i+1,h=>by
  have hc:=h c (by simp)
  have:=flat_take (L:=L) (i:=i) fun d hd=>h d (by simp[hd])
  simp only[List.flatten_cons,List.take_succ_cons]
  rw[show (i+1)*sz=c.length+i*sz by rw[hc,Nat.add_mul]; omega,List.take_length_add_append,this]
theorem flat_drop {sz:Nat}:∀ {L:List (List Value)} {i:Nat},(∀ c∈L,c.length=sz)→L.flatten.drop (i*sz)=(L.drop i).flatten
 | [],i,_=>by simp
 | c::L,0,_=>by simp
 | c::L,i+1,h=>by
  have hc:=h c (by simp)
  have:=flat_drop (L:=L) (i:=i) fun d hd=>h d (by simp[hd])
  simp only[List.flatten_cons,List.drop_succ_cons]
  rw[show (i+1)*sz=c.length+i*sz by rw[hc,Nat.add_mul]; omega,List.drop_length_add_append,this]
theorem flat_len {sz:Nat}:∀ {L:List (List Value)},(∀ c∈L,c.length=sz)→L.flatten.length=L.length*sz
 | [],_=>by simp
 | c::L,h=>by
  have:=flat_len (L:=L) fun d hd=>h d (by simp[hd])
  simp only[List.flatten_cons,List.length_append,List.length_cons,this,h c (by simp),Nat.add_mul]; omega
theorem Row.slL {α:Type}{sz:Nat}{R:Heap→List Value→α→Prop}{e:TypeId}{h:Heap}{v:Value}{L:List (List Value)}{ys:List α}{n:Nat}(r:Row sz e h v n L.flatten)(hn:n=ys.length)(hl:L.length=ys.length)(h1:∀ c∈L,c.length=sz)
  (hR:∀ i (h1:i<L.length) (h2:i<ys.length),R h L[i] ys[i]):Sl sz R h v ys:=by
 subst hn
 rcases r.2 with ⟨rfl,h2⟩ | ⟨g,cap,cur,rfl,hb,h3,h4,h5,h6⟩
 ·exact .inl ⟨List.eq_nil_of_length_eq_zero h2,_,_,rfl⟩
 ·refine .inr ⟨g,0,cap,rfl,h3,h4,fun i hi=>⟨L[i]'(by omega),?_,hR i _ hi⟩⟩
  have hm:(i+1)*sz≤ys.length*sz:=Nat.mul_le_mul_right _ hi
  have:=r.cels (g:=g) rfl (o:=i*sz) (m:=sz) (by rw[Nat.add_mul] at hm; omega)
  rw[Nat.zero_add,this,flat_drop h1]
  have h7:(L.drop i)=L[i]'(by omega)::L.drop (i+1):=List.drop_eq_getElem_cons _
  rw[h7,List.flatten_cons]
  have h8:(L[i]'(by omega)).length=sz:=h1 _ (List.getElem_mem _)
  rw[List.take_append,h8]
  simp[← h8]
theorem SlC.nil_or {sz:Nat}{h:Heap}{v:Value}{n:Nat}{xs:List Value}(x:SlC sz h v n xs)(s:Sn v):(v = .slice none 0 0∧n=0∧xs=[])∨∃ a c,v = .slice (some a) n c:=by
 rcases x with ⟨rfl,rfl,a,c,rfl⟩ | ⟨b,o,cap,rfl,_⟩
 ·cases a with
  | none=>have:=s c rfl; subst this; exact .inl ⟨rfl,rfl,rfl⟩
  | some a=>exact .inr ⟨a,c,rfl⟩
 ·exact .inr ⟨_,_,rfl⟩
variable {K:KTy}
theorem Rf.app {P:Program}{t ty e:TypeId}{sz bytes m:Nat}{v x:Value}{n:Nat}{xs news:List Value}{h0 h:Heap}
  (ht:P.underlying t=some (.slice e)) (hi:apC P e=some (sz,bytes,sz)) (hsz:0<sz) (hv:Rf sz e h0 h v n xs) (hx:SlC sz h x m news) (h1:∀ u∈news,u.oneCell'=true)
  (h63:n+m≤maxLen) (hby:(n+m)*bytes≤140737488355328) (hk:∀ v' h',Rf sz e h0 h' v' (n+m) (xs++news)→(∀ b o,h b=some o→rowOf v≠some b→h' b=some o)→K v' h') :
  vvM P (Builtin.append_ #[t,t] ty #[v,x]) h K:=by
 rcases hx with ⟨rfl,rfl,a,c,rfl⟩ | ⟨b,o,cap,rfl,hc⟩
 ·refine app_none ht hi hv.row (hk v h ?_ fun b o e _=>e)
  simpa using hv
 ·refine app_intro ht hi hsz hv.row hc h1 h63 hby fun v' h' hr hkp ha=>hk v' h' ⟨hv.ex.keep hkp fun b hb=>hv.new b hb,hr,fun b hb=>?_,fun u hu=>?_⟩ fun b o e n=>hkp b o e fun hh=>n hh.symm
  ·rcases ha with ha | ⟨k,ha,hn⟩
   ·exact hv.new b (by rw[← ha]; exact hb)
   ·rw[ha] at hb; simp only[Option.some.injEq] at hb; subst hb; exact fresh_of hv.ex hn
  ·rcases List.mem_append.1 hu with hu | hu
   ·exact hv.one u hu
   ·exact h1 u hu
theorem spl_ins {c xs x:List Value}{p q m:Nat}(h1:c.take p=xs.take p)(hq:q=p+x.length)(hp:p≤xs.length)(hm:q+(xs.drop p).length=m)(hc:m≤c.length):(spl (spl c q (xs.drop p)) p x).take m=xs.take p++x++xs.drop p:=by
 subst hq
 have l:(c.take (p+x.length)).length=p+x.length:=by rw[List.length_take]; omega
 have e1:spl c (p+x.length) (xs.drop p)=c.take (p+x.length)++(xs.drop p++c.drop (p+x.length+(xs.drop p).length)):=by unfold spl; rw[List.append_assoc]
 have e2:(spl c (p+x.length) (xs.drop p)).take p=xs.take p:=by rw[e1,List.take_append_of_le_length (by omega),List.take_take,Nat.min_eq_left (by omega),h1]
 have e3:(spl c (p+x.length) (xs.drop p)).drop (p+x.length)=xs.drop p++c.drop (p+x.length+(xs.drop p).length):=by rw[e1]; exact List.drop_left' l
 have e4:spl (spl c (p+x.length) (xs.drop p)) p x=xs.take p++x++xs.drop p++c.drop (p+x.length+(xs.drop p).length):=by
  rw[show spl (spl c (p+x.length) (xs.drop p)) p x=(spl c (p+x.length) (xs.drop p)).take p++x++(spl c (p+x.length) (xs.drop p)).drop (p+x.length) from rfl,e2,e3]
  simp
 rw[e4]
 refine List.take_left' ?_
 rw[List.length_append,List.length_append,List.length_take,Nat.min_eq_left hp]
 exact hm
theorem slc_one {sz b cap:Nat}{x:Array Value}{e:TypeId}{h:Heap}(hb:h b=some (.cells x e (0,0)))(hx:x.size=sz):SlC sz h (.slice (some ⟨b,0,none⟩) 1 cap) 1 x.toList:=by
 refine .inr ⟨b,0,cap,rfl,cels_of hb ?_ (by simpa using hx)⟩
 rw[List.drop_zero,List.take_of_length_le (by simpa using Nat.le_of_eq hx)]
end Go.Den
namespace Go.Den
open Go
theorem calls_of_callM {P:Program}{f:FuncId}{args:Array Value}{W:World}(hc:callM P f args (abs W) (fun v h'=>v = .bool true∧Ext (abs W) h')) :
  Calls P f args W fun e W'=>e = .returned (.bool true)∧RowKit.Below W.heap.size W W':=by
 refine callsIn_wide.1 ((hc W rfl).mono fun e W' ⟨v,he,ho,hv,hx⟩=>?_)
 subst hv
 refine⟨he,ho.os,ho.tape,ho.output,ho.size,fun k hk=>?_⟩
 have h1:abs W k=some W.heap[k]:=by simp[abs,hk]
 have h2:=hx k _ h1
 rw[show W.heap[k]?=abs W k from rfl,h1]
 exact h2
def Rdr {α:Type}(P:Program)(t:TypeId)(R:Heap→List Value→α→Prop):Prop :=
 ∀ {H:Type} (enc:TypeId × Value→H) (W:World) (base:Nat) (spare:Nat→Bool) (held:Bool) (fuel:Nat) (cs:List Value) (x:DataW H × List MemPlace),
  DataW.trod enc P W base spare held fuel t cs=some x→∃ a,R (abs W) cs a
def IntR (k:IntKind)(_:Heap)(c:List Value)(n:Int):Prop:=c=[.int k n]∧(Lit.int k n).wf=true
def StrR (_:Heap)(c:List Value)(s:ByteArray):Prop:=c=[.string s]∧s.size≤maxLen
theorem Rdr.int {P:Program}{t:TypeId}{k:IntKind}(ht:P.underlying t=some (.int k)):Rdr P t (IntR k):=fun _ _ _ _ _ _ _ _ h=>by
 obtain⟨n,h1,_,h3⟩:=DataW.trod_int ht h
 exact⟨n,h1,h3⟩
theorem Rdr.str {P:Program}{t:TypeId}(ht:P.underlying t=some .string):Rdr P t StrR:=fun _ _ _ _ _ _ _ _ h=>by
 obtain⟨n,h1,_,h3⟩:=DataW.trod_string ht h
 exact⟨n,h1,h3⟩
theorem cels_of_cells {W:World}{base:Nat}{a:Addr}{n:Nat}{cs:List Value}(h:W.cells? base a n=some cs)(hn:0<n):a.spot=none∧cels (abs W) a.block a.off n=some cs:=by
 obtain⟨_,hl,hc⟩:=World.cells?_some h
 have hl:cs.length=n:=by first | exact hl | exact hl.symm | omega
 have hsp:a.spot=none:=by
  have h0:=hc 0 hn
  cases hs:a.spot with
  | none=>rfl
  | some s =>
   exfalso
   have:W.cell? (a.add 0)=none:=by
    simp only[Addr.add,if_true,World.cell?,hs,Option.isSome_some]
    split<;>rfl
   rw[this] at h0
   have:cs[0]?≠none:=by intro h; rw[List.getElem?_eq_none_iff] at h; omega
   exact this h0.symm
 refine⟨hsp,?_⟩
 have key:∀ (n o:Nat) (cs:List Value),cs.length=n→(∀ i,i<n→cel (abs W) a.block (o+i)=cs[i]?)→cels (abs W) a.block o n=some cs:=by
  intro n
  induction n with
  | zero=>intro o cs hl _; simp only[cels]; rw[List.length_eq_zero_iff.1 hl]
  | succ n ih =>
   intro o cs hl hc
   match cs,hl with
   | c::r,hl =>
    have h0:=hc 0 (by omega)
    simp only[Nat.add_zero,List.getElem?_cons_zero] at h0
    have hr:=ih (o+1) r (by simpa using hl) (fun i hi=>by have:=hc (i+1) (by omega); simpa [Nat.add_assoc,Nat.add_comm 1 i] using this)
    simp[cels,h0,hr]
 refine key n a.off cs hl (fun i hi=>?_)
 rw[cel_abs,← hc i hi]
 have:a=⟨a.block,a.off,none⟩:=by cases a; simp_all
 rw[this,add_none]
theorem Rdr.slice {α:Type}{P:Program}{t e:TypeId}{R:Heap→List Value→α→Prop}{sz:Nat}(ht:P.underlying t=some (.slice e))(hs:P.cellsOf e=sz)(h0:0<sz)(hR:Rdr P e R) :
  Rdr P t (fun h c (xs:List α)=>∃ v,c=[v]∧Sl sz R h v xs):=fun enc W base spare held fuel cs x h=>by
 rcases Deep.open_slice ht h with ⟨rfl,_⟩ | ⟨a,len,cap,m,n,D,Pl,rfl,hb,hl,hm,hmm,_,hx⟩
 ·exact⟨[],_,rfl,.inl ⟨rfl,none,0,rfl⟩⟩
 ·rw[hs] at hx
  have hlen:len≤m:=by rw[hmm]; split<;>omega
  have:∀ i,i<len→∃ c y,W.cells? base (a.add (i*sz)) sz=some c∧R (abs W) c y:=fun i hi=>by
   obtain⟨c,h1,h2⟩:=hx i (by omega)
   obtain⟨y,hy⟩:=hR enc W base spare held n c _ h2
   exact⟨c,y,h1,hy⟩
  by_cases hz:len=0
  ·subst hz
   exact⟨[],_,rfl,.inl ⟨rfl,some a,cap,rfl⟩⟩
  ·obtain⟨c0,y0,h1,_⟩:=this 0 (by omega)
   have hsp:=(cels_of_cells h1 h0).1
   have ha:a.spot=none:=by
    simp only[Nat.zero_mul,Addr.add,if_true] at hsp
    exact hsp
   obtain⟨b,o,sp⟩:=a
   simp only at ha
   subst ha
   have this':∀ i,i<len→∃ y c,cels (abs W) b (o+i*sz) sz=some c∧R (abs W) c y:=fun i hi=>by
    obtain⟨c,y,h1,h2⟩:=this i hi
    have h3:=(cels_of_cells h1 h0).2
    rw[add_none] at h3
    exact⟨y,c,h3,h2⟩
   have hch:∃ f:Nat→α,∀ i,i<len→∃ c,cels (abs W) b (o+i*sz) sz=some c∧R (abs W) c (f i):=by
    refine⟨fun i=>if hi:i<len then Classical.choose (this' i hi) else y0,fun i hi=>?_⟩
    simp only[hi,dif_pos]
    exact Classical.choose_spec (this' i hi)
   obtain⟨f,hf⟩:=hch
   refine⟨(List.range len).map f,_,rfl,.inr ⟨b,o,cap,by simp,by simpa using hl,hm,fun i hi=>?_⟩⟩
   simp only[List.length_map,List.length_range] at hi
   simpa using hf i hi
theorem struct_fields {P:Program}{t:TypeId}{fs:Array Field}{H:Type}{enc:TypeId × Value→H}{W:World}{base:Nat}{spare:Nat→Bool}{held:Bool}{fuel:Nat}{cs:List Value}{x:DataW H × List MemPlace}
  (ht:P.underlying t=some (.struct fs)) (h:DataW.trod enc P W base spare held fuel t cs=some x) :
  cs.length=P.cellsOf t∧∀ (i:Nat) (f:Field),fs[i]?=some f→∃ n y,DataW.trod enc P W base spare held n f.type ((cs.drop f.offset).take (P.cellsOf f.type))=some y:=by
 obtain⟨xs,n,_,_,hl,hxl,hf⟩:=DataW.trod_struct ht h
 refine⟨hl,fun i f hi=>?_⟩
 have h1:=hf i f hi
 have hlt:i<xs.length:=by rw[hxl]; exact (Array.getElem?_eq_some_iff.1 hi).1
 exact⟨n,xs[i],by rw[h1]; simp[hlt]⟩
theorem wf_u8 {a:Int}(h:(Lit.int .u8 a).wf=true):0≤a∧a≤255:=by
 have hmin:IntKind.u8.min=0:=rfl
 have hmax:IntKind.u8.max=255:=rfl
 simp only[Lit.wf,Bool.and_eq_true,decide_eq_true_eq] at h
 omega
theorem wf_u64 {a:Int}(h:(Lit.int .u64 a).wf=true):0≤a∧a≤18446744073709551615:=by
 have hmin:IntKind.u64.min=0:=rfl
 have hmax:IntKind.u64.max=18446744073709551615:=rfl
 simp only[Lit.wf,Bool.and_eq_true,decide_eq_true_eq] at h
 omega
theorem wf_i64 {a:Int}(h:(Lit.int .i64 a).wf=true):-9223372036854775808≤a∧a≤9223372036854775807:=by
 have hmin:IntKind.i64.min = -9223372036854775808:=rfl
 have hmax:IntKind.i64.max=9223372036854775807:=rfl
 simp only[Lit.wf,Bool.and_eq_true,decide_eq_true_eq] at h
 omega
theorem struct_field {P:Program}{t:TypeId}{fs:Array Field}{H:Type}{enc:TypeId × Value→H}{W:World}{base:Nat}{spare:Nat→Bool}{held:Bool}{fuel:Nat}{cs:List Value}{x:DataW H × List MemPlace}
  (ht:P.underlying t=some (.struct fs)) (h:DataW.trod enc P W base spare held fuel t cs=some x) (i:Nat) (ty off sz:Nat) (hi:(fs[i]?).map (fun f=>(f.type,f.offset,P.cellsOf f.type))=some (ty,off,sz)) :
  ∃ n y,DataW.trod enc P W base spare held n ty ((cs.drop off).take sz)=some y:=by
 cases hf:fs[i]? with
 | none=>rw[hf] at hi; cases hi
 | some f =>
  rw[hf] at hi
  simp only[Option.map_some,Option.some.injEq,Prod.mk.injEq] at hi
  obtain⟨rfl,rfl,rfl⟩:=hi
  exact (struct_fields ht h).2 i f hf
end Go.Den
namespace Go.Den
open Go
theorem str_inj {a b:ByteArray}(h:a.toList=b.toList):a=b:=by
 rw[Go.ByteArray.toList_eq,Go.ByteArray.toList_eq] at h
 cases a; cases b
 congr
 exact Array.toList_inj.1 h
theorem str_beq (a b:ByteArray):(a.toList == b.toList)=decide (a=b):=by
 by_cases h:a=b
 ·subst h; simp
 ·have:¬ a.toList=b.toList:=fun e=>h (str_inj e)
  simp[h,this]
@[simp] theorem bin_str_eq (t:Nat)(c:Bool)(a b:ByteArray):binV .eql t c (.string a) (.string b)=some (.bool (decide (a=b))):=by
 show some (Value.bool _)=_
 rw[str_beq]
@[simp] theorem bin_str_ne (t:Nat)(c:Bool)(a b:ByteArray):binV .neq t c (.string a) (.string b)=some (.bool (!decide (a=b))):=by
 show some (Value.bool _)=_
 rw[str_beq]
theorem str_empty (s:ByteArray):s=⟨#[]⟩↔s.size=0:=by
 constructor
 ·rintro rfl; rfl
 ·intro h; cases s with | mk d=>congr; exact Array.eq_empty_of_size_eq_zero h
structure Cfg where
 stripes:Int
 sessions:Int
 queue:Int
 watches:Int
 retries:Int
 epochs:Int
 start:Int
def cfgC (c:Cfg):List Value:=[.int .i64 c.stripes,.int .i64 c.sessions,.int .i64 c.queue,.int .i64 c.watches,.int .i64 c.retries,.int .u64 c.epochs,.int .u64 c.start]
def I64 (n:Int):Prop:=-9223372036854775808≤n∧n≤9223372036854775807
def U64 (n:Int):Prop:=0≤n∧n≤18446744073709551615
structure CfgW (c:Cfg):Prop where
 i1:I64 c.stripes
 i2:I64 c.sessions
 i3:I64 c.queue
 i4:I64 c.watches
 i5:I64 c.retries
 u1:U64 c.epochs
 u2:U64 c.start
def rightB (c:Cfg):Bool:=decide (1≤c.stripes∧c.stripes≤8∧1≤c.sessions∧c.sessions≤8∧1≤c.queue∧c.queue≤16∧1≤c.watches∧c.watches≤8∧0≤c.retries∧c.retries≤4)
structure OpD where
 kind:Int
 user:ByteArray
 id:Int
 status:Int
 prio:Int
 ttl:Int
 users:List ByteArray
def opC (x:OpD)(v:Value):List Value:=[.int .i64 x.kind,.string x.user,.int .i64 x.id,.int .i64 x.status,.int .i64 x.prio,.int .u64 x.ttl,v]
structure OpW (x:OpD):Prop where
 i1:I64 x.kind
 i2:I64 x.id
 i3:I64 x.status
 i4:I64 x.prio
 u1:U64 x.ttl
 s1:x.user.size≤maxLen
theorem StrR.ext {h h':Heap}{c:List Value}{x:ByteArray}(_:Ext h h')(r:StrR h c x):StrR h' c x:=r
def OpR (h:Heap)(c:List Value)(x:OpD):Prop:=∃ v,c=opC x v∧Sl 1 StrR h v x.users∧OpW x
theorem OpR.ext {h h':Heap}{c:List Value}{x:OpD}(e:Ext h h')(r:OpR h c x):OpR h' c x:=let ⟨v,h1,h2,h3⟩:=r; ⟨v,h1,h2.ext (@StrR.ext) e,h3⟩
def nameB (s:ByteArray):Bool:=decide (0<s.size∧s.size≤16)
def badB (x:OpD):Bool :=
 if x.kind=1 then !(nameB x.user && decide (0≤x.id∧x.id≤255∧1≤x.status∧x.status≤9∧0≤x.prio∧x.prio≤9))
 else if x.kind=2∨x.kind=3 then !(nameB x.user && decide (0≤x.id∧x.id≤255))
 else if x.kind=4∨x.kind=6∨x.kind=7 then !nameB x.user
 else if x.kind=5 then !(decide (1≤x.users.length∧x.users.length≤8) && x.users.all nameB)
 else !decide (x.kind=8∨x.kind=9)
def shortB (x:OpD):Bool:=decide (x.user.size≤40) && (decide (x.users.length≤20) && x.users.all fun s=>decide (s.size≤40))
def usersOf (x:OpD):List ByteArray:=if x.kind=4 then [x.user] else if x.kind=5 then x.users else []
structure Sess where
 id:Int
 st:Int
 pr:Int
 un:Int
deriving DecidableEq
structure Pres where
 st:Int
 pr:Int
 lv:Int
deriving DecidableEq
structure Ent where
 ss:List Sess
 told:Pres
abbrev Book:=List (ByteArray × Ent)
structure Evt where
 user:ByteArray
 old:Pres
 new:Pres
 seq:Int
structure Ring where
 room:Int
 l:List Evt
 lost:Bool
structure Feed where
 ws:List (ByteArray × Int)
 qs:Nat→Ring
structure Strp where
 who:Int
 v:Int
 bound:Int
 snap:Book
 book:Book
 feed:Feed
structure Tm where
 now:Int
 seq:Int
 closed:Bool
deriving DecidableEq
structure ActD where
 who:Int
 kind:Int
 place:Int
structure Hall where
 c:Cfg
 t:Tm
 n:Nat
 ss:Nat→Strp
 acts:List ActD
def sessC (s:Sess):List Value:=[.int .i64 s.id,.int .i64 s.st,.int .i64 s.pr,.int .u64 s.un]
def presC (p:Pres):List Value:=[.int .i64 p.st,.int .i64 p.pr,.int .i64 p.lv]
def evC (e:Evt):List Value:=.string e.user::(presC e.old++presC e.new++[.int .u64 e.seq])
def tmC (t:Tm):List Value:=[.int .u64 t.now,.int .u64 t.seq,.bool t.closed]
def actC (a:ActD):List Value:=[.int .i64 a.who,.int .i64 a.kind,.int .i64 a.place]
def SessR (_:Heap)(c:List Value)(s:Sess):Prop:=c=sessC s
def PresR (_:Heap)(c:List Value)(p:Pres):Prop:=c=presC p
def EvR (_:Heap)(c:List Value)(e:Evt):Prop:=c=evC e
def ActR (_:Heap)(c:List Value)(a:ActD):Prop:=c=actC a
def EntR (h:Heap)(c:List Value)(e:Ent):Prop:=∃ v,c=v::presC e.told∧Sl 4 SessR h v e.ss∧Sn v
theorem SessR.ext {h h':Heap}{c:List Value}{x:Sess}(_:Ext h h')(r:SessR h c x):SessR h' c x:=r
theorem PresR.ext {h h':Heap}{c:List Value}{x:Pres}(_:Ext h h')(r:PresR h c x):PresR h' c x:=r
theorem EvR.ext {h h':Heap}{c:List Value}{x:Evt}(_:Ext h h')(r:EvR h c x):EvR h' c x:=r
theorem EntR.ext {h h':Heap}{c:List Value}{x:Ent}(e:Ext h h')(r:EntR h c x):EntR h' c x:=let ⟨v,h1,h2,h3⟩:=r; ⟨v,h1,h2.ext (@SessR.ext) e,h3⟩
def BookR (h:Heap)(k v:Value)(b:Book):Prop:=Sl 1 StrR h k (b.map (·.1))∧Sl 4 EntR h v (b.map (·.2))∧Sn k∧Sn v
theorem BookR.ext {h h':Heap}{k v:Value}{b:Book}(e:Ext h h')(r:BookR h k v b):BookR h' k v b:=⟨r.1.ext (@StrR.ext) e,r.2.1.ext (@EntR.ext) e,r.2.2⟩
theorem BookR.nil (h:Heap):BookR h (.slice none 0 0) (.slice none 0 0) []:=⟨.inl ⟨rfl,_,_,rfl⟩,.inl ⟨rfl,_,_,rfl⟩,Sn.nil,Sn.nil⟩
def MaskR (_:Heap)(c:List Value)(m:Int):Prop:=c=[.int .u32 m]
theorem MaskR.ext {h h':Heap}{c:List Value}{x:Int}(_:Ext h h')(r:MaskR h c x):MaskR h' c x:=r
structure Reply where
 err:Int
 vals:List Pres
 evs:List Evt
 lost:Bool
def ring0 (room:Int):Ring:=⟨max room 0,[],false⟩
def feed0 (room:Int):Feed:=⟨[],fun _=>ring0 room⟩
def evn (b:Int):Int:=b-b % 2
def strp0 (c:Cfg):Strp:=⟨0,0,evn c.epochs,[],[],feed0 c.queue⟩
def hall0 (c:Cfg)(n:Nat):Hall:=⟨c,⟨c.start,0,false⟩,n,fun _=>strp0 c,[]⟩
def Hall.did (H:Hall)(who kind place:Int):Hall:={ H with acts:=H.acts++[⟨who,kind,place⟩] }
def sput (f:Nat→Strp)(i:Nat)(x:Strp):Nat→Strp:=fun k=>if k=i then x else f k
def Hall.put (H:Hall)(i:Nat)(x:Strp):Hall:={ H with ss:=sput H.ss i x }
def Hall.epoch (H:Hall)(who:Int)(s:Nat):Hall:=H.did who 3 (4*s+2)
def Hall.snap (H:Hall)(who:Int)(s:Nat):Hall:=H.did who 3 (4*s+3)
def Hall.read (H:Hall)(who:Int)(s:Nat):Hall:=H.did who 1 (4*s+4)
def Hall.look (H:Hall)(who:Int):Hall:=H.did who 3 0
def wrt (v:Int):Bool:=v % 2 == 1
def bgn (v bound:Int):Int:=if v<bound∧wrt v=false then v+1 else v
def Hall.begin (H:Hall)(who:Int)(s:Nat):Hall:=(H.did who 4 (4*s+2)).put s { H.ss s with v:=bgn (H.ss s).v (H.ss s).bound }
def canTake (w who:Int):Bool:=decide (0≤who) && decide (w=0)
def canGive (w who:Int):Bool:=!decide (w=0) && decide (w-1=who)
def Hall.lock (H:Hall)(who:Int)(s:Nat):Hall:=if canTake (H.ss s).who who then (H.did who 5 (4*s+1)).put s { H.ss s with who:=who+1 } else H
def Hall.unlock (H:Hall)(who:Int)(s:Nat):Hall:=if canGive (H.ss s).who who then (H.did who 6 (4*s+1)).put s { H.ss s with who:=0 } else H
end Go.Den
namespace Go.Proofs.YtmbningljbcpkaaGreat
open Go Go.Den
set_option maxRecDepth 100000
set_option linter.unusedVariables false
noncomputable abbrev P:Program:=Tryz.prog
def nob:List Nat:=[0,1,2,288,293,295,303,313,314,315,316,317,318,319,320,321,322,323,324,325,326,327,328,329,330,331]
def gd (f:Nat):Bool:=Nat.blt f 332 && !(nob.any (Nat.beq f))
theorem good0 : ((List.range 332).all fun f => !gd f || (match P.funcs[f]? with | some fn => !fn.body.isNone && !(fn.name == "runtime.NumGoroutine") | none => false)) = true := by kernel_rfl
theorem good:GoodP P gd:=by
 intro f hf
 have h:=good0
 rw[List.all_eq_true] at h
 have hlt:f<332:=by
  simp only[gd,Bool.and_eq_true] at hf
  have h1:=hf.1
  rw[Nat.blt_eq] at h1
  exact h1
 have h2:=h f (List.mem_range.2 hlt)
 rw[hf] at h2
 cases hp:P.funcs[f]? with
 | none=>rw[hp] at h2; simp at h2
 | some fn =>
  rw[hp] at h2
  simp at h2
  exact⟨fn,rfl,by cases hb:fn.body<;>simp_all,by simp[h2.2]⟩
theorem mixed:P.follows .mixedOrders=true:=by kernel_rfl
abbrev qdPZ:FuncId:=7
abbrev qfFZ:FuncId:=13
abbrev qppZ:FuncId:=14
abbrev qiwZ:FuncId:=15
abbrev qlHZ:FuncId:=16
abbrev qhxZ:FuncId:=18
abbrev qkrZ:FuncId:=22
abbrev qeHZ:FuncId:=23
abbrev qjkZ:FuncId:=24
abbrev qfDZ:FuncId:=25
abbrev qeuZ:FuncId:=30
abbrev qfGZ:FuncId:=31
abbrev qcZZ:FuncId:=33
abbrev qdQZ:FuncId:=34
abbrev qixZ:FuncId:=35
abbrev qeWZ:FuncId:=36
abbrev qbyZ:FuncId:=38
abbrev qfHZ:FuncId:=39
abbrev qfIZ:FuncId:=40
abbrev qctZ:FuncId:=41
abbrev qeIZ:FuncId:=42
abbrev qdCZ:FuncId:=43
abbrev qaPZ:FuncId:=44
abbrev qaEZ:FuncId:=45
abbrev qaxZ:FuncId:=46
abbrev qeeZ:FuncId:=47
abbrev qaFZ:FuncId:=48
abbrev qeJZ:FuncId:=49
abbrev qdRZ:FuncId:=50
abbrev qefZ:FuncId:=51
abbrev qhyZ:FuncId:=52
abbrev qiyZ:FuncId:=53
abbrev qbsZ:FuncId:=103
abbrev qoZZ:FuncId:=104
abbrev qreZ:FuncId:=105
abbrev qrfZ:FuncId:=106
abbrev qksZ:FuncId:=108
abbrev qegZ:FuncId:=109
abbrev qktZ:FuncId:=112
abbrev qehZ:FuncId:=113
abbrev qizZ:FuncId:=114
abbrev qdaZ:FuncId:=115
abbrev qjlZ:FuncId:=116
abbrev qdSZ:FuncId:=117
abbrev qlIZ:FuncId:=118
abbrev qevZ:FuncId:=119
abbrev qhzZ:FuncId:=120
abbrev qcDZ:FuncId:=121
abbrev qjmZ:FuncId:=122
abbrev qdTZ:FuncId:=123
abbrev qjnZ:FuncId:=124
abbrev qdUZ:FuncId:=125
abbrev qhAZ:FuncId:=132
abbrev qhBZ:FuncId:=133
abbrev qAZ:FuncId:=134
abbrev qRZ:FuncId:=136
abbrev qcEZ:FuncId:=137
abbrev qbMZ:FuncId:=138
abbrev qewZ:FuncId:=139
abbrev qcvZ:FuncId:=140
abbrev qrZ:FuncId:=142
abbrev qpaZ:FuncId:=143
abbrev qfuZ:FuncId:=144
abbrev qlJZ:FuncId:=145
abbrev qfdZ:FuncId:=146
abbrev qqlZ:FuncId:=147
abbrev qaGZ:FuncId:=148
abbrev qfJZ:FuncId:=149
abbrev qcwZ:FuncId:=152
abbrev qiAZ:FuncId:=156
abbrev qlVZ:FuncId:=163
abbrev qayZ:FuncId:=175
abbrev qfKZ:FuncId:=176
abbrev qqmZ:FuncId:=177
abbrev qiBZ:FuncId:=179
abbrev qhCZ:FuncId:=180
abbrev qiCZ:FuncId:=181
abbrev qhDZ:FuncId:=182
abbrev qjoZ:FuncId:=183
abbrev qfLZ:FuncId:=184
abbrev qlKZ:FuncId:=185
abbrev qiDZ:FuncId:=186
abbrev qfeZ:FuncId:=187
abbrev qlFZ:FuncId:=188
abbrev qeaZ:FuncId:=189
abbrev qfMZ:FuncId:=190
abbrev qazZ:FuncId:=191
abbrev qbtZ:FuncId:=192
abbrev qfNZ:FuncId:=193
abbrev qfOZ:FuncId:=195
abbrev qcnZ:FuncId:=197
abbrev qMZ:FuncId:=204
abbrev qcoZ:FuncId:=205
abbrev qpZ:FuncId:=206
abbrev qGZ:FuncId:=207
abbrev qanZ:FuncId:=208
abbrev qsdZ:FuncId:=209
abbrev qjpZ:FuncId:=210
abbrev qfcZ:FuncId:=211
abbrev qpMZ:FuncId:=212
abbrev qaHZ:FuncId:=213
abbrev qasZ:FuncId:=214
abbrev qaIZ:FuncId:=215
abbrev qatZ:FuncId:=216
abbrev qYZ:FuncId:=217
abbrev qaXZ:FuncId:=218
abbrev qakZ:FuncId:=219
abbrev qfvZ:FuncId:=220
abbrev qpqZ:FuncId:=221
abbrev qaQZ:FuncId:=222
abbrev qhEZ:FuncId:=236
abbrev qjqZ:FuncId:=237
abbrev qlGZ:FuncId:=238
abbrev qrgZ:FuncId:=239
abbrev qqnZ:FuncId:=240
abbrev qpNZ:FuncId:=241
abbrev qjWZ:FuncId:=242
abbrev qdVZ:FuncId:=243
abbrev qbzZ:FuncId:=244
abbrev qeiZ:FuncId:=245
abbrev qiEZ:FuncId:=246
abbrev qhFZ:FuncId:=247
abbrev qcxZ:FuncId:=248
abbrev qdDZ:FuncId:=249
abbrev qcXZ:FuncId:=250
abbrev qpbZ:FuncId:=252
abbrev qcpZ:FuncId:=253
abbrev qEZ:FuncId:=257
abbrev qhGZ:FuncId:=258
abbrev qjrZ:FuncId:=259
abbrev qSZ:FuncId:=263
abbrev quZ:FuncId:=264
abbrev qaJZ:FuncId:=265
abbrev qmVZ:FuncId:=266
abbrev qjsZ:FuncId:=267
abbrev qalZ:FuncId:=268
abbrev qamZ:FuncId:=269
abbrev qaAZ:FuncId:=270
abbrev qaYZ:FuncId:=271
abbrev qbNZ:FuncId:=273
abbrev qoZ:FuncId:=275
abbrev qxZ:FuncId:=276
abbrev qbOZ:FuncId:=278
abbrev qNZ:FuncId:=281
abbrev qtiZ:FuncId:=282
abbrev qpcZ:FuncId:=283
abbrev qVZ:FuncId:=284
abbrev qahZ:FuncId:=285
abbrev qffZ:FuncId:=286
abbrev qjtZ:FuncId:=287
abbrev qfgZ:FuncId:=288
abbrev qkJZ:FuncId:=289
abbrev qauZ:FuncId:=290
abbrev qdZ:FuncId:=291
abbrev qiZ:FuncId:=292
abbrev qiYZ:FuncId:=293
abbrev qpdZ:FuncId:=294
abbrev qjuZ:FuncId:=298
abbrev qcYZ:FuncId:=299
abbrev qmWZ:FuncId:=300
abbrev qhHZ:FuncId:=301
abbrev qfzZ:FuncId:=303
abbrev qlLZ:FuncId:=304
abbrev qeKZ:FuncId:=307
abbrev qtWZ:TypeId:=0
abbrev qsZ:TypeId:=3
abbrev qetZ:TypeId:=4
abbrev qXZ:TypeId:=9
abbrev qarZ:TypeId:=25
abbrev qaoZ:TypeId:=27
abbrev qgZ:TypeId:=35
abbrev qaiZ:TypeId:=37
abbrev qzZ:TypeId:=39
abbrev qlZ:TypeId:=45
abbrev qeZ:TypeId:=47
abbrev qaZ:TypeId:=49
abbrev qHZ:TypeId:=51
abbrev qbuZ:TypeId:=54
abbrev qbZ:TypeId:=58
abbrev qhZ:TypeId:=60
abbrev qjZ:TypeId:=62
abbrev qFZ:TypeId:=65
abbrev qqZ:TypeId:=67
abbrev qBZ:TypeId:=71
abbrev qbvZ:TypeId:=72
abbrev qaRZ:TypeId:=77
abbrev qIZ:TypeId:=78
abbrev qfEZ:TypeId:=80
abbrev qbPZ:TypeId:=83
abbrev qfZ:TypeId:=90
abbrev qmZ:TypeId:=92
abbrev qOZ:TypeId:=94
abbrev qbZZ:TypeId:=147
abbrev qaKZ:TypeId:=149
abbrev qPZ:TypeId:=151
abbrev qnZ:TypeId:=156
abbrev qKZ:TypeId:=158
abbrev qyZ:TypeId:=163
abbrev qkZ:TypeId:=176
abbrev qcaZ:TypeId:=190
abbrev qcbZ:TypeId:=191
abbrev qdbZ:TypeId:=193
abbrev quVZ:TypeId:=202
abbrev qiZZ:TypeId:=226
abbrev qexZ:TypeId:=230
abbrev qtZ:TypeId:=233
abbrev qvZ:TypeId:=244
abbrev qUZ:TypeId:=248
abbrev qcZ:TypeId:=261
abbrev qQZ:TypeId:=275
abbrev qLZ:TypeId:=283
abbrev qTZ:TypeId:=292
end Go.Proofs.YtmbningljbcpkaaGreat
namespace Go.Proofs.YtmbningljbcpkaaGreat
open Go Go.Den
set_option linter.unusedSimpArgs false
set_option linter.unusedVariables false
def CfgR (_:Heap)(c:List Value)(x:Cfg):Prop:=c=cfgC x∧CfgW x
theorem rdrCfg:Rdr P 27 CfgR:=fun enc W base spare held fuel cs x h=>by
 have hl:cs.length=7:=(struct_fields (P:=P) Tryz.underlying27 h).1.trans (by kernel_rfl)
 obtain⟨_,_,h0⟩:=struct_field (P:=P) Tryz.underlying27 h 0 3 0 1 (by kernel_rfl)
 obtain⟨_,_,h1⟩:=struct_field (P:=P) Tryz.underlying27 h 1 3 1 1 (by kernel_rfl)
 obtain⟨_,_,h2⟩:=struct_field (P:=P) Tryz.underlying27 h 2 3 2 1 (by kernel_rfl)
 obtain⟨_,_,h3⟩:=struct_field (P:=P) Tryz.underlying27 h 3 3 3 1 (by kernel_rfl)
 obtain⟨_,_,h4⟩:=struct_field (P:=P) Tryz.underlying27 h 4 3 4 1 (by kernel_rfl)
 obtain⟨_,_,h5⟩:=struct_field (P:=P) Tryz.underlying27 h 5 25 5 1 (by kernel_rfl)
 obtain⟨_,_,h6⟩:=struct_field (P:=P) Tryz.underlying27 h 6 25 6 1 (by kernel_rfl)
 obtain⟨a0,e0,_,w0⟩:=DataW.trod_int Tryz.underlying3 h0
 obtain⟨a1,e1,_,w1⟩:=DataW.trod_int Tryz.underlying3 h1
 obtain⟨a2,e2,_,w2⟩:=DataW.trod_int Tryz.underlying3 h2
 obtain⟨a3,e3,_,w3⟩:=DataW.trod_int Tryz.underlying3 h3
 obtain⟨a4,e4,_,w4⟩:=DataW.trod_int Tryz.underlying3 h4
 obtain⟨a5,e5,_,w5⟩:=DataW.trod_int Tryz.underlying25 h5
 obtain⟨a6,e6,_,w6⟩:=DataW.trod_int Tryz.underlying25 h6
 match cs,hl with
 | [x0,x1,x2,x3,x4,x5,x6],_ =>
  simp at e0 e1 e2 e3 e4 e5 e6
  exact⟨⟨a0,a1,a2,a3,a4,a5,a6⟩,by simp[cfgC,e0,e1,e2,e3,e4,e5,e6],⟨wf_i64 w0,wf_i64 w1,wf_i64 w2,wf_i64 w3,wf_i64 w4,wf_u64 w5,wf_u64 w6⟩⟩
theorem rdrOp:Rdr P 37 OpR:=fun enc W base spare held fuel cs x h=>by
 have hl:cs.length=7:=(struct_fields (P:=P) Tryz.underlying37 h).1.trans (by kernel_rfl)
 obtain⟨_,_,h0⟩:=struct_field (P:=P) Tryz.underlying37 h 0 3 0 1 (by kernel_rfl)
 obtain⟨_,_,h1⟩:=struct_field (P:=P) Tryz.underlying37 h 1 9 1 1 (by kernel_rfl)
 obtain⟨_,_,h2⟩:=struct_field (P:=P) Tryz.underlying37 h 2 3 2 1 (by kernel_rfl)
 obtain⟨_,_,h3⟩:=struct_field (P:=P) Tryz.underlying37 h 3 3 3 1 (by kernel_rfl)
 obtain⟨_,_,h4⟩:=struct_field (P:=P) Tryz.underlying37 h 4 3 4 1 (by kernel_rfl)
 obtain⟨_,_,h5⟩:=struct_field (P:=P) Tryz.underlying37 h 5 25 5 1 (by kernel_rfl)
 obtain⟨_,_,h6⟩:=struct_field (P:=P) Tryz.underlying37 h 6 35 6 1 (by kernel_rfl)
 obtain⟨a0,e0,_,w0⟩:=DataW.trod_int Tryz.underlying3 h0
 obtain⟨a1,e1,w1⟩:=Rdr.str (P:=P) Tryz.underlying9 _ _ _ _ _ _ _ _ h1
 obtain⟨a2,e2,_,w2⟩:=DataW.trod_int Tryz.underlying3 h2
 obtain⟨a3,e3,_,w3⟩:=DataW.trod_int Tryz.underlying3 h3
 obtain⟨a4,e4,_,w4⟩:=DataW.trod_int Tryz.underlying3 h4
 obtain⟨a5,e5,_,w5⟩:=DataW.trod_int Tryz.underlying25 h5
 obtain⟨u,v,e6,hv⟩:=Rdr.slice (P:=P) (sz:=1) Tryz.underlying35 (by kernel_rfl) (by decide) (Rdr.str (P:=P) Tryz.underlying9) _ _ _ _ _ _ _ _ h6
 match cs,hl with
 | [x0,x1,x2,x3,x4,x5,x6],_ =>
  simp at e0 e1 e2 e3 e4 e5 e6
  exact⟨⟨a0,a1,a2,a3,a4,a5,u⟩,v,by simp[opC,e0,e1,e2,e3,e4,e5,e6],hv,⟨wf_i64 w0,wf_i64 w2,wf_i64 w3,wf_i64 w4,wf_u64 w5,w1⟩⟩
end Go.Proofs.YtmbningljbcpkaaGreat
