import Derived.Calls
import Derived.Below
import Derived.Maps.AppendAt
import Derived.Laws.OwnMore
import Derived.Shelf.Abstract
import Derived.Wp
import Derived.Tactics
import Derived.Deep.Draws
import Derived.Laws.Cells
import Derived.Laws.CopyRow
import Derived.Laws.StructEq
import Derived.Laws.CopyOwn
import Derived.Laws.Slices
import Derived.Laws.BytesString
set_option linter.unusedSimpArgs false
namespace Go.Vx
open Go
set_option linter.unusedVariables false
variable {R:Type}

/-! ### 1. Types of data, and their Lean types -/
inductive Ty where
 | unit
 | cons (a b:Ty)
 | int (k:IntKind)
 | bool
 | str
 | list (r:Ty)

@[reducible] def Ty.D:Ty → Type
 | .unit => Unit
 | .cons a b => a.D × b.D
 | .int _ => Int
 | .bool => Bool
 | .str => ByteArray
 | .list r => List r.D

def Ty.width:Ty → Nat
 | .unit => 0
 | .cons _ b => b.width + 1
 | _ => 1

def Ty.eq?:(a b:Ty) → Option (PLift (a = b))
 | .unit,.unit => some ⟨rfl⟩
 | .cons a b,.cons c d => match a.eq? c,b.eq? d with
  | some ⟨h⟩,some ⟨h'⟩ => some ⟨by rw [h,h']⟩
  | _,_ => none
 | .int k,.int k' => if h:k = k' then some ⟨by rw [h]⟩ else none
 | .bool,.bool => some ⟨rfl⟩
 | .str,.str => some ⟨rfl⟩
 | .list a,.list b => match a.eq? b with
  | some ⟨h⟩ => some ⟨by rw [h]⟩
  | none => none
 | _,_ => none

def castD (a b:Ty) (x:a.D):Option b.D:=
 match a.eq? b with
 | some ⟨h⟩ => some (h ▸ x)
 | none => none
def castM (a b:Ty) (x:List (a.D × Bool)):Option (List (b.D × Bool)):=
 match a.eq? b with
 | some ⟨h⟩ => some (h ▸ x)
 | none => none

/-! ### 2. Abstract values, blocks, states -/
inductive AC where
 | junk
 | c (t:Ty) (x:t.D)
 | nilS
 | nilP
 | own (id:Nat)
 | ptr (id off:Nat)
 | el (r:Ty) (x:r.D) (off:Nat)
 | eo (id:Nat) (i:Nat) (wd:Nat) (off:Nat)
 | fn (f:FuncId)
 | clo (f:FuncId) (cs:List (Option (Nat × Nat)))
 | mp (id:Nat)
 | os (id lo hi wd:Nat)
 | bs (id n:Nat)
 | pn (id off:Nat) (b:Bool)
 | dp (id:Nat)
 | raw (v:Value)
 | un
 | q (e r:Bool)

inductive A1 where
 | one (a:AC)
 | row (l:List AC)

inductive AV where
 | v (x:A1)
 | tup (l:List A1)

def A1.cells:A1 → List AC
 | .one a => [a]
 | .row l => l

inductive Blk where
 | dead
 | box (t:Nat) (l:List AC)
 | lst (e:Nat) (r:Ty) (xs:List r.D) (fz:Bool)
 | mp (kr:Ty) (es:List (kr.D × Bool))
 | byt (e:Nat) (xs:List Int)
 | it (s:ByteArray) (pos:Nat)

inductive Key where
 | s (t:Nat)
 | m (id:Nat)
 deriving DecidableEq

structure St where
 env:List (Nat × AV)
 mem:List (Nat × Blk)

def lookE (s:Nat):List (Nat × AV) → AV
 | [] => .v (.one .junk)
 | (k,v) :: l => bif Nat.beq k s then v else lookE s l
def lookM (s:Nat):List (Nat × Blk) → Option Blk
 | [] => none
 | (k,v) :: l => bif Nat.beq k s then some v else lookM s l
def St.get (σ:St) (s:Nat):AV:=lookE s σ.env
def St.blk (σ:St) (s:Nat):Option Blk:=lookM s σ.mem

/-! ### 3. The table of types -/
structure TI where
 desc:TypeDesc
 width:Nat
 bytes:Nat
 agg:Bool
 row:Option Ty
 zero:List Value

def rowTy (P:Program):Nat → Nat → Option Ty
 | 0,_ => none
 | n + 1,t => match P.underlying t with
  | some (.int k) => some (.int k)
  | some .bool => some .bool
  | some .string => some .str
  | some (.slice e) => (rowTy P n e).bind fun r => some (.list r)
  | some (.struct fs) => flat (fs.toList.map fun f => rowTy P n f.type)
  | _ => none
where
 onto:Ty → Ty → Ty
  | .unit,r => r
  | .cons a b,r => .cons a (onto b r)
  | t,r => .cons t r
 flat:List (Option Ty) → Option Ty
  | [] => some .unit
  | none :: _ => none
  | some t :: l => (flat l).bind fun r => some (onto t r)
def isAgg:TypeDesc → Bool
 | .struct _ => true
 | .array _ _ => true
 | _ => false
def lookT (t:Nat) (P:Program):Option TI:=
 match P.underlying t,P.info? t with
 | some d,some i => match i.zero with
  | some z => some { desc:=d,width:=i.size,bytes:=i.bytes,agg:=isAgg d,row:=rowTy P 8 t,zero:=z.cells.toList }
  | none => none
 | _,_ => none

/-! ### 4. Operands, data -/
def ofCell:Value → AC
 | .int k n => .c (.int k) n
 | .bool b => .c .bool b
 | .string s => .c .str s
 | .slice none 0 0 => .nilS
 | .pointer none => .nilP
 | .agg _ => .junk
 | .tuple _ => .junk
 | v => .raw v
def AC.ok:AC → Bool
 | .junk => false
 | .un => false
 | _ => true
def ofVal:Value → A1
 | .agg cs => .row (cs.toList.map ofCell)
 | v => .one (ofCell v)

def ev (σ:St):Operand → AV
 | .tmp t => σ.get t
 | .const v => .v (ofVal v)
 | .func f => .v (.one (.fn f))
 | .global _ => .v (.one .junk)
def opKeys:Operand → List Key
 | .tmp t => [.s t]
 | _ => []

def asD (m:List (Nat × Blk)) (t:Ty) (a:AC):Option t.D:=
 match a with
 | .c t' x => castD t' t x
 | .nilS => match t with
  | .list _ => some []
  | _ => none
 | .own id => match lookM id m with
  | some (.lst _ r xs true) => castD (.list r) t xs
  | _ => none
 | .os id lo hi wd => match lookM id m with
  | some (.lst _ r xs true) => bif Nat.beq wd r.width then castD (.list r) t ((xs.take hi).drop lo) else none
  | _ => none
 | _ => none
def capKeys:List (Option (Nat × Nat)) → List Key
 | [] => []
 | some p :: l => .m p.1 :: capKeys l
 | none :: l => capKeys l
def acKeys:AC → List Key
 | .own id => [.m id]
 | .clo _ cs => capKeys cs
 | .mp id => [.m id]
 | .os id _ _ _ => [.m id]
 | .bs id _ => [.m id]
 | .pn id _ _ => [.m id]
 | .dp id => [.m id]
 | .ptr id _ => [.m id]
 | .eo id _ _ _ => [.m id]
 | _ => []

def pack (m:List (Nat × Blk)):(r:Ty) → List AC → Option r.D
 | .unit,[] => some ()
 | .unit,_ :: _ => none
 | .cons a b,x :: l => (asD m a x).bind fun y => (pack m b l).bind fun z => some (y,z)
 | .cons _ _,[] => none
 | .int k,[x] => asD m (.int k) x
 | .bool,[x] => asD m .bool x
 | .str,[x] => asD m .str x
 | .list r,[x] => asD m (.list r) x
 | _,_ => none

def cellsOf:(r:Ty) → r.D → List AC
 | .unit,_ => []
 | .cons a b,x => .c a x.1 :: cellsOf b x.2
 | .int k,x => [.c (.int k) x]
 | .bool,x => [.c .bool x]
 | .str,x => [.c .str x]
 | .list r,x => [.c (.list r) x]

/-! ### 5. Shapes -/
inductive SAC where
 | junk
 | d (t:Ty)
 | nilS
 | nilP
 | own (id:Nat)
 | ptr (id off:Nat)
 | fn (f:FuncId)
 | clo (f:FuncId) (cs:List (Option (Nat × Nat)))
 | mp (id:Nat)
 | os (id wd:Nat)
 | eo (id wd off:Nat)
 | bs (id n:Nat)
 | pn (id off:Nat)
@[reducible] def SAC.P:SAC → Type → Type
 | .d t,X => t.D × X
 | .os _ _,X => Nat × Nat × X
 | .eo _ _ _,X => Nat × X
 | .pn _ _,X => Bool × X
 | _,X => X
@[reducible] def rowP:List SAC → Type → Type
 | [],X => X
 | s :: l,X => s.P (rowP l X)
inductive SA1 where
 | one (a:SAC)
 | row (l:List SAC)
@[reducible] def SA1.P:SA1 → Type → Type
 | .one a,X => a.P X
 | .row l,X => rowP l X
inductive SBlk where
 | box (t:Nat) (l:List SAC)
 | lst (e:Nat) (r:Ty) (fz:Bool)
 | mp (kr:Ty)
 | dead
 | it
@[reducible] def SBlk.P:SBlk → Type → Type
 | .box _ l,X => rowP l X
 | .lst _ r _,X => List r.D × X
 | .mp kr,X => List (kr.D × Bool) × X
 | .dead,X => X
 | .it,X => ByteArray × Nat × X
structure Shape where
 env:List (Nat × SA1)
 mem:List (Nat × SBlk)
@[reducible] def envP:List (Nat × SA1) → Type → Type
 | [],X => X
 | e :: l,X => e.2.P (envP l X)
@[reducible] def memP:List (Nat × SBlk) → Type
 | [] => Unit
 | e :: l => e.2.P (memP l)
@[reducible] def Shape.D (s:Shape):Type:=envP s.env (memP s.mem)

/-! embedding -/
def emAC:(s:SAC) → {X:Type} → s.P X → AC × X
 | .junk,_,p => (.junk,p)
 | .d t,_,p => (.c t p.1,p.2)
 | .nilS,_,p => (.nilS,p)
 | .nilP,_,p => (.nilP,p)
 | .own i,_,p => (.own i,p)
 | .ptr i o,_,p => (.ptr i o,p)
 | .fn f,_,p => (.fn f,p)
 | .clo f cs,_,p => (.clo f cs,p)
 | .mp i,_,p => (.mp i,p)
 | .os i wd,_,p => (.os i p.1 p.2.1 wd,p.2.2)
 | .eo i wd o,_,p => (.eo i p.1 wd o,p.2)
 | .bs i n,_,p => (.bs i n,p)
 | .pn i o,_,p => (.pn i o p.1,p.2)
def emRow:(l:List SAC) → {X:Type} → rowP l X → List AC × X
 | [],_,p => ([],p)
 | s :: l,_,p => let q:=emAC s p; let r:=emRow l q.2; (q.1 :: r.1,r.2)
def emA1:(s:SA1) → {X:Type} → s.P X → A1 × X
 | .one a,_,p => let q:=emAC a p; (.one q.1,q.2)
 | .row l,_,p => let q:=emRow l p; (.row q.1,q.2)
def emEnv:(l:List (Nat × SA1)) → {X:Type} → envP l X → List (Nat × AV) × X
 | [],_,p => ([],p)
 | e :: l,_,p => let q:=emA1 e.2 p; let r:=emEnv l q.2; ((e.1,.v q.1) :: r.1,r.2)
def emBlk:(s:SBlk) → {X:Type} → s.P X → Blk × X
 | .box t l,_,p => let q:=emRow l p; (.box t q.1,q.2)
 | .lst e r fz,_,p => (.lst e r p.1 fz,p.2)
 | .mp kr,_,p => (.mp kr p.1,p.2)
 | .dead,_,p => (.dead,p)
 | .it,_,p => (.it p.1 p.2.1,p.2.2)
def emMem:(l:List (Nat × SBlk)) → memP l → List (Nat × Blk)
 | [],_ => []
 | e :: l,p => let q:=emBlk e.2 p; (e.1,q.1) :: emMem l q.2
def embed (s:Shape) (p:s.D):St:=let q:=emEnv s.env p; ⟨q.1,emMem s.mem q.2⟩

/-! matching: which id of the shape is which of the state (none: a nil slice) -/
abbrev Ren:=List (Nat × Option Nat)
def lookR (i:Nat):Ren → Option (Option Nat)
 | [] => none
 | (k,v) :: l => bif Nat.beq k i then some v else lookR i l
def onEq:Option Nat → Option Nat → Bool
 | none,none => true
 | some a,some b => Nat.beq a b
 | _,_ => false
def taken (j:Option Nat):Ren → Bool
 | [] => false
 | (_,v) :: l => (match j,v with | some a,some b => Nat.beq a b | _,_ => false) || taken j l
def bindId (ρ:Ren) (i:Nat) (j:Option Nat):Option Ren:=
 match lookR i ρ with
 | some j' => bif onEq j j' then some ρ else none
 | none => bif taken j ρ then none else some ((i,j) :: ρ)
def maCaps (ρ:Ren):List (Option (Nat × Nat)) → List (Option (Nat × Nat)) → Option Ren
 | [],[] => some ρ
 | none :: l,none :: k => maCaps ρ l k
 | some p :: l,some q :: k => bif Nat.beq p.2 q.2 then (bindId ρ p.1 (some q.1)).bind fun ρ => maCaps ρ l k else none
 | _,_ => none
def maAC (ρ:Ren):SAC → AC → Option Ren
 | .junk,_ => some ρ
 | .d _,_ => some ρ
 | .nilS,.nilS => some ρ
 | .nilP,.nilP => some ρ
 | .own i,.own j => bindId ρ i (some j)
 | .own i,.nilS => bindId ρ i none
 | .ptr i o,.ptr j o' => bif Nat.beq o o' then bindId ρ i (some j) else none
 | .fn f,.fn g => bif Nat.beq f g then some ρ else none
 | .clo f l,.clo g k => bif Nat.beq f g then maCaps ρ l k else none
 | .mp i,.mp j => bindId ρ i (some j)
 | .os i wd,.os j _ _ wd' => bif Nat.beq wd wd' then bindId ρ i (some j) else none
 | .os i _,.own j => bindId ρ i (some j)
 | .os i _,.nilS => bindId ρ i none
 | .eo i wd o,.eo j _ wd' o' => bif Nat.beq wd wd' && Nat.beq o o' then bindId ρ i (some j) else none
 | .bs i n,.bs j n' => bif Nat.beq n n' then bindId ρ i (some j) else none
 | .pn i o,.ptr j o' => bif Nat.beq o o' then bindId ρ i (some j) else none
 | .pn i o,.pn j o' _ => bif Nat.beq o o' then bindId ρ i (some j) else none
 | .pn i _,.nilP => match lookR i ρ with
  | some (some _) => some ρ
  | _ => none
 | _,_ => none
def maRow (ρ:Ren):List SAC → List AC → Option Ren
 | [],[] => some ρ
 | s :: l,a :: k => (maAC ρ s a).bind fun ρ => maRow ρ l k
 | _,_ => none
def maA1 (ρ:Ren):SA1 → AV → Option Ren
 | .one s,.v (.one a) => maAC ρ s a
 | .row l,.v (.row k) => maRow ρ l k
 | .one .junk,_ => some ρ
 | _,_ => none
def maEnv (σ:St) (ρ:Ren):List (Nat × SA1) → Option Ren
 | [] => some ρ
 | e :: l => (maA1 ρ e.2 (σ.get e.1)).bind fun ρ => maEnv σ ρ l
def maMem (m:List (Nat × Blk)) (ρ:Ren):List (Nat × SBlk) → Option Ren
 | [] => some ρ
 | (i,.box t l) :: k => match lookR i ρ with
  | some (some j) => match lookM j m with
   | some (.box t' cs) => bif Nat.beq t t' then (maRow ρ l cs).bind fun ρ => maMem m ρ k else none
   | _ => none
  | _ => none
 | (i,.lst e r fz) :: k => match lookR i ρ with
  | some (some j) => match lookM j m with
   | some (.lst e' r' _ fz') => match r'.eq? r with
    | some _ => bif Nat.beq e e' && ((fz' && fz) || (!fz' && !fz)) && Nat.blt 0 r.width then maMem m ρ k else none
    | none => none
   | _ => none
  | some none => bif Nat.blt 0 r.width then maMem m ρ k else none
  | none => none
 | (i,.mp kr) :: k => match lookR i ρ with
  | some (some j) => match lookM j m with
   | some (.mp kr' _) => match kr'.eq? kr with
    | some _ => maMem m ρ k
    | none => none
   | _ => none
  | _ => none
 | (i,.dead) :: k => match lookR i ρ with
  | some (some j) => match lookM j m with
   | some _ => maMem m ρ k
   | _ => none
  | _ => none
 | (i,.it) :: k => match lookR i ρ with
  | some (some j) => match lookM j m with
   | some (.it _ _) => maMem m ρ k
   | _ => none
  | _ => none

/-! extraction of the data -/
def exAC (m:List (Nat × Blk)):(s:SAC) → AC → {X:Type} → Option X → Option (s.P X)
 | .d t,a,_,x => (asD m t a).bind fun y => x.bind fun z => some (y,z)
 | .junk,_,_,x => x
 | .nilS,_,_,x => x
 | .nilP,_,_,x => x
 | .own _,_,_,x => x
 | .ptr _ _,_,_,x => x
 | .fn _,_,_,x => x
 | .clo _ _,_,_,x => x
 | .mp _,_,_,x => x
 | .os _ wd,a,_,x => match a with
  | .os _ lo hi _ => x.bind fun z => some (lo,hi,z)
  | .own j => (match lookM j m with
   | some (.lst _ r xs false) => bif Nat.beq r.width wd then x.bind fun z => some (0,xs.length,z) else none
   | _ => none)
  | .nilS => x.bind fun z => some (0,0,z)
  | _ => none
 | .eo _ _ _,a,_,x => match a with
  | .eo _ k _ _ => x.bind fun z => some (k,z)
  | _ => none
 | .bs _ _,_,_,x => x
 | .pn _ _,a,_,x => match a with
  | .ptr _ _ => x.bind fun z => some (false,z)
  | .pn _ _ b => x.bind fun z => some (b,z)
  | .nilP => x.bind fun z => some (true,z)
  | _ => none
def exRow (m:List (Nat × Blk)):(l:List SAC) → List AC → {X:Type} → Option X → Option (rowP l X)
 | [],_,_,x => x
 | s :: l,a :: k,_,x => exAC m s a (exRow m l k x)
 | s :: l,[],_,x => exAC m s .junk (exRow m l [] x)
def exA1 (m:List (Nat × Blk)):(s:SA1) → AV → {X:Type} → Option X → Option (s.P X)
 | .one s,.v (.one a),_,x => exAC m s a x
 | .row l,.v (.row k),_,x => exRow m l k x
 | .one s,_,_,x => exAC m s .junk x
 | .row l,_,_,x => exRow m l [] x
def exEnv (σ:St):(l:List (Nat × SA1)) → {X:Type} → Option X → Option (envP l X)
 | [],_,x => x
 | e :: l,_,x => exA1 σ.mem e.2 (σ.get e.1) (exEnv σ l x)
def exBlk (m:List (Nat × Blk)) (ρ:Ren) (i:Nat):(s:SBlk) → {X:Type} → Option X → Option (s.P X)
 | .box _ l,_,x => match lookR i ρ with
  | some (some j) => match lookM j m with
   | some (.box _ cs) => exRow m l cs x
   | _ => none
  | _ => none
 | .lst _ r _,_,x => match lookR i ρ with
  | some (some j) => match lookM j m with
   | some (.lst _ r' xs _) => (castD (.list r') (.list r) xs).bind fun y => x.bind fun z => some (y,z)
   | _ => none
  | some none => x.bind fun z => some ([],z)
  | none => none
 | .mp kr,_,x => match lookR i ρ with
  | some (some j) => match lookM j m with
   | some (.mp kr' es) => (castM kr' kr es).bind fun y => x.bind fun z => some (y,z)
   | _ => none
  | _ => none
 | .dead,_,x => x
 | .it,_,x => match lookR i ρ with
  | some (some j) => match lookM j m with
   | some (.it s pos) => x.bind fun z => some (s,pos,z)
   | _ => none
  | _ => none
def exMem (m:List (Nat × Blk)) (ρ:Ren):(l:List (Nat × SBlk)) → Option (memP l)
 | [] => some ()
 | e :: l => exBlk m ρ e.1 e.2 (exMem m ρ l)
def hasId (i:Nat):List (Nat × SBlk) → Bool
 | [] => false
 | e :: l => Nat.beq e.1 i || hasId i l
def known (l:List (Nat × SBlk)):Ren → Bool
 | [] => true
 | p :: ρ => hasId p.1 l && known l ρ
def matchShape (ρ0:Ren) (s:Shape) (σ:St):Option Ren:=(maEnv σ ρ0 s.env).bind fun ρ => (maMem σ.mem ρ s.mem).bind fun ρ => bif known s.mem ρ then some ρ else none
def pin (i:Nat):Bool:=Nat.ble 100000 i && Nat.blt i 200000
def pinOk:Ren → Bool
 | [] => true
 | p :: ρ => (!pin p.1 || onEq (some p.1) p.2) && pinOk ρ
def pins:List (Nat × SBlk) → Ren
 | [] => []
 | e :: l => bif pin e.1 then (e.1,some e.1) :: pins l else pins l
def extractC (s:Shape) (σ:St):Option s.D:=(matchShape [] s σ).bind fun ρ => exEnv σ s.env (exMem σ.mem ρ s.mem)
def extract (s:Shape) (σ:St):Option s.D:=
 (matchShape (pins s.mem) s σ).bind fun ρ => bif pinOk ρ then exEnv σ s.env (exMem σ.mem ρ s.mem) else none

/-! ### 6. Entries -/
structure FE where
 f:FuncId
 sh:Shape
 out:Shape
 F:sh.D → Option out.D

inductive XE where
 | norm
 | ret
 | ex (id:Nat)
 | go (l:Nat)
def XE.eq:XE → XE → Bool
 | .norm,.norm => true
 | .ret,.ret => true
 | .ex a,.ex b => Nat.beq a b
 | .go a,.go b => Nat.beq a b
 | _,_ => false
@[reducible] def OutsD:List (XE × Shape) → Type
 | [] => Empty
 | [o] => o.2.D
 | o :: p :: os => o.2.D ⊕ OutsD (p :: os)
structure CE where
 sh:Shape
 outs:List (XE × Shape)
 f:sh.D → Option (OutsD outs)
def emOuts:(os:List (XE × Shape)) → OutsD os → XE × St
 | [],e => nomatch e
 | [o],p => (o.1,embed o.2 p)
 | o :: _ :: _,.inl p => (o.1,embed o.2 p)
 | _ :: q :: os,.inr p => emOuts (q :: os) p
def exOuts:(os:List (XE × Shape)) → XE → St → Option (OutsD os)
 | [],_,_ => none
 | [o],x,σ => bif o.1.eq x then extract o.2 σ else none
 | o :: p :: os,x,σ => bif o.1.eq x then (extract o.2 σ).bind fun y => some (.inl y) else (exOuts (p :: os) x σ).bind fun y => some (.inr y)

/-! ### 7. Operations -/
structure Eff where
 put:AV
 blks:List (Nat × Blk)
 rd:List Key
def St.apply (σ:St) (dst:Option Nat) (e:Eff):St:=
 ⟨(match dst with | some d => (d,e.put) :: σ.env | none => σ.env),e.blks ++ σ.mem⟩

def data (t:Ty) (x:t.D):AV:=.v (.one (.c t x))
def one (a:AC):AV:=.v (.one a)
def bl (s:ByteArray):List UInt8:=s.data.toList
def bt (s:ByteArray) (i:Int):Int:=((s[i.toNat]?.getD 0).toNat:Int)
def cellOr (a:AC) (b:AC) (cnd:Bool):Option AC:=
 match a,b with
 | .c t x,.c t' y => match castD t' t y with
  | some y => some (.c t (bif cnd then x else y))
  | none => none
 | _,_ => none
def fieldAt (T:Program) (t f:Nat):Option (Nat × TI):=
 match lookT t T with
 | some ti => match ti.desc with
  | .struct fs => match fs.toList[f]? with
   | some fd => match lookT fd.type T with
    | some tf => some (fd.offset,tf)
    | none => none
   | none => none
  | _ => none
 | none => none
def elemOf (T:Program) (t:Nat):Option (Nat × TI):=
 match lookT t T with
 | some ti => match ti.desc with
  | .slice e => match lookT e T with
   | some te => some (e,te)
   | none => none
  | _ => none
 | none => none
def part (ti:TI) (cs:List AC) (off:Nat):Option A1:=
 bif ti.agg then (bif Nat.ble (off + ti.width) cs.length then some (.row ((cs.drop off).take ti.width)) else none)
 else match cs[off]? with
  | some a => some (.one a)
  | none => none
def splice (cs:List AC) (off:Nat) (new:List AC):List AC:=cs.take off ++ new ++ cs.drop (off + new.length)
def allCells:List (Nat × A1) → (place:Nat → Option (Nat × Nat)) → List AC → Option (List AC)
 | [],_,cs => some cs
 | (i,a) :: l,place,cs => match place i with
  | some (off,w) => bif a.cells.all AC.ok && (Nat.beq a.cells.length w && Nat.ble (off + w) cs.length) then allCells l place (splice cs off a.cells) else none
  | none => none
def placesOf (P:Program) (t:Nat):Option (List (Nat × Nat)):=
 match P.underlying t with
 | some (.struct fs) => fs.toList.mapM fun f => (P.info? f.type).map fun i => (f.offset,i.size)
 | _ => none
def evParts (σ:St):List (Nat × Operand) → Option (List (Nat × A1))
 | [] => some []
 | (i,x) :: l => match ev σ x with
  | .v a => (evParts σ l).bind fun r => some ((i,a) :: r)
  | .tup _ => none
def rowsOf (m:List (Nat × Blk)) (r:Ty) (w:Nat):(n:Nat) → List AC → Option (List r.D)
 | 0,_ => some []
 | n + 1,cs => (pack m r (cs.take w)).bind fun y => (rowsOf m r w n (cs.drop w)).bind fun ys => some (y :: ys)
def cellKeys (l:List AC):List Key:=l.flatMap acKeys
def avKeys:AV → List Key
 | .v a => cellKeys a.cells
 | .tup l => l.flatMap fun a => cellKeys a.cells
def eqFs (P:Program) (rec:Nat → List AC → List AC → Option Bool) (l l':List AC):List Field → Option Bool
 | [] => some true
 | f :: fs => bif f.name == "_" then none else match lookT f.type P with
  | some tf => bif (tf.agg || Nat.beq tf.width 1) && (Nat.ble (f.offset + tf.width) l.length && Nat.ble (f.offset + tf.width) l'.length) then
    (rec f.type ((l.drop f.offset).take tf.width) ((l'.drop f.offset).take tf.width)).bind fun x => match fs with
     | [] => some x
     | g :: fs => (eqFs P rec l l' (g :: fs)).bind fun y => some (x && y)
   else none
  | none => none
def eqTy (P:Program):Nat → Nat → List AC → List AC → Option Bool
 | 0,_,_,_ => none
 | n + 1,t,l,l' => match P.underlying t with
  | some (.int _) => match l,l' with
   | [.c (.int i) x],[.c (.int j) y] => if i = j then some (x == y) else none
   | _,_ => none
  | some .bool => match l,l' with
   | [.c .bool x],[.c .bool y] => some (x == y)
   | _,_ => none
  | some .string => match l,l' with
   | [.c .str x],[.c .str y] => some (bl x == bl y)
   | _,_ => none
  | some (.struct fs) => bif P.stoodInHeld t then none else eqFs P (eqTy P n) l l' fs.toList
  | _ => none
def isBoolTy (P:Program) (t:Nat):Bool:=match P.underlying t with
 | some .bool => true
 | _ => false
def isPtrTy (P:Program) (t:Nat):Bool:=match P.underlying t with
 | some (.pointer _) => true
 | _ => false
def isSlcTy (P:Program) (t:Nat):Bool:=match P.underlying t with
 | some (.slice _) => true
 | _ => false
def fitsS (x y:ByteArray):Bool:=Nat.ble (x.size + y.size) 9223372036854775807
def binCells (P:Program) (t:Nat) (op:BinOp) (a b:AC):Option (Bool × AC):=
 match a,b with
 | .c (.int i) x,.c (.int j) y =>
  if i = j then
   match op with
   | .add => some (true,.c (.int i) (i.wrap (x + y)))
   | .sub => some (true,.c (.int i) (i.wrap (x - y)))
   | .mul => some (true,.c (.int i) (i.wrap (x * y)))
   | .quo => some (!decide (y = 0),.c (.int i) (i.wrap (x.tdiv y)))
   | .rem => some (!decide (y = 0),.c (.int i) (x.tmod y))
   | .eql => some (true,.c .bool (x == y))
   | .neq => some (true,.c .bool (x != y))
   | .lss => some (true,.c .bool (decide (x < y)))
   | .leq => some (true,.c .bool (decide (x ≤ y)))
   | .gtr => some (true,.c .bool (decide (x > y)))
   | .geq => some (true,.c .bool (decide (x ≥ y)))
   | _ => none
  else none
 | .c .str x,.c .str y =>
  match op with
  | .add => some (fitsS x y,.c .str (x ++ y))
  | .eql => some (true,.c .bool (bl x == bl y))
  | .neq => some (true,.c .bool (!(bl x == bl y)))
  | .lss => some (true,.c .bool (Op.bytesLess (bl x) (bl y)))
  | .leq => some (true,.c .bool (Op.bytesLess (bl x) (bl y) || bl x == bl y))
  | .gtr => some (true,.c .bool (!(Op.bytesLess (bl x) (bl y) || bl x == bl y)))
  | .geq => some (true,.c .bool (!(Op.bytesLess (bl x) (bl y))))
  | _ => none
 | .c .bool x,.c .bool y => bif !isBoolTy P t then none else
  match op with
  | .eql => some (true,.c .bool (x == y))
  | .neq => some (true,.c .bool (!(x == y)))
  | _ => none
 | .c (.list _) xs,.nilS => bif !isSlcTy P t then none else match op with
  | .eql => some (true,.q xs.isEmpty false)
  | .neq => some (true,.q xs.isEmpty true)
  | _ => none
 | .own _,.nilS => bif !isSlcTy P t then none else match op with
  | .eql => some (true,.q true false)
  | .neq => some (true,.q true true)
  | _ => none
 | _,_ => none
def isStrTy (P:Program) (t:Nat):Bool:=match P.underlying t with
 | some .string => true
 | _ => false
def loOf (σ:St):Option Operand → Option Int
 | none => some 0
 | some x => match ev σ x with
  | .v (.one (.c (.int _) l)) => some l
  | _ => none
def hiOf (σ:St) (x:Option Operand) (n:Nat):Option Int:=
 match x with
 | none => some (n:Int)
 | some x => match ev σ x with
  | .v (.one (.c (.int _) l)) => some l
  | _ => none
def listOf (m:List (Nat × Blk)) (r:Ty) (a:AC):Option (List r.D):=asD m (.list r) a
def lenOf (m:List (Nat × Blk)):AC → Option Int
 | .c (.list _) xs => some (xs.length:Int)
 | .c .str s => some (s.size:Int)
 | .nilS => some 0
 | .own id => match lookM id m with
  | some (.lst _ _ xs _) => some (xs.length:Int)
  | _ => none
 | .os _ lo hi _ => some ((hi - lo:Nat):Int)
 | _ => none

def lenTy (P:Program) (t:Nat) (a:AC):Bool:=match P.underlying t,a with
 | some .string,.c .str _ => true
 | some (.slice _),.c (.list _) _ => true
 | some (.slice _),.nilS => true
 | some (.slice _),.own _ => true
 | some (.slice _),.os _ _ _ _ => true
 | _,_ => false
def srcOf (m:List (Nat × Blk)) (r:Ty) (x:AC):Option (List r.D):=
 match x with
 | .own j => match lookM j m with
  | some (.lst _ r' ys _) => castD (.list r') (.list r) ys
  | _ => none
 | .os j lo hi wd => match lookM j m with
  | some (.lst _ r' ys _) => bif Nat.beq wd r'.width then castD (.list r') (.list r) ((ys.take hi).drop lo) else none
  | _ => none
 | x => listOf m r x
def sameOwn (i:Nat):AC → Bool
 | .own j => Nat.beq i j
 | .os j _ _ _ => Nat.beq i j
 | _ => false
def oldBlk:Option Nat → List (Nat × Blk)
 | none => []
 | some i => [(i,.dead)]
structure Cx where
 T:Program
 G:List FE
 mu:List Nat
 n:Nat
 L:List (Nat × CE)
 fr:List Nat

def memN (n:Nat):List Nat → Bool
 | [] => false
 | k :: l => Nat.beq k n || memN n l

def capIds:List (Option (Nat × Nat)) → List Nat
 | [] => []
 | some p :: l => p.1 :: capIds l
 | none :: l => capIds l
def acIds:AC → List Nat
 | .own id => [id]
 | .clo _ cs => capIds cs
 | .mp id => [id]
 | .os id _ _ _ => [id]
 | .bs id _ => [id]
 | .pn id _ _ => [id]
 | .dp id => [id]
 | .ptr id _ => [id]
 | .eo id _ _ _ => [id]
 | _ => []
def avIds:AV → List Nat
 | .v a => a.cells.flatMap acIds
 | .tup l => l.flatMap fun a => a.cells.flatMap acIds
def blkIds:List (Nat × Blk) → List Nat
 | [] => []
 | (_,.box _ l) :: m => l.flatMap acIds ++ blkIds m
 | _ :: m => blkIds m
def restrict (m:List (Nat × Blk)):List Nat → List (Nat × Blk)
 | [] => []
 | i :: l => match lookM i m with
  | some b => (i,b) :: restrict m l
  | none => restrict m l
def reach (m:List (Nat × Blk)):Nat → List Nat → List Nat
 | 0,l => l
 | n + 1,l => let new:=blkIds (restrict m l); match new with
  | [] => l
  | _ => l ++ reach m n new
def allBack (out:List (Nat × SBlk)):List (Nat × SBlk) → Bool
 | [] => true
 | e :: l => hasId e.1 out && allBack out l
def newIds (d:Nat):List (Nat × SBlk) → List Nat
 | [] => []
 | e :: l => bif pin e.1 then newIds d l else (64 * d + 1000000 + e.1) :: newIds d l
def backId (ρ:Ren) (d i:Nat):Nat:=
 bif pin i then (match lookR i ρ with | some (some j) => j | _ => 0) else 64 * d + 1000000 + i
def allPin:List (Nat × SBlk) → Bool
 | [] => true
 | e :: l => pin e.1 && allPin l
def backAC (f:Nat → Nat):AC → AC
 | .own i => .own (f i)
 | .ptr i o => .ptr (f i) o
 | .eo i j w o => .eo (f i) j w o
 | .clo g cs => .clo g (cs.map fun c => c.map fun p => (f p.1,p.2))
 | .mp i => .mp (f i)
 | .os i lo hi wd => .os (f i) lo hi wd
 | .bs i n => .bs (f i) n
 | .pn i o b => .pn (f i) o b
 | .dp i => .dp (f i)
 | a => a
def backA1 (f:Nat → Nat):A1 → A1
 | .one a => .one (backAC f a)
 | .row l => .row (l.map (backAC f))
def backBlk (f:Nat → Nat):Blk → Blk
 | .box t l => .box t (l.map (backAC f))
 | b => b
def outA1s:List (Nat × AV) → List A1
 | [] => []
 | (_,.v a) :: l => a :: outA1s l
 | (_,.tup _) :: l => .one .junk :: outA1s l
def noneNil (ρ:Ren):Bool:=ρ.all fun p => p.2.isSome
def findFE (f:FuncId) (σ:St):List FE → Option FE
 | [] => none
 | e :: l => bif Nat.beq e.f f && (matchShape [] e.sh σ).isSome then some e else findFE f σ l
def argEnv:Nat → List AV → List (Nat × AV)
 | _,[] => []
 | i,a :: l => (i,a) :: argEnv (i + 1) l
def inOrder:Nat → List (Nat × SA1) → Bool
 | _,[] => true
 | i,e :: l => Nat.beq e.1 i && inOrder (i + 1) l

def callFE (cx:Cx) (d:Nat) (σ:St) (f:FuncId) (args:List AV) (rd:List Key) (k:Eff → Option R):Option R:=
 let ids:=reach σ.mem 3 (args.flatMap avIds)
 let α:St:=⟨argEnv 0 args,restrict σ.mem ids⟩
 match findFE f α cx.G with
 | none => none
 | some e => match matchShape [] e.sh α with
  | none => none
  | some ρ =>
   let ns:=newIds d e.out.mem
   bif allBack e.out.mem e.sh.mem && (allPin e.sh.mem && (noneNil ρ && (ns.all fun i => (lookM i σ.mem).isNone) && (inOrder 0 e.sh.env && Nat.beq e.sh.env.length args.length))) then
    (extractC e.sh α).bind fun p => (e.F p).bind fun r =>
     let τ:=embed e.out r
     let g:=backId ρ d
     let res:=(outA1s τ.env).map (backA1 g)
     k { put:=(match res with | [a] => .v a | l => .tup l),blks:=τ.mem.map fun b => (g b.1,backBlk g b.2),rd:=rd ++ (ids ++ ns).map .m }
   else none

def bstr (l:List Int):ByteArray:=l.foldl (fun r n => r.push (UInt8.ofNat n.toNat)) ByteArray.empty
def isBytesTy (P:Program) (t:Nat):Bool:=match P.underlying t with
 | some (.slice e) => (match P.underlying e with
  | some (.int .u8) => true
  | _ => false)
 | _ => false
def bytesArg (P:Program) (σ:St) (s t:Nat) (x:Operand):Option (List Int):=
 bif isBytesTy P s && isStrTy P t then (match ev σ x with
  | .v (.one a) => asD σ.mem (.list (.int .u8)) a
  | _ => none) else none
def convOld (cx:Cx) (σ:St) (s t:Nat) (x:Operand) (k:Eff → Option R):Option R:=
 bif !(cx.T.underlying s).isSome then none else match lookT t cx.T,ev σ x with
  | some ti,.v (.one (.c (.int _) n)) => match ti.desc with
   | .int j => k { put:=data (.int j) (j.wrap n),blks:=[],rd:=opKeys x }
   | _ => none
  | some ti,.v (.one (.c .str z)) => match ti.desc with
   | .string => k { put:=data .str z,blks:=[],rd:=opKeys x }
   | _ => none
  | _,_ => none
def tailOf (m:List (Nat × Blk)):AC → Option (Nat × Nat × Nat × Nat)
 | .own id => match lookM id m with
  | some (.lst _ r xs false) => some (id,0,xs.length,r.width)
  | _ => none
 | .os id lo hi wd => match lookM id m with
  | some (.lst _ _ _ false) => some (id,lo,hi - lo,wd)
  | _ => none
 | _ => none
def flatTy:Ty → Bool
 | .unit => true
 | .cons a b => flatTy a && flatTy b
 | .int _ => true
 | .bool => true
 | .str => true
 | .list _ => false
def boolElem (T:Program) (e:Nat):Bool:=isBoolTy T e && (match T.info? e with
 | some i => (match i.zero with
  | some (.bool false) => true
  | _ => false)
 | none => false)
def mapOf (T:Program) (t:Nat):Option (Nat × Ty):=
 match T.underlying t with
 | some (.map k e) => match boolElem T e,lookT k T with
  | true,some tk => match tk.agg,tk.row with
   | true,some r => bif flatTy r && Nat.beq r.width tk.width then some (k,r) else none
   | _,_ => none
  | _,_ => none
 | _ => none
def ckFs (P:Program) (rec:Nat → List AC → Bool) (l:List AC):List Field → Bool
 | [] => true
 | f :: fs => bif f.name == "_" then false else match lookT f.type P with
  | some tf => (tf.agg || Nat.beq tf.width 1) && (Nat.ble (f.offset + tf.width) l.length && (rec f.type ((l.drop f.offset).take tf.width) && ckFs P rec l fs))
  | none => false
def ckTy (P:Program):Nat → Nat → List AC → Bool
 | 0,_,_ => false
 | n + 1,t,l => match P.underlying t with
  | some (.int _) => true
  | some .bool => true
  | some .string => true
  | some (.struct fs) => ckFs P (ckTy P n) l fs.toList
  | _ => false
def dEqB:(r:Ty) → r.D → r.D → Bool
 | .unit,_,_ => true
 | .cons a b,x,y => dEqB a x.1 y.1 && dEqB b x.2 y.2
 | .int _,x,y => x == y
 | .bool,x,y => x == y
 | .str,x,y => bl x == bl y
 | .list _,_,_ => false
def mget (P:Program) (kt:Nat) (kr:Ty) (k:kr.D):List (kr.D × Bool) → Option Bool
 | [] => some false
 | e :: l => (eqTy P 8 kt (cellsOf kr k) (cellsOf kr e.1)).bind fun q => bif q then some e.2 else mget P kt kr k l
def mput (P:Program) (kt:Nat) (kr:Ty) (k:kr.D) (b:Bool):List (kr.D × Bool) → Option (List (kr.D × Bool))
 | [] => some [(k,b)]
 | e :: l => (eqTy P 8 kt (cellsOf kr k) (cellsOf kr e.1)).bind fun q => bif q then (bif dEqB kr k e.1 then some ((k,b) :: l) else none) else (mput P kt kr k b l).map (e :: ·)
def capsOf (σ:St):List Operand → Option (List (Option (Nat × Nat)))
 | [] => some []
 | x :: l => match ev σ x with
  | .v (.one (.ptr id off)) => (capsOf σ l).map (some (id,off) :: ·)
  | .v (.one .nilP) => (capsOf σ l).map (none :: ·)
  | _ => none
def capAC:Option (Nat × Nat) → AC
 | none => .nilP
 | some p => .ptr p.1 p.2
def capAVs (cs:List (Option (Nat × Nat))):List AV:=cs.map fun c => .v (.one (capAC c))
def sliceOld (cx:Cx) (σ:St) (t:Nat) (x:Operand) (lo hi mx:Option Operand) (k:Eff → Option R):Option R:=
 match mx with
 | some mo => match loOf σ lo,hi,ev σ x,ev σ mo with
  | some l,some ho,.v (.one a),.v (.one (.c (.int _) mm)) => match elemOf cx.T t with
   | some (_,te) => match te.row with
    | some r => bif !Nat.beq r.width te.width then none else (listOf σ.mem r a).bind fun xs =>
     match hiOf σ (some ho) xs.length with
     | some h => bif decide (0 ≤ l) && (decide (l ≤ h) && (decide (h ≤ mm) && decide (mm ≤ (xs.length:Int)))) then
       k { put:=data (.list r) ((xs.take h.toNat).drop l.toNat),blks:=[],rd:=acKeys a ++ opKeys x ++ lo.elim [] opKeys ++ opKeys ho ++ opKeys mo } else none
     | none => none
    | none => none
   | none => none
  | _,_,_,_ => none
 | none => match loOf σ lo,ev σ x with
  | some l,.v (.one (.c .str s)) => match hiOf σ hi s.size with
   | some h => bif isStrTy cx.T t then bif decide (0 ≤ l) && (decide (l ≤ h) && decide (h ≤ (s.size:Int))) then
     k { put:=data .str (s.extract l.toNat h.toNat),blks:=[],rd:=opKeys x ++ lo.elim [] opKeys ++ hi.elim [] opKeys } else none
    else none
   | none => none
  | some l,.v (.one a) => match elemOf cx.T t with
   | some (_,te) => match te.row with
    | some r => bif !Nat.beq r.width te.width then none else (listOf σ.mem r a).bind fun xs =>
     match hiOf σ hi xs.length with
     | some h => bif decide (0 ≤ l) && (decide (l ≤ h) && decide (h ≤ (xs.length:Int))) then
       k { put:=data (.list r) ((xs.take h.toNat).drop l.toNat),blks:=[],rd:=acKeys a ++ opKeys x ++ lo.elim [] opKeys ++ hi.elim [] opKeys } else none
     | none => none
    | none => none
   | none => none
  | _,_ => none
def step0 (cx:Cx) (σ:St) (o:Oper) (k:Eff → Option R):Option R:=
 let d:=o.dst.getD 0
 match o.op with
 | .move x => k { put:=ev σ x,blks:=[],rd:=opKeys x }
 | .assign x => k { put:=ev σ x,blks:=[],rd:=opKeys x }
 | .pick c a b => match ev σ c with
  | .v (.one (.c .bool q)) => match ev σ a,ev σ b with
   | .v (.one x),.v (.one y) => match cellOr x y q with
    | some z => k { put:=one z,blks:=[],rd:=opKeys c ++ opKeys a ++ opKeys b }
    | none => bif q then k { put:=one x,blks:=[],rd:=opKeys c ++ opKeys a ++ opKeys b } else k { put:=one y,blks:=[],rd:=opKeys c ++ opKeys a ++ opKeys b }
   | _,_ => none
  | _ => none
 | .alloc t => match lookT t cx.T,lookM d σ.mem with
  | some ti,none => k { put:=one (.ptr d 0),blks:=[(d,.box t (ti.zero.map ofCell))],rd:=[.m d] }
  | _,_ => none
 | .box t x => match lookT t cx.T,lookM d σ.mem,ev σ x with
  | some ti,none,.v a => bif a.cells.all AC.ok then k { put:=one (.ptr d 0),blks:=[(d,.box t a.cells)],rd:=.m d :: opKeys x } else none
  | _,_,_ => none
 | .load t x => match lookT t cx.T,ev σ x with
  | some ti,.v (.one (.ptr id off)) => match lookM id σ.mem with
   | some (.box _ l) => match part ti l off with
    | some a => k { put:=.v a,blks:=[],rd:=.m id :: opKeys x }
    | none => none
   | _ => none
  | some ti,.v (.one (.el r y off)) => match part ti (cellsOf r y) off with
   | some a => k { put:=.v a,blks:=[],rd:=opKeys x }
   | none => none
  | some ti,.v (.one (.eo id i wd off)) => match lookM id σ.mem with
   | some (.lst _ r xs _) => bif !Nat.beq wd r.width then none else xs[i]?.bind fun y => match part ti (cellsOf r y) off with
    | some a => k { put:=.v a,blks:=[],rd:=.m id :: opKeys x }
    | none => none
   | _ => none
  | _,_ => none
 | .store t x v => match lookT t cx.T,ev σ x,ev σ v with
  | some ti,.v (.one (.ptr id off)),.v a => match lookM id σ.mem with
   | some (.box t' l) => bif a.cells.all AC.ok && (Nat.beq a.cells.length ti.width && Nat.ble (off + ti.width) l.length) then
     k { put:=one .junk,blks:=[(id,.box t' (splice l off a.cells))],rd:=.m id :: opKeys x ++ opKeys v } else none
   | _ => none
  | some ti,.v (.one (.eo id i wd off)),.v a => match lookM id σ.mem with
   | some (.lst e r xs false) => bif a.cells.all AC.ok && (Nat.beq a.cells.length ti.width && (Nat.beq wd r.width && Nat.ble (off + ti.width) r.width)) then
     xs[i]?.bind fun y => (pack σ.mem r (splice (cellsOf r y) off a.cells)).bind fun z =>
      k { put:=one .junk,blks:=[(id,.lst e r (xs.set i z) false)],rd:=.m id :: opKeys x ++ opKeys v ++ cellKeys (splice (cellsOf r y) off a.cells) }
    else none
   | _ => none
  | _,_,_ => none
 | .fieldAddr t x f => match fieldAt cx.T t f,ev σ x with
  | some (fo,tf),.v (.one (.ptr id off)) => bif Nat.beq tf.width 0 then none else k { put:=one (.ptr id (off + fo)),blks:=[],rd:=opKeys x }
  | some (fo,tf),.v (.one (.el r y off)) => bif Nat.beq tf.width 0 then none else k { put:=one (.el r y (off + fo)),blks:=[],rd:=opKeys x }
  | some (fo,tf),.v (.one (.eo id i wd off)) => bif Nat.beq tf.width 0 then none else k { put:=one (.eo id i wd (off + fo)),blks:=[],rd:=opKeys x }
  | _,_ => none
 | .field t x f => match fieldAt cx.T t f,ev σ x with
  | some (fo,tf),.v (.row l) => match part tf l fo with
   | some a => k { put:=.v a,blks:=[],rd:=opKeys x }
   | none => none
  | _,_ => none
 | .build t ps => match lookT t cx.T,evParts σ ps.toList,placesOf cx.T t with
  | some ti,some l,some pl => match allCells l (pl[·]?) (ti.zero.map ofCell) with
    | some cs => k { put:=.v (.row cs),blks:=[],rd:=(ps.toList.flatMap fun p => opKeys p.2) }
    | none => none
  | _,_,_ => none
 | .buildSlice t n ps => match elemOf cx.T t,evParts σ ps.toList,lookM d σ.mem with
  | some (e,te),some l,none => match te.row with
   | some r => bif Nat.beq r.width te.width && (Nat.blt 0 te.width && (Nat.ble (n * te.width) 16777216 && Nat.beq te.zero.length te.width)) then
     match allCells l (fun i => some (i * te.width,te.width)) ((List.replicate n (te.zero.map ofCell)).flatten) with
     | some cs => (rowsOf σ.mem r te.width n cs).bind fun xs =>
      k { put:=one (.own d),blks:=[(d,.lst e r xs (!memN d cx.mu))],rd:=.m d :: (ps.toList.flatMap fun p => opKeys p.2) ++ cellKeys cs }
     | none => none
    else none
   | none => none
  | _,_,_ => none
 | .makeSlice t x y => match elemOf cx.T t,lookM d σ.mem with
  | some (e,te),none => match te.row with
   | some r => match ev σ x,ev σ y with
    | .v (.one (.c (.int _) l)),.v (.one (.c (.int _) c)) =>
     bif Nat.beq r.width te.width && (Nat.blt 0 te.width && Nat.beq te.zero.length te.width) then
      (pack [] r (te.zero.map ofCell)).bind fun z =>
      bif decide (0 ≤ l) && (decide (l ≤ c) && decide ((te.bytes:Int) * c ≤ 281474976710656) && decide (c ≤ 9223372036854775807)) then
       k { put:=one (.own d),blks:=[(d,.lst e r (List.replicate l.toNat z) (!memN d cx.mu))],rd:=.m d :: opKeys x ++ opKeys y }
      else none
     else none
    | _,_ => none
   | none => none
  | _,_ => none
 | .indexAddr t x i => match elemOf cx.T t,ev σ x,ev σ i with
  | some (_,te),.v (.one a),.v (.one (.c (.int _) j)) => match te.row with
   | some r => match a with
    | .own id => match lookM id σ.mem with
     | some (.lst _ r' xs fz) => bif !Nat.beq r'.width te.width then none else bif fz then
       bif decide (0 ≤ j) then xs[j.toNat]?.bind fun y => k { put:=one (.el r' y 0),blks:=[],rd:=.m id :: opKeys x ++ opKeys i } else none
      else bif decide (0 ≤ j) && decide (j < (xs.length:Int)) then k { put:=one (.eo id j.toNat r'.width 0),blks:=[],rd:=.m id :: opKeys x ++ opKeys i } else none
     | _ => none
    | .c (.list r') xs => bif !Nat.beq r'.width te.width then none else bif decide (0 ≤ j) then xs[j.toNat]?.bind fun y => k { put:=one (.el r' y 0),blks:=[],rd:=opKeys x ++ opKeys i } else none
    | .nilS => none
    | .os id lo hi wd => match lookM id σ.mem with
     | some (.lst _ r' xs false) => bif !(Nat.beq r'.width te.width && Nat.beq wd r'.width) then none else
       bif decide (0 ≤ j) && decide (j < ((hi - lo:Nat):Int)) then k { put:=one (.eo id (lo + j.toNat) r'.width 0),blks:=[],rd:=.m id :: opKeys x ++ opKeys i } else none
     | _ => none
    | _ => none
   | none => none
  | _,_,_ => none
 | .index t x i => match ev σ x,ev σ i with
  | .v (.one (.c .str s)),.v (.one (.c (.int _) j)) => bif isStrTy cx.T t && (decide (0 ≤ j) && decide (j < (s.size:Int))) then k { put:=data (.int .u8) (bt s j),blks:=[],rd:=opKeys x ++ opKeys i } else none
  | _,_ => none
 | .slice t x lo hi mx => match (match ev σ x with | .v (.one a) => tailOf σ.mem a | _ => none) with
  | some (id,b,n,wd) => bif mx.isSome && hi.isNone then none else match elemOf cx.T t,loOf σ lo,hiOf σ hi n,hiOf σ mx n with
   | some (_,te),some l,some h,some mm => bif Nat.beq wd te.width then (bif decide (0 ≤ l) && (decide (l ≤ h) && (decide (h ≤ mm) && decide (mm ≤ (n:Int)))) then
     k { put:=one (.os id (b + l.toNat) (b + h.toNat) wd),blks:=[],rd:=.m id :: opKeys x ++ lo.elim [] opKeys ++ hi.elim [] opKeys ++ mx.elim [] opKeys } else none) else none
   | _,_,_,_ => none
  | none => sliceOld cx σ t x lo hi mx k
 | .binOp op t x y _ => match ev σ x,ev σ y with
  | .v (.one a),.v (.one b) => match binCells cx.T t op a b with
   | some (c,z) => bif c then k { put:=one z,blks:=[],rd:=opKeys x ++ opKeys y } else none
   | none => none
  | .v (.row l),.v (.row l') => bif cx.T.eqGuardType cx.T.depth t then none else
    match lookT t cx.T,eqTy cx.T 8 t l l' with
    | some ti,some q => bif ti.agg then match op with
     | .eql => k { put:=data .bool q,blks:=[],rd:=opKeys x ++ opKeys y }
     | .neq => k { put:=data .bool (!q),blks:=[],rd:=opKeys x ++ opKeys y }
     | _ => none
     else none
    | _,_ => none
  | _,_ => none
 | .unOp op _ x => match ev σ x with
  | .v (.one (.c .bool q)) => match op with
   | .not => k { put:=data .bool (!q),blks:=[],rd:=opKeys x }
   | _ => none
  | .v (.one (.c (.int i) n)) => match op with
   | .neg => k { put:=data (.int i) (i.wrap (0 - n)),blks:=[],rd:=opKeys x }
   | _ => none
  | _ => none
 | .convert s t x => match bytesArg cx.T σ s t x with
  | some ys => k { put:=data .str (bstr ys),blks:=[],rd:=opKeys x ++ avKeys (ev σ x) }
  | none => convOld cx σ s t x k
 | .extract x i => match ev σ x with
  | .tup l => match l[i]? with
   | some a => k { put:=.v a,blks:=[],rd:=opKeys x }
   | none => none
  | _ => none
 | .nilCheck x => match ev σ x with
  | .v (.one (.ptr id off)) => k { put:=one (.ptr id off),blks:=[],rd:=opKeys x }
  | _ => none
 | .call c => match c.callee with
  | .builtin b => match b,c.args.toList.map (ev σ),c.argTypes.toList with
   | .len,[.v (.one a)],[t] => bif lenTy cx.T t a then (lenOf σ.mem a).bind fun n => k { put:=data (.int .i64) n,blks:=[],rd:=acKeys a ++ c.args.toList.flatMap opKeys } else none
   | .min,[.v (.one (.c (.int i) x)),.v (.one (.c (.int j) y))],_ => if i = j then k { put:=data (.int i) (bif decide (y < x) then y else x),blks:=[],rd:=c.args.toList.flatMap opKeys } else none
   | .clear,[.v (.one a)],[t] => match tailOf σ.mem a,elemOf cx.T t with
    | some (id,b,n,wd),some (_,te) => match lookM id σ.mem with
     | some (.lst e r xs _) => bif Nat.beq r.width te.width && (Nat.beq wd r.width && (Nat.blt 0 te.width && Nat.beq te.zero.length te.width)) then
       (pack [] r (te.zero.map ofCell)).bind fun z =>
        k { put:=.tup [],blks:=[(id,.lst e r (xs.take b ++ List.replicate n z ++ xs.drop (b + n)) false)],rd:=.m id :: acKeys a ++ c.args.toList.flatMap opKeys } else none
     | _ => none
    | _,_ => none
   | .max,[.v (.one (.c (.int i) x)),.v (.one (.c (.int j) y)),.v (.one (.c (.int j') z))],_ => if i = j then (if i = j' then k { put:=data (.int i) (bif decide (z > (bif decide (y > x) then y else x)) then z else (bif decide (y > x) then y else x)),blks:=[],rd:=c.args.toList.flatMap opKeys } else none) else none
   | .max,[.v (.one (.c (.int i) x)),.v (.one (.c (.int j) y))],_ => if i = j then k { put:=data (.int i) (bif decide (y > x) then y else x),blks:=[],rd:=c.args.toList.flatMap opKeys } else none
   | .append,[.v (.one s),.v (.one x)],[t,t'] => match elemOf cx.T t,lookM d σ.mem with
    | some (e,te),none => match te.row with
     | some r => bif Nat.beq t t' && (Nat.beq r.width te.width && (Nat.blt 0 te.width && (Nat.blt 0 te.bytes && Nat.beq te.zero.length te.width))) then
      (srcOf σ.mem r x).bind fun ys =>
      let fin (xs:List r.D) (old:Option Nat) (fz:Bool):=
       bif decide (xs.length + ys.length ≤ 140737488355328 / te.bytes) then
        k { put:=one (.own d),blks:=(d,.lst e r (xs ++ ys) (fz || !memN d cx.mu)) :: oldBlk old,rd:=Key.m d :: acKeys s ++ acKeys x ++ c.args.toList.flatMap opKeys } else none
      match s with
      | .nilS => fin [] none false
      | .own id => bif sameOwn id x then none else
       match lookM id σ.mem with
       | some (.lst e' r' xs fz) => bif Nat.beq e e' then (castD (.list r') (.list r) xs).bind fun xs => fin xs (some id) fz else none
       | _ => none
      | _ => none
      else none
     | none => none
    | _,_ => none
   | _,_,_ => none
  | .value x => match ev σ x with
   | .v (.one (.fn f)) => callFE cx d σ f (c.args.toList.map (ev σ)) (opKeys x ++ c.args.toList.flatMap opKeys) k
   | .v (.one (.clo f cs)) => callFE cx d σ f (c.args.toList.map (ev σ) ++ capAVs cs) (opKeys x ++ c.args.toList.flatMap opKeys) k
   | _ => none
  | _ => none
 | .makeFunc fn first caps => match fn with
  | .func f => match first.toList with
   | [] => match caps.toList with
    | [] => k { put:=one (.fn f),blks:=[],rd:=[] }
    | c :: l => (capsOf σ (c :: l)).bind fun cs => k { put:=one (.clo f cs),blks:=[],rd:=(c :: l).flatMap opKeys }
   | _ => none
  | _ => none
 | .makeMap t r => match r,mapOf cx.T t,lookM d σ.mem with
  | none,some (_,kr),none => k { put:=one (.mp d),blks:=[(d,.mp kr [])],rd:=[.m d] }
  | _,_,_ => none
 | .lookup t x i ok => bif ok then none else match mapOf cx.T t,ev σ x,ev σ i with
  | some (kt,kr),.v (.one (.mp id)),.v (.row l) => match lookM id σ.mem with
   | some (.mp kr' es) => bif !ckTy cx.T 8 kt l then none else (castM kr' kr es).bind fun es => (pack σ.mem kr l).bind fun y => (mget cx.T kt kr y es).bind fun b =>
     k { put:=data .bool b,blks:=[],rd:=.m id :: opKeys x ++ opKeys i ++ cellKeys l }
   | _ => none
  | _,_,_ => none
 | .mapUpdate t x i v => match mapOf cx.T t,ev σ x,ev σ i,ev σ v with
  | some (kt,kr),.v (.one (.mp id)),.v (.row l),.v (.one (.c .bool b)) => match lookM id σ.mem with
   | some (.mp kr' es) => bif !ckTy cx.T 8 kt l then none else (castM kr' kr es).bind fun es => (pack σ.mem kr l).bind fun y => (mput cx.T kt kr y b es).bind fun es' =>
     k { put:=one .junk,blks:=[(id,.mp kr es')],rd:=.m id :: opKeys x ++ opKeys i ++ opKeys v ++ cellKeys l }
   | _ => none
  | _,_,_,_ => none
 | _ => none

/-! ### 7b. More operations -/
def caseN (f:Nat → Option R) (j:Int):Nat → Nat → Option R
 | _,0 => none
 | i,n + 1 => bif j == (i:Int) then f i else caseN f j (i + 1) n
def cellsAt (T:Program) (t:Nat):AC → Option (Nat × Nat × Nat × Nat)
 | .ptr id off => match T.underlying t with
  | some (.array n e) => match lookT e T with
   | some te => some (id,off,te.width,n)
   | none => none
  | _ => none
 | .bs id n => match T.underlying t with
  | some (.slice e) => match lookT e T with
   | some te => bif Nat.beq te.width 1 then some (id,0,1,n) else none
   | none => none
  | _ => none
 | _ => none
def bytAt (m:List (Nat × Blk)):AC → Option (Nat × Nat × Nat × List Int)
 | .eo id i 1 0 => match lookM id m with
  | some (.byt e xs) => some (id,i,e,xs)
  | _ => none
 | _ => none
def isU8 (T:Program) (t:Nat):Bool:=match lookT t T with
 | some ti => (match ti.desc with
  | .int .u8 => Nat.beq ti.width 1
  | _ => false)
 | none => false
def arrOf (T:Program) (t:Nat):Option (Nat × TI):=match T.underlying t with
 | some (.array _ e) => (lookT e T).map fun te => (e,te)
 | _ => none
def isIntTy (P:Program) (t:Nat):Bool:=match P.underlying t with
 | some (.int _) => true
 | _ => false
def u8Zero (T:Program) (e:Nat):Bool:=match T.info? e with
 | some i => Nat.beq i.bytes 1 && (Nat.beq i.size 1 && (match i.zero with
  | some (.int .u8 n) => n == 0
  | _ => false))
 | none => false
def isUnsafe (P:Program) (t:Nat):Bool:=match P.underlying t with
 | some .unsafePointer => true
 | _ => false
def toUnsafe (P:Program) (s:Nat):Bool:=match P.underlying s with
 | some (.pointer t) => (match P.info? t with
  | some i => !Nat.beq i.size 0
  | none => false)
 | _ => false
def fromUnsafe (P:Program) (tid n off t:Nat):Bool:=match P.underlying t with
 | some (.pointer u) => (P.info? u).isSome && liesAt P P.depth tid (n / P.cellsOf tid) off u 1
 | _ => false
def ptrKnown (P:Program) (t:Nat):Bool:=match P.underlying t with
 | some (.pointer u) => (P.info? u).isSome
 | _ => false
def ptrTo (P:Program) (t e:Nat):Bool:=match P.underlying t with
 | some (.pointer u) => Nat.beq u e
 | _ => false
def elemIs (P:Program) (t e:Nat):Bool:=match P.underlying t with
 | some (.slice u) => Nat.beq u e
 | _ => false
def isByte (n:Int):Bool:=decide (0 ≤ n) && decide (n ≤ 255)
def okBytes (l:List Int):Bool:=l.all isByte
def dataAt:AC → Option Nat
 | .dp id => some id
 | .eo id 0 1 0 => some id
 | _ => none
def marked (cx:Cx) (d:Nat):Bool:=memN (d + 100000) cx.mu
def intTo (T:Program) (s t:Nat):Bool:=isStrTy T t && (match T.underlying s with
 | some (.int _) => true
 | _ => false)
def stepNew (cx:Cx) (σ:St) (o:Oper) (k:Eff → Option R):Option (Option R):=
 let d:=o.dst.getD 0
 match o.op with
 | .indexAddr t x i => match ev σ x,ev σ i with
  | .v (.one (.own id)),.v (.one (.c (.int _) j)) => match lookM id σ.mem with
   | some (.byt _ xs) => some (bif decide (0 ≤ j) && decide (j < (xs.length:Int)) && (match elemOf cx.T t with | some (_,te) => Nat.beq te.width 1 | none => false) then
     k { put:=one (.eo id j.toNat 1 0),blks:=[],rd:=.m id :: opKeys x ++ opKeys i } else none)
   | _ => none
  | .v (.one a),.v (.one (.c (.int _) j)) => match cellsAt cx.T t a with
   | some (id,off,wd,n) => some (caseN (fun q => k { put:=one (.ptr id (off + q * wd)),blks:=[],rd:=opKeys x ++ opKeys i }) j 0 n)
   | none => none
  | _,_ => none
 | .build t ps => match arrOf cx.T t with
  | some (_,te) => some (match lookT t cx.T,evParts σ ps.toList with
   | some ti,some l => (match allCells l (fun i => some (i * te.width,te.width)) (ti.zero.map ofCell) with
    | some cs => k { put:=.v (.row cs),blks:=[],rd:=(ps.toList.flatMap fun p => opKeys p.2) }
    | none => none)
   | _,_ => none)
  | none => none
 | .buildSlice t n ps => match elemOf cx.T t with
  | some (e,te) => bif te.row.isNone || marked cx d then some (match evParts σ ps.toList,lookM d σ.mem with
    | some l,none => bif Nat.beq te.width 1 && (Nat.ble n 16777216 && Nat.beq te.zero.length 1) then
      (match allCells l (fun i => some (i * 1,1)) ((List.replicate n (te.zero.map ofCell)).flatten) with
      | some cs => k { put:=one (.bs d n),blks:=[(d,.box e cs)],rd:=.m d :: (ps.toList.flatMap fun p => opKeys p.2) }
      | none => none) else none
    | _,_ => none) else none
  | none => none
 | .range t x => match ev σ x,lookM d σ.mem with
  | .v (.one (.c .str s)),none => some (bif isStrTy cx.T t then k { put:=one (.ptr d 0),blks:=[(d,.it s 0)],rd:=.m d :: opKeys x } else none)
  | _,_ => none
 | .next x q => match ev σ x with
  | .v (.one (.ptr id 0)) => match lookM id σ.mem with
   | some (.it s pos) => some (bif !q then none else bif Nat.blt pos s.size then
      k { put:=.tup [.one (.c .bool true),.one (.c (.int .i64) (pos:Int)),.one (.c (.int .i32) ((Utf8.decode s pos).1:Int))],blks:=[(id,.it s (pos + (Utf8.decode s pos).2))],rd:=.m id :: opKeys x }
     else k { put:=.tup [.one (.c .bool false)],blks:=[],rd:=.m id :: opKeys x })
   | _ => none
  | _ => none
 | .load t x => match ev σ x with
  | .v (.one a) => match bytAt σ.mem a with
   | some (id,i,_,xs) => some (bif isU8 cx.T t then xs[i]?.bind fun y => k { put:=data (.int .u8) y,blks:=[],rd:=.m id :: opKeys x } else none)
   | none => none
  | _ => none
 | .store t x v => match ev σ x with
  | .v (.one a) => match bytAt σ.mem a with
   | some (id,i,e,xs) => some (match ev σ v with
    | .v (.one (.c (.int .u8) y)) => bif isU8 cx.T t then xs[i]?.bind fun _ => k { put:=one .junk,blks:=[(id,.byt e (xs.set i y))],rd:=.m id :: opKeys x ++ opKeys v } else none
    | _ => none)
   | none => none
  | _ => none
 | .slice t x lo hi mx => bif marked cx d then some (bif lo.isSome || (mx.isSome && hi.isNone) then none else match ev σ x with
   | .v (.one .nilS) => (match elemOf cx.T t,hiOf σ hi 0,hiOf σ mx 0 with
    | some _,some h,some m => bif h == 0 && m == 0 then k { put:=one .nilS,blks:=[],rd:=opKeys x ++ hi.elim [] opKeys ++ mx.elim [] opKeys } else none
    | _,_,_ => none)
   | .v (.one (.own id)) => (match elemOf cx.T t,lookM id σ.mem,lookM d σ.mem with
    | some (_,te),some (.lst e r xs false),none => (match hiOf σ hi xs.length,hiOf σ mx xs.length with
     | some h,some m => bif Nat.beq r.width te.width && (decide (0 ≤ h) && (decide (h ≤ m) && decide (m ≤ (xs.length:Int)))) then
       k { put:=one (.own d),blks:=[(d,.lst e r (xs.take h.toNat) false),(id,.dead)],rd:=.m d :: .m id :: opKeys x ++ hi.elim [] opKeys ++ mx.elim [] opKeys } else none
     | _,_ => none)
    | _,_,_ => none)
   | .v (.one (.os id lo0 hi0 wd)) => (match elemOf cx.T t,lookM id σ.mem,lookM d σ.mem with
    | some (_,te),some (.lst e r xs false),none => (match hiOf σ hi (hi0 - lo0),hiOf σ mx (hi0 - lo0) with
     | some h,some m => bif Nat.beq lo0 0 && (Nat.beq r.width te.width && (decide (0 ≤ h) && (decide (h ≤ m) && decide (m ≤ ((hi0 - lo0:Nat):Int))))) then
       k { put:=one (.own d),blks:=[(d,.lst e r (xs.take h.toNat) false),(id,.dead)],rd:=.m d :: .m id :: opKeys x ++ hi.elim [] opKeys ++ mx.elim [] opKeys } else none
     | _,_ => none)
    | _,_,_ => none)
   | _ => none) else none
 | .convert s t x => match ev σ x with
  | .v (.one (.c (.int _) n)) => bif intTo cx.T s t then some (k { put:=data .str (Utf8.encode n),blks:=[],rd:=opKeys x }) else none
  | .v (.one (.c .str z)) => bif isBytesTy cx.T t then some (match elemOf cx.T t,lookM d σ.mem with
    | some (e,te),none => bif isStrTy cx.T s && isU8 cx.T e then k { put:=one (.own d),blks:=[(d,.byt e ((bl z).map fun b => (b.toNat:Int)))],rd:=.m d :: opKeys x } else none
    | _,_ => none) else none
  | .v (.one (.ptr id off)) => (match lookM id σ.mem with
   | some (.box tid l) => bif isUnsafe cx.T t then some (bif toUnsafe cx.T s && Nat.blt off l.length then k { put:=one (.ptr id off),blks:=[],rd:=.m id :: opKeys x } else none)
     else bif isUnsafe cx.T s then some (bif fromUnsafe cx.T tid l.length off t then k { put:=one (.ptr id off),blks:=[],rd:=.m id :: opKeys x } else none) else none
   | _ => none)
  | .v (.one (.own id)) => (match lookM id σ.mem with
   | some (.byt _ xs) => some (bif isBytesTy cx.T s && isStrTy cx.T t then k { put:=data .str (bstr xs),blks:=[],rd:=.m id :: opKeys x } else none)
   | _ => none)
  | _ => none
 | .binOp op t x y _ => match ev σ x,ev σ y with
  | .v (.one .nilP),.v (.one .nilP) => bif isPtrTy cx.T t then (match op with
   | .eql => some (k { put:=data .bool true,blks:=[],rd:=opKeys x ++ opKeys y })
   | .neq => some (k { put:=data .bool false,blks:=[],rd:=opKeys x ++ opKeys y })
   | _ => none) else none
  | .v (.one (.ptr _ _)),.v (.one .nilP) => bif isPtrTy cx.T t then (match op with
   | .eql => some (k { put:=data .bool false,blks:=[],rd:=opKeys x ++ opKeys y })
   | .neq => some (k { put:=data .bool true,blks:=[],rd:=opKeys x ++ opKeys y })
   | _ => none) else none
  | .v (.one (.pn _ _ b)),.v (.one .nilP) => bif isPtrTy cx.T t then (match op with
   | .eql => some (k { put:=data .bool b,blks:=[],rd:=opKeys x ++ opKeys y })
   | .neq => some (k { put:=data .bool (!b),blks:=[],rd:=opKeys x ++ opKeys y })
   | _ => none) else none
  | .v (.one (.pn i o b)),.v (.one (.ptr i' o')) => bif ptrKnown cx.T t && (Nat.beq i i' && Nat.beq o o') then (match op with
   | .eql => some (k { put:=data .bool (!b),blks:=[],rd:=opKeys x ++ opKeys y })
   | .neq => some (k { put:=data .bool b,blks:=[],rd:=opKeys x ++ opKeys y })
   | _ => none) else none
  | .v (.one (.ptr i o)),.v (.one (.ptr i' o')) => bif ptrKnown cx.T t && (Nat.beq i i' && Nat.beq o o') then (match op with
   | .eql => some (k { put:=data .bool true,blks:=[],rd:=opKeys x ++ opKeys y })
   | .neq => some (k { put:=data .bool false,blks:=[],rd:=opKeys x ++ opKeys y })
   | _ => none) else none
  | .v (.one (.eo _ _ _ _)),.v (.one .nilP) => bif isPtrTy cx.T t then (match op with
   | .eql => some (k { put:=data .bool false,blks:=[],rd:=opKeys x ++ opKeys y })
   | .neq => some (k { put:=data .bool true,blks:=[],rd:=opKeys x ++ opKeys y })
   | _ => none) else none
  | .v (.one (.own id)),.v (.one .nilS) => (match lookM id σ.mem with
   | some (.lst _ _ xs _) => bif isSlcTy cx.T t then (match op with
    | .eql => some (k { put:=one (.q xs.isEmpty false),blks:=[],rd:=.m id :: opKeys x ++ opKeys y })
    | .neq => some (k { put:=one (.q xs.isEmpty true),blks:=[],rd:=.m id :: opKeys x ++ opKeys y })
    | _ => none) else none
   | _ => none)
  | _,_ => none
 | .call c => match c.callee with
  | .builtin .len => match c.args.toList.map (ev σ),c.argTypes.toList with
   | [.v (.one (.bs _ n))],[t] => bif isSlcTy cx.T t then some (k { put:=data (.int .i64) (n:Int),blks:=[],rd:=c.args.toList.flatMap opKeys }) else none
   | [.v (.one (.own id))],[t] => (match lookM id σ.mem with
    | some (.byt _ xs) => bif isSlcTy cx.T t then some (k { put:=data (.int .i64) (xs.length:Int),blks:=[],rd:=.m id :: c.args.toList.flatMap opKeys }) else none
    | _ => none)
   | _,_ => none
  | .builtin .cap => match c.args.toList.map (ev σ),c.argTypes.toList with
   | [.v (.one .nilS)],[t] => bif isSlcTy cx.T t then some (k { put:=data (.int .i64) 0,blks:=[],rd:=c.args.toList.flatMap opKeys }) else none
   | _,_ => none
  | .builtin .copy => match c.args.toList.map (ev σ),c.argTypes.toList with
   | [.v (.one (.own id)),.v (.one (.c .str z))],[t,u] => (match lookM id σ.mem with
    | some (.lst e (.int .u8) xs false) => some (bif isBytesTy cx.T t && (elemIs cx.T t e && (u8Zero cx.T e && decide (z.size ≤ xs.length))) then
      k { put:=data (.int .i64) (z.size:Int),blks:=[(id,.lst e (.int .u8) (((bl z).map fun b => (b.toNat:Int)) ++ xs.drop z.size) false)],rd:=.m id :: c.args.toList.flatMap opKeys } else none)
    | _ => none)
   | [.v (.one (.own id)),.v (.one .nilS)],[t,u] => (match lookM id σ.mem with
    | some (.lst e (.int .u8) xs false) => some (bif isBytesTy cx.T t && (elemIs cx.T t e && u8Zero cx.T e) then
      k { put:=data (.int .i64) 0,blks:=[],rd:=.m id :: c.args.toList.flatMap opKeys } else none)
    | _ => none)
   | _,_ => none
  | .builtin .unsafeSliceData => match c.args.toList.map (ev σ),c.argTypes.toList with
   | [.v (.one (.own id))],[t] => (match lookM id σ.mem with
    | some (.lst _ (.int .u8) _ false) => some (bif isPtrTy cx.T o.type then k { put:=one (.dp id),blks:=[],rd:=.m id :: c.args.toList.flatMap opKeys } else none)
    | _ => none)
   | [.v (.one .nilS)],[t] => some (k { put:=one .nilP,blks:=[],rd:=c.args.toList.flatMap opKeys })
   | _,_ => none
  | .builtin .unsafeString => match c.args.toList.map (ev σ),c.argTypes.toList with
   | [.v (.one .nilP),.v (.one (.c (.int .i64) n))],[t,u] => some (bif n == 0 then k { put:=data .str ByteArray.empty,blks:=[],rd:=c.args.toList.flatMap opKeys } else none)
   | [.v (.one a),.v (.one (.c (.int .i64) n))],[t,u] => (match dataAt a with
    | some id => (match lookM id σ.mem with
     | some (.lst e (.int .u8) xs false) => some (bif (ptrTo cx.T t e && Nat.beq (cx.T.cellsOf e) 1) && (n == (xs.length:Int) && okBytes xs) then
       k { put:=data .str (bstr xs),blks:=[(id,.dead)],rd:=.m id :: c.args.toList.flatMap opKeys } else none)
     | _ => none)
    | none => none)
   | _,_ => none
  | .builtin .append => match c.args.toList.map (ev σ),c.argTypes.toList with
   | [.v (.one .nilS),.v (.one (.c (.int _) l))],[t,u] => some (bif !isIntTy cx.T u then none else match elemOf cx.T t,lookM d σ.mem with
    | some (e,te),none => (match te.row with
     | some r => bif Nat.beq r.width te.width && (Nat.blt 0 te.width && (Nat.blt 0 te.bytes && Nat.beq te.zero.length te.width)) then
       (pack [] r (te.zero.map ofCell)).bind fun z => bif decide (0 < l) && decide (l ≤ ((140737488355328 / te.bytes:Nat):Int)) then
        k { put:=one (.own d),blks:=[(d,.lst e r (List.replicate l.toNat z) (!memN d cx.mu))],rd:=.m d :: c.args.toList.flatMap opKeys } else none
       else none
     | none => none)
    | _,_ => none)
   | [.v (.one s),.v (.one (.c .str z))],[t,u] => some (bif !(isStrTy cx.T u && isBytesTy cx.T t) then none else match elemOf cx.T t,lookM d σ.mem with
    | some (e,_),none => bif !u8Zero cx.T e then none else
      let fin (xs:List Int) (old:Option Nat) (fz:Bool):=
       bif decide (xs.length + z.size ≤ 140737488355328) then
        k { put:=one (.own d),blks:=(d,.lst e (.int .u8) (xs ++ (bl z).map fun b => (b.toNat:Int)) (fz || !memN d cx.mu)) :: oldBlk old,rd:=Key.m d :: acKeys s ++ c.args.toList.flatMap opKeys } else none
      (match s with
      | .nilS => fin [] none false
      | .own id => (match lookM id σ.mem with
       | some (.lst e' r' xs fz) => bif Nat.beq e e' then (castD (.list r') (.list (.int .u8)) xs).bind fun xs => fin xs (some id) fz else none
       | _ => none)
      | _ => none)
    | _,_ => none)
   | _,_ => none
  | _ => none
 | _ => none
/-! Functions that only tell a field: they are read, not called. -/
def opIs (o:Oper) (d:Nat):Bool:=o.guard.isNone && (match o.dst with | some e => Nat.beq e d | none => false)
def isConst:Op → Bool
 | .assign (.const _) => true
 | _ => false
def isMove (s:Nat):Op → Bool
 | .move (.tmp t) => Nat.beq t s
 | _ => false
def isNilCheck (s:Nat):Op → Bool
 | .nilCheck (.tmp t) => Nat.beq t s
 | _ => false
def isAssign (s:Nat):Op → Bool
 | .assign (.tmp t) => Nat.beq t s
 | _ => false
def asFieldAddr (s:Nat):Op → Option (Nat × Nat)
 | .fieldAddr t (.tmp u) k => bif Nat.beq u s then some (t,k) else none
 | _ => none
def asLoad (s:Nat):Op → Option Nat
 | .load t (.tmp u) => bif Nat.beq u s then some t else none
 | _ => none
def getterOps:List Oper → List Oper → Option (Nat × Nat × Nat)
 | [o0],[o1,o2,o3,o4,o5] =>
  bif opIs o0 2 && isConst o0.op && (opIs o1 3 && isMove 0 o1.op) && (opIs o2 4 && isNilCheck 3 o2.op) && (opIs o3 5 && opIs o4 6) && (opIs o5 2 && isAssign 6 o5.op) then
   (match asFieldAddr 4 o3.op,asLoad 5 o4.op with
   | some (t,k),some l => some (t,k,l)
   | _,_ => none) else none
 | _,_ => none
def getterCode:Code → Option (Nat × Nat × Nat)
 | .seq (.region _ z false) (.seq (.region _ ops false) .ret) => getterOps z.toList ops.toList
 | _ => none
def isTmp2:List ResultVar → Bool
 | [.tmp t] => Nat.beq t 2
 | _ => false
def getterOf (T:Program) (f:Nat):Option (Nat × Nat × Nat):=match T.funcs[f]? with
 | some fn => (match fn.body with
  | some c => bif Nat.beq fn.ntmps 7 && (!(fn.name == "runtime.NumGoroutine") && isTmp2 fn.results.toList) then getterCode c else none
  | none => none)
 | none => none
def stepGet (cx:Cx) (σ:St) (o:Oper) (k:Eff → Option R):Option (Option R):=match o.op with
 | .call c => match c.callee,c.args.toList.map (ev σ) with
  | .value (.func f),[.v (.one (.ptr id off))] => match getterOf cx.T f with
   | some (t,kf,lt) => match fieldAt cx.T t kf,lookT lt cx.T,lookM id σ.mem with
    | some (fo,tf),some ti,some (.box _ l) => bif Nat.beq tf.width 0 then none else match part ti l (off + fo) with
     | some a => some (k { put:=.v a,blks:=[],rd:=.m id :: c.args.toList.flatMap opKeys })
     | none => none
    | _,_,_ => none
   | none => none
  | _,_ => none
 | _ => none
def stepOp (cx:Cx) (σ:St) (o:Oper) (k:Eff → Option R):Option R:=
 match stepGet cx σ o k with
 | some r => r
 | none => match stepNew cx σ o k with
  | some r => r
  | none => step0 cx σ o k

/-! ### 8. Regions, code -/
structure Done where
 w:List Key
 r:List Key
def conflict (a b:Done):Bool:=a.w.any (fun k => b.w.contains k || b.r.contains k) || a.r.any (fun k => b.w.contains k)
def dstOf (ops:List Oper) (j:Nat):Option Nat:=(ops[j]?).bind (·.dst)
def bindsAny (e:Edge):Bool:=match e.ground with
 | .textOnly _ => false
 | .gcOnly _ => false
 | _ => true
def edge1 (o:Oper) (i:Nat):Bool:=o.after.toList.any fun e => Nat.beq e.on i && bindsAny e
def edgeN (ops:List Oper):Nat → Oper → Nat → Bool
 | 0,o,i => edge1 o i
 | n + 1,o,i => edge1 o i || o.after.toList.any fun e => bindsAny e && (match ops[e.on]? with
  | some o' => edgeN ops n o' i
  | none => false)
def edge2 (ops:List Oper) (o:Oper) (i:Nat):Bool:=edgeN ops 4 o i
def indepOne (ops:List Oper) (o:Oper) (b:Done):Nat → List Done → Bool
 | _,[] => true
 | i,a :: l => (!conflict a b || edge2 ops o i) && indepOne ops o b (i + 1) l
def indepA (ops:List Oper):List Oper → List Done → List Done → Bool
 | o :: os,acc,b :: bs => indepOne ops o b 0 acc && indepA ops os (acc ++ [b]) bs
 | [],_,[] => true
 | _,_,_ => false
def indep (ops:List Oper) (acc bs:List Done):Bool:=indepA ops ops acc bs

def fwd (mx:Bool):Nat → List Oper → Bool
 | _,[] => true
 | i,o :: os => o.after.toList.all (fun e => Nat.blt e.on i || (mx && !bindsAny e)) && fwd mx (i + 1) os

def dstOk (n:Nat):Option Nat → Bool
 | some d => Nat.blt d n && Nat.blt d 100000
 | none => true
def dstKey (o:Oper):List Key:=match o.dst with | some d => [.s d] | none => []
def runOps (cx:Cx) (all:List Oper):List Oper → St → List Done → (List Done → St → Option R) → Option R
 | [],σ,acc,K => K acc σ
 | o :: os,σ,acc,K =>
  match o.guard with
  | none => bif !dstOk cx.n o.dst then none else stepOp cx σ o fun e => runOps cx all os (σ.apply o.dst e) (acc ++ [⟨dstKey o ++ e.blks.map fun b => Key.m b.1,e.rd⟩]) K
  | some (j,want) => match dstOf all j with
   | some s => bif !dstOk cx.n o.dst then none else match σ.get s with
    | .v (.one (.c .bool q)) =>
     let go (τ:St):=stepOp cx τ o fun e => runOps cx all os (τ.apply o.dst e) (acc ++ [⟨dstKey o ++ e.blks.map fun b => Key.m b.1,.s s :: e.rd⟩]) K
     let no (τ:St):=runOps cx all os (τ.apply o.dst ⟨one .un,[],[]⟩) (acc ++ [⟨dstKey o,[.s s]⟩]) K
     bif q then (bif want then go ⟨(s,data .bool true) :: σ.env,σ.mem⟩ else no ⟨(s,data .bool true) :: σ.env,σ.mem⟩)
     else (bif want then no ⟨(s,data .bool false) :: σ.env,σ.mem⟩ else go ⟨(s,data .bool false) :: σ.env,σ.mem⟩)
    | .v (.one .un) => runOps cx all os (σ.apply o.dst ⟨one .un,[],[]⟩) (acc ++ [⟨dstKey o,[.s s]⟩]) K
    | _ => none
   | none => none

def firstRegion:Code → Option Nat
 | .region id _ _ => some id
 | .seq a b => match firstRegion a with | some i => some i | none => firstRegion b
 | .cond _ a b => match firstRegion a with | some i => some i | none => firstRegion b
 | .block _ c => firstRegion c
 | .loop c => firstRegion c
 | .scope c => firstRegion c
 | _ => none
def lookC (i:Nat):List (Nat × CE) → Option CE
 | [] => none
 | (k,v) :: l => bif Nat.beq k i then some v else lookC i l
def loopKey (c:Code):Nat:=match firstRegion c with | some n => 2 * n | none => 1000000
def cutKey (c:Code):Nat:=match firstRegion c with | some n => 2 * n + 1 | none => 1000001

def goKey (l:Nat):Nat:=4000000 + l
def outsK:(os:List (XE × Shape)) → OutsD os → (XE → St → Option R) → Option R
 | [],e,_ => nomatch e
 | [o],p,K => K o.1 (embed o.2 p)
 | o :: q :: os,e,K => Sum.elim (fun p => K o.1 (embed o.2 p)) (fun p => outsK (q :: os) p K) e
def useCE (e:CE) (σ:St) (K:XE → St → Option R):Option R:=
 (extract e.sh σ).bind fun p => (e.f p).bind fun r => outsK e.outs r K

open Classical in
/-- Whichever way: the same. -/
noncomputable def both (x y:Option R):Option R:=if x = y then x else none
noncomputable def run (cx:Cx):Code → St → (XE → St → Option R) → Option R
 | .skip,σ,K => K .norm σ
 | .region _ ops draw,σ,K =>
  bif draw then bif !fwd (cx.T.follows .mixedOrders) 0 ops.toList then none else runOps cx ops.toList ops.toList σ [] fun ds τ => bif indep ops.toList [] ds then K .norm τ else none
  else runOps cx ops.toList ops.toList σ [] fun _ τ => K .norm τ
 | .seq a b,σ,K => run cx a σ fun x τ => match x with
  | .norm => match lookC (cutKey b) cx.L with
   | some e => useCE e τ K
   | none => run cx b τ K
  | x => K x τ
 | .cond c x y,σ,K => match ev σ c with
  | .v (.one (.c .bool q)) => bif q then run cx x σ K else run cx y σ K
  | .v (.one (.q e r)) => bif e then both (run cx x σ K) (run cx y σ K) else bif r then run cx x σ K else run cx y σ K
  | _ => none
 | .block id c,σ,K => run cx c σ fun x τ => match x with
  | .ex i => bif Nat.beq i id then K .norm τ else K (.ex i) τ
  | x => K x τ
 | .loop c,σ,K => match lookC (loopKey c) cx.L with
  | some e => useCE e σ K
  | none => none
 | .exit id,σ,K => K (.ex id) σ
 | .ret,σ,K => K .ret σ
 | .label _,σ,K => K .norm σ
 | .goto l,σ,K => K (.go l) σ
 | .scope c,σ,K => run cx c σ fun x τ => match x with
  | .go l => match findLabel c l,lookC (goKey l) cx.L with
   | some _,some e => useCE e τ K
   | some _,none => none
   | none,_ => K (.go l) τ
  | x => K x τ
 | _,_,_ => none

/-! ### 9. Loops, functions -/
def iter {P E:Type} (B:P → Option (P ⊕ E)):Nat → P → Option E
 | 0,_ => none
 | n + 1,p => (B p).bind fun r => match r with
  | .inl q => iter B n q
  | .inr e => some e
open Classical in
/-- Loops at closed data come to their ends by computing, if they are short. -/
noncomputable def loop {P E:Type} (B:P → Option (P ⊕ E)) (p:P):Option E:=
 (iter B 5000 p).elim (if h:∃ n,(iter B n p).isSome then iter B h.choose p else none) some

noncomputable def round (cx:Cx) (c:Code) (sh:Shape) (outs:List (XE × Shape)) (p:sh.D):Option (sh.D ⊕ OutsD outs):=
 run cx c (embed sh p) fun x σ => match x with
  | .norm => (extract sh σ).bind fun q => some (.inl q)
  | x => (exOuts outs x σ).bind fun e => some (.inr e)
def resVal (T:Program) (σ:St):ResultVar → Option AV
 | .tmp t => some (σ.get t)
 | .cell s t => match lookT t T,σ.get s with
  | some ti,.v (.one (.ptr id off)) => match lookM id σ.mem with
   | some (.box _ l) => (part ti l off).bind fun a => some (.v a)
   | _ => none
  | _,_ => none
def resVals (T:Program) (σ:St):List ResultVar → Option (List AV)
 | [] => some []
 | r :: l => (resVal T σ r).bind fun a => (resVals T σ l).bind fun as_ => some (a :: as_)
def frz (m:List (Nat × Blk)):List Nat → List (Nat × Blk)
 | [] => m
 | i :: l => match lookM i m with
  | some (.lst e r xs false) => (i,.lst e r xs true) :: frz m l
  | _ => frz m l
noncomputable def func (cx:Cx) (fn:Func) (c:Code) (sh out:Shape) (p:sh.D):Option out.D:=
 run cx c (embed sh p) fun x σ => match x with
  | .ex _ => none
  | .go _ => none
  | _ => (resVals cx.T σ fn.results.toList).bind fun l => bif inOrder 0 out.env && Nat.beq out.env.length l.length then extract out ⟨argEnv 0 l,frz σ.mem cx.fr⟩ else none
def sub:List Nat → Code → Code
 | [],c => c
 | 0 :: l,.seq a _ => sub l a
 | 1 :: l,.seq _ b => sub l b
 | 0 :: l,.cond _ a _ => sub l a
 | 1 :: l,.cond _ _ b => sub l b
 | _ :: l,.block _ c => sub l c
 | _ :: l,.loop c => sub l c
 | _ :: l,.scope c => sub l c
 | _,c => c
end Go.Vx
namespace Go
def World.rowR (w:World) (base:Nat) (e:TypeId) (size:Nat) (v:Value) (n:Nat) (xs:List Value):Prop:=
 xs.length = n * size ∧
 ((v = .slice none 0 0 ∧ n = 0) ∨
  ∃ g cap cur,v = .slice (some ⟨g,0,none⟩) n cap ∧ base ≤ g ∧ w.heap[g]? = some (.cells cur e (0,0)) ∧ n ≤ cap ∧ cap ≤ maxLen ∧ cap * size ≤ cur.size ∧ cur.toList.take (n * size) = xs)
section
variable {w:World} {base:Nat} {e:TypeId} {size:Nat} {v:Value} {n:Nat} {xs:List Value}
theorem World.rowR_of (h:w.ownsRow base e size v n xs):w.rowR base e size v n xs:=by
 refine ⟨h.1,h.2.imp id ?_⟩
 rintro ⟨g,cap,cur,h1,h2,h3,h4,h5,h6,h7⟩
 exact ⟨g,cap,cur,h1,h2,h3,h4,h5,Nat.le_of_eq h6.symm,h7⟩
theorem World.rowR_nil (w:World) (base:Nat) (e:TypeId) (size:Nat):w.rowR base e size (.slice none 0 0) 0 []:=⟨by simp,.inl ⟨rfl,rfl⟩⟩
theorem World.rowR_lit (w:World) (cs:Array Value) (n:Nat) (hb:base ≤ w.heap.size) (hm:n ≤ maxLen) (hs:cs.size = n * size) :
  (w.alloc (.cells cs e)).rowR base e size (.slice (some ⟨w.heap.size,0,none⟩) n n) n cs.toList:=World.rowR_of (World.ownsRow_lit w cs n hb hm hs)
theorem World.rowR.lt (h:w.rowR base e size v n xs):∀ k,v.ownBlock = some k → base ≤ k ∧ k < w.heap.size:=by
 intro k hk
 rcases h.2 with ⟨rfl,_⟩ | ⟨g,cap,cur,rfl,hb,hg,_⟩
 ·simp [Value.ownBlock] at hk
 ·simp [Value.ownBlock] at hk
  subst hk
  exact ⟨hb,(Array.getElem?_eq_some_iff.1 hg).1⟩
theorem World.rowR.kept {w':World} {row:Option Nat} (h:w.rowR base e size v n xs) (hg:w.grownBy w' row) (hne:v.ownBlock = none ∨ v.ownBlock ≠ row):w'.rowR base e size v n xs:=by
 refine ⟨h.1,?_⟩
 rcases h.2 with hn | ⟨g,cap,cur,rfl,hb,hgg,rest⟩
 ·exact .inl hn
 ·refine .inr ⟨g,cap,cur,rfl,hb,?_,rest⟩
  rw [hg.block g (Array.getElem?_eq_some_iff.1 hgg).1 (by simpa [Value.ownBlock] using hne)]
  exact hgg
theorem World.rowR.cells (h:w.rowR base e size v n xs) {g:Nat} (hg:v.ownBlock = some g):∀ j u,xs[j]? = some u → w.cell? ((⟨g,0,none⟩:Addr).add j) = some u:=by
 intro j u hu
 rcases h.2 with ⟨rfl,_⟩ | ⟨g',cap,cur,rfl,_,hgg,_,_,_,htake⟩
 ·simp [Value.ownBlock] at hg
 ·simp [Value.ownBlock] at hg
  subst hg
  have hadd:(⟨g',0,none⟩:Addr).add j = ⟨g',j,none⟩:=by unfold Addr.add; split <;> simp_all
  rw [hadd,cell_of_row w g' j cur e (0,0) hgg]
  rw [← htake,List.getElem?_take] at hu
  split at hu
  ·simpa using hu
  ·cases hu
theorem World.rowR.cellAt {g cap:Nat} (h:w.rowR base e size (.slice (some ⟨g,0,none⟩) n cap) n xs) (j:Nat) (hj:j < n * size):w.cell? ⟨g,j,none⟩ = xs[j]?:=by
 rcases h.2 with ⟨h',_⟩ | ⟨g',cap',cur,h',_,hg,_,_,_,htake⟩
 ·simp at h'
 ·simp only [Value.slice.injEq,Option.some.injEq,Addr.mk.injEq,and_true,true_and] at h'
  obtain ⟨rfl,rfl⟩:=h'
  rw [cell_of_row w g j cur e (0,0) hg,← htake,List.getElem?_take,if_pos hj]
  simp
theorem World.rowR.frozenAt {g cap:Nat} (h:w.rowR base e size (.slice (some ⟨g,0,none⟩) n cap) n xs) (j:Nat):w.frozen? ⟨g,j,none⟩ = false:=by
 rcases h.2 with ⟨h',_⟩ | ⟨g',cap',cur,h',_,hg,_⟩
 ·simp at h'
 ·simp only [Value.slice.injEq,Option.some.injEq,Addr.mk.injEq,and_true,true_and] at h'
  obtain ⟨rfl,rfl⟩:=h'
  exact frozen_of_row w g j cur e hg
theorem run_append_rowR_none {P:Program} (w:World) (base:Nat) (t ty e:TypeId) (i:TypeInfo) (size:Nat) (ht:P.underlying t = some (.slice e)) (hi:P.info? e = some i)
  (v:Value) (n:Nat) (xs:List Value) (hown:w.rowR base e size v n xs) :
  (Builtin.append_ #[t,t] ty #[v,.slice none 0 0]).run P w = .ok v w:=by
 rcases hown.2 with ⟨rfl,rfl⟩ | ⟨g,cap,cur,rfl,_,_,hnc,_⟩
 ·simp [Builtin.append_,run_underlying ht,sizeOf,typeInfo,hi,Builtin.lenOf,Builtin.firstCells]
 ·simp [Builtin.append_,run_underlying ht,sizeOf,typeInfo,hi,Builtin.lenOf,Builtin.firstCells,hnc,storeCells]
theorem World.rowR_grown (w:World) (z:Array Value) (hzs:z.size = size) (news:List Value) (m old:Nat) (hx:xs.length = n * size) (hl:news.length = m * size) (h63:n + m ≤ maxLen) :
  (w.drew.alloc (.cells (xs.toArray ++ news.toArray ++ Builtin.zeroCells z (grownCap w (n + m) old e - (n + m))) e)).rowR 0 e size
   (.slice (some ⟨w.heap.size,0,none⟩) (n + m) (grownCap w (n + m) old e)) (n + m) (xs ++ news):=by
 have hlen:(xs ++ news).length = (n + m) * size:=by rw [List.length_append,hx,hl,Nat.add_mul]
 have hge:=grownCap_ge w (n + m) old e
 have hcm:grownCap w (n + m) old e ≤ maxLen:=grownCap_le_maxLen w (n + m) old e h63
 refine ⟨hlen,.inr ⟨w.heap.size,_,_,rfl,Nat.zero_le _,heap_alloc_new w.drew _,hge,hcm,Nat.le_of_eq ?_,?_⟩⟩
 ·simp only [Array.size_append,List.size_toArray,size_zeroCells,hzs,hx,hl,← Nat.add_mul]
  congr 1
  omega
 ·simp only [Array.toList_append,List.append_assoc]
  rw [← List.append_assoc,← hlen]
  exact List.take_left
end
end Go
namespace Go.Vx
open Go Go.RowKit
set_option linter.unusedVariables false

/-! ### 0. Draws only grow -/
theorem bind_ok {ε α β:Type} {x:Except ε α} {f:α → Except ε β} {y:β} (h:(x >>= f) = .ok y):∃ a,f a = .ok y:=by
 cases x with
 | error e => cases h
 | ok a => exact ⟨a,h⟩
theorem viewStore_drawn {P:Program} {w w':World} {at_:Addr} {u:TypeId} {k:Addr} {v:Value} {b:Bool} {l:List Addr} (h:w.viewStore P at_ u k v b = .ok (w',l)):w'.drawn = w.drawn:=by
 unfold World.viewStore at h
 have ht:∀ {α:Type} (s:String) (f:PUnit → Except String α) (y:α),((MonadExcept.throw s:Except String PUnit) >>= f) ≠ .ok y:=fun s f y h => by cases h
 by_cases h1:(!tight P P.depth u) = true
 ·rw [if_pos h1] at h
  cases v.bytes? <;> exact absurd h (ht _ _ _)
 ·rw [if_neg h1] at h
  cases hv:v.bytes? with
  | none =>
   simp only [hv] at h
   obtain ⟨x,h⟩:=bind_ok h
   cases h
  | some bytes =>
   simp only [hv] at h
   obtain ⟨⟨c,e,frozen,first,like,cells⟩,h⟩:=bind_ok h
   simp only at h
   split at h
   ·cases h
   ·obtain ⟨c',h⟩:=bind_ok h
    injection h with h
    injection h with h _
    rw [← h]
theorem farStore_drawn {P:Program} {w w':World} {a:Addr} {v:Value} {b:Bool} {l:List Addr} (h:w.farStore P a v b = .ok (w',l)):w'.drawn = w.drawn:=by
 unfold World.farStore at h
 split at h
 ·split at h
  ·rename_i r hr
   injection h with h
   subst h
   exact viewStore_drawn hr
  ·cases h
 ·cases h
theorem ask_drawn {α:Type}:∀ (x:Ask α) (w:World),w.drawn ≤ (w.ask x).2.drawn:=by
 intro x
 induction x with
 | done a => intro w; exact Nat.le_refl _
 | ask what range k ih =>
  intro w
  simp only [World.ask]
  split
  ·exact ih _ _
  ·exact Nat.le_trans (Nat.le_succ _) (ih _ { w with drawn:=w.drawn + 1 })
theorem drawn_wp {α:Type} (P:Program) (d:Nat):∀ (x:Sem α) (w:World),d ≤ w.drawn → x.wp P (fun _ w' => d ≤ w'.drawn) (fun _ _ => True) w:=by
 intro x
 induction x with
 | pure a => intro w h; exact h
 | load m a k ih =>
  intro w h
  simp only [Sem.wp]
  split
  ·exact ih _ _ h
  ·split
   ·exact ih _ _ h
   ·trivial
 | store m a u k ih =>
  intro w h
  simp only [Sem.wp]
  split
  ·split
   ·split
    ·trivial
    ·exact ih (w.setCell a u) h
   ·split
    ·rename_i hf
     exact ih _ (by rw [farStore_drawn hf]; exact h)
    ·trivial
  ·trivial
 | new o k ih => intro w h; exact ih _ { w with heap:=w.heap.push o } h
 | shape r k ih => intro w h; exact ih _ w h
 | freeze a n k ih => intro w h; exact ih (w.freeze a n) (by unfold World.freeze; split <;> exact h)
 | frozen a k ih => intro w h; exact ih _ w h
 | getObj r k ih =>
  intro w h
  simp only [Sem.wp]
  split
  ·trivial
  ·exact ih _ w h
  ·trivial
 | setObj r o k ih =>
  intro w h
  simp only [Sem.wp]
  split
  ·trivial
  ·exact ih { w with heap:=w.heap.setIfInBounds r o } h
  ·trivial
 | choose q k ih =>
  intro w h
  simp only [Sem.wp]
  split
  ·exact ih _ w h
  ·exact ih _ { w with drawn:=w.drawn + 1 } (Nat.le_trans h (Nat.le_succ _))
 | sys c k ih =>
  intro w h
  simp only [Sem.wp]
  refine ih _ _ (Nat.le_trans h ?_)
  have:=ask_drawn (Kernel.perform c w.os) w
  unfold World.sys
  split
  ·exact Nat.le_refl _
  ·rename_i r os w2 _ heq
   rw [heq] at this
   exact this
 | program k ih => intro w h; exact ih _ w h
 | mark a k ih => intro w h; exact ih w h
 | halt x => intro w h; trivial
theorem drawn_le {α:Type} (P:Program) (x:Sem α) (w:World) (v:α) (w':World) (h:x.run P w = .ok v w'):w.drawn ≤ w'.drawn:=by
 have:=(Sem.wp_iff_run P x _ _ w).1 (drawn_wp P w.drawn x w (Nat.le_refl _))
 rw [h] at this
 exact this
/-! ### 1. What data stand for -/
structure Gh where
 val:Nat → Value
 S:Addr → Prop
 K:Nat → Option (Array Value)

def blockOfV:Value → Option Nat
 | .pointer (some a) => some a.block
 | .map (some g) => some g
 | .slice (some a) _ _ => some a.block
 | _ => none
def Gh.blk (g:Gh) (id:Nat):Option Nat:=blockOfV (g.val id)

def AtC {α:Type} (S:Addr → Prop) (w:World) (d:α → Value → Prop) (x:α) (ad:Addr):Prop:=
 ∃ v,S ad ∧ w.cell? ad = some v ∧ d x v

def RepP (S:Addr → Prop) (w:World):(t:Ty) → (t.D → Value → Prop) × (t.D → Addr → Prop)
 | .unit => (fun _ _ => False,fun _ _ => True)
 | .cons a b => (fun _ _ => False,fun x ad => AtC S w (RepP S w a).1 x.1 ad ∧ (RepP S w b).2 x.2 (ad.add 1))
 | .int k => (fun x v => v = .int k x,AtC S w fun x v => v = .int k x)
 | .bool => (fun x v => v = .bool x,AtC S w fun x v => v = .bool x)
 | .str => (fun x v => v = .string x,AtC S w fun x v => v = .string x)
 | .list r =>
  let d:List r.D → Value → Prop:=fun xs v => ∃ a cap,v = .slice a xs.length cap ∧ xs.length ≤ cap ∧ (a = none → cap = 0) ∧
   (0 < xs.length → ∃ ad,a = some ad ∧ ∀ i,(h:i < xs.length) → (RepP S w r).2 xs[i] (ad.add (i * r.width)))
  (d,AtC S w d)
def RepD (S:Addr → Prop) (w:World) (t:Ty):t.D → Value → Prop:=(RepP S w t).1
def RepAt (S:Addr → Prop) (w:World) (t:Ty):t.D → Addr → Prop:=(RepP S w t).2

section
variable {S:Addr → Prop} {w:World}
theorem repD_list {r:Ty} {xs:List r.D} {v:Value}:RepD S w (.list r) xs v ↔ ∃ a cap,v = .slice a xs.length cap ∧ xs.length ≤ cap ∧ (a = none → cap = 0) ∧
   (0 < xs.length → ∃ ad,a = some ad ∧ ∀ i,(h:i < xs.length) → RepAt S w r xs[i] (ad.add (i * r.width))):=Iff.rfl
theorem add_add (a:Addr) (m n:Nat):(a.add m).add n = a.add (m + n):=by
 unfold Addr.add
 by_cases hm:m = 0 <;> by_cases hn:n = 0 <;> simp [hm,hn]
 omega
theorem add_plain (g j o:Nat):(⟨g,o,none⟩:Addr).add j = ⟨g,o + j,none⟩:=by unfold Addr.add; split <;> simp_all

theorem rep_mono {S':Addr → Prop} {w':World} (hS:∀ x,S x → S' x) (hc:∀ x,S x → w'.cell? x = w.cell? x) :
  ∀ t:Ty,(∀ x v,RepD S w t x v → RepD S' w' t x v) ∧ (∀ x ad,RepAt S w t x ad → RepAt S' w' t x ad):=by
 intro t
 induction t with
 | unit => exact ⟨fun _ _ h => h,fun _ _ h => h⟩
 | cons a b iha ihb =>
  refine ⟨fun _ _ h => h,fun x ad h => ?_⟩
  obtain ⟨⟨v,h1,h2,h3⟩,h4⟩:=h
  exact ⟨⟨v,hS _ h1,by rw [hc _ h1]; exact h2,iha.1 _ _ h3⟩,ihb.2 _ _ h4⟩
 | int k => exact ⟨fun _ _ h => h,fun x ad ⟨v,h1,h2,h3⟩ => ⟨v,hS _ h1,by rw [hc _ h1]; exact h2,h3⟩⟩
 | bool => exact ⟨fun _ _ h => h,fun x ad ⟨v,h1,h2,h3⟩ => ⟨v,hS _ h1,by rw [hc _ h1]; exact h2,h3⟩⟩
 | str => exact ⟨fun _ _ h => h,fun x ad ⟨v,h1,h2,h3⟩ => ⟨v,hS _ h1,by rw [hc _ h1]; exact h2,h3⟩⟩
 | list r ih =>
  have hd:∀ xs v,RepD S w (.list r) xs v → RepD S' w' (.list r) xs v:=by
   rintro xs v ⟨a,cap,h1,h2,h2',h3⟩
   refine ⟨a,cap,h1,h2,h2',fun hl => ?_⟩
   obtain ⟨ad,h4,h5⟩:=h3 hl
   exact ⟨ad,h4,fun i hi => ih.2 _ _ (h5 i hi)⟩
  exact ⟨hd,fun x ad ⟨v,h1,h2,h3⟩ => ⟨v,hS _ h1,by rw [hc _ h1]; exact h2,hd _ _ h3⟩⟩
theorem repD_mono {S':Addr → Prop} {w':World} (hS:∀ x,S x → S' x) (hc:∀ x,S x → w'.cell? x = w.cell? x) {t:Ty} {x:t.D} {v:Value} (h:RepD S w t x v):RepD S' w' t x v:=(rep_mono hS hc t).1 _ _ h
theorem repAt_mono {S':Addr → Prop} {w':World} (hS:∀ x,S x → S' x) (hc:∀ x,S x → w'.cell? x = w.cell? x) {t:Ty} {x:t.D} {ad:Addr} (h:RepAt S w t x ad):RepAt S' w' t x ad:=(rep_mono hS hc t).2 _ _ h
theorem repD_one {t:Ty} {x:t.D} {v:Value} (h:RepD S w t x v):v.oneCell' = true ∧ v.cells = #[v]:=by
 cases t with
 | unit => exact h.elim
 | cons a b => exact h.elim
 | int k => obtain rfl:=h; exact ⟨rfl,rfl⟩
 | bool => obtain rfl:=h; exact ⟨rfl,rfl⟩
 | str => obtain rfl:=h; exact ⟨rfl,rfl⟩
 | list r => obtain ⟨a,cap,rfl,_⟩:=h; exact ⟨rfl,rfl⟩
end

/-! ### 2. What abstract cells stand for -/
abbrev Mem:=Nat → Option Blk
inductive All2 {α β:Type} (R:α → β → Prop):List α → List β → Prop
 | nil:All2 R [] []
 | cons {a b l k}:R a b → All2 R l k → All2 R (a :: l) (b :: k)
def RepCap (gh:Gh) (m:Mem):Option (Nat × Nat) → Value → Prop
 | none,v => v = .pointer none
 | some p,v => m p.1 ≠ none ∧ ∃ b,gh.val p.1 = .pointer (some ⟨b,0,none⟩) ∧ v = .pointer (some ⟨b,p.2,none⟩)
def RepC (gh:Gh) (m:Mem) (w:World):AC → Value → Prop
 | .junk,_ => True
 | .c t x,v => RepD gh.S w t x v
 | .nilS,v => v = .slice none 0 0
 | .nilP,v => v = .pointer none
 | .own id,v => m id ≠ none ∧ v = gh.val id ∧ ∃ a n c,v = .slice a n c
 | .ptr id off,v => m id ≠ none ∧ ∃ b,gh.val id = .pointer (some ⟨b,0,none⟩) ∧ v = .pointer (some ⟨b,off,none⟩)
 | .el r x off,v => ∃ ad,v = .pointer (some (ad.add off)) ∧ RepAt gh.S w r x ad
 | .eo id i wd off,v => m id ≠ none ∧ ∃ b n c,gh.val id = .slice (some ⟨b,0,none⟩) n c ∧ v = .pointer (some ⟨b,i * wd + off,none⟩)
 | .fn f,v => v = .func (.func f) #[] #[]
 | .clo f cs,v => ∃ vs,v = .func (.func f) #[] vs ∧ All2 (RepCap gh m) cs vs.toList
 | .mp id,v => m id ≠ none ∧ v = gh.val id ∧ ∃ g,v = .map (some g)
 | .os id lo hi wd,v => m id ≠ none ∧ lo ≤ hi ∧ ∃ a0 n c0 a c,gh.val id = .slice a0 n c0 ∧ hi ≤ n ∧ v = .slice a (hi - lo) c ∧ hi - lo ≤ c ∧ (a = none → c = 0) ∧
   (lo < hi → ∃ b,a0 = some ⟨b,0,none⟩ ∧ a = some ⟨b,lo * wd,none⟩) ∧ lo + c ≤ c0 ∧ (lo = 0 → a = a0)
 | .pn id off b,v => (b = true ∧ v = .pointer none) ∨ (b = false ∧ m id ≠ none ∧ ∃ g,gh.val id = .pointer (some ⟨g,0,none⟩) ∧ v = .pointer (some ⟨g,off,none⟩))
 | .dp id,v => m id ≠ none ∧ ∃ p,v = .pointer p ∧ ∀ a n c,gh.val id = .slice (some a) n c → 0 < n → p = some a
 | .bs id n,v => m id ≠ none ∧ ∃ b,gh.val id = .pointer (some ⟨b,0,none⟩) ∧ v = .slice (some ⟨b,0,none⟩) n n
 | .raw u,v => v = u ∧ u.oneCell' = true ∧ u.cells = #[u]
 | .un,v => v = undef
 | .q e r,v => ∃ b,v = .bool b ∧ (e = false → b = r)
def RepCs (gh:Gh) (m:Mem) (w:World):List AC → List Value → Prop:=All2 (RepC gh m w)
def Rep1 (gh:Gh) (m:Mem) (w:World):A1 → Value → Prop
 | .one a,v => RepC gh m w a v
 | .row l,v => ∃ vs,v = .agg vs ∧ RepCs gh m w l vs.toList
def RepV (gh:Gh) (m:Mem) (w:World):AV → Value → Prop
 | .v a,v => Rep1 gh m w a v
 | .tup l,v => ∃ vs,v = .tuple vs ∧ All2 (Rep1 gh m w) l vs.toList

theorem All2.mono {α β:Type} {R R':α → β → Prop} (h:∀ a b,R a b → R' a b) {l:List α} {k:List β} (hl:All2 R l k):All2 R' l k:=by
 induction hl with
 | nil => exact .nil
 | cons h1 _ ih => exact .cons (h _ _ h1) ih
theorem All2.length {α β:Type} {R:α → β → Prop} {l:List α} {k:List β} (hl:All2 R l k):l.length = k.length:=by
 induction hl with
 | nil => rfl
 | cons _ _ ih => simp [ih]
theorem All2.get {α β:Type} {R:α → β → Prop} {l:List α} {k:List β} (hl:All2 R l k):∀ {i:Nat} {a:α},l[i]? = some a → ∃ b,k[i]? = some b ∧ R a b:=by
 induction hl with
 | nil => intro i a h; simp at h
 | cons h1 _ ih =>
  intro i a h
  cases i with
  | zero => simp at h; subst h; exact ⟨_,by simp,h1⟩
  | succ i => simp at h; obtain ⟨b,hb,hr⟩:=ih h; exact ⟨b,by simpa using hb,hr⟩
theorem All2.take {α β:Type} {R:α → β → Prop} {l:List α} {k:List β} (hl:All2 R l k):∀ n,All2 R (l.take n) (k.take n):=by
 induction hl with
 | nil => intro n; simpa using All2.nil
 | cons h1 _ ih => intro n; cases n with
  | zero => simpa using All2.nil
  | succ n => simpa using All2.cons h1 (ih n)
theorem All2.drop {α β:Type} {R:α → β → Prop} {l:List α} {k:List β} (hl:All2 R l k):∀ n,All2 R (l.drop n) (k.drop n):=by
 induction hl with
 | nil => intro n; simpa using All2.nil
 | cons h1 h2 ih => intro n; cases n with
  | zero => exact .cons h1 h2
  | succ n => simpa using ih n
theorem All2.append {α β:Type} {R:α → β → Prop} {l l':List α} {k k':List β} (hl:All2 R l k) (hl':All2 R l' k'):All2 R (l ++ l') (k ++ k'):=by
 induction hl with
 | nil => exact hl'
 | cons h1 _ ih => exact .cons h1 ih
theorem All2.map_left {α β γ:Type} {R:α → β → Prop} {R':γ → β → Prop} {f:α → γ} (h:∀ a b,R a b → R' (f a) b) {l:List α} {k:List β} (hl:All2 R l k):All2 R' (l.map f) k:=by
 induction hl with
 | nil => exact .nil
 | cons h1 _ ih => exact .cons (h _ _ h1) ih
theorem All2.of_get {α β:Type} {R:α → β → Prop}:∀ {l:List α} {k:List β},l.length = k.length → (∀ (i:Nat) a b,l[i]? = some a → k[i]? = some b → R a b) → All2 R l k
 | [],[],_,_ => .nil
 | [],_ :: _,h,_ => by simp at h
 | _ :: _,[],h,_ => by simp at h
 | a :: l,b :: k,h,g => .cons (g 0 a b rfl rfl) (All2.of_get (by simpa using h) fun i x y hx hy => g (i + 1) x y (by simpa using hx) (by simpa using hy))

/-! ### 3. The heap -/
def Blk.live:Blk → Bool
 | .dead => false
 | _ => true
def rowsCells (r:Ty) (xs:List r.D):List AC:=xs.flatMap (cellsOf r)
def BlkOK (gh:Gh) (m:Mem) (w:World) (id:Nat):Blk → Prop
 | .dead => True
 | .box tid l => ∃ g vals,gh.val id = .pointer (some ⟨g,0,none⟩) ∧ w.heap[g]? = some (.cells vals tid (0,0)) ∧ RepCs gh m w l vals.toList
 | .lst e r xs fz => ∃ vs,w.rowR 0 e r.width (gh.val id) xs.length vs ∧ RepCs gh m w (rowsCells r xs) vs ∧ 0 < r.width ∧
   (fz = true → ∀ g,gh.blk id = some g → ∀ j,j < xs.length * r.width → gh.S ⟨g,j,none⟩)
 | .mp kr es => flatTy kr = true ∧ ∃ g ents clock,gh.val id = .map (some g) ∧ w.heap[g]? = some (.map ents clock) ∧
   All2 (fun (e:kr.D × Bool) (n:MapEntry) => (∃ vs,n.key = .agg vs ∧ RepCs gh m w (cellsOf kr e.1) vs.toList) ∧ n.val = .bool e.2) es ents.toList
 | .byt e xs => ∃ g c cur fz,gh.val id = .slice (some ⟨g,0,none⟩) xs.length c ∧ w.heap[g]? = some (.cells cur e fz) ∧ xs.length ≤ c ∧ cur.size ≤ fz.1 ∧
   ∀ (j:Nat) x,xs[j]? = some x → cur[j]? = some (.int .u8 x)
 | .it s pos => ∃ g,gh.val id = .pointer (some ⟨g,0,none⟩) ∧ w.heap[g]? = some (.stringIter s pos)
def SepOK (x:Addr):Blk → Prop
 | .dead => True
 | .box _ _ => False
 | .mp _ _ => False
 | .byt _ _ => False
 | .it _ _ => False
 | .lst _ r xs fz => fz = true ∧ x.off < xs.length * r.width
structure HeapOK4 (gh:Gh) (m:Mem) (w:World):Prop where
 blk:∀ id b,m id = some b → BlkOK gh m w id b
 inj:∀ i j b c,m i = some b → m j = some c → b.live = true → c.live = true → i ≠ j → ∀ g,gh.blk i = some g → gh.blk j ≠ some g
 sep:∀ x,gh.S x → ∀ id b,m id = some b → gh.blk id = some x.block → SepOK x b
 st:∀ x,gh.S x → x.spot = none ∧ ∃ v,w.cell? x = some v
structure HeapOK (gh:Gh) (m:Mem) (w:World):Prop extends HeapOK4 gh m w where
 gr:∀ k cs,gh.K k = some cs → (∃ e fz,w.heap[k]? = some (.cells cs e fz)) ∧ ∀ id b,m id = some b → b.live = true → gh.blk id ≠ some k

structure Tr (g0:Gh) (m0:Mem) (w0:World) (g:Gh) (m:Mem) (w:World):Prop where
 os:w.os = w0.os
 tape:w.tape = w0.tape
 output:w.output = w0.output
 size:w0.heap.size ≤ w.heap.size
 same:∀ k,k < w0.heap.size → (∀ id b,m0 id = some b → b.live = true → g0.blk id ≠ some k) → w.heap[k]? = w0.heap[k]?
 S:∀ x,g0.S x → g.S x
 scell:∀ x,g0.S x → w.cell? x = w0.cell? x
 newS:∀ x,g.S x → g0.S x ∨ w0.heap.size ≤ x.block ∨ ∃ id b,m0 id = some b ∧ b.live = true ∧ g0.blk id = some x.block
 ids:∀ id b,m id = some b → b.live = true → ∀ k,g.blk id = some k → w0.heap.size ≤ k ∨ ∃ j c,m0 j = some c ∧ c.live = true ∧ g0.blk j = some k
 pin:∀ id,pin id = true → m id ≠ none → m0 id ≠ none ∧ g.val id = g0.val id
 drawn:w0.drawn ≤ w.drawn
 K:g.K = g0.K
structure Ext (g0:Gh) (m0:Mem) (g:Gh) (m:Mem):Prop where
 val:∀ id,m0 id ≠ none → m id ≠ none ∧ g.val id = g0.val id

theorem Tr.refl (g:Gh) (m:Mem) (w:World):Tr g m w g m w:=
 ⟨rfl,rfl,rfl,Nat.le_refl _,fun _ _ _ => rfl,fun _ h => h,fun _ _ => rfl,fun _ h => .inl h,fun id b h1 h2 k h3 => .inr ⟨id,b,h1,h2,h3⟩,fun _ _ h => ⟨h,rfl⟩,Nat.le_refl _,rfl⟩
theorem Tr.trans {g0 g1 g2:Gh} {m0 m1 m2:Mem} {w0 w1 w2:World} (h:Tr g0 m0 w0 g1 m1 w1) (k:Tr g1 m1 w1 g2 m2 w2):Tr g0 m0 w0 g2 m2 w2 where
 os:=k.os.trans h.os
 tape:=k.tape.trans h.tape
 output:=k.output.trans h.output
 size:=Nat.le_trans h.size k.size
 same:=fun i hi hn => by
  rw [k.same i (Nat.lt_of_lt_of_le hi h.size) (fun id b h1 h2 h3 => ?_),h.same i hi hn]
  rcases h.ids id b h1 h2 i h3 with h4 | ⟨j,c,h4,h5,h6⟩
  ·omega
  ·exact hn j c h4 h5 h6
 S:=fun x hx => k.S _ (h.S _ hx)
 scell:=fun x hx => (k.scell _ (h.S _ hx)).trans (h.scell _ hx)
 newS:=fun x hx => by
  rcases k.newS x hx with h1 | h1 | ⟨id,b,h1,h2,h3⟩
  ·exact h.newS x h1
  ·exact .inr (.inl (Nat.le_trans h.size h1))
  ·rcases h.ids id b h1 h2 _ h3 with h4 | h4
   ·exact .inr (.inl h4)
   ·exact .inr (.inr h4)
 ids:=fun id b h1 h2 i h3 => by
  rcases k.ids id b h1 h2 i h3 with h4 | ⟨j,c,h4,h5,h6⟩
  ·exact .inl (Nat.le_trans h.size h4)
  ·exact h.ids j c h4 h5 i h6
 pin:=fun id hp hm => by
  obtain ⟨h1,h2⟩:=k.pin id hp hm
  obtain ⟨h3,h4⟩:=h.pin id hp h1
  exact ⟨h3,h2.trans h4⟩
 drawn:=Nat.le_trans h.drawn k.drawn
 K:=k.K.trans h.K
theorem heap_nil {gh:Gh} {m:Mem} {w:World} (H:HeapOK gh m w):HeapOK gh (fun i => lookM i []) w:=
 ⟨⟨fun id b h => (by cases h),fun i j b c h => (by cases h),fun x hx id b h => (by cases h),H.st⟩,fun k cs hk => ⟨(H.gr k cs hk).1,fun id b h => (by cases h)⟩⟩
theorem gr_tr {gh gh':Gh} {m m':Mem} {w w':World} (H:HeapOK gh m w) (T:Tr gh m w gh' m' w') :
  ∀ k cs,gh'.K k = some cs → (∃ e fz,w'.heap[k]? = some (.cells cs e fz)) ∧ ∀ id b,m' id = some b → b.live = true → gh'.blk id ≠ some k:=fun k cs hk => by
 rw [T.K] at hk
 obtain ⟨⟨e,fz,h1⟩,h2⟩:=H.gr k cs hk
 have hlt:k < w.heap.size:=(Array.getElem?_eq_some_iff.1 h1).1
 refine ⟨⟨e,fz,by rw [T.same k hlt h2]; exact h1⟩,fun id b hb hl he => ?_⟩
 rcases T.ids id b hb hl k he with h | ⟨j,c,g1,g2,g3⟩
 ·omega
 ·exact h2 j c g1 g2 g3

theorem repCap_mono {g g':Gh} {m m':Mem} (hv:∀ id,m id ≠ none → m' id ≠ none ∧ g'.val id = g.val id) {a:Option (Nat × Nat)} {v:Value} (h:RepCap g m a v):RepCap g' m' a v:=by
 cases a with
 | none => exact h
 | some p => obtain ⟨h1,b,h2,h3⟩:=h; exact ⟨(hv p.1 h1).1,b,by rw [(hv p.1 h1).2]; exact h2,h3⟩
theorem repC_mono {g g':Gh} {m m':Mem} {w w':World} (hS:∀ x,g.S x → g'.S x) (hc:∀ x,g.S x → w'.cell? x = w.cell? x) (hv:∀ id,m id ≠ none → m' id ≠ none ∧ g'.val id = g.val id)
  {a:AC} {v:Value} (h:RepC g m w a v):RepC g' m' w' a v:=by
 cases a with
 | junk => trivial
 | c t x => exact repD_mono hS hc h
 | nilS => exact h
 | nilP => exact h
 | own id => exact ⟨(hv id h.1).1,by rw [(hv id h.1).2]; exact h.2.1,h.2.2⟩
 | ptr id off => obtain ⟨h1,b,h2,h3⟩:=h; exact ⟨(hv id h1).1,b,by rw [(hv id h1).2]; exact h2,h3⟩
 | el r x off => obtain ⟨ad,h1,h2⟩:=h; exact ⟨ad,h1,repAt_mono hS hc h2⟩
 | eo id i wd off => obtain ⟨h1,b,n,c,h2,h3⟩:=h; exact ⟨(hv id h1).1,b,n,c,by rw [(hv id h1).2]; exact h2,h3⟩
 | fn f => exact h
 | clo f cs => obtain ⟨vs,h1,h2⟩:=h; exact ⟨vs,h1,All2.mono (fun _ _ => repCap_mono hv) h2⟩
 | mp id => exact ⟨(hv id h.1).1,by rw [(hv id h.1).2]; exact h.2.1,h.2.2⟩
 | os id lo hi wd => obtain ⟨h1,h2,a0,n,c0,a,c,h3,h4⟩:=h; exact ⟨(hv id h1).1,h2,a0,n,c0,a,c,by rw [(hv id h1).2]; exact h3,h4⟩
 | pn id off b => exact h.imp (fun h => h) fun ⟨h0,h1,g,h2,h3⟩ => ⟨h0,(hv _ h1).1,g,by rw [(hv _ h1).2]; exact h2,h3⟩
 | dp id => obtain ⟨h1,p,h2,h3⟩:=h; exact ⟨(hv id h1).1,p,h2,by rw [(hv id h1).2]; exact h3⟩
 | bs id n => obtain ⟨h1,b,h2,h3⟩:=h; exact ⟨(hv id h1).1,b,by rw [(hv id h1).2]; exact h2,h3⟩
 | raw u => exact h
 | un => exact h
 | q e r => exact h
theorem repCs_mono {g g':Gh} {m m':Mem} {w w':World} (hS:∀ x,g.S x → g'.S x) (hc:∀ x,g.S x → w'.cell? x = w.cell? x) (hv:∀ id,m id ≠ none → m' id ≠ none ∧ g'.val id = g.val id)
  {l:List AC} {vs:List Value} (h:RepCs g m w l vs):RepCs g' m' w' l vs:=All2.mono (fun _ _ => repC_mono hS hc hv) h
theorem rep1_mono {g g':Gh} {m m':Mem} {w w':World} (hS:∀ x,g.S x → g'.S x) (hc:∀ x,g.S x → w'.cell? x = w.cell? x) (hv:∀ id,m id ≠ none → m' id ≠ none ∧ g'.val id = g.val id)
  {a:A1} {v:Value} (h:Rep1 g m w a v):Rep1 g' m' w' a v:=by
 cases a with
 | one a => exact repC_mono hS hc hv h
 | row l => obtain ⟨vs,h1,h2⟩:=h; exact ⟨vs,h1,repCs_mono hS hc hv h2⟩
theorem repV_mono {g g':Gh} {m m':Mem} {w w':World} (hS:∀ x,g.S x → g'.S x) (hc:∀ x,g.S x → w'.cell? x = w.cell? x) (hv:∀ id,m id ≠ none → m' id ≠ none ∧ g'.val id = g.val id)
  {a:AV} {v:Value} (h:RepV g m w a v):RepV g' m' w' a v:=by
 cases a with
 | v a => exact rep1_mono hS hc hv h
 | tup l => obtain ⟨vs,h1,h2⟩:=h; exact ⟨vs,h1,All2.mono (fun _ _ => rep1_mono hS hc hv) h2⟩

/-! ### 4. An activation -/
def pow10:Array Value:=([1,10,100,1000,10000,100000,1000000,10000000,100000000,1000000000,10000000000,100000000000,1000000000000,10000000000000,100000000000000,1000000000000000,10000000000000000,100000000000000000,1000000000000000000,10000000000000000000].map fun n => Value.int .u64 n).toArray
def Ground (P : Program) (K : Nat → Option (Array Value)) : Prop := ∀ k, P.globalNamed "internal/strconv.uint64pow10" = some k → K k = some pow10
structure Ctx where
 g0:Gh
 m0:Mem
 w0:World
 n:Nat
structure Sim (C:Ctx) (gh:Gh) (σ:St) (a:Act) (w:World):Prop where
 defers:a.defers = []
 size:a.tmps.size = C.n
 env:∀ s,RepV gh σ.blk w (σ.get s) (a.tmps.getD s undef)
 heap:HeapOK gh σ.blk w
 tr:Tr C.g0 C.m0 C.w0 gh σ.blk w
def Ctx.Is (C:Ctx) (P:Program) (n:Nat):Prop:=C.n = n ∧ Ground P C.g0.K
def agree (rd:List Key) (σ σ':St):Prop:=∀ k ∈ rd,match k with | .s t => σ'.get t = σ.get t | .m id => σ'.blk id = σ.blk id
def OpOK (P:Program) (n:Nat) (σ:St) (o:Oper) (e:Eff):Prop:=
 ∀ (C:Ctx) (gh:Gh) (σ':St) (a:Act) (w:World) (next:Act → World → Prop) (Q:Exit → Act → World → Prop),C.Is P n → agree e.rd σ σ' → Sim C gh σ' a w →
  (∀ gh' a' w',Sim C gh' (σ'.apply o.dst e) a' w' → next a' w') → o.wp P a w next Q
theorem alloc_same (w:World) (o:Obj) (i:Nat) (h:i < w.heap.size):(w.alloc o).heap[i]? = w.heap[i]?:=by
 show (w.heap.push o)[i]? = w.heap[i]?
 rw [Array.getElem?_push,if_neg (by omega)]
end Go.Vx
namespace Go.Vx
open Go Go.RowKit
set_option linter.unusedVariables false
set_option linter.unusedSimpArgs false

/-! ### 1. Steps of an activation -/
theorem beq_ne {a b:Nat} (h:a ≠ b):Nat.beq a b = false:=by
 rw [← Bool.not_eq_true]
 simpa using h
theorem blk_apply (σ:St) (dst:Option Nat) (e:Eff) (i:Nat):(σ.apply dst e).blk i = lookM i (e.blks ++ σ.mem):=rfl
theorem get_apply_some (σ:St) (d s:Nat) (e:Eff):(σ.apply (some d) e).get s = bif Nat.beq d s then e.put else σ.get s:=rfl
theorem put_some (a:Act) (d:Nat) (v:Value):a.put (some d) v = { a with tmps:=a.tmps.setIfInBounds d v }:=rfl
theorem getD_set (t:Array Value) (d s:Nat) (v:Value) (hd:d < t.size):(t.setIfInBounds d v).getD s undef = bif Nat.beq d s then v else t.getD s undef:=by
 by_cases h:d = s
 ·subst h
  have:Nat.beq d d = true:=Nat.beq_refl d
  simp [this,Array.getD_eq_getD_getElem?,Array.getElem?_setIfInBounds,hd]
 ·have:Nat.beq d s = false:=beq_ne h
  simp [this,Array.getD_eq_getD_getElem?,Array.getElem?_setIfInBounds,h]

theorem dst_lt {n d:Nat} (h:dstOk n (some d) = true):d < n:=by
 simp only [dstOk,Bool.and_eq_true] at h
 exact Nat.le_of_ble_eq_true h.1
theorem dst_pin {n:Nat} {dst:Option Nat} (h:dstOk n dst = true):pin (dst.getD 0) = false:=by
 cases dst with
 | none => rfl
 | some d =>
  simp only [dstOk,Bool.and_eq_true] at h
  have:d < 100000:=Nat.le_of_ble_eq_true h.2
  simp only [pin,Option.getD_some,Bool.and_eq_false_iff]
  refine .inl ?_
  rw [← Bool.not_eq_true]
  intro hb
  have:=Nat.le_of_ble_eq_true hb
  omega
theorem sim_step {C:Ctx} {gh gh':Gh} {σ:St} {a:Act} {w w':World} {dst:Option Nat} {e:Eff} {v:Value} (h:Sim C gh σ a w) (hd:dstOk C.n dst = true)
  (hT:Tr gh σ.blk w gh' (σ.apply dst e).blk w') (hH:HeapOK gh' (σ.apply dst e).blk w') (hv:∀ id,σ.blk id ≠ none → (σ.apply dst e).blk id ≠ none ∧ gh'.val id = gh.val id)
  (hr:dst ≠ none → RepV gh' (σ.apply dst e).blk w' e.put v):Sim C gh' (σ.apply dst e) (a.put dst v) w' where
 defers:=by cases dst <;> exact h.defers
 size:=by cases dst with
  | none => exact h.size
  | some d => simpa [put_some] using h.size
 env:=fun s => by
  have hold:RepV gh' (σ.apply dst e).blk w' (σ.get s) (a.tmps.getD s undef):=repV_mono hT.S hT.scell hv (h.env s)
  cases dst with
  | none => exact hold
  | some d =>
   rw [get_apply_some,put_some,getD_set _ _ _ _ (by rw [h.size]; exact dst_lt hd)]
   cases hb:Nat.beq d s with
   | true => exact hr (by simp)
   | false => exact hold
 heap:=hH
 tr:=h.tr.trans hT

theorem sim_put {C:Ctx} {gh:Gh} {σ:St} {a:Act} {w:World} {dst:Option Nat} {e:Eff} {v:Value} (h:Sim C gh σ a w) (hd:dstOk C.n dst = true) (hb:e.blks = [])
  (hr:dst ≠ none → RepV gh σ.blk w e.put v):Sim C gh (σ.apply dst e) (a.put dst v) w:=by
 have hm:(σ.apply dst e).blk = σ.blk:=by funext i; rw [blk_apply,hb]; rfl
 refine sim_step h hd ?_ ?_ ?_ ?_
 ·rw [hm]; exact Tr.refl _ _ _
 ·rw [hm]; exact h.heap
 ·intro id hid; rw [hm]; exact ⟨hid,rfl⟩
 ·rw [hm]; exact hr

theorem cell_lt {w:World} {x:Addr} {v:Value} (h:w.cell? x = some v):x.block < w.heap.size:=by
 unfold World.cell? at h
 cases hb:w.heap[x.block]? with
 | none => simp [hb] at h
 | some o => exact (Array.getElem?_eq_some_iff.1 hb).1
theorem HeapOK.S_lt {gh:Gh} {m:Mem} {w:World} (h:HeapOK gh m w) {x:Addr} (hx:gh.S x):x.block < w.heap.size:=by
 obtain ⟨_,v,hv⟩:=h.st x hx
 exact cell_lt hv
theorem own_blockOf {w:World} {e:TypeId} {size n:Nat} {v:Value} {vs:List Value} (h:w.rowR 0 e size v n vs):blockOfV v = v.ownBlock:=by
 rcases h.2 with ⟨rfl,_⟩ | ⟨g,cap,cur,rfl,_⟩ <;> rfl
theorem HeapOK.live_lt {gh:Gh} {m:Mem} {w:World} (h:HeapOK gh m w) {id:Nat} {b:Blk} (hb:m id = some b) (hl:b.live = true) {k:Nat} (hk:gh.blk id = some k):k < w.heap.size:=by
 have:=h.blk id b hb
 cases b with
 | dead => cases hl
 | box tid l =>
  obtain ⟨g,vals,h1,h2,_⟩:=this
  have:k = g:=by simp [Gh.blk,h1,blockOfV] at hk; exact hk.symm
  subst this
  exact (Array.getElem?_eq_some_iff.1 h2).1
 | lst e r xs fz =>
  obtain ⟨vs,h1,_⟩:=this
  have hk':(gh.val id).ownBlock = some k:=by rw [← own_blockOf h1]; exact hk
  exact (h1.lt k hk').2
 | mp kr es =>
  obtain ⟨_,g,ents,clock,h1,h2,_⟩:=this
  have:k = g:=by simp [Gh.blk,h1,blockOfV] at hk; exact hk.symm
  subst this
  exact (Array.getElem?_eq_some_iff.1 h2).1
 | byt e xs =>
  obtain ⟨g,c,cur,fz,h1,h2,_⟩:=this
  have:k = g:=by simp [Gh.blk,h1,blockOfV] at hk; exact hk.symm
  subst this
  exact (Array.getElem?_eq_some_iff.1 h2).1
 | it s pos =>
  obtain ⟨g,h1,h2⟩:=this
  have:k = g:=by simp [Gh.blk,h1,blockOfV] at hk; exact hk.symm
  subst this
  exact (Array.getElem?_eq_some_iff.1 h2).1

def upd (m:Mem) (d:Nat) (b:Blk):Mem:=fun i => bif Nat.beq d i then some b else m i
theorem blk_cons (σ:St) (dst:Option Nat) (p:AV) (rd:List Key) (d:Nat) (b:Blk):(σ.apply dst ⟨p,[(d,b)],rd⟩).blk = upd σ.blk d b:=rfl
theorem beq_true {a b:Nat}:Nat.beq a b = true ↔ a = b:=by simp
theorem upd_same (m:Mem) (d:Nat) (b:Blk):upd m d b d = some b:=by simp [upd,Nat.beq_refl d]
theorem upd_other (m:Mem) {d i:Nat} (b:Blk) (h:d ≠ i):upd m d b i = m i:=by
 have:Nat.beq d i = false:=beq_ne h
 simp [upd,this]

theorem below_grownBy {w w':World} (h:Below w.heap.size w w') (row:Option Nat):w.grownBy w' row:=⟨h.os,h.tape,h.output,h.size,fun k hk _ => h.block k hk⟩

theorem blkOK_keep {gh gh':Gh} {m m':Mem} {w w':World} (hS:∀ x,gh.S x → gh'.S x) (hc:∀ x,gh.S x → w'.cell? x = w.cell? x)
  (hv:∀ id,m id ≠ none → m' id ≠ none ∧ gh'.val id = gh.val id) {row:Option Nat} (hg:w.grownBy w' row) {id:Nat} {b:Blk} (hid:m id ≠ none)
  (hne:b.live = true → ∀ k,gh.blk id = some k → some k ≠ row) (h:BlkOK gh m w id b):BlkOK gh' m' w' id b:=by
 have hval:=(hv id hid).2
 have hblk:gh'.blk id = gh.blk id:=by simp [Gh.blk,hval]
 cases b with
 | dead => trivial
 | box tid l =>
  obtain ⟨g,vals,h1,h2,h3⟩:=h
  have hk:gh.blk id = some g:=by simp [Gh.blk,h1,blockOfV]
  refine ⟨g,vals,by rw [hval]; exact h1,?_,repCs_mono hS hc hv h3⟩
  rw [hg.block g (Array.getElem?_eq_some_iff.1 h2).1 (hne rfl g hk)]
  exact h2
 | lst e r xs fz =>
  obtain ⟨vs,h1,h2,h3,h4⟩:=h
  refine ⟨vs,?_,repCs_mono hS hc hv h2,h3,fun hf g hgk j hj => hS _ (h4 hf g (by rw [← hblk]; exact hgk) j hj)⟩
  rw [hval]
  refine h1.kept hg ?_
  cases hb:(gh.val id).ownBlock with
  | none => exact .inl rfl
  | some k =>
   refine .inr (hne rfl k ?_)
   rw [← own_blockOf h1] at hb
   exact hb
 | mp kr es =>
  obtain ⟨h0,g,ents,clock,h1,h2,h3⟩:=h
  have hk:gh.blk id = some g:=by simp [Gh.blk,h1,blockOfV]
  refine ⟨h0,g,ents,clock,by rw [hval]; exact h1,?_,All2.mono (fun e n hn => ?_) h3⟩
  ·rw [hg.block g (Array.getElem?_eq_some_iff.1 h2).1 (hne rfl g hk)]
   exact h2
  ·obtain ⟨⟨vs,e1,e2⟩,e3⟩:=hn
   exact ⟨⟨vs,e1,repCs_mono hS hc hv e2⟩,e3⟩
 | byt e xs =>
  obtain ⟨g,c,cur,fz,h1,h2,h3⟩:=h
  have hk:gh.blk id = some g:=by simp [Gh.blk,h1,blockOfV]
  refine ⟨g,c,cur,fz,by rw [hval]; exact h1,?_,h3⟩
  rw [hg.block g (Array.getElem?_eq_some_iff.1 h2).1 (hne rfl g hk)]
  exact h2
 | it s pos =>
  obtain ⟨g,h1,h2⟩:=h
  have hk:gh.blk id = some g:=by simp [Gh.blk,h1,blockOfV]
  refine ⟨g,by rw [hval]; exact h1,?_⟩
  rw [hg.block g (Array.getElem?_eq_some_iff.1 h2).1 (hne rfl g hk)]
  exact h2

theorem heap_new4 {gh:Gh} {m:Mem} {w w':World} (H:HeapOK gh m w) {d:Nat} (hd:m d = none) (hpin:pin d = false) {b:Blk} {v:Value} (hdr:w.drawn ≤ w'.drawn) (hB:Below w.heap.size w w')
  (hv:∀ k,blockOfV v = some k → w.heap.size ≤ k) (S':Addr → Prop) (hS:∀ x,gh.S x → S' x)
  (hSn:∀ x,S' x → gh.S x ∨ (blockOfV v = some x.block ∧ SepOK x b ∧ x.spot = none ∧ ∃ u,w'.cell? x = some u))
  (hb:(∀ id,m id ≠ none → upd m d b id ≠ none ∧ (fun i => bif Nat.beq d i then v else gh.val i) id = gh.val id) → BlkOK ⟨fun i => bif Nat.beq d i then v else gh.val i,S',gh.K⟩ (upd m d b) w' d b) :
  HeapOK4 ⟨fun i => bif Nat.beq d i then v else gh.val i,S',gh.K⟩ (upd m d b) w' ∧ Tr gh m w ⟨fun i => bif Nat.beq d i then v else gh.val i,S',gh.K⟩ (upd m d b) w' ∧
   (∀ id,m id ≠ none → upd m d b id ≠ none ∧ (fun i => bif Nat.beq d i then v else gh.val i) id = gh.val id):=by
 have hne:∀ id,m id ≠ none → d ≠ id:=fun id h e => h (e ▸ hd)
 have hext:∀ id,m id ≠ none → upd m d b id ≠ none ∧ (fun i => bif Nat.beq d i then v else gh.val i) id = gh.val id:=fun id h => by
  have hn:Nat.beq d id = false:=beq_ne (hne id h)
  exact ⟨by rw [upd_other _ _ (hne id h)]; exact h,by simp [hn]⟩
 have hc:∀ x,gh.S x → w'.cell? x = w.cell? x:=fun x hx => hB.cell (H.S_lt hx)
 have hbd:(Gh.mk (fun i => bif Nat.beq d i then v else gh.val i) S' gh.K).blk d = blockOfV v:=by simp [Gh.blk,Nat.beq_refl d]
 have hbo:∀ id,d ≠ id → (Gh.mk (fun i => bif Nat.beq d i then v else gh.val i) S' gh.K).blk id = gh.blk id:=fun id h => by
  have hn:Nat.beq d id = false:=beq_ne h
  simp [Gh.blk,hn]
 refine ⟨⟨?_,?_,?_,?_⟩,⟨hB.os,hB.tape,hB.output,hB.size,fun k hk _ => hB.block k hk,hS,hc,?_,?_,?_,hdr,rfl⟩,hext⟩
 ·intro id c hid
  by_cases h:d = id
  ·subst h
   rw [upd_same] at hid
   cases hid
   exact hb hext
  ·rw [upd_other _ _ h] at hid
   exact blkOK_keep (gh':=⟨fun i => bif Nat.beq d i then v else gh.val i,S',gh.K⟩) hS hc hext (below_grownBy hB none) (by rw [hid]; simp) (fun _ k _ => by simp) (H.blk id c hid)
 ·intro i j c c' hi hj hl hl' hij k hk
  by_cases h:d = i
  ·subst h
   rw [hbd] at hk
   rw [hbo j hij]
   rw [upd_other _ _ hij] at hj
   intro hk'
   have:=H.live_lt hj hl' hk'
   have:=hv k hk
   omega
  ·rw [hbo i h] at hk
   rw [upd_other _ _ h] at hi
   by_cases h':d = j
   ·subst h'
    rw [hbd]
    intro hk'
    have:=H.live_lt hi hl hk
    have:=hv k hk'
    omega
   ·rw [hbo j h']
    rw [upd_other _ _ h'] at hj
    exact H.inj i j c c' hi hj hl hl' hij k hk
 ·intro x hx id c hid hk
  rcases hSn x hx with hx | ⟨h1,h2,_⟩
  ·have hlt:=H.S_lt hx
   by_cases h:d = id
   ·subst h
    rw [hbd] at hk
    have:=hv _ hk
    omega
   ·rw [hbo id h] at hk
    rw [upd_other _ _ h] at hid
    exact H.sep x hx id c hid hk
  ·have hge:=hv _ h1
   by_cases h:d = id
   ·subst h
    rw [upd_same] at hid
    cases hid
    exact h2
   ·rw [hbo id h] at hk
    rw [upd_other _ _ h] at hid
    cases c with
    | dead => trivial
    | box tid l => have:=H.live_lt hid rfl hk; omega
    | lst e r xs fz => have:=H.live_lt hid rfl hk; omega
    | mp kr es => have:=H.live_lt hid rfl hk; omega
    | byt e xs => have:=H.live_lt hid rfl hk; omega
    | it s pos => have:=H.live_lt hid rfl hk; omega
 ·intro x hx
  rcases hSn x hx with hx | ⟨_,_,h3,h4⟩
  ·obtain ⟨h1,u,h2⟩:=H.st x hx
   exact ⟨h1,u,by rw [hc x hx]; exact h2⟩
  ·exact ⟨h3,h4⟩
 ·intro x hx
  rcases hSn x hx with hx | ⟨h1,_⟩
  ·exact .inl hx
  ·exact .inr (.inl (hv _ h1))
 ·intro id c hid hl k hk
  by_cases h:d = id
  ·subst h
   rw [hbd] at hk
   exact .inl (hv _ hk)
  ·rw [hbo id h] at hk
   rw [upd_other _ _ h] at hid
   exact .inr ⟨id,c,hid,hl,hk⟩
 ·intro id hp hm
  have h:d ≠ id:=fun e => by rw [e,hp] at hpin; cases hpin
  rw [upd_other _ _ h] at hm
  exact ⟨hm,(hext id hm).2⟩
theorem heap_new {gh:Gh} {m:Mem} {w w':World} (H:HeapOK gh m w) {d:Nat} (hd:m d = none) (hpin:pin d = false) {b:Blk} {v:Value} (hdr:w.drawn ≤ w'.drawn) (hB:Below w.heap.size w w')
  (hv:∀ k,blockOfV v = some k → w.heap.size ≤ k) (S':Addr → Prop) (hS:∀ x,gh.S x → S' x)
  (hSn:∀ x,S' x → gh.S x ∨ (blockOfV v = some x.block ∧ SepOK x b ∧ x.spot = none ∧ ∃ u,w'.cell? x = some u))
  (hb:(∀ id,m id ≠ none → upd m d b id ≠ none ∧ (fun i => bif Nat.beq d i then v else gh.val i) id = gh.val id) → BlkOK ⟨fun i => bif Nat.beq d i then v else gh.val i,S',gh.K⟩ (upd m d b) w' d b) :
  HeapOK ⟨fun i => bif Nat.beq d i then v else gh.val i,S',gh.K⟩ (upd m d b) w' ∧ Tr gh m w ⟨fun i => bif Nat.beq d i then v else gh.val i,S',gh.K⟩ (upd m d b) w' ∧
   (∀ id,m id ≠ none → upd m d b id ≠ none ∧ (fun i => bif Nat.beq d i then v else gh.val i) id = gh.val id):=by
 obtain ⟨h,T,e⟩:=heap_new4 H hd hpin hdr hB hv S' hS hSn hb
 exact ⟨⟨h,gr_tr H T⟩,T,e⟩
end Go.Vx
namespace Go.Vx
open Go Go.RowKit
set_option linter.unusedVariables false
set_option linter.unusedSimpArgs false
variable {R:Type}

/-! ### 1. Words for all operations -/
theorem wp_value {P:Program} {o:Oper} {a:Act} {w w':World} {v:Value} {next:Act → World → Prop} {Q:Exit → Act → World → Prop}
  (h:(execOp a.eval o).run P w = .ok (.value v) w') (hn:next (a.put o.dst v) w'):o.wp P a w next Q:=by
 unfold Oper.wp; rw [h]; exact hn
theorem wp_skip {P:Program} {o:Oper} {a:Act} {w w':World} {next:Act → World → Prop} {Q:Exit → Act → World → Prop}
  (h:(execOp a.eval o).run P w = .ok .skip w') (hn:next (a.put o.dst undef) w'):o.wp P a w next Q:=by
 unfold Oper.wp; rw [h]; exact hn
theorem castD_some {a b:Ty} {x:a.D} {y:b.D} (h:castD a b x = some y):∃ e:a = b,y = e ▸ x:=by
 unfold castD at h
 split at h
 ·rename_i e _
  exact ⟨e,by injection h with h; exact h.symm⟩
 ·cases h
theorem repC_ofCell {gh:Gh} {m:Mem} {w:World} (v:Value):RepC gh m w (ofCell v) v:=by
 unfold ofCell
 split
 ·exact rfl
 ·exact rfl
 ·exact rfl
 ·exact rfl
 ·exact rfl
 ·trivial
 ·trivial
 ·rename_i h1 h2 h3 h4 h5 h6 h7
  refine ⟨rfl,?_⟩
  cases v <;> simp_all [Value.oneCell',Value.cells]
theorem repCs_ofCell {gh:Gh} {m:Mem} {w:World}:∀ l:List Value,RepCs gh m w (l.map ofCell) l
 | [] => .nil
 | v :: l => .cons (repC_ofCell v) (repCs_ofCell l)
theorem rep1_ofVal {gh:Gh} {m:Mem} {w:World} (v:Value):Rep1 gh m w (ofVal v) v:=by
 unfold ofVal
 split
 ·exact ⟨_,rfl,repCs_ofCell _⟩
 ·exact repC_ofCell v
theorem repV_ev {C:Ctx} {gh:Gh} {σ:St} {a:Act} {w:World} (h:Sim C gh σ a w) (x:Operand):RepV gh σ.blk w (ev σ x) (a.eval x):=by
 cases x with
 | tmp t => exact h.env t
 | const v => exact rep1_ofVal v
 | global g => trivial
 | func f => rfl
theorem agree_ev {rd:List Key} {σ σ':St} (h:agree rd σ σ') {x:Operand} (hx:∀ k ∈ opKeys x,k ∈ rd):ev σ' x = ev σ x:=by
 cases x with
 | tmp t => exact h (.s t) (hx _ (by simp [opKeys]))
 | const v => rfl
 | global g => rfl
 | func f => rfl
theorem agree_m {rd:List Key} {σ σ':St} (h:agree rd σ σ') {i:Nat} (hx:Key.m i ∈ rd):σ'.blk i = σ.blk i:=h (.m i) hx
theorem repC_one {gh:Gh} {m:Mem} {w:World} {a:AC} {v:Value} (h:RepC gh m w a v) (ho:a.ok = true):v.oneCell' = true ∧ v.cells = #[v]:=by
 cases a with
 | junk => cases ho
 | c t x => exact repD_one h
 | nilS => obtain rfl:=h; exact ⟨rfl,rfl⟩
 | nilP => obtain rfl:=h; exact ⟨rfl,rfl⟩
 | own id => obtain ⟨_,_,a,n,c,rfl⟩:=h; exact ⟨rfl,rfl⟩
 | ptr id off => obtain ⟨_,b,_,rfl⟩:=h; exact ⟨rfl,rfl⟩
 | el r x off => obtain ⟨ad,rfl,_⟩:=h; exact ⟨rfl,rfl⟩
 | eo id i wd off => obtain ⟨_,b,n,c,_,rfl⟩:=h; exact ⟨rfl,rfl⟩
 | fn f => obtain rfl:=h; exact ⟨rfl,rfl⟩
 | clo f cs => obtain ⟨vs,rfl,_⟩:=h; exact ⟨rfl,rfl⟩
 | mp id => obtain ⟨_,_,g,rfl⟩:=h; exact ⟨rfl,rfl⟩
 | os id lo hi wd => obtain ⟨_,_,a0,n,c0,a,c,_,_,rfl,_⟩:=h; exact ⟨rfl,rfl⟩
 | pn id off b => rcases h with ⟨_,rfl⟩ | ⟨_,_,g,_,rfl⟩ <;> exact ⟨rfl,rfl⟩
 | dp id => obtain ⟨_,p,rfl,_⟩:=h; exact ⟨rfl,rfl⟩
 | bs id n => obtain ⟨_,b,_,rfl⟩:=h; exact ⟨rfl,rfl⟩
 | raw u => obtain ⟨rfl,h1,h2⟩:=h; exact ⟨h1,h2⟩
 | un => cases ho
 | q e r => obtain ⟨b,rfl,_⟩:=h; exact ⟨rfl,rfl⟩
theorem rep1_cells {gh:Gh} {m:Mem} {w:World} {a:A1} {v:Value} (h:Rep1 gh m w a v) (ho:a.cells.all AC.ok = true):RepCs gh m w a.cells v.cells.toList ∧ ∀ u ∈ v.cells.toList,u.oneCell' = true:=by
 cases a with
 | one a =>
  have ho':a.ok = true:=by simpa [A1.cells] using ho
  obtain ⟨h1,h2⟩:=repC_one h ho'
  rw [h2]
  exact ⟨.cons h .nil,by simpa using h1⟩
 | row l =>
  obtain ⟨vs,rfl,h2⟩:=h
  refine ⟨h2,?_⟩
  have hl:∀ (l:List AC) (k:List Value),RepCs gh m w l k → l.all AC.ok = true → ∀ u ∈ k,u.oneCell' = true:=by
   intro l k hlk
   induction hlk with
   | nil => intro _ u hu; simp at hu
   | cons h1 _ ih =>
    intro ho u hu
    simp at ho
    rcases List.mem_cons.1 hu with rfl | hu
    ·exact (repC_one h1 ho.1).1
    ·exact ih (by simpa using ho.2) u hu
  exact hl _ _ h2 ho
structure TIok (P:Program) (t:Nat) (ti:TI):Prop where
 desc:P.underlying t = some ti.desc
 info:∃ i,P.info? t = some i ∧ i.size = ti.width ∧ i.bytes = ti.bytes ∧ ∃ z,i.zero = some z ∧ z.cells.toList = ti.zero
 agg:ti.agg = isAgg ti.desc
theorem lookT_ok {P:Program} {t:Nat} {ti:TI} (h:lookT t P = some ti):TIok P t ti:=by
 unfold lookT at h
 split at h
 ·rename_i d i h1 h2
  split at h
  ·rename_i z hz
   injection h with h
   subst h
   exact ⟨h1,⟨i,h2,rfl,rfl,z,hz,rfl⟩,rfl⟩
  ·cases h
 ·cases h
theorem run_isAgg {P:Program} {t:Nat} {ti:TI} (h:TIok P t ti) (w:World):(Go.isAgg t).run P w = .ok ti.agg w:=by
 rw [h.agg]
 simp only [Go.isAgg,Sem.run_bind,run_underlying h.desc,Result.andThen_ok]
 cases ti.desc <;> rfl
theorem run_sizeOf {P:Program} {t:Nat} {ti:TI} (h:TIok P t ti) (w:World):(sizeOf t).run P w = .ok ti.width w:=by
 obtain ⟨i,h1,h2,_⟩:=h.info
 simp [sizeOf,typeInfo,h1,h2]
theorem run_zero {P:Program} {t:Nat} {ti:TI} (h:TIok P t ti) (w:World):∃ z,(zeroValue t).run P w = .ok z w ∧ z.cells.toList = ti.zero:=by
 obtain ⟨i,h1,_,_,z,h2,h3⟩:=h.info
 exact ⟨z,by simp [zeroValue,typeInfo,h1,h2],h3⟩

/-! ### 2. move, assign, pick -/
section
variable {P:Program} {n:Nat} {σ:St} {o:Oper}
theorem op_move {x:Operand} (ho:o.op = .move x ∨ o.op = .assign x) (hd:dstOk n o.dst = true):OpOK P n σ o { put:=ev σ x,blks:=[],rd:=opKeys x }:=by
 intro C gh σ' a w next Q hn hag hs hk
 have hrun:(execOp a.eval o).run P w = .ok (.value (a.eval x)) w:=by rcases ho with ho | ho <;> simp [execOp,ho]
 refine wp_value hrun (hk gh _ _ (sim_put hs (hn.1 ▸ hd) rfl fun _ => ?_))
 show RepV gh σ'.blk w (ev σ x) (a.eval x)
 rw [← agree_ev hag (fun k hk => hk)]
 exact repV_ev hs x
theorem op_pure' {e:Eff} (hd:dstOk n o.dst = true) (hb:e.blks = [])
  (h:∀ (C:Ctx) gh σ' (a:Act) (w:World),agree e.rd σ σ' → Sim C gh σ' a w → ∃ v,(execOp a.eval o).run P w = .ok (.value v) w ∧ RepV gh σ'.blk w e.put v):OpOK P n σ o e:=by
 intro C gh σ' a w next Q hn hag hs hk
 obtain ⟨v,h1,h2⟩:=h C gh σ' a w hag hs
 exact wp_value h1 (hk gh _ _ (sim_put hs (hn.1 ▸ hd) hb fun _ => h2))
theorem ev_at {C:Ctx} {gh:Gh} {σ':St} {a:Act} {w:World} {rd:List Key} (hag:agree rd σ σ') (hs:Sim C gh σ' a w) {x:Operand} (hx:∀ k ∈ opKeys x,k ∈ rd) {u:AV} (hu:ev σ x = u) :
  RepV gh σ'.blk w u (a.eval x):=by
 rw [← hu,← agree_ev hag hx]
 exact repV_ev hs x

theorem cellOr_rep {gh:Gh} {m:Mem} {w:World} {x y z:AC} {q:Bool} {u v:Value} (h:cellOr x y q = some z) (hx:q = true → RepC gh m w x u) (hy:q = false → RepC gh m w y v):RepC gh m w z (if q then u else v):=by
 unfold cellOr at h
 split at h
 ·split at h
  ·rename_i t x t' y y' hc
   obtain ⟨rfl,rfl⟩:=castD_some hc
   injection h with h
   subst h
   cases q with
   | true => exact hx rfl
   | false => exact hy rfl
  ·cases h
 ·cases h
theorem op_pick {c x y:Operand} {k:Eff → Option R} {r:R} {cx:Cx} (hd:dstOk n o.dst = true) (ho:o.op = .pick c x y) (h:step0 cx σ o k = some r):∃ e,k e = some r ∧ OpOK P n σ o e:=by
 simp only [step0,ho] at h
 split at h
 ·rename_i q hc
  split at h
  ·rename_i ax ay hx hy
   have hrun:∀ (C:Ctx) gh σ' (a:Act) (w:World),agree (opKeys c ++ opKeys x ++ opKeys y) σ σ' → Sim C gh σ' a w →
     (execOp a.eval o).run P w = .ok (.value (if q then a.eval x else a.eval y)) w:=by
    intro C gh σ' a w hag hs
    have h1:a.eval c = .bool q:=ev_at hag hs (by intro k hk; simp [hk]) hc
    simp only [execOp,ho,h1]
    cases q <;> simp [asBool]
   split at h
   ·rename_i z hz
    refine ⟨_,h,op_pure' hd rfl fun C gh σ' a w hag hs => ⟨_,hrun C gh σ' a w hag hs,?_⟩⟩
    exact cellOr_rep hz (fun _ => ev_at hag hs (by intro k hk; simp [hk]) hx) (fun _ => ev_at hag hs (by intro k hk; simp [hk]) hy)
   ·cases q with
    | true => exact ⟨_,h,op_pure' hd rfl fun C gh σ' a w hag hs => ⟨_,hrun C gh σ' a w hag hs,ev_at hag hs (by intro k hk; simp [hk]) hx⟩⟩
    | false => exact ⟨_,h,op_pure' hd rfl fun C gh σ' a w hag hs => ⟨_,hrun C gh σ' a w hag hs,ev_at hag hs (by intro k hk; simp [hk]) hy⟩⟩
  ·cases h
 ·cases h
end
end Go.Vx
namespace Go.Vx
open Go Go.RowKit
set_option linter.unusedVariables false
set_option linter.unusedSimpArgs false
variable {R:Type}
section
variable {cx:Cx} {σ:St} {o:Oper} {k:Eff → Option R} {r:R}

/-! ### 3. alloc, box -/
theorem below_alloc' (w:World) (ob:Obj):Below w.heap.size w (w.alloc ob):=(Below.refl _ w).alloc (Nat.le_refl _) ob
theorem op_newbox {P:Program} {n:Nat} {d tid:Nat} {l:List AC} {rd:List Key} (hdo:dstOk n o.dst = true) (hd:o.dst.getD 0 = d) (hf:σ.blk d = none) (hrd:Key.m d ∈ rd)
  (h:∀ (C:Ctx) gh σ' (a:Act) (w:World),agree rd σ σ' → Sim C gh σ' a w → ∃ vals,(execOp a.eval o).run P w = .ok (.value (.pointer (some ⟨w.heap.size,0,none⟩))) (w.alloc (.cells vals tid)) ∧ RepCs gh σ'.blk w l vals.toList) :
  OpOK P n σ o { put:=one (.ptr d 0),blks:=[(d,.box tid l)],rd:=rd }:=by
 intro C gh σ' a w next Q hn hag hs hk
 obtain ⟨vals,hrun,hl⟩:=h C gh σ' a w hag hs
 have hf':σ'.blk d = none:=by rw [agree_m hag hrd]; exact hf
 have hnew:=heap_new hs.heap hf' (hd ▸ dst_pin hdo) (b:=.box tid l) (v:=.pointer (some ⟨w.heap.size,0,none⟩)) (w':=w.alloc (.cells vals tid)) (Nat.le_refl _) (below_alloc' w _)
  (by intro k hk; simp [blockOfV] at hk; omega) gh.S (fun _ h => h) (fun x hx => .inl hx) (fun hext => by
   refine ⟨w.heap.size,vals,by simp [Nat.beq_refl d],heap_alloc_new w _,?_⟩
   exact repCs_mono (g:=gh) (m:=σ'.blk) (g':=⟨fun i => bif Nat.beq d i then .pointer (some ⟨w.heap.size,0,none⟩) else gh.val i,gh.S,gh.K⟩) (m':=upd σ'.blk d (.box tid l)) (fun _ h => h) (fun x hx => (below_alloc' w _).cell (hs.heap.S_lt hx)) hext hl)
 obtain ⟨hH,hT,hext⟩:=hnew
 refine wp_value hrun (hk _ _ _ (sim_step hs (hn.1 ▸ hdo) hT hH hext fun _ => ?_))
 refine ⟨?_,w.heap.size,?_,rfl⟩
 ·rw [blk_cons,upd_same]; simp
 ·simp [Nat.beq_refl d]
theorem op_alloc {t:Nat} (hdo:dstOk cx.n o.dst = true) (ho:o.op = .alloc t) (h:step0 cx σ o k = some r):∃ e,k e = some r ∧ OpOK cx.T cx.n σ o e:=by
 simp only [step0,ho] at h
 split at h
 ·rename_i ti hti hf
  refine ⟨_,h,op_newbox hdo rfl hf (by simp) fun C gh σ' a w hag hs => ?_⟩
  obtain ⟨z,hz,hzz⟩:=run_zero (lookT_ok hti) w
  refine ⟨z.cells,?_,by rw [hzz]; exact repCs_ofCell _⟩
  simp [execOp,ho,Instr.alloc,hz,newVar,newRow]
 ·cases h
theorem op_box {t:Nat} {x:Operand} (hdo:dstOk cx.n o.dst = true) (ho:o.op = .box t x) (h:step0 cx σ o k = some r):∃ e,k e = some r ∧ OpOK cx.T cx.n σ o e:=by
 simp only [step0,ho] at h
 split at h
 ·rename_i ti a1 hti hf hx
  cases hok:a1.cells.all AC.ok with
  | false => simp [hok] at h
  | true =>
   simp only [hok,cond_true] at h
   refine ⟨_,h,op_newbox hdo rfl hf (by simp) fun C gh σ' a w hag hs => ?_⟩
   have hr:=ev_at hag hs (by intro k hk; simp [hk]) hx
   refine ⟨(a.eval x).cells,?_,(rep1_cells hr hok).1⟩
   simp [execOp,ho,Instr.box,newVar,newRow]
 ·cases h

/-! ### 4. load -/
theorem get_of_all2 {gh:Gh} {m:Mem} {w:World} {l:List AC} {vs:List Value} (h:RepCs gh m w l vs) {i:Nat} {a:AC} (ha:l[i]? = some a):∃ v,vs[i]? = some v ∧ RepC gh m w a v:=All2.get h ha
theorem run_load_part {P:Program} {t:Nat} {ti:TI} (hti:TIok P t ti) {gh:Gh} {m:Mem} {w:World} {cs:List AC} {vs:List Value} (hr:RepCs gh m w cs vs) {base:Addr}
  (hc:∀ j v,vs[j]? = some v → w.cell? (base.add j) = some v) {off:Nat} {a1:A1} (hp:part ti cs off = some a1):∃ v,(loadVar t (base.add off)).run P w = .ok v w ∧ Rep1 gh m w a1 v:=by
 unfold part at hp
 cases hagg:ti.agg with
 | true =>
  rw [hagg] at hp
  simp only [cond_true] at hp
  cases hle:Nat.ble (off + ti.width) cs.length with
  | false => simp [hle] at hp
  | true =>
   rw [hle] at hp
   simp only [cond_true,Option.some.injEq] at hp
   subst hp
   have hle':off + ti.width ≤ cs.length:=Nat.le_of_ble_eq_true hle
   have hlen:((vs.drop off).take ti.width).length = ti.width:=by rw [List.length_take,List.length_drop,← hr.length]; omega
   have hcells:∀ j v,((vs.drop off).take ti.width)[j]? = some v → w.cell? ((base.add off).add j) = some v:=by
    intro j v hv
    rw [List.getElem?_take] at hv
    split at hv
    ·rw [List.getElem?_drop] at hv
     rw [add_add]
     exact hc _ _ hv
    ·cases hv
   have hl:=run_loadCells_list (P:=P) w (base.add off) _ hcells
   rw [hlen] at hl
   refine ⟨.agg ((vs.drop off).take ti.width).toArray,?_,⟨_,rfl,(hr.drop off).take ti.width⟩⟩
   simp [loadVar,run_isAgg hti,hagg,run_sizeOf hti,hl]
 | false =>
  rw [hagg] at hp
  simp only [cond_false] at hp
  split at hp
  ·rename_i a ha
   injection hp with hp
   subst hp
   obtain ⟨v,hv,hrep⟩:=get_of_all2 hr ha
   refine ⟨v,?_,hrep⟩
   simp [loadVar,run_isAgg hti,hagg,hc _ _ hv]
  ·cases hp
theorem repAt_cells {gh:Gh} {m:Mem} {w:World}:∀ {r:Ty} {x:r.D} {ad:Addr},RepAt gh.S w r x ad → ∃ vs,RepCs gh m w (cellsOf r x) vs ∧ (∀ j v,vs[j]? = some v → w.cell? (ad.add j) = some v ∧ gh.S (ad.add j)) ∧ vs.length = r.width
 | .unit,x,ad,_ => ⟨[],.nil,by intro j v h; simp at h,rfl⟩
 | .cons a b,x,ad,h => by
  obtain ⟨⟨v,h1,h2,h3⟩,h4⟩:=h
  obtain ⟨vs,h5,h6,h7⟩:=repAt_cells (r:=b) (m:=m) h4
  refine ⟨v :: vs,.cons h3 h5,?_,by simp [Ty.width,h7]⟩
  intro j u hu
  cases j with
  | zero => simp at hu; subst hu; simp only [Addr.add_zero']; exact ⟨h2,h1⟩
  | succ j =>
   simp at hu
   have:=h6 j u hu
   rw [add_add,Nat.add_comm] at this
   exact this
 | .int k,x,ad,h => by
  obtain ⟨v,h1,h2,h3⟩:=h
  refine ⟨[v],.cons h3 .nil,?_,rfl⟩
  intro j u hu
  cases j with
  | zero => simp at hu; subst hu; simp only [Addr.add_zero']; exact ⟨h2,h1⟩
  | succ j => simp at hu
 | .bool,x,ad,h => by
  obtain ⟨v,h1,h2,h3⟩:=h
  refine ⟨[v],.cons h3 .nil,?_,rfl⟩
  intro j u hu
  cases j with
  | zero => simp at hu; subst hu; simp only [Addr.add_zero']; exact ⟨h2,h1⟩
  | succ j => simp at hu
 | .str,x,ad,h => by
  obtain ⟨v,h1,h2,h3⟩:=h
  refine ⟨[v],.cons h3 .nil,?_,rfl⟩
  intro j u hu
  cases j with
  | zero => simp at hu; subst hu; simp only [Addr.add_zero']; exact ⟨h2,h1⟩
  | succ j => simp at hu
 | .list r,x,ad,h => by
  obtain ⟨v,h1,h2,h3⟩:=h
  refine ⟨[v],.cons h3 .nil,?_,rfl⟩
  intro j u hu
  cases j with
  | zero => simp at hu; subst hu; simp only [Addr.add_zero']; exact ⟨h2,h1⟩
  | succ j => simp at hu
theorem box_cells {gh:Gh} {m:Mem} {w:World} {id tid:Nat} {l:List AC} (h:BlkOK gh m w id (.box tid l)):∃ g vals,gh.val id = .pointer (some ⟨g,0,none⟩) ∧ w.heap[g]? = some (.cells vals tid (0,0)) ∧ RepCs gh m w l vals.toList ∧
  (∀ j v,vals.toList[j]? = some v → w.cell? ((⟨g,0,none⟩:Addr).add j) = some v):=by
 obtain ⟨g,vals,h1,h2,h3⟩:=h
 refine ⟨g,vals,h1,h2,h3,fun j v hv => ?_⟩
 rw [add_plain]
 simp [World.cell?,h2]
 simpa using hv
theorem flat_length {r:Ty} (x:r.D):(cellsOf r x).length = r.width:=by
 induction r with
 | cons a b _ ih => simp [cellsOf,Ty.width,ih]
 | _ => rfl
theorem rowsCells_length {r:Ty}:∀ xs:List r.D,(rowsCells r xs).length = xs.length * r.width
 | [] => by simp [rowsCells]
 | x :: xs => by
  have:=rowsCells_length xs
  simp only [rowsCells,List.flatMap_cons,List.length_append,flat_length,List.length_cons] at this ⊢
  rw [this,Nat.add_mul]
  omega
theorem rowsCells_at {r:Ty}:∀ (xs:List r.D) (i:Nat) (x:r.D),xs[i]? = some x → ((rowsCells r xs).drop (i * r.width)).take r.width = cellsOf r x
 | [],i,x,h => by simp at h
 | y :: xs,0,x,h => by
  simp at h
  subst h
  simp only [rowsCells,List.flatMap_cons,Nat.zero_mul,List.drop_zero]
  rw [List.take_append_of_le_length (by simp [flat_length]),List.take_of_length_le (by simp [flat_length])]
 | y :: xs,i + 1,x,h => by
  have:=rowsCells_at xs i x (by simpa using h)
  simp only [rowsCells,List.flatMap_cons]
  rw [Nat.add_mul,Nat.one_mul,Nat.add_comm,← List.drop_drop,List.drop_append_of_le_length (by simp [flat_length]),List.drop_of_length_le (l:=cellsOf r y) (by simp [flat_length]),List.nil_append]
  exact this
theorem own_at {w:World} {e:TypeId} {size n:Nat} {v:Value} {vs:List Value} (h:w.rowR 0 e size v n vs) (hn:0 < n):∃ g cap,v = .slice (some ⟨g,0,none⟩) n cap ∧ (∀ j u,vs[j]? = some u → w.cell? ⟨g,j,none⟩ = some u) ∧ n ≤ cap:=by
 rcases h.2 with ⟨rfl,h0⟩ | ⟨g,cap,cur,rfl,_,_,hc,_⟩
 ·omega
 ·refine ⟨g,cap,rfl,fun j u hu => ?_,hc⟩
  have:=h.cells (g:=g) rfl j u hu
  rw [add_plain] at this
  simpa using this
theorem op_load {t:Nat} {x:Operand} (hdo:dstOk cx.n o.dst = true) (ho:o.op = .load t x) (h:step0 cx σ o k = some r):∃ e,k e = some r ∧ OpOK cx.T cx.n σ o e:=by
 simp only [step0,ho] at h
 split at h
 ·rename_i ti id off hti hx
  split at h
  ·rename_i tid l hm
   split at h
   ·rename_i a1 hp
    refine ⟨_,h,op_pure' hdo rfl fun C gh σ' a w hag hs => ?_⟩
    have hm':σ'.blk id = some (.box tid l):=by rw [agree_m hag (by simp)]; exact hm
    obtain ⟨g,vals,h1,h2,h3,h4⟩:=box_cells (hs.heap.blk id _ hm')
    obtain ⟨_,b,h5,h6⟩:=(ev_at hag hs (by intro k hk; simp [hk]) hx:RepC gh σ'.blk w (.ptr id off) (a.eval x))
    rw [h1] at h5
    simp at h5
    subst h5
    obtain ⟨v,hrun,hrep⟩:=run_load_part (lookT_ok hti) h3 h4 hp
    refine ⟨v,?_,hrep⟩
    rw [add_plain,Nat.zero_add] at hrun
    simp [execOp,ho,h6,Instr.loadAt,Instr.sureAddr,hrun]
   ·cases h
  ·cases h
 ·rename_i ti r' y off hti hx
  split at h
  ·rename_i a1 hp
   refine ⟨_,h,op_pure' hdo rfl fun C gh σ' a w hag hs => ?_⟩
   obtain ⟨ad,h6,h7⟩:=(ev_at hag hs (by intro k hk; exact hk) hx:RepC gh σ'.blk w (.el r' y off) (a.eval x))
   obtain ⟨vs,h3,h4,_⟩:=repAt_cells (m:=σ'.blk) h7
   obtain ⟨v,hrun,hrep⟩:=run_load_part (lookT_ok hti) h3 (fun j v hv => (h4 j v hv).1) hp
   refine ⟨v,?_,hrep⟩
   simp [execOp,ho,h6,Instr.loadAt,Instr.sureAddr,hrun]
  ·cases h
 ·rename_i ti id i wd off hti hx
  split at h
  ·rename_i e' r' xs fz hm
   cases hwd:Nat.beq wd r'.width with
   | false => simp [hwd] at h
   | true =>
    have hwd':=beq_true.1 hwd
    simp only [hwd,Bool.not_true,cond_false] at h
    cases hxi:xs[i]? with
    | none => simp [hxi] at h
    | some y =>
     simp only [hxi,Option.bind_some] at h
     split at h
     ·rename_i a1 hp
      refine ⟨_,h,op_pure' hdo rfl fun C gh σ' a w hag hs => ?_⟩
      have hm':σ'.blk id = some (.lst e' r' xs fz):=by rw [agree_m hag (by simp)]; exact hm
      obtain ⟨vs,h1,h2,h3,_⟩:=hs.heap.blk id _ hm'
      obtain ⟨_,b,n,c,h5,h6⟩:=(ev_at hag hs (by intro k hk; simp [hk]) hx:RepC gh σ'.blk w (.eo id i wd off) (a.eval x))
      have hi:i < xs.length:=(List.getElem?_eq_some_iff.1 hxi).1
      obtain ⟨g,cap,h7,h8,_⟩:=own_at h1 (by omega)
      rw [h7] at h5
      simp at h5
      obtain ⟨rfl,_⟩:=h5
      have hrow:RepCs gh σ'.blk w (cellsOf r' y) ((vs.drop (i * r'.width)).take r'.width):=by
       rw [← rowsCells_at xs i y hxi]
       exact (h2.drop _).take _
      obtain ⟨v,hrun,hrep⟩:=run_load_part (base:=⟨g,i * r'.width,none⟩) (lookT_ok hti) hrow (fun j v hv => by
       rw [List.getElem?_take] at hv
       split at hv
       ·rw [List.getElem?_drop] at hv
        rw [add_plain]
        exact h8 _ _ hv
       ·cases hv) hp
      refine ⟨v,?_,hrep⟩
      rw [add_plain] at hrun
      simp [execOp,ho,h6,Instr.loadAt,Instr.sureAddr,hwd',hrun]
     ·cases h
  ·cases h
 ·cases h
end
end Go.Vx
namespace Go.Vx
open Go Go.RowKit
set_option linter.unusedVariables false
set_option linter.unusedSimpArgs false
variable {R:Type}

/-! ### 5. Writing what is there -/
theorem grownBy_setRow (w:World) (g:Nat) (cs:Array Value):w.grownBy (w.setRow g cs) (some g):=
 ⟨rfl,rfl,rfl,by simp,fun k _ hk => setRow_other w g k cs (fun e => hk (by rw [e]))⟩
theorem heap_put4 {gh:Gh} {m:Mem} {w w':World} (H:HeapOK gh m w) {d:Nat} {b b':Blk} (hd:m d = some b) (hl:b.live = true) (hl':b'.live = true) {g:Nat} (hg:gh.blk d = some g)
  (hns:∀ x,¬ SepOK x b) (hdr:w.drawn ≤ w'.drawn) (hG:w.grownBy w' (some g))
  (hb:(∀ x,gh.S x → w'.cell? x = w.cell? x) → (∀ id,m id ≠ none → upd m d b' id ≠ none ∧ gh.val id = gh.val id) → BlkOK gh (upd m d b') w' d b') :
  HeapOK4 gh (upd m d b') w' ∧ Tr gh m w gh (upd m d b') w' ∧ (∀ id,m id ≠ none → upd m d b' id ≠ none ∧ gh.val id = gh.val id):=by
 have hext:∀ id,m id ≠ none → upd m d b' id ≠ none ∧ gh.val id = gh.val id:=fun id h => by
  refine ⟨?_,rfl⟩
  by_cases hd':d = id
  ·subst hd'; rw [upd_same]; simp
  ·rw [upd_other _ _ hd']; exact h
 have hng:∀ x,gh.S x → x.block ≠ g:=fun x hx e => hns x (H.sep x hx d b hd (by rw [hg,e]))
 have hc:∀ x,gh.S x → w'.cell? x = w.cell? x:=fun x hx => World.cell?_of_block (hG.block x.block (H.S_lt hx) (by simpa using hng x hx))
 refine ⟨⟨?_,?_,?_,?_⟩,⟨hG.os,hG.tape,hG.output,hG.size,fun k hk hn => hG.block k hk ?_,fun _ h => h,hc,fun _ h => .inl h,?_,fun id hp hm => ⟨fun hn => hm (by rw [upd_other _ _ (fun e => by rw [← e,hd] at hn; cases hn)]; exact hn),rfl⟩,hdr,rfl⟩,hext⟩
 ·intro id c hid
  by_cases h:d = id
  ·subst h
   rw [upd_same] at hid
   cases hid
   exact hb hc hext
  ·rw [upd_other _ _ h] at hid
   refine blkOK_keep (fun _ h => h) hc hext hG (by rw [hid]; simp) (fun hlc k hk => ?_) (H.blk id c hid)
   simp only [ne_eq,Option.some.injEq]
   intro e
   subst e
   exact H.inj d id b c hd hid hl hlc h _ hg hk
 ·intro i j c c' hi hj hlc hlc' hij k hk
  by_cases h:d = i
  ·subst h
   rw [upd_other _ _ hij] at hj
   exact H.inj d j b c' hd hj hl hlc' hij k hk
  ·rw [upd_other _ _ h] at hi
   by_cases h':d = j
   ·subst h'
    exact H.inj i d c b hi hd hlc hl hij k hk
   ·rw [upd_other _ _ h'] at hj
    exact H.inj i j c c' hi hj hlc hlc' hij k hk
 ·intro x hx id c hid hk
  by_cases h:d = id
  ·subst h
   exact absurd (H.sep x hx d b hd hk) (hns x)
  ·rw [upd_other _ _ h] at hid
   exact H.sep x hx id c hid hk
 ·intro x hx
  obtain ⟨h1,u,h2⟩:=H.st x hx
  exact ⟨h1,u,by rw [hc x hx]; exact h2⟩
 ·simp only [ne_eq,Option.some.injEq]
  intro e
  subst e
  exact hn d b hd hl hg
 ·intro id c hid hlc k hk
  by_cases h:d = id
  ·subst h
   exact .inr ⟨d,b,hd,hl,hk⟩
  ·rw [upd_other _ _ h] at hid
   exact .inr ⟨id,c,hid,hlc,hk⟩
theorem heap_put {gh:Gh} {m:Mem} {w w':World} (H:HeapOK gh m w) {d:Nat} {b b':Blk} (hd:m d = some b) (hl:b.live = true) (hl':b'.live = true) {g:Nat} (hg:gh.blk d = some g)
  (hns:∀ x,¬ SepOK x b) (hdr:w.drawn ≤ w'.drawn) (hG:w.grownBy w' (some g))
  (hb:(∀ x,gh.S x → w'.cell? x = w.cell? x) → (∀ id,m id ≠ none → upd m d b' id ≠ none ∧ gh.val id = gh.val id) → BlkOK gh (upd m d b') w' d b') :
  HeapOK gh (upd m d b') w' ∧ Tr gh m w gh (upd m d b') w' ∧ (∀ id,m id ≠ none → upd m d b' id ≠ none ∧ gh.val id = gh.val id):=by
 obtain ⟨h,T,e⟩:=heap_put4 H hd hl hl' hg hns hdr hG hb
 exact ⟨⟨h,gr_tr H T⟩,T,e⟩
theorem splice_length {α:Type} (cs new:List α) (off:Nat) (h:off + new.length ≤ cs.length):(cs.take off ++ new ++ cs.drop (off + new.length)).length = cs.length:=by
 simp only [List.length_append,List.length_take,List.length_drop]
 omega
theorem all2_splice {α β:Type} {Q:α → β → Prop} {l new:List α} {k newk:List β} (h:All2 Q l k) (hn:All2 Q new newk) (off:Nat):All2 Q (l.take off ++ new ++ l.drop (off + new.length)) (k.take off ++ newk ++ k.drop (off + newk.length)):=by
 rw [← hn.length]
 exact ((h.take off).append hn).append (h.drop _)
section
variable {cx:Cx} {σ:St} {o:Oper} {k:Eff → Option R} {r:R}
theorem op_store_box {t:Nat} {x y:Operand} (hdo:dstOk cx.n o.dst = true) (ho:o.op = .store t x y) {ti:TI} {id off:Nat} {a1:A1} (hti:lookT t cx.T = some ti) (hx:ev σ x = .v (.one (.ptr id off))) (hy:ev σ y = .v a1)
  (h:(match lookM id σ.mem with
   | some (.box t' l) => bif a1.cells.all AC.ok && (Nat.beq a1.cells.length ti.width && Nat.ble (off + ti.width) l.length) then
     k { put:=one .junk,blks:=[(id,.box t' (splice l off a1.cells))],rd:=.m id :: opKeys x ++ opKeys y } else none
   | _ => none) = some r):∃ e,k e = some r ∧ OpOK cx.T cx.n σ o e:=by
 ·skip
  split at h
  ·rename_i tid l hm
   cases hc:(a1.cells.all AC.ok && (Nat.beq a1.cells.length ti.width && Nat.ble (off + ti.width) l.length)) with
   | false => simp [hc] at h
   | true =>
    rw [hc] at h
    simp only [cond_true] at h
    simp only [Bool.and_eq_true] at hc
    obtain ⟨hok,hw,hle⟩:=hc
    have hw:=beq_true.1 hw
    have hle:=Nat.le_of_ble_eq_true hle
    refine ⟨_,h,?_⟩
    intro C gh σ' a w next Q hn hag hs hk
    have hm':σ'.blk id = some (.box tid l):=by rw [agree_m hag (by simp)]; exact hm
    obtain ⟨g,vals,h1,h2,h3⟩:=hs.heap.blk id _ hm'
    obtain ⟨_,b,h5,h6⟩:=(ev_at hag hs (by intro k hk; simp [hk]) hx:RepC gh σ'.blk w (.ptr id off) (a.eval x))
    rw [h1] at h5
    simp at h5
    subst h5
    obtain ⟨h7,h8⟩:=rep1_cells (ev_at hag hs (by intro k hk; simp [hk]) hy:Rep1 gh σ'.blk w a1 (a.eval y)) hok
    have hlen:(a.eval y).cells.toList.length = ti.width:=by rw [← h7.length,hw]
    have hst:=run_storeCells_at cx.T g off tid (a.eval y).cells.toList 0 vals w h2 (by have:=h3.length; simp at this; simp [hlen] ; omega) h8
    have hrun:(execOp a.eval o).run cx.T w = .ok .skip (w.setRow g (vals.toList.take off ++ (a.eval y).cells.toList ++ vals.toList.drop (off + (a.eval y).cells.toList.length)).toArray):=by
     simp only [Nat.add_zero] at hst
     have hsz:(a.eval y).cells.size = ti.width:=by simpa using hlen
     simp [execOp,ho,h6,Instr.storeAt,Instr.sureAddr,storeVar,run_sizeOf (lookT_ok hti),hsz,hst]
    generalize hV:vals.toList.take off ++ (a.eval y).cells.toList ++ vals.toList.drop (off + (a.eval y).cells.toList.length) = V at hrun
    have hput:=heap_put hs.heap hm' rfl (b':=.box tid (splice l off a1.cells)) rfl (g:=g) (by simp [Gh.blk,h1,blockOfV]) (w':=w.setRow g V.toArray) (fun x h => h) (Nat.le_refl _) (grownBy_setRow w g V.toArray) (fun hc hext => by
     refine ⟨g,V.toArray,h1,setRow_heap w g vals _ tid (0,0) h2,?_⟩
     have hh:=all2_splice (repCs_mono (g:=gh) (g':=gh) (m:=σ'.blk) (fun _ h => h) hc hext h3) (repCs_mono (g:=gh) (g':=gh) (m:=σ'.blk) (fun _ h => h) hc hext h7) off
     rw [hV] at hh
     exact hh)
    obtain ⟨hH,hT,hext⟩:=hput
    exact wp_skip hrun (hk gh _ _ (sim_step hs (hn.1 ▸ hdo) hT hH hext fun _ => trivial))
  ·cases h
end
end Go.Vx
namespace Go.Vx
open Go Go.RowKit
set_option linter.unusedVariables false
set_option linter.unusedSimpArgs false
variable {R:Type}
/-! ### 6. Fields, indexes, comparisons -/
theorem bl_eq (s:ByteArray):s.toList = bl s:=ByteArray.toList_eq s
theorem fieldAt_ok {T:Program} {t f:Nat} {p:Nat × TI} (h:fieldAt T t f = some p):∃ fs fd,T.underlying t = some (.struct fs) ∧ fs[f]? = some fd ∧ TIok T fd.type p.2 ∧ p.1 = fd.offset:=by
 unfold fieldAt at h
 split at h
 ·rename_i ti hti
  split at h
  ·rename_i fs hd
   split at h
   ·rename_i fd hfd
    split at h
    ·rename_i tf htf
     injection h with h
     subst h
     exact ⟨fs,fd,by rw [(lookT_ok hti).desc,hd],by simpa using hfd,lookT_ok htf,rfl⟩
    ·cases h
   ·cases h
  ·cases h
 ·cases h
theorem run_fieldAt {T:Program} {t f:Nat} {p:Nat × TI} (h:fieldAt T t f = some p) (hw:Nat.beq p.2.width 0 = false) (a:Addr) (w:World) :
  (Instr.fieldAt t (.pointer (some a)) f).run T w = .ok (.pointer (some (a.add p.1))) w:=by
 obtain ⟨fs,fd,h1,h2,h3,h4⟩:=fieldAt_ok h
 have hw':¬ p.2.width = 0:=by intro e; rw [e] at hw; cases hw
 simp [Instr.fieldAt,run_underlying h1,h2,Instr.sureAddr,fieldPlace,run_sizeOf h3,hw',h4]
theorem isStrTy_ok {P:Program} {t:Nat} (h:isStrTy P t = true):P.underlying t = some .string:=by
 unfold isStrTy at h
 split at h
 ·assumption
 ·cases h
theorem not_lt' (a b:Nat) (h:a + b ≤ 9223372036854775807):¬ (9223372036854775807:Int) < (a:Int) + (b:Int):=by omega
theorem toNat_lt' (j:Int) (n:Nat) (h0:0 ≤ j) (h1:j < n):j.toNat < n:=by omega
section
variable {cx:Cx} {σ:St} {o:Oper} {k:Eff → Option R} {r:R}
theorem op_fieldAddr {t f:Nat} {x:Operand} (hdo:dstOk cx.n o.dst = true) (ho:o.op = .fieldAddr t x f) (h:step0 cx σ o k = some r):∃ e,k e = some r ∧ OpOK cx.T cx.n σ o e:=by
 simp only [step0,ho] at h
 split at h
 ·rename_i fo tf id off hf hx
  cases hw:Nat.beq tf.width 0 with
  | true => simp [hw] at h
  | false =>
   simp only [hw,cond_false] at h
   refine ⟨_,h,op_pure' hdo rfl fun C gh σ' a w hag hs => ?_⟩
   obtain ⟨h4,b,h5,h6⟩:=(ev_at hag hs (by intro k hk; exact hk) hx:RepC gh σ'.blk w (.ptr id off) (a.eval x))
   refine ⟨.pointer (some ⟨b,off + fo,none⟩),?_,h4,b,h5,rfl⟩
   have h7:=run_fieldAt hf hw ⟨b,off,none⟩ w
   rw [add_plain] at h7
   simp [execOp,ho,h6,h7]
 ·rename_i fo tf r' y off hf hx
  cases hw:Nat.beq tf.width 0 with
  | true => simp [hw] at h
  | false =>
   simp only [hw,cond_false] at h
   refine ⟨_,h,op_pure' hdo rfl fun C gh σ' a w hag hs => ?_⟩
   obtain ⟨ad,h5,h6⟩:=(ev_at hag hs (by intro k hk; exact hk) hx:RepC gh σ'.blk w (.el r' y off) (a.eval x))
   refine ⟨.pointer (some (ad.add (off + fo))),?_,ad,rfl,h6⟩
   have h7:=run_fieldAt hf hw (ad.add off) w
   rw [add_add] at h7
   simp [execOp,ho,h5,h7]
 ·rename_i fo tf id i wd off hf hx
  cases hw:Nat.beq tf.width 0 with
  | true => simp [hw] at h
  | false =>
   simp only [hw,cond_false] at h
   refine ⟨_,h,op_pure' hdo rfl fun C gh σ' a w hag hs => ?_⟩
   obtain ⟨h4,b,n,c,h5,h6⟩:=(ev_at hag hs (by intro k hk; exact hk) hx:RepC gh σ'.blk w (.eo id i wd off) (a.eval x))
   refine ⟨.pointer (some ⟨b,i * wd + (off + fo),none⟩),?_,h4,b,n,c,h5,rfl⟩
   have h7:=run_fieldAt hf hw ⟨b,i * wd + off,none⟩ w
   rw [add_plain,Nat.add_assoc] at h7
   simp [execOp,ho,h6,h7]
 ·cases h
theorem run_part {P:Program} {t:Nat} {ti:TI} (hti:TIok P t ti) {gh:Gh} {m:Mem} {w:World} {cs:List AC} {vs:Array Value} (hr:RepCs gh m w cs vs.toList) {off:Nat} {a1:A1} (hp:part ti cs off = some a1) :
  ∃ v,(Go.part t vs off).run P w = .ok v w ∧ Rep1 gh m w a1 v:=by
 unfold part at hp
 cases hagg:ti.agg with
 | true =>
  rw [hagg] at hp
  simp only [cond_true] at hp
  cases hle:Nat.ble (off + ti.width) cs.length with
  | false => simp [hle] at hp
  | true =>
   rw [hle] at hp
   simp only [cond_true,Option.some.injEq] at hp
   subst hp
   refine ⟨.agg (vs.extract off (off + ti.width)),by simp [Go.part,run_isAgg hti,hagg,run_sizeOf hti],_,rfl,?_⟩
   have:(vs.extract off (off + ti.width)).toList = (vs.toList.drop off).take ti.width:=by
    simp [List.extract_eq_take_drop]
   rw [this]
   exact (hr.drop off).take _
 | false =>
  rw [hagg] at hp
  simp only [cond_false] at hp
  split at hp
  ·rename_i a ha
   injection hp with hp
   subst hp
   obtain ⟨v,hv,hrep⟩:=get_of_all2 hr ha
   exact ⟨v,by simp [Go.part,run_isAgg hti,hagg,show vs[off]? = some v by simpa using hv],hrep⟩
  ·cases hp
theorem op_field {t f:Nat} {x:Operand} (hdo:dstOk cx.n o.dst = true) (ho:o.op = .field t x f) (h:step0 cx σ o k = some r):∃ e,k e = some r ∧ OpOK cx.T cx.n σ o e:=by
 simp only [step0,ho] at h
 split at h
 ·rename_i fo tf l hf hx
  split at h
  ·rename_i a1 hp
   refine ⟨_,h,op_pure' hdo rfl fun C gh σ' a w hag hs => ?_⟩
   obtain ⟨vs,h1,h2⟩:=(ev_at hag hs (by intro k hk; exact hk) hx:Rep1 gh σ'.blk w (.row l) (a.eval x))
   obtain ⟨fs,fd,h3,h4,h5,h6⟩:=fieldAt_ok hf
   obtain ⟨v,h7,h8⟩:=run_part h5 h2 hp
   refine ⟨v,?_,h8⟩
   simp only at h6
   rw [h6] at h7
   simp [execOp,ho,h1,Instr.field,run_underlying h3,h4,asAgg,h7]
  ·cases h
 ·cases h
theorem op_extract {i:Nat} {x:Operand} (hdo:dstOk cx.n o.dst = true) (ho:o.op = .extract x i) (h:step0 cx σ o k = some r):∃ e,k e = some r ∧ OpOK cx.T cx.n σ o e:=by
 simp only [step0,ho] at h
 split at h
 ·rename_i l hx
  split at h
  ·rename_i a1 ha
   refine ⟨_,h,op_pure' hdo rfl fun C gh σ' a w hag hs => ?_⟩
   obtain ⟨vs,h1,h2⟩:=(ev_at hag hs (by intro k hk; exact hk) hx:RepV gh σ'.blk w (.tup l) (a.eval x))
   obtain ⟨v,h3,h4⟩:=h2.get ha
   refine ⟨v,?_,h4⟩
   have h3':vs[i]? = some v:=by simpa using h3
   simp [execOp,ho,h1,Instr.extract,h3']
  ·cases h
 ·cases h
theorem op_nilCheck {x:Operand} (hdo:dstOk cx.n o.dst = true) (ho:o.op = .nilCheck x) (h:step0 cx σ o k = some r):∃ e,k e = some r ∧ OpOK cx.T cx.n σ o e:=by
 simp only [step0,ho] at h
 split at h
 ·rename_i id off hx
  refine ⟨_,h,op_pure' hdo rfl fun C gh σ' a w hag hs => ?_⟩
  have h1:=(ev_at hag hs (by intro k hk; exact hk) hx:RepC gh σ'.blk w (.ptr id off) (a.eval x))
  refine ⟨a.eval x,?_,h1⟩
  obtain ⟨_,b,_,h6⟩:=h1
  simp [execOp,ho,h6]
 ·cases h
theorem op_unOp {op:UnOp} {t:Nat} {x:Operand} (hdo:dstOk cx.n o.dst = true) (ho:o.op = .unOp op t x) (h:step0 cx σ o k = some r):∃ e,k e = some r ∧ OpOK cx.T cx.n σ o e:=by
 simp only [step0,ho] at h
 split at h
 ·rename_i q hx
  split at h
  ·refine ⟨_,h,op_pure' hdo rfl fun C gh σ' a w hag hs => ?_⟩
   have h1:a.eval x = .bool q:=ev_at hag hs (by intro k hk; exact hk) hx
   exact ⟨.bool (!q),by simp [execOp,ho,h1,Op.unary],rfl⟩
  ·cases h
 ·rename_i i n hx
  split at h
  ·refine ⟨_,h,op_pure' hdo rfl fun C gh σ' a w hag hs => ?_⟩
   have h1:a.eval x = .int i n:=ev_at hag hs (by intro k hk; exact hk) hx
   exact ⟨.int i (i.wrap (0 - n)),by simp [execOp,ho,h1,Op.unary,Op.intArith],rfl⟩
  ·cases h
 ·cases h
theorem op_convert_old {s t:Nat} {x:Operand} (hdo:dstOk cx.n o.dst = true) (ho:o.op = .convert s t x) (h:convOld cx σ s t x k = some r):∃ e,k e = some r ∧ OpOK cx.T cx.n σ o e:=by
 unfold convOld at h
 cases hsrc:(cx.T.underlying s).isSome with
 | false => rw [hsrc] at h; cases h
 | true =>
 rw [hsrc] at h
 simp only [Bool.not_true,cond_false] at h
 obtain ⟨ds,hds⟩:=Option.isSome_iff_exists.1 hsrc
 split at h
 ·rename_i ti i n hti hx
  split at h
  ·rename_i j hj
   refine ⟨_,h,op_pure' hdo rfl fun C gh σ' a w hag hs => ?_⟩
   have h1:a.eval x = .int i n:=ev_at hag hs (by intro k hk; exact hk) hx
   have h2:cx.T.underlying t = some (.int j):=by rw [(lookT_ok hti).desc,hj]
   exact ⟨.int j (j.wrap n),by simp [execOp,ho,h1,convert,run_underlying hds,run_underlying h2,Conv.intToInt],rfl⟩
  ·cases h
 ·rename_i ti s' hti hx
  split at h
  ·rename_i hj
   refine ⟨_,h,op_pure' hdo rfl fun C gh σ' a w hag hs => ?_⟩
   have h1:a.eval x = .string s':=ev_at hag hs (by intro k hk; exact hk) hx
   have h2:cx.T.underlying t = some .string:=by rw [(lookT_ok hti).desc,hj]
   exact ⟨.string s',by simp [execOp,ho,h1,convert,run_underlying hds,run_underlying h2],rfl⟩
  ·cases h
 ·cases h
theorem op_index {t:Nat} {x y:Operand} (hdo:dstOk cx.n o.dst = true) (ho:o.op = .index t x y) (h:step0 cx σ o k = some r):∃ e,k e = some r ∧ OpOK cx.T cx.n σ o e:=by
 simp only [step0,ho] at h
 split at h
 ·rename_i s i j hx hy
  cases hc:(isStrTy cx.T t && (decide (0 ≤ j) && decide (j < (s.size:Int)))) with
  | false => rw [hc] at h; cases h
  | true =>
   rw [hc] at h
   simp only [cond_true] at h
   simp only [Bool.and_eq_true,decide_eq_true_eq] at hc
   obtain ⟨hstr,hc⟩:=hc
   have hstr:=isStrTy_ok hstr
   refine ⟨_,h,op_pure' hdo rfl fun C gh σ' a w hag hs => ?_⟩
   have h1:a.eval x = .string s:=ev_at hag hs (by intro k hk; simp [hk]) hx
   have h2:a.eval y = .int i j:=ev_at hag hs (by intro k hk; simp [hk]) hy
   have hlt:j.toNat < s.size:=toNat_lt' j _ hc.1 hc.2
   refine ⟨.int .u8 (bt s j),?_,rfl⟩
   have hb:s[j.toNat]? = some s[j.toNat]:=by simp [hlt]
   simp [execOp,ho,h1,h2,Instr.index,run_underlying hstr,asIntOf,hc.1,bt,hb]
 ·cases h

/-! ### 7. binOp -/
theorem run_equalIn_slc {P:Program} (w:World) (d:Nat) (t:TypeId) (ad:Option Addr) (n cap:Nat) {e:TypeId} (ht:P.underlying t = some (.slice e)):(Op.equalIn (d + 1) t (.slice ad n cap) (.slice none 0 0)).run P w = .ok ad.isNone w:=by
 cases ad with
 | none => simp [Op.equalIn,run_underlying ht]
 | some a => simp [Op.equalIn,run_underlying ht]
theorem slc_nil {P:Program} {op:BinOp} {t:Nat} {x y:Operand} {z:AC} {ad:Option Addr} {n cap:Nat} {gh:Gh} {m:Mem} {w:World} {e:Bool} (hne:e = false → ad ≠ none)
  (h:(bif !isSlcTy P t then none else match op with | .eql => some (true,AC.q e false) | .neq => some (true,AC.q e true) | _ => none) = some (true,z)) :
  ∃ zv,(do eqGuard op t x y (.slice ad n cap) (.slice none 0 0); binOp op t (.slice ad n cap) (.slice none 0 0):Sem Value).run P w = .ok zv w ∧ RepC gh m w z zv:=by
 cases hb:isSlcTy P t with
 | false => rw [hb] at h; cases h
 | true =>
  rw [hb] at h
  simp only [Bool.not_true,cond_false] at h
  have ht:∃ e,P.underlying t = some (.slice e):=by
   unfold isSlcTy at hb
   split at hb
   ·exact ⟨_,by assumption⟩
   ·cases hb
  obtain ⟨e',ht⟩:=ht
  have he:(Op.equal t (.slice ad n cap) (.slice none 0 0)).run P w = .ok ad.isNone w:=run_equalIn_slc w 9999 t ad n cap ht
  have hq:e = false → ad.isNone = false:=fun h => by cases ad with
   | none => exact absurd rfl (hne h)
   | some a => rfl
  split at h
  ·injection h with h; injection h with h0 h; subst h; exact ⟨.bool ad.isNone,by simp [eqGuard_at_slice,binOp,he],_,rfl,hq⟩
  ·injection h with h; injection h with h0 h; subst h; exact ⟨.bool (!ad.isNone),by simp [eqGuard_at_slice,binOp,he],_,rfl,fun h => by rw [hq h]; rfl⟩
  ·cases h
theorem run_binCells {P:Program} {op:BinOp} {t:Nat} {x y:Operand} {a b z:AC} {u v:Value} {gh:Gh} {m:Mem} {w:World} (h:binCells P t op a b = some (true,z)) (hu:RepC gh m w a u) (hv:RepC gh m w b v) :
  ∃ zv,(do eqGuard op t x y u v; binOp op t u v:Sem Value).run P w = .ok zv w ∧ RepC gh m w z zv:=by
 unfold binCells at h
 split at h
 ·rename_i i x' j y'
  obtain rfl:u = .int i x':=hu
  obtain rfl:v = .int j y':=hv
  split at h
  ·rename_i hij
   subst hij
   split at h
   ·injection h with h; injection h with h0 h; subst h; exact ⟨_,by simp [eqGuard_add,binOp_add,Op.intArith],rfl⟩
   ·injection h with h; injection h with h0 h; subst h; exact ⟨_,by simp [eqGuard_sub,binOp_sub,Op.intArith],rfl⟩
   ·injection h with h; injection h with h0 h; subst h; exact ⟨_,by simp [eqGuard_mul,binOp_mul,Op.intArith],rfl⟩
   ·injection h with h; injection h with h0 h; subst h
    have hy:¬ y' = 0:=by simpa using h0
    exact ⟨_,by simp [eqGuard_quo,binOp_quo,Op.intDiv,hy],rfl⟩
   ·injection h with h; injection h with h0 h; subst h
    have hy:¬ y' = 0:=by simpa using h0
    exact ⟨_,by simp [eqGuard_rem,binOp_rem,Op.intDiv,hy],rfl⟩
   ·injection h with h; injection h with h0 h; subst h; exact ⟨_,by simp [eqGuard_at_int,binOp_eql],rfl⟩
   ·injection h with h; injection h with h0 h; subst h; exact ⟨_,by simp [eqGuard_at_int,binOp_neq],rfl⟩
   ·injection h with h; injection h with h0 h; subst h; exact ⟨_,by simp [eqGuard_at_int,binOp_lss],rfl⟩
   ·injection h with h; injection h with h0 h; subst h; exact ⟨_,by simp [eqGuard_at_int,binOp_leq],rfl⟩
   ·injection h with h; injection h with h0 h; subst h; exact ⟨_,by simp [eqGuard_at_int,binOp_gtr],rfl⟩
   ·injection h with h; injection h with h0 h; subst h; exact ⟨_,by simp [eqGuard_at_int,binOp_geq],rfl⟩
   ·cases h
  ·cases h
 ·rename_i x' y'
  obtain rfl:u = .string x':=hu
  obtain rfl:v = .string y':=hv
  split at h
  ·injection h with h; injection h with h0 h; subst h
   have hn:¬ (9223372036854775807:Int) < (ByteArray.size x':Int) + (ByteArray.size y':Int):=not_lt' _ _ (Nat.le_of_ble_eq_true h0)
   exact ⟨_,by simp [eqGuard_at_string,binOp,Op.stringOp,hn],rfl⟩
  ·injection h with h; injection h with h0 h; subst h; exact ⟨_,by simp [eqGuard_at_string,binOp,Op.stringOp,bl_eq],rfl⟩
  ·injection h with h; injection h with h0 h; subst h; exact ⟨_,by simp [eqGuard_at_string,binOp,Op.stringOp,bl_eq],rfl⟩
  ·injection h with h; injection h with h0 h; subst h; exact ⟨_,by simp [eqGuard_at_string,binOp,Op.stringOp,bl_eq],rfl⟩
  ·injection h with h; injection h with h0 h; subst h; exact ⟨_,by simp [eqGuard_at_string,binOp,Op.stringOp,bl_eq],rfl⟩
  ·injection h with h; injection h with h0 h; subst h; exact ⟨_,by simp [eqGuard_at_string,binOp,Op.stringOp,bl_eq],rfl⟩
  ·injection h with h; injection h with h0 h; subst h; exact ⟨_,by simp [eqGuard_at_string,binOp,Op.stringOp,bl_eq],rfl⟩
  ·cases h
 ·rename_i x' y'
  obtain rfl:u = .bool x':=hu
  obtain rfl:v = .bool y':=hv
  cases hb:isBoolTy P t with
  | false => rw [hb] at h; cases h
  | true =>
   simp only [hb,Bool.not_true,cond_false] at h
   have ht:P.underlying t = some .bool:=by
    unfold isBoolTy at hb
    split at hb
    ·assumption
    ·cases hb
   have he:(Op.equal t (.bool x') (.bool y')).run P w = .ok (x' == y') w:=run_equalIn_bool' w 9999 t x' y' ht
   split at h
   ·injection h with h; injection h with h0 h; subst h; exact ⟨.bool (x' == y'),by simp [eqGuard_at_bool,binOp,he],rfl⟩
   ·injection h with h; injection h with h0 h; subst h; exact ⟨.bool (!(x' == y')),by simp [eqGuard_at_bool,binOp,he],rfl⟩
   ·cases h
 ·rename_i xs
  obtain ⟨ad,cap,rfl,_,_,hne⟩:=hu
  obtain rfl:v = .slice none 0 0:=hv
  refine slc_nil (fun he hn => ?_) h
  obtain ⟨ad',h1,_⟩:=hne (by cases xs with
   | nil => cases he
   | cons => simp)
  rw [hn] at h1
  cases h1
 ·obtain ⟨_,_,ad,n,cap,rfl⟩:=hu
  obtain rfl:v = .slice none 0 0:=hv
  exact slc_nil (fun he => by cases he) h
 ·cases h
end
end Go.Vx
namespace Go.Vx
open Go Go.RowKit
set_option linter.unusedVariables false
set_option linter.unusedSimpArgs false
variable {R:Type}
/-! ### 8. Structs that are compared -/
def FV (P:Program) (gh:Gh) (m:Mem) (w:World) (t:Nat) (l:List AC) (v:Value):Prop:=
 ∃ d,P.underlying t = some d ∧ (if isAgg d = true then ∃ vs,v = .agg vs ∧ RepCs gh m w l vs.toList else ∃ a,l = [a] ∧ RepC gh m w a v)
theorem fv_part {P:Program} {t:Nat} {ti:TI} (hti:TIok P t ti) {gh:Gh} {m:Mem} {w:World} {cs:List AC} {vs:Array Value} (hr:RepCs gh m w cs vs.toList) {off:Nat}
  (h1:(ti.agg || Nat.beq ti.width 1) = true) (h2:Nat.ble (off + ti.width) cs.length = true):∃ v,(Go.part t vs off).run P w = .ok v w ∧ FV P gh m w t ((cs.drop off).take ti.width) v:=by
 cases hagg:ti.agg with
 | true =>
  obtain ⟨v,h3,vs',rfl,h4⟩:=run_part (off:=off) (a1:=.row ((cs.drop off).take ti.width)) hti hr (by simp [part,hagg,h2])
  exact ⟨_,h3,ti.desc,hti.desc,by rw [← hti.agg,hagg]; exact ⟨vs',rfl,h4⟩⟩
 | false =>
  rw [hagg] at h1
  have hw:ti.width = 1:=by simpa using h1
  have hlt:off < cs.length:=by have:=Nat.le_of_ble_eq_true h2; omega
  obtain ⟨v,h3,h4⟩:=run_part (off:=off) (a1:=.one cs[off]) hti hr (by simp [part,hagg,hlt])
  refine ⟨v,h3,ti.desc,hti.desc,?_⟩
  rw [← hti.agg,hagg]
  refine ⟨cs[off],?_,h4⟩
  rw [hw,List.drop_eq_getElem_cons hlt]
  rfl
theorem eqFs_run {P:Program} {rec:Nat → List AC → List AC → Option Bool} {d:Nat} {gh:Gh} {m:Mem} {w:World} (hrec:∀ t l l' q u u',rec t l l' = some q → FV P gh m w t l u → FV P gh m w t l' u' → (Op.equalIn d t u u').run P w = .ok q w)
  {l l':List AC} {xs ys:Array Value} (hx:RepCs gh m w l xs.toList) (hy:RepCs gh m w l' ys.toList):∀ (fs:List Field) (q:Bool),eqFs P rec l l' fs = some q → (Op.eqFields d xs ys fs).run P w = .ok q w
 | [],q,h => by
  simp [eqFs] at h
  subst h
  simp [Op.eqFields]
 | f :: fs,q,h => by
  unfold eqFs at h
  cases hn : (f.name == "_") with
  | true => simp [hn] at h
  | false =>
   simp only [hn,cond_false] at h
   have hne : f.name ≠ "_" := by simpa using hn
   split at h
   ·rename_i tf htf
    cases hc:((tf.agg || Nat.beq tf.width 1) && (Nat.ble (f.offset + tf.width) l.length && Nat.ble (f.offset + tf.width) l'.length)) with
    | false => rw [hc] at h; cases h
    | true =>
     rw [hc] at h
     simp only [cond_true] at h
     simp only [Bool.and_eq_true] at hc
     obtain ⟨h1,h2,h3⟩:=hc
     obtain ⟨u,h4,h5⟩:=fv_part (lookT_ok htf) hx h1 h2
     obtain ⟨u',h6,h7⟩:=fv_part (lookT_ok htf) hy h1 h3
     cases hr:rec f.type ((l.drop f.offset).take tf.width) ((l'.drop f.offset).take tf.width) with
     | none => rw [hr] at h; cases h
     | some b =>
      rw [hr] at h
      simp only [Option.bind_some] at h
      have h8:=hrec _ _ _ _ _ _ hr h5 h7
      have hstep:(Op.eqFields d xs ys (f :: fs)).run P w = if (!b) = true then .ok false w else (Op.eqFields d xs ys fs).run P w:=by
       simp only [Op.eqFields,hne,ne_eq,not_false_eq_true,if_true,Sem.run_bind,h4,h6,h8,Result.andThen_ok,Sem.run_ite,Sem.run_pure]
      rw [hstep]
      cases fs with
      | nil =>
       simp only [Option.some.injEq] at h
       subst h
       cases b <;> simp [Op.eqFields]
      | cons g fs =>
       simp only at h
       cases hg:eqFs P rec l l' (g :: fs) with
       | none => rw [hg] at h; cases h
       | some y =>
        rw [hg] at h
        simp only [Option.bind_some,Option.some.injEq] at h
        subst h
        have:=eqFs_run hrec hx hy (g :: fs) y hg
        cases b <;> simp [this]
   ·cases h
theorem eqTy_run {P:Program} {gh:Gh} {m:Mem} {w:World}:∀ (n d:Nat) (t:Nat) (l l':List AC) (q:Bool) (u u':Value),eqTy P n t l l' = some q → FV P gh m w t l u → FV P gh m w t l' u' → (Op.equalIn (d + n) t u u').run P w = .ok q w
 | 0,d,t,l,l',q,u,u',h,_,_ => by cases h
 | n + 1,d,t,l,l',q,u,u',h,⟨D,hD,hu⟩,⟨D',hD',hu'⟩ => by
  rw [hD] at hD'
  injection hD' with hD'
  subst hD'
  unfold eqTy at h
  rw [hD] at h
  split at h
  ·rename_i _ k he
   injection he with he
   subst he
   split at h
   ·rename_i i x j y
    split at h
    ·rename_i hij
     subst hij
     injection h with h
     subst h
     simp only [isAgg,Bool.false_eq_true,if_false] at hu hu'
     obtain ⟨a,ha,hra⟩:=hu
     obtain ⟨b,hb,hrb⟩:=hu'
     injection ha with ha
     injection hb with hb
     subst ha hb
     obtain rfl:u = .int i x:=hra
     obtain rfl:u' = .int i y:=hrb
     exact run_equalIn_int w (d + n) t i k x y hD
    ·cases h
   ·cases h
  ·rename_i _ he
   injection he with he
   subst he
   split at h
   ·rename_i x y
    injection h with h
    subst h
    simp only [isAgg,Bool.false_eq_true,if_false] at hu hu'
    obtain ⟨a,ha,hra⟩:=hu
    obtain ⟨b,hb,hrb⟩:=hu'
    injection ha with ha
    injection hb with hb
    subst ha hb
    obtain rfl:u = .bool x:=hra
    obtain rfl:u' = .bool y:=hrb
    exact run_equalIn_bool' w (d + n) t x y hD
   ·cases h
  ·rename_i _ he
   injection he with he
   subst he
   split at h
   ·rename_i x y
    injection h with h
    subst h
    simp only [isAgg,Bool.false_eq_true,if_false] at hu hu'
    obtain ⟨a,ha,hra⟩:=hu
    obtain ⟨b,hb,hrb⟩:=hu'
    injection ha with ha
    injection hb with hb
    subst ha hb
    obtain rfl:u = .string x:=hra
    obtain rfl:u' = .string y:=hrb
    rw [← bl_eq,← bl_eq]
    exact run_equalIn_string w (d + n) t x y hD
   ·cases h
  ·rename_i _ fs he
   injection he with he
   subst he
   cases hs:P.stoodInHeld t with
   | true => rw [hs] at h; cases h
   | false =>
    rw [hs] at h
    simp only [cond_false] at h
    simp only [isAgg,if_true] at hu hu'
    obtain ⟨xs,rfl,hxs⟩:=hu
    obtain ⟨ys,rfl,hys⟩:=hu'
    have hf:P.fieldsOf t = fs:=by simp [Program.fieldsOf,hD]
    rw [← Nat.add_assoc,run_equalIn_struct w (d + n) t xs ys (by rw [hD,hf]) hs,hf]
    exact eqFs_run (fun t l l' q u u' => eqTy_run n d t l l' q u u') hxs hys fs.toList q h
  ·cases h
section
variable {cx:Cx} {σ:St} {o:Oper} {k:Eff → Option R} {r:R}
theorem op_binOp {op:BinOp} {t t':Nat} {x y:Operand} (hdo:dstOk cx.n o.dst = true) (ho:o.op = .binOp op t x y t') (h:step0 cx σ o k = some r):∃ e,k e = some r ∧ OpOK cx.T cx.n σ o e:=by
 simp only [step0,ho] at h
 split at h
 ·rename_i a b hx hy
  split at h
  ·rename_i c z hz
   cases c with
   | false => cases h
   | true =>
    simp only [cond_true] at h
    refine ⟨_,h,op_pure' hdo rfl fun C gh σ' a' w hag hs => ?_⟩
    obtain ⟨zv,h1,h2⟩:=run_binCells (x:=x) (y:=y) hz (ev_at hag hs (by intro k hk; simp [hk]) hx:RepC gh σ'.blk w a _) (ev_at hag hs (by intro k hk; simp [hk]) hy:RepC gh σ'.blk w b _)
    refine ⟨zv,?_,h2⟩
    simp only [Sem.run_bind] at h1
    simp only [execOp,ho,Sem.run_bind,Sem.run_pure]
    rw [h1]
    rfl
  ·cases h
 ·rename_i l l' hx hy
  cases hg:cx.T.eqGuardType cx.T.depth t with
  | true => rw [hg] at h; cases h
  | false =>
   rw [hg] at h
   simp only [cond_false] at h
   split at h
   ·rename_i ti q hti hq
    cases hagg:ti.agg with
    | false => rw [hagg] at h; cases h
    | true =>
     rw [hagg] at h
     simp only [cond_true] at h
     have hrun:∀ (C:Ctx) gh σ' (a':Act) (w:World),agree (opKeys x ++ opKeys y) σ σ' → Sim C gh σ' a' w → ∃ xs ys,a'.eval x = .agg xs ∧ a'.eval y = .agg ys ∧ (Op.equalIn 10000 t (.agg xs) (.agg ys)).run cx.T w = .ok q w:=by
      intro C gh σ' a' w hag hs
      obtain ⟨xs,h1,h2⟩:=(ev_at hag hs (by intro k hk; simp [hk]) hx:Rep1 gh σ'.blk w (.row l) _)
      obtain ⟨ys,h3,h4⟩:=(ev_at hag hs (by intro k hk; simp [hk]) hy:Rep1 gh σ'.blk w (.row l') _)
      have hti':=lookT_ok hti
      refine ⟨xs,ys,h1,h3,eqTy_run (gh:=gh) (m:=σ'.blk) 8 9992 t l l' q _ _ hq ⟨ti.desc,hti'.desc,?_⟩ ⟨ti.desc,hti'.desc,?_⟩⟩
      ·rw [← hti'.agg,hagg]; exact ⟨xs,rfl,h2⟩
      ·rw [← hti'.agg,hagg]; exact ⟨ys,rfl,h4⟩
     split at h
     ·refine ⟨_,h,op_pure' hdo rfl fun C gh σ' a' w hag hs => ?_⟩
      obtain ⟨xs,ys,h1,h2,h3⟩:=hrun C gh σ' a' w hag hs
      exact ⟨.bool q,by simp [execOp,ho,h1,h2,run_eqGuard_agg (hm:=hg),run_eql_struct,h3],rfl⟩
     ·refine ⟨_,h,op_pure' hdo rfl fun C gh σ' a' w hag hs => ?_⟩
      obtain ⟨xs,ys,h1,h2,h3⟩:=hrun C gh σ' a' w hag hs
      exact ⟨.bool (!q),by simp [execOp,ho,h1,h2,run_eqGuard_agg (hm:=hg),run_neq_struct,h3],rfl⟩
     ·cases h
   ·cases h
 ·cases h
end
end Go.Vx
namespace Go.Vx
open Go Go.RowKit
set_option linter.unusedVariables false
set_option linter.unusedSimpArgs false
variable {R:Type}
/-! ### 9. Cuts, elements, lengths -/
theorem run_bounds {P:Program} {w:World} (is:Bool) (len cap:Nat) (lo hi:Option Value) (l h:Int) (hl:(lo = none ∧ l = 0) ∨ ∃ k,lo = some (.int k l)) (hh:(hi = none ∧ h = len) ∨ ∃ k,hi = some (.int k h))
  (h0:0 ≤ l) (h1:l ≤ h) (h2:h ≤ cap):(Instr.sliceBounds is len cap lo hi none).run P w = .ok (l.toNat,h.toNat,cap) w:=by
 have eh:(h.toNat:Int) = h:=Int.toNat_of_nonneg (by omega)
 rcases hl with ⟨rfl,rfl⟩ | ⟨k,rfl⟩ <;> rcases hh with ⟨rfl,rfl⟩ | ⟨k',rfl⟩
 ·simp [Instr.sliceBounds]
 ·simp [Instr.sliceBounds,run_sliceBound,h2,(by omega:(0:Int) ≤ h)]
 ·simp [Instr.sliceBounds,run_sliceBound,h0,h1]
 ·simp [Instr.sliceBounds,run_sliceBound,h0,h1,h2,(by omega:(0:Int) ≤ h),eh]
theorem loOf_rep {C:Ctx} {gh:Gh} {σ σ':St} {a:Act} {w:World} {rd:List Key} (hag:agree rd σ σ') (hs:Sim C gh σ' a w) {lo:Option Operand} {l:Int} (h:loOf σ lo = some l) (hk:∀ k ∈ lo.elim [] opKeys,k ∈ rd) :
  (lo.map a.eval = none ∧ l = 0) ∨ ∃ k,lo.map a.eval = some (.int k l):=by
 cases lo with
 | none => simp [loOf] at h; exact .inl ⟨rfl,h.symm⟩
 | some x =>
  simp only [loOf] at h
  split at h
  ·rename_i k l' hx
   injection h with h
   subst h
   refine .inr ⟨k,?_⟩
   have:a.eval x = .int k l':=ev_at hag hs (by intro q hq; exact hk q hq) hx
   simp [this]
  ·cases h
theorem hiOf_rep {C:Ctx} {gh:Gh} {σ σ':St} {a:Act} {w:World} {rd:List Key} (hag:agree rd σ σ') (hs:Sim C gh σ' a w) {hi:Option Operand} {n:Nat} {l:Int} (h:hiOf σ hi n = some l) (hk:∀ k ∈ hi.elim [] opKeys,k ∈ rd) :
  (hi.map a.eval = none ∧ l = n) ∨ ∃ k,hi.map a.eval = some (.int k l):=by
 cases hi with
 | none => simp [hiOf] at h; exact .inl ⟨rfl,h.symm⟩
 | some x =>
  simp only [hiOf] at h
  split at h
  ·rename_i k l' hx
   injection h with h
   subst h
   refine .inr ⟨k,?_⟩
   have:a.eval x = .int k l':=ev_at hag hs (by intro q hq; exact hk q hq) hx
   simp [this]
  ·cases h
theorem elemOf_ok {T:Program} {t:Nat} {p:Nat × TI} (h:elemOf T t = some p):T.underlying t = some (.slice p.1) ∧ TIok T p.1 p.2:=by
 unfold elemOf at h
 split at h
 ·rename_i ti hti
  split at h
  ·rename_i e hd
   split at h
   ·rename_i te hte
    injection h with h
    subst h
    exact ⟨by rw [(lookT_ok hti).desc,hd],lookT_ok hte⟩
   ·cases h
  ·cases h
 ·cases h
theorem own_frozen_rep {gh:Gh} {m:Mem} {w:World} (H:HeapOK gh m w) {id e:Nat} {r:Ty} {xs:List r.D} (h:m id = some (.lst e r xs true)):RepD gh.S w (.list r) xs (gh.val id):=by
 obtain ⟨vs,h1,h2,h3,h4⟩:=H.blk id _ h
 rcases h1.2 with ⟨hv,h0⟩ | ⟨g,cap,cur,hv,_,hg,hnc,hcm,hcs,htk⟩
 ·rw [hv]
  refine ⟨none,0,by rw [h0],by omega,fun _ => rfl,fun hl => by omega⟩
 ·rw [hv]
  refine ⟨some ⟨g,0,none⟩,cap,rfl,hnc,(fun e => by cases e),fun hl => ⟨_,rfl,fun i hi => ?_⟩⟩
  have hgb:gh.blk id = some g:=by simp [Gh.blk,hv,blockOfV]
  have hcell:∀ j u,vs[j]? = some u → w.cell? ⟨g,j,none⟩ = some u:=fun j u hu => by
   have:=h1.cells (g:=g) (by rw [hv]; rfl) j u hu
   rw [add_plain] at this
   simpa using this
  -- a row of cells in a stable block
  have key:∀ (t:Ty) (x:t.D) (us:List Value) (o:Nat),RepCs gh m w (cellsOf t x) us → (∀ j u,us[j]? = some u → w.cell? ⟨g,o + j,none⟩ = some u ∧ gh.S ⟨g,o + j,none⟩) → RepAt gh.S w t x ⟨g,o,none⟩:=by
   intro t
   induction t with
   | unit => intro x us o _ _; trivial
   | cons a b _ ihb =>
    intro x us o hr hc
    cases hr with
    | cons hr1 hr2 =>
     rename_i u us
     refine ⟨⟨u,(hc 0 u rfl).2,by simpa using (hc 0 u rfl).1,hr1⟩,?_⟩
     rw [add_plain]
     refine ihb x.2 us (o + 1) hr2 fun j v hv => ?_
     have:=hc (j + 1) v (by simpa using hv)
     rw [show o + 1 + j = o + (j + 1) by omega]
     exact this
   | int k => intro x us o hr hc; cases hr with | cons hr1 hr2 => rename_i u us; exact ⟨u,(hc 0 u rfl).2,by simpa using (hc 0 u rfl).1,hr1⟩
   | bool => intro x us o hr hc; cases hr with | cons hr1 hr2 => rename_i u us; exact ⟨u,(hc 0 u rfl).2,by simpa using (hc 0 u rfl).1,hr1⟩
   | str => intro x us o hr hc; cases hr with | cons hr1 hr2 => rename_i u us; exact ⟨u,(hc 0 u rfl).2,by simpa using (hc 0 u rfl).1,hr1⟩
   | list r _ => intro x us o hr hc; cases hr with | cons hr1 hr2 => rename_i u us; exact ⟨u,(hc 0 u rfl).2,by simpa using (hc 0 u rfl).1,hr1⟩
  rw [add_plain,Nat.zero_add]
  have hxi:xs[i]? = some xs[i]:=by simp [hi]
  have hlen:vs.length = xs.length * r.width:=h1.1
  refine key r xs[i] ((vs.drop (i * r.width)).take r.width) (i * r.width) (by rw [← rowsCells_at xs i _ hxi]; exact (h2.drop _).take _) fun j u hu => ?_
  rw [List.getElem?_take] at hu
  split at hu
  ·rename_i hj
   rw [List.getElem?_drop] at hu
   have hlt:i * r.width + j < xs.length * r.width:=by
    have:=(List.getElem?_eq_some_iff.1 hu).1
    omega
   exact ⟨hcell _ _ hu,h4 rfl g hgb _ hlt⟩
  ·cases hu
theorem os_rep {gh:Gh} {m:List (Nat × Blk)} {w:World} (H:HeapOK gh (fun i => lookM i m) w) {id lo hi e:Nat} {r:Ty} {xs:List r.D} {v:Value} (hm:lookM id m = some (.lst e r xs true))
  (hr:RepC gh (fun i => lookM i m) w (.os id lo hi r.width) v):RepD gh.S w (.list r) ((xs.take hi).drop lo) v:=by
 obtain ⟨_,h2,a0,n,c0,a,c,h3,h4,rfl,h6,h7,h8,_⟩:=hr
 obtain ⟨a',cap,g1,g2,g3,g4⟩:=own_frozen_rep H hm
 rw [h3] at g1
 injection g1 with g1 g5 g6
 subst g1 g5 g6
 have hlen:((xs.take hi).drop lo).length = hi - lo:=by
  rw [List.length_drop,List.length_take]; omega
 refine ⟨a,c,by rw [hlen],by rw [hlen]; exact h6,h7,fun hpos => ?_⟩
 rw [hlen] at hpos
 obtain ⟨b,rfl,rfl⟩:=h8 (by omega)
 refine ⟨_,rfl,fun i hi' => ?_⟩
 rw [hlen] at hi'
 obtain ⟨ad,g7,g8⟩:=g4 (by omega)
 injection g7 with g7
 subst g7
 have hget:((xs.take hi).drop lo)[i] = xs[lo + i]'(by omega):=by
  rw [List.getElem_drop,List.getElem_take]
 have:=g8 (lo + i) (by omega)
 rw [hget,add_plain]
 rw [add_plain,Nat.zero_add,Nat.add_mul] at this
 exact this
theorem asD_rep {gh:Gh} {m:List (Nat × Blk)} {w:World} (H:HeapOK gh (fun i => lookM i m) w) {t:Ty} {a:AC} {x:t.D} {v:Value} (h:asD m t a = some x) (hr:RepC gh (fun i => lookM i m) w a v):RepD gh.S w t x v:=by
 unfold asD at h
 split at h
 ·rename_i t' y
  obtain ⟨rfl,rfl⟩:=castD_some h
  exact hr
 ·split at h
  ·injection h with h
   subst h
   obtain rfl:=hr
   exact ⟨none,0,rfl,Nat.le_refl _,fun _ => rfl,fun hl => by simp at hl⟩
  ·cases h
 ·rename_i id
  split at h
  ·rename_i e r xs hm
   obtain ⟨he,rfl⟩:=castD_some h
   subst he
   rw [hr.2.1]
   exact own_frozen_rep H hm
  ·cases h
 ·rename_i id lo hi wd
  split at h
  ·rename_i e r xs hm
   cases hw:Nat.beq wd r.width with
   | false => rw [hw] at h; cases h
   | true =>
    rw [hw] at h
    have hw:=beq_true.1 hw
    subst hw
    obtain ⟨he,rfl⟩:=castD_some h
    subst he
    exact os_rep H hm hr
  ·cases h
 ·cases h
theorem asD_agree {m m':List (Nat × Blk)} {t:Ty} {a:AC} (h:∀ k ∈ acKeys a,match k with | .s _ => True | .m id => lookM id m' = lookM id m):asD m' t a = asD m t a:=by
 cases a with
 | own id => simp only [asD]; rw [h (.m id) (by simp [acKeys])]
 | os id lo hi wd => simp only [asD]; rw [h (.m id) (by simp [acKeys])]
 | _ => rfl
theorem agree_ac {rd:List Key} {σ σ':St} (hag:agree rd σ σ') {a:AC} (ha:∀ k ∈ acKeys a,k ∈ rd):∀ k ∈ acKeys a,match k with | .s _ => True | .m id => lookM id σ'.mem = lookM id σ.mem:=by
 intro k hk
 cases k with
 | s t => trivial
 | m id => exact hag (.m id) (ha _ hk)
section
variable {cx:Cx} {σ:St} {o:Oper} {k:Eff → Option R} {r:R}
theorem run_bounds3 {P:Program} {w:World} (len cap:Nat) (lo:Option Value) (l h m:Int) (hl:(lo = none ∧ l = 0) ∨ ∃ k,lo = some (.int k l)) {k' k'':IntKind}
  (h0:0 ≤ l) (h1:l ≤ h) (h2:h ≤ m) (h3:m ≤ cap):(Instr.sliceBounds true len cap lo (some (.int k' h)) (some (.int k'' m))).run P w = .ok (l.toNat,h.toNat,m.toNat) w:=by
 have eh:(h.toNat:Int) = h:=Int.toNat_of_nonneg (by omega)
 have em:(m.toNat:Int) = m:=Int.toNat_of_nonneg (by omega)
 rcases hl with ⟨rfl,rfl⟩ | ⟨k,rfl⟩
 ·simp [Instr.sliceBounds,run_sliceBound,h2,h3,em,(by omega:(0:Int) ≤ h),(by omega:(0:Int) ≤ m)]
 ·simp [Instr.sliceBounds,run_sliceBound,h0,h1,h2,h3,eh,em,(by omega:(0:Int) ≤ h),(by omega:(0:Int) ≤ m)]
theorem sub_rep {S:Addr → Prop} {w:World} {r:Ty} {xs:List r.D} {ad:Option Addr} {cap size l h m:Nat} (hw:r.width = size) (hl:l ≤ h) (hm:h ≤ m) (hx:h ≤ xs.length) (hmc:m ≤ cap)
  (h5:ad = none → cap = 0) (h6:0 < xs.length → ∃ a,ad = some a ∧ ∀ i,(hi:i < xs.length) → RepAt S w r xs[i] (a.add (i * r.width))) :
  RepD S w (.list r) ((xs.take h).drop l) (.slice (if m = l then ad else ad.map (·.add (l * size))) (h - l) (m - l)):=by
 have hlen:((xs.take h).drop l).length = h - l:=by
  rw [List.length_drop,List.length_take]; omega
 refine ⟨_,_,by rw [hlen],by rw [hlen]; omega,?_,fun hpos => ?_⟩
 ·intro hn
  by_cases hcl:m = l
  ·omega
  ·rw [if_neg hcl] at hn
   have:ad = none:=by cases ad <;> simp_all
   have:=h5 this
   omega
 ·rw [hlen] at hpos
  obtain ⟨ad',h9,h10⟩:=h6 (by omega)
  subst h9
  have hcl:¬ m = l:=by omega
  refine ⟨ad'.add (l * size),by rw [if_neg hcl]; rfl,fun i hi => ?_⟩
  rw [hlen] at hi
  have hget:((xs.take h).drop l)[i] = xs[l + i]'(by omega):=by
   rw [List.getElem_drop,List.getElem_take]
  rw [hget,add_add,← hw,← Nat.add_mul]
  exact h10 _ _
theorem op_slice_old {t:Nat} {x:Operand} {lo hi mx:Option Operand} (hdo:dstOk cx.n o.dst = true) (ho:o.op = .slice t x lo hi mx) (h:sliceOld cx σ t x lo hi mx k = some r):∃ e,k e = some r ∧ OpOK cx.T cx.n σ o e:=by
 unfold sliceOld at h
 split at h
 ·rename_i mo
  split at h
  ·rename_i l hop a1 km mm hl hx hmo
   split at h
   ·rename_i e te hel
    split at h
    ·rename_i r' hr'
     cases hw:Nat.beq r'.width te.width with
     | false => rw [hw] at h; cases h
     | true =>
      rw [hw] at h
      simp only [Bool.not_true,cond_false] at h
      have hw:=beq_true.1 hw
      cases hxs:listOf σ.mem r' a1 with
      | none => rw [hxs] at h; cases h
      | some xs =>
       rw [hxs] at h
       simp only [Option.bind_some] at h
       split at h
       ·rename_i hh hhi
        cases hc:(decide (0 ≤ l) && (decide (l ≤ hh) && (decide (hh ≤ mm) && decide (mm ≤ (xs.length:Int))))) with
        | false => rw [hc] at h; cases h
        | true =>
         rw [hc] at h
         simp only [cond_true] at h
         simp only [Bool.and_eq_true,decide_eq_true_eq] at hc
         obtain ⟨h0,h1,h2,h2'⟩:=hc
         have h2:@LE.le Int _ hh mm:=h2
         have h2':@LE.le Int _ mm xs.length:=h2'
         refine ⟨_,h,op_pure' hdo rfl fun C gh σ' a w hag hs => ?_⟩
         have hrep:RepC gh σ'.blk w a1 (a.eval x):=ev_at hag hs (by intro q hq; simp [hq]) hx
         have hmv:a.eval mo = .int km mm:=ev_at hag hs (by intro q hq; simp [hq]) hmo
         have hxs':asD σ'.mem (.list r') a1 = some xs:=by
          rw [asD_agree (agree_ac hag (by intro q hq; simp [hq]))]
          exact hxs
         obtain ⟨ad,cap,h3,h4,h5,h6⟩:=asD_rep hs.heap hxs' hrep
         obtain ⟨h7,h8⟩:=elemOf_ok hel
         have hhv:∃ k',a.eval hop = .int k' hh:=by
          rcases hiOf_rep hag hs hhi (by intro q hq; simp at hq; simp [hq]) with ⟨h,_⟩ | ⟨k',h⟩
          ·simp at h
          ·exact ⟨k',by simpa using h⟩
         obtain ⟨k',hhv⟩:=hhv
         have hb:=run_bounds3 (P:=cx.T) (w:=w) xs.length cap (lo.map a.eval) l hh mm (loOf_rep hag hs hl (by intro q hq; simp [hq])) (k':=k') (k'':=km) h0 h1 h2 (by omega)
         have hrun:(execOp a.eval o).run cx.T w = .ok (.value (.slice (if mm.toNat = l.toNat then ad else ad.map (·.add (l.toNat * te.width))) (hh.toNat - l.toNat) (mm.toNat - l.toNat))) w:=by
          have he:cx.T.elem t = e:=by simp [Program.elem,h7]
          simp [execOp,ho,h3,hhv,hmv,run_sliceAt_slice (h:=by rw [he]; exact h7),Instr.slice,run_underlying h7,hb,run_sizeOf h8]
         exact ⟨_,hrun,sub_rep hw (by omega) (by omega) (by omega) (by omega) h5 h6⟩
       ·cases h
    ·cases h
   ·cases h
  ·cases h
 ·split at h
  ·rename_i l s hl hx
   split at h
   ·rename_i hh hhi
    cases hst:isStrTy cx.T t with
    | false => rw [hst] at h; cases h
    | true =>
     rw [hst] at h
     simp only [cond_true] at h
     cases hc:(decide (0 ≤ l) && (decide (l ≤ hh) && decide (hh ≤ (s.size:Int)))) with
     | false => rw [hc] at h; cases h
     | true =>
      rw [hc] at h
      simp only [cond_true] at h
      simp only [Bool.and_eq_true,decide_eq_true_eq] at hc
      refine ⟨_,h,op_pure' hdo rfl fun C gh σ' a w hag hs => ?_⟩
      have h1:a.eval x = .string s:=ev_at hag hs (by intro q hq; simp [hq]) hx
      have hb:=run_bounds (P:=cx.T) (w:=w) false s.size s.size (lo.map a.eval) (hi.map a.eval) l hh (loOf_rep hag hs hl (by intro q hq; simp [hq])) (hiOf_rep hag hs hhi (by intro q hq; simp [hq])) hc.1 hc.2.1 hc.2.2
      exact ⟨.string (s.extract l.toNat hh.toNat),by simp [execOp,ho,h1,run_sliceAt_string (h:=isStrTy_ok hst),Instr.slice,run_underlying (isStrTy_ok hst),hb],rfl⟩
   ·cases h
  ·rename_i l a1 _ hl hx
   split at h
   ·rename_i e te hel
    split at h
    ·rename_i r' hr'
     cases hw:Nat.beq r'.width te.width with
     | false => rw [hw] at h; cases h
     | true =>
      rw [hw] at h
      simp only [Bool.not_true,cond_false] at h
      have hw:=beq_true.1 hw
      cases hxs:listOf σ.mem r' a1 with
      | none => rw [hxs] at h; cases h
      | some xs =>
       rw [hxs] at h
       simp only [Option.bind_some] at h
       split at h
       ·rename_i hh hhi
        cases hc:(decide (0 ≤ l) && (decide (l ≤ hh) && decide (hh ≤ (xs.length:Int)))) with
        | false => rw [hc] at h; cases h
        | true =>
         rw [hc] at h
         simp only [cond_true] at h
         simp only [Bool.and_eq_true,decide_eq_true_eq] at hc
         obtain ⟨h0,h1,h2⟩:=hc
         refine ⟨_,h,op_pure' hdo rfl fun C gh σ' a w hag hs => ?_⟩
         have hrep:RepC gh σ'.blk w a1 (a.eval x):=ev_at hag hs (by intro q hq; simp [hq]) hx
         have hxs':asD σ'.mem (.list r') a1 = some xs:=by
          rw [asD_agree (agree_ac hag (by intro q hq; simp [hq]))]
          exact hxs
         obtain ⟨ad,cap,h3,h4,h5,h6⟩:=asD_rep hs.heap hxs' hrep
         obtain ⟨h7,h8⟩:=elemOf_ok hel
         have hb:=run_bounds (P:=cx.T) (w:=w) true xs.length cap (lo.map a.eval) (hi.map a.eval) l hh (loOf_rep hag hs hl (by intro q hq; simp [hq])) (hiOf_rep hag hs hhi (by intro q hq; simp [hq])) h0 h1 (by omega)
         have hrun:(execOp a.eval o).run cx.T w = .ok (.value (.slice (if cap = l.toNat then ad else ad.map (·.add (l.toNat * te.width))) (hh.toNat - l.toNat) (cap - l.toNat))) w:=by
          have he:cx.T.elem t = e:=by simp [Program.elem,h7]
          simp [execOp,ho,h3,run_sliceAt_slice (h:=by rw [he]; exact h7),Instr.slice,run_underlying h7,hb,run_sizeOf h8]
         refine ⟨_,hrun,?_⟩
         have hlen:((xs.take hh.toNat).drop l.toNat).length = hh.toNat - l.toNat:=by
          rw [List.length_drop,List.length_take]; omega
         refine ⟨_,_,by rw [hlen],by rw [hlen]; omega,?_,fun hpos => ?_⟩
         ·intro hn
          by_cases hcl:cap = l.toNat
          ·omega
          ·rw [if_neg hcl] at hn
           have:ad = none:=by cases ad <;> simp_all
           have:=h5 this
           omega
         ·rw [hlen] at hpos
          obtain ⟨ad',h9,h10⟩:=h6 (by omega)
          subst h9
          have hcl:¬ cap = l.toNat:=by omega
          refine ⟨ad'.add (l.toNat * te.width),by rw [if_neg hcl]; rfl,fun i hi => ?_⟩
          rw [hlen] at hi
          have hget:((xs.take hh.toNat).drop l.toNat)[i] = xs[l.toNat + i]'(by omega):=by
           rw [List.getElem_drop,List.getElem_take]
          rw [hget,add_add,hw,← Nat.add_mul,← hw]
          exact h10 _ _
       ·cases h
    ·cases h
   ·cases h
  ·cases h

theorem tail_rep {gh:Gh} {m:List (Nat × Blk)} {w:World} (H:HeapOK gh (fun i => lookM i m) w) {a:AC} {v:Value} {id b n wd:Nat} (h:tailOf m a = some (id,b,n,wd)) (hr:RepC gh (fun i => lookM i m) w a v) :
  RepC gh (fun i => lookM i m) w (.os id b (b + n) wd) v ∧ ∃ e r xs,lookM id m = some (.lst e r xs false) ∧ b + n ≤ xs.length:=by
 unfold tailOf at h
 split at h
 ·rename_i id'
  split at h
  ·rename_i e r xs hm
   injection h with h
   injection h with h1 h2
   injection h2 with h2 h3
   injection h3 with h3 h4
   subst h1 h2 h3 h4
   obtain ⟨hr1,hr2,_⟩:=hr
   obtain ⟨vs,g1,_⟩:=H.blk _ _ hm
   have hv:v = gh.val id':=hr2
   refine ⟨?_,e,r,xs,hm,by omega⟩
   rcases g1.2 with ⟨g2,g3⟩ | ⟨g,cap,cur,g2,_,g4,g5,g6,g7,g8⟩
   ·refine ⟨hr1,by omega,none,0,0,none,0,g2,by omega,by rw [hv,g2,g3],by omega,fun _ => rfl,(fun hlt => by omega),by omega,fun _ => rfl⟩
   ·exact ⟨hr1,by omega,_,_,_,some ⟨g,0,none⟩,cap,g2,by omega,by rw [hv,g2]; simp,by omega,(fun e => by cases e),(fun hlt => ⟨g,rfl,by simp⟩),by omega,fun _ => rfl⟩
  ·cases h
 ·rename_i id' lo hi wd'
  split at h
  ·rename_i e r xs hm
   injection h with h
   injection h with h1 h2
   injection h2 with h2 h3
   injection h3 with h3 h4
   subst h1 h2 h3 h4
   obtain ⟨h1,h2,a0,n,c0,a,c,h3,h4,h5,h6,h7,h8⟩:=hr
   obtain ⟨vs,g1,_⟩:=H.blk _ _ hm
   have hn:n = xs.length:=by
    rcases g1.2 with ⟨g2,g3⟩ | ⟨g,cap,cur,g2,_⟩
    ·have:Value.slice a0 n c0 = .slice none 0 0:=by rw [← h3,← g2]
     injection this with _ this _
     omega
    ·have:Value.slice a0 n c0 = .slice (some ⟨g,0,none⟩) xs.length cap:=by rw [← h3,← g2]
     injection this
   have he:lo + (hi - lo) = hi:=by omega
   rw [he]
   exact ⟨⟨h1,h2,a0,n,c0,a,c,h3,h4,h5,h6,h7,h8⟩,e,r,xs,hm,by omega⟩
  ·cases h
 ·cases h
theorem tail_agree {m m':List (Nat × Blk)} {a:AC} {id b n wd:Nat} (h:tailOf m a = some (id,b,n,wd)) (hk:lookM id m' = lookM id m):tailOf m' a = some (id,b,n,wd):=by
 have hid:∀ i,a = .own i ∨ (∃ lo hi wd,a = .os i lo hi wd) → i = id:=by
  intro i hi
  rcases hi with rfl | ⟨lo,hi,wd',rfl⟩
  ·simp only [tailOf] at h
   split at h
   ·injection h with h; injection h
   ·cases h
  ·simp only [tailOf] at h
   split at h
   ·injection h with h; injection h
   ·cases h
 cases a with
 | own i => have:=hid i (.inl rfl); subst this; rw [← h]; simp only [tailOf]; rw [hk]
 | os i lo hi wd' => have:=hid i (.inr ⟨_,_,_,rfl⟩); subst this; rw [← h]; simp only [tailOf]; rw [hk]
 | _ => cases h
theorem op_slice {t:Nat} {x:Operand} {lo hi mx:Option Operand} (hdo:dstOk cx.n o.dst = true) (ho:o.op = .slice t x lo hi mx) (h:step0 cx σ o k = some r):∃ e,k e = some r ∧ OpOK cx.T cx.n σ o e:=by
 simp only [step0,ho] at h
 split at h
 rotate_left
 ·exact op_slice_old hdo ho h
 rename_i _ id b n wd ht
 split at ht
 rotate_left
 ·cases ht
 rename_i _ a1 hx
 cases hno:(mx.isSome && hi.isNone) with
 | true => rw [hno] at h; cases h
 | false =>
 rw [hno] at h
 simp only [cond_false] at h
 split at h
 rotate_left
 ·cases h
 rename_i e te l hh mm hel hl hhi hmm
 cases hw:Nat.beq wd te.width with
 | false => rw [hw] at h; cases h
 | true =>
  rw [hw] at h
  have hw:=beq_true.1 hw
  simp only [cond_true] at h
  cases hc:(decide (0 ≤ l) && (decide (l ≤ hh) && (decide (hh ≤ mm) && decide (mm ≤ (n:Int))))) with
  | false => rw [hc] at h; cases h
  | true =>
   rw [hc] at h
   simp only [cond_true] at h
   simp only [Bool.and_eq_true,decide_eq_true_eq] at hc
   obtain ⟨h0,h1,h2,h2'⟩:=hc
   have h1:@LE.le Int _ l hh:=h1
   have h2:@LE.le Int _ hh mm:=h2
   have h2':@LE.le Int _ mm n:=h2'
   refine ⟨_,h,op_pure' hdo rfl fun C gh σ' a w hag hs => ?_⟩
   have hrep:RepC gh σ'.blk w a1 (a.eval x):=ev_at hag hs (by intro q hq; simp [hq]) hx
   have hm':lookM id σ'.mem = lookM id σ.mem:=hag (.m id) (by simp)
   obtain ⟨⟨q1,q2,a0,n0,c0,ad,cap,q3,q4,q5,q6,q7,q8,q80,q81⟩,_⟩:=tail_rep hs.heap (tail_agree ht hm') hrep
   have hnn:b + n - b = n:=by omega
   rw [hnn] at q5 q6
   obtain ⟨h7,h8⟩:=elemOf_ok hel
   have he:cx.T.elem t = e:=by simp [Program.elem,h7]
   have hlo:=loOf_rep hag hs hl (by intro q hq; simp [hq])
   have e1:(l.toNat:Int) = l:=Int.toNat_of_nonneg h0
   have e2:(hh.toNat:Int) = hh:=Int.toNat_of_nonneg (by omega)
   have e3:(mm.toNat:Int) = mm:=Int.toNat_of_nonneg (by omega)
   -- the bounds, with and without the third
   have hrun:∃ cm,mm.toNat ≤ cm ∧ cm ≤ cap ∧ (execOp a.eval o).run cx.T w = .ok (.value (.slice (if cm = l.toNat then ad else ad.map (·.add (l.toNat * te.width))) (hh.toNat - l.toNat) (cm - l.toNat))) w:=by
    cases mx with
    | none =>
     have hb:=run_bounds (P:=cx.T) (w:=w) true n cap (lo.map a.eval) (hi.map a.eval) l hh hlo (hiOf_rep hag hs hhi (by intro q hq; simp [hq])) h0 h1 (by omega)
     exact ⟨cap,by omega,Nat.le_refl _,by simp [execOp,ho,q5,run_sliceAt_slice (h:=by rw [he]; exact h7),Instr.slice,run_underlying h7,hb,run_sizeOf h8]⟩
    | some mo =>
     cases hi with
     | none => cases hno
     | some hop =>
      have hmv:∃ k',a.eval mo = .int k' mm:=by
       rcases hiOf_rep hag hs hmm (by intro q hq; simp at hq; simp [hq]) with ⟨h,_⟩ | ⟨k',h⟩
       ·simp at h
       ·exact ⟨k',by simpa using h⟩
      obtain ⟨k',hmv⟩:=hmv
      have hhv:∃ k',a.eval hop = .int k' hh:=by
       rcases hiOf_rep hag hs hhi (by intro q hq; simp at hq; simp [hq]) with ⟨h,_⟩ | ⟨k',h⟩
       ·simp at h
       ·exact ⟨k',by simpa using h⟩
      obtain ⟨k'',hhv⟩:=hhv
      have hb:=run_bounds3 (P:=cx.T) (w:=w) n cap (lo.map a.eval) l hh mm hlo (k':=k'') (k'':=k') h0 h1 h2 (by omega)
      exact ⟨mm.toNat,Nat.le_refl _,by omega,by simp [execOp,ho,q5,hhv,hmv,run_sliceAt_slice (h:=by rw [he]; exact h7),Instr.slice,run_underlying h7,hb,run_sizeOf h8]⟩
   obtain ⟨cm,c1,c2,hrun⟩:=hrun
   refine ⟨_,hrun,?_⟩
   refine ⟨q1,by omega,a0,n0,c0,_,_,q3,by omega,by rw [show b + hh.toNat - (b + l.toNat) = hh.toNat - l.toNat by omega],by omega,fun hn => ?_,fun hlt => ?_,by omega,fun h00 => ?_⟩
   ·by_cases hcl:cm = l.toNat
    ·omega
    ·rw [if_neg hcl] at hn
     have:ad = none:=by cases ad <;> simp_all
     have:=q7 this
     omega
   ·obtain ⟨b',q9,q10⟩:=q8 (by omega)
    subst q9 q10
    have hcl:¬ cm = l.toNat:=by omega
    refine ⟨b',rfl,?_⟩
    rw [if_neg hcl]
    simp only [Option.map_some,add_plain]
    rw [Nat.add_mul,hw]
   ·have hl0:l.toNat = 0:=by omega
    rw [← q81 (by omega),hl0,Nat.zero_mul]
    split
    ·rfl
    ·cases ad with
     | none => rfl
     | some a => simp [Addr.add]
theorem op_convert {s t:Nat} {x:Operand} (hdo:dstOk cx.n o.dst = true) (ho:o.op = .convert s t x) (h:step0 cx σ o k = some r):∃ e,k e = some r ∧ OpOK cx.T cx.n σ o e:=by
 simp only [step0,ho] at h
 split at h
 ·rename_i ys hys
  refine ⟨_,h,op_pure' hdo rfl fun C gh σ' a w hag hs => ?_⟩
  unfold bytesArg at hys
  cases hc:(isBytesTy cx.T s && isStrTy cx.T t) with
  | false => rw [hc] at hys; cases hys
  | true =>
   rw [hc] at hys
   simp only [cond_true] at hys
   simp only [Bool.and_eq_true] at hc
   split at hys
   ·rename_i a1 hx
    have hrep:RepC gh σ'.blk w a1 (a.eval x):=ev_at hag hs (by intro q hq; simp [hq]) hx
    have hxs':asD σ'.mem (.list (.int .u8)) a1 = some ys:=by
     rw [asD_agree (agree_ac hag (by intro q hq; rw [hx]; simp [avKeys,cellKeys,A1.cells,hq]))]
     exact hys
    obtain ⟨ad,cap,h3,h4,h5,h6⟩:=asD_rep hs.heap hxs' hrep
    have hty:∃ e,cx.T.underlying s = some (.slice e) ∧ cx.T.underlying e = some (.int .u8):=by
     have:=hc.1
     unfold isBytesTy at this
     split at this
     ·rename_i e he
      split at this
      ·exact ⟨e,he,by assumption⟩
      ·cases this
     ·cases this
    obtain ⟨e,ht1,ht2⟩:=hty
    have hrun:(Conv.bytesToString (.slice ad ys.length cap)).run cx.T w = .ok (.string (bstr ys)) w:=by
     cases ad with
     | none =>
      have:ys.length = 0:=by have:=h5 rfl; omega
      have:ys = []:=List.eq_nil_of_length_eq_zero this
      subst this
      rfl
     | some ad =>
      refine run_bytesToString w ad ys.length cap ys ?_
      have hl:=run_loadCells_list (P:=cx.T) w ad (ys.map (Value.int .u8)) (fun j v hv => by
       rw [List.getElem?_map] at hv
       cases hj:ys[j]? with
       | none => rw [hj] at hv; cases hv
       | some n =>
        rw [hj] at hv
        simp at hv
        subst hv
        obtain ⟨hlt,he⟩:=List.getElem?_eq_some_iff.1 hj
        obtain ⟨ad',h7,h8⟩:=h6 (by omega)
        injection h7 with h7
        subst h7
        obtain ⟨v,_,h9,h10⟩:=(h8 j hlt:AtC gh.S w (fun x v => v = .int .u8 x) ys[j] (ad.add (j * (Ty.int .u8).width)))
        have hw1:j * (Ty.int .u8).width = j:=by simp [Ty.width]
        rw [hw1] at h9
        rw [h9,h10,he])
      rw [List.length_map] at hl
      exact hl
    refine ⟨.string (bstr ys),?_,rfl⟩
    simp only [execOp,ho,Sem.run_bind]
    rw [h3,run_convert_bytes_string w s t e ad ys.length cap ht1 ht2 (isStrTy_ok hc.2),hrun]
    rfl
   ·cases hys
 ·exact op_convert_old hdo ho h
end
end Go.Vx
namespace Go.Vx
open Go Go.RowKit
set_option linter.unusedVariables false
set_option linter.unusedSimpArgs false
variable {R:Type}
theorem run_indexAt {P:Program} {t e:Nat} {te:TI} (h1:P.underlying t = some (.slice e)) (h2:TIok P e te) {ad:Addr} {n c:Nat} {ik:IntKind} {j:Int} (h0:0 ≤ j) (hj:j < n) (w:World) :
  (Instr.indexAt t (.slice (some ad) n c) (.int ik j)).run P w = .ok (.pointer (some (ad.add (j.toNat * te.width)))) w:=by
 simp [Instr.indexAt,run_underlying h1,asIntOf,h0,hj,run_sizeOf h2]
theorem pos_of (j:Int) (n:Nat) (h0:0 ≤ j) (h1:j < n):0 < n:=by omega
theorem get_toNat {α:Type} {xs:List α} {j:Int} {y:α} (h0:0 ≤ j) (h:xs[j.toNat]? = some y):j < (xs.length:Int) ∧ ∃ hl:j.toNat < xs.length,xs[j.toNat] = y:=by
 obtain ⟨hl,he⟩:=List.getElem?_eq_some_iff.1 h
 exact ⟨by omega,hl,he⟩
section
variable {cx:Cx} {σ:St} {o:Oper} {k:Eff → Option R} {r:R}
theorem el_rep {t e:Nat} {te:TI} (h1:cx.T.underlying t = some (.slice e)) (h2:TIok cx.T e te) {S:Addr → Prop} {w:World} {r':Ty} {xs:List r'.D} {v:Value} (hv:RepD S w (.list r') xs v) (hw:r'.width = te.width)
  {j:Int} {y:r'.D} {ik:IntKind} (h0:0 ≤ j) (hy:xs[j.toNat]? = some y):∃ ad,(Instr.indexAt t v (.int ik j)).run cx.T w = .ok (.pointer (some (ad.add 0))) w ∧ RepAt S w r' y ad:=by
 obtain ⟨a,cap,rfl,_,_,h6⟩:=hv
 obtain ⟨hlt,hl,rfl⟩:=get_toNat h0 hy
 obtain ⟨ad,rfl,h7⟩:=h6 (by omega)
 refine ⟨ad.add (j.toNat * r'.width),?_,h7 _ hl⟩
 rw [run_indexAt h1 h2 h0 hlt,add_add,Nat.add_zero,hw]
theorem op_indexAddr {t:Nat} {x y:Operand} (hdo:dstOk cx.n o.dst = true) (ho:o.op = .indexAddr t x y) (h:step0 cx σ o k = some r):∃ e,k e = some r ∧ OpOK cx.T cx.n σ o e:=by
 simp only [step0,ho] at h
 split at h
 ·rename_i e te a1 ik j hel hx hy
  obtain ⟨h7,h8⟩:=elemOf_ok hel
  split at h
  ·rename_i r0 hr0
   split at h
   ·rename_i id
    split at h
    ·rename_i e' r' xs fz hm
     cases hw:Nat.beq r'.width te.width with
     | false => rw [hw] at h; cases h
     | true =>
      rw [hw] at h
      simp only [Bool.not_true,cond_false] at h
      have hw:=beq_true.1 hw
      cases fz with
      | true =>
       simp only [cond_true] at h
       cases h0:decide (0 ≤ j) with
       | false => rw [h0] at h; cases h
       | true =>
        rw [h0] at h
        simp only [cond_true] at h
        have h0:=of_decide_eq_true h0
        cases hxj:xs[j.toNat]? with
        | none => rw [hxj] at h; cases h
        | some y0 =>
         rw [hxj] at h
         simp only [Option.bind_some] at h
         refine ⟨_,h,op_pure' hdo rfl fun C gh σ' a w hag hs => ?_⟩
         have hm':σ'.blk id = some (.lst e' r' xs true):=by rw [agree_m hag (by simp)]; exact hm
         have hrep:RepC gh σ'.blk w (.own id) (a.eval x):=ev_at hag hs (by intro q hq; simp [hq]) hx
         have hi:a.eval y = .int ik j:=ev_at hag hs (by intro q hq; simp [hq]) hy
         obtain ⟨ad,h9,h10⟩:=el_rep (ik:=ik) h7 h8 (own_frozen_rep hs.heap hm') hw h0 hxj
         exact ⟨_,by simp only [execOp,ho,hi,hrep.2.1,Sem.run_bind,h9,Result.andThen_ok,Sem.run_pure],ad,rfl,h10⟩
      | false =>
       simp only [cond_false] at h
       cases hc:(decide (0 ≤ j) && decide (j < (xs.length:Int))) with
       | false => rw [hc] at h; cases h
       | true =>
        rw [hc] at h
        simp only [cond_true] at h
        simp only [Bool.and_eq_true,decide_eq_true_eq] at hc
        refine ⟨_,h,op_pure' hdo rfl fun C gh σ' a w hag hs => ?_⟩
        have hm':σ'.blk id = some (.lst e' r' xs false):=by rw [agree_m hag (by simp)]; exact hm
        have hrep:RepC gh σ'.blk w (.own id) (a.eval x):=ev_at hag hs (by intro q hq; simp [hq]) hx
        have hi:a.eval y = .int ik j:=ev_at hag hs (by intro q hq; simp [hq]) hy
        obtain ⟨vs,h1,_⟩:=hs.heap.blk id _ hm'
        obtain ⟨g,cap,h9,_,_⟩:=own_at h1 (pos_of _ _ hc.1 hc.2)
        refine ⟨.pointer (some ⟨g,j.toNat * te.width,none⟩),?_,hrep.1,g,xs.length,cap,h9,by rw [hw,Nat.add_zero]⟩
        have h10:=run_indexAt (ad:=⟨g,0,none⟩) (c:=cap) (ik:=ik) h7 h8 hc.1 hc.2 w
        rw [add_plain,Nat.zero_add] at h10
        simp only [execOp,ho,hi,hrep.2.1,h9,Sem.run_bind,h10,Result.andThen_ok,Sem.run_pure]
    ·cases h
   ·rename_i r' xs
    cases hw:Nat.beq r'.width te.width with
    | false => rw [hw] at h; cases h
    | true =>
     rw [hw] at h
     simp only [Bool.not_true,cond_false] at h
     have hw:=beq_true.1 hw
     cases h0:decide (0 ≤ j) with
     | false => rw [h0] at h; cases h
     | true =>
      rw [h0] at h
      simp only [cond_true] at h
      have h0:=of_decide_eq_true h0
      cases hxj:xs[j.toNat]? with
      | none => rw [hxj] at h; cases h
      | some y0 =>
       rw [hxj] at h
       simp only [Option.bind_some] at h
       refine ⟨_,h,op_pure' hdo rfl fun C gh σ' a w hag hs => ?_⟩
       have hrep:RepC gh σ'.blk w (.c (.list r') xs) (a.eval x):=ev_at hag hs (by intro q hq; simp [hq]) hx
       have hi:a.eval y = .int ik j:=ev_at hag hs (by intro q hq; simp [hq]) hy
       obtain ⟨ad,h9,h10⟩:=el_rep (ik:=ik) h7 h8 hrep hw h0 hxj
       exact ⟨_,by simp only [execOp,ho,hi,Sem.run_bind,h9,Result.andThen_ok,Sem.run_pure],ad,rfl,h10⟩
   ·cases h
   ·rename_i id lo hi' wd
    split at h
    ·rename_i e' r' xs hm
     cases hw:(Nat.beq r'.width te.width && Nat.beq wd r'.width) with
     | false => rw [hw] at h; cases h
     | true =>
      rw [hw] at h
      simp only [Bool.not_true,cond_false] at h
      simp only [Bool.and_eq_true] at hw
      have hw1:=beq_true.1 hw.1
      have hw2:=beq_true.1 hw.2
      subst hw2
      cases hc:(decide (0 ≤ j) && decide (j < ((hi' - lo:Nat):Int))) with
      | false => rw [hc] at h; cases h
      | true =>
       rw [hc] at h
       simp only [cond_true] at h
       simp only [Bool.and_eq_true,decide_eq_true_eq] at hc
       obtain ⟨c1,c2⟩:=hc
       have c2:@LT.lt Int _ j ((hi' - lo:Nat):Int):=c2
       have c1:@LE.le Int _ 0 j:=c1
       refine ⟨_,h,op_pure' hdo rfl fun C gh σ' a w hag hs => ?_⟩
       have hrep:RepC gh σ'.blk w (.os id lo hi' r'.width) (a.eval x):=ev_at hag hs (by intro q hq; simp [hq]) hx
       have hi:a.eval y = .int ik j:=ev_at hag hs (by intro q hq; simp [hq]) hy
       obtain ⟨q1,q2,a0,n0,c0,ad,cap,q3,q4,q5,q6,q7,q8,_⟩:=hrep
       obtain ⟨b,q9,q10⟩:=q8 (by omega)
       subst q9 q10
       refine ⟨.pointer (some ⟨b,lo * r'.width + j.toNat * te.width,none⟩),?_,q1,b,n0,c0,q3,by rw [Nat.add_mul,hw1,Nat.add_zero]⟩
       have h10:=run_indexAt (ad:=⟨b,lo * r'.width,none⟩) (n:=hi' - lo) (c:=cap) (ik:=ik) h7 h8 c1 c2 w
       rw [add_plain] at h10
       simp only [execOp,ho,hi,q5,Sem.run_bind,h10,Result.andThen_ok,Sem.run_pure]
    ·cases h
   ·cases h
  ·cases h
 ·cases h

/-! ### 10. len, min, max -/
theorem run_builtin {P:Program} {a:Act} {b:Builtin} {c:Call} (hc:c.callee = .builtin b) (ho:o.op = .call c) (w:World) :
  (execOp a.eval o).run P w = (builtin b c.argTypes o.type (c.args.map fun | .const _ => true | _ => false) (c.args.map a.eval)).run P w:=by
 simp only [execOp,ho,resolve,hc,Sem.run_bind,Sem.run_pure,Result.andThen_ok,invoke]
 rfl
theorem lenOf_rep {gh:Gh} {m:List (Nat × Blk)} {w:World} (H:HeapOK gh (fun i => lookM i m) w) {t ty:Nat} {a:AC} {v:Value} {n:Int} (ht:lenTy cx.T t a = true) (h:lenOf m a = some n) (hr:RepC gh (fun i => lookM i m) w a v) :
  (Builtin.len_ #[t] ty #[v]).run cx.T w = .ok (.int .i64 n) w:=by
 unfold lenTy at ht
 unfold lenOf at h
 split at h
 ·rename_i r xs
  split at ht
  ·rename_i h1 h2; cases h2
  ·rename_i e _ _ h1 h2
   injection h with h; subst h
   obtain ⟨ad,cap,rfl,_⟩:=hr
   simp [Builtin.len_,run_underlying h1,goInt]
  ·rename_i h1 h2; cases h2
  ·rename_i h1 h2; cases h2
  ·rename_i h1 h2; cases h2
  ·cases ht
 ·rename_i s
  split at ht
  ·rename_i h1 h2
   injection h with h; subst h
   obtain rfl:=hr
   simp [Builtin.len_,run_underlying h1,goInt]
  ·rename_i h1 h2; cases h2
  ·rename_i h1 h2; cases h2
  ·rename_i h1 h2; cases h2
  ·rename_i h1 h2; cases h2
  ·cases ht
 ·split at ht
  ·rename_i h1 h2; cases h2
  ·rename_i h1 h2; cases h2
  ·rename_i e h1 h2
   injection h with h; subst h
   obtain rfl:=hr
   simp [Builtin.len_,run_underlying h1,goInt]
  ·rename_i h1 h2; cases h2
  ·rename_i h1 h2; cases h2
  ·cases ht
 ·rename_i id
  split at ht
  ·rename_i h1 h2; cases h2
  ·rename_i h1 h2; cases h2
  ·rename_i h1 h2; cases h2
  ·rename_i e id' h1 h2
   injection h2 with h2
   subst h2
   split at h
   ·rename_i e' r xs fz hm
    injection h with h; subst h
    obtain ⟨vs,h3,_⟩:=H.blk id _ hm
    rw [hr.2.1]
    rcases h3.2 with ⟨h4,h5⟩ | ⟨g,cap,cur,h4,_⟩
    ·rw [h4,h5]; simp [Builtin.len_,run_underlying h1,goInt]
    ·rw [h4]; simp [Builtin.len_,run_underlying h1,goInt]
   ·cases h
  ·rename_i h1 h2; cases h2
  ·cases ht
 ·rename_i id lo hi wd
  split at ht
  ·rename_i h1 h2; cases h2
  ·rename_i h1 h2; cases h2
  ·rename_i h1 h2; cases h2
  ·rename_i h1 h2; cases h2
  ·rename_i e id' lo' hi' wd' h1 h2
   injection h2 with e1 e2 e3 e4
   subst e1 e2 e3 e4
   injection h with h; subst h
   obtain ⟨q1,q2,a0,n0,c0,ad,cap,q3,q4,q5,q6⟩:=hr
   rw [q5]
   simp [Builtin.len_,run_underlying h1,goInt]
  ·cases ht
 ·cases h
end
end Go.Vx
namespace Go.Vx
open Go Go.RowKit
set_option linter.unusedVariables false
set_option linter.unusedSimpArgs false
variable {R:Type}
/-! ### 11. append -/
theorem app_run {P:Program} {w:World} (t ty e:TypeId) (i:TypeInfo) (z:Value) (size bytes:Nat) (ht:P.underlying t = some (.slice e)) (hi:P.info? e = some i) (hz:i.zero = some z)
  (hsize:i.size = size) (hby:i.bytes = bytes) (hzs:z.cells.size = size) (hsz:0 < size) (v:Value) (n:Nat) (xs:List Value) (hown:w.rowR 0 e size v n xs)
  (a:Addr) (m c:Nat) (news:List Value) (hl:news.length = m * size) (hnews:∀ j u,news[j]? = some u → w.cell? (a.add j) = some u) (h1:∀ u ∈ news,u.oneCell' = true)
  (h63:n + m ≤ maxLen) (hbytes:(n + m) * bytes ≤ 140737488355328) :
  ∃ v' w',(Builtin.append_ #[t,t] ty #[v,.slice (some a) m c]).run P w = .ok v' w' ∧ w'.rowR 0 e size v' (n + m) (xs ++ news) ∧
   ((v'.ownBlock = v.ownBlock ∧ w.grownBy w' v.ownBlock) ∨ (v'.ownBlock = some w.heap.size ∧ w.grownBy w' none)):=by
 have hlen:(xs ++ news).length = (n + m) * size:=by rw [List.length_append,hown.1,hl,Nat.add_mul]
 rcases hown.2 with ⟨rfl,rfl⟩ | ⟨g,cap,cur,rfl,hbg,hg,hnc,hcm,hcs,htake⟩
 ·have hown':w.ownsRow 0 e size (.slice none 0 0) 0 xs:=⟨hown.1,.inl ⟨rfl,rfl⟩⟩
  obtain ⟨v',w',h2,h3,h4,_,h5⟩:=run_append_own_at (w:=w) (P:=P) 0 t ty e i z size bytes ht hi hz hsize hby hzs hsz _ 0 xs hown' a m c news hl hnews h1 h63 hbytes (Nat.zero_le _)
  refine ⟨v',w',h2,World.rowR_of h3,?_⟩
  rcases h5 with h5 | h5
  ·exact .inl ⟨h5,h4⟩
  ·exact .inr ⟨h5,h4⟩
 ·subst hsize
  subst hby
  by_cases hroom:n + m ≤ cap
  ·have hfit:n * i.size + news.length ≤ cur.size:=by rw [hl,← Nat.add_mul]; exact Nat.le_trans (Nat.mul_le_mul_right _ hroom) hcs
   have hr:=run_append_room (P:=P) w t ty e i ht hi g n cap cur hg a m c news hl hnews h1 hroom hfit
   refine ⟨_,_,hr,⟨hlen,.inr ⟨g,cap,_,rfl,hbg,setRow_heap w g cur _ e _ hg,hroom,hcm,?_,?_⟩⟩,.inl ⟨rfl,rfl,rfl,rfl,by simp,fun k _ hk => setRow_other w g k _ (fun e => hk (by simp [Value.ownBlock,e]))⟩⟩
   ·simp only [List.size_toArray,List.length_append,List.length_take,List.length_drop,Array.length_toList]
    omega
   ·rw [htake,← hlen]
    exact List.take_left
  ·have holds:∀ j u,xs[j]? = some u → w.cell? ((⟨g,0,none⟩:Addr).add j) = some u:=hown.cells (g:=g) rfl
   have hr:=run_append_grow (P:=P) w t ty e i z ht hi hz ⟨g,0,none⟩ n cap xs hown.1 holds a m c news hl hnews (by omega) (by simp only [maxLen] at h63; omega) (growslice_fits (by omega) hbytes)
   exact ⟨_,_,hr,World.rowR_grown w _ hzs news m cap hown.1 hl h63,.inr ⟨rfl,rfl,rfl,rfl,by simp,fun k hk _ => alloc_same w.drew _ k hk⟩⟩

def kill (m:Mem):Option Nat → Mem
 | none => m
 | some i => upd m i .dead
def OldOK (m:Mem) (val:Nat → Value) (e:Nat) (r:Ty) (xs:List r.D) (fz:Bool) (v:Value):Option Nat → Prop
 | none => v = .slice none 0 0 ∧ xs = []
 | some i => m i = some (.lst e r xs fz) ∧ v = val i
theorem heap_app4 {gh:Gh} {m:Mem} {w w':World} (H:HeapOK gh m w) {d:Nat} (hd:m d = none) (hpin:pin d = false) {old:Option Nat} {v v':Value} {e e':Nat} {r:Ty} {xs:List r.D} {zs:List r.D} {fz fz':Bool} {vs vs':List Value}
  (hold:OldOK m gh.val e r xs fz v old)
  (hf:fz = true → fz' = true ∨ old = none)
  (hcs:RepCs gh m w (rowsCells r xs) vs) (hvl:vs.length = xs.length * r.width) (hvo:w.rowR 0 e r.width v xs.length vs)
  (hown:w'.rowR 0 e r.width v' (xs.length + zs.length) (vs ++ vs')) (hnew:RepCs gh m w (rowsCells r zs) vs') (hw:0 < r.width) (hdr:w.drawn ≤ w'.drawn)
  (hg:(v'.ownBlock = v.ownBlock ∧ w.grownBy w' v.ownBlock) ∨ (v'.ownBlock = some w.heap.size ∧ w.grownBy w' none)) :
  ∃ S',(HeapOK4 ⟨fun i => bif Nat.beq d i then v' else gh.val i,S',gh.K⟩ (upd (kill m old) d (.lst e r (xs ++ zs) fz')) w' ∧
   Tr gh m w ⟨fun i => bif Nat.beq d i then v' else gh.val i,S',gh.K⟩ (upd (kill m old) d (.lst e r (xs ++ zs) fz')) w' ∧
   (∀ id,m id ≠ none → upd (kill m old) d (.lst e r (xs ++ zs) fz') id ≠ none ∧ (fun i => bif Nat.beq d i then v' else gh.val i) id = gh.val id)):=by
 have hne:∀ id,m id ≠ none → d ≠ id:=fun id h e => h (e ▸ hd)
 have hold_ne:∀ i,old = some i → m i = some (.lst e r xs fz) ∧ v = gh.val i:=fun i h => by subst h; exact hold
 have hvb:blockOfV v = v.ownBlock:=own_blockOf hvo
 have hvb':blockOfV v' = v'.ownBlock:=own_blockOf hown
 have hold_blk:∀ g,v.ownBlock = some g → ∃ i,old = some i ∧ m i = some (.lst e r xs fz) ∧ gh.blk i = some g:=fun g h => by
  cases old with
  | none => obtain ⟨rfl,_⟩:=hold; simp [Value.ownBlock] at h
  | some i => obtain ⟨h1,h2⟩:=hold; exact ⟨i,rfl,h1,by rw [Gh.blk,← h2,hvb,h]⟩
 have hkill:∀ id b,kill m old id = some b → b.live = true → m id = some b ∧ old ≠ some id:=fun id b h hl => by
  cases old with
  | none => exact ⟨h,by simp⟩
  | some i =>
   simp only [kill] at h
   by_cases hi:i = id
   ·subst hi; rw [upd_same] at h; injection h with h; subst h; cases hl
   ·rw [upd_other _ _ hi] at h; exact ⟨h,fun e => hi (by injection e)⟩
 have hkill_ne:∀ id,m id ≠ none → kill m old id ≠ none:=fun id h => by
  cases old with
  | none => exact h
  | some i =>
   simp only [kill]
   by_cases hi:i = id
   ·subst hi; rw [upd_same]; simp
   ·rw [upd_other _ _ hi]; exact h
 -- what another live block of before has no part in
 have hother:∀ id b,m id = some b → b.live = true → old ≠ some id → ∀ k,gh.blk id = some k → v'.ownBlock ≠ some k ∧ v.ownBlock ≠ some k:=fun id b h hl ho k hk => by
  have hv:v.ownBlock ≠ some k:=fun hv => by
   obtain ⟨i,h1,h2,h3⟩:=hold_blk k hv
   exact H.inj i id _ b h2 h rfl hl (fun e => ho (by rw [h1,e])) k h3 hk
  refine ⟨?_,hv⟩
  rcases hg with ⟨h1,_⟩ | ⟨h1,_⟩
  ·rw [h1]; exact hv
  ·rw [h1]
   intro e
   injection e with e
   have:=H.live_lt h hl hk
   omega
 have hkeep:∀ k,k < w.heap.size → v.ownBlock ≠ some k → w'.heap[k]? = w.heap[k]?:=fun k hk hn => by
  rcases hg with ⟨_,h⟩ | ⟨_,h⟩
  ·exact h.block k hk (fun e => hn e.symm)
  ·exact h.block k hk (by simp)
 have hc:∀ x,gh.S x → w'.cell? x = w.cell? x:=fun x hx => by
  by_cases hb:v.ownBlock = some x.block
  ·rcases hg with ⟨h1,_⟩ | ⟨_,h⟩
   ·obtain ⟨i,_,h2,h3⟩:=hold_blk _ hb
    obtain ⟨_,hoff⟩:=H.sep x hx i _ h2 h3
    obtain ⟨hsp,_⟩:=H.st x hx
    have hxe:x = (⟨x.block,0,none⟩:Addr).add x.off:=by rw [add_plain]; cases x; simp_all
    have hlt:x.off < vs.length:=by rw [hvl]; exact hoff
    have h4:=hvo.cells hb x.off vs[x.off] (by simp [hlt])
    have h5:=hown.cells (by rw [h1]; exact hb) x.off vs[x.off] (by simp [List.getElem?_append_left hlt,hlt])
    rw [hxe,h4,h5]
   ·exact World.cell?_of_block (h.block x.block (H.S_lt hx) (by simp))
  ·exact World.cell?_of_block (hkeep _ (H.S_lt hx) hb)
 refine ⟨fun x => gh.S x ∨ (fz' = true ∧ v'.ownBlock = some x.block ∧ x.spot = none ∧ x.off < (xs.length + zs.length) * r.width),?_⟩
 have hext:∀ id,m id ≠ none → upd (kill m old) d (.lst e r (xs ++ zs) fz') id ≠ none ∧ (fun i => bif Nat.beq d i then v' else gh.val i) id = gh.val id:=fun id h => by
  have hn:Nat.beq d id = false:=beq_ne (hne id h)
  exact ⟨by rw [upd_other _ _ (hne id h)]; exact hkill_ne id h,by simp [hn]⟩
 generalize hS':(fun x:Addr => gh.S x ∨ (fz' = true ∧ v'.ownBlock = some x.block ∧ x.spot = none ∧ x.off < (xs.length + zs.length) * r.width)) = S'
 have hSi:∀ x,gh.S x → S' x:=fun x hx => by rw [← hS']; exact .inl hx
 have hSo:∀ x,S' x → gh.S x ∨ (fz' = true ∧ v'.ownBlock = some x.block ∧ x.spot = none ∧ x.off < (xs.length + zs.length) * r.width):=fun x hx => by rw [← hS'] at hx; exact hx
 have hbd:(Gh.mk (fun i => bif Nat.beq d i then v' else gh.val i) S' gh.K).blk d = v'.ownBlock:=by simp [Gh.blk,Nat.beq_refl d,hvb']
 have hbo:∀ id,d ≠ id → (Gh.mk (fun i => bif Nat.beq d i then v' else gh.val i) S' gh.K).blk id = gh.blk id:=fun id h => by
  have hn:Nat.beq d id = false:=beq_ne h
  simp [Gh.blk,hn]
 have hrow:∃ row,w.grownBy w' row ∧ (∀ k,v.ownBlock ≠ some k → some k ≠ row):=by
  rcases hg with ⟨_,h⟩ | ⟨_,h⟩
  ·exact ⟨_,h,fun k hk e => hk e.symm⟩
  ·exact ⟨_,h,fun k _ => by simp⟩
 obtain ⟨row,hgrow,hrow⟩:=hrow
 have hdlt:∀ k,v'.ownBlock = some k → w.heap.size ≤ k ∨ ∃ j c,m j = some c ∧ c.live = true ∧ gh.blk j = some k:=fun k hk => by
  rcases hg with ⟨h1,_⟩ | ⟨h1,_⟩
  ·rw [h1] at hk
   obtain ⟨i,_,h2,h3⟩:=hold_blk k hk
   exact .inr ⟨i,_,h2,rfl,h3⟩
  ·rw [h1] at hk
   injection hk with hk
   exact .inl (by omega)
 refine ⟨⟨?_,?_,?_,?_⟩,⟨hgrow.os,hgrow.tape,hgrow.output,hgrow.size,?_,hSi,hc,?_,?_,?_,hdr,rfl⟩,hext⟩
 ·intro id b hid
  by_cases h:d = id
  ·subst h
   rw [upd_same] at hid
   injection hid with hid
   subst hid
   refine ⟨vs ++ vs',?_,?_,hw,?_⟩
   ·simp only [Nat.beq_refl d,cond_true,List.length_append]; exact hown
   ·have h1:=All2.append hcs hnew
    have h2:rowsCells r (xs ++ zs) = rowsCells r xs ++ rowsCells r zs:=by simp [rowsCells]
    rw [h2]
    exact repCs_mono (g:=gh) (m:=m) hSi hc hext h1
   ·intro hfz g hgk j hj
    rw [hbd] at hgk
    rw [← hS']
    exact .inr ⟨hfz,hgk,rfl,by simpa using hj⟩
  ·rw [upd_other _ _ h] at hid
   cases hlb:b.live with
   | false => cases b with
    | dead => trivial
    | box tid l => cases hlb
    | lst e r xs fz => cases hlb
    | mp kr es => cases hlb
    | byt e xs => cases hlb
    | it s pos => cases hlb
   | true =>
    obtain ⟨h1,h2⟩:=hkill id b hid hlb
    exact blkOK_keep (gh':=⟨fun i => bif Nat.beq d i then v' else gh.val i,S',gh.K⟩) hSi hc hext hgrow (by rw [h1]; simp) (fun _ k hk => hrow k (hother id b h1 hlb h2 k hk).2) (H.blk id b h1)
 ·intro i j b c hi hj hlb hlc hij k hk
  by_cases h:d = i
  ·subst h
   rw [hbd] at hk
   rw [hbo j hij]
   rw [upd_other _ _ hij] at hj
   obtain ⟨h1,h2⟩:=hkill j c hj hlc
   intro hk'
   exact (hother j c h1 hlc h2 k hk').1 hk
  ·rw [hbo i h] at hk
   rw [upd_other _ _ h] at hi
   obtain ⟨h1,h2⟩:=hkill i b hi hlb
   by_cases h':d = j
   ·subst h'
    rw [hbd]
    exact (hother i b h1 hlb h2 k hk).1
   ·rw [hbo j h']
    rw [upd_other _ _ h'] at hj
    obtain ⟨h3,h4⟩:=hkill j c hj hlc
    exact H.inj i j b c h1 h3 hlb hlc hij k hk
 ·intro x hx id b hid hk
  cases hlb:b.live with
  | false => cases b with
   | dead => trivial
   | box tid l => cases hlb
   | lst e r xs fz => cases hlb
   | mp kr es => cases hlb
   | byt e xs => cases hlb
   | it s pos => cases hlb
  | true =>
   by_cases h:d = id
   ·subst h
    rw [hbd] at hk
    rw [upd_same] at hid
    injection hid with hid
    subst hid
    rcases hSo x hx with hx | ⟨h1,_,_,h4⟩
    ·rcases hg with ⟨h1,_⟩ | ⟨h1,_⟩
     ·rw [h1] at hk
      obtain ⟨i,h0,h2,h3⟩:=hold_blk _ hk
      obtain ⟨h4,h5⟩:=H.sep x hx i _ h2 h3
      refine ⟨(hf h4).resolve_right (by rw [h0]; simp),?_⟩
      simp only [List.length_append]
      exact Nat.lt_of_lt_of_le h5 (Nat.mul_le_mul_right _ (by omega))
     ·rw [h1] at hk
      injection hk with hk
      have:=H.S_lt hx
      omega
    ·exact ⟨h1,by simpa using h4⟩
   ·rw [hbo id h] at hk
    rw [upd_other _ _ h] at hid
    obtain ⟨h1,h2⟩:=hkill id b hid hlb
    rcases hSo x hx with hx | ⟨_,h3,_⟩
    ·exact H.sep x hx id b h1 hk
    ·exact absurd h3 (hother id b h1 hlb h2 _ hk).1
 ·intro x hx
  rcases hSo x hx with hx | ⟨_,h2,h3,h4⟩
  ·obtain ⟨h1,u,h2⟩:=H.st x hx
   exact ⟨h1,u,by rw [hc x hx]; exact h2⟩
  ·refine ⟨h3,?_⟩
   have hxe:x = (⟨x.block,0,none⟩:Addr).add x.off:=by rw [add_plain]; cases x; simp_all
   have hl:(vs ++ vs').length = (xs.length + zs.length) * r.width:=hown.1
   have hlt:x.off < (vs ++ vs').length:=by omega
   obtain ⟨u,hu⟩:∃ u,(vs ++ vs')[x.off]? = some u:=⟨_,List.getElem?_eq_getElem hlt⟩
   exact ⟨u,by rw [hxe]; exact hown.cells h2 x.off u hu⟩
 ·intro k hk hn
  refine hkeep k hk fun hv => ?_
  obtain ⟨i,_,h2,h3⟩:=hold_blk k hv
  exact hn i _ h2 rfl h3
 ·intro x hx
  rcases hSo x hx with hx | ⟨_,h2,_⟩
  ·exact .inl hx
  ·exact .inr (hdlt _ h2)
 ·intro id b hid hlb k hk
  by_cases h:d = id
  ·subst h
   rw [hbd] at hk
   exact hdlt k hk
  ·rw [hbo id h] at hk
   rw [upd_other _ _ h] at hid
   obtain ⟨h1,_⟩:=hkill id b hid hlb
   exact .inr ⟨id,b,h1,hlb,hk⟩
 ·intro id hp hm
  have h:d ≠ id:=fun e => by rw [e,hp] at hpin; cases hpin
  rw [upd_other _ _ h] at hm
  have hmi:m id ≠ none:=fun hn => hm (by
   cases old with
   | none => exact hn
   | some i =>
    simp only [kill]
    have hi:i ≠ id:=fun e => by
     obtain ⟨h1,_⟩:=hold_ne i rfl
     rw [e,hn] at h1
     cases h1
    rw [upd_other _ _ hi]
    exact hn)
  exact ⟨hmi,(hext id hmi).2⟩
theorem heap_app {gh:Gh} {m:Mem} {w w':World} (H:HeapOK gh m w) {d:Nat} (hd:m d = none) (hpin:pin d = false) {old:Option Nat} {v v':Value} {e e':Nat} {r:Ty} {xs:List r.D} {zs:List r.D} {fz fz':Bool} {vs vs':List Value}
  (hold:OldOK m gh.val e r xs fz v old)
  (hf:fz = true → fz' = true ∨ old = none)
  (hcs:RepCs gh m w (rowsCells r xs) vs) (hvl:vs.length = xs.length * r.width) (hvo:w.rowR 0 e r.width v xs.length vs)
  (hown:w'.rowR 0 e r.width v' (xs.length + zs.length) (vs ++ vs')) (hnew:RepCs gh m w (rowsCells r zs) vs') (hw:0 < r.width) (hdr:w.drawn ≤ w'.drawn)
  (hg:(v'.ownBlock = v.ownBlock ∧ w.grownBy w' v.ownBlock) ∨ (v'.ownBlock = some w.heap.size ∧ w.grownBy w' none)) :
  ∃ S',(HeapOK ⟨fun i => bif Nat.beq d i then v' else gh.val i,S',gh.K⟩ (upd (kill m old) d (.lst e r (xs ++ zs) fz')) w' ∧
   Tr gh m w ⟨fun i => bif Nat.beq d i then v' else gh.val i,S',gh.K⟩ (upd (kill m old) d (.lst e r (xs ++ zs) fz')) w' ∧
   (∀ id,m id ≠ none → upd (kill m old) d (.lst e r (xs ++ zs) fz') id ≠ none ∧ (fun i => bif Nat.beq d i then v' else gh.val i) id = gh.val id)):=by
 obtain ⟨S',h,T,e⟩:=heap_app4 (e':=e') (old:=old) H hd hpin hold hf hcs hvl hvo hown hnew hw hdr hg
 exact ⟨S',⟨h,gr_tr H T⟩,T,e⟩
end Go.Vx
namespace Go.Vx
open Go Go.RowKit
set_option linter.unusedVariables false
set_option linter.unusedSimpArgs false
variable {R:Type}
theorem cellsOf_ok {r:Ty} (x:r.D):(cellsOf r x).all AC.ok = true:=by
 induction r with
 | cons a b _ ih => simp only [cellsOf,List.all_cons,AC.ok,Bool.true_and]; exact ih x.2
 | _ => rfl
theorem rowsCells_ok {r:Ty} (xs:List r.D):(rowsCells r xs).all AC.ok = true:=by
 induction xs with
 | nil => rfl
 | cons x xs ih => simp only [rowsCells,List.flatMap_cons,List.all_append,Bool.and_eq_true]; exact ⟨cellsOf_ok x,ih⟩
theorem repCs_one {gh:Gh} {m:Mem} {w:World} {l:List AC} {k:List Value} (h:RepCs gh m w l k) (ho:l.all AC.ok = true):∀ u ∈ k,u.oneCell' = true:=by
 induction h with
 | nil => intro u hu; simp at hu
 | cons h1 _ ih =>
  intro u hu
  simp at ho
  rcases List.mem_cons.1 hu with rfl | hu
  ·exact (repC_one h1 ho.1).1
  ·exact ih (by simpa using ho.2) u hu
theorem rows_cells {gh:Gh} {m:Mem} {w:World} {r:Ty}:∀ (ys:List r.D) (base:Addr),(∀ i,(h:i < ys.length) → RepAt gh.S w r ys[i] (base.add (i * r.width))) →
  ∃ news,RepCs gh m w (rowsCells r ys) news ∧ news.length = ys.length * r.width ∧ ∀ j u,news[j]? = some u → w.cell? (base.add j) = some u
 | [],base,_ => ⟨[],.nil,by simp,by intro j u h; simp at h⟩
 | y :: ys,base,h => by
  have h0:=h 0 (by simp)
  simp only [Nat.zero_mul,Addr.add_zero',List.getElem_cons_zero] at h0
  obtain ⟨n1,h1,h2,h3⟩:=repAt_cells (m:=m) h0
  obtain ⟨n2,h4,h5,h6⟩:=rows_cells ys (base.add r.width) (fun i hi => by
   have:=h (i + 1) (by simp; omega)
   rw [add_add,show r.width + i * r.width = (i + 1) * r.width by rw [Nat.add_mul]; omega]
   simpa using this)
  refine ⟨n1 ++ n2,by simp only [rowsCells,List.flatMap_cons]; exact All2.append h1 h4,by rw [List.length_append,h3,h5,List.length_cons,Nat.add_mul]; omega,fun j u hu => ?_⟩
  rw [List.getElem?_append] at hu
  split at hu
  ·exact (h2 j u hu).1
  ·have:=h6 _ u hu
   rw [add_add,show r.width + (j - n1.length) = j by omega] at this
   exact this
def SrcOK (gh:Gh) (m:Mem) (w:World) (r:Ty) (ys:List r.D) (v:Value):Prop:=
 ∃ news,RepCs gh m w (rowsCells r ys) news ∧ news.length = ys.length * r.width ∧ ((v = .slice none 0 0 ∧ ys = []) ∨ ∃ ad c,v = .slice (some ad) ys.length c ∧ ∀ j u,news[j]? = some u → w.cell? (ad.add j) = some u)
theorem src_list {gh:Gh} {m:Mem} {w:World} {r:Ty} {ys:List r.D} {v:Value} (h:RepD gh.S w (.list r) ys v):SrcOK gh m w r ys v:=by
 obtain ⟨a,cap,rfl,h1,h2,h3⟩:=h
 by_cases hl:0 < ys.length
 ·obtain ⟨ad,rfl,h4⟩:=h3 hl
  obtain ⟨news,h5,h6,h7⟩:=rows_cells (m:=m) ys ad h4
  exact ⟨news,h5,h6,.inr ⟨ad,cap,rfl,h7⟩⟩
 ·have:ys = []:=List.eq_nil_of_length_eq_zero (by omega)
  subst this
  refine ⟨[],.nil,by simp,?_⟩
  cases a with
  | none => exact .inl ⟨by rw [h2 rfl]; rfl,rfl⟩
  | some ad => exact .inr ⟨ad,cap,rfl,by intro j u hu; simp at hu⟩
theorem src_own {gh:Gh} {m:Mem} {w:World} (H:HeapOK gh m w) {id e:Nat} {r:Ty} {xs:List r.D} {fz:Bool} (h:m id = some (.lst e r xs fz)):SrcOK gh m w r xs (gh.val id):=by
 obtain ⟨vs,h1,h2,h3,_⟩:=H.blk id _ h
 rcases h1.2 with ⟨hv,h0⟩ | ⟨g,cap,cur,hv,_⟩
 ·have:xs = []:=List.eq_nil_of_length_eq_zero h0
  exact ⟨vs,h2,h1.1,.inl ⟨hv,this⟩⟩
 ·refine ⟨vs,h2,h1.1,.inr ⟨⟨g,0,none⟩,cap,hv,fun j u hu => h1.cells (by rw [hv]; rfl) j u hu⟩⟩
section
variable {cx:Cx} {σ:St} {o:Oper} {k:Eff → Option R} {r:R}
theorem map_one {α β:Type} {f:α → β} {l:List α} {b:β} (h:l.map f = [b]):∃ a,l = [a] ∧ f a = b:=by
 match l,h with
 | [a],h => exact ⟨a,rfl,by simpa using h⟩
theorem map_two {α β:Type} {f:α → β} {l:List α} {b c:β} (h:l.map f = [b,c]):∃ x y,l = [x,y] ∧ f x = b ∧ f y = c:=by
 match l,h with
 | [x,y],h => simp at h; exact ⟨x,y,rfl,h.1,h.2⟩
def OldA (σ:St) (e:Nat) (r:Ty) (xs:List r.D) (fz:Bool) (s:AC):Option Nat → Prop
 | none => s = .nilS ∧ xs = []
 | some i => s = .own i ∧ σ.blk i = some (.lst e r xs fz)
theorem op_app {d t e:Nat} {te:TI} {c:Call} {xo yo:Operand} {ty:Ty} {xs ys:List ty.D} {fz fz':Bool} {old:Option Nat} {s x:AC} (hdo:dstOk cx.n o.dst = true) (hd:o.dst.getD 0 = d) (ho:o.op = .call c) (hc:c.callee = .builtin .append)
  (hargs:c.args = #[xo,yo]) (hty:c.argTypes = #[t,t]) (hel:cx.T.underlying t = some (.slice e)) (hte:TIok cx.T e te) (hw:ty.width = te.width) (hw0:0 < te.width) (hb0:0 < te.bytes) (hz0:te.zero.length = te.width)
  (hf:σ.blk d = none) (hlim:xs.length + ys.length ≤ 140737488355328 / te.bytes) (hs:ev σ xo = one s) (hx:ev σ yo = one x) {rd:List Key}
  (hrd:Key.m d ∈ rd ∧ (∀ q ∈ acKeys s,q ∈ rd) ∧ (∀ q ∈ acKeys x,q ∈ rd) ∧ (∀ q ∈ opKeys xo,q ∈ rd) ∧ (∀ q ∈ opKeys yo,q ∈ rd))
  (hsrc:∀ (C:Ctx) gh σ' (a:Act) (w:World),agree rd σ σ' → Sim C gh σ' a w → SrcOK gh σ'.blk w ty ys (a.eval yo))
  (hold:OldA σ e ty xs fz s old)
  (hfz:fz = true → fz' = true ∨ old = none) :
  OpOK cx.T cx.n σ o { put:=one (.own d),blks:=(d,.lst e ty (xs ++ ys) fz') :: oldBlk old,rd:=rd }:=by
 intro C gh σ' a w next Q hn hag hsim hk
 have hf':σ'.blk d = none:=by rw [agree_m hag hrd.1]; exact hf
 have hrs:RepC gh σ'.blk w s (a.eval xo):=ev_at hag hsim (fun q hq => hrd.2.2.2.1 q hq) hs
 obtain ⟨news,h1,h2,h3⟩:=hsrc C gh σ' a w hag hsim
 -- the row of before
 have hbefore:∃ vs,w.rowR 0 e ty.width (a.eval xo) xs.length vs ∧ RepCs gh σ'.blk w (rowsCells ty xs) vs ∧
   OldOK σ'.blk gh.val e ty xs fz (a.eval xo) old:=by
  cases old with
  | none =>
   obtain ⟨rfl,rfl⟩:=hold
   have hv:a.eval xo = .slice none 0 0:=hrs
   exact ⟨[],by rw [hv]; exact World.rowR_nil w 0 e ty.width,.nil,hv,rfl⟩
  | some i =>
   obtain ⟨rfl,hi⟩:=hold
   have hi':σ'.blk i = some (.lst e ty xs fz):=by rw [agree_m hag (hrd.2.1 _ (by simp [acKeys]))]; exact hi
   obtain ⟨vs,h4,h5,_⟩:=hsim.heap.blk i _ hi'
   exact ⟨vs,by rw [hrs.2.1]; exact h4,h5,hi',hrs.2.1⟩
 obtain ⟨vs,hvo,hvr,hvm⟩:=hbefore
 obtain ⟨i0,hi1,hi2,hi3,z,hi4,hi5⟩:=hte.info
 have hrun:∃ v' w',(Builtin.append_ #[t,t] o.type #[a.eval xo,a.eval yo]).run cx.T w = .ok v' w' ∧ w'.rowR 0 e ty.width v' (xs.length + ys.length) (vs ++ news) ∧
   ((v'.ownBlock = (a.eval xo).ownBlock ∧ w.grownBy w' (a.eval xo).ownBlock) ∨ (v'.ownBlock = some w.heap.size ∧ w.grownBy w' none)):=by
  rcases h3 with ⟨hv,rfl⟩ | ⟨ad,cc,hv,hcell⟩
  ·have:news = []:=List.eq_nil_of_length_eq_zero (by simpa using h2)
   subst this
   refine ⟨a.eval xo,w,?_,by simpa using hvo,.inl ⟨rfl,rfl,rfl,rfl,Nat.le_refl _,fun _ _ _ => rfl⟩⟩
   rw [hv]
   exact run_append_rowR_none w 0 t o.type e i0 ty.width hel hi1 _ _ _ hvo
  ·rw [hv]
   have hbound:(xs.length + ys.length) * te.bytes ≤ 140737488355328:=(Nat.le_div_iff_mul_le hb0).1 hlim
   have hsmall:xs.length + ys.length ≤ 140737488355328:=Nat.le_trans (Nat.le_mul_of_pos_right _ hb0) hbound
   exact app_run t o.type e i0 z ty.width te.bytes hel hi1 hi4 (by rw [hi2,hw]) hi3 (by rw [hw,← hz0,← hi5]; simp) (by omega) _ _ vs hvo ad ys.length cc news h2 hcell (repCs_one h1 (rowsCells_ok ys)) (by simp only [maxLen]; omega) hbound
 obtain ⟨v',w',hr,hown,hg⟩:=hrun
 have hrun':(execOp a.eval o).run cx.T w = .ok (.value v') w':=by
  rw [run_builtin hc ho,hargs,hty]
  simp only [builtin,Sem.run_bind]
  rw [show (Array.map a.eval #[xo,yo]) = #[a.eval xo,a.eval yo] by simp,hr]
  rfl
 obtain ⟨S',hH,hT,hext⟩:=heap_app hsim.heap hf' (by rw [← hd]; exact dst_pin hdo) (old:=old) (v:=a.eval xo) (v':=v') (e:=e) (e':=0) (r:=ty) (xs:=xs) (zs:=ys) (fz:=fz) (fz':=fz') (vs:=vs) (vs':=news) hvm hfz hvr hvo.1 hvo hown h1 (by omega) (drawn_le _ _ _ _ _ hr) hg
 have hblk:(σ'.apply o.dst { put:=one (.own d),blks:=(d,.lst e ty (xs ++ ys) fz') :: oldBlk old,rd:=rd }).blk = upd (kill σ'.blk old) d (.lst e ty (xs ++ ys) fz'):=by
  cases old <;> rfl
 refine wp_value hrun' (hk _ _ _ (sim_step hsim (hn.1 ▸ hdo) (by rw [hblk]; exact hT) (by rw [hblk]; exact hH) (by rw [hblk]; exact hext) fun _ => ?_))
 rw [hblk]
 refine ⟨by rw [upd_same]; simp,by simp [Nat.beq_refl d],?_⟩
 rcases hown.2 with ⟨rfl,_⟩ | ⟨g,cap,cur,rfl,_⟩ <;> exact ⟨_,_,_,rfl⟩
end
end Go.Vx
