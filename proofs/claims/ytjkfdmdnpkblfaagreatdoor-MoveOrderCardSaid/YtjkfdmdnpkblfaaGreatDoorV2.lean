import Derived.Test.YtjkfdmdnpkblfaaGreatDoorV1
import Derived.Laws.IdiomStrings
import Derived.Laws.IdiomCopy
import Derived.Lib.Strings
import Derived.Lib.AppendStr
import Derived.Lib.AppendZerosOnto
import Derived.Lib.Builder
import Derived.LaidEqlPtr
import Derived.Lib.UnsafeStr
import Derived.Lib.BufferWrite
import Derived.Laws.RangeString
import Derived.OpenShut
import Derived.Lib.LaidTab
import Derived.Lib.ItoaNum
import GoSem.Extern.BytealgCount
import GoSem.Extern.BytealgCompare
import GoSem.Extern.BytealgIndexByte
import Derived.KernelRfl
import Derived.Shelf.Strings.Builder1
import Derived.Shelf.Strings.IndexAnyAll
import Derived.Shelf.Strconv.Itoa3
import Derived.Shelf.Strings.IndexAny
import Derived.Shelf.Small.Utf8
import Derived.Laws.RangeAny
import Derived.Laws.Runes
import Derived.Lib.OthersKept
import Derived.Maps.RangeWalk
import Derived.StillTactics
import Derived.WalkMore
import Derived.Shelf.Strings.Builder2
import Derived.Shelf.Strings.SlTrimAscii
import Derived.Test.YtjkfdmdnpkblfaaGreatDoorProg
set_option linter.unusedSimpArgs false
namespace Go.Vx
open Go Go.RowKit
set_option linter.unusedVariables false
set_option linter.unusedSimpArgs false
variable {R:Type}
/-! ### 12d. More operations -/
theorem caseN_some {f:Nat → Option R} {j:Int} {r:R}:∀ {n i:Nat},caseN f j i n = some r → ∃ q,i ≤ q ∧ q < i + n ∧ j = (q:Int) ∧ f q = some r
 | 0,i,h => by cases h
 | n + 1,i,h => by
  simp only [caseN] at h
  cases hb:(j == (i:Int)) with
  | true => rw [hb] at h; exact ⟨i,Nat.le_refl _,by omega,by simpa using hb,h⟩
  | false =>
   rw [hb] at h
   obtain ⟨q,h1,h2,h3,h4⟩:=caseN_some (n:=n) h
   exact ⟨q,by omega,by omega,h3,h4⟩
theorem run_indexAt_arr {P:Program} {t e n:Nat} {te:TI} (h1:P.underlying t = some (.array n e)) (h2:TIok P e te) {ad:Addr} {ik:IntKind} {j:Int} (h0:0 ≤ j) (hj:j < n) (w:World) :
  (Instr.indexAt t (.pointer (some ad)) (.int ik j)).run P w = .ok (.pointer (some (ad.add (j.toNat * te.width)))) w:=by
 simp [Instr.indexAt,run_underlying h1,asIntOf,Instr.sureAddr,h0,hj,run_sizeOf h2]
theorem isU8_ok {T:Program} {t:Nat} (h:isU8 T t = true):∃ ti,TIok T t ti ∧ ti.desc = .int .u8 ∧ T.underlying t = some (.int .u8) ∧ ti.width = 1:=by
 unfold isU8 at h
 split at h
 ·rename_i ti hti
  split at h
  ·rename_i hd
   exact ⟨ti,lookT_ok hti,hd,by rw [(lookT_ok hti).desc,hd],beq_true.1 h⟩
  ·cases h
 ·cases h
theorem isBytesTy_ok {P:Program} {s:Nat} (h:isBytesTy P s = true):∃ e,P.underlying s = some (.slice e) ∧ P.underlying e = some (.int .u8):=by
 unfold isBytesTy at h
 split at h
 ·rename_i e he
  split at h
  ·exact ⟨e,he,by assumption⟩
  ·cases h
 ·cases h
theorem isSlcTy_ok {P:Program} {s:Nat} (h:isSlcTy P s = true):∃ e,P.underlying s = some (.slice e):=by
 unfold isSlcTy at h
 split at h
 ·exact ⟨_,by assumption⟩
 ·cases h
theorem isPtrTy_ok {P:Program} {s:Nat} (h:isPtrTy P s = true):∃ e,P.underlying s = some (.pointer e):=by
 unfold isPtrTy at h
 split at h
 ·exact ⟨_,by assumption⟩
 ·cases h
theorem bytAt_ok {m:List (Nat × Blk)} {a:AC} {id i e:Nat} {xs:List Int} (h:bytAt m a = some (id,i,e,xs)):a = .eo id i 1 0 ∧ lookM id m = some (.byt e xs):=by
 unfold bytAt at h
 split at h
 ·split at h
  ·injection h with h; injection h with h1 h; injection h with h2 h; injection h with h3 h4
   subst h1 h2 h3 h4
   exact ⟨rfl,by assumption⟩
  ·cases h
 ·cases h
theorem run_equalIn_ptr {P:Program} (w:World) (d:Nat) (t:TypeId) (p:Option Addr) {e:TypeId} (ht:P.underlying t = some (.pointer e)):(Op.equalIn (d + 1) t (.pointer p) (.pointer none)).run P w = .ok p.isNone w:=by
 cases p with
 | none => simp [Op.equalIn,run_underlying ht]
 | some a => simp [Op.equalIn,run_underlying ht]
theorem run_eql_ptr_nil {P:Program} (w:World) {t e:TypeId} (q:Addr) (ht:P.underlying t = some (.pointer e)):(binOp .eql t (.pointer none) (.pointer (some q))).run P w = .ok (.bool false) w:=by
 have h:∀ d:Nat,(Op.equalIn (d + 1) t (.pointer none) (.pointer (some q))).run P w = .ok false w:=fun d => by simp [Op.equalIn,run_underlying ht]
 simp only [binOp]
 simp [Op.equal,Op.maxDepth,h 9999]
theorem run_neq_ptr_nil {P:Program} (w:World) {t e:TypeId} (q:Addr) (ht:P.underlying t = some (.pointer e)):(binOp .neq t (.pointer none) (.pointer (some q))).run P w = .ok (.bool true) w:=by
 have h:∀ d:Nat,(Op.equalIn (d + 1) t (.pointer none) (.pointer (some q))).run P w = .ok false w:=fun d => by simp [Op.equalIn,run_underlying ht]
 simp only [binOp]
 simp [Op.equal,Op.maxDepth,h 9999]
theorem run_eqGuard_ptr {P:Program} (w:World) (op:BinOp) (t:TypeId) (x y:Operand) (p q:Option Addr):(eqGuard op t x y (.pointer p) (.pointer q)).run P w = .ok () w:=by
 unfold eqGuard
 cases op <;> rfl
theorem isUnsafe_ok {P:Program} {t:Nat} (h:isUnsafe P t = true):P.underlying t = some .unsafePointer:=by
 unfold isUnsafe at h
 split at h
 ·assumption
 ·cases h
theorem toUnsafe_ok {P:Program} {s:Nat} (h:toUnsafe P s = true):∃ e j,P.underlying s = some (.pointer e) ∧ P.info? e = some j ∧ j.size ≠ 0:=by
 unfold toUnsafe at h
 split at h
 ·rename_i t ht
  split at h
  ·rename_i i hi
   refine ⟨t,i,ht,hi,fun e => ?_⟩
   rw [e] at h
   cases h
  ·cases h
 ·cases h
theorem fromUnsafe_ok {P:Program} {tid n off t:Nat} (h:fromUnsafe P tid n off t = true):∃ u j,P.underlying t = some (.pointer u) ∧ P.info? u = some j ∧ liesAt P P.depth tid (n / P.cellsOf tid) off u 1 = true:=by
 unfold fromUnsafe at h
 split at h
 ·rename_i u hu
  simp only [Bool.and_eq_true] at h
  obtain ⟨j,hj⟩:=Option.isSome_iff_exists.1 h.1
  exact ⟨u,j,hu,hj,h.2⟩
 ·cases h
theorem ptrKnown_ok {P:Program} {t:Nat} (h:ptrKnown P t = true):∃ u j,P.underlying t = some (.pointer u) ∧ P.info? u = some j:=by
 unfold ptrKnown at h
 split at h
 ·rename_i u hu
  obtain ⟨j,hj⟩:=Option.isSome_iff_exists.1 h
  exact ⟨u,j,hu,hj⟩
 ·cases h
theorem ptrTo_ok {P:Program} {t e:Nat} (h:ptrTo P t e = true):P.underlying t = some (.pointer e):=by
 unfold ptrTo at h
 split at h
 ·rename_i u hu; rw [hu,beq_true.1 h]
 ·cases h
theorem elemIs_ok {P:Program} {t e:Nat} (h:elemIs P t e = true):P.underlying t = some (.slice e):=by
 unfold elemIs at h
 split at h
 ·rename_i u hu; rw [hu,beq_true.1 h]
 ·cases h
theorem heap_same4 {gh:Gh} {m:Mem} {w w':World} (H:HeapOK gh m w) (hg:w.grownBy w' none) (hdr:w.drawn ≤ w'.drawn):HeapOK4 gh m w' ∧ Tr gh m w gh m w':=by
 have hc:∀ x,gh.S x → w'.cell? x = w.cell? x:=fun x hx => World.cell?_of_block (hg.block x.block (H.S_lt hx) (by simp))
 refine ⟨⟨fun id b hb => blkOK_keep (fun _ h => h) hc (fun id h => ⟨h,rfl⟩) hg (by rw [hb]; simp) (fun _ _ _ => by simp) (H.blk id b hb),H.inj,H.sep,fun x hx => ?_⟩,
  ⟨hg.os,hg.tape,hg.output,hg.size,fun k hk _ => hg.block k hk (by simp),fun _ h => h,hc,fun _ h => .inl h,fun id b h1 h2 k h3 => .inr ⟨id,b,h1,h2,h3⟩,fun _ _ h => ⟨h,rfl⟩,hdr,rfl⟩⟩
 obtain ⟨h1,v,h2⟩:=H.st x hx
 exact ⟨h1,v,by rw [hc x hx]; exact h2⟩
theorem heap_same {gh:Gh} {m:Mem} {w w':World} (H:HeapOK gh m w) (hg:w.grownBy w' none) (hdr:w.drawn ≤ w'.drawn):HeapOK gh m w' ∧ Tr gh m w gh m w':=by
 obtain ⟨h,T⟩:=heap_same4 H hg hdr
 exact ⟨⟨h,gr_tr H T⟩,T⟩
theorem heap_kill4 {gh:Gh} {m:Mem} {w w':World} (H:HeapOK gh m w) {id:Nat} {b:Blk} (hb:m id = some b) (hl:b.live = true) {row:Option Nat} (hrow:row = none ∨ gh.blk id = row) (hns:∀ x,¬ SepOK x b) (hg:w.grownBy w' row) (hdr:w.drawn ≤ w'.drawn) :
  HeapOK4 gh (upd m id .dead) w' ∧ Tr gh m w gh (upd m id .dead) w' ∧ (∀ i,m i ≠ none → upd m id .dead i ≠ none ∧ gh.val i = gh.val i):=by
 have hext:∀ i,m i ≠ none → upd m id .dead i ≠ none ∧ gh.val i = gh.val i:=fun i h => by
  refine ⟨?_,rfl⟩
  by_cases hi:id = i
  ·subst hi; rw [upd_same]; simp
  ·rw [upd_other _ _ hi]; exact h
 have hrow':∀ k,gh.blk id ≠ some k → some k ≠ row:=fun k hk => by
  rcases hrow with rfl | rfl
  ·simp
  ·exact fun e => hk e.symm
 have hc:∀ x,gh.S x → w'.cell? x = w.cell? x:=fun x hx => World.cell?_of_block (hg.block x.block (H.S_lt hx) (hrow' _ fun e => hns x (H.sep x hx id b hb e)))
 have hlive:∀ i c,upd m id .dead i = some c → c.live = true → m i = some c ∧ i ≠ id:=fun i c h hl => by
  by_cases h':id = i
  ·subst h'; rw [upd_same] at h; injection h with h; subst h; cases hl
  ·rw [upd_other _ _ h'] at h; exact ⟨h,Ne.symm h'⟩
 refine ⟨⟨fun i c hi => ?_,fun i j c c' hi hj hlc hlc' hij k hk => ?_,fun x hx i c hi hk => ?_,fun x hx => ?_⟩,
  ⟨hg.os,hg.tape,hg.output,hg.size,fun k hk hn => hg.block k hk (hrow' k fun e => hn id b hb hl e),fun _ h => h,hc,fun _ h => .inl h,fun i c h1 h2 k h3 => ?_,fun i _ h => ⟨?_,rfl⟩,hdr,rfl⟩,hext⟩
 ·cases hlc:c.live with
  | false => cases c with
   | dead => trivial
   | box t l => cases hlc
   | lst e r xs fz => cases hlc
   | mp kr es => cases hlc
   | byt e xs => cases hlc
   | it s pos => cases hlc
  | true =>
   obtain ⟨g1,g2⟩:=hlive i c hi hlc
   exact blkOK_keep (fun _ h => h) hc hext hg (by rw [g1]; simp) (fun _ k hk => hrow' k fun e => H.inj i id c b g1 hb hlc hl g2 k hk e) (H.blk i c g1)
 ·obtain ⟨g1,_⟩:=hlive i c hi hlc
  obtain ⟨g2,_⟩:=hlive j c' hj hlc'
  exact H.inj i j c c' g1 g2 hlc hlc' hij k hk
 ·cases hlc:c.live with
  | false => cases c with
   | dead => trivial
   | box t l => cases hlc
   | lst e r xs fz => cases hlc
   | mp kr es => cases hlc
   | byt e xs => cases hlc
   | it s pos => cases hlc
  | true =>
   obtain ⟨g1,_⟩:=hlive i c hi hlc
   exact H.sep x hx i c g1 hk
 ·obtain ⟨h1,v,h2⟩:=H.st x hx
  exact ⟨h1,v,by rw [hc x hx]; exact h2⟩
 ·obtain ⟨g1,_⟩:=hlive i c h1 h2
  exact .inr ⟨i,c,g1,h2,h3⟩
 ·intro hn
  by_cases hi:id = i
  ·subst hi; rw [hb] at hn; cases hn
  ·rw [upd_other _ _ hi] at h; exact h hn
theorem heap_kill {gh:Gh} {m:Mem} {w w':World} (H:HeapOK gh m w) {id:Nat} {b:Blk} (hb:m id = some b) (hl:b.live = true) {row:Option Nat} (hrow:row = none ∨ gh.blk id = row) (hns:∀ x,¬ SepOK x b) (hg:w.grownBy w' row) (hdr:w.drawn ≤ w'.drawn) :
  HeapOK gh (upd m id .dead) w' ∧ Tr gh m w gh (upd m id .dead) w' ∧ (∀ i,m i ≠ none → upd m id .dead i ≠ none ∧ gh.val i = gh.val i):=by
 obtain ⟨h,T,e⟩:=heap_kill4 H hb hl hrow hns hg hdr
 exact ⟨⟨h,gr_tr H T⟩,T,e⟩
theorem heap_cut4 {gh:Gh} {m:Mem} {w:World} (H:HeapOK gh m w) {d id:Nat} (hd:m d = none) (hpin:pin d = false) {e:Nat} {r:Ty} {xs:List r.D} (hid:m id = some (.lst e r xs false)) {n:Nat} (hn:n ≤ xs.length)
  {v':Value} (hv:(gh.val id = .slice none 0 0 ∧ v' = .slice none 0 0) ∨ ∃ g cap cp,gh.val id = .slice (some ⟨g,0,none⟩) xs.length cap ∧ v' = .slice (some ⟨g,0,none⟩) n cp ∧ n ≤ cp ∧ cp ≤ cap) :
  HeapOK4 ⟨fun i => bif Nat.beq d i then v' else gh.val i,gh.S,gh.K⟩ (upd (upd m id .dead) d (.lst e r (xs.take n) false)) w ∧
   Tr gh m w ⟨fun i => bif Nat.beq d i then v' else gh.val i,gh.S,gh.K⟩ (upd (upd m id .dead) d (.lst e r (xs.take n) false)) w ∧
   (∀ i,m i ≠ none → upd (upd m id .dead) d (.lst e r (xs.take n) false) i ≠ none ∧ (fun i => bif Nat.beq d i then v' else gh.val i) i = gh.val i):=by
 have hne:∀ i,m i ≠ none → d ≠ i:=fun i h e => h (e ▸ hd)
 have hext:∀ i,m i ≠ none → upd (upd m id .dead) d (.lst e r (xs.take n) false) i ≠ none ∧ (fun i => bif Nat.beq d i then v' else gh.val i) i = gh.val i:=fun i h => by
  have hn:Nat.beq d i = false:=beq_ne (hne i h)
  refine ⟨?_,by simp [hn]⟩
  rw [upd_other _ _ (hne i h)]
  by_cases hi:id = i
  ·subst hi; rw [upd_same]; simp
  ·rw [upd_other _ _ hi]; exact h
 have hbd:(Gh.mk (fun i => bif Nat.beq d i then v' else gh.val i) gh.S gh.K).blk d = gh.blk id:=by
  rcases hv with ⟨h1,h2⟩ | ⟨g,cap,cp,h1,h2,_⟩ <;> simp [Gh.blk,Nat.beq_refl d,h1,h2,blockOfV]
 have hbo:∀ i,d ≠ i → (Gh.mk (fun i => bif Nat.beq d i then v' else gh.val i) gh.S gh.K).blk i = gh.blk i:=fun i h => by
  have hn:Nat.beq d i = false:=beq_ne h
  simp [Gh.blk,hn]
 have hlive:∀ i b,i ≠ d → upd (upd m id .dead) d (.lst e r (xs.take n) false) i = some b → b.live = true → m i = some b ∧ i ≠ id:=fun i b hi h hl => by
  rw [upd_other _ _ (Ne.symm hi)] at h
  by_cases h':id = i
  ·subst h'; rw [upd_same] at h; injection h with h; subst h; cases hl
  ·rw [upd_other _ _ h'] at h; exact ⟨h,Ne.symm h'⟩
 obtain ⟨vs,h1,h2,h3,hfrz⟩:=H.blk id _ hid
 clear hfrz
 refine ⟨⟨?_,?_,?_,H.st⟩,⟨rfl,rfl,rfl,Nat.le_refl _,fun _ _ _ => rfl,fun _ h => h,fun _ _ => rfl,fun _ h => .inl h,?_,?_,Nat.le_refl _,rfl⟩,hext⟩
 ·intro i b hib
  by_cases h:d = i
  ·subst h
   rw [upd_same] at hib
   injection hib with hib
   subst hib
   have hl:(xs.take n).length = n:=by rw [List.length_take]; omega
   refine ⟨vs.take (n * r.width),?_,?_,h3,fun hf => by cases hf⟩
   ·simp only [Nat.beq_refl d,cond_true]
    rw [hl]
    have hle:n * r.width ≤ xs.length * r.width:=Nat.mul_le_mul_right _ hn
    refine ⟨by rw [List.length_take,h1.1]; omega,?_⟩
    rcases hv with ⟨q1,q2⟩ | ⟨g,cap,cp,q1,q2,q11,q12⟩
    ·refine .inl ⟨q2,?_⟩
     rcases h1.2 with ⟨_,q4⟩ | ⟨g,cap,cur,q4,_⟩
     ·omega
     ·rw [q1] at q4; cases q4
    ·rcases h1.2 with ⟨q4,_⟩ | ⟨g',cap',cur,q4,q5,q6,q7,q8,q9,q10⟩
     ·rw [q1] at q4; cases q4
     ·rw [q1] at q4
      injection q4 with q4 _ q4'
      injection q4 with q4
      injection q4 with q4
      subst q4 q4'
      refine .inr ⟨g,cp,cur,q2,q5,q6,q11,by omega,Nat.le_trans (Nat.mul_le_mul_right _ q12) q9,?_⟩
      rw [← q10,List.take_take,Nat.min_eq_left hle]
   ·have:rowsCells r (xs.take n) = (rowsCells r xs).take (n * r.width):=by
     clear h1 h2 hid hext hv hl hlive hbo hbd
     induction xs generalizing n with
     | nil => simp [rowsCells]
     | cons x xs ih =>
      cases n with
      | zero => simp [rowsCells]
      | succ n =>
       have e1:rowsCells r (x :: xs) = cellsOf r x ++ rowsCells r xs:=by simp [rowsCells]
       have e2:rowsCells r (x :: xs.take n) = cellsOf r x ++ rowsCells r (xs.take n):=by simp [rowsCells]
       rw [List.take_succ_cons,e1,e2,ih (by simpa using hn),List.take_append,flat_length]
       have:(n + 1) * r.width - r.width = n * r.width:=by rw [Nat.add_mul,Nat.one_mul]; omega
       rw [this,List.take_of_length_le (i:=(n + 1) * r.width) (l:=cellsOf r x)]
       rw [flat_length,Nat.add_mul,Nat.one_mul]; omega
    rw [this]
    exact repCs_mono (g:=gh) (m:=m) (g':=⟨fun i => bif Nat.beq d i then v' else gh.val i,gh.S,gh.K⟩) (m':=upd (upd m id .dead) d (.lst e r (xs.take n) false)) (fun _ h => h) (fun _ _ => rfl) hext (All2.take h2 _)
  ·cases hlb:b.live with
   | false => cases b with
    | dead => trivial
    | box tid l => cases hlb
    | lst e r xs fz => cases hlb
    | mp kr es => cases hlb
    | byt e xs => cases hlb
    | it s pos => cases hlb
   | true =>
    obtain ⟨g1,g2⟩:=hlive i b (Ne.symm h) hib hlb
    exact blkOK_keep (gh:=gh) (m:=m) (gh':=⟨fun i => bif Nat.beq d i then v' else gh.val i,gh.S,gh.K⟩) (m':=upd (upd m id .dead) d (.lst e r (xs.take n) false)) (fun _ h => h) (fun _ _ => rfl) hext (row:=none) ⟨rfl,rfl,rfl,Nat.le_refl _,fun _ _ _ => rfl⟩ (by rw [g1]; simp) (fun _ _ _ => by simp) (H.blk i b g1)
 ·intro i j b c hi hj hlb hlc hij k hk
  by_cases h:d = i
  ·subst h
   rw [hbd] at hk
   rw [hbo j hij]
   obtain ⟨g1,g2⟩:=hlive j c (Ne.symm hij) hj hlc
   exact H.inj id j _ c hid g1 rfl hlc (Ne.symm g2) k hk
  ·rw [hbo i h] at hk
   obtain ⟨g1,g2⟩:=hlive i b (Ne.symm h) hi hlb
   by_cases h':d = j
   ·subst h'
    rw [hbd]
    exact H.inj i id b _ g1 hid hlb rfl g2 k hk
   ·rw [hbo j h']
    obtain ⟨g3,g4⟩:=hlive j c (Ne.symm h') hj hlc
    exact H.inj i j b c g1 g3 hlb hlc hij k hk
 ·intro x hx i b hib hk
  cases hlb:b.live with
  | false => cases b with
   | dead => trivial
   | box tid l => cases hlb
   | lst e r xs fz => cases hlb
   | mp kr es => cases hlb
   | byt e xs => cases hlb
   | it s pos => cases hlb
  | true =>
   by_cases h:d = i
   ·subst h
    rw [hbd] at hk
    have:=H.sep x hx id _ hid hk
    obtain ⟨h,_⟩:=this
    cases h
   ·rw [hbo i h] at hk
    obtain ⟨g1,g2⟩:=hlive i b (Ne.symm h) hib hlb
    exact H.sep x hx i b g1 hk
 ·intro i b hib hlb k hk
  by_cases h:d = i
  ·subst h
   rw [hbd] at hk
   exact .inr ⟨id,_,hid,rfl,hk⟩
  ·rw [hbo i h] at hk
   obtain ⟨g1,_⟩:=hlive i b (Ne.symm h) hib hlb
   exact .inr ⟨i,b,g1,hlb,hk⟩
 ·intro i hp hm
  have h:d ≠ i:=fun e => by rw [e,hp] at hpin; cases hpin
  rw [upd_other _ _ h] at hm
  have hmi:m i ≠ none:=fun hn => hm (by
   have hi:id ≠ i:=fun e => by rw [e] at hid; rw [hid] at hn; cases hn
   rw [upd_other _ _ hi]
   exact hn)
  exact ⟨hmi,(hext i hmi).2⟩
theorem heap_cut {gh:Gh} {m:Mem} {w:World} (H:HeapOK gh m w) {d id:Nat} (hd:m d = none) (hpin:pin d = false) {e:Nat} {r:Ty} {xs:List r.D} (hid:m id = some (.lst e r xs false)) {n:Nat} (hn:n ≤ xs.length)
  {v':Value} (hv:(gh.val id = .slice none 0 0 ∧ v' = .slice none 0 0) ∨ ∃ g cap cp,gh.val id = .slice (some ⟨g,0,none⟩) xs.length cap ∧ v' = .slice (some ⟨g,0,none⟩) n cp ∧ n ≤ cp ∧ cp ≤ cap) :
  HeapOK ⟨fun i => bif Nat.beq d i then v' else gh.val i,gh.S,gh.K⟩ (upd (upd m id .dead) d (.lst e r (xs.take n) false)) w ∧
   Tr gh m w ⟨fun i => bif Nat.beq d i then v' else gh.val i,gh.S,gh.K⟩ (upd (upd m id .dead) d (.lst e r (xs.take n) false)) w ∧
   (∀ i,m i ≠ none → upd (upd m id .dead) d (.lst e r (xs.take n) false) i ≠ none ∧ (fun i => bif Nat.beq d i then v' else gh.val i) i = gh.val i):=by
 obtain ⟨h,T,e⟩:=heap_cut4 H hd hpin hid hn hv
 exact ⟨⟨h,gr_tr H T⟩,T,e⟩
theorem run_bytesOf {P:Program} {w:World} {g:Nat} {c:Nat} {cur:Array Value} {e:Nat} {fz:Nat × Nat} {xs:List Int} (hg:w.heap[g]? = some (.cells cur e fz)) (hx:∀ (j:Nat) x,xs[j]? = some x → cur[j]? = some (.int .u8 x)) :
  (Conv.bytesToString (.slice (some ⟨g,0,none⟩) xs.length c)).run P w = .ok (.string (bstr xs)) w:=by
 refine run_bytesToString w ⟨g,0,none⟩ xs.length c xs ?_
 have hl:=run_loadCells_list (P:=P) w ⟨g,0,none⟩ (xs.map (Value.int .u8)) (fun j v hv => by
  rw [List.getElem?_map] at hv
  cases hj:xs[j]? with
  | none => rw [hj] at hv; cases hv
  | some n =>
   rw [hj] at hv
   simp at hv
   subst hv
   rw [add_plain,Nat.zero_add]
   unfold World.cell?
   rw [hg]
   exact hx j n hj)
 rw [List.length_map] at hl
 exact hl
theorem byt_cell {w:World} {g:Nat} {cur:Array Value} {e:Nat} {fz:Nat × Nat} {xs:List Int} {i:Nat} {y:Int} (hg:w.heap[g]? = some (.cells cur e fz)) (hx:∀ (j:Nat) x,xs[j]? = some x → cur[j]? = some (.int .u8 x)) (hy:xs[i]? = some y) :
  w.cell? ⟨g,i,none⟩ = some (.int .u8 y):=by
 unfold World.cell?
 rw [hg]
 exact hx i y hy
theorem run_store_byt {P:Program} {w:World} {g i:Nat} {cur:Array Value} {e:Nat} {fz:Nat × Nat} (hg:w.heap[g]? = some (.cells cur e fz)) (hi:i < cur.size) (hf:cur.size ≤ fz.1) (v:Value) (h1:v.oneCell' = true) :
  (storeCells ⟨g,i,none⟩ [v] 0).run P w = .ok () (w.setCells g i [v]):=by
 have hc:w.cell? ⟨g,i,none⟩ = cur[i]?:=by unfold World.cell?; rw [hg]; rfl
 have hz:w.frozen? ⟨g,i,none⟩ = false:=by
  unfold World.frozen?
  rw [hg]
  simp
  omega
 have:=run_storeCells_cells (P:=P) g i [v] 0 w (fun j hj => by
  have:j = 0:=by simpa using hj
  subst this
  simp [hc,hi]) (fun j hj => by
  have:j = 0:=by simpa using hj
  subst this
  simpa using hz) (fun u hu => by simp at hu; subst hu; exact h1)
 simpa using this
section
variable {cx:Cx} {σ:St} {o:Oper} {k:Eff → Option R} {r:R}
theorem new_indexAddr {t:Nat} {x y:Operand} (hdo:dstOk cx.n o.dst = true) (ho:o.op = .indexAddr t x y) (h:stepNew cx σ o k = some (some r)):∃ e,k e = some r ∧ OpOK cx.T cx.n σ o e:=by
 simp only [stepNew,ho] at h
 split at h
 ·rename_i id ik j hx hy
  split at h
  ·rename_i e xs hm
   injection h with h
   split at h
   rotate_left
   ·simp at h
   rename_i _ te hel
   cases hc:(decide (0 ≤ j) && decide (j < (xs.length:Int)) && Nat.beq te.width 1) with
   | false => rw [hc] at h; cases h
   | true =>
    rw [hc] at h
    simp only [cond_true] at h
    simp only [Bool.and_eq_true,decide_eq_true_eq] at hc
    obtain ⟨⟨c1,c2⟩,c3⟩:=hc
    have c1:@LE.le Int _ 0 j:=c1
    have c2:@LT.lt Int _ j xs.length:=c2
    have c3:=beq_true.1 c3
    obtain ⟨h7,h8⟩:=elemOf_ok hel
    refine ⟨_,h,op_pure' hdo rfl fun C gh σ' a w hag hs => ?_⟩
    have hm':σ'.blk id = some (.byt e xs):=by rw [agree_m hag (by simp)]; exact hm
    have hrep:RepC gh σ'.blk w (.own id) (a.eval x):=ev_at hag hs (by intro q hq; simp [hq]) hx
    have hi:a.eval y = .int ik j:=ev_at hag hs (by intro q hq; simp [hq]) hy
    obtain ⟨g,c,cur,fz,q1,q2,q3,q4,q5⟩:=hs.heap.blk id _ hm'
    refine ⟨.pointer (some ⟨g,j.toNat,none⟩),?_,hrep.1,g,xs.length,c,q1,by simp⟩
    have h10:=run_indexAt (ad:=⟨g,0,none⟩) (n:=xs.length) (c:=c) (ik:=ik) h7 h8 c1 c2 w
    rw [add_plain,Nat.zero_add,c3,Nat.mul_one] at h10
    simp only [execOp,ho,hi,hrep.2.1,q1,Sem.run_bind,h10,Result.andThen_ok,Sem.run_pure]
  ·cases h
 ·rename_i a1 ik j _ hx hy
  split at h
  ·rename_i id off wd n hca
   injection h with h
   obtain ⟨q,_,q2,rfl,q4⟩:=caseN_some h
   rw [Nat.zero_add] at q2
   refine ⟨_,q4,op_pure' hdo rfl fun C gh σ' a w hag hs => ?_⟩
   have hrep:RepC gh σ'.blk w a1 (a.eval x):=ev_at hag hs (by intro q hq; simp [hq]) hx
   have hi:a.eval y = .int ik (q:Int):=ev_at hag hs (by intro q hq; simp [hq]) hy
   unfold cellsAt at hca
   split at hca
   ·rename_i id' off' _
    split at hca
    ·rename_i n' e hu
     split at hca
     ·rename_i te hte
      injection hca with hca
      injection hca with e1 hca
      injection hca with e2 hca
      injection hca with e3 e4
      subst e1 e2 e3 e4
      obtain ⟨p1,b,p2,p3⟩:=hrep
      refine ⟨.pointer (some ⟨b,off' + q * te.width,none⟩),?_,p1,b,p2,rfl⟩
      have h10:=run_indexAt_arr (ad:=⟨b,off',none⟩) (ik:=ik) hu (lookT_ok hte) (j:=(q:Int)) (by omega) (by omega) w
      rw [add_plain,Int.toNat_natCast] at h10
      simp only [execOp,ho,hi,p3,Sem.run_bind,h10,Result.andThen_ok,Sem.run_pure]
     ·cases hca
    ·cases hca
   ·rename_i id' n' _
    split at hca
    ·rename_i e hu
     split at hca
     ·rename_i te hte
      cases hw:Nat.beq te.width 1 with
      | false => rw [hw] at hca; cases hca
      | true =>
       rw [hw] at hca
       simp only [cond_true] at hca
       have hw:=beq_true.1 hw
       injection hca with hca
       injection hca with e1 hca
       injection hca with e2 hca
       injection hca with e3 e4
       subst e1 e2 e3 e4
       obtain ⟨p1,b,p2,p3⟩:=hrep
       refine ⟨.pointer (some ⟨b,0 + q * 1,none⟩),?_,p1,b,p2,rfl⟩
       have h10:=run_indexAt (ad:=⟨b,0,none⟩) (n:=n') (c:=n') (ik:=ik) hu (lookT_ok hte) (j:=(q:Int)) (by omega) (by omega) w
       rw [add_plain,Int.toNat_natCast,hw] at h10
       simp only [execOp,ho,hi,p3,Sem.run_bind,h10,Result.andThen_ok,Sem.run_pure]
     ·cases hca
    ·cases hca
   ·cases hca
  ·cases h
 ·cases h
theorem new_build {t:Nat} {ps:Array (Nat × Operand)} (hdo:dstOk cx.n o.dst = true) (ho:o.op = .build t ps) (h:stepNew cx σ o k = some (some r)):∃ e,k e = some r ∧ OpOK cx.T cx.n σ o e:=by
 simp only [stepNew,ho] at h
 split at h
 ·rename_i e te ha
  injection h with h
  split at h
  ·rename_i ti l hti hl
   split at h
   ·rename_i cs hcs
    refine ⟨_,h,op_pure' hdo rfl fun C gh σ' a w hag hs => ?_⟩
    have hp:=evParts_rep hag hs ps.toList l hl (fun q hq => hq)
    obtain ⟨i,hi1,hi2,_,z,hi4,hi5⟩:=(lookT_ok hti).info
    unfold arrOf at ha
    split at ha
    ·rename_i n e' hu
     cases hte:lookT e' cx.T with
     | none => rw [hte] at ha; cases ha
     | some te' =>
      rw [hte] at ha
      simp at ha
      obtain ⟨rfl,rfl⟩:=ha
      obtain ⟨ie,he1,he2,_⟩:=(lookT_ok hte).info
      have hplace:(fun i => some (i * te'.width,te'.width)) = fun (j:Nat) => some (j * ie.size,ie.size):=by rw [he2]
      rw [hplace] at hcs
      obtain ⟨vals',h1,h2,_⟩:=fill_rep l _ _ cs z.cells hcs hp (by rw [hi5]; exact repCs_ofCell _)
      have hb:cx.T.built t ((ps.map fun p => (p.1,a.eval p.2)).toList) = some vals':=by
       simp only [Program.built,hi1,hu,hi4,he1]
       rw [← h1]
       simp
      refine ⟨.agg vals',?_,vals',rfl,h2⟩
      simp only [execOp,ho,Sem.run_bind]
      have:=run_build (P:=cx.T) w t (ps.map fun p => (p.1,a.eval p.2)) vals' hb
      rw [this]
      rfl
    ·cases ha
   ·cases h
  ·cases h
 ·cases h
theorem new_buildSlice {t n:Nat} {ps:Array (Nat × Operand)} (hdo:dstOk cx.n o.dst = true) (ho:o.op = .buildSlice t n ps) (h:stepNew cx σ o k = some (some r)):∃ e,k e = some r ∧ OpOK cx.T cx.n σ o e:=by
 simp only [stepNew,ho] at h
 split at h
 rotate_left
 ·cases h
 rename_i e te hel
 obtain ⟨hel1,hel2⟩:=elemOf_ok hel
 cases hmk:(te.row.isNone || marked cx (o.dst.getD 0)) with
 | false => rw [hmk] at h; cases h
 | true =>
  rw [hmk] at h
  simp only [cond_true] at h
  injection h with h
  split at h
  ·rename_i l hl hfr
   cases hcond:(Nat.beq te.width 1 && (Nat.ble n 16777216 && Nat.beq te.zero.length 1)) with
   | false => rw [hcond] at h; cases h
   | true =>
    rw [hcond] at h
    simp only [cond_true] at h
    simp only [Bool.and_eq_true] at hcond
    obtain ⟨c1,c3,c4⟩:=hcond
    have c1:=beq_true.1 c1
    have c3:=Nat.le_of_ble_eq_true c3
    have c4:=beq_true.1 c4
    split at h
    ·rename_i cs hcs
     refine ⟨_,h,?_⟩
     intro C gh σ' a w next Q hn hag hs hk
     have hf':σ'.blk (o.dst.getD 0) = none:=by rw [agree_m hag (by simp)]; exact hfr
     have hp:=evParts_rep hag hs ps.toList l hl (fun q hq => by simp only [List.mem_cons]; exact .inr hq)
     obtain ⟨i,hi1,hi2,_,z,hi4,hi5⟩:=hel2.info
     have hzs:z.cells.size = 1:=by rw [← c4,← hi5]; simp
     have hz0:=range_zero z.cells 1 n hzs (by omega)
     have hz1:RepCs gh σ'.blk w ((List.replicate n (te.zero.map ofCell)).flatten) ((Array.range (n * 1)).map fun i => z.cells[i % z.cells.size]!).toList:=by
      rw [hz0,← hi5]
      exact repCs_rep _ n
     have hplace:(fun i => some (i * 1,1)) = fun (j:Nat) => some (j * i.size,i.size):=by rw [hi2,c1]
     obtain ⟨vals',f1,f2,f3⟩:=fill_rep l _ _ cs _ hcs hp hz1
     have hrun:(execOp a.eval o).run cx.T w = .ok (.value (.slice (some ⟨w.heap.size,0,none⟩) n n)) (w.alloc (.cells vals' e)):=by
      have:=run_buildSl (P:=cx.T) w t e n (ps.map fun p => (p.1,a.eval p.2)) vals' i z hel1 hi1 hi4 (by rw [hi2,c1,Nat.mul_one]; exact Nat.not_lt.2 c3) (by
       rw [← hplace,hi2,c1,← f1]
       simp)
      simp only [execOp,ho,Sem.run_bind]
      rw [this]
      rfl
     have hnew:=heap_new hs.heap hf' (dst_pin hdo) (b:=.box e cs) (v:=.pointer (some ⟨w.heap.size,0,none⟩)) (w':=w.alloc (.cells vals' e)) (Nat.le_refl _) (below_alloc' w _)
      (by intro k hk; simp [blockOfV] at hk; omega) gh.S (fun _ h => h) (fun x hx => .inl hx)
      (fun hext => by
       refine ⟨w.heap.size,vals',?_,?_,?_⟩
       ·simp only [Nat.beq_refl,cond_true]
       ·exact heap_alloc_new w _
       ·exact repCs_mono (g:=gh) (w:=w) (m:=σ'.blk) (g':=⟨fun i => bif Nat.beq (o.dst.getD 0) i then .pointer (some ⟨w.heap.size,0,none⟩) else gh.val i,gh.S,gh.K⟩) (m':=upd σ'.blk (o.dst.getD 0) (.box e cs)) (fun _ h => h) (fun x hx => (below_alloc' w _).cell (hs.heap.S_lt hx)) hext f2)
     obtain ⟨hH,hT,hext⟩:=hnew
     refine wp_value hrun (hk _ _ _ (sim_step hs (hn.1 ▸ hdo) hT hH hext fun _ => ?_))
     refine ⟨?_,w.heap.size,?_,rfl⟩
     ·rw [blk_cons,upd_same]; simp
     ·simp
    ·cases h
  ·cases h
theorem new_load {t:Nat} {x:Operand} (hdo:dstOk cx.n o.dst = true) (ho:o.op = .load t x) (h:stepNew cx σ o k = some (some r)):∃ e,k e = some r ∧ OpOK cx.T cx.n σ o e:=by
 simp only [stepNew,ho] at h
 split at h
 ·rename_i a1 hx
  split at h
  ·rename_i id i e xs hb
   injection h with h
   obtain ⟨rfl,hm⟩:=bytAt_ok hb
   cases hu:isU8 cx.T t with
   | false => rw [hu] at h; cases h
   | true =>
    rw [hu] at h
    simp only [cond_true] at h
    cases hy:xs[i]? with
    | none => rw [hy] at h; cases h
    | some y =>
     rw [hy] at h
     simp only [Option.bind_some] at h
     obtain ⟨ti,u1,u2,u3,hw1⟩:=isU8_ok hu
     refine ⟨_,h,op_pure' hdo rfl fun C gh σ' a w hag hs => ?_⟩
     have hm':σ'.blk id = some (.byt e xs):=by rw [agree_m hag (by simp)]; exact hm
     obtain ⟨_,b,n,c,p2,p3⟩:=(ev_at hag hs (by intro q hq; simp [hq]) hx:RepC gh σ'.blk w (.eo id i 1 0) (a.eval x))
     obtain ⟨g,c',cur,fz,q1,q2,q3,q4,q5⟩:=hs.heap.blk id _ hm'
     rw [q1] at p2
     injection p2 with p2
     injection p2 with p2
     injection p2 with p2
     subst p2
     have hc:=byt_cell q2 q5 hy
     rw [Nat.mul_one,Nat.add_zero] at p3
     have hagg:ti.agg = false:=by rw [u1.agg,u2]; rfl
     exact ⟨.int .u8 y,by simp [execOp,ho,p3,Instr.loadAt,Instr.sureAddr,loadVar,run_isAgg u1,hagg,hc],rfl⟩
  ·cases h
 ·cases h
theorem new_store {t:Nat} {x y:Operand} (hdo:dstOk cx.n o.dst = true) (ho:o.op = .store t x y) (h:stepNew cx σ o k = some (some r)):∃ e,k e = some r ∧ OpOK cx.T cx.n σ o e:=by
 simp only [stepNew,ho] at h
 split at h
 ·rename_i a1 hx
  split at h
  ·rename_i id i e xs hb
   injection h with h
   obtain ⟨rfl,hm⟩:=bytAt_ok hb
   split at h
   ·rename_i v hv
    cases hu:isU8 cx.T t with
    | false => rw [hu] at h; cases h
    | true =>
     rw [hu] at h
     simp only [cond_true] at h
     cases hy:xs[i]? with
     | none => rw [hy] at h; cases h
     | some y0 =>
      rw [hy] at h
      simp only [Option.bind_some] at h
      obtain ⟨ti,u1,u2,u3,hw1⟩:=isU8_ok hu
      refine ⟨_,h,?_⟩
      intro C gh σ' a w next Q hn hag hs hk
      have hm':σ'.blk id = some (.byt e xs):=by rw [agree_m hag (by simp)]; exact hm
      obtain ⟨_,b,n,c,p2,p3⟩:=(ev_at hag hs (by intro q hq; simp [hq]) hx:RepC gh σ'.blk w (.eo id i 1 0) (a.eval x))
      have hvv:a.eval y = .int .u8 v:=ev_at hag hs (by intro q hq; simp [hq]) hv
      obtain ⟨g,c',cur,fz,q1,q2,q3,q4,q5⟩:=hs.heap.blk id _ hm'
      rw [q1] at p2
      injection p2 with p2
      injection p2 with p2
      injection p2 with p2
      subst p2
      rw [Nat.mul_one,Nat.add_zero] at p3
      have hci:=q5 i y0 hy
      have hlt:i < cur.size:=(Array.getElem?_eq_some_iff.1 hci).1
      have hst:=run_store_byt (P:=cx.T) q2 hlt q4 (.int .u8 v) rfl
      obtain ⟨inf,j1,j2,j3,z,j4,j5⟩:=u1.info
      have hrun:(execOp a.eval o).run cx.T w = .ok .skip (w.setCells g i [.int .u8 v]):=by
       simp [execOp,ho,p3,hvv,Instr.storeAt,Instr.sureAddr,storeVar,run_sizeOf u1,hw1,hst,Value.cells]
      have hS1:w.setCells g i [.int .u8 v] = w.setCell ⟨g,i,none⟩ (.int .u8 v):=rfl
      have hgl:g < w.heap.size:=(Array.getElem?_eq_some_iff.1 q2).1
      have hG:w.grownBy (w.setCells g i [.int .u8 v]) (some g):=by
       rw [hS1]
       refine ⟨rfl,rfl,rfl,by simp [World.setCell],fun k' hk' hne => ?_⟩
       have hne':g ≠ k':=fun e => hne (by rw [e])
       simp [World.setCell,Array.getElem?_modify,hne']
      have hput:=heap_put hs.heap hm' rfl (b':=.byt e (xs.set i v)) rfl (g:=g) (by simp [Gh.blk,q1,blockOfV]) (w':=w.setCells g i [.int .u8 v]) (fun x h => h) (Nat.le_refl _) hG (fun hc hext => by
       refine ⟨g,c',cur.set i (.int .u8 v) hlt,fz,by rw [List.length_set]; exact q1,?_,by rw [List.length_set]; exact q3,by simpa using q4,?_⟩
       ·rw [hS1]
        have q2':w.heap[g] = .cells cur e fz:=by have:=(Array.getElem?_eq_some_iff.1 q2).2; exact this
        simp [World.setCell,Array.getElem?_modify,q2,q2']
        simp [Array.setIfInBounds,hlt]
       ·intro j x hjx
        rw [List.getElem?_set] at hjx
        by_cases hij:i = j
        ·subst hij
         rw [if_pos rfl] at hjx
         split at hjx
         ·injection hjx with hjx; subst hjx; simp
         ·cases hjx
        ·rw [if_neg hij] at hjx
         rw [Array.getElem?_set,if_neg hij]
         exact q5 j x hjx)
      obtain ⟨hH,hT,hext⟩:=hput
      exact wp_skip hrun (hk gh _ _ (sim_step hs (hn.1 ▸ hdo) hT hH hext fun _ => trivial))
   ·cases h
  ·cases h
 ·cases h
theorem new_slice {t:Nat} {x:Operand} {lo hi mx:Option Operand} (hdo:dstOk cx.n o.dst = true) (ho:o.op = .slice t x lo hi mx) (h:stepNew cx σ o k = some (some r)):∃ e,k e = some r ∧ OpOK cx.T cx.n σ o e:=by
 simp only [stepNew,ho] at h
 cases hmk:marked cx (o.dst.getD 0) with
 | false => rw [hmk] at h; cases h
 | true =>
  rw [hmk] at h
  simp only [cond_true] at h
  injection h with h
  cases hno:(lo.isSome || (mx.isSome && hi.isNone)) with
  | true => rw [hno] at h; cases h
  | false =>
   rw [hno] at h
   simp only [cond_false] at h
   simp only [Bool.or_eq_false_iff] at hno
   have hlo:lo = none:=by cases lo <;> simp_all
   have hmx:mx = none ∨ ∃ m0 h0,mx = some m0 ∧ hi = some h0:=by
    cases mx with
    | none => exact .inl rfl
    | some m0 => cases hi with
     | none => simp at hno
     | some h0 => exact .inr ⟨m0,h0,rfl,rfl⟩
   subst hlo
   split at h
   ·rename_i hx
    split at h
    ·rename_i te hh mm hel hhi hmm
     cases hz:(hh == 0 && mm == 0) with
     | false => rw [hz] at h; cases h
     | true =>
      rw [hz] at h
      simp only [cond_true] at h
      simp only [Bool.and_eq_true,beq_iff_eq] at hz
      obtain ⟨hz,hz'⟩:=hz
      subst hz hz'
      obtain ⟨h7,h8⟩:=elemOf_ok hel
      have he:cx.T.elem t = te.1:=by simp [Program.elem,h7]
      refine ⟨_,h,op_pure' hdo rfl fun C gh σ' a w hag hs => ?_⟩
      have hrep:a.eval x = .slice none 0 0:=ev_at hag hs (by intro q hq; simp [hq]) hx
      refine ⟨.slice none 0 0,?_,rfl⟩
      have hb:(Instr.sliceBounds true 0 0 none (hi.map a.eval) (mx.map a.eval)).run cx.T w = .ok (0,0,0) w:=by
       rcases hmx with rfl | ⟨m0,h0,rfl,rfl⟩
       ·exact run_bounds (P:=cx.T) (w:=w) true 0 0 none (hi.map a.eval) 0 0 (.inl ⟨rfl,rfl⟩) (hiOf_rep hag hs hhi (by intro q hq; simp [hq])) (by omega) (by omega) (by omega)
       ·rcases hiOf_rep hag hs hhi (by intro q hq; simp at hq; simp [hq]) with ⟨e1,_⟩ | ⟨k1,e1⟩
        ·cases e1
        ·rcases hiOf_rep hag hs hmm (by intro q hq; simp at hq; simp [hq]) with ⟨e2,_⟩ | ⟨k2,e2⟩
         ·cases e2
         ·rw [e1,e2]
          exact run_bounds3 (P:=cx.T) (w:=w) 0 0 none 0 0 0 (.inl ⟨rfl,rfl⟩) (by omega) (by omega) (by omega) (by omega)
      simp [execOp,ho,hrep,run_sliceAt_slice (h:=by rw [he]; exact h7),Instr.slice,run_underlying h7,hb,run_sizeOf h8]
    ·cases h
   ·rename_i id hx
    split at h
    ·rename_i e te e' ty xs hel hm hfr
     split at h
     ·rename_i hh mm hhi hmm
      cases hc:(Nat.beq ty.width te.width && (decide (0 ≤ hh) && (decide (hh ≤ mm) && decide (mm ≤ (xs.length:Int))))) with
      | false => rw [hc] at h; cases h
      | true =>
       rw [hc] at h
       simp only [cond_true] at h
       simp only [Bool.and_eq_true,decide_eq_true_eq] at hc
       obtain ⟨c1,c2,c3,c4⟩:=hc
       have c2:@LE.le Int _ 0 hh:=c2
       have c3:@LE.le Int _ hh mm:=c3
       have c4:@LE.le Int _ mm xs.length:=c4
       have c1:=beq_true.1 c1
       obtain ⟨h7,h8⟩:=elemOf_ok hel
       have he:cx.T.elem t = e:=by simp [Program.elem,h7]
       refine ⟨_,h,?_⟩
       intro C gh σ' a w next Q hn hag hs hk
       have hm':σ'.blk id = some (.lst e' ty xs false):=by rw [agree_m hag (by simp)]; exact hm
       have hf':σ'.blk (o.dst.getD 0) = none:=by rw [agree_m hag (by simp)]; exact hfr
       have hrep:RepC gh σ'.blk w (.own id) (a.eval x):=ev_at hag hs (by intro q hq; simp [hq]) hx
       obtain ⟨vs,g1,g2,g3,_⟩:=hs.heap.blk id _ hm'
       have hhir:=hiOf_rep hag hs hhi (by intro q hq; simp [hq])
       have hrun:∃ v',(execOp a.eval o).run cx.T w = .ok (.value v') w ∧ ((gh.val id = .slice none 0 0 ∧ v' = .slice none 0 0) ∨ ∃ g cap cp,gh.val id = .slice (some ⟨g,0,none⟩) xs.length cap ∧ v' = .slice (some ⟨g,0,none⟩) hh.toNat cp ∧ hh.toNat ≤ cp ∧ cp ≤ cap):=by
        rcases g1.2 with ⟨q1,q2⟩ | ⟨g,cap,cur,q1,q2,q3,q4,q5⟩
        ·have hx0:xs.length = 0:=q2
         have hh0:hh = 0:=by omega
         have hm0:mm = 0:=by omega
         subst hh0 hm0
         rw [hx0] at hhir
         have hb:(Instr.sliceBounds true 0 0 none (hi.map a.eval) (mx.map a.eval)).run cx.T w = .ok (0,0,0) w:=by
          rcases hmx with rfl | ⟨m0,h0,rfl,rfl⟩
          ·exact run_bounds (P:=cx.T) (w:=w) true 0 0 none (hi.map a.eval) 0 0 (.inl ⟨rfl,rfl⟩) hhir (by omega) (by omega) (by omega)
          ·rcases hhir with ⟨e1,_⟩ | ⟨k1,e1⟩
           ·cases e1
           ·rcases hiOf_rep hag hs hmm (by intro q hq; simp at hq; simp [hq]) with ⟨e2,_⟩ | ⟨k2,e2⟩
            ·cases e2
            ·rw [e1,e2]
             exact run_bounds3 (P:=cx.T) (w:=w) 0 0 none 0 0 0 (.inl ⟨rfl,rfl⟩) (by omega) (by omega) (by omega) (by omega)
         exact ⟨.slice none 0 0,by simp [execOp,ho,hrep.2.1,q1,run_sliceAt_slice (h:=by rw [he]; exact h7),Instr.slice,run_underlying h7,hb,run_sizeOf h8],.inl ⟨q1,rfl⟩⟩
        ·rcases hmx with rfl | ⟨m0,h0,rfl,rfl⟩
         ·have hb:=run_bounds (P:=cx.T) (w:=w) true xs.length cap none (hi.map a.eval) 0 hh (.inl ⟨rfl,rfl⟩) hhir (by omega) c2 (by omega)
          refine ⟨.slice (some ⟨g,0,none⟩) hh.toNat cap,?_,.inr ⟨g,cap,cap,q1,rfl,by omega,Nat.le_refl _⟩⟩
          simp [execOp,ho,hrep.2.1,q1,run_sliceAt_slice (h:=by rw [he]; exact h7),Instr.slice,run_underlying h7,hb,run_sizeOf h8,add_plain]
         ·rcases hhir with ⟨e1,_⟩ | ⟨k1,e1⟩
          ·cases e1
          ·rcases hiOf_rep hag hs hmm (by intro q hq; simp at hq; simp [hq]) with ⟨e2,_⟩ | ⟨k2,e2⟩
           ·cases e2
           ·have hb:=run_bounds3 (P:=cx.T) (w:=w) xs.length cap none 0 hh mm (.inl ⟨rfl,rfl⟩) (k':=k1) (k'':=k2) (by omega) c2 c3 (by omega)
            simp only [Option.map_some,Option.some.injEq] at e1 e2
            refine ⟨.slice (some ⟨g,0,none⟩) hh.toNat mm.toNat,?_,.inr ⟨g,cap,mm.toNat,q1,rfl,by omega,by omega⟩⟩
            simp [execOp,ho,hrep.2.1,q1,run_sliceAt_slice (h:=by rw [he]; exact h7),Instr.slice,run_underlying h7,e1,e2,hb,run_sizeOf h8,add_plain]
       obtain ⟨v',hrun,hv⟩:=hrun
       obtain ⟨hH,hT,hext⟩:=heap_cut hs.heap hf' (dst_pin hdo) hm' (n:=hh.toNat) (by omega) hv
       have hap:∀ i,(σ'.apply o.dst { put:=one (.own (o.dst.getD 0)),blks:=[(o.dst.getD 0,.lst e' ty (xs.take hh.toNat) false),(id,.dead)],rd:=Key.m (o.dst.getD 0) :: Key.m id :: opKeys x ++ hi.elim [] opKeys ++ mx.elim [] opKeys }).blk i = upd (upd σ'.blk id .dead) (o.dst.getD 0) (.lst e' ty (xs.take hh.toNat) false) i:=fun i => rfl
       have hap:=funext hap
       refine wp_value hrun (hk _ _ _ (sim_step hs (hn.1 ▸ hdo) (by rw [hap]; exact hT) (by rw [hap]; exact hH) (by rw [hap]; exact hext) fun _ => ?_))
       rw [hap]
       refine ⟨by rw [upd_same]; simp,by simp,?_⟩
       rcases hv with ⟨_,h⟩ | ⟨g,cap,cp,_,h,_⟩ <;> exact ⟨_,_,_,h⟩
     ·cases h
    ·cases h
   ·rename_i id lo0 hi0 wd hx
    split at h
    ·rename_i e te e' ty xs hel hm hfr
     split at h
     ·rename_i hh mm hhi hmm
      cases hc:(Nat.beq lo0 0 && (Nat.beq ty.width te.width && (decide (0 ≤ hh) && (decide (hh ≤ mm) && decide (mm ≤ ((hi0 - lo0:Nat):Int)))))) with
      | false => rw [hc] at h; cases h
      | true =>
       rw [hc] at h
       simp only [cond_true] at h
       simp only [Bool.and_eq_true,decide_eq_true_eq] at hc
       obtain ⟨c0,c1,c2,c3,c4⟩:=hc
       have c2:@LE.le Int _ 0 hh:=c2
       have c3:@LE.le Int _ hh mm:=c3
       have c4:@LE.le Int _ mm ((hi0 - lo0:Nat):Int):=c4
       have c0:=beq_true.1 c0
       subst c0
       have c1:=beq_true.1 c1
       obtain ⟨h7,h8⟩:=elemOf_ok hel
       have he:cx.T.elem t = e:=by simp [Program.elem,h7]
       refine ⟨_,h,?_⟩
       intro C gh σ' a w next Q hn hag hs hk
       have hm':σ'.blk id = some (.lst e' ty xs false):=by rw [agree_m hag (by simp)]; exact hm
       have hf':σ'.blk (o.dst.getD 0) = none:=by rw [agree_m hag (by simp)]; exact hfr
       obtain ⟨r1,r2,a0,n0,k0,av,cv,r3,r4,r5,r6,r7,r8,r9,r10⟩:=(ev_at hag hs (by intro q hq; simp [hq]) hx:RepC gh σ'.blk w (.os id 0 hi0 wd) (a.eval x))
       have r10:=r10 rfl
       subst r10
       obtain ⟨vs,g1,g2,g3,_⟩:=hs.heap.blk id _ hm'
       have hhir:=hiOf_rep hag hs hhi (by intro q hq; simp [hq])
       rw [Nat.sub_zero] at r5 r6 hhir c4
       have hrun:∃ v',(execOp a.eval o).run cx.T w = .ok (.value v') w ∧ ((gh.val id = .slice none 0 0 ∧ v' = .slice none 0 0) ∨ ∃ g cap cp,gh.val id = .slice (some ⟨g,0,none⟩) xs.length cap ∧ v' = .slice (some ⟨g,0,none⟩) hh.toNat cp ∧ hh.toNat ≤ cp ∧ cp ≤ cap):=by
        rcases g1.2 with ⟨q1,q2⟩ | ⟨g,cap,cur,q1,q2,q3,q4,q5⟩
        ·rw [r3] at q1
         injection q1 with q1a q1b q1c
         subst q1a q1b q1c
         have hi00:hi0 = 0:=by omega
         have hc0:cv = 0:=by omega
         subst hi00 hc0
         have hh0:hh = 0:=by omega
         have hm0:mm = 0:=by omega
         subst hh0 hm0
         have hb:(Instr.sliceBounds true 0 0 none (hi.map a.eval) (mx.map a.eval)).run cx.T w = .ok (0,0,0) w:=by
          rcases hmx with rfl | ⟨m0,h0,rfl,rfl⟩
          ·exact run_bounds (P:=cx.T) (w:=w) true 0 0 none (hi.map a.eval) 0 0 (.inl ⟨rfl,rfl⟩) hhir (by omega) (by omega) (by omega)
          ·rcases hhir with ⟨e1,_⟩ | ⟨k1,e1⟩
           ·cases e1
           ·rcases hiOf_rep hag hs hmm (by intro q hq; simp at hq; simp [hq]) with ⟨e2,_⟩ | ⟨k2,e2⟩
            ·cases e2
            ·rw [e1,e2]
             exact run_bounds3 (P:=cx.T) (w:=w) 0 0 none 0 0 0 (.inl ⟨rfl,rfl⟩) (by omega) (by omega) (by omega) (by omega)
         exact ⟨.slice none 0 0,by simp [execOp,ho,r5,run_sliceAt_slice (h:=by rw [he]; exact h7),Instr.slice,run_underlying h7,hb,run_sizeOf h8],.inl ⟨r3,rfl⟩⟩
        ·rw [r3] at q1
         injection q1 with q1a q1b q1c
         subst q1a q1b q1c
         rcases hmx with rfl | ⟨m0,h0,rfl,rfl⟩
         ·have hb:=run_bounds (P:=cx.T) (w:=w) true hi0 cv none (hi.map a.eval) 0 hh (.inl ⟨rfl,rfl⟩) hhir (by omega) c2 (by omega)
          refine ⟨.slice (some ⟨g,0,none⟩) hh.toNat cv,?_,.inr ⟨g,k0,cv,r3,rfl,by omega,by omega⟩⟩
          simp [execOp,ho,r5,run_sliceAt_slice (h:=by rw [he]; exact h7),Instr.slice,run_underlying h7,hb,run_sizeOf h8,add_plain]
         ·rcases hhir with ⟨e1,_⟩ | ⟨k1,e1⟩
          ·cases e1
          ·rcases hiOf_rep hag hs hmm (by intro q hq; simp at hq; simp [hq]) with ⟨e2,_⟩ | ⟨k2,e2⟩
           ·cases e2
           ·have hb:=run_bounds3 (P:=cx.T) (w:=w) hi0 cv none 0 hh mm (.inl ⟨rfl,rfl⟩) (k':=k1) (k'':=k2) (by omega) c2 c3 (by omega)
            simp only [Option.map_some,Option.some.injEq] at e1 e2
            refine ⟨.slice (some ⟨g,0,none⟩) hh.toNat mm.toNat,?_,.inr ⟨g,k0,mm.toNat,r3,rfl,by omega,by omega⟩⟩
            simp [execOp,ho,r5,run_sliceAt_slice (h:=by rw [he]; exact h7),Instr.slice,run_underlying h7,e1,e2,hb,run_sizeOf h8,add_plain]
       have hxl:hi0 ≤ xs.length:=by
        rcases g1.2 with ⟨q1,q2⟩ | ⟨g,cap,cur,q1,_⟩
        ·rw [r3] at q1; injection q1 with _ q1b _; omega
        ·rw [r3] at q1; injection q1 with _ q1b _; omega
       obtain ⟨v',hrun,hv⟩:=hrun
       obtain ⟨hH,hT,hext⟩:=heap_cut hs.heap hf' (dst_pin hdo) hm' (n:=hh.toNat) (by omega) hv
       have hap:∀ i,(σ'.apply o.dst { put:=one (.own (o.dst.getD 0)),blks:=[(o.dst.getD 0,.lst e' ty (xs.take hh.toNat) false),(id,.dead)],rd:=Key.m (o.dst.getD 0) :: Key.m id :: opKeys x ++ hi.elim [] opKeys ++ mx.elim [] opKeys }).blk i = upd (upd σ'.blk id .dead) (o.dst.getD 0) (.lst e' ty (xs.take hh.toNat) false) i:=fun i => rfl
       have hap:=funext hap
       refine wp_value hrun (hk _ _ _ (sim_step hs (hn.1 ▸ hdo) (by rw [hap]; exact hT) (by rw [hap]; exact hH) (by rw [hap]; exact hext) fun _ => ?_))
       rw [hap]
       refine ⟨by rw [upd_same]; simp,by simp,?_⟩
       rcases hv with ⟨_,h⟩ | ⟨g,cap,cp,_,h,_⟩ <;> exact ⟨_,_,_,h⟩
     ·cases h
    ·cases h
   ·cases h
theorem new_convert {s t:Nat} {x:Operand} (hdo:dstOk cx.n o.dst = true) (ho:o.op = .convert s t x) (h:stepNew cx σ o k = some (some r)):∃ e,k e = some r ∧ OpOK cx.T cx.n σ o e:=by
 simp only [stepNew,ho] at h
 split at h
 ·rename_i ik n hx
  cases hi:intTo cx.T s t with
  | false => rw [hi] at h; cases h
  | true =>
   rw [hi] at h
   simp only [cond_true] at h
   injection h with h
   unfold intTo at hi
   simp only [Bool.and_eq_true] at hi
   obtain ⟨h1,h2⟩:=hi
   split at h2
   ·rename_i ki hs
    refine ⟨_,h,op_pure' hdo rfl fun C gh σ' a w hag hsim => ?_⟩
    have hv:a.eval x = .int ik n:=ev_at hag hsim (by intro q hq; simp [hq]) hx
    exact ⟨.string (Utf8.encode n),by simp [execOp,ho,hv,convert,run_underlying hs,run_underlying (isStrTy_ok h1),Conv.intToString],rfl⟩
   ·cases h2
 ·rename_i z hx
  cases hb:isBytesTy cx.T t with
  | false => rw [hb] at h; cases h
  | true =>
   rw [hb] at h
   simp only [cond_true] at h
   injection h with h
   split at h
   ·rename_i e te hel hfr
    cases hc:(isStrTy cx.T s && isU8 cx.T e) with
    | false => rw [hc] at h; cases h
    | true =>
     rw [hc] at h
     simp only [cond_true] at h
     simp only [Bool.and_eq_true] at hc
     obtain ⟨ti,u1,u2,u3,_⟩:=isU8_ok hc.2
     obtain ⟨h7,h8⟩:=elemOf_ok hel
     refine ⟨_,h,?_⟩
     intro C gh σ' a w next Q hn hag hs hk
     have hf':σ'.blk (o.dst.getD 0) = none:=by rw [agree_m hag (by simp)]; exact hfr
     have hv:a.eval x = .string z:=ev_at hag hs (by intro q hq; simp [hq]) hx
     have hconv:=run_bytes_of_string (P:=cx.T) w s t e z (isStrTy_ok hc.1) h7 u3
     generalize hcur:bytesRow z (grownCap w z.size 0 e) = cur at hconv
     have hrun:(execOp a.eval o).run cx.T w = .ok (.value (.slice (some ⟨w.heap.size,0,none⟩) z.size (grownCap w z.size 0 e))) (w.drew.alloc (.cells cur e (cur.size,cur.size + 1))):=by
      simp [execOp,ho,hv,hconv]
     have hlen:((bl z).map fun b => (b.toNat:Int)).length = z.size:=by
      rw [List.length_map,← bl_eq,Lib.toList_data,← Lib.size_eq]
     have hB:Below w.heap.size w (w.drew.alloc (.cells cur e (cur.size,cur.size + 1))):=((Below.refl _ w).drew).alloc (Nat.le_refl _) _
     have hnew:=heap_new hs.heap hf' (dst_pin hdo) (b:=.byt e ((bl z).map fun b => (b.toNat:Int))) (v:=.slice (some ⟨w.heap.size,0,none⟩) z.size (grownCap w z.size 0 e)) (w':=w.drew.alloc (.cells cur e (cur.size,cur.size + 1))) (Nat.le_succ _) hB
      (by intro k hk; simp [blockOfV] at hk; omega) gh.S (fun _ h => h) (fun x hx => .inl hx)
      (fun hext => by
       refine ⟨w.heap.size,grownCap w z.size 0 e,cur,(cur.size,cur.size + 1),?_,?_,?_,Nat.le_refl _,?_⟩
       ·simp only [Nat.beq_refl,cond_true,hlen]
       ·have:=heap_alloc_new w.drew (.cells cur e (cur.size,cur.size + 1))
        exact this
       ·rw [hlen]; exact grownCap_ge w z.size 0 e
       ·intro j y hj
        rw [List.getElem?_map] at hj
        cases hz:(bl z)[j]? with
        | none => rw [hz] at hj; cases hj
        | some b =>
         rw [hz] at hj
         simp at hj
         subst hj
         rw [← bl_eq,Lib.toList_data] at hz
         obtain ⟨hlt,he⟩:=List.getElem?_eq_some_iff.1 hz
         have hlt':j < z.data.size:=by simpa using hlt
         rw [← hcur,bytesRow_at z _ j hlt']
         simp at he
         rw [he])
     obtain ⟨hH,hT,hext⟩:=hnew
     refine wp_value hrun (hk _ _ _ (sim_step hs (hn.1 ▸ hdo) hT hH hext fun _ => ?_))
     refine ⟨by rw [blk_cons,upd_same]; simp,by simp,_,_,_,rfl⟩
   ·cases h
 ·rename_i id off hx
  split at h
  ·rename_i tid l hm
   cases hu:isUnsafe cx.T t with
   | true =>
    rw [hu] at h
    simp only [cond_true] at h
    injection h with h
    cases hc:(toUnsafe cx.T s && Nat.blt off l.length) with
    | false => rw [hc] at h; cases h
    | true =>
     rw [hc] at h
     simp only [cond_true] at h
     simp only [Bool.and_eq_true] at hc
     obtain ⟨te,j,j1,j2,j3⟩:=toUnsafe_ok hc.1
     have hlt:off < l.length:=Nat.le_of_ble_eq_true hc.2
     refine ⟨_,h,op_pure' hdo rfl fun C gh σ' a w hag hs => ?_⟩
     have hm':σ'.blk id = some (.box tid l):=by rw [agree_m hag (by simp)]; exact hm
     obtain ⟨p1,b,p2,p3⟩:RepC gh σ'.blk w (.ptr id off) (a.eval x):=ev_at hag hs (by intro q hq; simp [hq]) hx
     obtain ⟨g,vals,q1,q2,q3⟩:=hs.heap.blk id _ hm'
     rw [q1] at p2
     injection p2 with p2
     injection p2 with p2
     injection p2 with p2
     subst p2
     have hsz:vals.size = l.length:=by have:=q3.length; simp at this; exact this.symm
     have hr:=Lib.run_to_unsafe (P:=cx.T) w (src:=s) (dst:=t) ⟨g,off,none⟩ j1 (isUnsafe_ok hu) j2 j3 (e:=tid) (cells:=vals.size) (by unfold World.shape?; rw [q2]) (by rw [hsz]; exact hlt)
     exact ⟨_,by simp only [execOp,ho,p3,Sem.run_bind,hr,Result.andThen_ok,Sem.run_pure],p1,g,q1,rfl⟩
   | false =>
    rw [hu] at h
    simp only [cond_false] at h
    cases hu2:isUnsafe cx.T s with
    | false => rw [hu2] at h; cases h
    | true =>
     rw [hu2] at h
     simp only [cond_true] at h
     injection h with h
     cases hc:fromUnsafe cx.T tid l.length off t with
     | false => rw [hc] at h; cases h
     | true =>
      rw [hc] at h
      simp only [cond_true] at h
      obtain ⟨te,j,j1,j2,j3⟩:=fromUnsafe_ok hc
      refine ⟨_,h,op_pure' hdo rfl fun C gh σ' a w hag hs => ?_⟩
      have hm':σ'.blk id = some (.box tid l):=by rw [agree_m hag (by simp)]; exact hm
      obtain ⟨p1,b,p2,p3⟩:RepC gh σ'.blk w (.ptr id off) (a.eval x):=ev_at hag hs (by intro q hq; simp [hq]) hx
      obtain ⟨g,vals,q1,q2,q3⟩:=hs.heap.blk id _ hm'
      rw [q1] at p2
      injection p2 with p2
      injection p2 with p2
      injection p2 with p2
      subst p2
      have hsz:vals.size = l.length:=by have:=q3.length; simp at this; exact this.symm
      have hr:=Lib.run_from_unsafe (P:=cx.T) w (src:=s) (dst:=t) ⟨g,off,none⟩ (isUnsafe_ok hu2) j1 j2 (e:=tid) (cells:=vals.size) (by unfold World.shape?; rw [q2]) (by rw [hsz]; exact j3)
      exact ⟨_,by simp only [execOp,ho,p3,Sem.run_bind,hr,Result.andThen_ok,Sem.run_pure],p1,g,q1,rfl⟩
  ·cases h
 ·rename_i id hx
  split at h
  ·rename_i e xs hm
   injection h with h
   cases hc:(isBytesTy cx.T s && isStrTy cx.T t) with
   | false => rw [hc] at h; cases h
   | true =>
    rw [hc] at h
    simp only [cond_true] at h
    simp only [Bool.and_eq_true] at hc
    obtain ⟨e0,ht1,ht2⟩:=isBytesTy_ok hc.1
    refine ⟨_,h,op_pure' hdo rfl fun C gh σ' a w hag hs => ?_⟩
    have hm':σ'.blk id = some (.byt e xs):=by rw [agree_m hag (by simp)]; exact hm
    have hrep:RepC gh σ'.blk w (.own id) (a.eval x):=ev_at hag hs (by intro q hq; simp [hq]) hx
    obtain ⟨g,c,cur,fz,q1,q2,q3,q4,q5⟩:=hs.heap.blk id _ hm'
    refine ⟨.string (bstr xs),?_,rfl⟩
    simp only [execOp,ho,Sem.run_bind]
    rw [hrep.2.1,q1,run_convert_bytes_string w s t e0 (some ⟨g,0,none⟩) xs.length c ht1 ht2 (isStrTy_ok hc.2),run_bytesOf q2 q5]
    rfl
  ·cases h
 ·cases h
theorem new_binOp {op:BinOp} {t t':Nat} {x y:Operand} (hdo:dstOk cx.n o.dst = true) (ho:o.op = .binOp op t x y t') (h:stepNew cx σ o k = some (some r)):∃ e,k e = some r ∧ OpOK cx.T cx.n σ o e:=by
 simp only [stepNew,ho] at h
 have run1:∀ (e:Nat) (w:World) (p:Option Addr),cx.T.underlying t = some (.pointer e) → (Op.equal t (.pointer p) (.pointer none)).run cx.T w = .ok p.isNone w:=fun e w p ht => by
  exact run_equalIn_ptr w 9999 t p ht
 split at h
 ·rename_i hx hy
  cases hb:isPtrTy cx.T t with
  | false => rw [hb] at h; cases h
  | true =>
   rw [hb] at h
   simp only [cond_true] at h
   obtain ⟨e,ht⟩:=isPtrTy_ok hb
   split at h
   ·injection h with h
    refine ⟨_,h,op_pure' hdo rfl fun C gh σ' a w hag hs => ?_⟩
    have h1:a.eval x = .pointer none:=ev_at hag hs (by intro q hq; simp [hq]) hx
    have h2:a.eval y = .pointer none:=ev_at hag hs (by intro q hq; simp [hq]) hy
    exact ⟨.bool true,by simp [execOp,ho,h1,h2,eqGuard,binOp,run1 e w _ ht],rfl⟩
   ·injection h with h
    refine ⟨_,h,op_pure' hdo rfl fun C gh σ' a w hag hs => ?_⟩
    have h1:a.eval x = .pointer none:=ev_at hag hs (by intro q hq; simp [hq]) hx
    have h2:a.eval y = .pointer none:=ev_at hag hs (by intro q hq; simp [hq]) hy
    exact ⟨.bool false,by simp [execOp,ho,h1,h2,eqGuard,binOp,run1 e w _ ht],rfl⟩
   ·cases h
 ·rename_i id off hx hy
  cases hb:isPtrTy cx.T t with
  | false => rw [hb] at h; cases h
  | true =>
   rw [hb] at h
   simp only [cond_true] at h
   obtain ⟨e,ht⟩:=isPtrTy_ok hb
   split at h
   ·injection h with h
    refine ⟨_,h,op_pure' hdo rfl fun C gh σ' a w hag hs => ?_⟩
    obtain ⟨_,b,_,h1⟩:RepC gh σ'.blk w (.ptr id off) (a.eval x):=ev_at hag hs (by intro q hq; simp [hq]) hx
    have h2:a.eval y = .pointer none:=ev_at hag hs (by intro q hq; simp [hq]) hy
    exact ⟨.bool false,by simp [execOp,ho,h1,h2,eqGuard,binOp,run1 e w _ ht],rfl⟩
   ·injection h with h
    refine ⟨_,h,op_pure' hdo rfl fun C gh σ' a w hag hs => ?_⟩
    obtain ⟨_,b,_,h1⟩:RepC gh σ'.blk w (.ptr id off) (a.eval x):=ev_at hag hs (by intro q hq; simp [hq]) hx
    have h2:a.eval y = .pointer none:=ev_at hag hs (by intro q hq; simp [hq]) hy
    exact ⟨.bool true,by simp [execOp,ho,h1,h2,eqGuard,binOp,run1 e w _ ht],rfl⟩
   ·cases h
 ·rename_i id off b hx hy
  cases hb:isPtrTy cx.T t with
  | false => rw [hb] at h; cases h
  | true =>
   rw [hb] at h
   simp only [cond_true] at h
   obtain ⟨e,ht⟩:=isPtrTy_ok hb
   have hval:∀ (C:Ctx) gh σ' (a:Act) (w:World),agree (opKeys x ++ opKeys y) σ σ' → Sim C gh σ' a w → ∃ p,a.eval x = .pointer p ∧ a.eval y = .pointer none ∧ p.isNone = b:=by
    intro C gh σ' a w hag hs
    have h2:a.eval y = .pointer none:=ev_at hag hs (by intro q hq; simp [hq]) hy
    have h1:RepC gh σ'.blk w (.pn id off b) (a.eval x):=ev_at hag hs (by intro q hq; simp [hq]) hx
    rcases h1 with ⟨rfl,h1⟩ | ⟨rfl,_,g,_,h1⟩
    ·exact ⟨_,h1,h2,rfl⟩
    ·exact ⟨_,h1,h2,rfl⟩
   split at h
   ·injection h with h
    refine ⟨_,h,op_pure' hdo rfl fun C gh σ' a w hag hs => ?_⟩
    obtain ⟨p,h1,h2,h3⟩:=hval C gh σ' a w hag hs
    exact ⟨.bool b,by simp [execOp,ho,h1,h2,eqGuard,binOp,run1 e w _ ht,h3],rfl⟩
   ·injection h with h
    refine ⟨_,h,op_pure' hdo rfl fun C gh σ' a w hag hs => ?_⟩
    obtain ⟨p,h1,h2,h3⟩:=hval C gh σ' a w hag hs
    exact ⟨.bool (!b),by simp [execOp,ho,h1,h2,eqGuard,binOp,run1 e w _ ht,h3],rfl⟩
   ·cases h
 ·rename_i i o1 b i' o' hx hy
  cases hb:(ptrKnown cx.T t && (Nat.beq i i' && Nat.beq o1 o')) with
  | false => rw [hb] at h; cases h
  | true =>
   rw [hb] at h
   simp only [cond_true] at h
   simp only [Bool.and_eq_true] at hb
   obtain ⟨e,j,ht,hj⟩:=ptrKnown_ok hb.1
   have e1:=beq_true.1 hb.2.1
   have e2:=beq_true.1 hb.2.2
   subst e1 e2
   have hval:∀ (C:Ctx) gh σ' (a:Act) (w:World),agree (opKeys x ++ opKeys y) σ σ' → Sim C gh σ' a w → ∃ p q,a.eval x = .pointer p ∧ a.eval y = .pointer (some q) ∧ ((b = true ∧ p = none) ∨ (b = false ∧ p = some q)):=by
    intro C gh σ' a w hag hs
    obtain ⟨_,g',p2,h2⟩:RepC gh σ'.blk w (.ptr i o1) (a.eval y):=ev_at hag hs (by intro q hq; simp [hq]) hy
    have h1:RepC gh σ'.blk w (.pn i o1 b) (a.eval x):=ev_at hag hs (by intro q hq; simp [hq]) hx
    rcases h1 with ⟨rfl,h1⟩ | ⟨rfl,_,g,q2,h1⟩
    ·exact ⟨_,_,h1,h2,.inl ⟨rfl,rfl⟩⟩
    ·rw [p2] at q2
     injection q2 with q2
     injection q2 with q2
     injection q2 with q2
     subst q2
     exact ⟨_,_,h1,h2,.inr ⟨rfl,rfl⟩⟩
   split at h
   ·injection h with h
    refine ⟨_,h,op_pure' hdo rfl fun C gh σ' a w hag hs => ?_⟩
    obtain ⟨p,q,h1,h2,⟨rfl,rfl⟩ | ⟨rfl,rfl⟩⟩:=hval C gh σ' a w hag hs
    ·exact ⟨.bool false,by simp only [execOp,ho,h1,h2,Sem.run_bind,run_eqGuard_ptr,Result.andThen_ok]; rw [run_eql_ptr_nil w q ht]; rfl,rfl⟩
    ·exact ⟨.bool true,by simp only [execOp,ho,h1,h2,Sem.run_bind,run_eqGuard_ptr,Result.andThen_ok]; rw [run_eql_ptr_same w q ht hj]; rfl,rfl⟩
   ·injection h with h
    refine ⟨_,h,op_pure' hdo rfl fun C gh σ' a w hag hs => ?_⟩
    obtain ⟨p,q,h1,h2,⟨rfl,rfl⟩ | ⟨rfl,rfl⟩⟩:=hval C gh σ' a w hag hs
    ·exact ⟨.bool true,by simp only [execOp,ho,h1,h2,Sem.run_bind,run_eqGuard_ptr,Result.andThen_ok]; rw [run_neq_ptr_nil w q ht]; rfl,rfl⟩
    ·exact ⟨.bool false,by simp only [execOp,ho,h1,h2,Sem.run_bind,run_eqGuard_ptr,Result.andThen_ok]; rw [Lib.run_neq_ptr_same w q ht hj]; rfl,rfl⟩
   ·cases h
 ·rename_i i o1 i' o' hx hy
  cases hb:(ptrKnown cx.T t && (Nat.beq i i' && Nat.beq o1 o')) with
  | false => rw [hb] at h; cases h
  | true =>
   rw [hb] at h
   simp only [cond_true] at h
   simp only [Bool.and_eq_true] at hb
   obtain ⟨e,j,ht,hj⟩:=ptrKnown_ok hb.1
   have e1:=beq_true.1 hb.2.1
   have e2:=beq_true.1 hb.2.2
   subst e1 e2
   have hval:∀ (C:Ctx) gh σ' (a:Act) (w:World),agree (opKeys x ++ opKeys y) σ σ' → Sim C gh σ' a w → ∃ q,a.eval x = .pointer (some q) ∧ a.eval y = .pointer (some q):=by
    intro C gh σ' a w hag hs
    obtain ⟨_,g',p2,h2⟩:RepC gh σ'.blk w (.ptr i o1) (a.eval y):=ev_at hag hs (by intro q hq; simp [hq]) hy
    obtain ⟨_,g,q2,h1⟩:RepC gh σ'.blk w (.ptr i o1) (a.eval x):=ev_at hag hs (by intro q hq; simp [hq]) hx
    rw [p2] at q2
    injection q2 with q2
    injection q2 with q2
    injection q2 with q2
    subst q2
    exact ⟨_,h1,h2⟩
   split at h
   ·injection h with h
    refine ⟨_,h,op_pure' hdo rfl fun C gh σ' a w hag hs => ?_⟩
    obtain ⟨q,h1,h2⟩:=hval C gh σ' a w hag hs
    exact ⟨.bool true,by simp only [execOp,ho,h1,h2,Sem.run_bind,run_eqGuard_ptr,Result.andThen_ok]; rw [run_eql_ptr_same w q ht hj]; rfl,rfl⟩
   ·injection h with h
    refine ⟨_,h,op_pure' hdo rfl fun C gh σ' a w hag hs => ?_⟩
    obtain ⟨q,h1,h2⟩:=hval C gh σ' a w hag hs
    exact ⟨.bool false,by simp only [execOp,ho,h1,h2,Sem.run_bind,run_eqGuard_ptr,Result.andThen_ok]; rw [Lib.run_neq_ptr_same w q ht hj]; rfl,rfl⟩
   ·cases h
 ·rename_i id i wd off hx hy
  cases hb:isPtrTy cx.T t with
  | false => rw [hb] at h; cases h
  | true =>
   rw [hb] at h
   simp only [cond_true] at h
   obtain ⟨e,ht⟩:=isPtrTy_ok hb
   split at h
   ·injection h with h
    refine ⟨_,h,op_pure' hdo rfl fun C gh σ' a w hag hs => ?_⟩
    obtain ⟨_,b,n,c,_,h1⟩:RepC gh σ'.blk w (.eo id i wd off) (a.eval x):=ev_at hag hs (by intro q hq; simp [hq]) hx
    have h2:a.eval y = .pointer none:=ev_at hag hs (by intro q hq; simp [hq]) hy
    exact ⟨.bool false,by simp [execOp,ho,h1,h2,eqGuard,binOp,run1 e w _ ht],rfl⟩
   ·injection h with h
    refine ⟨_,h,op_pure' hdo rfl fun C gh σ' a w hag hs => ?_⟩
    obtain ⟨_,b,n,c,_,h1⟩:RepC gh σ'.blk w (.eo id i wd off) (a.eval x):=ev_at hag hs (by intro q hq; simp [hq]) hx
    have h2:a.eval y = .pointer none:=ev_at hag hs (by intro q hq; simp [hq]) hy
    exact ⟨.bool true,by simp [execOp,ho,h1,h2,eqGuard,binOp,run1 e w _ ht],rfl⟩
   ·cases h
 ·rename_i id hx hy
  split at h
  ·rename_i e0 r0 xs fz hm
   cases hb:isSlcTy cx.T t with
   | false => rw [hb] at h; cases h
   | true =>
    rw [hb] at h
    simp only [cond_true] at h
    have hval:∀ (C:Ctx) gh σ' (a:Act) (w:World),agree (.m id :: opKeys x ++ opKeys y) σ σ' → Sim C gh σ' a w → ∃ ad n cap,a.eval x = .slice ad n cap ∧ a.eval y = .slice none 0 0 ∧ (xs.isEmpty = false → ad ≠ none):=by
     intro C gh σ' a w hag hs
     have hm':σ'.blk id = some (.lst e0 r0 xs fz):=by rw [agree_m hag (by simp)]; exact hm
     obtain ⟨_,h1,_⟩:RepC gh σ'.blk w (.own id) (a.eval x):=ev_at hag hs (by intro q hq; simp [hq]) hx
     have h2:a.eval y = .slice none 0 0:=ev_at hag hs (by intro q hq; simp [hq]) hy
     obtain ⟨vs,g1,_⟩:=hs.heap.blk id _ hm'
     rcases g1.2 with ⟨q1,q2⟩ | ⟨g,cap,cur,q1,_⟩
     ·exact ⟨none,0,0,h1.trans q1,h2,fun hne => by cases xs with
       | nil => cases hne
       | cons _ _ => simp at q2⟩
     ·exact ⟨_,_,_,h1.trans q1,h2,fun _ hn => by cases hn⟩
    split at h
    ·injection h with h
     refine ⟨_,h,op_pure' hdo rfl fun C gh σ' a w hag hs => ?_⟩
     obtain ⟨ad,n,cap,h1,h2,h3⟩:=hval C gh σ' a w hag hs
     obtain ⟨zv,z1,z2⟩:=slc_nil (P:=cx.T) (op:=.eql) (t:=t) (x:=x) (y:=y) (ad:=ad) (n:=n) (cap:=cap) (gh:=gh) (m:=σ'.blk) (w:=w) (e:=xs.isEmpty) (z:=.q xs.isEmpty false) h3 (by rw [hb]; rfl)
     refine ⟨zv,?_,z2⟩
     simp only [execOp,ho,h1,h2]
     simp only [Sem.run_bind] at z1 ⊢
     simp_all
    ·injection h with h
     refine ⟨_,h,op_pure' hdo rfl fun C gh σ' a w hag hs => ?_⟩
     obtain ⟨ad,n,cap,h1,h2,h3⟩:=hval C gh σ' a w hag hs
     obtain ⟨zv,z1,z2⟩:=slc_nil (P:=cx.T) (op:=.neq) (t:=t) (x:=x) (y:=y) (ad:=ad) (n:=n) (cap:=cap) (gh:=gh) (m:=σ'.blk) (w:=w) (e:=xs.isEmpty) (z:=.q xs.isEmpty true) h3 (by rw [hb]; rfl)
     refine ⟨zv,?_,z2⟩
     simp only [execOp,ho,h1,h2]
     simp only [Sem.run_bind] at z1 ⊢
     simp_all
    ·cases h
  ·cases h
 ·cases h
theorem new_call {c:Call} (hdo:dstOk cx.n o.dst = true) (ho:o.op = .call c) (hna:c.callee ≠ .builtin .append) (hnc:c.callee ≠ .builtin .copy) (hns:c.callee ≠ .builtin .unsafeSliceData) (hnu:c.callee ≠ .builtin .unsafeString) (h:stepNew cx σ o k = some (some r)):∃ e,k e = some r ∧ OpOK cx.T cx.n σ o e:=by
 simp only [stepNew,ho] at h
 split at h
 ·rename_i hc
  split at h
  ·rename_i id n t hargs htys
   cases hb:isSlcTy cx.T t with
   | false => rw [hb] at h; cases h
   | true =>
    rw [hb] at h
    simp only [cond_true] at h
    injection h with h
    obtain ⟨e,ht⟩:=isSlcTy_ok hb
    refine ⟨_,h,op_pure' hdo rfl fun C gh σ' a w hag hs => ?_⟩
    obtain ⟨x,hx1,hx2⟩:∃ x,c.args.toList = [x] ∧ ev σ x = .v (.one (.bs id n)):=by
     cases hl:c.args.toList with
     | nil => rw [hl] at hargs; cases hargs
     | cons x l =>
      rw [hl] at hargs
      cases l with
      | nil => simp at hargs; exact ⟨x,rfl,hargs⟩
      | cons y l => simp at hargs
    obtain ⟨_,b,_,h1⟩:RepC gh σ'.blk w (.bs id n) (a.eval x):=ev_at hag hs (by intro q hq; rw [hx1]; simpa using hq) hx2
    have ha:c.args.map a.eval = #[a.eval x]:=by apply Array.toList_inj.1; simp [hx1]
    have hty:c.argTypes = #[t]:=by apply Array.toList_inj.1; simpa using htys
    refine ⟨.int .i64 n,?_,rfl⟩
    rw [run_builtin hc ho]
    simp [builtin,ha,hty,h1,Builtin.len_,run_underlying ht,goInt]
  ·rename_i id t hargs htys
   split at h
   ·rename_i eb xs hm
    cases hb:isSlcTy cx.T t with
    | false => rw [hb] at h; cases h
    | true =>
     rw [hb] at h
     simp only [cond_true] at h
     injection h with h
     obtain ⟨e,ht⟩:=isSlcTy_ok hb
     refine ⟨_,h,op_pure' hdo rfl fun C gh σ' a w hag hs => ?_⟩
     obtain ⟨x,hx1,hx2⟩:∃ x,c.args.toList = [x] ∧ ev σ x = .v (.one (.own id)):=by
      cases hl:c.args.toList with
      | nil => rw [hl] at hargs; cases hargs
      | cons x l =>
       rw [hl] at hargs
       cases l with
       | nil => simp at hargs; exact ⟨x,rfl,hargs⟩
       | cons y l => simp at hargs
     have hm':σ'.blk id = some (.byt eb xs):=by rw [agree_m hag (by simp)]; exact hm
     obtain ⟨g,cp,cur,fz,q1,_⟩:=hs.heap.blk id _ hm'
     obtain ⟨_,h1⟩:RepC gh σ'.blk w (.own id) (a.eval x):=ev_at hag hs (by intro q hq; rw [hx1]; simp [hq]) hx2
     rw [q1] at h1
     have ha:c.args.map a.eval = #[a.eval x]:=by apply Array.toList_inj.1; simp [hx1]
     have hty:c.argTypes = #[t]:=by apply Array.toList_inj.1; simpa using htys
     refine ⟨.int .i64 xs.length,?_,rfl⟩
     rw [run_builtin hc ho]
     simp [builtin,ha,hty,h1,Builtin.len_,run_underlying ht,goInt]
   ·cases h
  ·cases h
 ·rename_i hc
  split at h
  ·rename_i t hargs htys
   cases hb:isSlcTy cx.T t with
   | false => rw [hb] at h; cases h
   | true =>
    rw [hb] at h
    simp only [cond_true] at h
    injection h with h
    obtain ⟨e,ht⟩:=isSlcTy_ok hb
    refine ⟨_,h,op_pure' hdo rfl fun C gh σ' a w hag hs => ?_⟩
    obtain ⟨x,hx1,hx2⟩:∃ x,c.args.toList = [x] ∧ ev σ x = .v (.one .nilS):=by
     cases hl:c.args.toList with
     | nil => rw [hl] at hargs; cases hargs
     | cons x l =>
      rw [hl] at hargs
      cases l with
      | nil => simp at hargs; exact ⟨x,rfl,hargs⟩
      | cons y l => simp at hargs
    have h1:a.eval x = .slice none 0 0:=ev_at hag hs (by intro q hq; rw [hx1]; simpa using hq) hx2
    have ha:c.args.map a.eval = #[a.eval x]:=by apply Array.toList_inj.1; simp [hx1]
    have hty:c.argTypes = #[t]:=by apply Array.toList_inj.1; simpa using htys
    refine ⟨.int .i64 0,?_,rfl⟩
    rw [run_builtin hc ho]
    simp [builtin,ha,hty,h1,Builtin.cap_,run_underlying ht,goInt]
  ·cases h
 ·rename_i hc; exact absurd hc hnc
 ·rename_i hc; exact absurd hc hns
 ·rename_i hc; exact absurd hc hnu
 ·rename_i hc; exact absurd hc hna
 ·cases h
theorem isIntTy_ok {P:Program} {s:Nat} (h:isIntTy P s = true):∃ e,P.underlying s = some (.int e):=by
 unfold isIntTy at h
 split at h
 ·exact ⟨_,by assumption⟩
 ·cases h
theorem app_run_str {P:Program} {w:World} (t u ty e:TypeId) (i:TypeInfo) (ht:P.underlying t = some (.slice e)) (hu:P.underlying u = some .string) (hi:P.info? e = some i) (hz:i.zero = some (.int .u8 0))
  (hsize:i.size = 1) (hby:i.bytes = 1) (v:Value) (n:Nat) (xs:List Value) (hown:w.rowR 0 e 1 v n xs) (s:ByteArray) (hbytes:n + s.size ≤ 140737488355328) :
  ∃ v' w',(Builtin.append_ #[t,u] ty #[v,.string s]).run P w = .ok v' w' ∧ w'.rowR 0 e 1 v' (n + s.size) (xs ++ Lib.strCells s) ∧
   ((v'.ownBlock = v.ownBlock ∧ w.grownBy w' v.ownBlock) ∨ (v'.ownBlock = some w.heap.size ∧ w.grownBy w' none)):=by
 rcases hown.2 with ⟨rfl,rfl⟩ | ⟨g,cap,cur,rfl,hbg,hg,hnc,hcm,hcs,htake⟩
 ·have hown':w.ownsRow 0 e 1 (.slice none 0 0) 0 xs:=⟨hown.1,.inl ⟨rfl,rfl⟩⟩
  obtain ⟨v',w',h2,h3,h4,h5⟩:=Lib.run_append_own_string (P:=P) w 0 t u ty e i ht hu hi hz hsize hby _ 0 xs hown' s (by unfold maxLen; omega) hbytes (Nat.zero_le _)
  refine ⟨v',w',h2,World.rowR_of h3,?_⟩
  by_cases hm:s.size = 0
  ·have:v' = .slice none 0 0:=h5.2 ⟨rfl,hm⟩
   subst this
   exact .inl ⟨rfl,h4⟩
  ·have hr:=run_append_nil_string (P:=P) w t u ty e i (.int .u8 0) ht hu hi hz s (by omega) (by omega) (by rw [hby]; omega)
   rw [hr] at h2
   injection h2 with h2 _
   subst h2
   exact .inr ⟨rfl,h4⟩
 ·have hxl:xs.length = n:=by simpa using hown.1
  have hlen:(xs ++ Lib.strCells s).length = (n + s.size) * 1:=by rw [List.length_append,hxl,Lib.strCells_length,Nat.mul_one]
  by_cases hroom:n + s.size ≤ cap
  ·have hcs':cap ≤ cur.size:=by simpa using hcs
   have hr:=Lib.run_append_room_string (P:=P) w t u ty e i ht hu hi hsize g n cap cur hg s hroom (by omega)
   have hcl:=Lib.strCells_length s
   refine ⟨_,_,hr,⟨hlen,.inr ⟨g,cap,_,rfl,hbg,setRow_heap w g cur _ e _ hg,hroom,hcm,?_,?_⟩⟩,.inl ⟨rfl,rfl,rfl,rfl,by simp,fun k _ hk => setRow_other w g k _ (fun e => hk (by simp [Value.ownBlock,e]))⟩⟩
   ·simp only [List.size_toArray,List.length_append,List.length_take,List.length_drop,Array.length_toList]
    omega
   ·have e1:cur.toList.take n = xs:=by rw [← htake,Nat.mul_one]
    rw [e1,← hlen]
    exact List.take_left
  ·have holds:∀ j u,xs[j]? = some u → w.cell? ((⟨g,0,none⟩:Addr).add j) = some u:=hown.cells (g:=g) rfl
   have hr:=Lib.run_append_grow_string (P:=P) w t u ty e i (.int .u8 0) ht hu hi hz ⟨g,0,none⟩ n cap xs (by rw [hsize]; simpa using hxl) holds s (by omega) (by omega) (by rw [hby]; exact growslice_fits (by omega) (by omega))
   have hg2:=World.rowR_grown (e:=e) (size:=1) w (Value.int .u8 0).cells rfl (Lib.strCells s) s.size cap hown.1 (by rw [Lib.strCells_length,Nat.mul_one]) (by unfold maxLen; omega)
   have e1:(s.data.map fun b => Value.int .u8 b.toNat) = (Lib.strCells s).toArray:=by
    apply Array.ext'
    simp [Lib.strCells]
   exact ⟨_,_,hr,hg2,.inr ⟨rfl,rfl,rfl,rfl,by simp,fun k hk _ => alloc_same w.drew _ k hk⟩⟩
theorem u8Zero_ok {T:Program} {e:Nat} (h:u8Zero T e = true):∃ i,T.info? e = some i ∧ i.size = 1 ∧ i.bytes = 1 ∧ i.zero = some (.int .u8 0):=by
 unfold u8Zero at h
 split at h
 ·rename_i i hi
  simp only [Bool.and_eq_true] at h
  obtain ⟨h1,h2,h3⟩:=h
  refine ⟨i,hi,beq_true.1 h2,beq_true.1 h1,?_⟩
  split at h3
  ·rename_i n hz
   have:n = 0:=by simpa using h3
   subst this
   exact hz
  ·cases h3
 ·cases h
theorem flat_bytes (z:List UInt8):rowsCells (.int .u8) (z.map fun b => (b.toNat:Int)) = z.map fun b => AC.c (.int .u8) (b.toNat:Int):=by
 induction z with
 | nil => rfl
 | cons b z ih =>
  simp only [List.map_cons,rowsCells,List.flatMap_cons] at ih ⊢
  rw [ih]
  rfl
theorem rep_bytes {gh:Gh} {m:Mem} {w:World} (z:List UInt8):RepCs gh m w (z.map fun b => AC.c (.int .u8) (b.toNat:Int)) (z.map fun b => Value.int .u8 (b.toNat:Int)):=by
 induction z with
 | nil => exact .nil
 | cons b z ih => exact .cons rfl ih
theorem new_append {c:Call} (hdo:dstOk cx.n o.dst = true) (ho:o.op = .call c) (hc:c.callee = .builtin .append) (h:stepNew cx σ o k = some (some r)):∃ e,k e = some r ∧ OpOK cx.T cx.n σ o e:=by
 simp only [stepNew,ho,hc] at h
 split at h
 ·rename_i ik l t u hargs htys
  injection h with h
  cases hu:isIntTy cx.T u with
  | false => rw [hu] at h; cases h
  | true =>
   rw [hu] at h
   simp only [Bool.not_true,cond_false] at h
   obtain ⟨ku,hu⟩:=isIntTy_ok hu
   split at h
   ·rename_i e te hel hfr
    obtain ⟨hel1,hel2⟩:=elemOf_ok hel
    split at h
    ·rename_i ty hty
     cases hcond:(Nat.beq ty.width te.width && (Nat.blt 0 te.width && (Nat.blt 0 te.bytes && Nat.beq te.zero.length te.width))) with
     | false => rw [hcond] at h; cases h
     | true =>
      rw [hcond] at h
      simp only [cond_true] at h
      simp only [Bool.and_eq_true] at hcond
      obtain ⟨c1,c2,c3,c4⟩:=hcond
      have c1:=beq_true.1 c1
      have c2:0 < te.width:=Nat.le_of_ble_eq_true c2
      have c3:0 < te.bytes:=Nat.le_of_ble_eq_true c3
      have c4:=beq_true.1 c4
      cases hz:pack [] ty (te.zero.map ofCell) with
      | none => rw [hz] at h; cases h
      | some z =>
       rw [hz] at h
       simp only [Option.bind_some] at h
       cases hl:(decide (0 < l) && decide (l ≤ ((140737488355328 / te.bytes:Nat):Int))) with
       | false => rw [hl] at h; cases h
       | true =>
        rw [hl] at h
        simp only [cond_true] at h
        simp only [Bool.and_eq_true,decide_eq_true_eq] at hl
        obtain ⟨l1,l2⟩:=hl
        have l1:@LT.lt Int _ 0 l:=l1
        have l2:@LE.le Int _ l (140737488355328 / te.bytes:Nat):=l2
        refine ⟨_,h,?_⟩
        intro C gh σ' a w next Q hn hag hs hk
        have hf':σ'.blk (o.dst.getD 0) = none:=by rw [agree_m hag (by simp)]; exact hfr
        obtain ⟨xo,yo,hx1,hx2,hx3⟩:=map_two hargs
        have hvx:a.eval xo = .slice none 0 0:=ev_at hag hs (by intro q hq; rw [hx1]; simp [hq]) hx2
        have hvy:a.eval yo = .int ik l:=ev_at hag hs (by intro q hq; rw [hx1]; simp [hq]) hx3
        have ha:c.args.map a.eval = #[a.eval xo,a.eval yo]:=by apply Array.toList_inj.1; simp [hx1]
        have hty':c.argTypes = #[t,u]:=by apply Array.toList_inj.1; simpa using htys
        obtain ⟨i,hi1,hi2,hi3,zv,hi4,hi5⟩:=hel2.info
        have hle:l.toNat * te.bytes ≤ 140737488355328:=(Nat.le_div_iff_mul_le c3).1 (by omega)
        have hi3:i.bytes = te.bytes:=hi3
        have hi2:i.size = te.width:=hi2
        have hsm:l.toNat ≤ 140737488355328:=by
         have:l.toNat ≤ l.toNat * te.bytes:=Nat.le_mul_of_pos_right _ c3
         omega
        have hr:=Lib.run_append_grow_zeros (P:=cx.T) w t u o.type e i zv ik ku hel1 hu hi1 hi4 none 0 0 [] (by simpa using run_firstCells_none (P:=cx.T) w.drew i.size 0 0 0) l.toNat (by omega) (by omega) (by omega)
         (by omega) (by rw [hi3]; omega) (by rw [hi3]; exact growslice_fits (by omega) (by rw [Nat.zero_add]; exact hle))
        rw [Nat.zero_add,Int.toNat_of_nonneg (by omega)] at hr
        generalize hcap:grownCap w l.toNat 0 e = cap at hr
        have hcap1:l.toNat ≤ cap:=by rw [← hcap]; exact grownCap_ge w _ _ _
        have hcap2:cap ≤ maxLen:=by
         rw [← hcap]
         refine grownCap_le_maxLen w _ _ _ ?_
         have:l.toNat ≤ l.toNat * te.bytes:=Nat.le_mul_of_pos_right _ c3
         unfold maxLen; omega
        have hzs:zv.cells.size = te.width:=by rw [← c4,← hi5]; simp
        have hzl:zv.cells.toList.length = te.width:=by rw [Array.length_toList]; exact hzs
        have hmc:∀ n,(Builtin.zeroCells zv.cells n).toList = (List.replicate n zv.cells.toList).flatten:=fun n => by
         have:=range_zero zv.cells te.width n hzs c2
         unfold Builtin.zeroCells
         rw [hzs]
         rw [hzs] at this
         exact this
        have hsplit:((List.toArray ([]:List Value)) ++ Builtin.zeroCells zv.cells l.toNat ++ Builtin.zeroCells zv.cells (cap - l.toNat)).toList = (List.replicate cap zv.cells.toList).flatten:=by
         simp only [Array.toList_append,hmc]
         rw [show cap = l.toNat + (cap - l.toNat) by omega,← List.replicate_append_replicate,List.flatten_append]
         simp
        generalize hV:((List.toArray ([]:List Value)) ++ Builtin.zeroCells zv.cells l.toNat ++ Builtin.zeroCells zv.cells (cap - l.toNat)) = V at hr hsplit
        have hVs:V.size = cap * ty.width:=by
         rw [← Array.length_toList,hsplit,c1,← hzl]
         simp [List.length_flatten]
        have hown:(w.drew.alloc (.cells V e)).rowR 0 e ty.width (.slice (some ⟨w.heap.size,0,none⟩) l.toNat cap) (([]:List ty.D).length + (List.replicate l.toNat z).length) ([] ++ V.toList.take (l.toNat * ty.width)):=by
         rw [List.length_replicate,List.length_nil,Nat.zero_add,List.nil_append]
         refine ⟨?_,.inr ⟨w.heap.size,cap,V,rfl,Nat.zero_le _,heap_alloc_new w.drew _,hcap1,hcap2,Nat.le_of_eq hVs.symm,rfl⟩⟩
         rw [List.length_take,Array.length_toList,hVs,Nat.min_eq_left (Nat.mul_le_mul_right _ hcap1)]
        have hnew:RepCs gh σ'.blk w (rowsCells ty (List.replicate l.toNat z)) (V.toList.take (l.toNat * ty.width)):=by
         rw [hsplit,c1,take_flat _ _ hzl _ _ hcap1]
         refine rep_flat ?_ _
         have h0:HeapOK gh (fun i => lookM i []) w:=heap_nil hs.heap
         have h1:=pack_rep h0 ty _ z zv.cells.toList hz (by rw [hi5]; exact repCs_ofCell _)
         refine all2_of_mem' (fun a ha v hv => ?_) h1
         obtain ⟨t',y',rfl⟩:=cellsOf_c' ha
         exact hv
        have hrun':(execOp a.eval o).run cx.T w = .ok (.value (.slice (some ⟨w.heap.size,0,none⟩) l.toNat cap)) (w.drew.alloc (.cells V e)):=by
         rw [run_builtin hc ho,ha,hty']
         simp only [builtin,Sem.run_bind]
         rw [hvx,hvy,hr]
         rfl
        obtain ⟨S',hH,hT,hext⟩:=heap_app hs.heap hf' (dst_pin hdo) (old:=none) (v:=.slice none 0 0) (v':=.slice (some ⟨w.heap.size,0,none⟩) l.toNat cap) (e:=e) (e':=0) (r:=ty) (xs:=[]) (zs:=List.replicate l.toNat z) (fz:=false) (fz':=!memN (o.dst.getD 0) cx.mu) (vs:=[]) (vs':=V.toList.take (l.toNat * ty.width)) ⟨rfl,rfl⟩ (fun h => by cases h) .nil (by simp) (World.rowR_nil w 0 e ty.width) hown hnew (by omega) (Nat.le_succ _) (.inr ⟨rfl,rfl,rfl,rfl,by simp,fun k hk _ => alloc_same w.drew _ k hk⟩)
        refine wp_value hrun' (hk _ _ _ (sim_step hs (hn.1 ▸ hdo) hT hH hext fun _ => ?_))
        refine ⟨by rw [blk_cons,upd_same]; simp,by simp,_,_,_,rfl⟩
    ·cases h
   ·cases h
 ·rename_i s z t u hargs htys
  injection h with h
  cases hu:(isStrTy cx.T u && isBytesTy cx.T t) with
  | false => rw [hu] at h; cases h
  | true =>
   rw [hu] at h
   simp only [Bool.not_true,cond_false] at h
   simp only [Bool.and_eq_true] at hu
   split at h
   ·rename_i e te hel hfr
    obtain ⟨hel1,hel2⟩:=elemOf_ok hel
    cases hu8:u8Zero cx.T e with
    | false => rw [hu8] at h; cases h
    | true =>
     rw [hu8] at h
     simp only [Bool.not_true,cond_false] at h
     obtain ⟨i,hi1,hi2,hi3,hi4⟩:=u8Zero_ok hu8
     obtain ⟨xo,yo,hx1,hx2,hx3⟩:=map_two hargs
     -- one append
     have key:∀ (xs:List Int) (old:Option Nat) (fz:Bool),OldA σ e (.int .u8) xs fz s old → xs.length + z.size ≤ 140737488355328 →
       OpOK cx.T cx.n σ o { put:=one (.own (o.dst.getD 0)),blks:=(o.dst.getD 0,.lst e (.int .u8) (xs ++ (bl z).map fun b => (b.toNat:Int)) (fz || !memN (o.dst.getD 0) cx.mu)) :: oldBlk old,rd:=Key.m (o.dst.getD 0) :: acKeys s ++ c.args.toList.flatMap opKeys }:=by
      intro xs old fz hold hlim C gh σ' a w next Q hn hag hs hk
      have hf':σ'.blk (o.dst.getD 0) = none:=by rw [agree_m hag (by simp)]; exact hfr
      have hrs:RepC gh σ'.blk w s (a.eval xo):=ev_at hag hs (by intro q hq; rw [hx1]; simp [hq]) hx2
      have hvy:a.eval yo = .string z:=ev_at hag hs (by intro q hq; rw [hx1]; simp [hq]) hx3
      have ha:c.args.map a.eval = #[a.eval xo,a.eval yo]:=by apply Array.toList_inj.1; simp [hx1]
      have hty':c.argTypes = #[t,u]:=by apply Array.toList_inj.1; simpa using htys
      have hbefore:∃ vs,w.rowR 0 e 1 (a.eval xo) xs.length vs ∧ RepCs gh σ'.blk w (rowsCells (.int .u8) xs) vs ∧ OldOK σ'.blk gh.val e (.int .u8) xs fz (a.eval xo) old:=by
       cases old with
       | none =>
        obtain ⟨rfl,rfl⟩:=hold
        have hv:a.eval xo = .slice none 0 0:=hrs
        exact ⟨[],by rw [hv]; exact World.rowR_nil w 0 e 1,.nil,hv,rfl⟩
       | some j =>
        obtain ⟨rfl,hi⟩:=hold
        have hi':σ'.blk j = some (.lst e (.int .u8) xs fz):=by rw [agree_m hag (by simp [acKeys])]; exact hi
        obtain ⟨vs,h4,h5,_⟩:=hs.heap.blk j _ hi'
        exact ⟨vs,by rw [hrs.2.1]; exact h4,h5,hi',hrs.2.1⟩
      obtain ⟨vs,hvo,hvr,hvm⟩:=hbefore
      obtain ⟨v',w',hr,hown,hg⟩:=app_run_str (P:=cx.T) t u o.type e i hel1 (isStrTy_ok hu.1) hi1 hi4 hi2 hi3 (a.eval xo) xs.length vs hvo z hlim
      have hrun':(execOp a.eval o).run cx.T w = .ok (.value v') w':=by
       rw [run_builtin hc ho,ha,hty']
       simp only [builtin,Sem.run_bind]
       rw [hvy,hr]
       rfl
      have hlen:((bl z).map fun b => (b.toNat:Int)).length = z.size:=by
       rw [List.length_map,← bl_eq,Lib.toList_data,← Lib.size_eq]
      have hstr:Lib.strCells z = (bl z).map fun b => Value.int .u8 (b.toNat:Int):=by rw [← bl_eq,Lib.toList_data]; rfl
      obtain ⟨S',hH,hT,hext⟩:=heap_app hs.heap hf' (dst_pin hdo) (old:=old) (v:=a.eval xo) (v':=v') (e:=e) (e':=0) (r:=.int .u8) (xs:=xs) (zs:=(bl z).map fun b => (b.toNat:Int)) (fz:=fz) (fz':=fz || !memN (o.dst.getD 0) cx.mu) (vs:=vs) (vs':=Lib.strCells z) hvm (fun h => .inl (by rw [h]; rfl)) hvr hvo.1 hvo (by rw [hlen]; exact hown) (by rw [flat_bytes,hstr]; exact rep_bytes _) (by simp [Ty.width]) (drawn_le _ _ _ _ _ hr) hg
      have hblk:(σ'.apply o.dst { put:=one (.own (o.dst.getD 0)),blks:=(o.dst.getD 0,.lst e (.int .u8) (xs ++ (bl z).map fun b => (b.toNat:Int)) (fz || !memN (o.dst.getD 0) cx.mu)) :: oldBlk old,rd:=Key.m (o.dst.getD 0) :: acKeys s ++ c.args.toList.flatMap opKeys }).blk = upd (kill σ'.blk old) (o.dst.getD 0) (.lst e (.int .u8) (xs ++ (bl z).map fun b => (b.toNat:Int)) (fz || !memN (o.dst.getD 0) cx.mu)):=by
       cases old <;> rfl
      refine wp_value hrun' (hk _ _ _ (sim_step hs (hn.1 ▸ hdo) (by rw [hblk]; exact hT) (by rw [hblk]; exact hH) (by rw [hblk]; exact hext) fun _ => ?_))
      rw [hblk]
      refine ⟨by rw [upd_same]; simp,by simp [Nat.beq_refl (o.dst.getD 0)],?_⟩
      rcases hown.2 with ⟨rfl,_⟩ | ⟨g,cap,cur,rfl,_⟩ <;> exact ⟨_,_,_,rfl⟩
     split at h
     ·cases hl:decide (([]:List Int).length + z.size ≤ 140737488355328) with
      | false => rw [hl] at h; cases h
      | true =>
       rw [hl] at h
       exact ⟨_,h,key [] none false ⟨rfl,rfl⟩ (of_decide_eq_true hl)⟩
     ·rename_i id
      split at h
      ·rename_i e' r' xs fz hm
       cases hee:Nat.beq e e' with
       | false => rw [hee] at h; cases h
       | true =>
        rw [hee] at h
        simp only [cond_true] at h
        have hee:=beq_true.1 hee
        subst hee
        cases hcd:castD (.list r') (.list (.int .u8)) xs with
        | none => rw [hcd] at h; cases h
        | some xs' =>
         rw [hcd] at h
         simp only [Option.bind_some] at h
         obtain ⟨hrr,rfl⟩:=castD_some hcd
         injection hrr with hrr
         subst hrr
         cases hl:decide (xs.length + z.size ≤ 140737488355328) with
         | false => rw [hl] at h; cases h
         | true =>
          rw [hl] at h
          exact ⟨_,h,key xs (some id) fz ⟨rfl,hm⟩ (of_decide_eq_true hl)⟩
      ·cases h
     ·cases h
   ·cases h
 ·cases h
theorem new_range {t:Nat} {x:Operand} (hdo:dstOk cx.n o.dst = true) (ho:o.op = .range t x) (h:stepNew cx σ o k = some (some r)):∃ e,k e = some r ∧ OpOK cx.T cx.n σ o e:=by
 simp only [stepNew,ho] at h
 split at h
 ·rename_i s hx hfr
  injection h with h
  cases hs:isStrTy cx.T t with
  | false => rw [hs] at h; cases h
  | true =>
   rw [hs] at h
   simp only [cond_true] at h
   refine ⟨_,h,?_⟩
   intro C gh σ' a w next Q hn hag hsim hk
   have hf':σ'.blk (o.dst.getD 0) = none:=by rw [agree_m hag (by simp)]; exact hfr
   have hv:a.eval x = .string s:=ev_at hag hsim (by intro q hq; simp [hq]) hx
   have hr:=run_range_string (P:=cx.T) w t s (isStrTy_ok hs)
   have hrun:(execOp a.eval o).run cx.T w = .ok (.value (.pointer (some ⟨w.heap.size,0,none⟩))) (w.alloc (.stringIter s 0)):=by
    simp only [execOp,ho,hv,Sem.run_bind]
    rw [hr]
    rfl
   have hnew:=heap_new hsim.heap hf' (dst_pin hdo) (b:=.it s 0) (v:=.pointer (some ⟨w.heap.size,0,none⟩)) (w':=w.alloc (.stringIter s 0)) (Nat.le_refl _) (below_alloc' w _)
    (by intro k hk; simp [blockOfV] at hk; omega) gh.S (fun _ h => h) (fun x hx => .inl hx) (fun hext => ⟨w.heap.size,by simp only [Nat.beq_refl,cond_true],heap_alloc_new w _⟩)
   obtain ⟨hH,hT,hext⟩:=hnew
   refine wp_value hrun (hk _ _ _ (sim_step hsim (hn.1 ▸ hdo) hT hH hext fun _ => ?_))
   refine ⟨?_,w.heap.size,?_,rfl⟩
   ·rw [blk_cons,upd_same]; simp
   ·simp
 ·cases h
theorem new_next {x:Operand} {q:Bool} (hdo:dstOk cx.n o.dst = true) (ho:o.op = .next x q) (h:stepNew cx σ o k = some (some r)):∃ e,k e = some r ∧ OpOK cx.T cx.n σ o e:=by
 simp only [stepNew,ho] at h
 split at h
 ·rename_i id hx
  split at h
  ·rename_i s pos hm
   injection h with h
   cases q with
   | false => cases h
   | true =>
    simp only [Bool.not_true,cond_false] at h
    cases hlt:Nat.blt pos s.size with
    | true =>
     rw [hlt] at h
     simp only [cond_true] at h
     have hlt:pos < s.size:=Nat.le_of_ble_eq_true hlt
     refine ⟨_,h,?_⟩
     intro C gh σ' a w next Q hn hag hsim hk
     have hm':σ'.blk id = some (.it s pos):=by rw [agree_m hag (by simp)]; exact hm
     obtain ⟨g,q1,q2⟩:=hsim.heap.blk id _ hm'
     obtain ⟨_,b,p2,p3⟩:RepC gh σ'.blk w (.ptr id 0) (a.eval x):=ev_at hag hsim (by intro q hq; simp [hq]) hx
     rw [q1] at p2
     injection p2 with p2
     injection p2 with p2
     injection p2 with p2
     subst p2
     have hgl:g < w.heap.size:=(Array.getElem?_eq_some_iff.1 q2).1
     have hrun:(execOp a.eval o).run cx.T w = .ok (.value (.tuple #[.bool true,.int .i64 pos,.int .i32 (Utf8.decode s pos).1])) { w with heap:=w.heap.setIfInBounds g (.stringIter s (pos + (Utf8.decode s pos).2)) }:=by
      simp only [execOp,ho,p3,Sem.run_bind,Instr.next,getObj,setObj,Sem.run,q2,Result.andThen,hlt,if_true]
      simp [goInt,Sem.run,q2]
     have hG:w.grownBy { w with heap:=w.heap.setIfInBounds g (.stringIter s (pos + (Utf8.decode s pos).2)) } (some g):=by
      refine ⟨rfl,rfl,rfl,by simp,fun k' hk' hne => ?_⟩
      have hne':g ≠ k':=fun e => hne (by rw [e])
      simp [Array.getElem?_setIfInBounds,hne']
     have hput:=heap_put hsim.heap hm' rfl (b':=.it s (pos + (Utf8.decode s pos).2)) rfl (g:=g) (w':={ w with heap:=w.heap.setIfInBounds g (.stringIter s (pos + (Utf8.decode s pos).2)) }) (by simp [Gh.blk,q1,blockOfV]) (fun x h => h) (Nat.le_refl _) hG (fun hc hext => ⟨g,q1,by simp [hgl]⟩)
     obtain ⟨hH,hT,hext⟩:=hput
     refine wp_value hrun (hk gh _ _ (sim_step hsim (hn.1 ▸ hdo) hT hH hext fun _ => ⟨_,rfl,?_⟩))
     exact .cons rfl (.cons rfl (.cons rfl .nil))
    | false =>
     rw [hlt] at h
     simp only [cond_false] at h
     have hlt:¬ pos < s.size:=fun h' => by
      have:Nat.blt pos s.size = true:=Nat.ble_eq_true_of_le h'
      rw [hlt] at this
      cases this
     refine ⟨_,h,op_pure' hdo rfl fun C gh σ' a w hag hsim => ?_⟩
     have hm':σ'.blk id = some (.it s pos):=by rw [agree_m hag (by simp)]; exact hm
     obtain ⟨g,q1,q2⟩:=hsim.heap.blk id _ hm'
     obtain ⟨_,b,p2,p3⟩:RepC gh σ'.blk w (.ptr id 0) (a.eval x):=ev_at hag hsim (by intro q hq; simp [hq]) hx
     rw [q1] at p2
     injection p2 with p2
     injection p2 with p2
     injection p2 with p2
     subst p2
     refine ⟨.tuple #[.bool false],?_,_,rfl,.cons rfl .nil⟩
     simp [execOp,ho,p3,Instr.next,getObj,Sem.run,q2,hlt]
  ·cases h
 ·cases h
theorem map_oneL {α β:Type} {f:α → β} {l:List α} {b:β} (h:l.map f = [b]):∃ a,l = [a] ∧ f a = b:=map_one h
theorem bytes_at {xs:List Int} (h:xs.all isByte = true):xs = (xs.map fun n => UInt8.ofNat n.toNat).map fun b => (b.toNat:Int):=by
 induction xs with
 | nil => rfl
 | cons x xs ih =>
  simp only [List.all_cons,Bool.and_eq_true] at h
  simp only [List.map_cons]
  rw [← ih h.2]
  congr 1
  have:=h.1
  simp only [isByte,Bool.and_eq_true,decide_eq_true_eq] at this
  rw [UInt8.toNat_ofNat']
  omega
theorem bstr_eq {xs:List Int}:bstr xs = ⟨(xs.map fun n => UInt8.ofNat n.toNat).toArray⟩:=by
 unfold bstr
 have:∀ (l:List Int) (r:ByteArray),l.foldl (fun r n => r.push (UInt8.ofNat n.toNat)) r = ⟨r.data ++ (l.map fun n => UInt8.ofNat n.toNat).toArray⟩:=by
  intro l
  induction l with
  | nil => intro r; simp
  | cons n l ih =>
   intro r
   simp only [List.foldl_cons]
   rw [ih]
   simp [ByteArray.push]
 rw [this]
 have he0:ByteArray.empty.data = #[]:=rfl
 rw [he0]
 simp
theorem new_copy {c:Call} (hdo:dstOk cx.n o.dst = true) (ho:o.op = .call c) (hc:c.callee = .builtin .copy) (h:stepNew cx σ o k = some (some r)):∃ e,k e = some r ∧ OpOK cx.T cx.n σ o e:=by
 simp only [stepNew,ho,hc] at h
 split at h
 ·rename_i id z t u hargs htys
  split at h
  ·rename_i e xs hm
   injection h with h
   cases hcond:(isBytesTy cx.T t && (elemIs cx.T t e && (u8Zero cx.T e && decide (z.size ≤ xs.length)))) with
   | false => rw [hcond] at h; cases h
   | true =>
    rw [hcond] at h
    simp only [cond_true] at h
    simp only [Bool.and_eq_true,decide_eq_true_eq] at hcond
    obtain ⟨c1,c2,c3,c4⟩:=hcond
    have ht:=elemIs_ok c2
    obtain ⟨i,hi1,hi2,hi3,hi4⟩:=u8Zero_ok c3
    obtain ⟨xo,yo,hx1,hx2,hx3⟩:=map_two hargs
    refine ⟨_,h,?_⟩
    intro C gh σ' a w next Q hn hag hs hk
    have hm':σ'.blk id = some (.lst e (.int .u8) xs false):=by rw [agree_m hag (by simp)]; exact hm
    have hrep:RepC gh σ'.blk w (.own id) (a.eval xo):=ev_at hag hs (by intro q hq; rw [hx1]; simp [hq]) hx2
    have hvy:a.eval yo = .string z:=ev_at hag hs (by intro q hq; rw [hx1]; simp [hq]) hx3
    have ha:c.args.map a.eval = #[a.eval xo,a.eval yo]:=by apply Array.toList_inj.1; simp [hx1]
    have hty':c.argTypes = #[t,u]:=by apply Array.toList_inj.1; simpa using htys
    obtain ⟨vs,h1,h2,h3,h4⟩:=hs.heap.blk id _ hm'
    have hlen:((bl z).map fun b => (b.toNat:Int)).length = z.size:=by rw [List.length_map,← bl_eq,Lib.toList_data,← Lib.size_eq]
    rcases h1.2 with ⟨q1,q2⟩ | ⟨g,cap,cur,q1,q2,q3,q4,q5,q6,q7⟩
    ·-- nil: nothing is copied
     have hz0:z.size = 0:=by omega
     have hzn:bl z = []:=by rw [← bl_eq,Lib.toList_data]; exact List.eq_nil_of_length_eq_zero (by rw [← Lib.size_eq]; exact hz0)
     have hrun:(execOp a.eval o).run cx.T w = .ok (.value (.int .i64 z.size)) w:=by
      rw [run_builtin hc ho,ha,hty',hrep.2.1,q1,hvy]
      simp [builtin,Builtin.copy_,run_underlying ht,Builtin.lenOf,hz0,Builtin.firstCells,sizeOf,typeInfo,hi1,goInt]
     have hblk:({ put:=data (.int .i64) (z.size:Int),blks:=[(id,.lst e (.int .u8) (((bl z).map fun b => (b.toNat:Int)) ++ xs.drop z.size) false)],rd:=Key.m id :: c.args.toList.flatMap opKeys }:Eff).blks = [(id,.lst e (.int .u8) xs false)]:=by
      rw [hzn,hz0]; rfl
     have hup:∀ i,(σ'.apply o.dst { put:=data (.int .i64) (z.size:Int),blks:=[(id,.lst e (.int .u8) (((bl z).map fun b => (b.toNat:Int)) ++ xs.drop z.size) false)],rd:=Key.m id :: c.args.toList.flatMap opKeys }).blk i = σ'.blk i:=fun i => by
      show upd σ'.blk id _ i = _
      rw [hzn,hz0]
      by_cases hi:id = i
      ·subst hi; rw [upd_same,hm']; rfl
      ·rw [upd_other _ _ hi]
     have hup:=funext hup
     exact wp_value hrun (hk gh _ _ (sim_step hs (hn.1 ▸ hdo) (by rw [hup]; exact Tr.refl _ _ _) (by rw [hup]; exact hs.heap) (by rw [hup]; exact fun _ h => ⟨h,rfl⟩) fun _ => rfl))
    ·have q6':cap ≤ cur.size:=by simpa [Ty.width] using q6
     have hfit:0 + z.size ≤ cur.size:=by omega
     have hcp:=Lib.run_copy_row_string (P:=cx.T) w t u o.type e g 0 xs.length cap z cur e ht (by rw [hi1]; simp [hi2]) q3 c4 hfit
     generalize hY:(cur.toList.take 0 ++ Lib.byteCells z.data.toList ++ cur.toList.drop (0 + z.size)) = Y at hcp
     have hrun:(execOp a.eval o).run cx.T w = .ok (.value (.int .i64 z.size)) (w.setRow g Y.toArray):=by
      rw [run_builtin hc ho,ha,hty',hrep.2.1,q1,hvy]
      simp only [builtin,Sem.run_bind]
      rw [hcp]
      rfl
     have hput:=heap_put hs.heap hm' rfl (b':=.lst e (.int .u8) (((bl z).map fun b => (b.toNat:Int)) ++ xs.drop z.size) false) rfl (g:=g) (by simp [Gh.blk,q1,blockOfV]) (w':=w.setRow g Y.toArray) (fun x h => by obtain ⟨h,_⟩:=h; cases h) (Nat.le_refl _) (grownBy_setRow w g Y.toArray) (fun hcS hext => by
      have hl2:(((bl z).map fun b => (b.toNat:Int)) ++ xs.drop z.size).length = xs.length:=by rw [List.length_append,hlen,List.length_drop]; omega
      have hvl:vs.length = xs.length:=by simpa [Ty.width] using h1.1
      have hYt:Y.take (xs.length * (Ty.int .u8).width) = (Lib.byteCells z.data.toList) ++ vs.drop z.size:=by
       have hbl:(Lib.byteCells z.data.toList).length = z.size:=by rw [Lib.byteCells_length,← Lib.size_eq]
       rw [← hY,← q7]
       simp only [Ty.width,Nat.mul_one,List.take_zero,List.nil_append,Nat.zero_add]
       rw [List.take_append,hbl,List.take_of_length_le (by rw [hbl]; exact c4),List.drop_take]
      refine ⟨(Lib.byteCells z.data.toList) ++ vs.drop z.size,?_,?_,by simp [Ty.width],fun hf => by cases hf⟩
      ·rw [hl2]
       refine ⟨by rw [List.length_append,Lib.byteCells_length,← Lib.size_eq,List.length_drop,hvl]; simp [Ty.width]; omega,.inr ⟨g,cap,Y.toArray,q1,q2,setRow_heap w g cur _ e (0,0) q3,q4,q5,?_,by simpa using hYt⟩⟩
       rw [← hY]
       simp [Lib.byteCells_length,← Lib.size_eq]
       simp only [Ty.width,Nat.mul_one] at hfit ⊢
       omega
      ·have e1:rowsCells (.int .u8) (((bl z).map fun b => (b.toNat:Int)) ++ xs.drop z.size) = ((bl z).map fun b => AC.c (.int .u8) (b.toNat:Int)) ++ (rowsCells (.int .u8) xs).drop z.size:=by
        have e2:rowsCells (.int .u8) (((bl z).map fun b => (b.toNat:Int)) ++ xs.drop z.size) = rowsCells (.int .u8) ((bl z).map fun b => (b.toNat:Int)) ++ rowsCells (.int .u8) (xs.drop z.size):=by simp [rowsCells]
        have e3:∀ (l:List Int) n,rowsCells (.int .u8) (l.drop n) = (rowsCells (.int .u8) l).drop n:=by
         intro l n
         have:∀ l:List Int,rowsCells (.int .u8) l = l.map fun x => AC.c (.int .u8) x:=by
          intro l
          induction l with
          | nil => rfl
          | cons x l ih => simp only [rowsCells,List.flatMap_cons] at ih ⊢; rw [ih]; rfl
         rw [this,this,List.map_drop]
        rw [e2,flat_bytes,e3]
       rw [e1]
       have e4:Lib.byteCells z.data.toList = (bl z).map fun b => Value.int .u8 (b.toNat:Int):=by rw [← bl_eq,Lib.toList_data]; rfl
       rw [e4]
       exact repCs_mono (g:=gh) (m:=σ'.blk) (w:=w) (g':=gh) (fun _ h => h) hcS hext (All2.append (rep_bytes _) (h2.drop _)))
     obtain ⟨hH,hT,hext⟩:=hput
     exact wp_value hrun (hk gh _ _ (sim_step hs (hn.1 ▸ hdo) hT hH hext fun _ => rfl))
  ·cases h
 ·rename_i id t u hargs htys
  split at h
  ·rename_i e xs hm
   injection h with h
   cases hcond:(isBytesTy cx.T t && (elemIs cx.T t e && u8Zero cx.T e)) with
   | false => rw [hcond] at h; cases h
   | true =>
    rw [hcond] at h
    simp only [cond_true] at h
    simp only [Bool.and_eq_true] at hcond
    obtain ⟨c1,c2,c3⟩:=hcond
    have ht:=elemIs_ok c2
    obtain ⟨i,hi1,hi2,hi3,hi4⟩:=u8Zero_ok c3
    obtain ⟨xo,yo,hx1,hx2,hx3⟩:=map_two hargs
    refine ⟨_,h,op_pure' hdo rfl fun C gh σ' a w hag hs => ?_⟩
    have hm':σ'.blk id = some (.lst e (.int .u8) xs false):=by rw [agree_m hag (by simp)]; exact hm
    have hrep:RepC gh σ'.blk w (.own id) (a.eval xo):=ev_at hag hs (by intro q hq; rw [hx1]; simp [hq]) hx2
    have hvy:a.eval yo = .slice none 0 0:=ev_at hag hs (by intro q hq; rw [hx1]; simp [hq]) hx3
    have ha:c.args.map a.eval = #[a.eval xo,a.eval yo]:=by apply Array.toList_inj.1; simp [hx1]
    have hty':c.argTypes = #[t,u]:=by apply Array.toList_inj.1; simpa using htys
    obtain ⟨ad,n,cap,hv⟩:=hrep.2.2
    have hcp:=run_copy_none (P:=cx.T) w t u o.type e ad none n cap 0 0 ht (by rw [hi1]; simp [hi2]) (by simp)
    refine ⟨.int .i64 0,?_,rfl⟩
    rw [run_builtin hc ho,ha,hty',hv,hvy]
    simp only [builtin,Sem.run_bind]
    rw [hcp]
    rfl
  ·cases h
 ·cases h
theorem new_sdata {c:Call} (hdo:dstOk cx.n o.dst = true) (ho:o.op = .call c) (hc:c.callee = .builtin .unsafeSliceData) (h:stepNew cx σ o k = some (some r)):∃ e,k e = some r ∧ OpOK cx.T cx.n σ o e:=by
 simp only [stepNew,ho,hc] at h
 split at h
 ·rename_i id t hargs htys
  split at h
  ·rename_i e xs hm
   injection h with h
   cases hp:isPtrTy cx.T o.type with
   | false => rw [hp] at h; cases h
   | true =>
    rw [hp] at h
    simp only [cond_true] at h
    obtain ⟨pe,hp⟩:=isPtrTy_ok hp
    obtain ⟨xo,hx1,hx2⟩:=map_oneL hargs
    refine ⟨_,h,?_⟩
    intro C gh σ' a w next Q hn hag hs hk
    have hm':σ'.blk id = some (.lst e (.int .u8) xs false):=by rw [agree_m hag (by simp)]; exact hm
    have hrep:RepC gh σ'.blk w (.own id) (a.eval xo):=ev_at hag hs (by intro q hq; rw [hx1]; simp [hq]) hx2
    have ha:c.args.map a.eval = #[a.eval xo]:=by apply Array.toList_inj.1; simp [hx1]
    obtain ⟨vs,h1,_⟩:=hs.heap.blk id _ hm'
    have hrun:∃ p w',(execOp a.eval o).run cx.T w = .ok (.value (.pointer p)) w' ∧ w.grownBy w' none ∧ w.drawn ≤ w'.drawn ∧ ∀ a n c,gh.val id = .slice (some a) n c → 0 < n → p = some a:=by
     rcases h1.2 with ⟨q1,q2⟩ | ⟨g,cap,cur,q1,q2,q3,q4,q5,q6,q7⟩
     ·refine ⟨none,w,?_,⟨rfl,rfl,rfl,Nat.le_refl _,fun _ _ _ => rfl⟩,Nat.le_refl _,fun a n c h => by rw [q1] at h; cases h⟩
      rw [run_builtin hc ho,ha,hrep.2.1,q1]
      simp only [builtin,Sem.run_bind]
      rw [Lib.run_unsafeSliceData_nil]
      rfl
     ·by_cases hcap:cap = 0
      ·subst hcap
       refine ⟨some ⟨w.heap.size,0,none⟩,w.alloc (.view ⟨g,0,none⟩ pe),?_,⟨rfl,rfl,rfl,by simp,fun k hk _ => alloc_same w _ k hk⟩,Nat.le_refl _,fun a n c h h0 => by
        rw [q1] at h
        injection h with _ h _
        omega⟩
       rw [run_builtin hc ho,ha,hrep.2.1,q1]
       simp only [builtin,Sem.run_bind]
       rw [Lib.run_unsafeSliceData_zero w c.argTypes o.type pe hp ⟨g,0,none⟩ xs.length (e,cur.size) (by unfold World.shape?; rw [q3])]
       rfl
      ·refine ⟨some ⟨g,0,none⟩,w,?_,⟨rfl,rfl,rfl,Nat.le_refl _,fun _ _ _ => rfl⟩,Nat.le_refl _,fun a n c h h0 => by
        rw [q1] at h
        injection h with h _ _⟩
       rw [run_builtin hc ho,ha,hrep.2.1,q1]
       simp only [builtin,Sem.run_bind]
       rw [Lib.run_unsafeSliceData_row w c.argTypes o.type ⟨g,0,none⟩ xs.length cap hcap]
       rfl
    obtain ⟨p,w',hrun,hg,hdr,hval⟩:=hrun
    obtain ⟨hH,hT⟩:=heap_same hs.heap hg hdr
    refine wp_value hrun (hk gh _ _ (sim_step hs (hn.1 ▸ hdo) hT hH (fun _ h => ⟨h,rfl⟩) fun _ => ?_))
    exact ⟨by show σ'.blk id ≠ none; rw [hm']; simp,p,rfl,hval⟩
  ·cases h
 ·rename_i t hargs htys
  injection h with h
  obtain ⟨xo,hx1,hx2⟩:=map_oneL hargs
  refine ⟨_,h,op_pure' hdo rfl fun C gh σ' a w hag hs => ?_⟩
  have hv:a.eval xo = .slice none 0 0:=ev_at hag hs (by intro q hq; rw [hx1]; simp [hq]) hx2
  have ha:c.args.map a.eval = #[a.eval xo]:=by apply Array.toList_inj.1; simp [hx1]
  refine ⟨.pointer none,?_,rfl⟩
  rw [run_builtin hc ho,ha,hv]
  simp only [builtin,Sem.run_bind]
  rw [Lib.run_unsafeSliceData_nil]
  rfl
 ·cases h
theorem new_ustr {c:Call} (hdo:dstOk cx.n o.dst = true) (ho:o.op = .call c) (hc:c.callee = .builtin .unsafeString) (h:stepNew cx σ o k = some (some r)):∃ e,k e = some r ∧ OpOK cx.T cx.n σ o e:=by
 simp only [stepNew,ho,hc] at h
 split at h
 ·rename_i n t u hargs htys
  injection h with h
  cases h0:(n == 0) with
  | false => rw [h0] at h; cases h
  | true =>
   rw [h0] at h
   simp only [cond_true] at h
   have h0:n = 0:=by simpa using h0
   subst h0
   obtain ⟨xo,yo,hx1,hx2,hx3⟩:=map_two hargs
   refine ⟨_,h,op_pure' hdo rfl fun C gh σ' a w hag hs => ?_⟩
   have hvx:a.eval xo = .pointer none:=ev_at hag hs (by intro q hq; rw [hx1]; simp [hq]) hx2
   have hvy:a.eval yo = .int .i64 0:=ev_at hag hs (by intro q hq; rw [hx1]; simp [hq]) hx3
   have ha:c.args.map a.eval = #[a.eval xo,a.eval yo]:=by apply Array.toList_inj.1; simp [hx1]
   have hty':c.argTypes = #[t,u]:=by apply Array.toList_inj.1; simpa using htys
   refine ⟨.string ByteArray.empty,?_,rfl⟩
   rw [run_builtin hc ho,ha,hty',hvx,hvy]
   simp only [builtin,Sem.run_bind]
   rw [Lib.run_unsafeString_none]
   rfl
 ·rename_i a1 n t u _ hargs htys
  split at h
  ·rename_i id hid
   split at h
   ·rename_i e xs hm
    injection h with h
    cases hcond:((ptrTo cx.T t e && Nat.beq (cx.T.cellsOf e) 1) && (n == (xs.length:Int) && okBytes xs)) with
    | false => rw [hcond] at h; cases h
    | true =>
     rw [hcond] at h
     simp only [cond_true] at h
     simp only [Bool.and_eq_true] at hcond
     obtain ⟨⟨c1,c2⟩,c3,c4⟩:=hcond
     have ht:=ptrTo_ok c1
     have c2:=beq_true.1 c2
     have c3:n = (xs.length:Int):=by simpa using c3
     subst c3
     obtain ⟨xo,yo,hx1,hx2,hx3⟩:=map_two hargs
     refine ⟨_,h,?_⟩
     intro C gh σ' a w next Q hn hag hs hk
     have hm':σ'.blk id = some (.lst e (.int .u8) xs false):=by rw [agree_m hag (by simp)]; exact hm
     have hrep:RepC gh σ'.blk w a1 (a.eval xo):=ev_at hag hs (by intro q hq; rw [hx1]; simp [hq]) hx2
     have hvy:a.eval yo = .int .i64 (xs.length:Int):=ev_at hag hs (by intro q hq; rw [hx1]; simp [hq]) hx3
     have ha:c.args.map a.eval = #[a.eval xo,a.eval yo]:=by apply Array.toList_inj.1; simp [hx1]
     have hty':c.argTypes = #[t,u]:=by apply Array.toList_inj.1; simpa using htys
     obtain ⟨vs,h1,h2,h3,h4⟩:=hs.heap.blk id _ hm'
     have hptr:∃ p,a.eval xo = .pointer p ∧ ∀ a n c,gh.val id = .slice (some a) n c → 0 < n → p = some a:=by
      unfold dataAt at hid
      split at hid
      ·injection hid with hid
       subst hid
       obtain ⟨_,p,q1,q2⟩:=hrep
       exact ⟨p,q1,q2⟩
      ·injection hid with hid
       subst hid
       obtain ⟨_,b,n',c',q1,q2⟩:=hrep
       refine ⟨_,q2,fun a n c h _ => ?_⟩
       rw [q1] at h
       injection h with h _ _
      ·cases hid
     obtain ⟨p,hvx,hpv⟩:=hptr
     have hrun:∃ w' row,(execOp a.eval o).run cx.T w = .ok (.value (.string (bstr xs))) w' ∧ w.grownBy w' row ∧ (row = none ∨ gh.blk id = row) ∧ w.drawn ≤ w'.drawn:=by
      rcases h1.2 with ⟨q1,q2⟩ | ⟨g,cap,cur,q1,q2,q3,q4,q5,q6,q7⟩
      ·have hx0:xs = []:=List.eq_nil_of_length_eq_zero q2
       subst hx0
       refine ⟨w,none,?_,⟨rfl,rfl,rfl,Nat.le_refl _,fun _ _ _ => rfl⟩,.inl rfl,Nat.le_refl _⟩
       rw [run_builtin hc ho,ha,hty',hvx,hvy]
       simp only [builtin,Sem.run_bind]
       rw [show (([]:List Int).length:Int) = 0 from rfl,Lib.run_unsafeString_none]
       rfl
      ·by_cases hx0:xs.length = 0
       ·have hx0:xs = []:=List.eq_nil_of_length_eq_zero hx0
        subst hx0
        refine ⟨w,none,?_,⟨rfl,rfl,rfl,Nat.le_refl _,fun _ _ _ => rfl⟩,.inl rfl,Nat.le_refl _⟩
        rw [run_builtin hc ho,ha,hty',hvx,hvy]
        simp only [builtin,Sem.run_bind]
        rw [show (([]:List Int).length:Int) = 0 from rfl,Lib.run_unsafeString_none]
        rfl
       ·have hp:p = some ⟨g,0,none⟩:=hpv _ _ _ q1 (by omega)
        subst hp
        have hb:=bytes_at c4
        have hll:(xs.map fun n => UInt8.ofNat n.toNat).length = xs.length:=by simp
        have hvs:vs = xs.map fun x => Value.int .u8 x:=by
         have:∀ (l:List Int) (k:List Value),RepCs gh σ'.blk w (rowsCells (.int .u8) l) k → k = l.map fun x => Value.int .u8 x:=by
          intro l
          induction l with
          | nil => intro k h; cases h; rfl
          | cons x l ih =>
           intro k h
           have e1:rowsCells (.int .u8) (x :: l) = AC.c (.int .u8) x :: rowsCells (.int .u8) l:=by simp [rowsCells,cellsOf]
           rw [e1] at h
           cases h with
           | cons h1 h2 =>
            have h1:_ = Value.int .u8 x:=h1
            rw [h1,ih _ h2]
            rfl
         exact this xs vs h2
        have hcell:∀ (j:Nat) x,(xs.map fun n => UInt8.ofNat n.toNat)[j]? = some x → w.cell? ((⟨g,0,none⟩:Addr).add j) = some (.int .u8 x.toNat):=fun j x hj => by
         refine h1.cells (g:=g) (by rw [q1]; rfl) j _ ?_
         rw [hvs,hb,List.getElem?_map,List.getElem?_map,hj]
         rfl
        have hr:=Lib.run_unsafeString_row (P:=cx.T) w t u o.type e ht c2 g cur.size (by unfold World.shape?; rw [q3]) (xs.map fun n => UInt8.ofNat n.toNat) (by intro h; exact hx0 (by rw [← hll,h]; rfl)) (by rw [hll]; exact Nat.le_trans q4 (by simpa [Ty.width] using q6)) (by rw [hll]; unfold maxLen at q5; omega) hcell
        rw [hll] at hr
        refine ⟨w.freeze ⟨g,0,none⟩ xs.length,some g,?_,?_,.inr (by simp [Gh.blk,q1,blockOfV]),?_⟩
        ·rw [run_builtin hc ho,ha,hty',hvx,hvy]
         simp only [builtin,Sem.run_bind]
         rw [hr,bstr_eq]
         rfl
        ·unfold World.freeze
         split
         ·exact ⟨rfl,rfl,rfl,Nat.le_refl _,fun _ _ _ => rfl⟩
         ·refine ⟨rfl,rfl,rfl,by simp,fun k' hk' hne => ?_⟩
          have hne':g ≠ k':=fun e => hne (by rw [e])
          simp [Array.getElem?_modify,hne']
        ·unfold World.freeze
         split <;> exact Nat.le_refl _
     obtain ⟨w',row,hrun,hg,hrow,hdr⟩:=hrun
     obtain ⟨hH,hT,hext⟩:=heap_kill hs.heap hm' rfl hrow (fun x h => by obtain ⟨h,_⟩:=h; cases h) hg hdr
     exact wp_value hrun (hk gh _ _ (sim_step hs (hn.1 ▸ hdo) hT hH hext fun _ => rfl))
   ·cases h
  ·cases h
 ·cases h
theorem op_new (hdo:dstOk cx.n o.dst = true) (h:stepNew cx σ o k = some (some r)):∃ e,k e = some r ∧ OpOK cx.T cx.n σ o e:=by
 cases hop:o.op with
 | indexAddr t x i => exact new_indexAddr hdo hop h
 | build t ps => exact new_build hdo hop h
 | buildSlice t n ps => exact new_buildSlice hdo hop h
 | load t x => exact new_load hdo hop h
 | range t x => exact new_range hdo hop h
 | next x q => exact new_next hdo hop h
 | store t x y => exact new_store hdo hop h
 | slice t x lo hi mx => exact new_slice hdo hop h
 | convert s t x => exact new_convert hdo hop h
 | binOp op t x y t' => exact new_binOp hdo hop h
 | call c =>
  by_cases hc:c.callee = .builtin .append
  ·exact new_append hdo hop hc h
  ·by_cases hcc:c.callee = .builtin .copy
   ·exact new_copy hdo hop hcc h
   ·by_cases hcs:c.callee = .builtin .unsafeSliceData
    ·exact new_sdata hdo hop hcs h
    ·by_cases hcu:c.callee = .builtin .unsafeString
     ·exact new_ustr hdo hop hcu h
     ·exact new_call hdo hop hc hcc hcs hcu h
 | _ => simp [stepNew,hop] at h
end
end Go.Vx
/-! Functions that only tell a field. -/
namespace Go.Vx
open Go Go.RowKit
set_option linter.unusedVariables false
set_option linter.unusedSimpArgs false
variable {R:Type}
theorem opIs_ok {o:Oper} {d:Nat} (h:opIs o d = true):o.guard = none ∧ o.dst = some d:=by
 unfold opIs at h
 rw [Bool.and_eq_true] at h
 obtain ⟨h1,h2⟩:=h
 refine ⟨by simpa using h1,?_⟩
 split at h2
 ·rename_i e he; rw [he,beq_true.1 h2]
 ·cases h2
theorem isConst_ok {p:Op} (h:isConst p = true):∃ v,p = .assign (.const v):=by
 unfold isConst at h
 split at h
 ·exact ⟨_,rfl⟩
 ·cases h
theorem isMove_ok {s:Nat} {p:Op} (h:isMove s p = true):p = .move (.tmp s):=by
 unfold isMove at h
 split at h
 ·rw [beq_true.1 h]
 ·cases h
theorem isNilCheck_ok {s:Nat} {p:Op} (h:isNilCheck s p = true):p = .nilCheck (.tmp s):=by
 unfold isNilCheck at h
 split at h
 ·rw [beq_true.1 h]
 ·cases h
theorem isAssign_ok {s:Nat} {p:Op} (h:isAssign s p = true):p = .assign (.tmp s):=by
 unfold isAssign at h
 split at h
 ·rw [beq_true.1 h]
 ·cases h
theorem asFieldAddr_ok {s:Nat} {p:Op} {t k:Nat} (h:asFieldAddr s p = some (t,k)):p = .fieldAddr t (.tmp s) k:=by
 unfold asFieldAddr at h
 split at h
 ·rename_i t' u k'
  cases hb:Nat.beq u s with
  | false => rw [hb] at h; cases h
  | true => rw [hb] at h; cases h; rw [beq_true.1 hb]
 ·cases h
theorem asLoad_ok {s:Nat} {p:Op} {t:Nat} (h:asLoad s p = some t):p = .load t (.tmp s):=by
 unfold asLoad at h
 split at h
 ·rename_i t' u
  cases hb:Nat.beq u s with
  | false => rw [hb] at h; cases h
  | true => rw [hb] at h; cases h; rw [beq_true.1 hb]
 ·cases h
theorem isTmp2_ok {l:List ResultVar} (h:isTmp2 l = true):l = [.tmp 2]:=by
 unfold isTmp2 at h
 split at h
 ·rw [beq_true.1 h]
 ·cases h
theorem wpOps_value {P:Program} {ops:Array Oper} {Q:Exit → Act → World → Prop} {o:Oper} {i:Nat} {rest:List Nat} {a:Act} {w:World} {v:Value} (ho:ops[i]? = some o) (hg:o.guard = none)
  (hr:(execOp a.eval o).run P w = .ok (.value v) w) (h:wpOps P ops Q rest (a.put o.dst v) w):wpOps P ops Q (i :: rest) a w:=by
 simp only [wpOps,ho,Region.wanted,hg,if_true]
 exact .inl (wp_value hr h)
theorem getter_does {T:Program} {f t kf lt:Nat} (h:getterOf T f = some (t,kf,lt)) {fo:Nat} {tf:TI} (hfa:fieldAt T t kf = some (fo,tf)) (hw:Nat.beq tf.width 0 = false) {ad:Addr} {v:Value} {w:World}
  (hl:(loadVar lt (ad.add fo)).run T w = .ok v w):Does T f #[.pointer (some ad)] w fun v' w' => v' = v ∧ w' = w:=by
 unfold getterOf at h
 split at h
 rotate_left
 ·cases h
 rename_i fn hf
 split at h
 rotate_left
 ·cases h
 rename_i c hb
 cases hc : (Nat.beq fn.ntmps 7 && (!(fn.name == "runtime.NumGoroutine") && isTmp2 fn.results.toList)) with
 | false => rw [hc] at h; cases h
 | true =>
 rw [hc] at h
 simp only [cond_true] at h
 simp only [Bool.and_eq_true,Bool.not_eq_true'] at hc
 obtain ⟨hn,hname,hres⟩:=hc
 have hn:=beq_true.1 hn
 have hres:fn.results = #[.tmp 2]:=Array.toList_inj.1 (by rw [isTmp2_ok hres])
 have hname' : fn.name ≠ "runtime.NumGoroutine" := by simpa using hname
 unfold getterCode at h
 split at h
 rotate_left
 ·cases h
 rename_i i0 z i1 ops
 unfold getterOps at h
 split at h
 rotate_left
 ·cases h
 rename_i o0 o1 o2 o3 o4 o5 hz ho
 have hz:z = #[o0]:=Array.toList_inj.1 (by rw [hz])
 have ho:ops = #[o1,o2,o3,o4,o5]:=Array.toList_inj.1 (by rw [ho])
 subst hz ho
 cases hc:(opIs o0 2 && isConst o0.op && (opIs o1 3 && isMove 0 o1.op) && (opIs o2 4 && isNilCheck 3 o2.op) && (opIs o3 5 && opIs o4 6) && (opIs o5 2 && isAssign 6 o5.op)) with
 | false => rw [hc] at h; cases h
 | true =>
 rw [hc] at h
 simp only [cond_true] at h
 simp only [Bool.and_eq_true] at hc
 obtain ⟨⟨⟨⟨⟨a0,b0⟩,a1,b1⟩,a2,b2⟩,a3,a4⟩,a5,b5⟩:=hc
 split at h
 rotate_left
 ·cases h
 rename_i t' k' l' h3 h4
 simp only [Option.some.injEq,Prod.mk.injEq] at h
 obtain ⟨rfl,rfl,rfl⟩:=h
 have h3:=asFieldAddr_ok h3
 have h4:=asLoad_ok h4
 obtain ⟨v0,b0⟩:=isConst_ok b0
 have b1:=isMove_ok b1
 have b2:=isNilCheck_ok b2
 have b5:=isAssign_ok b5
 have a0:=opIs_ok a0
 have a1:=opIs_ok a1
 have a2:=opIs_ok a2
 have a3:=opIs_ok a3
 have a4:=opIs_ok a4
 have a5:=opIs_ok a5
 have hfr:=run_fieldAt hfa hw ad w
 refine .inr ⟨by simp [callFunc,hf,hname',hb],?_⟩
 refine calls_of_wp hf hb ?_
 rw [hn]
 let p:Value:=.pointer (some ad)
 let q:Value:=.pointer (some (ad.add fo))
 have e0:(#[p] ++ Array.replicate (7 - #[p].size) undef) = #[p,undef,undef,undef,undef,undef,undef]:=rfl
 show Code.wp T _ _ ({ tmps:=#[p] ++ Array.replicate (7 - #[p].size) undef,defers:=[] }:Act) w
 rw [e0]
 refine wp_seq (wp_region ?_)
 refine wpOps_value (o:=o0) (v:=v0) rfl a0.1 (by simp [execOp,b0,Act.eval]) ?_
 show Code.wp T _ _ ((Act.mk #[p,undef,undef,undef,undef,undef,undef] []).put o0.dst v0) w
 rw [a0.2]
 show Code.wp T _ _ (Act.mk #[p,undef,v0,undef,undef,undef,undef] []) w
 refine wp_seq (wp_region ?_)
 refine wpOps_value (o:=o1) (v:=p) rfl a1.1 (by simp [execOp,b1,Act.eval]) ?_
 rw [a1.2]
 show wpOps T _ _ _ (Act.mk #[p,undef,v0,p,undef,undef,undef] []) w
 refine wpOps_value (o:=o2) (v:=p) rfl a2.1 (by simp [execOp,b2,Act.eval,p]) ?_
 rw [a2.2]
 show wpOps T _ _ _ (Act.mk #[p,undef,v0,p,p,undef,undef] []) w
 refine wpOps_value (o:=o3) (v:=q) rfl a3.1 (by simp [execOp,h3,Act.eval,p,q,hfr]) ?_
 rw [a3.2]
 show wpOps T _ _ _ (Act.mk #[p,undef,v0,p,p,q,undef] []) w
 refine wpOps_value (o:=o4) (v:=v) rfl a4.1 (by simp [execOp,h4,Act.eval,q,Instr.loadAt,Instr.sureAddr,hl]) ?_
 rw [a4.2]
 show wpOps T _ _ _ (Act.mk #[p,undef,v0,p,p,q,v] []) w
 refine wpOps_value (o:=o5) (v:=v) rfl a5.1 (by simp [execOp,b5,Act.eval]) ?_
 rw [a5.2]
 show Code.wp T _ _ (Act.mk #[p,undef,v,p,p,q,v] []) w
 refine wp_ret ?_
 refine ⟨rfl,v,?_,v,rfl,rfl,rfl⟩
 simp [results,hres]
section
variable {cx:Cx} {σ:St} {o:Oper} {k:Eff → Option R} {r:R}
theorem op_get (hdo:dstOk cx.n o.dst = true) (h:stepGet cx σ o k = some (some r)):∃ e,k e = some r ∧ OpOK cx.T cx.n σ o e:=by
 unfold stepGet at h
 split at h
 rotate_left
 ·cases h
 rename_i c ho
 split at h
 rotate_left
 ·cases h
 rename_i f id off hc hx
 split at h
 rotate_left
 ·cases h
 rename_i t kf lt hg
 split at h
 rotate_left
 ·cases h
 rename_i fo tf ti tid l hfa hti hm
 cases hw:Nat.beq tf.width 0 with
 | true => rw [hw] at h; cases h
 | false =>
 rw [hw] at h
 simp only [cond_false] at h
 split at h
 rotate_left
 ·cases h
 rename_i a1 hp
 simp only [Option.some.injEq] at h
 refine ⟨_,h,?_⟩
 intro C gh σ' a w next Q hn hag hs hk
 obtain ⟨x,hax,hxe⟩:∃ x,c.args.toList = [x] ∧ ev σ x = .v (.one (.ptr id off)):=by
  match hl:c.args.toList,hx with
  | [x],hx => simp only [hl,List.map_cons,List.map_nil,List.cons.injEq,and_true] at hx; exact ⟨x,rfl,hx⟩
  | [],hx => simp [hl] at hx
  | x :: y :: l,hx => simp [hl] at hx
 have hargs:c.args = #[x]:=Array.toList_inj.1 (by rw [hax])
 have hm':σ'.blk id = some (.box tid l):=by rw [agree_m hag (by simp)]; exact hm
 obtain ⟨g,vals,h1,h2,h3,h4⟩:=box_cells (hs.heap.blk id _ hm')
 obtain ⟨_,b,h5,h6⟩:=(ev_at hag hs (by intro k hk; simp [hax,hk]) hxe:RepC gh σ'.blk w (.ptr id off) (a.eval x))
 rw [h1] at h5
 simp at h5
 subst h5
 obtain ⟨v,hrun,hrep⟩:=run_load_part (lookT_ok hti) h3 h4 hp
 have hrun':(loadVar lt ((⟨g,off,none⟩:Addr).add fo)).run cx.T w = .ok v w:=by
  rw [add_plain,Nat.zero_add] at hrun
  rw [add_plain]
  exact hrun
 have hd:=getter_does hg hfa hw hrun'
 have hfn:a.eval (.func f) = .func (.func f) #[] #[]:=rfl
 refine does_wp (cv:=#[]) ho hc hfn (w:=w) (Rt:=fun v' w' => v' = v ∧ w' = w) ?_ ?_
 ·simp only [hargs,List.map_toArray,List.map_cons,List.map_nil,h6,Array.append_empty]
  exact hd
 ·rintro v' w' ⟨rfl,rfl⟩
  exact hk gh _ _ (sim_put hs (hn.1 ▸ hdo) rfl fun _ => hrep)
end
end Go.Vx
namespace Go.Vx
open Go Go.RowKit
set_option linter.unusedVariables false
set_option linter.unusedSimpArgs false
/-! ### 21. Every operation -/
theorem step0_sound {cx:Cx} (hG:∀ e ∈ cx.G,FEOK cx.T e) {R:Type} {σ:St} {o:Oper} {k:Eff → Option R} {r:R} (hdo:dstOk cx.n o.dst = true) (h:step0 cx σ o k = some r):∃ e,k e = some r ∧ OpOK cx.T cx.n σ o e:=by
 cases hop:o.op with
 | move x => exact ⟨_,by simpa only [step0,hop] using h,op_move (.inl hop) hdo⟩
 | assign x => exact ⟨_,by simpa only [step0,hop] using h,op_move (.inr hop) hdo⟩
 | pick c a b => exact op_pick hdo hop h
 | alloc t => exact op_alloc hdo hop h
 | box t x => exact op_box hdo hop h
 | build t ps => exact op_build hdo hop h
 | buildSlice t n ps => exact op_buildSlice hdo hop h
 | load t x => exact op_load hdo hop h
 | makeSlice t x y => exact op_makeSlice hdo hop h
 | makeFunc fn first caps => exact op_makeFunc hdo hop h
 | makeMap t rs => exact op_makeMap hdo hop h
 | lookup t x y ok => exact op_lookup hdo hop h
 | mapUpdate t x y z => exact op_mapUpdate hdo hop h
 | store t x y => exact op_store hdo hop h
 | nilCheck x => exact op_nilCheck hdo hop h
 | binOp op t x y t' => exact op_binOp hdo hop h
 | unOp op t x => exact op_unOp hdo hop h
 | convert s t x => exact op_convert hdo hop h
 | slice t x lo hi mx => exact op_slice hdo hop h
 | fieldAddr t x f => exact op_fieldAddr hdo hop h
 | field t x f => exact op_field hdo hop h
 | indexAddr t x i => exact op_indexAddr hdo hop h
 | index t x i => exact op_index hdo hop h
 | extract x i => exact op_extract hdo hop h
 | call c =>
  cases hc:c.callee with
  | builtin b => exact op_builtin hdo hop hc h
  | invoke rv name => simp [step0,hop,hc] at h
  | value x => exact op_call hG hdo hop hc h
 | _ => simp [step0,hop] at h

theorem step_sound {cx:Cx} (hG:∀ e ∈ cx.G,FEOK cx.T e) (R:Type):StepSound R cx:=by
 intro σ o k r hdo h
 unfold stepOp at h
 split at h
 ·rename_i r' hn
  subst h
  exact op_get hdo hn
 ·split at h
  ·rename_i r' hn
   subst h
   exact op_new hdo hn
  ·exact step0_sound hG hdo h

/-! ### 21b. Lists that are written no more -/
theorem frz_one {g0:Gh} {m0:Mem} {w0:World} {gh:Gh} {m:Mem} {w:World} (H:HeapOK gh m w) (T:Tr g0 m0 w0 gh m w) {i e:Nat} {r:Ty} {xs:List r.D} {b:Bool} (hi:m i = some (.lst e r xs b)) :
  HeapOK ⟨gh.val,fun x => gh.S x ∨ (x.spot = none ∧ gh.blk i = some x.block ∧ x.off < xs.length * r.width),gh.K⟩ (upd m i (.lst e r xs true)) w ∧
  Tr g0 m0 w0 ⟨gh.val,fun x => gh.S x ∨ (x.spot = none ∧ gh.blk i = some x.block ∧ x.off < xs.length * r.width),gh.K⟩ (upd m i (.lst e r xs true)) w:=by
 have hlook:∀ j c,upd m i (.lst e r xs true) j = some c → (j = i ∧ c = .lst e r xs true) ∨ (j ≠ i ∧ m j = some c):=by
  intro j c hj
  by_cases h:i = j
  ·subst h; rw [upd_same] at hj; exact .inl ⟨rfl,(Option.some.inj hj).symm⟩
  ·rw [upd_other _ _ h] at hj; exact .inr ⟨fun e => h e.symm,hj⟩
 have hlive:∀ j c,upd m i (.lst e r xs true) j = some c → c.live = true → ∃ c',m j = some c' ∧ c'.live = true:=by
  intro j c hj hl
  rcases hlook j c hj with ⟨rfl,rfl⟩ | ⟨_,h⟩
  ·exact ⟨_,hi,rfl⟩
  ·exact ⟨c,h,hl⟩
 have hS:∀ x,gh.S x → (gh.S x ∨ (x.spot = none ∧ gh.blk i = some x.block ∧ x.off < xs.length * r.width)):=fun x h => .inl h
 have hext:∀ id,m id ≠ none → upd m i (.lst e r xs true) id ≠ none ∧ gh.val id = gh.val id:=fun id h => by
  refine ⟨?_,rfl⟩
  by_cases h':i = id
  ·subst h'; rw [upd_same]; simp
  ·rw [upd_other _ _ h']; exact h
 have hblk:∀ id,(Gh.mk gh.val (fun x => gh.S x ∨ (x.spot = none ∧ gh.blk i = some x.block ∧ x.off < xs.length * r.width)) gh.K).blk id = gh.blk id:=fun id => rfl
 refine ⟨⟨⟨?_,?_,?_,?_⟩,fun k cs hk => ⟨(H.gr k cs hk).1,fun j c hj hl he => by
  obtain ⟨c',h1,h2⟩:=hlive j c hj hl
  exact (H.gr k cs hk).2 j c' h1 h2 he⟩⟩,⟨T.os,T.tape,T.output,T.size,T.same,fun x h => .inl (T.S x h),T.scell,?_,?_,?_,T.drawn,T.K⟩⟩
 ·intro j c hj
  rcases hlook j c hj with ⟨rfl,rfl⟩ | ⟨_,h⟩
  ·obtain ⟨vs,h1,h2,h3,h4⟩:=H.blk _ _ hi
   exact ⟨vs,h1,repCs_mono (g:=gh) (g':=⟨gh.val,fun x => gh.S x ∨ (x.spot = none ∧ gh.blk j = some x.block ∧ x.off < xs.length * r.width),gh.K⟩) (m:=m) (w:=w) hS (fun _ _ => rfl) hext h2,h3,fun _ g hg k hk => .inr ⟨rfl,hg,hk⟩⟩
  ·exact blkOK_same (gh:=gh) (gh':=⟨gh.val,fun x => gh.S x ∨ (x.spot = none ∧ gh.blk i = some x.block ∧ x.off < xs.length * r.width),gh.K⟩) (m:=m) (w:=w) hS (fun _ _ => rfl) hext (by rw [h]; simp) (fun _ _ _ => rfl) (H.blk j c h)
 ·intro j k c d hj hk hl hl' hne g hg
  obtain ⟨c',h1,h2⟩:=hlive j c hj hl
  obtain ⟨d',h3,h4⟩:=hlive k d hk hl'
  exact H.inj j k c' d' h1 h3 h2 h4 hne g hg
 ·intro x hx j c hj hg
  rcases hlook j c hj with ⟨rfl,rfl⟩ | ⟨hne,h⟩
  ·rcases hx with hx | ⟨_,_,hx⟩
   ·have:=H.sep x hx j _ hi hg; exact ⟨rfl,this.2⟩
   ·exact ⟨rfl,hx⟩
  ·rcases hx with hx | ⟨_,hb,hx⟩
   ·exact H.sep x hx j c h hg
   ·cases hl:c.live with
    | true => exact absurd hg (H.inj i j _ c hi h rfl hl (fun e => hne e.symm) _ hb)
    | false => cases c with
     | dead => trivial
     | box tid l => cases hl
     | lst e r xs fz => cases hl
     | mp kr es => cases hl
     | byt e xs => cases hl
     | it s pos => cases hl
 ·intro x hx
  rcases hx with hx | ⟨h0,hb,hx⟩
  ·exact H.st x hx
  ·refine ⟨h0,?_⟩
   obtain ⟨vs,h1,_⟩:=H.blk _ _ hi
   have hvl:vs.length = xs.length * r.width:=h1.1
   have hv:vs[x.off]? = some (vs[x.off]'(by rw [hvl]; exact hx)):=List.getElem?_eq_getElem _
   have hob:(gh.val i).ownBlock = some x.block:=by rw [← own_blockOf h1]; exact hb
   have:=h1.cells hob x.off _ hv
   rw [add_plain,Nat.zero_add] at this
   have hx':x = ⟨x.block,x.off,none⟩:=by cases x; simp_all
   rw [hx']
   exact ⟨_,this⟩
 ·intro x hx
  rcases hx with hx | ⟨_,hb,_⟩
  ·exact T.newS x hx
  ·rcases T.ids i _ hi rfl _ hb with h | h
   ·exact .inr (.inl h)
   ·exact .inr (.inr h)
 ·intro j c hj hl k hk
  obtain ⟨c',h1,h2⟩:=hlive j c hj hl
  exact T.ids j c' h1 h2 k hk
 ·intro id hp hid
  refine T.pin id hp ?_
  by_cases h':i = id
  ·subst h'; rw [hi]; simp
  ·rw [upd_other _ _ h'] at hid; exact hid
theorem frz_look {m:List (Nat × Blk)} {i e:Nat} {r:Ty} {xs:List r.D} (h:lookM i m = some (.lst e r xs false)):∀ l,∃ b,lookM i (frz m l) = some (.lst e r xs b)
 | [] => ⟨false,h⟩
 | j :: l => by
  have ih:=frz_look h l
  simp only [frz]
  split
  ·rename_i e' r' xs' hj
   simp only [lookM]
   cases hk:Nat.beq j i with
   | true =>
    have:=beq_true.1 hk
    subst this
    rw [h] at hj
    injection hj with hj
    exact ⟨true,by rw [cond_true]; injection hj with h1 h2 h3; subst h1 h2; rw [eq_of_heq h3]⟩
   | false => exact ih
  ·exact ih
theorem frz_sim {g0:Gh} {m0:Mem} {w0:World} {gh:Gh} {m:List (Nat × Blk)} {w:World} (H:HeapOK gh (fun i => lookM i m) w) (T:Tr g0 m0 w0 gh (fun i => lookM i m) w):∀ l,∃ gh',HeapOK gh' (fun i => lookM i (frz m l)) w ∧ Tr g0 m0 w0 gh' (fun i => lookM i (frz m l)) w ∧
  (∀ x,gh.S x → gh'.S x) ∧ (∀ id,lookM id m ≠ none → lookM id (frz m l) ≠ none ∧ gh'.val id = gh.val id)
 | [] => ⟨gh,H,T,fun _ h => h,fun _ h => ⟨h,rfl⟩⟩
 | i :: l => by
  obtain ⟨gh',h1,h2,h3,h4⟩:=frz_sim H T l
  simp only [frz]
  split
  ·rename_i e r xs hi
   obtain ⟨b,hb⟩:=frz_look hi l
   obtain ⟨h5,h6⟩:=frz_one h1 h2 hb
   refine ⟨_,h5,h6,fun x hx => .inl (h3 x hx),fun id hid => ?_⟩
   obtain ⟨h7,h8⟩:=h4 id hid
   refine ⟨?_,h8⟩
   simp only [lookM]
   cases Nat.beq i id with
   | true => simp
   | false => exact h7
  ·exact ⟨gh',h1,h2,h3,h4⟩

/-! ### 22. Functions -/
theorem resVals_run {P:Program} {C:Ctx} {gh:Gh} {σ:St} {a:Act} {w:World} (hs:Sim C gh σ a w):∀ (l:List ResultVar) (avs:List AV),resVals P σ l = some avs →
  ∃ vs:List Value,(List.mapM (fun (x:ResultVar) => (match x with
   | .tmp t => pure (a.tmps.getD t undef)
   | .cell s t => do loadVar t (← asAddr (a.tmps.getD s undef)):Sem Value)) l).run P w = .ok vs w ∧ All2 (RepV gh σ.blk w) avs vs
 | [],avs,h => by
  simp [resVals] at h
  subst h
  exact ⟨[],rfl,.nil⟩
 | x :: l,avs,h => by
  simp only [resVals] at h
  cases hx:resVal P σ x with
  | none => rw [hx] at h; cases h
  | some av =>
   cases hl:resVals P σ l with
   | none => rw [hx,hl] at h; cases h
   | some avs' =>
    rw [hx,hl] at h
    simp at h
    subst h
    obtain ⟨vs,h1,h2⟩:=resVals_run hs l avs' hl
    have hone:∃ v,((match x with
      | .tmp t => pure (a.tmps.getD t undef)
      | .cell s t => do loadVar t (← asAddr (a.tmps.getD s undef)):Sem Value)).run P w = .ok v w ∧ RepV gh σ.blk w av v:=by
     cases x with
     | tmp t =>
      simp [resVal] at hx
      subst hx
      exact ⟨_,rfl,hs.env t⟩
     | cell s t =>
      simp only [resVal] at hx
      split at hx
      ·rename_i ti id off hti hge
       split at hx
       ·rename_i cs hm
        cases hp:part ti cs off with
        | none => rw [hp] at hx; cases hx
        | some a1 =>
         rw [hp] at hx
         simp at hx
         subst hx
         obtain ⟨g,vals,h3,h4,h5,h6⟩:=box_cells (hs.heap.blk id _ hm)
         have hrep:=hs.env s
         rw [hge] at hrep
         obtain ⟨_,b,h7,h8⟩:=(hrep:RepC gh σ.blk w (.ptr id off) (a.tmps.getD s undef))
         rw [h3] at h7
         simp at h7
         subst h7
         obtain ⟨v,hrun,hr⟩:=run_load_part (lookT_ok hti) h5 h6 hp
         refine ⟨v,?_,hr⟩
         rw [add_plain,Nat.zero_add] at hrun
         simp only [h8,Sem.run_bind,asAddr,Sem.run_pure,Result.andThen_ok]
         exact hrun
       ·cases hx
      ·cases hx
    obtain ⟨v,h3,h4⟩:=hone
    refine ⟨v :: vs,?_,.cons h4 h2⟩
    rw [List.mapM_cons]
    simp only [Sem.run_bind,h3,h1,Result.andThen_ok,Sem.run_pure]
theorem results_run {P:Program} {C:Ctx} {gh:Gh} {σ:St} {a:Act} {w:World} (hs:Sim C gh σ a w) {fn:Func} {avs:List AV} (h:resVals P σ fn.results.toList = some avs) :
  ∃ vs:List Value,(results fn a.tmps).run P w = .ok (if h:vs.toArray.size = 1 then vs.toArray[0] else .tuple vs.toArray) w ∧ All2 (RepV gh σ.blk w) avs vs:=by
 obtain ⟨vs,h1,h2⟩:=resVals_run hs _ _ h
 refine ⟨vs,?_,h2⟩
 unfold results
 rw [Array.mapM_eq_mapM_toList]
 simp only [map_eq_pure_bind,Sem.run_bind]
 erw [h1]
 rfl
theorem all2_get' {α β:Type} {R:α → β → Prop} {l:List α} {k:List β} (hl:All2 R l k):∀ {i:Nat} {b:β},k[i]? = some b → ∃ a,l[i]? = some a ∧ R a b:=by
 induction hl with
 | nil => intro i b h; simp at h
 | cons h1 _ ih =>
  intro i b h
  cases i with
  | zero => simp at h; subst h; exact ⟨_,by simp,h1⟩
  | succ i => simp at h; obtain ⟨a,ha,hr⟩:=ih h; exact ⟨a,by simpa using ha,hr⟩
theorem emEnv_at:∀ {l:List (Nat × SA1)} {X:Type} {p:envP l X} {k:Nat},inOrder k l = true → ∀ (i:Nat) (a:A1),(outA1s (emEnv l p).1)[i]? = some a → lookE (k + i) (emEnv l p).1 = .v a
 | [],X,p,k,h,i,a,ha => by simp [emEnv,outA1s] at ha
 | e :: l,X,p,k,h,i,a,ha => by
  simp only [inOrder,Bool.and_eq_true] at h
  have he:=beq_true.1 h.1
  simp only [emEnv,outA1s] at ha
  simp only [emEnv,lookE]
  cases i with
  | zero =>
   simp at ha
   rw [he]
   simp [ha]
  | succ i =>
   have hb:Nat.beq e.1 (k + (i + 1)) = false:=beq_ne (by omega)
   rw [hb]
   simp only [cond_false]
   have:=emEnv_at (p:=(emA1 e.2 p).2) h.2 i a (by simpa using ha)
   rw [show k + (i + 1) = k + 1 + i by omega]
   exact this
theorem outA1s_length:∀ {l:List (Nat × SA1)} {X:Type} {p:envP l X},(outA1s (emEnv l p).1).length = l.length
 | [],X,p => rfl
 | e :: l,X,p => by simp only [emEnv,outA1s,List.length_cons,outA1s_length (l:=l)]
theorem func_ok {cx : Cx} (hG : ∀ e ∈ cx.G, FEOK cx.T e) {f : FuncId} {fn : Func} {c : Code} {sh out : Shape} (hf : cx.T.funcs[f]? = some fn) (hb : fn.body = some c) (hname : (fn.name == "runtime.NumGoroutine") = false)
  (hn:sh.env.length + (fn.ntmps - sh.env.length) = cx.n) (hio:inOrder 0 sh.env = true) (hnd:NeedsOK cx c):FEOK cx.T ⟨f,sh,out,func cx fn c sh out⟩:=by
 intro p r h gh w args hsz hH hargs hgd
 refine .inr ⟨?_,?_⟩
 ·have hname' : fn.name ≠ "runtime.NumGoroutine" := by simpa using hname
  simp [callFunc,hf,hname',hb]
 refine calls_of_wp hf hb ?_
 let C:Ctx:=⟨gh,(embed sh p).blk,w,cx.n⟩
 have hs:Sim C gh (embed sh p) { tmps:=args ++ Array.replicate (fn.ntmps - args.size) undef,defers:=[] } w:=by
  refine ⟨rfl,by simp only [Array.size_append,Array.size_replicate]; rw [hsz]; exact hn,fun s => ?_,hH,Tr.refl _ _ _⟩
  have hg:(args ++ Array.replicate (fn.ntmps - args.size) undef).getD s undef = args.getD s undef:=by
   simp only [Array.getD_eq_getD_getElem?,Array.getElem?_append,Array.getElem?_replicate]
   split
   ·rfl
   ·rename_i hlt
    rw [Array.getElem?_eq_none (by omega)]
    split <;> rfl
  rw [hg]
  exact hargs s
 have hend:∀ (σ:St),((resVals cx.T σ fn.results.toList).bind fun l => bif inOrder 0 out.env && Nat.beq out.env.length l.length then extract out ⟨argEnv 0 l,frz σ.mem cx.fr⟩ else none) = some r → ∀ gh' a' w',Sim C gh' σ a' w' →
   a'.defers = [] ∧ ∃ v,(results fn a'.tmps).run cx.T w' = .ok v w' ∧ ∃ v',Ending.returned v = Ending.returned v' ∧ Ret out r gh (embed sh p).blk w v' w':=by
  intro σ hσ gh1 a' w' hs1
  refine ⟨hs1.defers,?_⟩
  obtain ⟨gh',fH,fT,fS,fV⟩:=frz_sim hs1.heap hs1.tr cx.fr
  cases hres:resVals cx.T σ fn.results.toList with
  | none => rw [hres] at hσ; cases hσ
  | some l =>
   rw [hres] at hσ
   simp only [Option.bind_some] at hσ
   cases hc:(inOrder 0 out.env && Nat.beq out.env.length l.length) with
   | false => rw [hc] at hσ; cases hσ
   | true =>
    rw [hc] at hσ
    simp only [cond_true] at hσ
    simp only [Bool.and_eq_true] at hc
    have hlen:=beq_true.1 hc.2
    obtain ⟨vs,hrun,hvs1⟩:=results_run hs1 hres
    have hvs:All2 (RepV gh' (fun i => lookM i (frz σ.mem cx.fr)) w') l vs:=All2.mono (fun a v hv => repV_mono (g:=gh1) (m:=σ.blk) (w:=w') fS (fun _ _ => rfl) fV hv) hvs1
    refine ⟨_,hrun,_,rfl,?_⟩
    obtain ⟨ρ,hm,hpo,hex⟩:=extract_match hσ
    have hfit:=fits (pins_inj _) hm hex
    have hfm:∀ i b,(embed out r).blk i = some b → BRel ρ (frz σ.mem cx.fr) i b:=hfit.mem
    have ht:=fT
    have hone:∀ (i:Nat) (a:A1) (v:Value),(outA1s (embed out r).env)[i]? = some a → vs[i]? = some v → Rep1 (renGh gh' ρ) (embed out r).blk w' a v:=by
     intro i a v ha hv
     obtain ⟨av,h1,h2⟩:=all2_get' hvs hv
     have h3:=hfit.env i
     have h4:(embed out r).get i = .v a:=by
      have:=emEnv_at (p:=r) hc.1 i a ha
      rw [Nat.zero_add] at this
      exact this
     have h5:(St.mk (argEnv 0 l) (frz σ.mem cx.fr)).get i = av:=by
      show lookE i (argEnv 0 l) = av
      rw [argEnv_get]
      simp [h1]
     rw [h4,h5] at h3
     exact a1rel_rep fH hfit.has h3 h2
    refine ⟨renGh gh' ρ,heap_ren fH hfit.inj hfit.has hfm,?_,?_⟩
    ·exact ⟨ht.os,ht.tape,ht.output,ht.size,ht.same,ht.S,ht.scell,ht.newS,fun i b hib hl k hk => by
      obtain ⟨j,cc,g1,g2,g3,g4⟩:=live_ren (gh:=gh') hfm hib hl hk
      exact ht.ids j cc g2 g3 k g4,fun id hp hid => by
      obtain ⟨hx,_,hv⟩:=pin_ren (gh:=gh') hfm hpo hp hid
      obtain ⟨h1,h2⟩:=ht.pin id hp hx
      exact ⟨h1,hv.trans h2⟩,ht.drawn,ht.K⟩
    ·have hl1:(outA1s (embed out r).env).length = vs.length:=by
      have h1:=hvs.length
      have h2:(outA1s (emEnv out.env r).1).length = out.env.length:=outA1s_length
      show (outA1s (emEnv out.env r).1).length = vs.length
      omega
     have hall:All2 (Rep1 (renGh gh' ρ) (embed out r).blk w') (outA1s (embed out r).env) vs:=All2.of_get hl1 fun i a v ha hv => hone i a v ha hv
     match hl:outA1s (embed out r).env,vs,hl1,hall with
     | [a],[v],_,.cons h1 _ => exact h1
     | [],[],_,h1 => exact ⟨#[],rfl,h1⟩
     | a :: b :: l,u :: v :: vs,_,h1 =>
      refine ⟨(u :: v :: vs).toArray,?_,h1⟩
      rw [dif_neg (by simp)]
 refine run_sound (step_sound hG _) c _ _ r hnd h C gh _ w _ ⟨rfl,hgd⟩ hs fun x τ hK gh' a' w' hs' => ?_
 cases x with
 | norm => exact hend τ hK gh' a' w' hs'
 | ret => exact hend τ hK gh' a' w' hs'
 | ex i => cases hK
 | go l => cases hK
end Go.Vx
/-! Words for the printed entries. -/
namespace Go.Vx
open Go
def AllFE (P:Program):List FE → Prop
 | [] => True
 | e :: l => FEOK P e ∧ AllFE P l
theorem all_fe {P:Program}:∀ {l:List FE},AllFE P l → ∀ e ∈ l,FEOK P e
 | [],_,e,h => by cases h
 | a :: l,⟨h1,h2⟩,e,h => by
  rcases List.mem_cons.1 h with rfl | h
  ·exact h1
  ·exact all_fe h2 e h
def AllCE (P:Program) (n:Nat):List (Need × CE) → Prop
 | [] => True
 | x :: l => CEOK P n x.1 x.2 ∧ AllCE P n l
theorem all_ce {P:Program} {n:Nat}:∀ {l:List (Need × CE)},AllCE P n l → ∀ x ∈ l,CEOK P n x.1 x.2
 | [],_,e,h => by cases h
 | a :: l,⟨h1,h2⟩,e,h => by
  rcases List.mem_cons.1 h with rfl | h
  ·exact h1
  ·exact all_ce h2 e h
theorem needs_of {cx:Cx} {c:Code} {l:List (Need × CE)} (h:needs cx.L c = l) (h':AllCE cx.T cx.n l):NeedsOK cx c:=by
 intro x hx
 rw [h] at hx
 exact all_ce h' x hx

theorem rec_ok {P:Program} {f:FuncId} {sh out:Shape} {F:Nat → sh.D → Option out.D} (h0:∀ p,F 0 p = none) (hs:∀ k,FEOK P ⟨f,sh,out,F k⟩ → FEOK P ⟨f,sh,out,F (k + 1)⟩):∀ k,FEOK P ⟨f,sh,out,F k⟩
 | 0 => fun p r h => by
  have:F 0 p = some r:=h
  rw [h0] at this
  cases this
 | k + 1 => hs k (rec_ok h0 hs k)
end Go.Vx
/-! From an entry of a law to what the row asks. -/
namespace Go.Vx
open Go Go.RowKit Go.Proofs
set_option linter.unusedVariables false
set_option linter.unusedSimpArgs false
@[reducible] def outB:Shape:=⟨[(0,.one (.d .bool))],[]⟩
theorem law_calls {P:Program} {f:FuncId} {sh:Shape} {F:sh.D → Option outB.D} (h:FEOK P ⟨f,sh,outB,F⟩) (hmem:sh.mem = []) (ents:∀ args w,(callFunc f args).run P w = .ok (.enter f args) w) {args:Array Value} {S:Addr → Prop} {K:Nat → Option (Array Value)} {w:World} (hgd:Ground P K) (hgr:∀ k cs,K k = some cs → ∃ e fz,w.heap[k]? = some (.cells cs e fz))
  (hst:∀ x,S x → x.spot = none ∧ ∃ v,w.cell? x = some v) (p:sh.D) (hF:F p = some (true,())) (hsz:args.size = sh.env.length)
  (hargs:∀ i,RepV ⟨fun _ => .bool false,S,K⟩ (fun _ => none) w ((embed sh p).get i) (args.getD i undef)) :
  Calls P f args w fun e w' => e = .returned (.bool true) ∧ Below w.heap.size w w':=by
 have hb:(embed sh p).blk = fun _ => none:=by
  funext i
  obtain ⟨e,m⟩:=sh
  simp only at hmem
  subst hmem
  rfl
 have hH:HeapOK ⟨fun _ => .bool false,S,K⟩ (fun _ => none) w:=⟨⟨fun id b h => (by cases h),fun i j b c h => (by cases h),fun x hx id b h => (by cases h),hst⟩,fun k cs hk => ⟨hgr k cs hk,fun id b h => (by cases h)⟩⟩
 have:=h p (true,()) hF ⟨fun _ => .bool false,S,K⟩ w args hsz (by show HeapOK _ (embed sh p).blk w; rw [hb]; exact hH) (by intro i; show RepV _ (embed sh p).blk w _ _; rw [hb]; exact hargs i) hgd
 rcases this with ⟨v,w',q1,_⟩ | ⟨_,q2⟩
 ·rw [ents] at q1; cases q1
 ·refine Calls.mono q2 fun e w' ⟨v,he,gh',hH',hT',hres⟩ => ?_
  have hv:v = .bool true:=hres
  refine ⟨by rw [he,hv],hT'.os,hT'.tape,hT'.output,hT'.size,fun k hk => hT'.same k hk fun id b hid => ?_⟩
  have hid':(embed sh p).blk id = some b:=hid
  rw [hb] at hid'
  cases hid'
/-! The table that the library reads. -/
theorem laid_reads {P:Program} {w:World}:∀ {l:List (String × DataW Unit)} {ps:List MemPlace},DataW.LaidVars P w l ps → ∀ n d,(n,d) ∈ l →
  ∃ g t cs fuel p,P.globalNamed n = some g ∧ (P.globals[g]?).map (·.type) = some t ∧ w.var? P n = some cs ∧ DataW.trod (fun _ => ()) P w 0 (fun _ => true) false fuel t cs.toList = some (d,p)
 | [],_,_,_,_,hm => by cases hm
 | (n',d') :: r,ps,h,n,d,hm => by
  obtain ⟨g,t,cs,fuel,p,q,h1,h2,h3,h4,h5,_⟩:=h
  rcases List.mem_cons.1 hm with e | e
  ·cases e
   exact ⟨g,t,cs,fuel,p,h1,h2,h3,h4⟩
  ·exact laid_reads h5 n d e
def K1 (g:Nat):Nat → Option (Array Value):=fun k => if k = g then some pow10 else none
theorem ground_of_laid {P : Program} {w : World} {l : List (String × DataW Unit)} (hL : laidMet P l w) {d : DataW Unit} (hm : ("internal/strconv.uint64pow10", d) ∈ l) (hd : d = Lib.tabData .u64 Lib.pow10Tab) {g t n e : Nat}
  (hg : P.globalNamed "internal/strconv.uint64pow10" = some g) (hty : (P.globals[g]?).map (·.type) = some t) (ht : P.underlying t = some (.array n e)) (he : P.underlying e = some (.int .u64)) (hce : P.cellsOf e = 1) (hct : P.cellsOf t = n) :
  Ground P (K1 g) ∧ ∀ k cs,K1 g k = some cs → ∃ e fz,w.heap[k]? = some (.cells cs e fz):=by
 obtain ⟨ps,hv,_⟩:=hL
 obtain ⟨g',t',cs,fuel,p,h1,h2,h3,h4⟩:=laid_reads hv _ _ hm
 obtain rfl:=Option.some.inj (hg.symm.trans h1)
 obtain rfl:=Option.some.inj (hty.symm.trans h2)
 rw [hd] at h4
 have hcs:=Lib.cells_of_tab ht he hce hct h4
 refine ⟨fun k hk => ?_,fun k cs' hk => ?_⟩
 ·obtain rfl:=Option.some.inj (hg.symm.trans hk)
  simp [K1]
 ·unfold K1 at hk
  split at hk
  ·rename_i hkg
   subst hkg
   injection hk with hk
   subst hk
   unfold World.var? at h3
   rw [hg] at h3
   simp only [Option.bind_some] at h3
   split at h3
   ·rename_i cs0 e0 fz0 hh
    injection h3 with h3
    subst h3
    refine ⟨e0,fz0,?_⟩
    have:cs0 = pow10:=Array.toList_inj.1 (by rw [hcs]; rfl)
    rw [hh,this]
   ·cases h3
  ·cases hk
def IsRow (k:IntKind) (w:World) (a:Option Addr) (len cap:Nat) (zs:List Int):Prop:=
 (a = none ∧ len = 0 ∧ cap = 0 ∧ zs = []) ∨
 ∃ x,a = some x ∧ len ≤ cap ∧ cap ≤ maxLen ∧ zs.length = cap ∧ (∀ i,i < zs.length → w.cell? (x.add i) = some (.int k (zs.getD i 0))) ∧ ∀ n ∈ zs,(Lit.int k n).wf = true
def RowS (a:Option Addr) (n:Nat) (y:Addr):Prop:=∃ x,a = some x ∧ ∃ i,i < n ∧ y = x.add i
theorem isRow_st {k:IntKind} {w:World} {a:Option Addr} {len cap:Nat} {zs:List Int} (h:IsRow k w a len cap zs) {y:Addr} (hy:RowS a zs.length y):y.spot = none ∧ ∃ v,w.cell? y = some v:=by
 obtain ⟨x,rfl,i,hi,rfl⟩:=hy
 rcases h with ⟨h,_⟩ | ⟨x',h1,_,_,_,h2,_⟩
 ·cases h
 ·injection h1 with h1
  subst h1
  exact ⟨World.cell?_spot (h2 i hi),_,h2 i hi⟩
theorem isRow_rep {k:IntKind} {w:World} {a:Option Addr} {len cap:Nat} {zs:List Int} (h:IsRow k w a len cap zs) {S:Addr → Prop} (hS:∀ y,RowS a zs.length y → S y):RepD S w (.list (.int k)) (zs.take len) (.slice a len cap):=by
 rcases h with ⟨rfl,rfl,rfl,rfl⟩ | ⟨x,rfl,h1,h2,h3,h4,_⟩
 ·exact ⟨none,0,rfl,Nat.le_refl _,fun _ => rfl,fun hl => by simp at hl⟩
 ·have hl:(zs.take len).length = len:=by rw [List.length_take]; omega
  refine ⟨some x,cap,by rw [hl],by rw [hl]; exact h1,(fun e => by cases e),fun _ => ⟨x,rfl,fun i hi => ?_⟩⟩
  rw [hl] at hi
  have hi':i < zs.length:=by omega
  refine ⟨_,hS _ ⟨x,rfl,i * 1,by omega,rfl⟩,?_,rfl⟩
  show w.cell? (x.add (i * 1)) = some (.int k ((zs.take len)[i]'(by omega)))
  rw [Nat.mul_one,h4 i hi',List.getElem_take]
  simp [List.getD,hi']
end Go.Vx
/-! Entries of three functions that have no body: any program. -/
namespace Go.Vx
open Go Go.RowKit
set_option linter.unusedVariables false
set_option linter.unusedSimpArgs false
def lit (l:List UInt8):ByteArray:=⟨⟨l⟩⟩
def xCompare (a b:ByteArray):Int:=Extern.BytealgCompare.cmp a b
def xCount (s:ByteArray) (c:Int):Int:=s.foldl (fun (n:Int) x => if x == c.toNat.toUInt8 then n + 1 else n) ((0:Nat):Int)
def xIndexByte (s:ByteArray) (c:Int):Int:=match (List.range s.size).find? fun i => s[i]! == c.toNat.toUInt8 with
 | some i => (i:Int)
 | none => -1
@[reducible] def shCompare:Shape:=⟨[(0,.one (.d .str)),(1,.one (.d .str))],[]⟩
@[reducible] def shByte:Shape:=⟨[(0,.one (.d .str)),(1,.one (.d (.int .u8)))],[]⟩
@[reducible] def outInt:Shape:=⟨[(0,.one (.d (.int .i64)))],[]⟩
theorem run_ext {P : Program} {f : FuncId} {fn : Func} {e : Array Value → Sem Value} (hf : P.funcs[f]? = some fn) (hname : (fn.name == "runtime.NumGoroutine") = false) (hb : fn.body.isNone = true) (hn : (Extern.findNext fn).isNone = true) (he : Extern.find fn = some e)
  {args:Array Value} {w:World} {v:Value} (hv:(e args).run P w = .ok v w):(callFunc f args).run P w = .ok (.value v) w:=by
 have hn':Extern.findNext fn = none:=by simpa using hn
 have hname' : fn.name ≠ "runtime.NumGoroutine" := by simpa using hname
 have hb':fn.body = none:=by simpa using hb
 simp [callFunc,hf,hname',hb',hn',he,mark,hv,Sem.run]
theorem two_args {args:Array Value} (h:args.size = 2) {a b:Value} (h0:args.getD 0 undef = a) (h1:args.getD 1 undef = b):args = #[a,b]:=by
 subst h0 h1
 apply Array.ext
 ·simpa using h
 ·intro i h1 h2
  simp at h2
  match i,h2 with
  | 0,_ => simp [Array.getD,h1]
  | 1,_ => simp [Array.getD,h1]
theorem ext_int {P:Program} {f:FuncId} {sh:Shape} {F:sh.D → Option outInt.D} (hm:sh.mem = [])
  (h:∀ p r,F p = some r → ∀ gh w (args:Array Value),args.size = sh.env.length → (∀ i,RepV gh (embed sh p).blk w ((embed sh p).get i) (args.getD i undef)) → (callFunc f args).run P w = .ok (.value (.int .i64 r.1)) w):FEOK P ⟨f,sh,outInt,F⟩:=by
 intro p r hF gh w args hsz hH hargs _
 refine .inl ⟨_,w,h p r hF gh w args hsz hargs,gh,?_,?_,rfl⟩
 ·have:(embed sh p).blk = (embed outInt r).blk:=by
   funext i
   obtain ⟨e,m⟩:=sh
   simp only at hm
   subst hm
   rfl
  rw [← this]
  exact hH
 ·have:(embed sh p).blk = (embed outInt r).blk:=by
   funext i
   obtain ⟨e,m⟩:=sh
   simp only at hm
   subst hm
   rfl
  show Tr gh (embed sh p).blk w gh (embed outInt r).blk w
  rw [this]
  exact Tr.refl _ _ _
def FCompare:shCompare.D → Option outInt.D:=fun p => some (xCompare p.1 p.2.1,())
def FCount:shByte.D → Option outInt.D:=fun p => some (xCount p.1 p.2.1,())
def FIndexByte:shByte.D → Option outInt.D:=fun p => some (xIndexByte p.1 p.2.1,())
section
variable {P:Program} {f:FuncId} {fn:Func}
theorem ok_compare (hf : P.funcs[f]? = some fn) (hname : (fn.name == "runtime.NumGoroutine") = false) (hb : fn.body.isNone = true) (hn : (Extern.findNext fn).isNone = true) (he : Extern.find fn = some Extern.BytealgCompare.compare) : FEOK P ⟨f, shCompare, outInt, FCompare⟩ := by
 refine ext_int rfl fun p r hF gh w args hsz hargs => ?_
 injection hF with hF
 subst hF
 have h0:args.getD 0 undef = .string p.1:=hargs 0
 have h1:args.getD 1 undef = .string p.2.1:=hargs 1
 rw [two_args hsz h0 h1]
 exact run_ext hf hname hb hn he rfl
theorem ok_count (hf : P.funcs[f]? = some fn) (hname : (fn.name == "runtime.NumGoroutine") = false) (hb : fn.body.isNone = true) (hn : (Extern.findNext fn).isNone = true) (he : Extern.find fn = some Extern.BytealgCount.count) : FEOK P ⟨f, shByte, outInt, FCount⟩ := by
 refine ext_int rfl fun p r hF gh w args hsz hargs => ?_
 injection hF with hF
 subst hF
 have h0:args.getD 0 undef = .string p.1:=hargs 0
 have h1:args.getD 1 undef = .int .u8 p.2.1:=hargs 1
 rw [two_args hsz h0 h1]
 exact run_ext hf hname hb hn he rfl
theorem ok_indexByte (hf : P.funcs[f]? = some fn) (hname : (fn.name == "runtime.NumGoroutine") = false) (hb : fn.body.isNone = true) (hn : (Extern.findNext fn).isNone = true) (he : Extern.find fn = some Extern.BytealgIndexByte.indexByte) : FEOK P ⟨f, shByte, outInt, FIndexByte⟩ := by
 refine ext_int rfl fun p r hF gh w args hsz hargs => ?_
 injection hF with hF
 subst hF
 have h0:args.getD 0 undef = .string p.1:=hargs 0
 have h1:args.getD 1 undef = .int .u8 p.2.1:=hargs 1
 rw [two_args hsz h0 h1]
 refine run_ext hf hname hb hn he ?_
 show Sem.run P (match (List.range p.1.size).find? fun i => p.1[i]! == p.2.1.toNat.toUInt8 with | some i => pure (goInt i) | none => pure (goInt (-1))) w = .ok (.int .i64 (xIndexByte p.1 p.2.1)) w
 unfold xIndexByte
 split
 ·rename_i i hi; simp [hi,goInt]
 ·rename_i hi; simp [hi,goInt]
end
end Go.Vx
/-! Entries by the shelf's contracts, and of functions without a body. -/
namespace Go.Vx
open Go Go.RowKit Go.Shelf Go.Proofs
set_option linter.unusedVariables false
set_option linter.unusedSimpArgs false
variable {P:Program}
theorem ok_grown {f:FuncId} {sh out:Shape} {F:sh.D → Option out.D} (hm:sh.mem = []) (ho:out.mem = [])
  (h:∀ p r,F p = some r → ∀ gh w (args:Array Value),args.size = sh.env.length → HeapOK gh (fun _ => none) w → (∀ i,RepV gh (fun _ => none) w ((embed sh p).get i) (args.getD i undef)) → Ground P gh.K →
   (callFunc f args).run P w = .ok (.enter f args) w ∧ Calls P f args w fun e w' => ∃ v,e = .returned v ∧ w.grownBy w' none ∧ w.drawn ≤ w'.drawn ∧ RepRes gh (fun _ => none) w' (outA1s (embed out r).env) v):FEOK P ⟨f,sh,out,F⟩:=by
 intro p r hF gh w args hsz hH hargs hgd
 have e1:∀ p:sh.D,(embed sh p).blk = fun _ => none:=fun p => by
  obtain ⟨e,m⟩:=sh
  simp only at hm
  subst hm
  rfl
 have e2:∀ p:out.D,(embed out p).blk = fun _ => none:=fun p => by
  obtain ⟨e,m⟩:=out
  simp only at ho
  subst ho
  rfl
 have hH':HeapOK gh (fun _ => none) w:=by have:=hH; simp only at this; rw [e1] at this; exact this
 obtain ⟨h1,h2⟩:=h p r hF gh w args hsz hH' (fun i => by have:=hargs i; simp only at this; rw [e1] at this; exact this) hgd
 refine .inr ⟨h1,Calls.mono h2 fun e w' ⟨v,q1,q2,q3,q4⟩ => ⟨v,q1,gh,?_,?_,?_⟩⟩
 ·show HeapOK gh (embed out r).blk w'
  rw [e2]
  exact (heap_same hH' q2 q3).1
 ·show Tr gh (embed sh p).blk w gh (embed out r).blk w'
  rw [e1,e2]
  exact (heap_same hH' q2 q3).2
 ·show RepRes gh (embed out r).blk w' (outA1s (embed out r).env) v
  rw [e2]
  exact q4
/-! strconv.Itoa -/
@[reducible] def shI64:Shape:=⟨[(0,.one (.d (.int .i64)))],[]⟩
@[reducible] def outStr:Shape:=⟨[(0,.one (.d .str))],[]⟩
def FItoa:shI64.D → Option outStr.D:=fun p => bif decide (-9223372036854775808 ≤ p.1) && decide (p.1 ≤ 9223372036854775807) then some (⟨(Lib.itoa p.1).toArray⟩,()) else none
theorem one_arg {args:Array Value} (h:args.size = 1) {a:Value} (h0:args.getD 0 undef = a):args = #[a]:=by
 subst h0
 apply Array.ext
 ·simpa using h
 ·intro i h1 h2
  simp at h2
  subst h2
  simp [Array.getD,h1]
theorem ground_tab {gh : Gh} {m : Mem} {w : World} (H : HeapOK gh m w) (hg : Ground P gh.K) {k : Nat} (hk : P.globalNamed "internal/strconv.uint64pow10" = some k) : Lib.TabIs P w "internal/strconv.uint64pow10" .u64 Lib.pow10Tab := by
 obtain ⟨⟨e,fz,h1⟩,_⟩:=H.gr k pow10 (hg k hk)
 unfold Lib.TabIs World.var?
 rw [hk]
 simp only [Option.bind_some]
 rw [h1]
 rfl
theorem ok_itoa {ρ : Go.Shelf.Ren} (L : LaysM.n171 P ρ) {k : Nat} (hk : P.globalNamed "internal/strconv.uint64pow10" = some k) (ents : ∀ args w, (callFunc (ρ.f 171) args).run P w = .ok (.enter (ρ.f 171) args) w) : FEOK P ⟨ρ.f 171, shI64, outStr, FItoa⟩ := by
 refine ok_grown rfl rfl fun p r hF gh w args hsz hH hargs hgd => ?_
 have h0:args.getD 0 undef = .int .i64 p.1:=hargs 0
 have ha:=one_arg hsz h0
 subst ha
 unfold FItoa at hF
 cases hc:(decide (-9223372036854775808 ≤ p.1) && decide (p.1 ≤ 9223372036854775807)) with
 | false => rw [hc] at hF; cases hF
 | true =>
  rw [hc] at hF
  simp only [cond_true,Option.some.injEq] at hF
  subst hF
  simp only [Bool.and_eq_true,decide_eq_true_eq] at hc
  refine ⟨ents _ _,Calls.mono (Any.strconv_Itoa L p.1 hc.1 hc.2 w (ground_tab hH hgd hk)) ?_⟩
  rintro e w' ⟨rfl,n,os,rfl⟩
  refine ⟨_,rfl,⟨rfl,rfl,rfl,?_,fun j hj _ => ?_⟩,?_,rfl⟩
  ·simp [Sort.grow]
  ·simp [Sort.grow,Array.getElem?_append_left,hj]
  ·show w.drawn ≤ w.drawn + n
   omega
end Go.Vx
/-! Clone, without the two ways of an empty list. -/
namespace Go.Vx
open Go
theorem clone_ok {α R:Type} {l:List α} {n:Nat} {x y r:R} {g:Option R} {h0:R} (hg:g = bif l.isEmpty then both (some h0) (bif decide (0 + l.length ≤ n) then some y else none) else (bif decide (0 + l.length ≤ n) then some y else none))
  (h:(bif Nat.ble l.length n then some x else none) = some r) (he:l.isEmpty = true → h0 = y) (hy:x = y):g = some r:=by
 subst hy
 have hd:decide (0 + l.length ≤ n) = Nat.ble l.length n:=by
  rw [Nat.zero_add]
  cases hb:Nat.ble l.length n with
  | true => exact decide_eq_true (Nat.le_of_ble_eq_true hb)
  | false => exact decide_eq_false fun h => by rw [Nat.ble_eq_true_of_le h] at hb; cases hb
 rw [hg,hd]
 cases hl:l.isEmpty with
 | false => exact h
 | true =>
  have hz:Nat.ble l.length n = true:=by cases l with
   | nil => exact Nat.ble_eq_true_of_le (Nat.zero_le _)
   | cons _ _ => cases hl
  rw [hz] at h ⊢
  rw [he hl]
  simpa [both] using h
end Go.Vx
namespace Go.Proofs
open Go.Shelf Go.RowKit
set_option linter.unusedVariables false
variable {P:Program} {ρ:Ren}
theorem encode_far {r:Int} (h0:128 ≤ r) (hv:Utf8.valid r = true):(∃ a b:UInt8,Utf8.encode r = ⟨#[a,b]⟩ ∧ 128 ≤ b.toNat) ∨ (∃ a b c:UInt8,Utf8.encode r = ⟨#[a,b,c]⟩) ∨ ∃ a b c d:UInt8,Utf8.encode r = ⟨#[a,b,c,d]⟩:=by
 unfold Utf8.encode
 simp only [hv,if_true]
 have hc:¬ r.toNat < 0x80:=by omega
 by_cases h1:r.toNat < 0x800
 ·left
  refine ⟨_,_,by rw [if_neg hc,if_pos h1],?_⟩
  show 128 ≤ (UInt8.ofNat (128 + r.toNat % 64)).toNat
  rw [UInt8.toNat_ofNat']
  omega
 ·by_cases h2:r.toNat < 0x10000
  ·right; left
   exact ⟨_,_,_,by rw [if_neg hc,if_neg h1,if_pos h2]⟩
  ·right; right
   exact ⟨_,_,_,_,by rw [if_neg hc,if_neg h1,if_neg h2]⟩
theorem decode_far (s:ByteArray) (pos:Nat) (h:pos < s.size) (ha:128 ≤ (s.get! pos).toNat) :
  (Utf8.valid (Utf8.decode s pos).1 = true ∧ 128 ≤ (Utf8.decode s pos).1) ∧ 1 ≤ (Utf8.decode s pos).2 ∧ pos + (Utf8.decode s pos).2 ≤ s.size ∧ ∀ k,k < (Utf8.decode s pos).2 → 128 ≤ (s.get! (pos + k)).toNat:=by
 have hb:∀ k,(s.get! (pos + k)).toNat < 256:=fun k => (s.get! (pos + k)).toNat_lt
 have h0:=hb 0; have h1:=hb 1; have h2:=hb 2; have h3:=hb 3
 simp only [Utf8.decode,Nat.add_zero] at *
 have hone:∀ k,k < 1 → 128 ≤ (s.get! (pos + k)).toNat:=fun k hk => by
  obtain rfl:k = 0:=by omega
  exact ha
 have hre:(Utf8.valid (Utf8.runeError:Nat) = true ∧ 128 ≤ Utf8.runeError):=⟨by decide,by decide⟩
 have ve:∀ c:Nat,(c < 0xD800 ∨ (0xE000 ≤ c ∧ c ≤ 0x10FFFF)) → Utf8.valid (c:Int) = true:=fun c hc => by
  unfold Utf8.valid
  simp
  omega
 rw [if_neg (by omega)]
 split
 ·rename_i hc
  simp only [Bool.and_eq_true,beq_iff_eq,decide_eq_true_eq] at hc
  split
  ·rename_i h80
   refine ⟨⟨ve _ (by omega),by omega⟩,by omega,by omega,fun k hk => ?_⟩
   have hk':k < 2:=hk
   match k,hk' with
   | 0,_ => exact ha
   | 1,_ => omega
  ·exact ⟨hre,by omega,by omega,hone⟩
 ·split
  ·rename_i hc
   simp only [Bool.and_eq_true,beq_iff_eq,decide_eq_true_eq] at hc
   split
   ·rename_i h80
    simp only [Bool.and_eq_true,decide_eq_true_eq] at h80
    refine ⟨⟨h80.2,by omega⟩,by omega,by omega,fun k hk => ?_⟩
    have hk':k < 3:=hk
    match k,hk' with
    | 0,_ => exact ha
    | 1,_ => omega
    | 2,_ => omega
   ·exact ⟨hre,by omega,by omega,hone⟩
  ·split
   ·rename_i hc
    simp only [Bool.and_eq_true,beq_iff_eq,decide_eq_true_eq] at hc
    split
    ·rename_i h80
     simp only [Bool.and_eq_true,decide_eq_true_eq] at h80
     refine ⟨⟨h80.2,by omega⟩,by omega,by omega,fun k hk => ?_⟩
     have hk':k < 4:=hk
     match k,hk' with
     | 0,_ => exact ha
     | 1,_ => omega
     | 2,_ => omega
     | 3,_ => omega
    ·exact ⟨hre,by omega,by omega,hone⟩
   ·exact ⟨hre,by omega,by omega,hone⟩
def blankBar:ByteArray:=⟨#[32,124]⟩
set_option maxHeartbeats 4000000 in
set_option maxRecDepth 1000000 in
theorem index_rune_far (L:Lays.n152 P ρ) (r:Int) (w:World) (h0:128 ≤ r) (hv:Utf8.valid r = true) (he:r ≠ 65533) :
  Calls P (ρ.f 152) #[.string blankBar,.int .i32 r] w fun e w' => e = .returned (.int .i64 (-1)) ∧ ∃ n,w.drawn ≤ n ∧ w' = { w with drawn:=n }:=by
 have hm:=L.mixed
 have t3:=L.t3; have a3:=L.a3; have z3:=L.z3; have v3:=L.v3
 have t4:=L.t4; have a4:=L.a4; have z4:=L.z4; have v4:=L.v4
 have t5:=L.t5; have a5:=L.a5; have z5:=L.z5; have v5:=L.v5
 have t9:=L.t9; have a9:=L.a9; have z9:=L.z9; have v9:=L.v9
 have t21:=L.t21; have a21:=L.a21; have z21:=L.z21; have v21:=L.v21
 have n1:decide ((0:Int) ≤ r) = true:=by simp; omega
 have n2:decide (r < 128) = false:=by simp; omega
 have n3:(r == 65533) = false:=by simpa using he
 have hv':Lib.validRune r = true:=by
  unfold Utf8.valid at hv
  unfold Lib.validRune
  simp at hv ⊢
  omega
 have e119:∀ args w,(callFunc (ρ.f 119) args).run P w = .ok (.enter (ρ.f 119) args) w:=enters_of L.f119 (by kernel_rfl) rfl
 have e137:∀ args w,(callFunc (ρ.f 137) args).run P w = .ok (.enter (ρ.f 137) args) w:=enters_of L.f137 (by kernel_rfl) rfl
 have hd1:decide ((1:Int) < (blankBar.size:Int)) = true:=by decide
 have hd2:decide ((2:Int) < (blankBar.size:Int)) = false:=by decide
 have hd3:decide ((3:Int) < (blankBar.size:Int)) = false:=by decide
 have hcv:∀ w:World,(convert (ρ.t 21) (ρ.t 9) (.int .i32 r)).run P w = .ok (.string (Utf8.encode r)) w:=fun w => run_convert_int_string w _ _ _ _ (by rw [t21]; rfl) t9
 rcases encode_far h0 hv with ⟨a,b,hrs,hb⟩ | ⟨a,b,c,hrs⟩ | ⟨a,b,c,d,hrs⟩
 ·rw [hrs] at hcv
  have hb2:((124:UInt8) != b) = true:=by
   rw [bne_iff_ne]
   intro h
   rw [← h] at hb
   exact absurd hb (by decide)
  go_enter L.f152,Body.n152_ntmps ρ
  go_wp2_with (go_at_fn (ρ.f 119); refine (Any.utf8_ValidRune { L with } _ _).mono ?_; rintro e w' ⟨rfl,hw⟩; rw [hw,hv'])
  go_step3
  go_wp2
  apply wp_loop_once
  go_wp2
  go_step3
  have hi1:(0:Int) ≤ 1 ∧ (1:Int) < (blankBar.size:Int):=by decide
  have hi2:(0:Int) ≤ 1 ∧ (1:Int) < ((⟨#[a,b]⟩:ByteArray).size:Int):=⟨by decide,by show (1:Int) < 2; decide⟩
  go_wp2
  go_still hm
  go_wp2
  ·refine wp_region_still_lit hm (by kernel_rfl) ?_
   still_step
   still_step
   still_step
   refine wpStill_step (fun K hK => ?_)
   go_simp
   rw [if_pos (show 0 ≤ IntKind.i64.wrap 2 ∧ IntKind.i64.wrap 2 ≤ (blankBar.size:Int) by decide)]
   refine ⟨rfl,hK _ ?_⟩
   clear hK K
   still_step
   still_step
   still_step
   have hcall:=(Any.strings_IndexByte (P:=P) (ρ:=ρ) { L with } (blankBar.extract (IntKind.i64.wrap 2).toNat blankBar.size) (b.toNat:Int))
   have hidx:∀ c:UInt8,Lib.indexByte (blankBar.extract (IntKind.i64.wrap 2).toNat blankBar.size).data.toList c = -1:=fun c => by
    have h:(blankBar.extract (IntKind.i64.wrap 2).toNat blankBar.size).data.toList = []:=by decide
    rw [h]
    rfl
   rw [hidx] at hcall
   still_call (hcall _)
   still_step
   refine wpStill_nil ?_
   go_wp2
   change Exit.inBlock 0 (bodyPost P (Body.n152 ρ) fun e w' => e = .returned (.int .i64 (-1)) ∧ ∃ n,w.drawn ≤ n ∧ w' = { w with drawn:=n }) Exit.ret _ _
   go_ret
   exact ⟨rfl,_,by show w.drawn ≤ w.drawn + 1 + 1; omega,rfl⟩
  ·rename_i hq _ _
   have h1:((124:Int) != (b.toNat:Int)) = false:=hq
   have h2:(124:Int) = (b.toNat:Int):=by simpa using h1
   omega
 ·rw [hrs] at hcv
  go_enter L.f152,Body.n152_ntmps ρ
  go_wp2_with (go_at_fn (ρ.f 119); refine (Any.utf8_ValidRune { L with } _ _).mono ?_; rintro e w' ⟨rfl,hw⟩; rw [hw,hv'])
  go_step3
  go_wp2
  apply wp_loop_once
  go_wp2
  simp only [Exit.noGoto_ret]
  go_ret
  exact ⟨rfl,w.drawn,Nat.le_refl _,rfl⟩
 ·rw [hrs] at hcv
  go_enter L.f152,Body.n152_ntmps ρ
  go_wp2_with (go_at_fn (ρ.f 119); refine (Any.utf8_ValidRune { L with } _ _).mono ?_; rintro e w' ⟨rfl,hw⟩; rw [hw,hv'])
  go_step3
  go_wp2
  apply wp_loop_once
  go_wp2
  simp only [Exit.noGoto_ret]
  go_ret
  exact ⟨rfl,w.drawn,Nat.le_refl _,rfl⟩
set_option maxHeartbeats 4000000 in
set_option maxRecDepth 1000000 in
theorem index_rune_err (L:Lays.n152 P ρ) (w:World) :
  Calls P (ρ.f 152) #[.string blankBar,.int .i32 65533] w fun e w' => e = .returned (.int .i64 (-1)) ∧ ∃ pos,w' = w.iter blankBar pos:=by
 have hm:=L.mixed
 have t3:=L.t3; have a3:=L.a3; have z3:=L.z3; have v3:=L.v3
 have t4:=L.t4; have a4:=L.a4; have z4:=L.z4; have v4:=L.v4
 have t5:=L.t5; have a5:=L.a5; have z5:=L.z5; have v5:=L.v5
 have t9:=L.t9; have a9:=L.a9; have z9:=L.z9; have v9:=L.v9
 have t21:=L.t21; have a21:=L.a21; have z21:=L.z21; have v21:=L.v21
 go_enter L.f152,Body.n152_ntmps ρ
 go_wp2
 go_loopg [5,6] blankBar.size (fun g _ _ wx => ∃ i:Nat,i + g = blankBar.size ∧ wx = w.iter blankBar i)
 case atStart => exact ⟨0,by omega,rfl⟩
 case round =>
  obtain ⟨i,hig,rfl⟩:=hrel
  cases gk with
  | zero =>
   obtain rfl:i = blankBar.size:=by omega
   have hnx:=run_next_end (P:=P) w blankBar blankBar.size
   go_wp2
   go_ret
   exact ⟨rfl,_,rfl⟩
  | succ g =>
   have hi:i < blankBar.size:=by omega
   obtain ⟨x,hx⟩:∃ x:UInt8,blankBar[i]'hi = x:=⟨_,rfl⟩
   have hx128:x.toNat < 128:=by
    have hi2:i < 2:=hi
    rw [← hx]
    match i,hi2 with
    | 0,_ => exact (by decide:(32:UInt8).toNat < 128)
    | 1,_ => exact (by decide:(124:UInt8).toNat < 128)
   have hnx:=fun ty => run_next_ascii (P:=P) w blankBar i ty hi (by rw [hx]; exact hx128)
   rw [hx] at hnx
   have hne:(((x.toNat:Nat):Int) == 65533) = false:=by
    rw [← Bool.not_eq_true,beq_iff_eq]
    omega
   clear hx
   go_wp2
   go_roundg g
   case measure => omega
   case rel => exact ⟨i + 1,by omega,rfl⟩
theorem grown_push (w:World) (b:Obj):w.grownBy { w with heap:=w.heap.push b } none:=
 ⟨rfl,rfl,rfl,by show _ ≤ (w.heap.push b).size; rw [Array.size_push]; omega,fun j hj _ => by show (w.heap.push b)[j]? = _; rw [Array.getElem?_push,if_neg (by omega)]⟩
theorem index_rune_grown (L:Lays.n152 P ρ) (r:Int) (w:World) (h0:128 ≤ r) (hv:Utf8.valid r = true) :
  Calls P (ρ.f 152) #[.string blankBar,.int .i32 r] w fun e w' => e = .returned (.int .i64 (-1)) ∧ w.grownBy w' none ∧ w.drawn ≤ w'.drawn:=by
 by_cases he:r = 65533
 ·subst he
  refine Calls.mono (index_rune_err L w) ?_
  rintro e w' ⟨h1,pos,rfl⟩
  exact ⟨h1,grown_push w _,Nat.le_refl _⟩
 ·refine Calls.mono (index_rune_far L r w h0 hv he) ?_
  rintro e w' ⟨h1,n,h2,rfl⟩
  exact ⟨h1,⟨rfl,rfl,rfl,Nat.le_refl _,fun _ _ _ => rfl⟩,h2⟩
theorem grown_trans {a b c:World} (h:a.grownBy b none) (k:b.grownBy c none):a.grownBy c none:=World.grownBy.trans h k
theorem grown_at {w a:World} {s:ByteArray} (h:w.grownBy a none) (p:Nat):w.grownBy (a.iterAt w.heap.size s p) none:=
 ⟨h.os,h.tape,h.output,by show _ ≤ (a.heap.setIfInBounds _ _).size; rw [Array.size_setIfInBounds]; exact h.size,fun j hj hn => by
  show (a.heap.setIfInBounds w.heap.size _)[j]? = _
  rw [Array.getElem?_setIfInBounds_ne (by omega)]
  exact h.block j hj hn⟩
def AnyRel (w:World) (s:ByteArray) (i:Nat) (wx:World):Prop:=w.grownBy wx none ∧ w.drawn ≤ wx.drawn ∧ wx.heap[w.heap.size]? = some (.stringIter s i) ∧ Lib.NoAny s.data.toList blankBar.data.toList i
theorem any_start (w:World) (s:ByteArray):AnyRel w s 0 (w.iter s 0):=⟨grown_push w _,Nat.le_refl _,by show (w.heap.push _)[w.heap.size]? = _; simp,Lib.NoAny.zero _ _⟩
theorem any_size {w wx:World} {s:ByteArray} {i:Nat} (h:AnyRel w s i wx):w.heap.size < wx.heap.size:=(Array.getElem?_eq_some_iff.1 h.2.2.1).1
theorem any_move {w wx w2:World} {s:ByteArray} {i p:Nat} (h:AnyRel w s i wx) (hg:(wx.iterAt w.heap.size s p).grownBy w2 none) (hd:wx.drawn ≤ w2.drawn) (hn:Lib.NoAny s.data.toList blankBar.data.toList p):AnyRel w s p w2:=by
 have hsz:=any_size h
 refine ⟨grown_trans (grown_at h.1 p) hg,Nat.le_trans h.2.1 hd,?_,hn⟩
 have h1:(wx.iterAt w.heap.size s p).heap[w.heap.size]? = some (.stringIter s p):=Lib.iterAt_heap wx w.heap.size s i p h.2.2.1
 rw [hg.block w.heap.size (by show _ < (wx.heap.setIfInBounds _ _).size; rw [Array.size_setIfInBounds]; exact hsz) (by simp),h1]
theorem far_not (x:UInt8) (h:128 ≤ x.toNat):blankBar.data.toList.contains x = false:=by
 show ([32,124]:List UInt8).contains x = false
 rw [← Bool.not_eq_true]
 intro hc
 simp only [List.contains_cons,List.contains_nil,Bool.or_false,Bool.or_eq_true,beq_iff_eq] at hc
 rcases hc with rfl | rfl
 ·exact absurd h (by decide)
 ·exact absurd h (by decide)
theorem noany_far {s:ByteArray} {i k:Nat} (h:Lib.NoAny s.data.toList blankBar.data.toList i) (hk:∀ j,j < k → 128 ≤ (s.get! (i + j)).toNat):Lib.NoAny s.data.toList blankBar.data.toList (i + k):=by
 intro j b hj hb
 by_cases hji:j < i
 ·exact h j b hji hb
 ·have h1:=hk (j - i) (by omega)
  rw [show i + (j - i) = j by omega] at h1
  have h2:s.get! j = b:=by
   show s.data[j]! = b
   rw [getElem!_def]
   have:s.data[j]? = some b:=by rw [← Array.getElem?_toList]; exact hb
   rw [this]
  rw [h2] at h1
  exact far_not b h1
set_option maxHeartbeats 8000000 in
set_option maxRecDepth 1000000 in
theorem index_any_blank (L:Lays.n153 P ρ) (s:ByteArray) (w:World) (h8:s.size ≤ 8) :
  Calls P (ρ.f 153) #[.string s,.string blankBar] w fun e w' => e = .returned (.int .i64 (Lib.indexAny s.data.toList blankBar.data.toList)) ∧ w.grownBy w' none ∧ w.drawn ≤ w'.drawn:=by
 have hemp:blankBar.toList.isEmpty = false:=by
  rw [Lib.toList_data]; rfl
 have hn1:((blankBar.size:Int) == 1) = false:=by decide
 have h8z:decide ((8:Int) < (s.size:Int)) = false:=decide_eq_false (by omega)
 have t3:=L.t3; have a3:=L.a3; have z3:=L.z3; have v3:=L.v3
 have t4:=L.t4; have a4:=L.a4; have z4:=L.z4; have v4:=L.v4
 have t5:=L.t5; have a5:=L.a5; have z5:=L.z5; have v5:=L.v5
 have t9:=L.t9; have a9:=L.a9; have z9:=L.z9; have v9:=L.v9
 have t21:=L.t21; have a21:=L.a21; have z21:=L.z21; have v21:=L.v21
 have e152:∀ args w,(callFunc (ρ.f 152) args).run P w = .ok (.enter (ρ.f 152) args) w:=enters_of L.f152 (by kernel_rfl) rfl
 have e226:∀ args w,(callFunc (ρ.f 226) args).run P w = .ok (.enter (ρ.f 226) args) w:=enters_of L.f226 (by kernel_rfl) rfl
 go_enter L.f153,Body.n153_ntmps ρ
 go_wp2_with (go_at_fn (ρ.f 226); refine (Any.strings_shouldUseASCIISet { L with } _ _).mono ?_; rintro e w' ⟨rfl,hw⟩; rw [hw,h8z])
 go_loopg [9,10] s.size (fun g _ _ wx => ∃ i:Nat,s.size ≤ i + g ∧ AnyRel w s i wx)
 case atStart => exact ⟨0,by omega,any_start w s⟩
 case round =>
  obtain ⟨i,hig,hA⟩:=hrel
  have HA:Aside (AnyRel w s i _):=hA
  have hk:=hA.2.2.1
  clear hA
  by_cases hi:i < s.size
  ·cases gk with
   | zero => omega
   | succ g =>
    obtain ⟨x,hx⟩:∃ x:UInt8,s[i]'hi = x:=⟨_,rfl⟩
    have hxl:s.data.toList[i]? = some x:=by rw [← hx]; exact Lib.data_getElem? s i hi
    have Hx:Aside (s.data.toList[i]? = some x):=hxl
    have hgx:s.get! i = x:=by
     show s.data[i]! = x
     rw [getElem!_def]
     have:s.data[i]? = some x:=by rw [← Array.getElem?_toList]; exact hxl
     rw [this]
    clear hxl
    by_cases hx128:x.toNat < 128
    ·have hnx:=fun ty => Lib.run_next_ascii_at (P:=P) wr w.heap.size s i ty hk hi (by rw [hx]; exact hx128)
     rw [hx] at hnx
     clear hx hk
     have hcon:=Lib.contains_iff_indexByte blankBar.data.toList x
     have hback:((x.toNat:Int)).toNat.toUInt8 = x:=by simp
     cases hin:blankBar.data.toList.contains x
     ·rw [hin] at hcon
      have hlt:¬ ((0:Int) ≤ Lib.indexByte blankBar.data.toList x):=of_decide_eq_false hcon.symm
      clear hcon
      go_wp2_with (go_at_fn (ρ.f 152); refine (Any.strings_IndexRune_ascii { L with } _ _ _ (by omega) (by omega)).mono ?_; rintro e w' ⟨rfl,hw⟩; rw [hw,hback])
      go_roundg g
      case measure => omega
      case rel => exact ⟨i + 1,by omega,any_move HA.out ⟨rfl,rfl,rfl,Nat.le_refl _,fun _ _ _ => rfl⟩ (Nat.le_refl _) (HA.out.2.2.2.succ Hx.out hin)⟩
     ·rw [hin] at hcon
      have hge:(0:Int) ≤ Lib.indexByte blankBar.data.toList x:=of_decide_eq_true hcon.symm
      clear hcon
      go_wp2_with (go_at_fn (ρ.f 152); refine (Any.strings_IndexRune_ascii { L with } _ _ _ (by omega) (by omega)).mono ?_; rintro e w' ⟨rfl,hw⟩; rw [hw,hback])
      go_ret
      exact ⟨by rw [Lib.indexAny_hit HA.out.2.2.2 Hx.out hin]; rfl,grown_at HA.out.1 _,HA.out.2.1⟩
    ·have hnx:=fun ty => Lib.run_next_any_at (P:=P) wr w.heap.size s i ty hk hi
     have hfar:=decode_far s i hi (by rw [hgx]; omega)
     clear hx hk
     generalize Utf8.decode s i = d at hnx hfar
     obtain ⟨dr,dw⟩:=d
     obtain ⟨⟨f1,f2⟩,f3,f4,f5⟩:=hfar
     simp only at hnx f1 f2 f3 f4 f5
     have hlt:¬ ((0:Int) ≤ -1):=by decide
     go_wp2_with (go_at_fn (ρ.f 152); refine (index_rune_grown { L with } _ _ (by omega) f1).mono ?_; rintro e w' ⟨rfl,hw⟩)
     go_roundg g
     case measure => omega
     case rel => exact ⟨i + dw,by omega,any_move HA.out hw.1 hw.2 (noany_far HA.out.2.2.2 f5)⟩
  ·have hnx:=fun ty => Lib.run_next_end_at (P:=P) _ w.heap.size s i ty hk hi
   go_wp2
   go_ret
   exact ⟨by rw [Lib.indexAny_none (show Lib.NoAny s.data.toList blankBar.data.toList s.data.toList.length from fun j b hj hb => HA.out.2.2.2 j b (by rw [← Lib.size_eq] at hj; omega) hb)]; rfl,HA.out.1,HA.out.2.1⟩
end Go.Proofs
/-! strings.IndexAny as an entry: on ASCII texts, and on any text of more than eight bytes. -/
namespace Go.Vx
open Go Go.RowKit Go.Shelf Go.Proofs
set_option linter.unusedVariables false
set_option linter.unusedSimpArgs false
variable {P:Program}
@[reducible] def shSS:Shape:=⟨[(0,.one (.d .str)),(1,.one (.d .str))],[]⟩
@[reducible] def outI64:Shape:=⟨[(0,.one (.d (.int .i64)))],[]⟩
def low (l:List UInt8):Bool:=l.all fun b => decide (b.toNat < 128)
theorem low_at {l:List UInt8} (h:low l = true):∀ (j:Nat) b,l[j]? = some b → b.toNat < 128:=by
 intro j b hj
 unfold low at h
 rw [List.all_eq_true] at h
 simpa using h b (List.mem_of_getElem? hj)
def FIndexAny:shSS.D → Option outI64.D:=fun p => bif decide (p.1.size < 4294967281) && (decide (2 ≤ p.2.1.size) && (decide (p.2.1.size < 4294967281) && (low p.2.1.data.toList && (decide (8 < p.1.size) || (low p.1.data.toList || p.2.1.data.toList == [32,124]))))) then some (Lib.indexAny p.1.data.toList p.2.1.data.toList,()) else none
theorem grown_alloc (w:World) (b:Obj):w.grownBy (w.alloc b) none:=
 ⟨rfl,rfl,rfl,by show _ ≤ (w.heap.push b).size; rw [Array.size_push]; omega,fun j hj _ => by show (w.heap.push b)[j]? = _; rw [Array.getElem?_push,if_neg (by omega)]⟩
theorem grown_two (w:World) (b c:Obj):w.grownBy ((w.alloc b).alloc c) none:=
 ⟨rfl,rfl,rfl,by show _ ≤ ((w.heap.push b).push c).size; rw [Array.size_push,Array.size_push]; omega,fun j hj _ => by
  show ((w.heap.push b).push c)[j]? = _
  rw [Array.getElem?_push,if_neg (by rw [Array.size_push]; omega),Array.getElem?_push,if_neg (by omega)]⟩
theorem ok_indexany {ρ:Go.Shelf.Ren} (L:Lays.n153 P ρ) (h116:(P.info? (ρ.t 116)).map (fun i => (i.zero,i.size)) = some (some (.agg (Array.replicate 256 (.bool false))),256)) (ents:∀ args w,(callFunc (ρ.f 153) args).run P w = .ok (.enter (ρ.f 153) args) w):FEOK P ⟨ρ.f 153,shSS,outI64,FIndexAny⟩:=by
 refine ok_grown rfl rfl fun p r hF gh w args hsz hH hargs hgd => ?_
 have h0:args.getD 0 undef = .string p.1:=hargs 0
 have h1:args.getD 1 undef = .string p.2.1:=hargs 1
 have ha:=two_args hsz h0 h1
 subst ha
 unfold FIndexAny at hF
 cases hc:(decide (p.1.size < 4294967281) && (decide (2 ≤ p.2.1.size) && (decide (p.2.1.size < 4294967281) && (low p.2.1.data.toList && (decide (8 < p.1.size) || (low p.1.data.toList || p.2.1.data.toList == [32,124])))))) with
 | false => rw [hc] at hF; cases hF
 | true =>
  rw [hc] at hF
  simp only [cond_true,Option.some.injEq] at hF
  subst hF
  simp only [Bool.and_eq_true,decide_eq_true_eq,Bool.or_eq_true] at hc
  obtain ⟨c1,c2,c3,c4,c5⟩:=hc
  refine ⟨ents _ _,?_⟩
  by_cases h8:8 < p.1.size
  ·refine Calls.mono (Any.strings_IndexAny_long L (zero_of_info h116).1 (zero_of_info h116).2 p.1 p.2.1 w c2 h8 c1 c3 (low_at c4)) ?_
   rintro e w' ⟨rfl,rfl⟩
   refine ⟨_,rfl,?_,Nat.le_refl _,rfl⟩
   exact grown_two _ _ _
  ·have c7:low p.1.data.toList = true ∨ p.2.1.data.toList = [32,124]:=by
    rcases c5 with h | h | h
    ·omega
    ·exact .inl h
    ·exact .inr (by simpa using h)
   rcases c7 with c6 | c6
   rotate_left
   ·have hb:p.2.1 = blankBar:=by
     have h:p.2.1.data = (blankBar).data:=by
      apply Array.toList_inj.1
      exact c6
     cases hp:p.2.1
     rw [hp] at h
     exact congrArg ByteArray.mk h
    rw [hb]
    refine Calls.mono (index_any_blank L p.1 w (by omega)) ?_
    rintro e w' ⟨rfl,hg,hd⟩
    exact ⟨_,rfl,hg,hd,rfl⟩
   refine Calls.mono (Any.strings_IndexAny_short L p.1 p.2.1 w c2 (by omega) (low_at c6)) ?_
   rintro e w' ⟨rfl,pos,rfl⟩
   exact ⟨_,rfl,grown_alloc _ _,Nat.le_refl _,rfl⟩
end Go.Vx
namespace Go.Proofs
open Go.Shelf Go.RowKit
set_option linter.unusedVariables false
variable {P:Program} {ρ:Ren}
end Go.Proofs
/-! (*strings.Builder).grow as an entry: at a builder that has not been written. -/
namespace Go.Vx
open Go Go.RowKit Go.Shelf Go.Proofs
set_option linter.unusedVariables false
set_option linter.unusedSimpArgs false
variable {P:Program}
end Go.Vx
/-! strings.Trim as an entry: on a set of ASCII bytes. -/
namespace Go.Vx
open Go Go.RowKit Go.Shelf Go.Proofs
set_option linter.unusedVariables false
set_option linter.unusedSimpArgs false
variable {P:Program}
@[reducible] def outS1:Shape:=⟨[(0,.one (.d .str))],[]⟩
def FTrim:shSS.D → Option outS1.D:=fun p => bif decide (0 < p.1.size) && (decide (p.1.size < 4294967281) && (decide (2 ≤ p.2.1.size) && (decide (p.2.1.size < 4294967281) && low p.2.1.data.toList))) then some (⟨(Lib.trimS p.1.data.toList p.2.1.data.toList).toArray⟩,()) else none
theorem ok_trim {ρ:Go.Shelf.Ren} (L:Lays.n160 P ρ) (h116:(P.info? (ρ.t 116)).map (fun i => (i.zero,i.size)) = some (some (.agg (Array.replicate 256 (.bool false))),256)) (ents:∀ args w,(callFunc (ρ.f 160) args).run P w = .ok (.enter (ρ.f 160) args) w):FEOK P ⟨ρ.f 160,shSS,outS1,FTrim⟩:=by
 refine ok_grown rfl rfl fun p r hF gh w args hsz hH hargs hgd => ?_
 have h0:args.getD 0 undef = .string p.1:=hargs 0
 have h1:args.getD 1 undef = .string p.2.1:=hargs 1
 have ha:=two_args hsz h0 h1
 subst ha
 unfold FTrim at hF
 cases hc:(decide (0 < p.1.size) && (decide (p.1.size < 4294967281) && (decide (2 ≤ p.2.1.size) && (decide (p.2.1.size < 4294967281) && low p.2.1.data.toList)))) with
 | false => rw [hc] at hF; cases hF
 | true =>
  rw [hc] at hF
  simp only [cond_true,Option.some.injEq] at hF
  subst hF
  simp only [Bool.and_eq_true,decide_eq_true_eq] at hc
  obtain ⟨c0,c1,c2,c3,c4⟩:=hc
  refine ⟨ents _ _,?_⟩
  refine Calls.mono (Any.strings_Trim_set L (zero_of_info h116).1 (zero_of_info h116).2 p.1 p.2.1 w c2 c0 (by omega) c3 (low_at c4)) ?_
  rintro e w' ⟨rfl,q,rfl⟩
  refine ⟨_,rfl,?_,?_,rfl⟩
  ·obtain ⟨g1,g2,g3,g4,g5⟩:=grown_two w (.cells (Lib.setCells p.2.1.data.toList) (ρ.t 116)) (.cells (Lib.setCells p.2.1.data.toList) (ρ.t 116))
   exact ⟨g1,g2,g3,g4,g5⟩
  ·exact Nat.le_add_right _ _
end Go.Vx
namespace Go.Proofs
open Go.Shelf
set_option maxRecDepth 1000000
set_option maxHeartbeats 4000000
def Tryz.layItoa_ren:Go.Shelf.Ren:=⟨fun | 129 => 112 | 171 => 202 | 243 => 243 | 246 => 277 | 283 => 304 | 284 => 305 | 285 => 306 | 286 => 307 | 317 => 315 | 318 => 316 | 319 => 317 | 320 => 318 | 337 => 321 | 338 => 322 | n => n,fun | 0 => 0 | 2 => 2 | 3 => 3 | 4 => 4 | 5 => 5 | 9 => 9 | 20 => 20 | 37 => 124 | 46 => 134 | 51 => 197 | 53 => 199 | 171 => 333 | 173 => 335 | 212 => 345 | 213 => 346 | 232 => 348 | 233 => 349 | n => n,fun | 17 => 3 | 18 => 4 | 19 => 5 | n => n⟩
theorem Tryz.layItoa:Go.Proofs.LaysM.n171 Tryz.prog Tryz.layItoa_ren:={
 mixed:=by kernel_rfl,
 f129:=Tryz.func112.trans (congrArg some (by kernel_rfl)),
 f171:=Tryz.func202.trans (congrArg some (by kernel_rfl)),
 f243:=Tryz.func243.trans (congrArg some (by kernel_rfl)),
 f246:=Tryz.func277.trans (congrArg some (by kernel_rfl)),
 f283:=Tryz.func304.trans (congrArg some (by kernel_rfl)),
 f284:=Tryz.func305.trans (congrArg some (by kernel_rfl)),
 f285:=Tryz.func306.trans (congrArg some (by kernel_rfl)),
 f286:=Tryz.func307.trans (congrArg some (by kernel_rfl)),
 f317:=Tryz.func315.trans (congrArg some (by kernel_rfl)),
 f318:=Tryz.func316.trans (congrArg some (by kernel_rfl)),
 f319:=Tryz.func317.trans (congrArg some (by kernel_rfl)),
 f320:=Tryz.func318.trans (congrArg some (by kernel_rfl)),
 f337:=Tryz.func321.trans (congrArg some (by kernel_rfl)),
 f338:=Tryz.func322.trans (congrArg some (by kernel_rfl)),
 t0:=Tryz.underlying0,
 a0:=Tryz.isAgg0,
 z0:=Tryz.sizeOf0,
 v0:=Tryz.zeroValue0,
 t2:=Tryz.underlying2,
 a2:=Tryz.isAgg2,
 z2:=Tryz.sizeOf2,
 v2:=Tryz.zeroValue2,
 t3:=Tryz.underlying3,
 a3:=Tryz.isAgg3,
 z3:=Tryz.sizeOf3,
 v3:=Tryz.zeroValue3,
 t4:=Tryz.underlying4,
 a4:=Tryz.isAgg4,
 z4:=Tryz.sizeOf4,
 v4:=Tryz.zeroValue4,
 t5:=Tryz.underlying5,
 a5:=Tryz.isAgg5,
 z5:=Tryz.sizeOf5,
 v5:=Tryz.zeroValue5,
 t9:=Tryz.underlying9,
 a9:=Tryz.isAgg9,
 z9:=Tryz.sizeOf9,
 v9:=Tryz.zeroValue9,
 t20:=Tryz.underlying20,
 a20:=Tryz.isAgg20,
 z20:=Tryz.sizeOf20,
 v20:=Tryz.zeroValue20,
 t37:=Tryz.underlying124,
 a37:=Tryz.isAgg124,
 z37:=Tryz.sizeOf124,
 v37:=Tryz.zeroValue124,
 t46:=Tryz.underlying134,
 a46:=Tryz.isAgg134,
 z46:=Tryz.sizeOf134,
 v46:=Tryz.zeroValue134,
 t51:=Tryz.underlying197,
 a51:=Tryz.isAgg197,
 z51:=Tryz.sizeOf197,
 v51:=Tryz.zeroValue197,
 t53:=Tryz.underlying199,
 a53:=Tryz.isAgg199,
 z53:=Tryz.sizeOf199,
 v53:=Tryz.zeroValue199,
 t171:=Tryz.underlying333,
 a171:=Tryz.isAgg333,
 z171:=Tryz.sizeOf333,
 v171:=Tryz.zeroValue333,
 t173:=Tryz.underlying335,
 a173:=Tryz.isAgg335,
 z173:=Tryz.sizeOf335,
 v173:=Tryz.zeroValue335,
 t212:=Tryz.underlying345,
 a212:=Tryz.isAgg345,
 z212:=Tryz.sizeOf345,
 v212:=Tryz.zeroValue345,
 t213:=Tryz.underlying346,
 a213:=Tryz.isAgg346,
 z213:=Tryz.sizeOf346,
 t232:=Tryz.underlying348,
 a232:=Tryz.isAgg348,
 z232:=Tryz.sizeOf348,
 v232:=Tryz.zeroValue348,
 t233:=Tryz.underlying349,
 a233:=Tryz.isAgg349,
 z233:=Tryz.sizeOf349,
 v233:=Tryz.zeroValue349,
 g17:=by kernel_rfl,
 g18:=by kernel_rfl,
 g19:=by kernel_rfl,
 i0:=by kernel_rfl,
 i2:=by kernel_rfl,
 i3:=by kernel_rfl,
 i4:=by kernel_rfl,
 i5:=by kernel_rfl,
 i9:=by kernel_rfl,
 i20:=by kernel_rfl,
 i37:=by kernel_rfl,
 i46:=by kernel_rfl,
 i51:=by kernel_rfl,
 i53:=by kernel_rfl,
 i171:=by kernel_rfl,
 i173:=by kernel_rfl,
 i212:=by kernel_rfl,
 i232:=by kernel_rfl,
 i233:=by kernel_rfl,
 m17:=by kernel_rfl,
 m18:=by kernel_rfl,
 m19:=by kernel_rfl }

def Tryz.layAny_ren:Go.Shelf.Ren:=⟨fun | 119 => 279 | 137 => 241 | 152 => 245 | 153 => 206 | 217 => 272 | 224 => 274 | 225 => 273 | 226 => 246 | 227 => 247 | 228 => 248 | 266 => 296 | n => n,fun | 0 => 0 | 3 => 3 | 4 => 4 | 5 => 5 | 9 => 9 | 21 => 21 | 46 => 134 | 116 => 297 | 117 => 298 | 124 => 320 | n => n,fun n => n⟩
theorem Tryz.layAny:Go.Proofs.Lays.n153 Tryz.prog Tryz.layAny_ren:={
 mixed:=by kernel_rfl,
 f119:=Tryz.func279.trans (congrArg some (by kernel_rfl)),
 f137:=Tryz.func241.trans (congrArg some (by kernel_rfl)),
 f152:=Tryz.func245.trans (congrArg some (by kernel_rfl)),
 f153:=Tryz.func206.trans (congrArg some (by kernel_rfl)),
 f217:=Tryz.func272.trans (congrArg some (by kernel_rfl)),
 f224:=Tryz.func274.trans (congrArg some (by kernel_rfl)),
 f225:=Tryz.func273.trans (congrArg some (by kernel_rfl)),
 f226:=Tryz.func246.trans (congrArg some (by kernel_rfl)),
 f227:=Tryz.func247.trans (congrArg some (by kernel_rfl)),
 f228:=Tryz.func248.trans (congrArg some (by kernel_rfl)),
 f266:=Tryz.func296.trans (congrArg some (by kernel_rfl)),
 t0:=Tryz.underlying0,
 a0:=Tryz.isAgg0,
 z0:=Tryz.sizeOf0,
 v0:=Tryz.zeroValue0,
 t3:=Tryz.underlying3,
 a3:=Tryz.isAgg3,
 z3:=Tryz.sizeOf3,
 v3:=Tryz.zeroValue3,
 t4:=Tryz.underlying4,
 a4:=Tryz.isAgg4,
 z4:=Tryz.sizeOf4,
 v4:=Tryz.zeroValue4,
 t5:=Tryz.underlying5,
 a5:=Tryz.isAgg5,
 z5:=Tryz.sizeOf5,
 v5:=Tryz.zeroValue5,
 t9:=Tryz.underlying9,
 a9:=Tryz.isAgg9,
 z9:=Tryz.sizeOf9,
 v9:=Tryz.zeroValue9,
 t21:=Tryz.underlying21,
 a21:=Tryz.isAgg21,
 z21:=Tryz.sizeOf21,
 v21:=Tryz.zeroValue21,
 t46:=Tryz.underlying134,
 a46:=Tryz.isAgg134,
 z46:=Tryz.sizeOf134,
 v46:=Tryz.zeroValue134,
 t116:=Tryz.underlying297,
 a116:=Tryz.isAgg297,
 z116:=Tryz.sizeOf297,
 t117:=Tryz.underlying298,
 a117:=Tryz.isAgg298,
 z117:=Tryz.sizeOf298,
 v117:=Tryz.zeroValue298,
 t124:=Tryz.underlying320,
 a124:=Tryz.isAgg320,
 z124:=Tryz.sizeOf320,
 v124:=Tryz.zeroValue320 }

def Tryz.layTrim_ren:Go.Shelf.Ren:=⟨fun | 119 => 279 | 120 => 320 | 137 => 241 | 151 => 313 | 152 => 245 | 160 => 276 | 197 => 270 | 217 => 272 | 224 => 274 | 225 => 273 | 227 => 247 | 228 => 248 | 231 => 298 | 232 => 299 | 233 => 300 | 234 => 301 | 235 => 302 | 236 => 303 | 260 => 295 | 266 => 296 | 271 => 314 | n => n,fun | 0 => 0 | 3 => 3 | 4 => 4 | 5 => 5 | 9 => 9 | 21 => 21 | 46 => 134 | 105 => 313 | 116 => 297 | 117 => 298 | 119 => 340 | 124 => 320 | 138 => 342 | 139 => 343 | n => n,fun | 3 => 1 | 4 => 2 | n => n⟩
theorem Tryz.layTrim:Go.Proofs.Lays.n160 Tryz.prog Tryz.layTrim_ren:={
 mixed:=by kernel_rfl,
 f119:=Tryz.func279.trans (congrArg some (by kernel_rfl)),
 f120:=Tryz.func320.trans (congrArg some (by kernel_rfl)),
 f137:=Tryz.func241.trans (congrArg some (by kernel_rfl)),
 f151:=Tryz.func313.trans (congrArg some (by kernel_rfl)),
 f152:=Tryz.func245.trans (congrArg some (by kernel_rfl)),
 f160:=Tryz.func276.trans (congrArg some (by kernel_rfl)),
 f197:=Tryz.func270.trans (congrArg some (by kernel_rfl)),
 f217:=Tryz.func272.trans (congrArg some (by kernel_rfl)),
 f224:=Tryz.func274.trans (congrArg some (by kernel_rfl)),
 f225:=Tryz.func273.trans (congrArg some (by kernel_rfl)),
 f227:=Tryz.func247.trans (congrArg some (by kernel_rfl)),
 f228:=Tryz.func248.trans (congrArg some (by kernel_rfl)),
 f231:=Tryz.func298.trans (congrArg some (by kernel_rfl)),
 f232:=Tryz.func299.trans (congrArg some (by kernel_rfl)),
 f233:=Tryz.func300.trans (congrArg some (by kernel_rfl)),
 f234:=Tryz.func301.trans (congrArg some (by kernel_rfl)),
 f235:=Tryz.func302.trans (congrArg some (by kernel_rfl)),
 f236:=Tryz.func303.trans (congrArg some (by kernel_rfl)),
 f260:=Tryz.func295.trans (congrArg some (by kernel_rfl)),
 f266:=Tryz.func296.trans (congrArg some (by kernel_rfl)),
 f271:=Tryz.func314.trans (congrArg some (by kernel_rfl)),
 t0:=Tryz.underlying0,
 a0:=Tryz.isAgg0,
 z0:=Tryz.sizeOf0,
 v0:=Tryz.zeroValue0,
 t3:=Tryz.underlying3,
 a3:=Tryz.isAgg3,
 z3:=Tryz.sizeOf3,
 v3:=Tryz.zeroValue3,
 t4:=Tryz.underlying4,
 a4:=Tryz.isAgg4,
 z4:=Tryz.sizeOf4,
 v4:=Tryz.zeroValue4,
 t5:=Tryz.underlying5,
 a5:=Tryz.isAgg5,
 z5:=Tryz.sizeOf5,
 v5:=Tryz.zeroValue5,
 t9:=Tryz.underlying9,
 a9:=Tryz.isAgg9,
 z9:=Tryz.sizeOf9,
 v9:=Tryz.zeroValue9,
 t21:=Tryz.underlying21,
 a21:=Tryz.isAgg21,
 z21:=Tryz.sizeOf21,
 v21:=Tryz.zeroValue21,
 t46:=Tryz.underlying134,
 a46:=Tryz.isAgg134,
 z46:=Tryz.sizeOf134,
 v46:=Tryz.zeroValue134,
 t105:=Tryz.underlying313,
 a105:=Tryz.isAgg313,
 z105:=Tryz.sizeOf313,
 v105:=Tryz.zeroValue313,
 t116:=Tryz.underlying297,
 a116:=Tryz.isAgg297,
 z116:=Tryz.sizeOf297,
 t117:=Tryz.underlying298,
 a117:=Tryz.isAgg298,
 z117:=Tryz.sizeOf298,
 v117:=Tryz.zeroValue298,
 t119:=Tryz.underlying340,
 a119:=Tryz.isAgg340,
 z119:=Tryz.sizeOf340,
 t124:=Tryz.underlying320,
 a124:=Tryz.isAgg320,
 z124:=Tryz.sizeOf320,
 v124:=Tryz.zeroValue320,
 t138:=Tryz.underlying342,
 a138:=Tryz.isAgg342,
 z138:=Tryz.sizeOf342,
 v138:=Tryz.zeroValue342,
 t139:=Tryz.underlying343,
 a139:=Tryz.isAgg343,
 z139:=Tryz.sizeOf343,
 v139:=Tryz.zeroValue343,
 g3:=by kernel_rfl,
 g4:=by kernel_rfl }

end Go.Proofs
namespace Go.Vx.Z
open Go Go.Vx Go.Proofs
noncomputable def e202:FE:=⟨202,shI64,outStr,FItoa⟩
theorem ok202:FEOK Tryz.prog e202:=ok_itoa (ρ:=Tryz.layItoa_ren) Tryz.layItoa (k:=3) (by kernel_rfl) (enters_of Tryz.func202 (by kernel_rfl) rfl)
noncomputable def e206:FE:=⟨206,shSS,outI64,FIndexAny⟩
theorem ok206:FEOK Tryz.prog e206:=ok_indexany (ρ:=Tryz.layAny_ren) Tryz.layAny (by kernel_rfl) (enters_of Tryz.func206 (by kernel_rfl) rfl)
noncomputable def e276:FE:=⟨276,shSS,outS1,FTrim⟩
theorem ok276:FEOK Tryz.prog e276:=ok_trim (ρ:=Tryz.layTrim_ren) Tryz.layTrim (by kernel_rfl) (enters_of Tryz.func276 (by kernel_rfl) rfl)
end Go.Vx.Z
