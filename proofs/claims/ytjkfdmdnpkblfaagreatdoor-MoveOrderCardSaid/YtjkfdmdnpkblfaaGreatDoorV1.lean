import Derived.Test.YtjkfdmdnpkblfaaGreatDoorV0
import Derived.Laws.Tables
import Derived.Orders
import Derived.LoopN
import Derived.Scope
set_option linter.unusedSimpArgs false
namespace Go.Vx
open Go Go.RowKit
set_option linter.unusedVariables false
set_option linter.unusedSimpArgs false
variable {R:Type}
/-! ### 12. build, literals -/
theorem fold_set (off:Nat):∀ (new:List Value) (k:Nat) (cells:Array Value),off + k + new.length ≤ cells.size →
  ((new.zipIdx k).foldl (fun cs p => cs.setIfInBounds (off + p.2) p.1) cells).toList = cells.toList.take (off + k) ++ new ++ cells.toList.drop (off + k + new.length)
 | [],k,cells,_ => by simp
 | v :: new,k,cells,h => by
  have h':off + (k + 1) + new.length ≤ (cells.setIfInBounds (off + k) v).size:=by simp at h ⊢; omega
  simp only [List.zipIdx_cons,List.foldl_cons]
  rw [fold_set off new (k + 1) _ h']
  have hs:=list_seg_step cells.toList (off + k) v new (by simp at h ⊢; omega)
  simp only [Array.toList_setIfInBounds,List.length_cons]
  rw [show off + (k + 1) = off + k + 1 by omega]
  exact hs
def RepParts (gh:Gh) (m:Mem) (w:World):List (Nat × A1) → List (Nat × Value) → Prop:=All2 fun p q => p.1 = q.1 ∧ Rep1 gh m w p.2 q.2
theorem fill_rep {gh:Gh} {m:Mem} {w:World} {place:Nat → Option (Nat × Nat)}:∀ (l:List (Nat × A1)) (parts:List (Nat × Value)) (cs cs':List AC) (vals:Array Value),allCells l place cs = some cs' → RepParts gh m w l parts → RepCs gh m w cs vals.toList →
  ∃ vals',Instr.fill place vals parts = some vals' ∧ RepCs gh m w cs' vals'.toList ∧ vals'.size = vals.size
 | [],_,cs,cs',vals,h,hp,hc => by
  cases hp
  simp only [allCells,Option.some.injEq] at h
  subst h
  exact ⟨vals,rfl,hc,rfl⟩
 | (i,a) :: l,_,cs,cs',vals,h,hp,hc => by
  cases hp with
  | cons h1 h2 =>
   rename_i q parts
   obtain ⟨j,v⟩:=q
   obtain ⟨h3,h4⟩:=h1
   simp only at h3 h4
   subst h3
   simp only [allCells] at h
   split at h
   ·rename_i off wd hpl
    cases hcond:(a.cells.all AC.ok && (Nat.beq a.cells.length wd && Nat.ble (off + wd) cs.length)) with
    | false => rw [hcond] at h; cases h
    | true =>
     rw [hcond] at h
     simp only [cond_true] at h
     simp only [Bool.and_eq_true] at hcond
     obtain ⟨c1,c2,c3⟩:=hcond
     have c2:=beq_true.1 c2
     have c3:=Nat.le_of_ble_eq_true c3
     obtain ⟨h5,_⟩:=rep1_cells h4 c1
     have hvs:v.cells.size = wd:=by have:=h5.length; simp at this; omega
     have hcl:=hc.length
     simp only [Array.length_toList] at hcl
     have hfold:=fold_set off v.cells.toList 0 vals (by simp; omega)
     have hnew:RepCs gh m w (splice cs off a.cells) (v.cells.zipIdx.foldl (fun cs p => cs.setIfInBounds (off + p.2) p.1) vals).toList:=by
      rw [← Array.foldl_toList,Array.toList_zipIdx,hfold]
      exact all2_splice hc h5 off
     obtain ⟨vals',h6,h7,h8⟩:=fill_rep l parts (splice cs off a.cells) cs' _ h h2 hnew
     refine ⟨vals',?_,h7,?_⟩
     ·simp only [Instr.fill,hpl]
      rw [if_neg (by simp [hvs]; omega)]
      exact h6
     ·have hh:=congrArg List.length hfold
      rw [← Array.toList_zipIdx,Array.foldl_toList] at hh
      simp only [Array.length_toList,List.length_append,List.length_take,List.length_drop] at hh
      rw [h8,hh]
      omega
   ·cases h
theorem evParts_rep {C:Ctx} {gh:Gh} {σ σ':St} {a:Act} {w:World} {rd:List Key} (hag:agree rd σ σ') (hs:Sim C gh σ' a w):∀ (ps:List (Nat × Operand)) (l:List (Nat × A1)),evParts σ ps = some l → (∀ q ∈ ps.flatMap (fun p => opKeys p.2),q ∈ rd) →
  RepParts gh σ'.blk w l (ps.map fun p => (p.1,a.eval p.2))
 | [],l,h,_ => by simp [evParts] at h; subst h; exact .nil
 | (i,x) :: ps,l,h,hr => by
  simp only [evParts] at h
  split at h
  ·rename_i a1 hx
   cases hps:evParts σ ps with
   | none => rw [hps] at h; cases h
   | some l' =>
    rw [hps] at h
    simp only [Option.bind_some,Option.some.injEq] at h
    subst h
    exact .cons ⟨rfl,ev_at hag hs (by intro q hq; exact hr q (by simp [hq])) hx⟩ (evParts_rep hag hs ps l' hps (by intro q hq; exact hr q (by simp only [List.flatMap_cons,List.mem_append]; exact .inr hq)))
  ·cases h
theorem pack_rep {gh:Gh} {m:List (Nat × Blk)} {w:World} (H:HeapOK gh (fun i => lookM i m) w):∀ (r:Ty) (cs:List AC) (x:r.D) (vs:List Value),pack m r cs = some x → RepCs gh (fun i => lookM i m) w cs vs → RepCs gh (fun i => lookM i m) w (cellsOf r x) vs
 | .unit,cs,x,vs,h,hr => by
  cases cs with
  | nil => exact hr
  | cons a l => simp [pack] at h
 | .cons a b,cs,x,vs,h,hr => by
  cases cs with
  | nil => simp [pack] at h
  | cons c l =>
   simp only [pack] at h
   cases h1:asD m a c with
   | none => rw [h1] at h; cases h
   | some y =>
    cases h2:pack m b l with
    | none => rw [h1,h2] at h; cases h
    | some z =>
     rw [h1,h2] at h
     simp only [Option.bind_some,Option.some.injEq] at h
     subst h
     cases hr with
     | cons h3 h4 => exact .cons (asD_rep H h1 h3) (pack_rep H b l z _ h2 h4)
 | .int k,cs,x,vs,h,hr => by
  match cs,hr,h with
  | [c],.cons h3 .nil,h => exact .cons (asD_rep H h h3) .nil
 | .bool,cs,x,vs,h,hr => by
  match cs,hr,h with
  | [c],.cons h3 .nil,h => exact .cons (asD_rep H h h3) .nil
 | .str,cs,x,vs,h,hr => by
  match cs,hr,h with
  | [c],.cons h3 .nil,h => exact .cons (asD_rep H h h3) .nil
 | .list r,cs,x,vs,h,hr => by
  match cs,hr,h with
  | [c],.cons h3 .nil,h => exact .cons (asD_rep H h h3) .nil
theorem rowsOf_rep {gh:Gh} {m:List (Nat × Blk)} {w:World} (H:HeapOK gh (fun i => lookM i m) w) {r:Ty} {wd:Nat}:∀ (n:Nat) (cs:List AC) (xs:List r.D) (vs:List Value),rowsOf m r wd n cs = some xs → cs.length = n * wd → RepCs gh (fun i => lookM i m) w cs vs →
  RepCs gh (fun i => lookM i m) w (rowsCells r xs) vs ∧ xs.length = n
 | 0,cs,xs,vs,h,hl,hr => by
  simp [rowsOf] at h
  subst h
  have:cs = []:=List.eq_nil_of_length_eq_zero (by simpa using hl)
  subst this
  exact ⟨hr,rfl⟩
 | n + 1,cs,xs,vs,h,hl,hr => by
  simp only [rowsOf] at h
  cases h1:pack m r (cs.take wd) with
  | none => rw [h1] at h; cases h
  | some y =>
   cases h2:rowsOf m r wd n (cs.drop wd) with
   | none => rw [h1,h2] at h; cases h
   | some ys =>
    rw [h1,h2] at h
    simp only [Option.bind_some,Option.some.injEq] at h
    subst h
    have h3:=pack_rep H r _ _ _ h1 (hr.take wd)
    obtain ⟨h4,h5⟩:=rowsOf_rep H n (cs.drop wd) ys (vs.drop wd) h2 (by rw [List.length_drop,hl,Nat.add_mul]; omega) (hr.drop wd)
    refine ⟨?_,by simp [h5]⟩
    have:=All2.append h3 h4
    rw [List.take_append_drop] at this
    have e1:rowsCells r (y :: ys) = cellsOf r y ++ rowsCells r ys:=by unfold rowsCells; rw [List.flatMap_cons]
    rw [e1]
    exact this
theorem pack_agree {m m':List (Nat × Blk)}:∀ (r:Ty) (cs:List AC),(∀ k ∈ cellKeys cs,match k with | .s _ => True | .m id => lookM id m' = lookM id m) → pack m' r cs = pack m r cs
 | .unit,cs,h => by cases cs <;> rfl
 | .cons a b,[],h => rfl
 | .cons a b,c :: l,h => by
  simp only [pack]
  rw [asD_agree (fun k hk => h k (by simp [cellKeys,hk])),pack_agree b l (fun k hk => h k (by simp only [cellKeys,List.flatMap_cons,List.mem_append]; exact .inr hk))]
 | .int k,[],h => rfl
 | .int k,_ :: _ :: _,h => rfl
 | .int k,[c],h => by simp only [pack]; rw [asD_agree (fun k hk => h k (by simp [cellKeys,hk]))]
 | .bool,[],h => rfl
 | .bool,_ :: _ :: _,h => rfl
 | .bool,[c],h => by simp only [pack]; rw [asD_agree (fun k hk => h k (by simp [cellKeys,hk]))]
 | .str,[],h => rfl
 | .str,_ :: _ :: _,h => rfl
 | .str,[c],h => by simp only [pack]; rw [asD_agree (fun k hk => h k (by simp [cellKeys,hk]))]
 | .list r,[],h => rfl
 | .list r,_ :: _ :: _,h => rfl
 | .list r,[c],h => by simp only [pack]; rw [asD_agree (fun k hk => h k (by simp [cellKeys,hk]))]
theorem cellKeys_sub {l l':List AC} (h:∀ a ∈ l',a ∈ l):∀ k ∈ cellKeys l',k ∈ cellKeys l:=by
 intro k hk
 simp only [cellKeys,List.mem_flatMap] at hk ⊢
 obtain ⟨a,h1,h2⟩:=hk
 exact ⟨a,h a h1,h2⟩
theorem rowsOf_agree {m m':List (Nat × Blk)} {r:Ty} {w:Nat}:∀ (n:Nat) (cs:List AC),(∀ k ∈ cellKeys cs,match k with | .s _ => True | .m id => lookM id m' = lookM id m) → rowsOf m' r w n cs = rowsOf m r w n cs
 | 0,cs,h => rfl
 | n + 1,cs,h => by
  simp only [rowsOf]
  rw [pack_agree r (cs.take w) (fun k hk => h k (cellKeys_sub (fun a ha => List.mem_of_mem_take ha) k hk)),rowsOf_agree n (cs.drop w) (fun k hk => h k (cellKeys_sub (fun a ha => List.mem_of_mem_drop ha) k hk))]
theorem agree_keys {rd:List Key} {σ σ':St} (hag:agree rd σ σ') {l:List Key} (ha:∀ k ∈ l,k ∈ rd):∀ k ∈ l,match k with | .s _ => True | .m id => lookM id σ'.mem = lookM id σ.mem:=by
 intro k hk
 cases k with
 | s t => trivial
 | m id => exact hag (.m id) (ha _ hk)
theorem all2_of_mem' {α β:Type} {R R':α → β → Prop}:∀ {l:List α} {k:List β},(∀ a ∈ l,∀ b,R a b → R' a b) → All2 R l k → All2 R' l k
 | [],_,h,.nil => .nil
 | a :: l,_,h,.cons h1 h2 => .cons (h a (by simp) _ h1) (all2_of_mem' (fun x hx => h x (by simp [hx])) h2)
theorem cellsOf_c':∀ {r:Ty} {x:r.D} {a:AC},a ∈ cellsOf r x → ∃ t y,a = .c t y
 | .unit,x,a,h => by cases h
 | .cons p q,x,a,h => by
  simp only [cellsOf,List.mem_cons] at h
  rcases h with h | h
  ·exact ⟨_,_,h⟩
  ·exact cellsOf_c' h
 | .int k,x,a,h => by simp [cellsOf] at h; exact ⟨_,_,h⟩
 | .bool,x,a,h => by simp [cellsOf] at h; exact ⟨_,_,h⟩
 | .str,x,a,h => by simp [cellsOf] at h; exact ⟨_,_,h⟩
 | .list r,x,a,h => by simp [cellsOf] at h; exact ⟨_,_,h⟩
theorem repCs_rep {gh:Gh} {m:Mem} {w:World} (l:List Value):∀ n,RepCs gh m w ((List.replicate n (l.map ofCell)).flatten) ((List.replicate n l).flatten)
 | 0 => .nil
 | n + 1 => by
  rw [List.replicate_succ,List.replicate_succ,List.flatten_cons,List.flatten_cons]
  exact All2.append (repCs_ofCell _) (repCs_rep l n)
theorem run_buildSl {P:Program} (w:World) (t e:TypeId) (len:Nat) (parts:Array (Nat × Value)) (cells:Array Value) (ie:TypeInfo) (z:Value)
  (hu:P.underlying t = some (.slice e)) (hie:P.info? e = some ie) (hz:ie.zero = some z) (hsmall:¬ len * ie.size > 2 ^ 24)
  (h:Instr.fill (fun i => some (i * ie.size,ie.size)) ((Array.range (len * ie.size)).map (z.cells[· % z.cells.size]!)) parts.toList = some cells) :
  (Instr.buildSlice t len parts).run P w = .ok (.slice (some ⟨w.heap.size,0,none⟩) len len) (w.alloc (.cells cells e)):=by
 by_cases h0:len * ie.size = 0
 ·have e0:∀ f:Nat → Value,(Array.range 0).map f = #[]:=fun f => by simp
  rw [h0,e0] at h
  simp [Instr.buildSlice,run_underlying hu,e0,sizeOf,typeInfo,zeroValue,hie,hz,hsmall,h0,h,newRow]
 ·simp [Instr.buildSlice,run_underlying hu,sizeOf,typeInfo,zeroValue,hie,hz,hsmall,h0,h,newRow]
theorem range_zero (z:Array Value) (s n:Nat) (hz:z.size = s) (hs:0 < s):((Array.range (n * s)).map fun i => z[i % z.size]!).toList = (List.replicate n z.toList).flatten:=by
 rw [hz]
 induction n with
 | zero => simp
 | succ n ih =>
  rw [List.replicate_succ',List.flatten_append,← ih]
  simp only [Array.toList_map,Array.toList_range,List.flatten_cons,List.flatten_nil,List.append_nil]
  rw [Nat.add_mul,Nat.one_mul,List.range_add,List.map_append,List.map_map]
  congr 1
  apply List.ext_getElem
  ·simp [hz]
  ·intro i h1 h2
   simp only [List.getElem_map,List.getElem_range,Function.comp]
   have hi:i < s:=by simpa using h1
   rw [Nat.mul_add_mod_self_right,Nat.mod_eq_of_lt hi]
   simp [hz,hi]
section
variable {cx:Cx} {σ:St} {o:Oper} {k:Eff → Option R} {r:R}
theorem op_build {t:Nat} {ps:Array (Nat × Operand)} (hdo:dstOk cx.n o.dst = true) (ho:o.op = .build t ps) (h:step0 cx σ o k = some r):∃ e,k e = some r ∧ OpOK cx.T cx.n σ o e:=by
 simp only [step0,ho] at h
 split at h
 ·rename_i ti l pl hti hl hpl
  split at h
  ·rename_i cs hcs
   refine ⟨_,h,op_pure' hdo rfl fun C gh σ' a w hag hs => ?_⟩
   have hp:=evParts_rep hag hs ps.toList l hl (fun q hq => hq)
   obtain ⟨i,hi1,hi2,_,z,hi4,hi5⟩:=(lookT_ok hti).info
   obtain ⟨vals',h1,h2,_⟩:=fill_rep l _ _ cs z.cells hcs hp (by rw [hi5]; exact repCs_ofCell _)
   unfold placesOf at hpl
   split at hpl
   ·rename_i fs hfs
    have hb:cx.T.built t ((ps.map fun p => (p.1,a.eval p.2)).toList) = some vals':=by
     simp only [Program.built,hi1,hfs,hi4,hpl]
     rw [← h1]
     simp
    refine ⟨.agg vals',?_,vals',rfl,h2⟩
    simp only [execOp,ho,Sem.run_bind]
    have:=run_build (P:=cx.T) w t (ps.map fun p => (p.1,a.eval p.2)) vals' hb
    rw [this]
    rfl
   ·cases hpl
  ·cases h
 ·cases h
theorem op_buildSlice {t n:Nat} {ps:Array (Nat × Operand)} (hdo:dstOk cx.n o.dst = true) (ho:o.op = .buildSlice t n ps) (h:step0 cx σ o k = some r):∃ e,k e = some r ∧ OpOK cx.T cx.n σ o e:=by
 simp only [step0,ho] at h
 split at h
 ·rename_i e te l hel hl hfr
  obtain ⟨hel1,hel2⟩:=elemOf_ok hel
  split at h
  ·rename_i ty hty
   cases hcond:(Nat.beq ty.width te.width && (Nat.blt 0 te.width && (Nat.ble (n * te.width) 16777216 && Nat.beq te.zero.length te.width))) with
   | false => rw [hcond] at h; cases h
   | true =>
    rw [hcond] at h
    simp only [cond_true] at h
    simp only [Bool.and_eq_true] at hcond
    obtain ⟨c1,c2,c3,c4⟩:=hcond
    have c1:=beq_true.1 c1
    have c2:0 < te.width:=Nat.le_of_ble_eq_true c2
    have c3:=Nat.le_of_ble_eq_true c3
    have c4:=beq_true.1 c4
    split at h
    ·rename_i cs hcs
     cases hxs:rowsOf σ.mem ty te.width n cs with
     | none => rw [hxs] at h; cases h
     | some xs =>
      rw [hxs] at h
      simp only [Option.bind_some] at h
      refine ⟨_,h,?_⟩
      intro C gh σ' a w next Q hn hag hs hk
      have hf':σ'.blk (o.dst.getD 0) = none:=by rw [agree_m hag (by simp)]; exact hfr
      have hp:=evParts_rep hag hs ps.toList l hl (fun q hq => by simp only [List.mem_append,List.cons_append,List.mem_cons]; exact .inr (.inl hq))
      obtain ⟨i,hi1,hi2,_,z,hi4,hi5⟩:=hel2.info
      have hzs:z.cells.size = te.width:=by rw [← c4,← hi5]; simp
      have hz0:=range_zero z.cells te.width n hzs c2
      have hz1:RepCs gh σ'.blk w ((List.replicate n (te.zero.map ofCell)).flatten) ((Array.range (n * te.width)).map fun i => z.cells[i % z.cells.size]!).toList:=by
       rw [hz0,← hi5]
       exact repCs_rep _ n
      have hplace:(fun i => some (i * te.width,te.width)) = fun (j:Nat) => some (j * i.size,i.size):=by rw [hi2]
      obtain ⟨vals',f1,f2,f3⟩:=fill_rep l _ _ cs _ hcs hp hz1
      have hsz:vals'.size = n * te.width:=by rw [f3]; simp
      have hcl:cs.length = n * te.width:=by have:=f2.length; simp at this; omega
      have f2':RepCs gh (fun i => lookM i σ'.mem) w cs vals'.toList:=f2
      have hxs':rowsOf σ'.mem ty te.width n cs = some xs:=by
       rw [rowsOf_agree _ _ (agree_keys hag (l:=cellKeys cs) (by intro q hq; exact List.mem_append_right _ hq))]; exact hxs
      obtain ⟨g1,g2⟩:=rowsOf_rep hs.heap n cs xs _ hxs' hcl f2'
      have hrun:(execOp a.eval o).run cx.T w = .ok (.value (.slice (some ⟨w.heap.size,0,none⟩) n n)) (w.alloc (.cells vals' e)):=by
       have:=run_buildSl (P:=cx.T) w t e n (ps.map fun p => (p.1,a.eval p.2)) vals' i z hel1 hi1 hi4 (by rw [hi2]; exact Nat.not_lt.2 c3) (by
        rw [← hplace,hi2,← f1]
        simp)
       simp only [execOp,ho,Sem.run_bind]
       rw [this]
       rfl
      have hn63:n ≤ maxLen:=by
       have:n ≤ n * te.width:=Nat.le_mul_of_pos_right _ c2
       unfold maxLen
       omega
      have hown:=World.rowR_lit (base:=0) (e:=e) (size:=te.width) w vals' n (Nat.zero_le _) hn63 hsz
      have hnew:=heap_new hs.heap hf' (dst_pin hdo) (b:=.lst e ty xs (!memN (o.dst.getD 0) cx.mu)) (v:=.slice (some ⟨w.heap.size,0,none⟩) n n) (w':=w.alloc (.cells vals' e)) (Nat.le_refl _) (below_alloc' w _)
       (by intro k hk; simp [blockOfV] at hk; omega) (fun x => gh.S x ∨ ((!memN (o.dst.getD 0) cx.mu) = true ∧ x.block = w.heap.size ∧ x.spot = none ∧ x.off < n * te.width)) (fun _ h => .inl h)
       (fun x hx => by
        rcases hx with hx | ⟨x1,x2,x3,x4⟩
        ·exact .inl hx
        ·refine .inr ⟨by simp [blockOfV,x2],⟨x1,by rw [g2,c1]; exact x4⟩,x3,?_⟩
         have hv:vals'.toList[x.off]? = some vals'[x.off]:=by simp [hsz,x4]
         have:=hown.cellAt x.off x4
         rw [hv] at this
         have hx':x = ⟨w.heap.size,x.off,none⟩:=by cases x; simp_all
         rw [hx']
         exact ⟨_,this⟩)
       (fun hext => by
        refine ⟨vals'.toList,?_,?_,by rw [c1]; exact c2,?_⟩
        ·simp only [Nat.beq_refl,cond_true]
         rw [g2,c1]
         exact hown
        ·exact repCs_mono (g:=gh) (w:=w) (g':=⟨_,fun x => gh.S x ∨ ((!memN (o.dst.getD 0) cx.mu) = true ∧ x.block = w.heap.size ∧ x.spot = none ∧ x.off < n * te.width),gh.K⟩) (fun _ h => Or.inl h) (fun x hx => (below_alloc' w _).cell (hs.heap.S_lt hx)) hext g1
        ·intro hfz g hg j hj
         simp [Gh.blk,blockOfV] at hg
         subst hg
         exact .inr ⟨hfz,rfl,rfl,by rw [← g2,← c1]; exact hj⟩)
      obtain ⟨hH,hT,hext⟩:=hnew
      refine wp_value hrun (hk _ _ _ (sim_step hs (hn.1 ▸ hdo) hT hH hext fun _ => ?_))
      refine ⟨?_,by simp,some ⟨w.heap.size,0,none⟩,n,n,rfl⟩
      rw [blk_cons,upd_same]; simp
    ·cases h
  ·cases h
 ·cases h

theorem op_newlist {P:Program} {n e:Nat} {ty:Ty} {xs:List ty.D} {fz:Bool} {rd:List Key} (hdo:dstOk n o.dst = true) (hf:σ.blk (o.dst.getD 0) = none) (hrd:Key.m (o.dst.getD 0) ∈ rd) (hw:0 < ty.width)
  (h:∀ (C:Ctx) gh σ' (a:Act) (w:World),agree rd σ σ' → Sim C gh σ' a w → ∃ vals cap,(execOp a.eval o).run P w = .ok (.value (.slice (some ⟨w.heap.size,0,none⟩) xs.length cap)) (w.alloc (.cells vals e)) ∧
   xs.length ≤ cap ∧ cap ≤ maxLen ∧ vals.size = cap * ty.width ∧ RepCs gh σ'.blk w (rowsCells ty xs) (vals.toList.take (xs.length * ty.width))) :
  OpOK P n σ o { put:=one (.own (o.dst.getD 0)),blks:=[(o.dst.getD 0,.lst e ty xs fz)],rd:=rd }:=by
 intro C gh σ' a w next Q hn hag hs hk
 obtain ⟨vals,cap,hrun,hnc,hcm,hsz,hl⟩:=h C gh σ' a w hag hs
 have hf':σ'.blk (o.dst.getD 0) = none:=by rw [agree_m hag hrd]; exact hf
 have hle:xs.length * ty.width ≤ vals.toList.length:=by
  have h1:vals.toList.length = cap * ty.width:=by rw [← hsz]; simp
  rw [h1]; exact Nat.mul_le_mul_right _ hnc
 have hown:(w.alloc (.cells vals e)).rowR 0 e ty.width (.slice (some ⟨w.heap.size,0,none⟩) xs.length cap) xs.length (vals.toList.take (xs.length * ty.width)):=
  ⟨by rw [List.length_take]; omega,.inr ⟨w.heap.size,cap,vals,rfl,Nat.zero_le _,heap_alloc_new w _,hnc,hcm,Nat.le_of_eq hsz.symm,rfl⟩⟩
 have hnew:=heap_new hs.heap hf' (dst_pin hdo) (b:=.lst e ty xs fz) (v:=.slice (some ⟨w.heap.size,0,none⟩) xs.length cap) (w':=w.alloc (.cells vals e)) (Nat.le_refl _) (below_alloc' w _)
  (by intro k hk; simp [blockOfV] at hk; omega) (fun x => gh.S x ∨ (fz = true ∧ x.block = w.heap.size ∧ x.spot = none ∧ x.off < xs.length * ty.width)) (fun _ h => .inl h)
  (fun x hx => by
   rcases hx with hx | ⟨x1,x2,x3,x4⟩
   ·exact .inl hx
   ·refine .inr ⟨by simp [blockOfV,x2],⟨x1,x4⟩,x3,?_⟩
    have:=hown.cellAt x.off x4
    have hlt:x.off < (vals.toList.take (xs.length * ty.width)).length:=by rw [List.length_take]; omega
    rw [List.getElem?_eq_getElem hlt] at this
    have hx':x = ⟨w.heap.size,x.off,none⟩:=by cases x; simp_all
    rw [hx']
    exact ⟨_,this⟩)
  (fun hext => by
   refine ⟨vals.toList.take (xs.length * ty.width),?_,?_,hw,?_⟩
   ·simp only [Nat.beq_refl,cond_true]
    exact hown
   ·exact repCs_mono (g:=gh) (w:=w) (g':=⟨_,fun x => gh.S x ∨ (fz = true ∧ x.block = w.heap.size ∧ x.spot = none ∧ x.off < xs.length * ty.width),gh.K⟩) (fun _ h => Or.inl h) (fun x hx => (below_alloc' w _).cell (hs.heap.S_lt hx)) hext hl
   ·intro hfz g hg j hj
    simp [Gh.blk,blockOfV] at hg
    subst hg
    exact .inr ⟨hfz,rfl,rfl,hj⟩)
 obtain ⟨hH,hT,hext⟩:=hnew
 refine wp_value hrun (hk _ _ _ (sim_step hs (hn.1 ▸ hdo) hT hH hext fun _ => ?_))
 refine ⟨?_,by simp,some ⟨w.heap.size,0,none⟩,xs.length,cap,rfl⟩
 rw [blk_cons,upd_same]; simp
theorem rep_flat {gh:Gh} {m:Mem} {w:World} {r:Ty} {z:r.D} {l:List Value} (h:RepCs gh m w (cellsOf r z) l):∀ n,RepCs gh m w (rowsCells r (List.replicate n z)) ((List.replicate n l).flatten)
 | 0 => .nil
 | n + 1 => by
  have e1:rowsCells r (List.replicate (n + 1) z) = cellsOf r z ++ rowsCells r (List.replicate n z):=by unfold rowsCells; rw [List.replicate_succ,List.flatMap_cons]
  rw [e1,List.replicate_succ,List.flatten_cons]
  exact All2.append h (rep_flat h n)
theorem take_flat (l:List Value) (s:Nat) (hl:l.length = s) (n c:Nat) (h:n ≤ c):((List.replicate c l).flatten).take (n * s) = (List.replicate n l).flatten:=by
 obtain ⟨k,rfl⟩:=Nat.exists_eq_add_of_le h
 rw [← List.replicate_append_replicate,List.flatten_append,List.take_append_of_le_length (by simp [hl]),List.take_of_length_le (by simp [hl])]
theorem op_makeSlice {t:Nat} {x y:Operand} (hdo:dstOk cx.n o.dst = true) (ho:o.op = .makeSlice t x y) (h:step0 cx σ o k = some r):∃ e,k e = some r ∧ OpOK cx.T cx.n σ o e:=by
 simp only [step0,ho] at h
 split at h
 ·rename_i e te hel hfr
  obtain ⟨hel1,hel2⟩:=elemOf_ok hel
  split at h
  ·rename_i ty hty
   split at h
   ·rename_i kl l kc c hx hy
    cases hcond:(Nat.beq ty.width te.width && (Nat.blt 0 te.width && Nat.beq te.zero.length te.width)) with
    | false => rw [hcond] at h; cases h
    | true =>
     rw [hcond] at h
     simp only [cond_true] at h
     simp only [Bool.and_eq_true] at hcond
     obtain ⟨c1,c2,c3⟩:=hcond
     have c1:=beq_true.1 c1
     have c2:0 < te.width:=Nat.le_of_ble_eq_true c2
     have c3:=beq_true.1 c3
     cases hz:pack [] ty (te.zero.map ofCell) with
     | none => rw [hz] at h; cases h
     | some z =>
      rw [hz] at h
      simp only [Option.bind_some] at h
      cases hc:(decide (0 ≤ l) && (decide (l ≤ c) && decide ((te.bytes:Int) * c ≤ 281474976710656) && decide (c ≤ 9223372036854775807))) with
      | false => rw [hc] at h; cases h
      | true =>
       rw [hc] at h
       simp only [cond_true] at h
       simp only [Bool.and_eq_true,decide_eq_true_eq] at hc
       obtain ⟨d1,⟨d2,d3⟩,d4⟩:=hc
       have d1:@LE.le Int _ 0 l:=d1
       have d2:@LE.le Int _ l c:=d2
       have d4:@LE.le Int _ c 9223372036854775807:=d4
       have q1:(Int.toNat l) ≤ (Int.toNat c):=by omega
       have q2:(Int.toNat c) ≤ 2 ^ 63 - 1:=by omega
       refine ⟨_,h,op_newlist hdo hfr (by simp) (by omega) fun C gh σ' a w hag hs => ?_⟩
       have hvx:a.eval x = .int kl l:=ev_at hag hs (by intro q hq; simp [hq]) hx
       have hvy:a.eval y = .int kc c:=ev_at hag hs (by intro q hq; simp [hq]) hy
       obtain ⟨i,hi1,hi2,hi3,zv,hi4,hi5⟩:=hel2.info
       have hr:=run_make (P:=cx.T) w t e i zv hel1 hi1 hi4 kl kc l c d1 d2 (by rw [hi3]; exact d3) d4
       have hzs:zv.cells.size = te.width:=by rw [← c3,← hi5]; simp
       have hzl:zv.cells.toList.length = te.width:=by rw [Array.length_toList]; exact hzs
       have hmc:(madeCells zv.cells (c.toNat * te.width)).toList = (List.replicate c.toNat zv.cells.toList).flatten:=range_zero zv.cells te.width c.toNat hzs c2
       refine ⟨madeCells zv.cells (c.toNat * i.size),c.toNat,?_,?_,?_,?_,?_⟩
       ·simp only [execOp,ho,Sem.run_bind,hvx,hvy]
        rw [hr,List.length_replicate]
        rfl
       ·rw [List.length_replicate]; exact q1
       ·exact q2
       ·rw [size_madeCells,hi2,c1]
       ·rw [List.length_replicate,hi2,hmc,c1,take_flat _ _ hzl _ _ q1]
        refine rep_flat ?_ _
        have h0:HeapOK gh (fun i => lookM i []) w:=heap_nil hs.heap
        have h1:=pack_rep h0 ty _ z zv.cells.toList hz (by rw [hi5]; exact repCs_ofCell _)
        refine all2_of_mem' (fun a ha v hv => ?_) h1
        obtain ⟨t',y',rfl⟩:=cellsOf_c' ha
        exact hv
   ·cases h
  ·cases h
 ·cases h

theorem splice_take {α:Type} (L new:List α) (p N:Nat) (h:p + new.length ≤ N) (hN:N ≤ L.length):(L.take p ++ new ++ L.drop (p + new.length)).take N = (L.take N).take p ++ new ++ (L.take N).drop (p + new.length):=by
 rw [List.take_append,List.take_of_length_le (l:=L.take p ++ new) (by rw [List.length_append,List.length_take]; omega)]
 rw [List.take_take,show min p N = p by omega,List.drop_take]
 congr 2
 rw [List.length_append,List.length_take]
 omega
theorem splice_mid {α:Type} (L new:List α) (q o s:Nat) (h:o + new.length ≤ s) (hL:q + s ≤ L.length) :
  L.take (q + o) ++ new ++ L.drop (q + o + new.length) = L.take q ++ (((L.drop q).take s).take o ++ new ++ ((L.drop q).take s).drop (o + new.length)) ++ L.drop (q + s):=by
 have e1:L.take (q + o) = L.take q ++ ((L.drop q).take s).take o:=by
  rw [List.take_take,show min o s = o by omega,List.take_add]
 have e2:L.drop (q + o + new.length) = ((L.drop q).take s).drop (o + new.length) ++ L.drop (q + s):=by
  have h3:L.drop (q + o + new.length) = (L.drop q).drop (o + new.length):=by rw [List.drop_drop]; congr 1; omega
  have h4:∀ M:List α,M.drop s = (M.drop (o + new.length)).drop (s - (o + new.length)):=fun M => by rw [List.drop_drop]; congr 1; omega
  have h5:L.drop (q + s) = (L.drop q).drop s:=by rw [List.drop_drop]
  rw [h3,h5,h4 (L.drop q),List.drop_take]
  exact (List.take_append_drop _ _).symm
 rw [e1,e2]
 simp only [List.append_assoc]
theorem rowsCells_app {r:Ty} (a b:List r.D):rowsCells r (a ++ b) = rowsCells r a ++ rowsCells r b:=by simp [rowsCells]
theorem rowsCells_take {r:Ty} (xs:List r.D) (i:Nat) (h:i ≤ xs.length):(rowsCells r xs).take (i * r.width) = rowsCells r (xs.take i):=by
 conv => lhs; rw [← List.take_append_drop i xs,rowsCells_app]
 rw [List.take_append_of_le_length (by rw [rowsCells_length,List.length_take]; exact Nat.mul_le_mul_right _ (by omega)),List.take_of_length_le (by rw [rowsCells_length,List.length_take]; exact Nat.mul_le_mul_right _ (by omega))]
theorem rowsCells_drop {r:Ty} (xs:List r.D) (i:Nat) (h:i ≤ xs.length):(rowsCells r xs).drop (i * r.width) = rowsCells r (xs.drop i):=by
 conv => lhs; rw [← List.take_append_drop i xs,rowsCells_app]
 have:(rowsCells r (xs.take i)).length = i * r.width:=by rw [rowsCells_length,List.length_take,Nat.min_eq_left h]
 rw [← this,List.drop_left]
theorem op_store_eo {t:Nat} {x y:Operand} {ti:TI} {id i wd off e:Nat} {a1:A1} {ty:Ty} {xs:List ty.D} {y0 z:ty.D} (hdo:dstOk cx.n o.dst = true) (ho:o.op = .store t x y) (hti:lookT t cx.T = some ti)
  (hx:ev σ x = .v (.one (.eo id i wd off))) (hy:ev σ y = .v a1) (hm:lookM id σ.mem = some (.lst e ty xs false)) (hok:a1.cells.all AC.ok = true) (hw:a1.cells.length = ti.width) (hwd:wd = ty.width) (hle:off + ti.width ≤ ty.width)
  (hxi:xs[i]? = some y0) (hz:pack σ.mem ty (splice (cellsOf ty y0) off a1.cells) = some z)
  (h:k { put:=one .junk,blks:=[(id,.lst e ty (xs.set i z) false)],rd:=.m id :: opKeys x ++ opKeys y ++ cellKeys (splice (cellsOf ty y0) off a1.cells) } = some r):∃ e,k e = some r ∧ OpOK cx.T cx.n σ o e:=by
 refine ⟨_,h,?_⟩
 intro C gh σ' a w next Q hn hag hs hk
 have hm':σ'.blk id = some (.lst e ty xs false):=by rw [agree_m hag (by simp)]; exact hm
 obtain ⟨vs,h1,h2,h3,_⟩:=hs.heap.blk id _ hm'
 have hil:i < xs.length:=(List.getElem?_eq_some_iff.1 hxi).1
 rcases h1.2 with ⟨hv,h0⟩ | ⟨g,cap,cur,hv,_,hg,hnc,hcm,hcs,htk⟩
 ·omega
 obtain ⟨_,b,n',c',h5,h6⟩:=(ev_at hag hs (by intro k hk; simp [hk]) hx:RepC gh σ'.blk w (.eo id i wd off) (a.eval x))
 rw [hv] at h5
 simp at h5
 obtain ⟨rfl,_⟩:=h5
 subst hwd
 obtain ⟨h7,h8⟩:=rep1_cells (ev_at hag hs (by intro k hk; simp [hk]) hy:Rep1 gh σ'.blk w a1 (a.eval y)) hok
 have hlen:(a.eval y).cells.toList.length = ti.width:=by rw [← h7.length,hw]
 have hvl:vs.length = xs.length * ty.width:=h1.1
 have hrow:i * ty.width + ty.width ≤ xs.length * ty.width:=by
  have:=Nat.mul_le_mul_right ty.width (show i + 1 ≤ xs.length from hil)
  rw [Nat.add_mul,Nat.one_mul] at this
  exact this
 have hcurl:cap * ty.width ≤ cur.toList.length:=by simpa using hcs
 have hcapw:xs.length * ty.width ≤ cap * ty.width:=Nat.mul_le_mul_right _ hnc
 have hst:=run_storeCells_at cx.T g (i * ty.width + off) e (a.eval y).cells.toList 0 cur w hg (by rw [hlen]; omega) h8
 have hrun:(execOp a.eval o).run cx.T w = .ok .skip (w.setRow g (cur.toList.take (i * ty.width + off) ++ (a.eval y).cells.toList ++ cur.toList.drop (i * ty.width + off + (a.eval y).cells.toList.length)).toArray):=by
  simp only [Nat.add_zero] at hst
  have hsz:(a.eval y).cells.size = ti.width:=by simpa using hlen
  simp [execOp,ho,h6,Instr.storeAt,Instr.sureAddr,storeVar,run_sizeOf (lookT_ok hti),hsz,hst]
 generalize hV:cur.toList.take (i * ty.width + off) ++ (a.eval y).cells.toList ++ cur.toList.drop (i * ty.width + off + (a.eval y).cells.toList.length) = V at hrun
 have hVl:V.length = cur.toList.length:=by rw [← hV,splice_length _ _ _ (by rw [hlen]; omega)]
 have hVt:V.take (xs.length * ty.width) = vs.take (i * ty.width + off) ++ (a.eval y).cells.toList ++ vs.drop (i * ty.width + off + (a.eval y).cells.toList.length):=by
  rw [← hV,splice_take _ _ _ _ (by rw [hlen]; omega) (by omega),htk]
 have hput:=heap_put hs.heap hm' rfl (b':=.lst e ty (xs.set i z) false) rfl (g:=g) (by simp [Gh.blk,hv,blockOfV]) (w':=w.setRow g V.toArray) (fun x h => by obtain ⟨h,_⟩:=h; cases h) (Nat.le_refl _) (grownBy_setRow w g V.toArray) (fun hc hext => by
  refine ⟨V.take (xs.length * ty.width),?_,?_,h3,fun hf => by cases hf⟩
  ·rw [List.length_set]
   refine ⟨by rw [List.length_take,hVl]; omega,.inr ⟨g,cap,V.toArray,hv,Nat.zero_le _,setRow_heap w g cur _ e (0,0) hg,hnc,hcm,by rw [List.size_toArray,hVl]; exact hcurl,rfl⟩⟩
  ·rw [hVt,splice_mid vs (a.eval y).cells.toList (i * ty.width) off ty.width (by rw [hlen]; exact hle) (by rw [hvl]; exact hrow)]
   have hset:xs.set i z = xs.take i ++ [z] ++ xs.drop (i + 1):=by rw [List.set_eq_take_append_cons_drop,if_pos hil]; simp
   have hrs:rowsCells ty (xs.set i z) = rowsCells ty (xs.take i) ++ cellsOf ty z ++ rowsCells ty (xs.drop (i + 1)):=by
    rw [hset,rowsCells_app,rowsCells_app]
    simp [rowsCells]
   rw [hrs]
   have r1:RepCs gh σ'.blk w (rowsCells ty (xs.take i)) (vs.take (i * ty.width)):=by rw [← rowsCells_take xs i (by omega)]; exact h2.take _
   have r3:RepCs gh σ'.blk w (rowsCells ty (xs.drop (i + 1))) (vs.drop (i * ty.width + ty.width)):=by
    rw [← rowsCells_drop xs (i + 1) (by omega),Nat.add_mul,Nat.one_mul]; exact h2.drop _
   have r2:RepCs gh σ'.blk w (cellsOf ty y0) ((vs.drop (i * ty.width)).take ty.width):=by
    rw [← rowsCells_at xs i y0 hxi]
    exact (h2.drop _).take _
   have r2':=all2_splice r2 h7 off
   have hz':pack σ'.mem ty (splice (cellsOf ty y0) off a1.cells) = some z:=by
    rw [pack_agree _ _ (agree_keys hag (l:=cellKeys (splice (cellsOf ty y0) off a1.cells)) (by intro q hq; simp [hq]))]
    exact hz
   have r2'':=pack_rep hs.heap ty _ z _ hz' r2'
   exact repCs_mono (g:=gh) (g':=gh) (m:=σ'.blk) (fun _ h => h) hc hext (All2.append (All2.append r1 r2'') r3))
 obtain ⟨hH,hT,hext⟩:=hput
 exact wp_skip hrun (hk gh _ _ (sim_step hs (hn.1 ▸ hdo) hT hH hext fun _ => trivial))
theorem op_store {t:Nat} {x y:Operand} (hdo:dstOk cx.n o.dst = true) (ho:o.op = .store t x y) (h:step0 cx σ o k = some r):∃ e,k e = some r ∧ OpOK cx.T cx.n σ o e:=by
 simp only [step0,ho] at h
 split at h
 ·rename_i ti id off a1 hti hx hy
  exact op_store_box hdo ho hti hx hy h
 ·rename_i ti id i wd off a1 hti hx hy
  split at h
  ·rename_i e ty xs hm
   cases hc:(a1.cells.all AC.ok && (Nat.beq a1.cells.length ti.width && (Nat.beq wd ty.width && Nat.ble (off + ti.width) ty.width))) with
   | false => rw [hc] at h; cases h
   | true =>
    rw [hc] at h
    simp only [cond_true] at h
    simp only [Bool.and_eq_true] at hc
    obtain ⟨q1,q2,q3,q4⟩:=hc
    cases hxi:xs[i]? with
    | none => rw [hxi] at h; cases h
    | some y0 =>
     rw [hxi] at h
     simp only [Option.bind_some] at h
     cases hz:pack σ.mem ty (splice (cellsOf ty y0) off a1.cells) with
     | none => rw [hz] at h; cases h
     | some z =>
      rw [hz] at h
      simp only [Option.bind_some] at h
      exact op_store_eo hdo ho hti hx hy hm q1 (beq_true.1 q2) (beq_true.1 q3) (Nat.le_of_ble_eq_true q4) hxi hz h
  ·cases h
 ·cases h
end
end Go.Vx
namespace Go.Vx
open Go Go.RowKit
set_option linter.unusedVariables false
set_option linter.unusedSimpArgs false
variable {R:Type}
section
variable {cx:Cx} {σ:St} {o:Oper} {k:Eff → Option R} {r:R}
theorem arr_of_toList {α:Type} {a:Array α} {l:List α} (h:a.toList = l):a = l.toArray:=by rw [← h]
theorem sim_put' {C:Ctx} {gh:Gh} {σ:St} {a:Act} {w:World} {dst:Option Nat} {e:Eff} {v:Value} (h:Sim C gh σ a w) (hd:dstOk C.n dst = true) (hm:(σ.apply dst e).blk = σ.blk)
  (hr:dst ≠ none → RepV gh σ.blk w e.put v):Sim C gh (σ.apply dst e) (a.put dst v) w:=by
 refine sim_step h hd ?_ ?_ ?_ ?_
 ·rw [hm]; exact Tr.refl _ _ _
 ·rw [hm]; exact h.heap
 ·intro id hid; rw [hm]; exact ⟨hid,rfl⟩
 ·rw [hm]; exact hr
theorem map_three {α β:Type} {f:α → β} {l:List α} {b c d:β} (h:l.map f = [b,c,d]):∃ x y z,l = [x,y,z] ∧ f x = b ∧ f y = c ∧ f z = d:=by
 match l,h with
 | [x,y,z],h => simp at h; exact ⟨x,y,z,rfl,h.1,h.2.1,h.2.2⟩
theorem src_os {gh:Gh} {m:Mem} {w:World} (H:HeapOK gh m w) {id e:Nat} {r:Ty} {xs:List r.D} {fz:Bool} (h:m id = some (.lst e r xs fz)) {lo hi:Nat} {v:Value} (hv:RepC gh m w (.os id lo hi r.width) v):SrcOK gh m w r ((xs.take hi).drop lo) v:=by
 obtain ⟨vs,h1,h2,h3,_⟩:=H.blk id _ h
 obtain ⟨_,hlo,a0,n,c0,a,c,hg,hn,rfl,hc,hca,hpos,_⟩:=hv
 have hxl:hi ≤ xs.length:=by
  rcases h1.2 with ⟨q1,q2⟩ | ⟨g,cap,cur,q1,_⟩
  ·rw [hg] at q1; injection q1 with _ q1; omega
  ·rw [hg] at q1; injection q1 with _ q1; omega
 have hlen:((xs.take hi).drop lo).length = hi - lo:=by simp; omega
 have hrep:RepCs gh m w (rowsCells r ((xs.take hi).drop lo)) ((vs.take (hi * r.width)).drop (lo * r.width)):=by
  rw [← rowsCells_drop _ _ (by simp; omega),← rowsCells_take _ _ hxl]
  exact (h2.take _).drop _
 have hnl:((vs.take (hi * r.width)).drop (lo * r.width)).length = ((xs.take hi).drop lo).length * r.width:=by
  rw [hlen,List.length_drop,List.length_take,h1.1,Nat.sub_mul]
  have:=Nat.mul_le_mul_right r.width hxl
  omega
 refine ⟨_,hrep,hnl,?_⟩
 cases a with
 | none =>
  refine .inl ?_
  have:hi - lo = 0:=by have:=hca rfl; omega
  rw [this,hca rfl]
  exact ⟨rfl,List.eq_nil_of_length_eq_zero (by rw [hlen]; exact this)⟩
 | some ad =>
  refine .inr ⟨ad,c,by rw [hlen],fun j u hu => ?_⟩
  have hj:j < (hi - lo) * r.width:=by
   have:=(List.getElem?_eq_some_iff.1 hu).1
   rw [hnl,hlen] at this
   exact this
  have hlt:lo < hi:=by
   rcases Nat.lt_or_ge lo hi with h | h
   ·exact h
   ·rw [show hi - lo = 0 by omega] at hj; simp at hj
  obtain ⟨b,hb,hab⟩:=hpos hlt
  injection hab with hab
  subst hab
  rw [add_plain]
  rw [List.getElem?_drop,List.getElem?_take] at hu
  split at hu
  ·have hown:=h1
   rw [hg,hb] at hown
   have:=hown.cells rfl (lo * r.width + j) u hu
   rw [add_plain] at this
   simpa using this
  ·cases hu
theorem op_clear {t:Nat} {c:Call} {p:Operand} {ac:AC} {id b n wd e e0:Nat} {te:TI} {ty:Ty} {xs:List ty.D} {z:ty.D} (hdo:dstOk cx.n o.dst = true) (ho:o.op = .call c) (hc:c.callee = .builtin .clear)
  (hargs:c.args = #[p]) (hty:c.argTypes = #[t]) (hp:ev σ p = .v (.one ac)) (ht:tailOf σ.mem ac = some (id,b,n,wd)) (hel:elemOf cx.T t = some (e0,te)) (hm:lookM id σ.mem = some (.lst e ty xs false))
  (hw:ty.width = te.width) (hwd:wd = ty.width) (hw0:0 < te.width) (hzl:te.zero.length = te.width) (hz:pack [] ty (te.zero.map ofCell) = some z) {rd:List Key} (hrd:Key.m id ∈ rd) (hrd2:∀ q ∈ opKeys p,q ∈ rd) :
  OpOK cx.T cx.n σ o { put:=.tup [],blks:=[(id,.lst e ty (xs.take b ++ List.replicate n z ++ xs.drop (b + n)) false)],rd:=rd }:=by
 intro C gh σ' a w next Q hn hag hs hk
 have hm':lookM id σ'.mem = some (.lst e ty xs false):=by
  have:σ'.blk id = σ.blk id:=agree_m hag hrd
  rw [← hm]; exact this
 have hrep:RepC gh σ'.blk w ac (a.eval p):=ev_at hag hs hrd2 hp
 obtain ⟨hos,e',r',xs',hm2,hbn⟩:=tail_rep hs.heap (tail_agree ht (by rw [hm',hm])) hrep
 rw [hm'] at hm2
 injection hm2 with hm2
 injection hm2 with e1 e2 e3 _
 subst e1 e2
 have e3:=eq_of_heq e3
 subst e3
 obtain ⟨q1,q2,a0,n0,c0,ad,cap,q3,q4,q5,q6,q7,q8,_⟩:=hos
 have hnn:b + n - b = n:=by omega
 rw [hnn] at q5 q6
 obtain ⟨hel1,hel2⟩:=elemOf_ok hel
 obtain ⟨vs,h1,h2,h3,_⟩:=hs.heap.blk id _ hm'
 by_cases hn0:n = 0
 ·subst hn0
  have hxs:xs.take b ++ List.replicate 0 z ++ xs.drop (b + 0) = xs:=by simp
  rw [hxs] at hk
  have hrun:(execOp a.eval o).run cx.T w = .ok (.value (.tuple #[])) w:=by
   rw [run_builtin hc ho,hargs,hty]
   simp only [builtin,Sem.run_bind]
   rw [show (Array.map a.eval #[p]) = #[a.eval p] by simp,q5]
   cases ad <;> simp [Builtin.clear_,run_underlying hel1]
  refine wp_value hrun (hk gh _ _ (sim_put' hs (hn.1 ▸ hdo) ?_ fun _ => ⟨#[],rfl,.nil⟩))
  funext i
  show lookM i ((id,Blk.lst e ty xs false) :: σ'.mem) = lookM i σ'.mem
  simp only [lookM]
  cases hb:Nat.beq id i with
  | false => rfl
  | true => rw [← beq_true.1 hb,hm']; rfl
 ·obtain ⟨g',q9,q10⟩:=q8 (by omega)
  subst q9 q10
  rcases h1.2 with ⟨hv,h0⟩ | ⟨g,cap',cur,hv,_,hg,hnc,hcm,hcs,htk⟩
  ·omega
  have hv':=hv
  rw [q3] at hv'
  injection hv' with hv1 hv2 hv3
  injection hv1 with hv1
  injection hv1 with hv1 _
  subst hv1
  subst hwd
  obtain ⟨ie,hi1,hi2,hi3,zv,hi4,hi5⟩:=hel2.info
  have hzs:zv.cells.size = te.width:=by rw [← hzl,← hi5]; simp
  have hzv:∀ w,(zeroValue e0).run cx.T w = .ok zv w:=fun w => by simp [zeroValue,typeInfo,hi1,hi4]
  have hzc:(Builtin.zeroCells zv.cells n).toList = (List.replicate n zv.cells.toList).flatten:=by
   have:=range_zero zv.cells te.width n hzs hw0
   rw [← this]
   unfold Builtin.zeroCells
   rw [hzs]
  generalize hZ:(List.replicate n zv.cells.toList).flatten = Z at hzc
  have hZl:Z.length = n * te.width:=by rw [← hZ]; simp [hzs]
  have hrZ:RepCs gh σ'.blk w (rowsCells ty (List.replicate n z)) Z:=by
   rw [← hZ]
   refine rep_flat ?_ _
   have h0:HeapOK gh (fun i => lookM i []) w:=heap_nil hs.heap
   have h1:=pack_rep h0 ty _ z zv.cells.toList hz (by rw [hi5]; exact repCs_ofCell _)
   refine all2_of_mem' (fun a ha v hv => ?_) h1
   obtain ⟨t',y',rfl⟩:=cellsOf_c' ha
   exact hv
  have hZo:∀ v ∈ Z,v.oneCell' = true:=repCs_one hrZ (rowsCells_ok _)
  have hvl:vs.length = xs.length * ty.width:=h1.1
  have hcurl:cap' * ty.width ≤ cur.toList.length:=by simpa using hcs
  have hcapw:xs.length * ty.width ≤ cap' * ty.width:=Nat.mul_le_mul_right _ hnc
  have hbw:b * ty.width + n * ty.width ≤ xs.length * ty.width:=by rw [← Nat.add_mul]; exact Nat.mul_le_mul_right _ hbn
  have hst:=run_storeCells_at cx.T g' (b * ty.width) e Z 0 cur w hg (by rw [hZl,← hw]; omega) hZo
  simp only [Nat.add_zero] at hst
  generalize hV:cur.toList.take (b * ty.width) ++ Z ++ cur.toList.drop (b * ty.width + Z.length) = V at hst
  have hVl:V.length = cur.toList.length:=by rw [← hV,splice_length _ _ _ (by rw [hZl,← hw]; omega)]
  have hVt:V.take (xs.length * ty.width) = vs.take (b * ty.width) ++ Z ++ vs.drop (b * ty.width + Z.length):=by
   rw [← hV,splice_take _ _ _ _ (by rw [hZl,← hw]; omega) (by omega),htk]
  have hrun:(execOp a.eval o).run cx.T w = .ok (.value (.tuple #[])) (w.setRow g' V.toArray):=by
   rw [run_builtin hc ho,hargs,hty]
   simp only [builtin,Sem.run_bind]
   rw [show (Array.map a.eval #[p]) = #[a.eval p] by simp,q5]
   obtain ⟨n',rfl⟩:∃ n',n = n' + 1:=⟨n - 1,by omega⟩
   simp [Builtin.clear_,run_underlying hel1,hzv,hzc,hst]
  have hput:=heap_put hs.heap hm' rfl (b':=.lst e ty (xs.take b ++ List.replicate n z ++ xs.drop (b + n)) false) rfl (g:=g') (by simp [Gh.blk,hv,blockOfV]) (w':=w.setRow g' V.toArray) (fun x h => by obtain ⟨h,_⟩:=h; cases h) (Nat.le_refl _) (grownBy_setRow w g' V.toArray) (fun hc hext => by
   have hlen:(xs.take b ++ List.replicate n z ++ xs.drop (b + n)).length = xs.length:=by
    have:=splice_length xs (List.replicate n z) b (by simpa using hbn)
    simpa using this
   refine ⟨V.take (xs.length * ty.width),?_,?_,h3,fun hf => by cases hf⟩
   ·rw [hlen]
    refine ⟨by rw [List.length_take,hVl]; omega,.inr ⟨g',cap',V.toArray,hv,Nat.zero_le _,setRow_heap w g' cur _ e (0,0) hg,hnc,hcm,by rw [List.size_toArray,hVl]; exact hcurl,rfl⟩⟩
   ·rw [hVt,rowsCells_app,rowsCells_app]
    have r1:RepCs gh σ'.blk w (rowsCells ty (xs.take b)) (vs.take (b * ty.width)):=by rw [← rowsCells_take xs b (by omega)]; exact h2.take _
    have r3:RepCs gh σ'.blk w (rowsCells ty (xs.drop (b + n))) (vs.drop (b * ty.width + Z.length)):=by
     rw [← rowsCells_drop xs (b + n) (by omega),Nat.add_mul,hZl,hw]; exact h2.drop _
    exact repCs_mono (g:=gh) (g':=gh) (m:=σ'.blk) (fun _ h => h) hc hext (All2.append (All2.append r1 hrZ) r3))
  obtain ⟨hH,hT,hext⟩:=hput
  exact wp_value hrun (hk gh _ _ (sim_step hs (hn.1 ▸ hdo) hT hH hext fun _ => ⟨#[],rfl,.nil⟩))
theorem op_builtin {c:Call} {b:Builtin} (hdo:dstOk cx.n o.dst = true) (ho:o.op = .call c) (hc:c.callee = .builtin b) (h:step0 cx σ o k = some r):∃ e,k e = some r ∧ OpOK cx.T cx.n σ o e:=by
 simp only [step0,ho,hc] at h
 split at h
 ·-- len
  rename_i a t hargs hty
  obtain ⟨x,hx1,hx2⟩:=map_one hargs
  cases hl:lenTy cx.T t a with
  | false => rw [hl] at h; cases h
  | true =>
   rw [hl] at h
   simp only [cond_true] at h
   cases hn:lenOf σ.mem a with
   | none => rw [hn] at h; cases h
   | some n =>
    rw [hn] at h
    simp only [Option.bind_some] at h
    refine ⟨_,h,op_pure' hdo rfl fun C gh σ' a' w hag hs => ?_⟩
    have hag':∀ q ∈ opKeys x,q ∈ acKeys a ++ c.args.toList.flatMap opKeys:=by intro q hq; rw [hx1]; simp [hq]
    have hrep:RepC gh σ'.blk w a (a'.eval x):=ev_at hag hs hag' hx2
    have hn':lenOf σ'.mem a = some n:=by
     rw [← hn]
     unfold lenOf
     split <;> try rfl
     rename_i id
     have:lookM id σ'.mem = lookM id σ.mem:=hag (.m id) (by simp [acKeys])
     rw [this]
    have hrun:=lenOf_rep (ty:=o.type) hs.heap hl hn' hrep
    refine ⟨.int .i64 n,?_,rfl⟩
    rw [run_builtin hc ho,arr_of_toList hx1,arr_of_toList hty]
    simp only [builtin,Sem.run_bind]
    rw [show (Array.map a'.eval [x].toArray) = #[a'.eval x] by simp,hrun]
    rfl
 ·-- min
  rename_i i x j y hargs
  obtain ⟨p,q,h1,h2,h3⟩:=map_two hargs
  split at h
  ·rename_i hij
   subst hij
   refine ⟨_,h,op_pure' hdo rfl fun C gh σ' a' w hag hs => ?_⟩
   have hp:a'.eval p = .int i x:=ev_at hag hs (by intro z hz; rw [h1]; simp [hz]) h2
   have hq:a'.eval q = .int i y:=ev_at hag hs (by intro z hz; rw [h1]; simp [hz]) h3
   refine ⟨.int i (bif decide (y < x) then y else x),?_,rfl⟩
   rw [run_builtin hc ho,arr_of_toList h1]
   simp only [builtin,Sem.run_bind]
   rw [show (Array.map a'.eval [p,q].toArray) = #[.int i x,.int i y] by simp [hp,hq]]
   by_cases hlt:y < x <;> simp [Builtin.min_,Builtin.min2,hlt]
  ·cases h
 ·-- clear
  rename_i a t hargs hty
  obtain ⟨p,hp1,hp2⟩:=map_one hargs
  split at h
  rotate_left
  ·cases h
  rename_i id b n wd e0 te ht hel
  split at h
  rotate_left
  ·cases h
  rename_i e ty xs fz hm
  have hfz:fz = false:=by
   cases fz with
   | false => rfl
   | true =>
    exfalso
    unfold tailOf at ht
    split at ht
    ·split at ht
     ·rename_i hm2; injection ht with ht; injection ht with ht _; subst ht; rw [hm2] at hm; injection hm with hm; injection hm with _ _ _ h5; cases h5
     ·cases ht
    ·split at ht
     ·rename_i hm2; injection ht with ht; injection ht with ht _; subst ht; rw [hm2] at hm; injection hm with hm; injection hm with _ _ _ h5; cases h5
     ·cases ht
    ·cases ht
  subst hfz
  cases hcond:(Nat.beq ty.width te.width && (Nat.beq wd ty.width && (Nat.blt 0 te.width && Nat.beq te.zero.length te.width))) with
  | false => rw [hcond] at h; cases h
  | true =>
   rw [hcond] at h
   simp only [cond_true] at h
   simp only [Bool.and_eq_true] at hcond
   obtain ⟨c1,c2,c3,c4⟩:=hcond
   cases hz:pack [] ty (te.zero.map ofCell) with
   | none => rw [hz] at h; cases h
   | some z =>
    rw [hz] at h
    simp only [Option.bind_some] at h
    exact ⟨_,h,op_clear hdo ho hc (arr_of_toList hp1) (arr_of_toList hty) hp2 ht hel hm (beq_true.1 c1) (beq_true.1 c2) (Nat.le_of_ble_eq_true c3) (beq_true.1 c4) hz (by simp) (by intro q hq; rw [hp1]; simp [hq])⟩
 ·-- max of three
  rename_i i x j y j' z hargs
  obtain ⟨p,q,u,h1,h2,h3,h4⟩:=map_three hargs
  split at h
  ·rename_i hij
   subst hij
   split at h
   ·rename_i hij
    subst hij
    refine ⟨_,h,op_pure' hdo rfl fun C gh σ' a' w hag hs => ?_⟩
    have hp:a'.eval p = .int i x:=ev_at hag hs (by intro z hz; rw [h1]; simp [hz]) h2
    have hq:a'.eval q = .int i y:=ev_at hag hs (by intro z hz; rw [h1]; simp [hz]) h3
    have hu:a'.eval u = .int i z:=ev_at hag hs (by intro z hz; rw [h1]; simp [hz]) h4
    refine ⟨.int i (bif decide (z > (bif decide (y > x) then y else x)) then z else (bif decide (y > x) then y else x)),?_,rfl⟩
    rw [run_builtin hc ho,arr_of_toList h1]
    simp only [builtin,Sem.run_bind]
    rw [show (Array.map a'.eval [p,q,u].toArray) = #[.int i x,.int i y,.int i z] by simp [hp,hq,hu]]
    by_cases hlt:y > x
    ·by_cases hlt2:z > y <;> simp [Builtin.max_,Builtin.max2,hlt,hlt2]
    ·by_cases hlt2:z > x <;> simp [Builtin.max_,Builtin.max2,hlt,hlt2]
   ·cases h
  ·cases h
 ·-- max
  rename_i i x j y hargs
  obtain ⟨p,q,h1,h2,h3⟩:=map_two hargs
  split at h
  ·rename_i hij
   subst hij
   refine ⟨_,h,op_pure' hdo rfl fun C gh σ' a' w hag hs => ?_⟩
   have hp:a'.eval p = .int i x:=ev_at hag hs (by intro z hz; rw [h1]; simp [hz]) h2
   have hq:a'.eval q = .int i y:=ev_at hag hs (by intro z hz; rw [h1]; simp [hz]) h3
   refine ⟨.int i (bif decide (y > x) then y else x),?_,rfl⟩
   rw [run_builtin hc ho,arr_of_toList h1]
   simp only [builtin,Sem.run_bind]
   rw [show (Array.map a'.eval [p,q].toArray) = #[.int i x,.int i y] by simp [hp,hq]]
   by_cases hlt:y > x <;> simp [Builtin.max_,Builtin.max2,hlt]
  ·cases h
 ·-- append
  rename_i s x t t' hargs hty
  obtain ⟨p,q,h1,h2,h3⟩:=map_two hargs
  split at h
  ·rename_i e te hel hfr
   obtain ⟨hel1,hel2⟩:=elemOf_ok hel
   split at h
   ·rename_i ty hty'
    cases hcond:(Nat.beq t t' && (Nat.beq ty.width te.width && (Nat.blt 0 te.width && (Nat.blt 0 te.bytes && Nat.beq te.zero.length te.width)))) with
    | false => rw [hcond] at h; cases h
    | true =>
     rw [hcond] at h
     simp only [cond_true] at h
     simp only [Bool.and_eq_true] at hcond
     obtain ⟨c1,c2,c3,c4,c5⟩:=hcond
     have c1:=beq_true.1 c1
     subst c1
     have c2:=beq_true.1 c2
     have c3:0 < te.width:=Nat.le_of_ble_eq_true c3
     have c4:0 < te.bytes:=Nat.le_of_ble_eq_true c4
     have c5:=beq_true.1 c5
     -- the source
     generalize hsrc:srcOf σ.mem ty x = src at h
     cases src with
     | none => cases h
     | some ys =>
      simp only [Option.bind_some] at h
      have hsrcOK:∀ (rd:List Key),(∀ z ∈ acKeys x,z ∈ rd) → (∀ z ∈ opKeys q,z ∈ rd) → ∀ (C:Ctx) gh σ' (a:Act) (w:World),agree rd σ σ' → Sim C gh σ' a w → SrcOK gh σ'.blk w ty ys (a.eval q):=by
       intro rd hrd1 hrd2 C gh σ' a w hag hs
       have hrep:RepC gh σ'.blk w x (a.eval q):=ev_at hag hs hrd2 h3
       unfold srcOf at hsrc
       split at hsrc
       ·rename_i j
        split at hsrc
        ·rename_i e' r' ys' fz hm
         obtain ⟨he,rfl⟩:=castD_some hsrc
         injection he with he
         subst he
         rw [hrep.2.1]
         have hm':σ'.blk j = some (.lst e' r' ys' fz):=by rw [agree_m hag (hrd1 _ (by simp [acKeys]))]; exact hm
         exact src_own hs.heap hm'
        ·cases hsrc
       ·rename_i j lo hi wd
        split at hsrc
        ·rename_i e' r' ys' fz hm
         cases hwd:Nat.beq wd r'.width with
         | false => rw [hwd] at hsrc; cases hsrc
         | true =>
          rw [hwd] at hsrc
          simp only [cond_true] at hsrc
          obtain ⟨he,rfl⟩:=castD_some hsrc
          injection he with he
          subst he
          have hwd:=beq_true.1 hwd
          subst hwd
          have hm':σ'.blk j = some (.lst e' r' ys' fz):=by rw [agree_m hag (hrd1 _ (by simp [acKeys]))]; exact hm
          exact src_os hs.heap hm' hrep
        ·cases hsrc
       ·refine src_list (asD_rep hs.heap ?_ hrep)
        rw [asD_agree (agree_ac hag hrd1)]
        exact hsrc
      have hrdall:∀ (A:List Key),(∀ z ∈ opKeys p,z ∈ A ++ c.args.toList.flatMap opKeys) ∧ (∀ z ∈ opKeys q,z ∈ A ++ c.args.toList.flatMap opKeys):=by
       intro A
       rw [h1]
       exact ⟨by intro z hz; simp [hz],by intro z hz; simp [hz]⟩
      split at h
      ·-- nil
       cases hlim:decide (([]:List ty.D).length + ys.length ≤ 140737488355328 / te.bytes) with
       | false => rw [hlim] at h; cases h
       | true =>
        rw [hlim] at h
        simp only [cond_true] at h
        refine ⟨_,h,op_app (old:=none) (fz:=false) hdo rfl ho hc (arr_of_toList h1) (arr_of_toList hty) hel1 hel2 c2 c3 c4 c5 hfr (of_decide_eq_true hlim) h2 h3 ⟨by simp,by simp [acKeys],by intro z hz; simp [hz],by intro z hz; rw [h1]; simp [hz],by intro z hz; rw [h1]; simp [hz]⟩ (hsrcOK _ (by intro z hz; simp [hz]) (by intro z hz; rw [h1]; simp [hz])) ⟨rfl,rfl⟩ (fun hh => by cases hh)⟩
      ·rename_i id
       cases hso:sameOwn id x with
       | true => rw [hso] at h; cases h
       | false =>
        rw [hso] at h
        simp only [cond_false] at h
        split at h
        ·rename_i e' r' xs fz hm
         cases hee:Nat.beq e e' with
         | false => rw [hee] at h; cases h
         | true =>
          rw [hee] at h
          have hee:=beq_true.1 hee
          subst hee
          simp only [cond_true] at h
          cases hcast:castD (.list r') (.list ty) xs with
          | none => rw [hcast] at h; cases h
          | some xs' =>
           rw [hcast] at h
           simp only [Option.bind_some] at h
           obtain ⟨he,rfl⟩:=castD_some hcast
           injection he with he
           subst he
           cases hlim:decide (xs.length + ys.length ≤ 140737488355328 / te.bytes) with
           | false => rw [hlim] at h; cases h
           | true =>
            rw [hlim] at h
            simp only [cond_true] at h
            refine ⟨_,h,op_app (old:=some id) (fz:=fz) hdo rfl ho hc (arr_of_toList h1) (arr_of_toList hty) hel1 hel2 c2 c3 c4 c5 hfr (of_decide_eq_true hlim) h2 h3 ⟨by simp,by intro z hz; simp [hz],by intro z hz; simp [hz],by intro z hz; rw [h1]; simp [hz],by intro z hz; rw [h1]; simp [hz]⟩ (hsrcOK _ (by intro z hz; simp [hz]) (by intro z hz; rw [h1]; simp [hz])) ⟨rfl,hm⟩ (fun hh => .inl (by rw [hh]; rfl))⟩
        ·cases h
      ·cases h
   ·cases h
  ·cases h
 ·cases h
end
end Go.Vx
namespace Go.Vx
open Go Go.RowKit
set_option linter.unusedVariables false
set_option linter.unusedSimpArgs false
variable {R:Type}
section
variable {cx:Cx} {σ:St} {o:Oper} {k:Eff → Option R} {r:R}
/-! ### 12b. Closures -/
theorem capsOf_rep {C:Ctx} {gh:Gh} {σ':St} {a:Act} {w:World} {rd:List Key} (hag:agree rd σ σ') (hs:Sim C gh σ' a w):∀ (l:List Operand) (cs:List (Option (Nat × Nat))),capsOf σ l = some cs → (∀ x ∈ l,∀ q ∈ opKeys x,q ∈ rd) →
  All2 (RepCap gh σ'.blk) cs (l.map a.eval)
 | [],cs,h,_ => by simp [capsOf] at h; subst h; exact .nil
 | x :: l,cs,h,hk => by
  simp only [capsOf] at h
  have hk':∀ y ∈ l,∀ q ∈ opKeys y,q ∈ rd:=fun y hy => hk y (by simp [hy])
  split at h
  ·rename_i id off hx
   cases hl:capsOf σ l with
   | none => rw [hl] at h; cases h
   | some cs' =>
    rw [hl] at h
    simp at h
    subst h
    exact .cons (ev_at hag hs (hk x (by simp)) hx:RepC gh σ'.blk w (.ptr id off) _) (capsOf_rep hag hs l cs' hl hk')
  ·rename_i hx
   cases hl:capsOf σ l with
   | none => rw [hl] at h; cases h
   | some cs' =>
    rw [hl] at h
    simp at h
    subst h
    exact .cons (ev_at hag hs (hk x (by simp)) hx:RepC gh σ'.blk w .nilP _) (capsOf_rep hag hs l cs' hl hk')
  ·cases h
theorem op_makeFunc {fn:Fn} {first caps:Array Operand} (hdo:dstOk cx.n o.dst = true) (ho:o.op = .makeFunc fn first caps) (h:step0 cx σ o k = some r):∃ e,k e = some r ∧ OpOK cx.T cx.n σ o e:=by
 simp only [step0,ho] at h
 split at h
 rotate_left
 ·cases h
 rename_i f
 split at h
 rotate_left
 ·cases h
 rename_i hf
 have hf':first = #[]:=by simpa using hf
 subst hf'
 split at h
 ·rename_i hcs
  have hc':caps = #[]:=by simpa using hcs
  subst hc'
  exact ⟨_,h,op_pure' hdo rfl fun C gh σ' a w hag hs => ⟨_,by simp [execOp,ho,Instr.makeFunc],rfl⟩⟩
 ·rename_i c l hcs
  cases hcp:capsOf σ (c :: l) with
  | none => rw [hcp] at h; cases h
  | some cs =>
   rw [hcp] at h
   simp only [Option.bind_some] at h
   refine ⟨_,h,op_pure' hdo rfl fun C gh σ' a w hag hs => ?_⟩
   refine ⟨.func (.func f) #[] (caps.map a.eval),by simp [execOp,ho,Instr.makeFunc],_,rfl,?_⟩
   rw [Array.toList_map,hcs]
   refine capsOf_rep hag hs _ _ hcp fun x hx q hq => ?_
   simp only [List.mem_flatMap]
   exact ⟨x,hx,hq⟩

/-! ### 12c. Maps -/
theorem mapOf_ok {T:Program} {t kt:Nat} {kr:Ty} (h:mapOf T t = some (kt,kr)):∃ e tk,T.underlying t = some (.map kt e) ∧ boolElem T e = true ∧ TIok T kt tk ∧ tk.agg = true ∧ flatTy kr = true ∧ kr.width = tk.width:=by
 unfold mapOf at h
 split at h
 ·rename_i k e hu
  split at h
  ·rename_i tk hb hk
   split at h
   ·rename_i r hagg hrow
    cases hc:(flatTy r && Nat.beq r.width tk.width) with
    | false => rw [hc] at h; cases h
    | true =>
     rw [hc] at h
     simp only [cond_true] at h
     injection h with h
     injection h with h1 h2
     subst h1 h2
     simp only [Bool.and_eq_true] at hc
     exact ⟨e,tk,hu,hb,lookT_ok hk,hagg,hc.1,beq_true.1 hc.2⟩
   ·cases h
  ·cases h
 ·cases h
theorem castM_some {a b:Ty} {x:List (a.D × Bool)} {y:List (b.D × Bool)} (h:castM a b x = some y):∃ e:a = b,y = e ▸ x:=by
 unfold castM at h
 split at h
 ·rename_i e _
  exact ⟨e,by injection h with h; exact h.symm⟩
 ·cases h
theorem op_makeMap {t:Nat} {rs:Option Operand} (hdo:dstOk cx.n o.dst = true) (ho:o.op = .makeMap t rs) (h:step0 cx σ o k = some r):∃ e,k e = some r ∧ OpOK cx.T cx.n σ o e:=by
 simp only [step0,ho] at h
 split at h
 rotate_left
 ·cases h
 rename_i kt kr hmo hf
 obtain ⟨e,tk,h1,h2,h3,h4,h5,h6⟩:=mapOf_ok hmo
 refine ⟨_,h,?_⟩
 intro C gh σ' a w next Q hn hag hs hk
 have hf':σ'.blk (o.dst.getD 0) = none:=by rw [agree_m hag (by simp)]; exact hf
 have hrun:(execOp a.eval o).run cx.T w = .ok (.value (.map (some w.heap.size))) (w.alloc (.map #[] 0)):=by
  simp [execOp,ho,Instr.makeMap]
 have hnew:=heap_new hs.heap hf' (dst_pin hdo) (b:=.mp kr []) (v:=.map (some w.heap.size)) (w':=w.alloc (.map #[] 0)) (Nat.le_refl _) (below_alloc' w _)
  (by intro k hk; simp [blockOfV] at hk; omega) gh.S (fun _ h => h) (fun x hx => .inl hx) (fun hext => by
   exact ⟨h5,w.heap.size,#[],0,by simp [Nat.beq_refl],heap_alloc_new w _,.nil⟩)
 obtain ⟨hH,hT,hext⟩:=hnew
 refine wp_value hrun (hk _ _ _ (sim_step hs (hn.1 ▸ hdo) hT hH hext fun _ => ?_))
 refine ⟨?_,by simp [Nat.beq_refl],w.heap.size,rfl⟩
 rw [blk_cons,upd_same]; simp

/-! keys -/
theorem checkKey_run {P:Program} {gh:Gh} {m:Mem} {w:World} (em:Bool):∀ (n d:Nat) (t:Nat) (l:List AC) (u:Value),ckTy P n t l = true → FV P gh m w t l u → (Instr.checkKey em (d + n) t u).run P w = .ok () w
 | 0,d,t,l,u,h,_ => by cases h
 | n + 1,d,t,l,u,h,⟨D,hD,hu⟩ => by
  unfold ckTy at h
  rw [hD] at h
  rw [show d + (n + 1) = (d + n) + 1 from rfl,Instr.checkKey]
  simp only [Sem.run_bind,run_underlying hD,Result.andThen_ok]
  split at h
  ·rename_i _ k he
   injection he with he
   subst he
   rfl
  ·rename_i _ he
   injection he with he
   subst he
   rfl
  ·rename_i _ he
   injection he with he
   subst he
   rfl
  ·rename_i _ fs he
   injection he with he
   subst he
   simp only [isAgg,if_true] at hu
   obtain ⟨xs,rfl,hxs⟩:=hu
   simp only
   rw [← Array.forIn_toList]
   generalize fs.toList = L at h
   have key : ∀ (L : List Field), ckFs P (ckTy P n) l L = true → ∀ f ∈ L, f.name ≠ "_" ∧ ∃ v, (Go.part f.type xs f.offset).run P w = Result.ok v w ∧ (Instr.checkKey em (d + n) f.type v).run P w = .ok () w := by
    intro L
    induction L with
    | nil => intro _ f hf; cases hf
    | cons g L ih =>
     intro h f hf
     unfold ckFs at h
     cases hn : (g.name == "_") with
     | true => rw [hn] at h; cases h
     | false =>
      rw [hn] at h
      simp only [cond_false] at h
      split at h
      ·rename_i tf htf
       simp only [Bool.and_eq_true] at h
       obtain ⟨h1,h2,h3,h4⟩:=h
       rcases List.mem_cons.1 hf with rfl | hf
       ·refine ⟨by simpa using hn,?_⟩
        obtain ⟨v,h5,h6⟩:=fv_part (lookT_ok htf) hxs h1 h2
        exact ⟨v,h5,checkKey_run em n d _ _ v h3 h6⟩
       ·exact ih h4 f hf
      ·cases h
   have hL:=key L h
   clear h key
   induction L with
   | nil => simp
   | cons f L ih =>
    obtain ⟨h1,v,h2,h3⟩:=hL f (by simp)
    simp only [List.forIn_cons,Sem.run_bind,h1,ne_eq,not_false_eq_true,if_true,Result.andThen_ok,h2,h3,Sem.run_pure]
    have:=ih (fun y hy => hL y (by simp [hy]))
    simp at this ⊢
    rw [this]
    rfl
  ·cases h
theorem flat_vals {gh:Gh} {m:Mem} {w:World}:∀ {r:Ty} (_:flatTy r = true) {x:r.D} {l k:List Value},RepCs gh m w (cellsOf r x) l → RepCs gh m w (cellsOf r x) k → l = k
 | .unit,_,x,l,k,h,h' => by cases h; cases h'; rfl
 | .cons a b,hf,x,l,k,h,h' => by
  simp only [flatTy,Bool.and_eq_true] at hf
  cases h with
  | cons h1 h2 =>
   cases h' with
   | cons h3 h4 =>
    rw [flat_vals hf.2 h2 h4]
    congr 1
    have e1:=@flat_one a hf.1 x.1 _ _ h1 h3
    exact e1
 | .int i,_,x,l,k,h,h' => by cases h with | cons h1 h2 => cases h' with | cons h3 h4 => cases h2; cases h4; rw [show _ = Value.int i x from h1,show _ = Value.int i x from h3]
 | .bool,_,x,l,k,h,h' => by cases h with | cons h1 h2 => cases h' with | cons h3 h4 => cases h2; cases h4; rw [show _ = Value.bool x from h1,show _ = Value.bool x from h3]
 | .str,_,x,l,k,h,h' => by cases h with | cons h1 h2 => cases h' with | cons h3 h4 => cases h2; cases h4; rw [show _ = Value.string x from h1,show _ = Value.string x from h3]
 | .list r,hf,_,_,_,_,_ => by cases hf
where
 flat_one:∀ {a:Ty} (_:flatTy a = true) {x:a.D} {u v:Value},RepC gh m w (.c a x) u → RepC gh m w (.c a x) v → u = v
 | .unit,_,x,u,v,h,_ => h.elim
 | .cons _ _,_,x,u,v,h,_ => h.elim
 | .int i,_,x,u,v,h,h' => by rw [show u = Value.int i x from h,show v = Value.int i x from h']
 | .bool,_,x,u,v,h,h' => by rw [show u = Value.bool x from h,show v = Value.bool x from h']
 | .str,_,x,u,v,h,h' => by rw [show u = Value.string x from h,show v = Value.string x from h']
 | .list r,hf,_,_,_,_,_ => by cases hf
theorem dEqB_eq:∀ {r:Ty} {x y:r.D},dEqB r x y = true → x = y
 | .unit,_,_,_ => rfl
 | .cons a b,x,y,h => by
  simp only [dEqB,Bool.and_eq_true] at h
  exact Prod.ext (dEqB_eq h.1) (dEqB_eq h.2)
 | .int _,x,y,h => by simpa [dEqB] using h
 | .bool,x,y,h => by simpa [dEqB] using h
 | .str,x,y,h => by
  have h:(bl x == bl y) = true:=h
  have h:=eq_of_beq h
  exact bytes_ext (by rw [bl_eq,bl_eq,h])
 | .list r,_,_,h => by cases h
where
 bytes_ext {x y:ByteArray} (h:x.toList = y.toList):x = y:=by
  rw [ByteArray.toList_eq,ByteArray.toList_eq] at h
  cases x; cases y
  simp only [ByteArray.mk.injEq]
  exact Array.toList_inj.1 h
def KeyIs (gh:Gh) (m:Mem) (w:World) (kr:Ty) (x:kr.D) (v:Value):Prop:=∃ vs,v = .agg vs ∧ RepCs gh m w (cellsOf kr x) vs.toList
def EntIs (gh:Gh) (m:Mem) (w:World) (kr:Ty) (e:kr.D × Bool) (n:MapEntry):Prop:=KeyIs gh m w kr e.1 n.key ∧ n.val = .bool e.2
theorem keyIs_fv {P:Program} {gh:Gh} {m:Mem} {w:World} {kt:Nat} {tk:TI} (hk:TIok P kt tk) (ha:tk.agg = true) {kr:Ty} {x:kr.D} {v:Value} (h:KeyIs gh m w kr x v):FV P gh m w kt (cellsOf kr x) v:=by
 obtain ⟨vs,h1,h2⟩:=h
 refine ⟨tk.desc,hk.desc,?_⟩
 rw [← hk.agg,ha]
 exact ⟨vs,h1,h2⟩
theorem findKey_run {P:Program} {gh:Gh} {m:Mem} {w:World} {kt:Nat} {tk:TI} (hk:TIok P kt tk) (ha:tk.agg = true) {kr:Ty} {x:kr.D} {v:Value} (hv:KeyIs gh m w kr x v) (es:List (kr.D × Bool)) (ents:List MapEntry)
  (h:All2 (EntIs gh m w kr) es ents):(Instr.findKey kt v ents).run P w = (Instr.findAsking kt v ents).run P w:=by
 unfold Instr.findKey
 simp only [Sem.run_bind,run_underlying hk.desc,Result.andThen_ok]
 cases h with
 | nil => rfl
 | @cons a n l k h1 h2 =>
  have:Instr.findNow tk.desc v (n :: k) 0 = none:=by
   unfold Instr.findNow
   have hs:Instr.sameNow tk.desc v n.key = none:=by
    obtain ⟨vs,rfl,_⟩:=hv
    generalize tk.desc = dd
    generalize n.key = nk
    cases dd <;> cases nk <;> rfl
   rw [hs]
  rw [this]
theorem find_get {P:Program} {gh:Gh} {m:Mem} {w:World} {kt:Nat} {tk:TI} (hk:TIok P kt tk) (ha:tk.agg = true) {kr:Ty} {x:kr.D} {v:Value} (hv:KeyIs gh m w kr x v):∀ (es:List (kr.D × Bool)) (ents:List MapEntry) (i:Nat) (b:Bool),
  All2 (EntIs gh m w kr) es ents → mget P kt kr x es = some b → ((∃ j,(Instr.findAsking kt v ents i).run P w = .ok (some (j,.bool b)) w) ∨ ((Instr.findAsking kt v ents i).run P w = .ok none w ∧ b = false))
 | [],_,i,b,.nil,h => by
  simp [mget] at h
  subst h
  exact .inr ⟨by simp [Instr.findAsking],rfl⟩
 | e :: es,_,i,b,.cons (b:=n) (k:=ents) h1 h2,h => by
  simp only [mget] at h
  cases hq:eqTy P 8 kt (cellsOf kr x) (cellsOf kr e.1) with
  | none => rw [hq] at h; cases h
  | some q =>
   rw [hq] at h
   simp only [Option.bind_some] at h
   have heq:(Op.equal kt v n.key).run P w = .ok q w:=eqTy_run (gh:=gh) (m:=m) 8 9992 kt _ _ q _ _ hq (keyIs_fv hk ha hv) (keyIs_fv hk ha h1.1)
   cases q with
   | true =>
    simp only [cond_true,Option.some.injEq] at h
    subst h
    exact .inl ⟨i,by simp [Instr.findAsking,heq,h1.2]⟩
   | false =>
    simp only [cond_false] at h
    rcases find_get hk ha hv es ents (i + 1) b h2 h with ⟨j,h3⟩ | ⟨h3,h4⟩
    ·exact .inl ⟨j,by simp [Instr.findAsking,heq,h3]⟩
    ·exact .inr ⟨by simp [Instr.findAsking,heq,h3],h4⟩
theorem op_lookup {t:Nat} {x y:Operand} {ok:Bool} (hdo:dstOk cx.n o.dst = true) (ho:o.op = .lookup t x y ok) (h:step0 cx σ o k = some r):∃ e,k e = some r ∧ OpOK cx.T cx.n σ o e:=by
 simp only [step0,ho] at h
 cases ok with
 | true => cases h
 | false =>
 simp only [cond_false] at h
 split at h
 rotate_left
 ·cases h
 rename_i kt kr id l hmo hx hy
 obtain ⟨e,tk,g1,g2,g3,g4,g5,g6⟩:=mapOf_ok hmo
 split at h
 rotate_left
 ·cases h
 rename_i kr' es0 hm
 cases hck:ckTy cx.T 8 kt l with
 | false => rw [hck] at h; cases h
 | true =>
 rw [hck] at h
 simp only [Bool.not_true,cond_false] at h
 cases hcm:castM kr' kr es0 with
 | none => rw [hcm] at h; cases h
 | some es =>
 obtain ⟨hkr,hes⟩:=castM_some hcm
 subst hkr
 simp only at hes
 subst hes
 rw [hcm] at h
 simp only [Option.bind_some] at h
 cases hp:pack σ.mem kr' l with
 | none => rw [hp] at h; cases h
 | some x0 =>
 rw [hp] at h
 simp only [Option.bind_some] at h
 cases hg:mget cx.T kt kr' x0 es with
 | none => rw [hg] at h; cases h
 | some b =>
 rw [hg] at h
 simp only [Option.bind_some] at h
 refine ⟨_,h,op_pure' hdo rfl fun C gh σ' a w hag hs => ?_⟩
 have hm':σ'.blk id = some (.mp kr' es):=by rw [agree_m hag (by simp)]; exact hm
 obtain ⟨q1,q2,g,q3⟩:=(ev_at hag hs (by intro q hq; simp [hq]) hx:RepC gh σ'.blk w (.mp id) (a.eval x))
 obtain ⟨vs,q4,q5⟩:=(ev_at hag hs (by intro q hq; simp [hq]) hy:Rep1 gh σ'.blk w (.row l) (a.eval y))
 obtain ⟨_,g',ents,clock,q6,q7,q8⟩:=hs.heap.blk id _ hm'
 have hgg:g = g':=by
  rw [q2,q6] at q3
  injection q3 with q3
  injection q3 with q3
  exact q3.symm
 subst hgg
 have hp':pack σ'.mem kr' l = some x0:=by
  rw [pack_agree _ _ (agree_keys hag (l:=cellKeys l) (by intro q hq; simp [hq]))]
  exact hp
 have hkey:KeyIs gh σ'.blk w kr' x0 (a.eval y):=⟨vs,q4,pack_rep hs.heap kr' l x0 _ hp' q5⟩
 have hchk:(Instr.checkKey ents.isEmpty 10000 kt (a.eval y)).run cx.T w = .ok () w:=by
  refine checkKey_run (gh:=gh) (m:=σ'.blk) _ 8 9992 kt l _ hck ⟨tk.desc,g3.desc,?_⟩
  rw [← g3.agg,g4]
  exact ⟨vs,q4,q5⟩
 have hgo:(getObj g).run cx.T w = .ok (.map ents clock) w:=by simp [getObj,Sem.run,q7]
 have hfk:=findKey_run (P:=cx.T) g3 g4 hkey es ents.toList q8
 obtain ⟨ie,hi⟩:∃ ie,cx.T.info? e = some ie ∧ ∃ z,ie.zero = some z ∧ z = .bool false:=by
  unfold boolElem at g2
  simp only [Bool.and_eq_true] at g2
  obtain ⟨_,g2⟩:=g2
  split at g2
  ·rename_i i hi
   split at g2
   ·rename_i hz
    exact ⟨i,hi,_,hz,rfl⟩
   ·cases g2
  ·cases g2
 rcases find_get (P:=cx.T) g3 g4 hkey es ents.toList 0 b q8 hg with ⟨j,h3⟩ | ⟨h3,h4⟩
 ·refine ⟨.bool b,?_,rfl⟩
  simp [execOp,ho,q3,Instr.lookup,run_underlying g1,hgo,hchk,hfk,h3]
 ·refine ⟨.bool b,?_,rfl⟩
  obtain ⟨h5,z,h6,rfl⟩:=hi
  subst h4
  simp [execOp,ho,q3,Instr.lookup,run_underlying g1,hgo,hchk,hfk,h3,zeroValue,typeInfo,h5,h6]
theorem sameBits_flat {gh:Gh} {m:Mem} {w:World} {kr:Ty} (hf:flatTy kr = true) {x:kr.D} {v:Value} (h:KeyIs gh m w kr x v):Instr.sameBits 10000 v v = true:=by
 obtain ⟨vs,rfl,h2⟩:=h
 have one:∀ {a:Ty} (_:flatTy a = true) {x:a.D} {u:Value},RepC gh m w (.c a x) u → Instr.sameBits 9999 u u = true:=by
  intro a ha x u hu
  cases a with
  | unit => exact hu.elim
  | cons _ _ => exact hu.elim
  | int i => rw [show u = Value.int i x from hu]; simp [Instr.sameBits]
  | bool => rw [show u = Value.bool x from hu]; simp [Instr.sameBits]
  | str => rw [show u = Value.string x from hu]; simp [Instr.sameBits,MapKept.bytes_beq]
  | list r => cases ha
 have all:∀ (r:Ty),flatTy r = true → ∀ (x:r.D) (l:List Value),RepCs gh m w (cellsOf r x) l → ∀ u ∈ l,Instr.sameBits 9999 u u = true:=by
  intro r
  induction r with
  | unit => intro _ x l h u hu; cases h; cases hu
  | cons a b _ ih =>
   intro hf x l h u hu
   simp only [flatTy,Bool.and_eq_true] at hf
   cases h with
   | cons h1 h2 =>
    rcases List.mem_cons.1 hu with rfl | hu
    ·exact one hf.1 h1
    ·exact ih hf.2 _ _ h2 u hu
  | int i => intro hf x l h u hu; cases h with | cons h1 h2 => cases h2; rcases List.mem_cons.1 hu with rfl | hu; exact one (a:=.int i) rfl h1; cases hu
  | bool => intro hf x l h u hu; cases h with | cons h1 h2 => cases h2; rcases List.mem_cons.1 hu with rfl | hu; exact one (a:=.bool) rfl h1; cases hu
  | str => intro hf x l h u hu; cases h with | cons h1 h2 => cases h2; rcases List.mem_cons.1 hu with rfl | hu; exact one (a:=.str) rfl h1; cases hu
  | list r _ => intro hf; cases hf
 have hall:=all kr hf x _ h2
 show Instr.sameBits (9999 + 1) (.agg vs) (.agg vs) = true
 simp only [Instr.sameBits,beq_self_eq_true,Bool.true_and,List.all_eq_true]
 intro p hp
 have hz:∀ (l:List Value) (q:Value × Value),q ∈ l.zip l → q.1 = q.2 ∧ q.1 ∈ l:=by
  intro l
  induction l with
  | nil => intro q hq; cases hq
  | cons c l ih =>
   intro q hq
   rcases List.mem_cons.1 hq with rfl | hq
   ·exact ⟨rfl,by simp⟩
   ·obtain ⟨h1,h2⟩:=ih q hq; exact ⟨h1,by simp [h2]⟩
 obtain ⟨h3,h4⟩:=hz _ p hp
 rw [← h3]
 exact hall _ h4
theorem find_put {P:Program} {gh:Gh} {m:Mem} {w:World} {kt:Nat} {tk:TI} (hk:TIok P kt tk) (ha:tk.agg = true) {kr:Ty} (hf:flatTy kr = true) {x:kr.D} {b:Bool} {v:Value} (hv:KeyIs gh m w kr x v):∀ (es es':List (kr.D × Bool)) (ents:List MapEntry) (i:Nat),
  All2 (EntIs gh m w kr) es ents → mput P kt kr x b es = some es' →
   ((∃ j n,(Instr.findAsking kt v ents i).run P w = .ok (some (i + j,n.val)) w ∧ ents[j]? = some n ∧ n.key = v ∧ All2 (EntIs gh m w kr) es' (ents.modify j fun e => { e with key:=v,val:=.bool b })) ∨
    ((Instr.findAsking kt v ents i).run P w = .ok none w ∧ ∀ n:MapEntry,n.key = v → n.val = .bool b → All2 (EntIs gh m w kr) es' (ents ++ [n])))
 | [],es',_,i,.nil,h => by
  simp [mput] at h
  subst h
  refine .inr ⟨by simp [Instr.findAsking],fun n h1 h2 => .cons ⟨by rw [h1]; exact hv,h2⟩ .nil⟩
 | e :: es,es',_,i,.cons (b:=n) (k:=ents) h1 h2,h => by
  simp only [mput] at h
  cases hq:eqTy P 8 kt (cellsOf kr x) (cellsOf kr e.1) with
  | none => rw [hq] at h; cases h
  | some q =>
   rw [hq] at h
   simp only [Option.bind_some] at h
   have heq:(Op.equal kt v n.key).run P w = .ok q w:=eqTy_run (gh:=gh) (m:=m) 8 9992 kt _ _ q _ _ hq (keyIs_fv hk ha hv) (keyIs_fv hk ha h1.1)
   cases q with
   | true =>
    simp only [cond_true] at h
    cases hd:dEqB kr x e.1 with
    | false => rw [hd] at h; cases h
    | true =>
     rw [hd] at h
     simp only [cond_true,Option.some.injEq] at h
     subst h
     have hxe:=dEqB_eq hd
     have hkv:n.key = v:=by
      obtain ⟨vs,e1,e2⟩:=hv
      obtain ⟨us,e3,e4⟩:=h1.1
      rw [← hxe] at e4
      have:=flat_vals hf e2 e4
      rw [e1,e3,Array.toList_inj.1 this]
     refine .inl ⟨0,n,by simp [Instr.findAsking,heq],rfl,hkv,?_⟩
     exact .cons ⟨hv,rfl⟩ h2
   | false =>
    simp only [cond_false] at h
    cases hm:mput P kt kr x b es with
    | none => rw [hm] at h; cases h
    | some es'' =>
     rw [hm] at h
     simp at h
     subst h
     rcases find_put hk ha hf hv es es'' ents (i + 1) h2 hm with ⟨j,n',h3,h4,h5,h6⟩ | ⟨h3,h4⟩
     ·exact .inl ⟨j + 1,n',by simp [Instr.findAsking,heq,h3]; omega,by simpa using h4,h5,.cons h1 h6⟩
     ·exact .inr ⟨by simp [Instr.findAsking,heq,h3],fun n' e1 e2 => .cons h1 (h4 n' e1 e2)⟩
theorem grownBy_setObj (w:World) (g:Nat) (ob:Obj):w.grownBy { w with heap:=w.heap.setIfInBounds g ob } (some g):=
 ⟨rfl,rfl,rfl,by simp,fun k hk hne => by
  have:k ≠ g:=fun e => hne (by rw [e])
  simp [Ne.symm this]⟩
theorem op_mapUpdate {t:Nat} {x y z:Operand} (hdo:dstOk cx.n o.dst = true) (ho:o.op = .mapUpdate t x y z) (h:step0 cx σ o k = some r):∃ e,k e = some r ∧ OpOK cx.T cx.n σ o e:=by
 simp only [step0,ho] at h
 split at h
 rotate_left
 ·cases h
 rename_i kt kr id l b hmo hx hy hzz
 obtain ⟨e,tk,g1,g2,g3,g4,g5,g6⟩:=mapOf_ok hmo
 split at h
 rotate_left
 ·cases h
 rename_i kr' es0 hm
 cases hck:ckTy cx.T 8 kt l with
 | false => rw [hck] at h; cases h
 | true =>
 rw [hck] at h
 simp only [Bool.not_true,cond_false] at h
 cases hcm:castM kr' kr es0 with
 | none => rw [hcm] at h; cases h
 | some es =>
 obtain ⟨hkr,hes⟩:=castM_some hcm
 subst hkr
 simp only at hes
 subst hes
 rw [hcm] at h
 simp only [Option.bind_some] at h
 cases hp:pack σ.mem kr' l with
 | none => rw [hp] at h; cases h
 | some x0 =>
 rw [hp] at h
 simp only [Option.bind_some] at h
 cases hg:mput cx.T kt kr' x0 b es with
 | none => rw [hg] at h; cases h
 | some es' =>
 rw [hg] at h
 simp only [Option.bind_some] at h
 refine ⟨_,h,?_⟩
 intro C gh σ' a w next Q hn hag hs hk
 have hm':σ'.blk id = some (.mp kr' es):=by rw [agree_m hag (by simp)]; exact hm
 obtain ⟨q1,q2,g,q3⟩:=(ev_at hag hs (by intro q hq; simp [hq]) hx:RepC gh σ'.blk w (.mp id) (a.eval x))
 obtain ⟨vs,q4,q5⟩:=(ev_at hag hs (by intro q hq; simp [hq]) hy:Rep1 gh σ'.blk w (.row l) (a.eval y))
 have qz:a.eval z = .bool b:=ev_at hag hs (by intro q hq; simp [hq]) hzz
 obtain ⟨_,g',ents,clock,q6,q7,q8⟩:=hs.heap.blk id _ hm'
 have hgg:g = g':=by
  rw [q2,q6] at q3
  injection q3 with q3
  injection q3 with q3
  exact q3.symm
 subst hgg
 have hp':pack σ'.mem kr' l = some x0:=by
  rw [pack_agree _ _ (agree_keys hag (l:=cellKeys l) (by intro q hq; simp [hq]))]
  exact hp
 have hkey:KeyIs gh σ'.blk w kr' x0 (a.eval y):=⟨vs,q4,pack_rep hs.heap kr' l x0 _ hp' q5⟩
 have hchk:(Instr.checkKey false 10000 kt (a.eval y)).run cx.T w = .ok () w:=by
  refine checkKey_run (gh:=gh) (m:=σ'.blk) _ 8 9992 kt l _ hck ⟨tk.desc,g3.desc,?_⟩
  rw [← g3.agg,g4]
  exact ⟨vs,q4,q5⟩
 have hgo:(getObj g).run cx.T w = .ok (.map ents clock) w:=by simp [getObj,Sem.run,q7]
 have hfk:=findKey_run (P:=cx.T) g3 g4 hkey es ents.toList q8
 have hset:∀ ob,(setObj g ob).run cx.T w = .ok () { w with heap:=w.heap.setIfInBounds g ob }:=fun ob => by simp [setObj,Sem.run,q7]
 have hlt:g < w.heap.size:=(Array.getElem?_eq_some_iff.1 q7).1
 -- the new map
 have fin:∀ (ents':Array MapEntry) (clock':Nat),All2 (EntIs gh σ'.blk w kr') es' ents'.toList → (execOp a.eval o).run cx.T w = .ok .skip { w with heap:=w.heap.setIfInBounds g (.map ents' clock') } → o.wp cx.T a w next Q:=by
  intro ents' clock' hall hrun
  have hput:=heap_put hs.heap hm' rfl (b':=.mp kr' es') rfl (g:=g) (by simp [Gh.blk,q6,blockOfV]) (w':={ w with heap:=w.heap.setIfInBounds g (.map ents' clock') }) (fun x h => h) (Nat.le_refl _) (grownBy_setObj w g _) (fun hc hext => by
   refine ⟨g5,g,ents',clock',q6,by simp [hlt],All2.mono (fun e n hn => ?_) hall⟩
   obtain ⟨⟨vs,e1,e2⟩,e3⟩:=hn
   exact ⟨⟨vs,e1,repCs_mono (g:=gh) (g':=gh) (m:=σ'.blk) (fun _ h => h) hc hext e2⟩,e3⟩)
  obtain ⟨hH,hT,hext⟩:=hput
  exact wp_skip hrun (hk gh _ _ (sim_step hs (hn.1 ▸ hdo) hT hH hext fun _ => trivial))
 rcases find_put (P:=cx.T) g3 g4 g5 hkey es es' ents.toList 0 q8 hg with ⟨j,n,h3,h4,h5,h6⟩ | ⟨h3,h4⟩
 ·refine fin (ents.modify j fun e => { e with key:=a.eval y,val:=.bool b }) clock (by rw [Array.toList_modify]; exact h6) ?_
  have hst:(Instr.keyThatStays (((ents[j]?).map (·.key)).getD (a.eval y)) (a.eval y)).run cx.T w = .ok (a.eval y) w:=by
   have:ents[j]? = some n:=by simpa using h4
   rw [this]
   simp only [Option.map_some,Option.getD_some,h5,Instr.keyThatStays,sameBits_flat g5 hkey,if_true,Sem.run_pure]
  rw [Nat.zero_add] at h3
  simp only [execOp,ho,q3,qz,Sem.run_bind,Instr.mapUpdate,run_underlying g1,hgo,hchk,hfk,h3,hst,hset,Result.andThen_ok,Sem.run_pure]
 ·refine fin (ents.push { key:=a.eval y,val:=.bool b,born:=clock }) (clock + 1) (by rw [Array.toList_push]; exact h4 _ rfl rfl) ?_
  simp only [execOp,ho,q3,qz,Sem.run_bind,Instr.mapUpdate,run_underlying g1,hgo,hchk,hfk,h3,hset,Result.andThen_ok,Sem.run_pure]
end
end Go.Vx
namespace Go.Vx
open Go Go.RowKit
set_option linter.unusedVariables false
set_option linter.unusedSimpArgs false
variable {R:Type}
/-! ### 13. Regions -/
def StepSound (R:Type) (cx:Cx):Prop:=∀ (σ:St) (o:Oper) (k:Eff → Option R) (r:R),dstOk cx.n o.dst = true → stepOp cx σ o k = some r → ∃ e,k e = some r ∧ OpOK cx.T cx.n σ o e

inductive KV where
 | s (a:AV)
 | m (b:Option Blk)
def St.at (σ:St):Key → KV
 | .s t => .s (σ.get t)
 | .m i => .m (σ.blk i)
def Same (σ σ':St):Prop:=∀ k,σ'.at k = σ.at k
theorem Same.refl (σ:St):Same σ σ:=fun _ => rfl
theorem Same.symm {σ σ':St} (h:Same σ σ'):Same σ' σ:=fun k => (h k).symm
theorem Same.trans {σ σ' σ'':St} (h:Same σ σ') (h':Same σ' σ''):Same σ σ'':=fun k => (h' k).trans (h k)
theorem Same.get {σ σ':St} (h:Same σ σ') (s:Nat):σ'.get s = σ.get s:=by have:=h (.s s); simpa [St.at] using this
theorem Same.blk {σ σ':St} (h:Same σ σ') (i:Nat):σ'.blk i = σ.blk i:=by have:=h (.m i); simpa [St.at] using this
theorem agree_iff {rd:List Key} {σ σ':St}:agree rd σ σ' ↔ ∀ k ∈ rd,σ'.at k = σ.at k:=by
 unfold agree
 constructor <;> intro h k hk <;> have:=h k hk <;> cases k <;> simp_all [St.at]
theorem Same.agree {rd:List Key} {σ σ':St} (h:Same σ σ'):agree rd σ σ':=agree_iff.2 fun k _ => h k
theorem sim_same {C:Ctx} {gh:Gh} {σ σ':St} {a:Act} {w:World} (hs:Same σ σ') (h:Sim C gh σ a w):Sim C gh σ' a w:=by
 have hb:σ'.blk = σ.blk:=funext hs.blk
 refine ⟨h.defers,h.size,fun s => ?_,by rw [hb]; exact h.heap,by rw [hb]; exact h.tr⟩
 rw [hb,hs.get]
 exact h.env s
def pw (dst:Option Nat) (e:Eff):Key → Option KV
 | .s t => match dst with
  | some d => bif Nat.beq d t then some (.s e.put) else none
  | none => none
 | .m i => (lookM i e.blks).map fun b => .m (some b)
theorem lookM_append (i:Nat):∀ l m,lookM i (l ++ m) = (lookM i l).or (lookM i m)
 | [],m => rfl
 | (k,v) :: l,m => by
  simp only [List.cons_append,lookM]
  cases Nat.beq k i with
  | true => rfl
  | false => exact lookM_append i l m
theorem at_apply (σ:St) (dst:Option Nat) (e:Eff) (k:Key):(σ.apply dst e).at k = (pw dst e k).getD (σ.at k):=by
 cases k with
 | s t =>
  cases dst with
  | none => rfl
  | some d =>
   simp only [St.at,get_apply_some,pw]
   cases Nat.beq d t <;> rfl
 | m i =>
  simp only [St.at,blk_apply,lookM_append,pw]
  cases lookM i e.blks <;> rfl
theorem lookM_mem {i:Nat}:∀ {l:List (Nat × Blk)} {b:Blk},lookM i l = some b → ∃ p ∈ l,p.1 = i
 | [],b,h => by cases h
 | (k,v) :: l,b,h => by
  simp only [lookM] at h
  cases hk:Nat.beq k i with
  | true => exact ⟨(k,v),by simp,beq_true.1 hk⟩
  | false =>
   rw [hk] at h
   obtain ⟨p,h1,h2⟩:=lookM_mem h
   exact ⟨p,by simp [h1],h2⟩
def doneOf (o:Oper) (e:Eff):Done:=⟨dstKey o ++ e.blks.map fun b => Key.m b.1,e.rd⟩
theorem pw_mem {o:Oper} {e:Eff} {k:Key} {v:KV} (h:pw o.dst e k = some v):k ∈ (doneOf o e).w:=by
 cases k with
 | s t =>
  simp only [pw] at h
  split at h
  ·rename_i d hd
   cases hk:Nat.beq d t with
   | false => rw [hk] at h; cases h
   | true =>
    have:=beq_true.1 hk
    simp [doneOf,dstKey,hd,this]
  ·cases h
 | m i =>
  simp only [pw] at h
  cases hl:lookM i e.blks with
  | none => rw [hl] at h; cases h
  | some b =>
   obtain ⟨p,h1,h2⟩:=lookM_mem hl
   simp only [doneOf,List.mem_append,List.mem_map]
   exact .inr ⟨p,h1,by rw [h2]⟩
theorem same_apply {σ σ':St} (h:Same σ σ') (dst:Option Nat) (e:Eff):Same (σ.apply dst e) (σ'.apply dst e):=fun k => by rw [at_apply,at_apply,h k]

def StepOK (P:Program) (n:Nat) (ops:Array Oper) (o:Oper) (σ:St) (e:Eff):Prop:=
 ∀ (C:Ctx) (gh:Gh) (σ':St) (a:Act) (w:World) (next:Act → World → Prop) (Q:Exit → Act → World → Prop),C.Is P n → agree e.rd σ σ' → Sim C gh σ' a w →
  (∀ gh' a' w',Sim C gh' (σ'.apply o.dst e) a' w' → next a' w') → if Region.wanted o (yielded ops a.tmps) then o.wp P a w next Q else next (a.put o.dst undef) w
def Trace (P:Program) (n:Nat) (ops:Array Oper):List Oper → St → List Eff → Prop
 | o :: os,σ,e :: es => StepOK P n ops o σ e ∧ Trace P n ops os (σ.apply o.dst e) es
 | [],_,[] => True
 | _,_,_ => False
def endOf:List Oper → St → List Eff → St
 | o :: os,σ,e :: es => endOf os (σ.apply o.dst e) es
 | _,σ,_ => σ
def dones:List Oper → List Eff → List Done
 | o :: os,e :: es => doneOf o e :: dones os es
 | _,_ => []
theorem stepOK_same {P:Program} {n:Nat} {ops:Array Oper} {o:Oper} {σ τ:St} {e:Eff} (hs:Same σ τ) (h:StepOK P n ops o σ e):StepOK P n ops o τ e:=
 fun C gh σ' a w next Q hn hag hsim hk => h C gh σ' a w next Q hn (agree_iff.2 fun k hk => (agree_iff.1 hag k hk).trans (hs k)) hsim hk
theorem trace_same {P:Program} {n:Nat} {ops:Array Oper}:∀ {os:List Oper} {σ τ:St} {es:List Eff},Same σ τ → Trace P n ops os σ es → Trace P n ops os τ es
 | [],_,_,[],_,_ => trivial
 | [],_,_,_ :: _,_,h => h.elim
 | _ :: _,_,_,[],_,h => h.elim
 | o :: os,σ,τ,e :: es,hs,h => ⟨stepOK_same hs h.1,trace_same (same_apply hs o.dst e) h.2⟩
theorem end_same:∀ {os:List Oper} {σ τ:St} {es:List Eff},Same σ τ → Same (endOf os σ es) (endOf os τ es)
 | [],_,_,_,hs => hs
 | _ :: _,_,_,[],hs => hs
 | o :: os,σ,τ,e :: es,hs => end_same (os:=os) (es:=es) (same_apply hs o.dst e)
theorem stepOK_plain {P:Program} {n:Nat} {ops:Array Oper} {o:Oper} {σ:St} {e:Eff} (hg:o.guard = none) (h:OpOK P n σ o e):StepOK P n ops o σ e:=by
 intro C gh σ' a w next Q hn hag hs hk
 have:Region.wanted o (yielded ops a.tmps) = true:=by simp [Region.wanted,hg]
 rw [if_pos this]
 exact h C gh σ' a w next Q hn hag hs hk
theorem tmp_bool {C:Ctx} {gh:Gh} {σ:St} {a:Act} {w:World} (hs:Sim C gh σ a w) {s:Nat} {q:Bool} (h:σ.get s = data .bool q):a.tmps[s]? = some (.bool q):=by
 have:=hs.env s
 rw [h] at this
 have h1:a.tmps.getD s undef = .bool q:=this
 rw [Array.getD_eq_getD_getElem?] at h1
 cases hh:a.tmps[s]? with
 | none => rw [hh] at h1; simp [undef] at h1
 | some v => rw [hh] at h1; simp at h1; rw [h1]
theorem stepOK_go {P:Program} {n:Nat} {all:List Oper} {o:Oper} {σ:St} {e:Eff} {j s:Nat} {want:Bool} (hg:o.guard = some (j,want)) (hd:dstOf all j = some s) (hv:σ.get s = data .bool want) (h:OpOK P n σ o e) :
  StepOK P n all.toArray o σ ⟨e.put,e.blks,.s s :: e.rd⟩:=by
 intro C gh σ' a w next Q hn hag hs hk
 have h1:σ'.get s = data .bool want:=by rw [← hv]; exact hag (.s s) (by simp)
 have h2:=tmp_bool hs h1
 have:Region.wanted o (yielded all.toArray a.tmps) = true:=by
  have hd':(all[j]?).bind (fun x => x.dst) = some s:=hd
  simp [Region.wanted,hg,yielded,hd',h2]
 rw [if_pos this]
 exact h C gh σ' a w next Q hn (agree_iff.2 fun k hk => agree_iff.1 hag k (by simp [hk])) hs hk
theorem stepOK_no {P:Program} {n:Nat} {all:List Oper} {o:Oper} {σ:St} {j s:Nat} {want:Bool} (hdo:dstOk n o.dst = true) (hg:o.guard = some (j,want)) (hd:dstOf all j = some s) (hv:σ.get s = data .bool (!want) ∨ σ.get s = one .un) :
  StepOK P n all.toArray o σ ⟨one .un,[],[.s s]⟩:=by
 intro C gh σ' a w next Q hn hag hs hk
 have hg1:σ'.get s = σ.get s:=hag (.s s) (by simp)
 have h2:a.tmps[s]? = some (.bool (!want)) ∨ a.tmps.getD s undef = undef:=by
  rcases hv with hv | hv
  ·exact .inl (tmp_bool hs (by rw [hg1]; exact hv))
  ·have:=hs.env s
   rw [hg1,hv] at this
   exact .inr this
 have:Region.wanted o (yielded all.toArray a.tmps) = false:=by
  have hd':(all[j]?).bind (fun x => x.dst) = some s:=hd
  rcases h2 with h2 | h2
  ·simp [Region.wanted,hg,yielded,hd',h2]
  ·rw [Array.getD_eq_getD_getElem?] at h2
   cases hh:a.tmps[s]? with
   | none => simp [Region.wanted,hg,yielded,hd',hh]
   | some v =>
    rw [hh] at h2
    simp only [Option.getD_some] at h2
    subst h2
    simp [Region.wanted,hg,yielded,hd',hh,undef]
 rw [if_neg (by simp [this])]
 exact hk gh _ _ (sim_put hs (hn.1 ▸ hdo) rfl fun _ => rfl)
theorem same_known (σ:St) {s:Nat} {v:AV} (h:σ.get s = v):Same σ ⟨(s,v) :: σ.env,σ.mem⟩:=by
 intro k
 cases k with
 | m i => rfl
 | s t =>
  simp only [St.at,St.get,lookE]
  cases hk:Nat.beq s t with
  | false => rfl
  | true =>
   have:=beq_true.1 hk
   subst this
   simp only [cond_true]
   rw [← h]
   rfl
theorem runOps_sound {cx:Cx} (hst:StepSound R cx) (all:List Oper):∀ (os:List Oper) (σ:St) (acc:List Done) (K:List Done → St → Option R) (r:R),runOps cx all os σ acc K = some r →
  ∃ es τ,Trace cx.T cx.n all.toArray os σ es ∧ Same (endOf os σ es) τ ∧ K (acc ++ dones os es) τ = some r
 | [],σ,acc,K,r,h => ⟨[],σ,trivial,Same.refl _,by simpa [dones,runOps] using h⟩
 | o :: os,σ,acc,K,r,h => by
  have hrec:=runOps_sound hst all os
  simp only [runOps] at h
  split at h
  ·rename_i hg
   cases hdo:dstOk cx.n o.dst with
   | false => rw [hdo] at h; cases h
   | true =>
    rw [hdo] at h
    simp only [Bool.not_true,cond_false] at h
    obtain ⟨e,h1,h2⟩:=hst σ o _ r hdo h
    obtain ⟨es,τ,h3,h4,h5⟩:=hrec _ _ K r h1
    exact ⟨e :: es,τ,⟨stepOK_plain hg h2,h3⟩,h4,by simpa [dones,doneOf] using h5⟩
  ·rename_i j want hg
   split at h
   ·rename_i s hd
    cases hdo:dstOk cx.n o.dst with
    | false => rw [hdo] at h; cases h
    | true =>
     rw [hdo] at h
     simp only [Bool.not_true,cond_false] at h
     split at h
     ·rename_i q hv
      have hgo:∀ (q':Bool),σ.get s = data .bool q' → q' = want → (stepOp cx ⟨(s,data .bool q') :: σ.env,σ.mem⟩ o fun e => runOps cx all os (St.apply ⟨(s,data .bool q') :: σ.env,σ.mem⟩ o.dst e) (acc ++ [⟨dstKey o ++ e.blks.map fun b => Key.m b.1,.s s :: e.rd⟩]) K) = some r →
        ∃ es τ,Trace cx.T cx.n all.toArray (o :: os) σ es ∧ Same (endOf (o :: os) σ es) τ ∧ K (acc ++ dones (o :: os) es) τ = some r:=by
       intro q' hq' hw hh
       subst hw
       have hsame:=same_known σ hq'
       obtain ⟨e,h1,h2⟩:=hst _ o _ r hdo hh
       obtain ⟨es,τ,h3,h4,h5⟩:=hrec _ _ K r h1
       have h6:=stepOK_go (all:=all) hg hd (by rw [hsame.get]; exact hq') h2
       refine ⟨⟨e.put,e.blks,.s s :: e.rd⟩ :: es,τ,⟨stepOK_same hsame.symm h6,?_⟩,?_,by simpa [dones,doneOf] using h5⟩
       ·exact trace_same (same_apply hsame.symm o.dst e) h3
       ·exact (end_same (same_apply hsame o.dst e)).trans h4
      have hno:∀ (q':Bool),σ.get s = data .bool q' → q' = !want → runOps cx all os (St.apply ⟨(s,data .bool q') :: σ.env,σ.mem⟩ o.dst ⟨one .un,[],[]⟩) (acc ++ [⟨dstKey o,[.s s]⟩]) K = some r →
        ∃ es τ,Trace cx.T cx.n all.toArray (o :: os) σ es ∧ Same (endOf (o :: os) σ es) τ ∧ K (acc ++ dones (o :: os) es) τ = some r:=by
       intro q' hq' hw hh
       subst hw
       have hsame:=same_known σ hq'
       obtain ⟨es,τ,h3,h4,h5⟩:=hrec _ _ K r hh
       refine ⟨⟨one .un,[],[.s s]⟩ :: es,τ,⟨stepOK_no hdo hg hd (.inl hq'),?_⟩,?_,by simpa [dones,doneOf] using h5⟩
       ·exact trace_same (same_apply hsame.symm o.dst ⟨one .un,[],[]⟩) h3
       ·exact (end_same (same_apply hsame o.dst ⟨one .un,[],[]⟩)).trans h4
      cases q <;> cases want <;> simp only [cond_true,cond_false] at h
      ·exact hgo false hv rfl h
      ·exact hno false hv rfl h
      ·exact hno true hv rfl h
      ·exact hgo true hv rfl h
     ·rename_i hv
      obtain ⟨es,τ,h3,h4,h5⟩:=hrec _ _ K r h
      exact ⟨⟨one .un,[],[.s s]⟩ :: es,τ,⟨stepOK_no hdo hg hd (.inr hv),h3⟩,h4,by simpa [dones,doneOf] using h5⟩
     ·cases h
   ·cases h
theorem wpOps_trace {P:Program} {n:Nat} {ops:Array Oper} {Q:Exit → Act → World → Prop} {C:Ctx} (hn:C.Is P n):∀ (os:List Oper) (i:Nat) (σ:St) (es:List Eff),(∀ j o,os[j]? = some o → ops[i + j]? = some o) → Trace P n ops os σ es →
  (∀ gh a w,Sim C gh (endOf os σ es) a w → Q .normal a w) → ∀ gh a w,Sim C gh σ a w → wpOps P ops Q (List.range' i os.length) a w
 | [],i,σ,[],_,_,hQ,gh,a,w,hs => hQ gh a w hs
 | [],_,_,_ :: _,_,h,_,_,_,_,_ => h.elim
 | _ :: _,_,_,[],_,h,_,_,_,_,_ => h.elim
 | o :: os,i,σ,e :: es,ho,h,hQ,gh,a,w,hs => by
  have h0:ops[i]? = some o:=by simpa using ho 0 o rfl
  have hrec:=wpOps_trace hn os (i + 1) (σ.apply o.dst e) es (fun j o' hj => by rw [Nat.add_assoc,Nat.add_comm 1 j]; exact ho (j + 1) o' (by simpa using hj)) h.2 hQ
  simp only [List.length_cons,List.range'_succ,wpOps,h0]
  have:=h.1 C gh σ a w (wpOps P ops Q (List.range' (i + 1) os.length)) Q hn (agree_iff.2 fun _ _ => rfl) hs (fun gh' a' w' hs' => hrec gh' a' w' hs')
  split
  ·rename_i hw
   rw [if_pos hw] at this
   exact .inl this
  ·rename_i hw
   rw [if_neg hw] at this
   exact this
end Go.Vx
namespace Go.Vx
open Go Go.RowKit
set_option linter.unusedVariables false
set_option linter.unusedSimpArgs false
variable {R:Type}
/-! ### 14. Regions whose order is drawn -/
def stE (E:Nat → Bool):Nat → List Oper → List Eff → St → St
 | i,o :: os,e :: es,σ => stE E (i + 1) os es (bif E i then σ.apply o.dst e else σ)
 | _,_,_,σ => σ
theorem stE_congr {E E':Nat → Bool} {k:Key}:∀ (os:List Oper) (es:List Eff) (i:Nat) (σ σ':St),(∀ (j:Nat) o e,os[j]? = some o → es[j]? = some e → pw o.dst e k ≠ none → E (i + j) = E' (i + j)) → σ.at k = σ'.at k → (stE E i os es σ).at k = (stE E' i os es σ').at k
 | [],es,i,σ,σ',h,hs => by simpa [stE] using hs
 | _ :: _,[],i,σ,σ',h,hs => by simpa [stE] using hs
 | o :: os,e :: es,i,σ,σ',h,hs => by
  simp only [stE]
  refine stE_congr os es (i + 1) _ _ (fun j o' e' h1 h2 h3 => ?_) ?_
  ·have:=h (j + 1) o' e' (by simpa using h1) (by simpa using h2) h3
   rw [show i + 1 + j = i + (j + 1) by omega]
   exact this
  ·cases hp:pw o.dst e k with
   | none =>
    have h1:(bif E i then σ.apply o.dst e else σ).at k = σ.at k:=by cases E i <;> simp [at_apply,hp]
    have h2:(bif E' i then σ'.apply o.dst e else σ').at k = σ'.at k:=by cases E' i <;> simp [at_apply,hp]
    rw [h1,h2,hs]
   | some v =>
    have:=h 0 o e rfl rfl (by rw [hp]; simp)
    simp only [Nat.add_zero] at this
    rw [this]
    cases E' i with
    | true => simp [at_apply,hp]
    | false => simpa using hs
theorem stE_last {E:Nat → Bool} {k:Key} {v:KV}:∀ (os:List Oper) (es:List Eff) (i:Nat) (σ:St) (j:Nat) (o:Oper) (e:Eff),os[j]? = some o → es[j]? = some e → pw o.dst e k = some v → E (i + j) = true →
  (∀ (m:Nat) o' e',os[m]? = some o' → es[m]? = some e' → pw o'.dst e' k ≠ none → j < m → E (i + m) = false) → (stE E i os es σ).at k = v
 | [],es,i,σ,j,o,e,h1,h2,h3,h4,h5 => by simp at h1
 | _ :: _,[],i,σ,j,o,e,h1,h2,h3,h4,h5 => by simp at h2
 | p :: os,q :: es,i,σ,0,o,e,h1,h2,h3,h4,h5 => by
  simp at h1 h2
  subst h1 h2
  simp only [stE]
  simp only [Nat.add_zero] at h4
  rw [h4]
  simp only [cond_true]
  rw [stE_congr (E':=fun _ => false) os es (i + 1) _ (σ.apply p.dst q) (fun j o' e' g1 g2 g3 => ?_) rfl]
  ·have:∀ (os:List Oper) (es:List Eff) (i:Nat) (σ:St),stE (fun _ => false) i os es σ = σ:=by
    intro os
    induction os with
    | nil => intro es i σ; rfl
    | cons o os ih => intro es i σ; cases es with
     | nil => rfl
     | cons e es => simp only [stE]; exact ih es _ _
   rw [this,at_apply,h3]
   rfl
  ·have:=h5 (j + 1) o' e' (by simpa using g1) (by simpa using g2) g3 (by omega)
   rw [show i + 1 + j = i + (j + 1) by omega]
   exact this
 | p :: os,q :: es,i,σ,j + 1,o,e,h1,h2,h3,h4,h5 => by
  simp only [stE]
  refine stE_last os es (i + 1) _ j o e (by simpa using h1) (by simpa using h2) h3 (by rw [show i + 1 + j = i + (j + 1) by omega]; exact h4) (fun m o' e' g1 g2 g3 g4 => ?_)
  have:=h5 (m + 1) o' e' (by simpa using g1) (by simpa using g2) g3 (by omega)
  rw [show i + 1 + m = i + (m + 1) by omega]
  exact this
theorem stE_none:∀ (E:Nat → Bool) (os:List Oper) (es:List Eff) (i:Nat) (σ:St),(∀ j,E (i + j) = false) → stE E i os es σ = σ
 | E,[],es,i,σ,h => rfl
 | E,_ :: _,[],i,σ,h => rfl
 | E,o :: os,e :: es,i,σ,h => by
  simp only [stE]
  have:=h 0
  simp only [Nat.add_zero] at this
  rw [this]
  exact stE_none E os es (i + 1) σ fun j => by rw [show i + 1 + j = i + (j + 1) by omega]; exact h (j + 1)
theorem stE_all:∀ (E:Nat → Bool) (os:List Oper) (es:List Eff) (i:Nat) (σ:St),(∀ j,j < os.length → E (i + j) = true) → stE E i os es σ = endOf os σ es
 | E,[],es,i,σ,h => by simp [stE,endOf]
 | E,_ :: _,[],i,σ,h => by simp [stE,endOf]
 | E,o :: os,e :: es,i,σ,h => by
  simp only [stE,endOf]
  have:=h 0 (by simp)
  simp only [Nat.add_zero] at this
  rw [this]
  exact stE_all E os es (i + 1) _ fun j hj => by rw [show i + 1 + j = i + (j + 1) by omega]; exact h (j + 1) (by simpa using hj)
theorem trace_get {P:Program} {n:Nat} {ops:Array Oper}:∀ (os:List Oper) (es:List Eff) (i:Nat) (σ:St) (j:Nat) (o:Oper),Trace P n ops os σ es → os[j]? = some o →
  ∃ e,es[j]? = some e ∧ StepOK P n ops o (stE (fun m => decide (m < i + j)) i os es σ) e
 | [],es,i,σ,j,o,h,ho => by simp at ho
 | _ :: _,[],i,σ,j,o,h,ho => h.elim
 | p :: os,q :: es,i,σ,0,o,h,ho => by
  simp at ho
  subst ho
  refine ⟨q,rfl,?_⟩
  rw [stE_none _ _ _ _ _ (fun j => by simp)]
  exact h.1
 | p :: os,q :: es,i,σ,j + 1,o,h,ho => by
  obtain ⟨e,h1,h2⟩:=trace_get os es (i + 1) (σ.apply p.dst q) j o h.2 (by simpa using ho)
  refine ⟨e,by simpa using h1,?_⟩
  simp only [stE]
  have hi:decide (i < i + (j + 1)) = true:=by simp
  rw [hi,show i + (j + 1) = i + 1 + j by omega]
  exact h2
theorem dones_get:∀ (os:List Oper) (es:List Eff) (j:Nat) (o:Oper) (e:Eff),os[j]? = some o → es[j]? = some e → (dones os es)[j]? = some (doneOf o e)
 | [],es,j,o,e,h,h' => by simp at h
 | _ :: _,[],j,o,e,h,h' => by simp at h'
 | p :: os,q :: es,0,o,e,h,h' => by simp at h h'; subst h h'; rfl
 | p :: os,q :: es,j + 1,o,e,h,h' => by simpa [dones] using dones_get os es j o e (by simpa using h) (by simpa using h')
theorem indepOne_get {ops:List Oper} {o:Oper} {b:Done}:∀ (l:List Done) (i j:Nat) (a:Done),indepOne ops o b i l = true → l[j]? = some a → conflict a b = true → edge2 ops o (i + j) = true
 | [],i,j,a,h,hj,hc => by simp at hj
 | x :: l,i,0,a,h,hj,hc => by
  simp at hj
  subst hj
  simp only [indepOne,Bool.and_eq_true,hc,Bool.not_true,Bool.false_or] at h
  exact h.1
 | x :: l,i,j + 1,a,h,hj,hc => by
  simp only [indepOne,Bool.and_eq_true] at h
  have:=indepOne_get l (i + 1) j a h.2 (by simpa using hj) hc
  rwa [show i + 1 + j = i + (j + 1) by omega] at this
theorem indep_get0 {ops:List Oper}:∀ (os:List Oper) (acc bs:List Done) (i j:Nat) (o:Oper) (a b:Done),indepA ops os acc bs = true → os[i]? = some o → bs[i]? = some b → (acc ++ bs)[j]? = some a → j < acc.length + i → conflict a b = true → edge2 ops o j = true
 | [],acc,bs,i,j,o,a,b,h,h1,h2,h3,h4,h5 => by simp at h1
 | _ :: _,acc,[],i,j,o,a,b,h,h1,h2,h3,h4,h5 => by simp at h2
 | p :: os,acc,q :: bs,0,j,o,a,b,h,h1,h2,h3,h4,h5 => by
  simp at h1 h2
  subst h1 h2
  simp only [indepA,Bool.and_eq_true] at h
  rw [List.getElem?_append_left (by simpa using h4)] at h3
  have:=indepOne_get acc 0 j a h.1 h3 h5
  rwa [Nat.zero_add] at this
 | p :: os,acc,q :: bs,i + 1,j,o,a,b,h,h1,h2,h3,h4,h5 => by
  simp only [indepA,Bool.and_eq_true] at h
  exact indep_get0 os (acc ++ [q]) bs i j o a b h.2 (by simpa using h1) (by simpa using h2) (by simpa using h3) (by simp; omega) h5
theorem edgeN_done {ops:List Oper} {j:Nat} {D:Nat → Prop} (hc:∀ k o',ops[k]? = some o' → D k → ∀ e ∈ o'.after.toList,bindsAny e = true → D e.on):∀ (n:Nat) (o:Oper),edgeN ops n o j = true → (∀ e ∈ o.after.toList,bindsAny e = true → D e.on) → D j:=by
 have h1:∀ o:Oper,edge1 o j = true → (∀ e ∈ o.after.toList,bindsAny e = true → D e.on) → D j:=by
  intro o h h0
  simp only [edge1,List.any_eq_true,Bool.and_eq_true] at h
  obtain ⟨e,h1,h2,h3⟩:=h
  have:=h0 e h1 h3
  rwa [Nat.eq_of_beq_eq_true h2] at this
 intro n
 induction n with
 | zero => exact h1
 | succ n ih =>
  intro o h h0
  simp only [edgeN,Bool.or_eq_true] at h
  rcases h with h | h
  ·exact h1 o h h0
  ·rw [List.any_eq_true] at h
   obtain ⟨e,g1,g2⟩:=h
   simp only [Bool.and_eq_true] at g2
   obtain ⟨g2,g3⟩:=g2
   have hD:=h0 e g1 g2
   split at g3
   ·rename_i o' ho'
    exact ih o' g3 (hc _ o' ho' hD)
   ·cases g3
theorem edge2_done {ops:List Oper} {o:Oper} {j:Nat} {D:Nat → Prop} (h:edge2 ops o j = true) (h0:∀ e ∈ o.after.toList,bindsAny e = true → D e.on) (hc:∀ k o',ops[k]? = some o' → D k → ∀ e ∈ o'.after.toList,bindsAny e = true → D e.on):D j:=
 edgeN_done hc 4 o h h0
theorem fwd_get0 {mx:Bool}:∀ (os:List Oper) (i j:Nat) (o:Oper),fwd mx i os = true → os[j]? = some o → ∀ e ∈ o.after.toList,e.on < i + j ∨ (mx = true ∧ bindsAny e = false)
 | [],i,j,o,h,hj => by simp at hj
 | p :: os,i,0,o,h,hj => by
  simp at hj
  subst hj
  simp only [fwd,Bool.and_eq_true,List.all_eq_true] at h
  intro e he
  have h1:=h.1 e he
  simp only [Bool.or_eq_true,Bool.and_eq_true,Bool.not_eq_true'] at h1
  rcases h1 with h1 | h1
  ·have:e.on < i:=Nat.le_of_ble_eq_true h1
   exact .inl (by omega)
  ·exact .inr h1
 | p :: os,i,j + 1,o,h,hj => by
  simp only [fwd,Bool.and_eq_true] at h
  intro e he
  have:=fwd_get0 os (i + 1) j o h.2 (by simpa using hj) e he
  rcases this with h1 | h1
  ·exact .inl (by omega)
  ·exact .inr h1
theorem binds_any (e:Edge):Region.binds .any e = bindsAny e:=by
 unfold Region.binds bindsAny
 cases e.ground <;> rfl
theorem fwd_get {mx:Bool} {md:Region.Mode} (hm:mx = true → md = .any) {os:List Oper} {j:Nat} {o:Oper} (h:fwd mx 0 os = true) (hj:os[j]? = some o):∀ e ∈ o.after.toList,Region.binds md e = true → e.on < j:=by
 intro e he hb
 rcases fwd_get0 os 0 j o h hj e he with h1 | ⟨h1,h2⟩
 ·omega
 ·rw [hm h1,binds_any,h2] at hb
  cases hb
theorem binds_md (md:Region.Mode) {e:Edge} (h:bindsAny e = true):Region.binds md e = true:=by
 unfold Region.binds
 unfold bindsAny at h
 cases hg:e.ground <;> rw [hg] at h <;> first | rfl | cases h
theorem conflict_ww {a b:Done} {k:Key} (h:k ∈ a.w) (h':k ∈ b.w):conflict a b = true:=by
 simp only [conflict,Bool.or_eq_true,List.any_eq_true]
 exact .inl ⟨k,h,.inl (by simpa using h')⟩
theorem conflict_wr {a b:Done} {k:Key} (h:k ∈ a.w) (h':k ∈ b.r):conflict a b = true:=by
 simp only [conflict,Bool.or_eq_true,List.any_eq_true]
 exact .inl ⟨k,h,.inr (by simpa using h')⟩
theorem conflict_rw {a b:Done} {k:Key} (h:k ∈ a.r) (h':k ∈ b.w):conflict a b = true:=by
 simp only [conflict,Bool.or_eq_true,List.any_eq_true]
 exact .inr ⟨k,h,by simpa using h'⟩
theorem getD_setB (l:Array Bool) (i j:Nat) (hi:i < l.size):(l.setIfInBounds i true).getD j false = if i = j then true else l.getD j false:=by
 by_cases h:i = j
 ·subst h; simp [Array.getD_eq_getD_getElem?,Array.getElem?_setIfInBounds,hi]
 ·simp [Array.getD_eq_getD_getElem?,Array.getElem?_setIfInBounds,h]
theorem wpAny_trace (md:Region.Mode) {P:Program} {n:Nat} {os:List Oper} {es:List Eff} {σ:St} {Q:Exit → Act → World → Prop} {C:Ctx} (hn:C.Is P n) (ht:Trace P n os.toArray os σ es) (hi:indep os [] (dones os es) = true) (hf:∀ j o,os[j]? = some o → ∀ e ∈ o.after.toList,Region.binds md e = true → e.on < j)
  (hQ:∀ gh a w,Sim C gh (endOf os σ es) a w → Q .normal a w):∀ (fuel:Nat) (listed:Array Bool) (gh:Gh) (a:Act) (w:World),listed.size = os.length → listed.toList.countP (fun b => !b) ≤ fuel →
   (∀ j o,os[j]? = some o → listed.getD j false = true → ∀ e ∈ o.after.toList,bindsAny e = true → listed.getD e.on false = true) →
   Sim C gh (stE (fun m => listed.getD m false) 0 os es σ) a w → wpAny P md os.toArray Q fuel listed a w:=by
 have hmem:∀ listed:Array Bool,listed.size = os.length → ∀ i,i ∈ Region.ready md os.toArray listed → i < os.length ∧ listed.getD i false = false ∧ ∀ o,os[i]? = some o → ∀ e ∈ o.after.toList,bindsAny e = true → listed.getD e.on false = true:=by
  intro listed hsz i
  simp only [Region.ready,List.mem_filter,List.mem_range,List.size_toArray,Bool.and_eq_true]
  rintro ⟨h1,h2,h3⟩
  have ho:os[i]? = some os[i]:=by simp [h1]
  refine ⟨h1,?_,?_⟩
  ·have:i < listed.size:=by omega
   simpa [Array.getD_eq_getD_getElem?,this] using h2
  ·intro o ho' e he hb
   rw [ho] at ho'
   cases ho'
   simp only [List.getElem?_toArray,ho,Option.map_some,Option.getD_some,Array.all_eq_true_iff_forall_mem] at h3
   have:=h3 e (by simpa using he)
   rw [binds_md md hb] at this
   simpa using this
 have hmem':∀ listed:Array Bool,listed.size = os.length → ∀ i,i < os.length → listed.getD i false = false → (∀ o,os[i]? = some o → ∀ e ∈ o.after.toList,Region.binds md e = true → listed.getD e.on false = true) → i ∈ Region.ready md os.toArray listed:=by
  intro listed hsz i h1 h2 h3
  simp only [Region.ready,List.mem_filter,List.mem_range,List.size_toArray,Bool.and_eq_true]
  have ho:os[i]? = some os[i]:=by simp [h1]
  refine ⟨h1,?_,?_⟩
  ·have:i < listed.size:=by omega
   simpa [Array.getD_eq_getD_getElem?,this] using h2
  ·simp only [List.getElem?_toArray,ho,Option.map_some,Option.getD_some,Array.all_eq_true_iff_forall_mem]
   intro e he
   cases hbd:Region.binds md e with
   | false => simp
   | true =>
    have:=h3 _ ho e (by simpa using he) hbd
    rw [this]
    simp
 have hdone:∀ listed:Array Bool,listed.size = os.length → Region.ready md os.toArray listed = [] → ∀ i,i < os.length → listed.getD i false = true:=by
  intro listed hsz hr i
  induction i using Nat.strongRecOn with
  | _ i ih =>
   intro hlt
   cases hb:listed.getD i false with
   | true => rfl
   | false =>
    have:i ∈ Region.ready md os.toArray listed:=by
     refine hmem' listed hsz i hlt hb fun o ho e he hbd => ?_
     have:=hf i o ho e he hbd
     exact ih e.on (by omega) (by omega)
    rw [hr] at this
    simp at this
 have hfin:∀ (listed:Array Bool) (gh:Gh) (a:Act) (w:World),listed.size = os.length → Region.ready md os.toArray listed = [] → Sim C gh (stE (fun m => listed.getD m false) 0 os es σ) a w → Q .normal a w:=by
  intro listed gh a w hsz hr hs
  rw [stE_all _ _ _ _ _ (fun j hj => by simpa using hdone listed hsz hr j hj)] at hs
  exact hQ gh a w hs
 intro fuel
 induction fuel with
 | zero =>
  intro listed gh a w hsz hc hcl hs
  have hall:∀ i,i < os.length → listed.getD i false = true:=by
   intro i hlt
   have h0:listed.toList.countP (fun b => !b) = 0:=by omega
   rw [List.countP_eq_zero] at h0
   have hi':i < listed.size:=by omega
   have:=h0 listed[i] (by simp)
   simpa [Array.getD_eq_getD_getElem?,hi'] using this
  have hr:Region.ready md os.toArray listed = []:=by
   rw [List.eq_nil_iff_forall_not_mem]
   intro i hi'
   have hi':=hmem listed hsz i hi'
   rw [hall i hi'.1] at hi'
   simp at hi'
  exact ⟨hr,hfin listed gh a w hsz hr hs⟩
 | succ fuel ih =>
  intro listed gh a w hsz hc hcl hs
  refine ⟨fun hr => hfin listed gh a w hsz hr hs,fun i hi' => ?_⟩
  obtain ⟨h1,h2,h3⟩:=hmem listed hsz i hi'
  have ho:os[i]? = some os[i]:=by simp [h1]
  obtain ⟨e,he,hstep⟩:=trace_get os es 0 σ i _ ht ho
  have hnext:∀ j o' e' k,os[j]? = some o' → es[j]? = some e' → pw o'.dst e' k ≠ none → (k ∈ (doneOf os[i] e).r ∨ k ∈ (doneOf os[i] e).w) → (j < i → listed.getD j false = true) ∧ (i < j → listed.getD j false = false):=by
   intro j o' e' k g1 g2 g3 g4
   cases hpw:pw o'.dst e' k with
   | none => exact absurd hpw g3
   | some v =>
    have hm:=pw_mem hpw
    have d1:=dones_get os es j o' e' g1 g2
    have d2:=dones_get os es i _ e ho he
    constructor
    ·intro hlt
     have hcf:conflict (doneOf o' e') (doneOf os[i] e) = true:=by
      rcases g4 with g4 | g4
      ·exact conflict_wr hm g4
      ·exact conflict_ww hm g4
     have hed:=indep_get0 os [] (dones os es) i j _ _ _ hi ho d2 (by simpa using d1) (by simpa using hlt) hcf
     exact edge2_done (D:=fun k => listed.getD k false = true) hed (h3 _ ho) hcl
    ·intro hlt
     have hcf:conflict (doneOf os[i] e) (doneOf o' e') = true:=by
      rcases g4 with g4 | g4
      ·exact conflict_rw g4 hm
      ·exact conflict_ww g4 hm
     have hed:=indep_get0 os [] (dones os es) j i _ _ _ hi g1 d1 (by simpa using d2) (by simpa using hlt) hcf
     cases hb:listed.getD j false with
     | false => rfl
     | true =>
      have:=edge2_done (D:=fun k => listed.getD k false = true) hed (hcl j o' g1 hb) hcl
      rw [h2] at this
      cases this
  have hag:agree e.rd (stE (fun m => decide (m < 0 + i)) 0 os es σ) (stE (fun m => listed.getD m false) 0 os es σ):=by
   rw [agree_iff]
   intro k hk
   refine stE_congr os es 0 σ σ (fun j o' e' g1 g2 g3 => ?_) rfl
   obtain ⟨q1,q2⟩:=hnext j o' e' k g1 g2 g3 (.inl hk)
   simp only [Nat.zero_add]
   rcases Nat.lt_trichotomy j i with hlt | heq | hlt
   ·rw [q1 hlt]; simp [hlt]
   ·subst heq; rw [h2]; simp
   ·rw [q2 hlt]; simp; omega
  have hset:listed.setIfInBounds i true = listed.setIfInBounds i true:=rfl
  have hil:i < listed.size:=by omega
  have hcont:∀ gh' a' w',Sim C gh' ((stE (fun m => listed.getD m false) 0 os es σ).apply os[i].dst e) a' w' → wpAny P md os.toArray Q fuel (listed.setIfInBounds i true) a' w':=by
   intro gh' a' w' hs'
   refine ih (listed.setIfInBounds i true) gh' a' w' (by simpa using hsz) ?_ ?_ (sim_same (fun k => ?_) hs')
   ·rw [Array.toList_setIfInBounds,List.countP_set (by simpa using hil)]
    have hb:listed[i] = false:=by simpa [Array.getD_eq_getD_getElem?,hil] using h2
    have:0 < listed.toList.countP (fun b => !b):=List.countP_pos_iff.2 ⟨false,by rw [← hb]; simp,rfl⟩
    have e1:listed.toList[i]'(by simpa using hil) = false:=by simpa using hb
    rw [e1]
    simp only [Bool.not_false,Bool.not_true,if_true,Bool.false_eq_true,if_false]
    omega
   ·intro j o' hj hb ed hed hbd
    rw [getD_setB _ _ _ hil] at hb ⊢
    by_cases hji:i = j
    ·subst hji
     have:=h3 o' hj ed hed hbd
     split
     ·rfl
     ·exact this
    ·rw [if_neg hji] at hb
     have:=hcl j o' hj hb ed hed hbd
     split
     ·rfl
     ·exact this
   ·rw [at_apply]
    cases hp:pw os[i].dst e k with
    | none =>
     simp only [Option.getD_none]
     refine stE_congr os es 0 σ σ (fun j o' e' g1 g2 g3 => ?_) rfl
     simp only [Nat.zero_add]
     rw [getD_setB _ _ _ hil,if_neg]
     intro hij
     subst hij
     rw [ho] at g1
     rw [he] at g2
     cases g1
     cases g2
     exact g3 hp
    | some v =>
     simp only [Option.getD_some]
     refine stE_last os es 0 σ i _ e ho he hp ?_ (fun m o' e' g1 g2 g3 g4 => ?_)
     ·simp only [Nat.zero_add]
      rw [getD_setB _ _ _ hil]; simp
     ·simp only [Nat.zero_add]
      rw [getD_setB _ _ _ hil,if_neg (by omega)]
      exact (hnext m o' e' k g1 g2 g3 (.inr (pw_mem hp))).2 g4
  have:=hstep C gh _ a w (wpAny P md os.toArray Q fuel (listed.setIfInBounds i true)) Q hn hag hs hcont
  unfold wpOp
  simp only [List.getElem?_toArray,ho]
  split
  ·rename_i hw
   rw [if_pos hw] at this
   exact .inl this
  ·rename_i hw
   rw [if_neg hw] at this
   exact this
end Go.Vx
namespace Go.Vx
open Go Go.RowKit
set_option linter.unusedVariables false
set_option linter.unusedSimpArgs false
variable {R:Type}
/-! ### 15. From a state to a shape -/
def Sub (ρ ρ':Ren):Prop:=∀ i j,lookR i ρ = some j → lookR i ρ' = some j
theorem Sub.refl (ρ:Ren):Sub ρ ρ:=fun _ _ h => h
theorem Sub.trans {a b c:Ren} (h:Sub a b) (h':Sub b c):Sub a c:=fun i j k => h' i j (h i j k)
def Inj (ρ:Ren):Prop:=∀ i i' j,lookR i ρ = some (some j) → lookR i' ρ = some (some j) → i = i'
theorem onEq_eq {a b:Option Nat} (h:onEq a b = true):a = b:=by
 cases a <;> cases b <;> simp_all [onEq]
theorem taken_of {j:Nat}:∀ {ρ:Ren} {i:Nat},lookR i ρ = some (some j) → taken (some j) ρ = true
 | [],i,h => by cases h
 | (k,v) :: ρ,i,h => by
  simp only [lookR] at h
  simp only [taken,Bool.or_eq_true]
  cases hk:Nat.beq k i with
  | true => rw [hk] at h; simp at h; subst h; exact .inl (by simp)
  | false => rw [hk] at h; exact .inr (taken_of h)
theorem bindId_ok {ρ ρ':Ren} {i:Nat} {j:Option Nat} (h:bindId ρ i j = some ρ') (hi:Inj ρ):Sub ρ ρ' ∧ lookR i ρ' = some j ∧ Inj ρ':=by
 unfold bindId at h
 split at h
 ·rename_i j' hl
  cases he:onEq j j' with
  | false => rw [he] at h; cases h
  | true =>
   rw [he] at h
   simp at h
   subst h
   rw [onEq_eq he]
   exact ⟨Sub.refl _,hl,hi⟩
 ·rename_i hl
  cases ht:taken j ρ with
  | true => rw [ht] at h; cases h
  | false =>
   rw [ht] at h
   simp at h
   subst h
   have hlook:∀ k,lookR k ((i,j) :: ρ) = bif Nat.beq i k then some j else lookR k ρ:=fun k => rfl
   refine ⟨fun k v hk => ?_,by rw [hlook]; simp,fun a b c h1 h2 => ?_⟩
   ·rw [hlook]
    cases hb:Nat.beq i k with
    | true => have:=beq_true.1 hb; subst this; rw [hl] at hk; cases hk
    | false => exact hk
   ·rw [hlook] at h1 h2
    cases ha:Nat.beq i a <;> cases hb:Nat.beq i b <;> rw [ha] at h1 <;> rw [hb] at h2
    ·exact hi a b c h1 h2
    ·simp at h2
     subst h2
     rw [taken_of h1] at ht
     cases ht
    ·simp at h1
     subst h1
     rw [taken_of h2] at ht
     cases ht
    ·rw [← beq_true.1 ha,← beq_true.1 hb]
inductive CapRel (ρ:Ren):Option (Nat × Nat) → Option (Nat × Nat) → Prop
 | none:CapRel ρ none none
 | ptr (i j o):lookR i ρ = some (some j) → CapRel ρ (some (j,o)) (some (i,o))
theorem CapRel.sub {ρ ρ':Ren} (hs:Sub ρ ρ') {a b:Option (Nat × Nat)} (h:CapRel ρ a b):CapRel ρ' a b:=by
 cases h with
 | none => exact .none
 | ptr i j o h => exact .ptr i j o (hs _ _ h)
theorem ma_caps:∀ {l k:List (Option (Nat × Nat))} {ρ0 ρ1:Ren},maCaps ρ0 l k = some ρ1 → Inj ρ0 → Sub ρ0 ρ1 ∧ Inj ρ1 ∧ All2 (CapRel ρ1) k l
 | [],[],ρ0,ρ1,h,hi => by simp [maCaps] at h; subst h; exact ⟨Sub.refl _,hi,.nil⟩
 | [],_ :: _,_,_,h,_ => by cases h
 | none :: _,[],_,_,h,_ => by cases h
 | some _ :: _,[],_,_,h,_ => by cases h
 | none :: l,some _ :: k,_,_,h,_ => by cases h
 | some _ :: l,none :: k,_,_,h,_ => by cases h
 | none :: l,none :: k,ρ0,ρ1,h,hi => by
  obtain ⟨h1,h2,h3⟩:=ma_caps (show maCaps ρ0 l k = some ρ1 from h) hi
  exact ⟨h1,h2,.cons .none h3⟩
 | some p :: l,some q :: k,ρ0,ρ1,h,hi => by
  simp only [maCaps] at h
  cases hb:Nat.beq p.2 q.2 with
  | false => rw [hb] at h; cases h
  | true =>
   rw [hb] at h
   simp only [cond_true] at h
   cases h1:bindId ρ0 p.1 (some q.1) with
   | none => rw [h1] at h; cases h
   | some ρ2 =>
    rw [h1] at h
    obtain ⟨g1,g2,g3⟩:=bindId_ok h1 hi
    obtain ⟨g4,g5,g6⟩:=ma_caps (show maCaps ρ2 l k = some ρ1 from h) g3
    refine ⟨g1.trans g4,g5,.cons ?_ g6⟩
    have:=beq_true.1 hb
    obtain ⟨p1,p2⟩:=p
    obtain ⟨q1,q2⟩:=q
    simp only at this
    subst this
    exact .ptr _ _ _ (g4 _ _ g2)
inductive ARel (ρ:Ren) (m:List (Nat × Blk)):AC → AC → Prop
 | junk (a):ARel ρ m a .junk
 | d (t a) (y:t.D):asD m t a = some y → ARel ρ m a (.c t y)
 | nilS:ARel ρ m .nilS .nilS
 | nilP:ARel ρ m .nilP .nilP
 | own (i j):lookR i ρ = some (some j) → ARel ρ m (.own j) (.own i)
 | mint (i):lookR i ρ = some none → ARel ρ m .nilS (.own i)
 | ptr (i j o):lookR i ρ = some (some j) → ARel ρ m (.ptr j o) (.ptr i o)
 | fn (f):ARel ρ m (.fn f) (.fn f)
 | clo (f) {k l}:All2 (CapRel ρ) k l → ARel ρ m (.clo f k) (.clo f l)
 | mp (i j):lookR i ρ = some (some j) → ARel ρ m (.mp j) (.mp i)
 | os (i j lo hi wd):lookR i ρ = some (some j) → ARel ρ m (.os j lo hi wd) (.os i lo hi wd)
 | osm (i wd):lookR i ρ = some none → ARel ρ m .nilS (.os i 0 0 wd)
 | eo (i j k wd o):lookR i ρ = some (some j) → ARel ρ m (.eo j k wd o) (.eo i k wd o)
 | bs (i j n):lookR i ρ = some (some j) → ARel ρ m (.bs j n) (.bs i n)
 | pnp (i j o):lookR i ρ = some (some j) → ARel ρ m (.ptr j o) (.pn i o false)
 | pnn (i o):ARel ρ m .nilP (.pn i o true)
 | pnb (i j o b):lookR i ρ = some (some j) → ARel ρ m (.pn j o b) (.pn i o b)
 | osw (i j) {e:Nat} {r:Ty} {xs:List r.D}:lookR i ρ = some (some j) → lookM j m = some (.lst e r xs false) → ARel ρ m (.own j) (.os i 0 xs.length r.width)
theorem ma_ac {ρ0 ρ1:Ren} {s:SAC} {a:AC} (h:maAC ρ0 s a = some ρ1) (hi:Inj ρ0):Sub ρ0 ρ1 ∧ Inj ρ1:=by
 cases s with
 | junk => simp [maAC] at h; subst h; exact ⟨Sub.refl _,hi⟩
 | d t => simp [maAC] at h; subst h; exact ⟨Sub.refl _,hi⟩
 | nilS => cases a <;> simp [maAC] at h; subst h; exact ⟨Sub.refl _,hi⟩
 | nilP => cases a <;> simp [maAC] at h; subst h; exact ⟨Sub.refl _,hi⟩
 | own i =>
  cases a <;> simp only [maAC] at h <;> try cases h
  ·obtain ⟨h1,_,h3⟩:=bindId_ok h hi; exact ⟨h1,h3⟩
  ·obtain ⟨h1,_,h3⟩:=bindId_ok h hi; exact ⟨h1,h3⟩
 | ptr i o =>
  cases a <;> simp only [maAC] at h <;> try cases h
  rename_i j o'
  cases hb:Nat.beq o o' with
  | false => rw [hb] at h; cases h
  | true => rw [hb] at h; obtain ⟨h1,_,h3⟩:=bindId_ok h hi; exact ⟨h1,h3⟩
 | fn f =>
  cases a <;> simp only [maAC] at h <;> try cases h
  rename_i g
  cases hb:Nat.beq f g with
  | false => rw [hb] at h; cases h
  | true => rw [hb] at h; simp at h; subst h; exact ⟨Sub.refl _,hi⟩
 | clo f cs =>
  cases a <;> simp only [maAC] at h <;> try cases h
  rename_i g ks
  cases hb:Nat.beq f g with
  | false => rw [hb] at h; cases h
  | true => rw [hb] at h; obtain ⟨h1,h2,_⟩:=ma_caps (show maCaps ρ0 cs ks = some ρ1 from h) hi; exact ⟨h1,h2⟩
 | mp i =>
  cases a <;> simp only [maAC] at h <;> try cases h
  obtain ⟨h1,_,h3⟩:=bindId_ok h hi; exact ⟨h1,h3⟩
 | os i wd =>
  cases a <;> simp only [maAC] at h <;> try cases h
  ·obtain ⟨h1,_,h3⟩:=bindId_ok h hi; exact ⟨h1,h3⟩
  ·obtain ⟨h1,_,h3⟩:=bindId_ok h hi; exact ⟨h1,h3⟩
  ·rename_i j lo hi' wd'
   cases hb:Nat.beq wd wd' with
   | false => rw [hb] at h; cases h
   | true => rw [hb] at h; obtain ⟨h1,_,h3⟩:=bindId_ok h hi; exact ⟨h1,h3⟩
 | eo i wd o =>
  cases a <;> simp only [maAC] at h <;> try cases h
  rename_i j k wd' o'
  cases hb:(Nat.beq wd wd' && Nat.beq o o') with
  | false => rw [hb] at h; cases h
  | true => rw [hb] at h; obtain ⟨h1,_,h3⟩:=bindId_ok h hi; exact ⟨h1,h3⟩
 | bs i n =>
  cases a <;> simp only [maAC] at h <;> try cases h
  rename_i j n'
  cases hb:Nat.beq n n' with
  | false => rw [hb] at h; cases h
  | true => rw [hb] at h; obtain ⟨h1,_,h3⟩:=bindId_ok h hi; exact ⟨h1,h3⟩
 | pn i o =>
  cases a <;> simp only [maAC] at h <;> try cases h
  ·split at h
   ·injection h with h; subst h; exact ⟨Sub.refl _,hi⟩
   ·cases h
  ·rename_i j o'
   cases hb:Nat.beq o o' with
   | false => rw [hb] at h; cases h
   | true => rw [hb] at h; obtain ⟨h1,_,h3⟩:=bindId_ok h hi; exact ⟨h1,h3⟩
  ·rename_i j o' b
   cases hb:Nat.beq o o' with
   | false => rw [hb] at h; cases h
   | true => rw [hb] at h; obtain ⟨h1,_,h3⟩:=bindId_ok h hi; exact ⟨h1,h3⟩
theorem ex_ac {ρ0 ρ1 ρ:Ren} {m:List (Nat × Blk)} {s:SAC} {a:AC} {X:Type} {x:Option X} {p:s.P X} (h:maAC ρ0 s a = some ρ1) (hi:Inj ρ0) (hs:Sub ρ1 ρ) (he:exAC m s a x = some p) :
  x = some (emAC s p).2 ∧ ARel ρ m a (emAC s p).1:=by
 cases s with
 | junk => exact ⟨he,.junk _⟩
 | d t =>
  simp only [exAC] at he
  cases h1:asD m t a with
  | none => rw [h1] at he; cases he
  | some y =>
   cases x with
   | none => rw [h1] at he; cases he
   | some z =>
    rw [h1] at he
    simp at he
    subst he
    exact ⟨rfl,.d _ _ _ h1⟩
 | nilS => cases a <;> simp [maAC] at h; exact ⟨he,.nilS⟩
 | nilP => cases a <;> simp [maAC] at h; exact ⟨he,.nilP⟩
 | own i =>
  cases a <;> simp only [maAC] at h <;> try cases h
  ·obtain ⟨_,h2,_⟩:=bindId_ok h hi
   exact ⟨he,.mint _ (hs _ _ h2)⟩
  ·obtain ⟨_,h2,_⟩:=bindId_ok h hi
   exact ⟨he,.own _ _ (hs _ _ h2)⟩
 | ptr i o =>
  cases a <;> simp only [maAC] at h <;> try cases h
  rename_i j o'
  cases hb:Nat.beq o o' with
  | false => rw [hb] at h; cases h
  | true =>
   rw [hb] at h
   have:=beq_true.1 hb
   subst this
   obtain ⟨_,h2,_⟩:=bindId_ok h hi
   exact ⟨he,.ptr _ _ _ (hs _ _ h2)⟩
 | fn f =>
  cases a <;> simp only [maAC] at h <;> try cases h
  rename_i g
  cases hb:Nat.beq f g with
  | false => rw [hb] at h; cases h
  | true =>
   have:=beq_true.1 hb
   subst this
   exact ⟨he,.fn _⟩
 | clo f cs =>
  cases a <;> simp only [maAC] at h <;> try cases h
  rename_i g ks
  cases hb:Nat.beq f g with
  | false => rw [hb] at h; cases h
  | true =>
   rw [hb] at h
   have:=beq_true.1 hb
   subst this
   obtain ⟨_,_,h3⟩:=ma_caps (show maCaps ρ0 cs ks = some ρ1 from h) hi
   exact ⟨he,.clo _ (All2.mono (fun _ _ h => h.sub hs) h3)⟩
 | mp i =>
  cases a <;> simp only [maAC] at h <;> try cases h
  obtain ⟨_,h2,_⟩:=bindId_ok h hi
  exact ⟨he,.mp _ _ (hs _ _ h2)⟩
 | os i wd =>
  cases a <;> simp only [maAC] at h <;> try cases h
  ·obtain ⟨_,h2,_⟩:=bindId_ok h hi
   simp only [exAC] at he
   cases x with
   | none => cases he
   | some z =>
    simp at he
    subst he
    exact ⟨rfl,.osm _ _ (hs _ _ h2)⟩
  ·rename_i j
   obtain ⟨_,h2,_⟩:=bindId_ok h hi
   simp only [exAC] at he
   split at he
   ·rename_i e r xs hm
    cases hb:Nat.beq r.width wd with
    | false => rw [hb] at he; cases he
    | true =>
     rw [hb] at he
     have:=beq_true.1 hb
     subst this
     cases x with
     | none => cases he
     | some z =>
      simp at he
      subst he
      exact ⟨rfl,.osw _ _ (hs _ _ h2) hm⟩
   ·cases he
  ·rename_i j lo hi' wd'
   cases hb:Nat.beq wd wd' with
   | false => rw [hb] at h; cases h
   | true =>
    rw [hb] at h
    have:=beq_true.1 hb
    subst this
    obtain ⟨_,h2,_⟩:=bindId_ok h hi
    simp only [exAC] at he
    cases x with
    | none => cases he
    | some z =>
     simp at he
     subst he
     exact ⟨rfl,.os _ _ _ _ _ (hs _ _ h2)⟩
 | eo i wd o =>
  cases a <;> simp only [maAC] at h <;> try cases h
  rename_i j k wd' o'
  cases hb:(Nat.beq wd wd' && Nat.beq o o') with
  | false => rw [hb] at h; cases h
  | true =>
   rw [hb] at h
   simp only [Bool.and_eq_true] at hb
   have h1:=beq_true.1 hb.1
   have h1':=beq_true.1 hb.2
   subst h1 h1'
   obtain ⟨_,h2,_⟩:=bindId_ok h hi
   simp only [exAC] at he
   cases x with
   | none => cases he
   | some z =>
    simp at he
    subst he
    exact ⟨rfl,.eo _ _ _ _ _ (hs _ _ h2)⟩
 | bs i n =>
  cases a <;> simp only [maAC] at h <;> try cases h
  rename_i j n'
  cases hb:Nat.beq n n' with
  | false => rw [hb] at h; cases h
  | true =>
   rw [hb] at h
   have:=beq_true.1 hb
   subst this
   obtain ⟨_,h2,_⟩:=bindId_ok h hi
   exact ⟨he,.bs _ _ _ (hs _ _ h2)⟩
 | pn i o =>
  cases a <;> simp only [maAC] at h <;> try cases h
  ·simp only [exAC] at he
   cases x with
   | none => cases he
   | some z =>
    simp at he
    subst he
    exact ⟨rfl,.pnn _ _⟩
  ·rename_i j o'
   cases hb:Nat.beq o o' with
   | false => rw [hb] at h; cases h
   | true =>
    rw [hb] at h
    have:=beq_true.1 hb
    subst this
    obtain ⟨_,h2,_⟩:=bindId_ok h hi
    simp only [exAC] at he
    cases x with
    | none => cases he
    | some z =>
     simp at he
     subst he
     exact ⟨rfl,.pnp _ _ _ (hs _ _ h2)⟩
  ·rename_i j o' b
   cases hb:Nat.beq o o' with
   | false => rw [hb] at h; cases h
   | true =>
    rw [hb] at h
    have:=beq_true.1 hb
    subst this
    obtain ⟨_,h2,_⟩:=bindId_ok h hi
    simp only [exAC] at he
    cases x with
    | none => cases he
    | some z =>
     simp at he
     subst he
     exact ⟨rfl,.pnb _ _ _ _ (hs _ _ h2)⟩
theorem ma_row:∀ {l:List SAC} {k:List AC} {ρ0 ρ1:Ren},maRow ρ0 l k = some ρ1 → Inj ρ0 → Sub ρ0 ρ1 ∧ Inj ρ1
 | [],[],ρ0,ρ1,h,hi => by simp [maRow] at h; subst h; exact ⟨Sub.refl _,hi⟩
 | [],_ :: _,ρ0,ρ1,h,hi => by cases h
 | _ :: _,[],ρ0,ρ1,h,hi => by cases h
 | s :: l,a :: k,ρ0,ρ1,h,hi => by
  simp only [maRow] at h
  cases h1:maAC ρ0 s a with
  | none => rw [h1] at h; cases h
  | some ρ2 =>
   rw [h1] at h
   obtain ⟨g1,g2⟩:=ma_ac h1 hi
   obtain ⟨g3,g4⟩:=ma_row (show maRow ρ2 l k = some ρ1 from h) g2
   exact ⟨g1.trans g3,g4⟩
theorem ex_row {ρ:Ren} {m:List (Nat × Blk)}:∀ {l:List SAC} {k:List AC} {ρ0 ρ1:Ren} {X:Type} {x:Option X} {p:rowP l X},maRow ρ0 l k = some ρ1 → Inj ρ0 → Sub ρ1 ρ → exRow m l k x = some p →
  x = some (emRow l p).2 ∧ All2 (ARel ρ m) k (emRow l p).1
 | [],[],ρ0,ρ1,X,x,p,h,hi,hs,he => ⟨he,.nil⟩
 | [],_ :: _,ρ0,ρ1,X,x,p,h,hi,hs,he => by cases h
 | _ :: _,[],ρ0,ρ1,X,x,p,h,hi,hs,he => by cases h
 | s :: l,a :: k,ρ0,ρ1,X,x,p,h,hi,hs,he => by
  simp only [maRow] at h
  cases h1:maAC ρ0 s a with
  | none => rw [h1] at h; cases h
  | some ρ2 =>
   rw [h1] at h
   have h2:maRow ρ2 l k = some ρ1:=h
   obtain ⟨g1,g2⟩:=ma_ac h1 hi
   obtain ⟨g3,g4⟩:=ma_row h2 g2
   obtain ⟨e1,e2⟩:=ex_ac h1 hi (g3.trans hs) (show exAC m s a (exRow m l k x) = some p from he)
   obtain ⟨e3,e4⟩:=ex_row h2 g2 hs e1
   exact ⟨e3,.cons e2 e4⟩
inductive A1Rel (ρ:Ren) (m:List (Nat × Blk)):AV → AV → Prop
 | junk (a):A1Rel ρ m a (.v (.one .junk))
 | one {a b}:ARel ρ m a b → A1Rel ρ m (.v (.one a)) (.v (.one b))
 | row {k l}:All2 (ARel ρ m) k l → A1Rel ρ m (.v (.row k)) (.v (.row l))
theorem ma_a1 {s:SA1} {a:AV} {ρ0 ρ1:Ren} (h:maA1 ρ0 s a = some ρ1) (hi:Inj ρ0):Sub ρ0 ρ1 ∧ Inj ρ1:=by
 unfold maA1 at h
 split at h
 ·exact ma_ac h hi
 ·exact ma_row h hi
 ·simp at h; subst h; exact ⟨Sub.refl _,hi⟩
 ·cases h
theorem ex_a1 {ρ:Ren} {m:List (Nat × Blk)} {s:SA1} {a:AV} {ρ0 ρ1:Ren} {X:Type} {x:Option X} {p:s.P X} (h:maA1 ρ0 s a = some ρ1) (hi:Inj ρ0) (hs:Sub ρ1 ρ) (he:exA1 m s a x = some p) :
  x = some (emA1 s p).2 ∧ A1Rel ρ m a (.v (emA1 s p).1):=by
 unfold maA1 at h
 split at h
 ·obtain ⟨h1,h2⟩:=ex_ac h hi hs he
  exact ⟨h1,.one h2⟩
 ·obtain ⟨h1,h2⟩:=ex_row h hi hs he
  exact ⟨h1,.row h2⟩
 ·rename_i hne
  refine ⟨?_,.junk _⟩
  cases a with
  | v x => cases x with
   | one a => exact he
   | row l => exact he
  | tup l => exact he
 ·cases h
theorem ma_env {σ:St}:∀ {l:List (Nat × SA1)} {ρ0 ρ1:Ren},maEnv σ ρ0 l = some ρ1 → Inj ρ0 → Sub ρ0 ρ1 ∧ Inj ρ1
 | [],ρ0,ρ1,h,hi => by simp [maEnv] at h; subst h; exact ⟨Sub.refl _,hi⟩
 | e :: l,ρ0,ρ1,h,hi => by
  simp only [maEnv] at h
  cases h1:maA1 ρ0 e.2 (σ.get e.1) with
  | none => rw [h1] at h; cases h
  | some ρ2 =>
   rw [h1] at h
   obtain ⟨g1,g2⟩:=ma_a1 h1 hi
   obtain ⟨g3,g4⟩:=ma_env (show maEnv σ ρ2 l = some ρ1 from h) g2
   exact ⟨g1.trans g3,g4⟩
theorem ex_env {ρ:Ren} {σ:St}:∀ {l:List (Nat × SA1)} {ρ0 ρ1:Ren} {X:Type} {x:Option X} {p:envP l X},maEnv σ ρ0 l = some ρ1 → Inj ρ0 → Sub ρ1 ρ → exEnv σ l x = some p →
  x = some (emEnv l p).2 ∧ ∀ s,A1Rel ρ σ.mem (σ.get s) (lookE s (emEnv l p).1)
 | [],ρ0,ρ1,X,x,p,h,hi,hs,he => ⟨he,fun s => .junk _⟩
 | e :: l,ρ0,ρ1,X,x,p,h,hi,hs,he => by
  simp only [maEnv] at h
  cases h1:maA1 ρ0 e.2 (σ.get e.1) with
  | none => rw [h1] at h; cases h
  | some ρ2 =>
   rw [h1] at h
   have h2:maEnv σ ρ2 l = some ρ1:=h
   obtain ⟨g1,g2⟩:=ma_a1 h1 hi
   obtain ⟨g3,g4⟩:=ma_env h2 g2
   obtain ⟨e1,e2⟩:=ex_a1 h1 hi (g3.trans hs) (show exA1 σ.mem e.2 (σ.get e.1) (exEnv σ l x) = some p from he)
   obtain ⟨e3,e4⟩:=ex_env h2 g2 hs e1
   refine ⟨e3,fun s => ?_⟩
   simp only [emEnv,lookE]
   cases hk:Nat.beq e.1 s with
   | true => rw [← beq_true.1 hk]; exact e2
   | false => exact e4 s
inductive BRel (ρ:Ren) (m:List (Nat × Blk)) (i:Nat):Blk → Prop
 | box {j t cs l}:lookR i ρ = some (some j) → lookM j m = some (.box t cs) → All2 (ARel ρ m) cs l → BRel ρ m i (.box t l)
 | lst {j e r xs fz}:lookR i ρ = some (some j) → lookM j m = some (.lst e r xs fz) → BRel ρ m i (.lst e r xs fz)
 | mint {e r fz}:lookR i ρ = some none → 0 < r.width → BRel ρ m i (.lst e r [] fz)
 | mp {j kr es}:lookR i ρ = some (some j) → lookM j m = some (.mp kr es) → BRel ρ m i (.mp kr es)
 | dead {j c}:lookR i ρ = some (some j) → lookM j m = some c → BRel ρ m i .dead
 | it {j s pos}:lookR i ρ = some (some j) → lookM j m = some (.it s pos) → BRel ρ m i (.it s pos)
theorem ma_mem {m:List (Nat × Blk)}:∀ {l:List (Nat × SBlk)} {ρ0 ρ1:Ren},maMem m ρ0 l = some ρ1 → Inj ρ0 → Sub ρ0 ρ1 ∧ Inj ρ1
 | [],ρ0,ρ1,h,hi => by simp [maMem] at h; subst h; exact ⟨Sub.refl _,hi⟩
 | (i,.box t l) :: k,ρ0,ρ1,h,hi => by
  simp only [maMem] at h
  split at h
  ·split at h
   ·rename_i j _ t' cs _
    cases ht:Nat.beq t t' with
    | false => rw [ht] at h; cases h
    | true =>
    rw [ht] at h
    simp only [cond_true] at h
    cases h1:maRow ρ0 l cs with
    | none => rw [h1] at h; cases h
    | some ρ2 =>
     rw [h1] at h
     obtain ⟨g1,g2⟩:=ma_row h1 hi
     obtain ⟨g3,g4⟩:=ma_mem (show maMem m ρ2 k = some ρ1 from h) g2
     exact ⟨g1.trans g3,g4⟩
   ·cases h
  ·cases h
 | (i,.lst e r fz) :: k,ρ0,ρ1,h,hi => by
  simp only [maMem] at h
  split at h
  ·split at h
   ·split at h
    ·rename_i e' r' xs fz' _ _ _ _
     cases hb:(Nat.beq e e' && ((fz' && fz) || (!fz' && !fz)) && Nat.blt 0 r.width) with
     | false => rw [hb] at h; cases h
     | true => rw [hb] at h; exact ma_mem (show maMem m ρ0 k = some ρ1 from h) hi
    ·cases h
   ·cases h
  ·cases hb:Nat.blt 0 r.width with
   | false => rw [hb] at h; cases h
   | true => rw [hb] at h; exact ma_mem (show maMem m ρ0 k = some ρ1 from h) hi
  ·cases h
 | (i,.mp kr) :: k,ρ0,ρ1,h,hi => by
  simp only [maMem] at h
  split at h
  ·split at h
   ·split at h
    ·exact ma_mem (show maMem m ρ0 k = some ρ1 from h) hi
    ·cases h
   ·cases h
  ·cases h
 | (i,.dead) :: k,ρ0,ρ1,h,hi => by
  simp only [maMem] at h
  split at h
  ·split at h
   ·exact ma_mem (show maMem m ρ0 k = some ρ1 from h) hi
   ·cases h
  ·cases h
 | (i,.it) :: k,ρ0,ρ1,h,hi => by
  simp only [maMem] at h
  split at h
  ·split at h
   ·exact ma_mem (show maMem m ρ0 k = some ρ1 from h) hi
   ·cases h
  ·cases h
theorem ex_mem {ρ:Ren} {m:List (Nat × Blk)}:∀ {l:List (Nat × SBlk)} {ρ0 ρ1:Ren} {p:memP l},maMem m ρ0 l = some ρ1 → Inj ρ0 → Sub ρ1 ρ → exMem m ρ l = some p →
  ∀ i b,lookM i (emMem l p) = some b → BRel ρ m i b
 | [],ρ0,ρ1,p,h,hi,hs,he,i,b,hb => by cases hb
 | (i,.box t l) :: k,ρ0,ρ1,p,h,hi,hs,he,i',b,hb => by
  simp only [maMem] at h
  split at h
  ·rename_i j hj
   split at h
   ·rename_i t' cs hcs
    cases ht:Nat.beq t t' with
    | false => rw [ht] at h; cases h
    | true =>
    rw [ht] at h
    simp only [cond_true] at h
    have ht:=beq_true.1 ht
    subst ht
    cases h1:maRow ρ0 l cs with
    | none => rw [h1] at h; cases h
    | some ρ2 =>
     rw [h1] at h
     have h2:maMem m ρ2 k = some ρ1:=h
     obtain ⟨g1,g2⟩:=ma_row h1 hi
     obtain ⟨g3,g4⟩:=ma_mem h2 g2
     have hj':=hs _ _ (g3 _ _ (g1 _ _ hj))
     have he':exBlk m ρ i (.box t l) (exMem m ρ k) = some p:=he
     simp only [exBlk,hj',hcs] at he'
     obtain ⟨e1,e2⟩:=ex_row h1 hi (g3.trans hs) he'
     simp only [emMem,lookM] at hb
     cases hk:Nat.beq i i' with
     | true =>
      rw [hk] at hb
      simp at hb
      subst hb
      rw [← beq_true.1 hk]
      exact .box hj' hcs e2
     | false =>
      rw [hk] at hb
      exact ex_mem h2 g2 hs e1 i' b hb
   ·cases h
  ·cases h
 | (i,.lst e r fz) :: k,ρ0,ρ1,p,h,hi,hs,he,i',b,hb => by
  have he':exBlk m ρ i (.lst e r fz) (exMem m ρ k) = some p:=he
  simp only [maMem] at h
  split at h
  ·rename_i j hj
   split at h
   ·rename_i e' r' xs fz' hm
    split at h
    ·cases hcond:(Nat.beq e e' && ((fz' && fz) || (!fz' && !fz)) && Nat.blt 0 r.width) with
     | false => rw [hcond] at h; cases h
     | true =>
      rw [hcond] at h
      have h2:maMem m ρ0 k = some ρ1:=h
      have hj':=hs _ _ ((ma_mem h2 hi).1 _ _ hj)
      simp only [exBlk,hj',hm] at he'
      cases hc:castD (.list r') (.list r) xs with
      | none => rw [hc] at he'; cases he'
      | some y =>
       rw [hc] at he'
       cases hx:exMem m ρ k with
       | none => rw [hx] at he'; cases he'
       | some z =>
        rw [hx] at he'
        simp at he'
        subst he'
        obtain ⟨hrr,rfl⟩:=castD_some hc
        injection hrr with hrr
        subst hrr
        simp only [Bool.and_eq_true] at hcond
        have hee:=beq_true.1 hcond.1.1
        subst hee
        have hfz:fz' = fz:=by have:=hcond.1.2; revert this; cases fz <;> cases fz' <;> simp
        subst hfz
        simp only [emMem,lookM,emBlk] at hb
        cases hk:Nat.beq i i' with
        | true =>
         rw [hk] at hb
         simp at hb
         subst hb
         rw [← beq_true.1 hk]
         exact .lst hj' hm
        | false =>
         rw [hk] at hb
         exact ex_mem h2 hi hs hx i' b hb
    ·cases h
   ·cases h
  ·rename_i hj
   cases hw:Nat.blt 0 r.width with
   | false => rw [hw] at h; cases h
   | true =>
    rw [hw] at h
    have h2:maMem m ρ0 k = some ρ1:=h
    have hj':=hs _ _ ((ma_mem h2 hi).1 _ _ hj)
    simp only [exBlk,hj'] at he'
    cases hx:exMem m ρ k with
    | none => rw [hx] at he'; cases he'
    | some z =>
     rw [hx] at he'
     simp at he'
     subst he'
     simp only [emMem,lookM,emBlk] at hb
     cases hk:Nat.beq i i' with
     | true =>
      rw [hk] at hb
      simp at hb
      subst hb
      rw [← beq_true.1 hk]
      exact .mint hj' (Nat.le_of_ble_eq_true hw)
     | false =>
      rw [hk] at hb
      exact ex_mem h2 hi hs hx i' b hb
  ·cases h
 | (i,.mp kr) :: k,ρ0,ρ1,p,h,hi,hs,he,i',b,hb => by
  have he':exBlk m ρ i (.mp kr) (exMem m ρ k) = some p:=he
  simp only [maMem] at h
  split at h
  ·rename_i j hj
   split at h
   ·rename_i kr' es hm
    split at h
    ·have h2:maMem m ρ0 k = some ρ1:=h
     have hj':=hs _ _ ((ma_mem h2 hi).1 _ _ hj)
     simp only [exBlk,hj',hm] at he'
     cases hc:castM kr' kr es with
     | none => rw [hc] at he'; cases he'
     | some y =>
      rw [hc] at he'
      cases hx:exMem m ρ k with
      | none => rw [hx] at he'; cases he'
      | some z =>
       rw [hx] at he'
       simp at he'
       subst he'
       obtain ⟨hrr,hy⟩:=castM_some hc
       subst hrr
       simp only at hy
       subst hy
       simp only [emMem,lookM,emBlk] at hb
       cases hk:Nat.beq i i' with
       | true =>
        rw [hk] at hb
        simp at hb
        subst hb
        rw [← beq_true.1 hk]
        exact .mp hj' hm
       | false =>
        rw [hk] at hb
        exact ex_mem h2 hi hs hx i' b hb
    ·cases h
   ·cases h
  ·cases h
 | (i,.dead) :: k,ρ0,ρ1,p,h,hi,hs,he,i',b,hb => by
  have he':exMem m ρ k = some p:=he
  simp only [maMem] at h
  split at h
  ·rename_i j hj
   split at h
   ·rename_i c hc
    have h2:maMem m ρ0 k = some ρ1:=h
    have hj':=hs _ _ ((ma_mem h2 hi).1 _ _ hj)
    simp only [emMem,lookM,emBlk] at hb
    cases hk:Nat.beq i i' with
    | true =>
     rw [hk] at hb
     simp at hb
     subst hb
     rw [← beq_true.1 hk]
     exact .dead hj' hc
    | false =>
     rw [hk] at hb
     exact ex_mem h2 hi hs he' i' b hb
   ·cases h
  ·cases h
 | (i,.it) :: k,ρ0,ρ1,p,h,hi,hs,he,i',b,hb => by
  have he':exBlk m ρ i .it (exMem m ρ k) = some p:=he
  simp only [maMem] at h
  split at h
  ·rename_i j hj
   split at h
   ·rename_i s pos hc
    have h2:maMem m ρ0 k = some ρ1:=h
    have hj':=hs _ _ ((ma_mem h2 hi).1 _ _ hj)
    simp only [exBlk,hj',hc] at he'
    cases hx:exMem m ρ k with
    | none => rw [hx] at he'; cases he'
    | some z =>
     rw [hx] at he'
     simp at he'
     subst he'
     simp only [emMem,lookM,emBlk] at hb
     cases hk:Nat.beq i i' with
     | true =>
      rw [hk] at hb
      simp at hb
      subst hb
      rw [← beq_true.1 hk]
      exact .it hj' hc
     | false =>
      rw [hk] at hb
      exact ex_mem h2 hi hs hx i' b hb
   ·cases h
  ·cases h
theorem hasId_look:∀ {l:List (Nat × SBlk)} {p:memP l} {i:Nat},hasId i l = true → lookM i (emMem l p) ≠ none
 | [],p,i,h => by cases h
 | e :: l,p,i,h => by
  simp only [hasId,Bool.or_eq_true] at h
  simp only [emMem,lookM]
  cases hk:Nat.beq e.1 i with
  | true => simp
  | false =>
   rw [hk] at h
   simp only [cond_false]
   exact hasId_look (h.resolve_left (by simp))
theorem known_look {l:List (Nat × SBlk)}:∀ {ρ:Ren} {i:Nat} {x:Option Nat},known l ρ = true → lookR i ρ = some x → hasId i l = true
 | [],i,x,h,hl => by cases hl
 | q :: ρ,i,x,h,hl => by
  simp only [known,Bool.and_eq_true] at h
  simp only [lookR] at hl
  cases hk:Nat.beq q.1 i with
  | true => rw [← beq_true.1 hk]; exact h.1
  | false => rw [hk] at hl; exact known_look h.2 hl
structure Fits (s:Shape) (σ:St) (ρ:Ren) (p:s.D):Prop where
 inj:Inj ρ
 env:∀ t,A1Rel ρ σ.mem (σ.get t) ((embed s p).get t)
 mem:∀ i b,(embed s p).blk i = some b → BRel ρ σ.mem i b
 has:∀ i x,lookR i ρ = some x → (embed s p).blk i ≠ none
theorem fits {s:Shape} {σ:St} {ρ:Ren} {p:s.D} {ρ0:Ren} (i0:Inj ρ0) (hm:matchShape ρ0 s σ = some ρ) (he:((matchShape ρ0 s σ).bind fun ρ => exEnv σ s.env (exMem σ.mem ρ s.mem)) = some p):Fits s σ ρ p:=by
 rw [hm] at he
 simp only [Option.bind_some] at he
 unfold matchShape at hm
 cases h1:maEnv σ ρ0 s.env with
 | none => rw [h1] at hm; cases hm
 | some ρ1 =>
  cases h2:maMem σ.mem ρ1 s.mem with
  | none => rw [h1] at hm; simp only [Option.bind_some] at hm; rw [h2] at hm; cases hm
  | some ρ2 =>
   rw [h1] at hm
   simp only [Option.bind_some] at hm
   rw [h2] at hm
   simp only [Option.bind_some] at hm
   cases hk:known s.mem ρ2 with
   | false => rw [hk] at hm; cases hm
   | true =>
    rw [hk] at hm
    simp at hm
    subst hm
    obtain ⟨_,i1⟩:=ma_env h1 i0
    obtain ⟨s2,i2⟩:=ma_mem h2 i1
    obtain ⟨e1,e2⟩:=ex_env h1 i0 s2 he
    exact ⟨i2,e2,fun i b hb => ex_mem h2 i1 (Sub.refl _) e1 i b hb,fun i x hx => hasId_look (known_look hk hx)⟩
theorem extract_match {s:Shape} {σ:St} {p:s.D} (he:extract s σ = some p):∃ ρ,matchShape (pins s.mem) s σ = some ρ ∧ pinOk ρ = true ∧ ((matchShape (pins s.mem) s σ).bind fun ρ => exEnv σ s.env (exMem σ.mem ρ s.mem)) = some p:=by
 unfold extract at he
 cases h:matchShape (pins s.mem) s σ with
 | none => rw [h] at he; cases he
 | some ρ =>
  rw [h] at he
  simp only [Option.bind_some] at he
  cases hp:pinOk ρ with
  | false => rw [hp] at he; cases he
  | true =>
   rw [hp] at he
   exact ⟨ρ,rfl,hp,he⟩
theorem pins_look:∀ {l:List (Nat × SBlk)} {i:Nat} {x:Option Nat},lookR i (pins l) = some x → x = some i
 | [],i,x,h => by cases h
 | e :: l,i,x,h => by
  simp only [pins] at h
  cases hp:pin e.1 with
  | false => rw [hp] at h; exact pins_look (l:=l) h
  | true =>
   rw [hp] at h
   simp only [cond_true,lookR] at h
   cases hk:Nat.beq e.1 i with
   | true => rw [hk] at h; simp at h; rw [← h,beq_true.1 hk]
   | false => rw [hk] at h; exact pins_look (l:=l) h
theorem pins_inj (l:List (Nat × SBlk)):Inj (pins l):=fun i i' j h h' => by
 have h1:=pins_look h
 have h2:=pins_look h'
 injection h1 with h1
 injection h2 with h2
 omega
theorem nil_inj:Inj []:=fun i i' j h => by cases h
theorem pin_look:∀ {ρ:Ren} {i:Nat} {x:Option Nat},pinOk ρ = true → pin i = true → lookR i ρ = some x → x = some i
 | [],i,x,h,hp,hl => by cases hl
 | q :: ρ,i,x,h,hp,hl => by
  simp only [pinOk,Bool.and_eq_true] at h
  simp only [lookR] at hl
  cases hk:Nat.beq q.1 i with
  | true =>
   have:=beq_true.1 hk
   rw [hk] at hl
   simp at hl
   have h1:=h.1
   rw [this,hp] at h1
   simp only [Bool.not_true,Bool.false_or] at h1
   rw [← hl]
   exact (onEq_eq h1).symm
  | false => rw [hk] at hl; exact pin_look h.2 hp hl

def renGh (gh:Gh) (ρ:Ren):Gh:=⟨fun i => match lookR i ρ with | some (some j) => gh.val j | _ => .slice none 0 0,gh.S,gh.K⟩
theorem ren_some {gh:Gh} {ρ:Ren} {i j:Nat} (h:lookR i ρ = some (some j)):(renGh gh ρ).val i = gh.val j:=by simp [renGh,h]
theorem ren_none {gh:Gh} {ρ:Ren} {i:Nat} (h:lookR i ρ = some none):(renGh gh ρ).val i = .slice none 0 0:=by simp [renGh,h]
theorem ren_blk {gh:Gh} {ρ:Ren} {i k:Nat} (h:(renGh gh ρ).blk i = some k):∃ j,lookR i ρ = some (some j) ∧ gh.blk j = some k:=by
 unfold Gh.blk at h
 cases hl:lookR i ρ with
 | none => simp [renGh,hl,blockOfV] at h
 | some x => cases x with
  | none => simp [renGh,hl,blockOfV] at h
  | some j => rw [ren_some hl] at h; exact ⟨j,rfl,h⟩
section
variable {gh:Gh} {m:List (Nat × Blk)} {w:World} {ρ:Ren} {m':Mem}
theorem caprels_rep (hk:∀ i x,lookR i ρ = some x → m' i ≠ none):∀ {l k:List (Option (Nat × Nat))} {vs:List Value},All2 (CapRel ρ) l k → All2 (RepCap gh (fun i => lookM i m)) l vs → All2 (RepCap (renGh gh ρ) m') k vs
 | _,_,_,.nil,.nil => .nil
 | _,_,_,.cons r1 r2,.cons h1 h2 => by
  refine .cons ?_ (caprels_rep hk r2 h2)
  cases r1 with
  | none => exact h1
  | ptr i j o hj =>
   obtain ⟨_,b,h3,h4⟩:=h1
   exact ⟨hk _ _ hj,b,by rw [ren_some hj]; exact h3,h4⟩
theorem arel_rep (H:HeapOK gh (fun i => lookM i m) w) (hk:∀ i x,lookR i ρ = some x → m' i ≠ none) {a b:AC} {v:Value} (hr:ARel ρ m a b) (h:RepC gh (fun i => lookM i m) w a v):RepC (renGh gh ρ) m' w b v:=by
 cases hr with
 | junk => trivial
 | d t a y hy => exact (asD_rep H hy h:RepD gh.S w t y v)
 | nilS => exact h
 | nilP => exact h
 | own i j hj => exact ⟨hk _ _ hj,by rw [ren_some hj]; exact h.2.1,h.2.2⟩
 | mint i hi => exact ⟨hk _ _ hi,by rw [ren_none hi]; exact h,none,0,0,h⟩
 | ptr i j o hj =>
  obtain ⟨_,b,h2,h3⟩:=h
  exact ⟨hk _ _ hj,b,by rw [ren_some hj]; exact h2,h3⟩
 | fn f => exact h
 | @clo f k l hc => obtain ⟨vs,h1,h2⟩:=h; exact ⟨vs,h1,caprels_rep hk hc h2⟩
 | mp i j hj => exact ⟨hk _ _ hj,by rw [ren_some hj]; exact h.2.1,h.2.2⟩
 | os i j lo hi wd hj =>
  obtain ⟨_,h2,a0,n,c0,a,c,h3,h4⟩:=h
  exact ⟨hk _ _ hj,h2,a0,n,c0,a,c,by rw [ren_some hj]; exact h3,h4⟩
 | eo i j k wd o hj =>
  obtain ⟨_,b,n,c,h2,h3⟩:=h
  exact ⟨hk _ _ hj,b,n,c,by rw [ren_some hj]; exact h2,h3⟩
 | bs i j n hj =>
  obtain ⟨_,b,h2,h3⟩:=h
  exact ⟨hk _ _ hj,b,by rw [ren_some hj]; exact h2,h3⟩
 | pnp i j o hj =>
  obtain ⟨_,b,h2,h3⟩:=h
  exact .inr ⟨rfl,hk _ _ hj,b,by rw [ren_some hj]; exact h2,h3⟩
 | pnn i o => exact .inl ⟨rfl,h⟩
 | pnb i j o b hj =>
  exact h.imp (fun h => h) fun ⟨h0,_,g,h2,h3⟩ => ⟨h0,hk _ _ hj,g,by rw [ren_some hj]; exact h2,h3⟩
 | osm i wd hi => exact ⟨hk _ _ hi,Nat.le_refl _,none,0,0,none,0,by rw [ren_none hi],Nat.le_refl _,h,Nat.le_refl _,fun _ => rfl,(fun hlt => absurd hlt (Nat.lt_irrefl _)),Nat.le_refl _,fun _ => rfl⟩
 | @osw i j e r xs hj hm =>
  have ht:tailOf m (.own j) = some (j,0,xs.length,r.width):=by simp only [tailOf,hm]
  obtain ⟨⟨_,h2,a0,n,c0,a,c,h3,h4⟩,_⟩:=tail_rep H ht h
  rw [Nat.zero_add] at h2 h4
  exact ⟨hk _ _ hj,h2,a0,n,c0,a,c,by rw [ren_some hj]; exact h3,h4⟩
theorem arels_rep (H:HeapOK gh (fun i => lookM i m) w) (hk:∀ i x,lookR i ρ = some x → m' i ≠ none):∀ {l k:List AC} {vs:List Value},All2 (ARel ρ m) l k → RepCs gh (fun i => lookM i m) w l vs → RepCs (renGh gh ρ) m' w k vs
 | [],[],vs,_,h => by cases h; exact .nil
 | [],_ :: _,vs,hr,_ => nomatch hr
 | _ :: _,[],vs,hr,_ => nomatch hr
 | a :: l,b :: k,vs,hr,h => by
  cases hr with
  | cons r1 r2 => cases h with
   | cons h1 h2 => exact .cons (arel_rep H hk r1 h1) (arels_rep H hk r2 h2)
theorem a1rel_rep (H:HeapOK gh (fun i => lookM i m) w) (hk:∀ i x,lookR i ρ = some x → m' i ≠ none) {a b:AV} {v:Value} (hr:A1Rel ρ m a b) (h:RepV gh (fun i => lookM i m) w a v):RepV (renGh gh ρ) m' w b v:=by
 cases hr with
 | junk => trivial
 | one h1 => exact arel_rep H hk h1 h
 | row h1 => obtain ⟨vs,e,h2⟩:=h; exact ⟨vs,e,arels_rep H hk h1 h2⟩
theorem all2_of_mem {α β:Type} {R R':α → β → Prop}:∀ {l:List α} {k:List β},(∀ a ∈ l,∀ b,R a b → R' a b) → All2 R l k → All2 R' l k
 | [],_,h,.nil => .nil
 | a :: l,_,h,.cons h1 h2 => .cons (h a (by simp) _ h1) (all2_of_mem (fun x hx => h x (by simp [hx])) h2)
theorem cellsOf_c:∀ {r:Ty} {x:r.D} {a:AC},a ∈ cellsOf r x → ∃ t y,a = .c t y
 | .unit,x,a,h => by cases h
 | .cons p q,x,a,h => by
  simp only [cellsOf,List.mem_cons] at h
  rcases h with h | h
  ·exact ⟨_,_,h⟩
  ·exact cellsOf_c h
 | .int k,x,a,h => by simp [cellsOf] at h; exact ⟨_,_,h⟩
 | .bool,x,a,h => by simp [cellsOf] at h; exact ⟨_,_,h⟩
 | .str,x,a,h => by simp [cellsOf] at h; exact ⟨_,_,h⟩
 | .list r,x,a,h => by simp [cellsOf] at h; exact ⟨_,_,h⟩
theorem rows_any {gh gh':Gh} {m m':Mem} {w:World} (hS:gh'.S = gh.S) {r:Ty} {xs:List r.D} {vs:List Value} (h:RepCs gh m w (rowsCells r xs) vs):RepCs gh' m' w (rowsCells r xs) vs:=by
 refine all2_of_mem (fun a ha v hv => ?_) h
 simp only [rowsCells,List.mem_flatMap] at ha
 obtain ⟨x,_,hx⟩:=ha
 obtain ⟨t,y,rfl⟩:=cellsOf_c hx
 have:RepD gh.S w t y v:=hv
 show RepD gh'.S w t y v
 rw [hS]
 exact this
theorem heap_ren (H:HeapOK gh (fun i => lookM i m) w) (hi:Inj ρ) (hk:∀ i x,lookR i ρ = some x → m' i ≠ none) (hb:∀ i b,m' i = some b → BRel ρ m i b):HeapOK (renGh gh ρ) m' w:=by
 have hlive:∀ i b,m' i = some b → b.live = true → ∀ j,lookR i ρ = some (some j) → ∃ c,lookM j m = some c ∧ c.live = true:=by
  intro i b hib hbl j hj
  have:=hb i b hib
  cases this with
  | box h1 h2 _ => rw [h1] at hj; cases hj; exact ⟨_,h2,rfl⟩
  | lst h1 h2 => rw [h1] at hj; cases hj; exact ⟨_,h2,rfl⟩
  | mint h1 _ => rw [h1] at hj; cases hj
  | mp h1 h2 => rw [h1] at hj; cases hj; exact ⟨_,h2,rfl⟩
  | dead h1 h2 => cases hbl
  | it h1 h2 => rw [h1] at hj; cases hj; exact ⟨_,h2,rfl⟩
 refine ⟨⟨fun i b hib => ?_,fun i i' b c hib hic hl hl' hne k hk1 hk2 => ?_,fun x hx i b hib hxb => ?_,H.st⟩,fun k cs hk => ⟨(H.gr k cs hk).1,fun i b hib hl he => ?_⟩⟩
 ·have:=hb i b hib
  cases this with
  | box h1 h2 h3 =>
   obtain ⟨g,vals,e1,e2,e3⟩:=H.blk _ _ h2
   exact ⟨g,vals,by rw [ren_some h1]; exact e1,e2,arels_rep H hk h3 e3⟩
  | lst h1 h2 =>
   obtain ⟨vs,e1,e2,e3,e4⟩:=H.blk _ _ h2
   refine ⟨vs,by rw [ren_some h1]; exact e1,rows_any (gh:=gh) (gh':=renGh gh ρ) rfl e2,e3,fun hf g hg => ?_⟩
   refine e4 hf g ?_
   unfold Gh.blk at hg ⊢
   rw [ren_some h1] at hg
   exact hg
  | mint h1 h2 =>
   refine ⟨[],⟨by simp,.inl ⟨ren_none h1,rfl⟩⟩,.nil,h2,fun hf g hg => ?_⟩
   unfold Gh.blk at hg
   rw [ren_none h1] at hg
   cases hg
  | mp h1 h2 =>
   obtain ⟨e0,g,ents,clock,e1,e2,e3⟩:=H.blk _ _ h2
   refine ⟨e0,g,ents,clock,by rw [ren_some h1]; exact e1,e2,All2.mono (fun e n hn => ?_) e3⟩
   obtain ⟨⟨vs,f1,f2⟩,f3⟩:=hn
   refine ⟨⟨vs,f1,all2_of_mem (fun a ha v hv => ?_) f2⟩,f3⟩
   obtain ⟨t,y,rfl⟩:=cellsOf_c ha
   exact hv
  | dead h1 h2 => trivial
  | it h1 h2 =>
   obtain ⟨g,e1,e2⟩:=H.blk _ _ h2
   exact ⟨g,by rw [ren_some h1]; exact e1,e2⟩
 ·obtain ⟨j,g1,g2⟩:=ren_blk hk1
  obtain ⟨j',g3,g4⟩:=ren_blk hk2
  obtain ⟨c1,q1,q2⟩:=hlive i b hib hl j g1
  obtain ⟨c2,q3,q4⟩:=hlive i' c hic hl' j' g3
  refine H.inj j j' c1 c2 q1 q3 q2 q4 (fun h => ?_) k g2 g4
  subst h
  exact hne (hi _ _ _ g1 g3)
 ·obtain ⟨j,g1,g2⟩:=ren_blk hxb
  have:=hb i b hib
  cases this with
  | box h1 h2 _ => rw [h1] at g1; cases g1; exact False.elim (H.sep x hx _ _ h2 g2)
  | lst h1 h2 => rw [h1] at g1; cases g1; exact H.sep x hx _ _ h2 g2
  | mint h1 _ => rw [h1] at g1; cases g1
  | mp h1 h2 => rw [h1] at g1; cases g1; exact H.sep x hx _ _ h2 g2
  | dead h1 h2 => trivial
  | it h1 h2 => rw [h1] at g1; cases g1; exact False.elim (H.sep x hx _ _ h2 g2)
 ·obtain ⟨j,g1,g2⟩:=ren_blk he
  obtain ⟨c,q1,q2⟩:=hlive i b hib hl j g1
  exact (H.gr k cs hk).2 j c q1 q2 g2
theorem live_ren (hb:∀ i b,m' i = some b → BRel ρ m i b) {i:Nat} {b:Blk} (hib:m' i = some b) (hbl:b.live = true) {k:Nat} (hk:(renGh gh ρ).blk i = some k):∃ j c,lookR i ρ = some (some j) ∧ lookM j m = some c ∧ c.live = true ∧ gh.blk j = some k:=by
 obtain ⟨j,g1,g2⟩:=ren_blk hk
 have:=hb i b hib
 cases this with
 | box h1 h2 _ => rw [h1] at g1; cases g1; exact ⟨_,_,h1,h2,rfl,g2⟩
 | lst h1 h2 => rw [h1] at g1; cases g1; exact ⟨_,_,h1,h2,rfl,g2⟩
 | mint h1 _ => rw [h1] at g1; cases g1
 | mp h1 h2 => rw [h1] at g1; cases g1; exact ⟨_,_,h1,h2,rfl,g2⟩
 | dead h1 h2 => cases hbl
 | it h1 h2 => rw [h1] at g1; cases g1; exact ⟨_,_,h1,h2,rfl,g2⟩
end
theorem pin_ren {gh:Gh} {m:List (Nat × Blk)} {ρ:Ren} {m':Mem} (hb:∀ i b,m' i = some b → BRel ρ m i b) (hpo:pinOk ρ = true) {id:Nat} (hp:pin id = true) (hid:m' id ≠ none) :
  ∃ _:lookM id m ≠ none,lookR id ρ = some (some id) ∧ (renGh gh ρ).val id = gh.val id:=by
 cases hmid:m' id with
 | none => exact absurd hmid hid
 | some b =>
  have:=hb id b hmid
  cases this with
  | box h1 h2 _ => have:=pin_look hpo hp h1; injection this with this; subst this; exact ⟨by rw [h2]; simp,h1,ren_some h1⟩
  | lst h1 h2 => have:=pin_look hpo hp h1; injection this with this; subst this; exact ⟨by rw [h2]; simp,h1,ren_some h1⟩
  | mint h1 _ => have:=pin_look hpo hp h1; cases this
  | mp h1 h2 => have:=pin_look hpo hp h1; injection this with this; subst this; exact ⟨by rw [h2]; simp,h1,ren_some h1⟩
  | dead h1 h2 => have:=pin_look hpo hp h1; injection this with this; subst this; exact ⟨by rw [h2]; simp,h1,ren_some h1⟩
  | it h1 h2 => have:=pin_look hpo hp h1; injection this with this; subst this; exact ⟨by rw [h2]; simp,h1,ren_some h1⟩
theorem sim_extract {C:Ctx} {gh:Gh} {σ:St} {a:Act} {w:World} {s:Shape} {p:s.D} (h:extract s σ = some p) (hs:Sim C gh σ a w):∃ gh',Sim C gh' (embed s p) a w:=by
 obtain ⟨ρ,hm,hpo,hc⟩:=extract_match h
 have hf:=fits (pins_inj _) hm hc
 refine ⟨renGh gh ρ,hs.defers,hs.size,fun t => a1rel_rep hs.heap hf.has (hf.env t) (hs.env t),heap_ren hs.heap hf.inj hf.has hf.mem,?_⟩
 have ht:=hs.tr
 exact ⟨ht.os,ht.tape,ht.output,ht.size,ht.same,ht.S,ht.scell,ht.newS,fun i b hib hl k hk => by
  obtain ⟨j,c,g1,g2,g3,g4⟩:=live_ren (gh:=gh) hf.mem hib hl hk
  exact ht.ids j c g2 g3 k g4,fun id hp hid => by
  obtain ⟨hx,_,hv⟩:=pin_ren (gh:=gh) hf.mem hpo hp hid
  obtain ⟨h1,h2⟩:=ht.pin id hp hx
  exact ⟨h1,hv.trans h2⟩,ht.drawn,ht.K⟩
end Go.Vx
namespace Go.Vx
open Go Go.RowKit
set_option linter.unusedVariables false
set_option linter.unusedSimpArgs false
variable {R:Type}
/-! ### 16. Code -/
def exitOf:XE → Exit
 | .norm => .normal
 | .ret => .ret
 | .ex i => .exit i
 | .go l => .goto l
def JumpsTo (P:Program) (c:Code) (l:Nat) (Q:Exit → Act → World → Prop) (a:Act) (w:World):Prop:=
 ∃ rest,findLabel c l = some rest ∧ ∀ (b:Frame) (k:List Item) (cs:List Frame),∃ e a' w',Q e a' w' ∧ Arrives P (lone (b.at a (.code rest :: .inScope c :: k)) cs w) b k cs e a' w'
inductive Need where
 | at (c:Code)
 | jump (c:Code) (l:Nat)
def Need.wp (P:Program):Need → (Exit → Act → World → Prop) → Act → World → Prop
 | .at c,Q,a,w => c.wp P Q a w
 | .jump c l,Q,a,w => JumpsTo P c l Q a w
def CEOK (P:Program) (n:Nat) (code:Need) (e:CE):Prop:=
 ∀ p r,e.f p = some r → ∀ (C:Ctx) gh a w (Q:Exit → Act → World → Prop),C.Is P n → Sim C gh (embed e.sh p) a w →
  (∀ gh' a' w',Sim C gh' (emOuts e.outs r).2 a' w' → Q (exitOf (emOuts e.outs r).1) a' w') → code.wp P Q a w
def spine:Code → List Nat
 | .seq a b => spine a ++ spine b
 | .label l => [l]
 | _ => []
def jumps (L:List (Nat × CE)) (c:Code):List Nat → List (Need × CE)
 | [] => []
 | l :: ls => match lookC (goKey l) L with | some e => (.jump c l,e) :: jumps L c ls | none => jumps L c ls
def needs (L:List (Nat × CE)):Code → List (Need × CE)
 | .seq a b => needs L a ++ (match lookC (cutKey b) L with | some e => [(.at b,e)] | none => needs L b)
 | .cond _ a b => needs L a ++ needs L b
 | .block _ c => needs L c
 | .loop c => match lookC (loopKey c) L with | some e => [(.at (.loop c),e)] | none => []
 | .scope c => needs L c ++ jumps L c (spine c)
 | _ => []
def NeedsOK (cx:Cx) (c:Code):Prop:=∀ x ∈ needs cx.L c,CEOK cx.T cx.n x.1 x.2
theorem outsK_eq {K:XE → St → Option R}:∀ (os:List (XE × Shape)) (e:OutsD os),outsK os e K = K (emOuts os e).1 (emOuts os e).2
 | [],e => nomatch e
 | [o],p => rfl
 | o :: q :: os,.inl p => rfl
 | o :: q :: os,.inr p => outsK_eq (q :: os) p
theorem useCE_sound {P:Program} {n:Nat} {code:Need} {e:CE} (he:CEOK P n code e) {σ:St} {K:XE → St → Option R} {r:R} (h:useCE e σ K = some r) {C:Ctx} {gh:Gh} {a:Act} {w:World} {Q:Exit → Act → World → Prop} (hn:C.Is P n) (hs:Sim C gh σ a w)
  (hQ:∀ x τ,K x τ = some r → ∀ gh' a' w',Sim C gh' τ a' w' → Q (exitOf x) a' w'):code.wp P Q a w:=by
 unfold useCE at h
 cases h1:extract e.sh σ with
 | none => rw [h1] at h; cases h
 | some p =>
  rw [h1] at h
  simp only [Option.bind_some] at h
  cases h2:e.f p with
  | none => rw [h2] at h; cases h
  | some q =>
   rw [h2] at h
   simp only [Option.bind_some] at h
   rw [outsK_eq] at h
   obtain ⟨gh',hs'⟩:=sim_extract h1 hs
   exact he p q h2 C gh' a w Q hn hs' fun gh'' a' w' hs'' => hQ _ _ h gh'' a' w' hs''
theorem sim_drew {C:Ctx} {gh:Gh} {σ:St} {a:Act} {w:World} (h:Sim C gh σ a w):Sim C gh σ a { w with drawn:=w.drawn + 1 }:=by
 have hg:w.grownBy { w with drawn:=w.drawn + 1 } none:=⟨rfl,rfl,rfl,Nat.le_refl _,fun _ _ _ => rfl⟩
 refine ⟨h.defers,h.size,fun s => repV_mono (w:=w) (w':={ w with drawn:=w.drawn + 1 }) (fun _ h => h) (fun _ _ => rfl) (fun _ h => ⟨h,rfl⟩) (h.env s),⟨⟨fun id b hid => ?_,h.heap.inj,h.heap.sep,h.heap.st⟩,h.heap.gr⟩,?_⟩
 ·exact blkOK_keep (w:=w) (w':={ w with drawn:=w.drawn + 1 }) (row:=none) (fun _ h => h) (fun _ _ => rfl) (fun _ h => ⟨h,rfl⟩) hg (by rw [hid]; simp) (fun _ _ _ => by simp) (h.heap.blk id b hid)
 ·have ht:=h.tr
  exact ⟨ht.os,ht.tape,ht.output,ht.size,ht.same,ht.S,ht.scell,ht.newS,ht.ids,ht.pin,Nat.le_succ_of_le ht.drawn,ht.K⟩
theorem wp_drawn {P:Program} {id:Nat} {ops:Array Oper} {Q:Exit → Act → World → Prop} {a:Act} {w:World}
  (h:∀ md,(P.follows .mixedOrders = true → md = .any) → wpAny P md ops Q ops.size (Array.replicate ops.size false) a { w with drawn:=w.drawn + 1 }):(Code.region id ops true).wp P Q a w:=
 wp_region_draw fun t => by
  unfold Region.schedule
  split
  ·exact wpAny_sound ops.size t _ a _ (h _ fun _ => rfl)
  ·rename_i hc
   exact wpAny_sound ops.size (t / 2) _ a _ (h _ fun hf => absurd (by rw [hf]; rfl) hc)
theorem spine_mem:∀ {c rest:Code} {l:Nat},findLabel c l = some rest → l ∈ spine c:=by
 intro c
 induction c with
 | seq a b iha ihb =>
  intro rest l h
  simp only [findLabel] at h
  simp only [spine,List.mem_append]
  cases ha:findLabel a l with
  | some r => exact .inl (iha ha)
  | none => rw [ha] at h; exact .inr (ihb h)
 | label l' =>
  intro rest l h
  simp only [findLabel] at h
  split at h
  ·rename_i he
   have:l' = l:=by simpa using he
   simp [spine,this]
  ·cases h
 | _ => intro rest l h; cases h
theorem jumps_mem {L:List (Nat × CE)} {c:Code} {l:Nat} {e:CE} (he:lookC (goKey l) L = some e):∀ (ls:List Nat),l ∈ ls → (Need.jump c l,e) ∈ jumps L c ls
 | [],h => by cases h
 | x :: ls,h => by
  simp only [jumps]
  rcases List.mem_cons.1 h with rfl | h
  ·rw [he]; simp
  ·split
   ·exact List.mem_cons_of_mem _ (jumps_mem he ls h)
   ·exact jumps_mem he ls h
theorem wp_scope_to {P:Program} {c:Code} {Q:Exit → Act → World → Prop} {a:Act} {w:World} (h:c.wp P (fun e a w => match e with
  | .goto l => JumpsTo P c l Q a w ∨ (findLabel c l = none ∧ Q (.goto l) a w)
  | e => Q e a w) a w):(Code.scope c).wp P Q a w:=by
 intro b k cs
 obtain ⟨e,a₁,w₁,hq,harr⟩:=h b (.inScope c :: k) cs
 cases e with
 | normal => exact ⟨.normal,a₁,w₁,hq,.head step_scope (Steps.trans harr (.one step_inScope))⟩
 | exit id => exact ⟨.exit id,a₁,w₁,hq,fun k' hk => .head step_scope (harr k' (by simp [exitTo,hk]))⟩
 | goto l =>
  rcases hq with ⟨rest,hf,hj⟩ | ⟨hf,hq⟩
  ·have hg:gotoIn l (.inScope c :: k) = some (.code rest :: .inScope c :: k):=by simp [gotoIn,hf]
   obtain ⟨e₂,a₂,w₂,hq₂,harr₂⟩:=hj b k cs
   exact ⟨e₂,a₂,w₂,hq₂,.of_steps (.head step_scope (harr _ hg)) harr₂⟩
  ·exact ⟨.goto l,a₁,w₁,hq,fun k' hk => .head step_scope (harr k' (by simp [gotoIn,hf,hk]))⟩
 | ret => exact ⟨_,a₁,w₁,hq,.of_steps (.one step_scope) harr⟩
 | panic ch => exact ⟨_,a₁,w₁,hq,.of_steps (.one step_scope) harr⟩
 | outgrown => exact ⟨_,a₁,w₁,hq,.of_steps (.one step_scope) harr⟩
theorem run_sound {cx:Cx} (hst:StepSound R cx):∀ (c:Code) (σ:St) (K:XE → St → Option R) (r:R),NeedsOK cx c → run cx c σ K = some r → ∀ (C:Ctx) gh a w (Q:Exit → Act → World → Prop),C.Is cx.T cx.n → Sim C gh σ a w →
  (∀ x τ,K x τ = some r → ∀ gh' a' w',Sim C gh' τ a' w' → Q (exitOf x) a' w') → c.wp cx.T Q a w:=by
 intro c
 induction c with
 | skip => intro σ K r hnd h C gh a w Q hn hs hQ; exact Go.wp_skip (hQ _ _ h gh a w hs)
 | ret => intro σ K r hnd h C gh a w Q hn hs hQ; exact wp_ret (hQ _ _ h gh a w hs)
 | exit id => intro σ K r hnd h C gh a w Q hn hs hQ; exact wp_exit (hQ _ _ h gh a w hs)
 | region id ops draw =>
  intro σ K r hnd h C gh a w Q hn hs hQ
  have hot:ops.toList.toArray = ops:=by simp
  cases draw with
  | true =>
   simp only [run,cond_true] at h
   cases hd:!fwd (cx.T.follows .mixedOrders) 0 ops.toList with
   | true => rw [hd] at h; cases h
   | false =>
    rw [hd] at h
    simp only [cond_false] at h
    simp only [Bool.not_eq_false'] at hd
    obtain ⟨es,τ,h1,h2,h3⟩:=runOps_sound hst _ _ _ _ _ _ h
    simp only [List.nil_append] at h3
    cases hi:indep ops.toList [] (dones ops.toList es) with
    | false => rw [hi] at h3; cases h3
    | true =>
     rw [hi] at h3
     simp only [cond_true] at h3
     refine wp_drawn fun md hmd => ?_
     have:=wpAny_trace md (P:=cx.T) (Q:=Q) (C:=C) hn h1 hi (fun j o ho => fwd_get hmd hd ho) (fun gh' a' w' hs' => hQ _ _ h3 gh' a' w' (sim_same h2 hs')) ops.size (Array.replicate ops.size false) gh a { w with drawn:=w.drawn + 1 } (by simp) (by
      rw [Array.toList_replicate]
      exact Nat.le_trans List.countP_le_length (by simp)) (fun j o ho hb => by
       rw [Array.getD_eq_getD_getElem?,Array.getElem?_replicate] at hb
       split at hb <;> simp at hb) (by
      rw [stE_none _ _ _ _ _ (fun j => by
       rw [Array.getD_eq_getD_getElem?,Array.getElem?_replicate]
       split <;> rfl)]
      exact sim_drew hs)
     rw [hot] at this
     exact this
  | false =>
   simp only [run,cond_false] at h
   obtain ⟨es,τ,h1,h2,h3⟩:=runOps_sound hst _ _ _ _ _ _ h
   refine wp_region ?_
   have:=wpOps_trace (P:=cx.T) (ops:=ops) (Q:=Q) (C:=C) hn ops.toList 0 σ es (fun j o ho => by simpa using ho) (by rw [hot] at h1; exact h1) (fun gh' a' w' hs' => hQ _ _ h3 gh' a' w' (sim_same h2 hs')) gh a w hs
   rw [List.range_eq_range']
   simpa using this
 | seq x y ihx ihy =>
  intro σ K r hnd h C gh a w Q hn hs hQ
  refine wp_seq ?_
  refine ihx σ _ r (fun z hz => hnd z (by simp only [needs,List.mem_append]; exact .inl hz)) h C gh a w _ hn hs fun xe τ hK gh' a' w' hs' => ?_
  cases xe with
  | norm =>
   simp only at hK
   show y.wp cx.T Q a' w'
   split at hK
   ·rename_i e he
    exact useCE_sound (code:=.at y) (hnd (.at y,e) (by simp [needs,he])) hK hn hs' hQ
   ·rename_i he
    exact ihy τ K r (fun z hz => hnd z (by simp only [needs,he,List.mem_append]; exact .inr hz)) hK C gh' a' w' Q hn hs' hQ
  | ret => exact hQ _ _ hK gh' a' w' hs'
  | ex i => exact hQ _ _ hK gh' a' w' hs'
  | go l => exact hQ _ _ hK gh' a' w' hs'
 | cond c x y ihx ihy =>
  intro σ K r hnd h C gh a w Q hn hs hQ
  simp only [run] at h
  split at h
  ·rename_i q hc
   have hv:a.eval c = .bool q:=by
    have:=repV_ev hs c
    rw [hc] at this
    exact this
   cases q with
   | true =>
    simp only [cond_true] at h
    exact wp_cond_true hv (ihx σ K r (fun z hz => hnd z (by simp only [needs,List.mem_append]; exact .inl hz)) h C gh a w Q hn hs hQ)
   | false =>
    simp only [cond_false] at h
    exact wp_cond_false hv (ihy σ K r (fun z hz => hnd z (by simp only [needs,List.mem_append]; exact .inr hz)) h C gh a w Q hn hs hQ)
  ·rename_i e0 r0 hc
   have hv:∃ q,a.eval c = .bool q ∧ (e0 = false → q = r0):=by
    have:=repV_ev hs c
    rw [hc] at this
    exact this
   obtain ⟨q,hv,hqr⟩:=hv
   cases e0 with
   | true =>
    simp only [cond_true] at h
    unfold both at h
    split at h
    ·rename_i he
     cases q with
     | true => exact wp_cond_true hv (ihx σ K r (fun z hz => hnd z (by simp only [needs,List.mem_append]; exact .inl hz)) h C gh a w Q hn hs hQ)
     | false => exact wp_cond_false hv (ihy σ K r (fun z hz => hnd z (by simp only [needs,List.mem_append]; exact .inr hz)) (he ▸ h) C gh a w Q hn hs hQ)
    ·cases h
   | false =>
    simp only [cond_false] at h
    have hq:=hqr rfl
    subst hq
    cases q with
    | true => exact wp_cond_true hv (ihx σ K r (fun z hz => hnd z (by simp only [needs,List.mem_append]; exact .inl hz)) h C gh a w Q hn hs hQ)
    | false => exact wp_cond_false hv (ihy σ K r (fun z hz => hnd z (by simp only [needs,List.mem_append]; exact .inr hz)) h C gh a w Q hn hs hQ)
  ·cases h
 | block id c ih =>
  intro σ K r hnd h C gh a w Q hn hs hQ
  refine wp_block ?_
  refine ih σ _ r hnd h C gh a w _ hn hs fun xe τ hK gh' a' w' hs' => ?_
  cases xe with
  | norm => exact hQ _ _ hK gh' a' w' hs'
  | ret => exact hQ _ _ hK gh' a' w' hs'
  | go l => exact hQ _ _ hK gh' a' w' hs'
  | ex i =>
   simp only at hK
   show (if i = id then Q .normal a' w' else Q (.exit i) a' w')
   cases hb:Nat.beq i id with
   | true =>
    rw [hb] at hK
    rw [if_pos (beq_true.1 hb)]
    exact hQ _ _ hK gh' a' w' hs'
   | false =>
    rw [hb] at hK
    rw [if_neg (fun h => by rw [h] at hb; simp at hb)]
    exact hQ _ _ hK gh' a' w' hs'
 | loop c ih =>
  intro σ K r hnd h C gh a w Q hn hs hQ
  simp only [run] at h
  split at h
  ·rename_i e he
   exact useCE_sound (code:=.at (.loop c)) (hnd (.at (.loop c),e) (by simp [needs,he])) h hn hs hQ
  ·cases h
 | label l => intro σ K r hnd h C gh a w Q hn hs hQ; exact wp_label (hQ _ _ h gh a w hs)
 | goto l => intro σ K r hnd h C gh a w Q hn hs hQ; exact wp_goto (hQ _ _ h gh a w hs)
 | scope c ih =>
  intro σ K r hnd h C gh a w Q hn hs hQ
  refine wp_scope_to ?_
  refine ih σ _ r (fun z hz => hnd z (by simp only [needs,List.mem_append]; exact .inl hz)) h C gh a w _ hn hs fun xe τ hK gh' a' w' hs' => ?_
  cases xe with
  | norm => exact hQ _ _ hK gh' a' w' hs'
  | ret => exact hQ _ _ hK gh' a' w' hs'
  | ex i => exact hQ _ _ hK gh' a' w' hs'
  | go l =>
   simp only at hK
   split at hK
   ·rename_i rest e hf he
    exact .inl (useCE_sound (code:=.jump c l) (hnd (.jump c l,e) (by simp only [needs,List.mem_append]; exact .inr (jumps_mem he _ (spine_mem hf)))) hK hn hs' hQ)
   ·cases hK
   ·rename_i hf
    exact .inr ⟨hf,hQ _ _ hK gh' a' w' hs'⟩
 | _ => intro σ K r hnd h; cases h

/-! ### 17. Loops, pieces -/
theorem loop_iter {P E:Type} {B:P → Option (P ⊕ E)} {p:P} {e:E} (h:loop B p = some e):∃ n,iter B n p = some e:=by
 unfold loop at h
 cases h5:iter B 5000 p with
 | some x =>
  rw [h5] at h
  exact ⟨5000,by rw [h5]; exact h⟩
 | none =>
 rw [h5] at h
 simp only [Option.elim_none] at h
 split at h
 ·rename_i hx
  exact ⟨_,h⟩
 ·cases h
theorem iter_mono {P E:Type} {B:P → Option (P ⊕ E)}:∀ {n:Nat} {p:P} {e:E},iter B n p = some e → ∀ m,n ≤ m → iter B m p = some e
 | 0,p,e,h,m,hm => by cases h
 | n + 1,p,e,h,0,hm => by omega
 | n + 1,p,e,h,m + 1,hm => by
  simp only [iter] at h ⊢
  cases hb:B p with
  | none => rw [hb] at h; cases h
  | some r =>
   rw [hb] at h
   simp only [Option.bind_some] at h ⊢
   cases r with
   | inl q => exact iter_mono (n:=n) h m (by omega)
   | inr x => exact h
theorem loop_of_iter {P E:Type} {B:P → Option (P ⊕ E)} {p:P} {e:E} {n:Nat} (h:iter B n p = some e):loop B p = some e:=by
 have hx:∃ n,(iter B n p).isSome:=⟨n,by rw [h]; rfl⟩
 unfold loop
 cases h5:iter B 5000 p with
 | some x =>
  have h1:=iter_mono h5 (max n 5000) (by omega)
  have h2:=iter_mono h (max n 5000) (by omega)
  rw [h1] at h2
  exact h2
 | none =>
 rw [Option.elim_none,dif_pos hx]
 have hc:=hx.choose_spec
 cases hi:iter B hx.choose p with
 | none => rw [hi] at hc; cases hc
 | some x =>
  have h1:=iter_mono hi (max n hx.choose) (by omega)
  have h2:=iter_mono h (max n hx.choose) (by omega)
  rw [h1] at h2
  exact h2
theorem xe_eq {a b:XE} (h:a.eq b = true):a = b:=by
 cases a <;> cases b <;> simp [XE.eq] at h ⊢ <;> exact h
theorem exOuts_ok {C:Ctx} {gh:Gh} {σ:St} {a:Act} {w:World} (hs:Sim C gh σ a w):∀ {os:List (XE × Shape)} {x:XE} {e:OutsD os},exOuts os x σ = some e → (emOuts os e).1 = x ∧ ∃ gh',Sim C gh' (emOuts os e).2 a w
 | [],x,e,h => by cases h
 | [o],x,e,h => by
  simp only [exOuts] at h
  cases hb:o.1.eq x with
  | false => rw [hb] at h; cases h
  | true =>
   rw [hb] at h
   exact ⟨xe_eq hb,sim_extract h hs⟩
 | o :: q :: os,x,e,h => by
  simp only [exOuts] at h
  cases hb:o.1.eq x with
  | true =>
   rw [hb] at h
   simp only [cond_true] at h
   cases h1:extract o.2 σ with
   | none => rw [h1] at h; cases h
   | some y =>
    rw [h1] at h
    simp at h
    subst h
    exact ⟨xe_eq hb,sim_extract h1 hs⟩
  | false =>
   rw [hb] at h
   simp only [cond_false] at h
   cases h1:exOuts (q :: os) x σ with
   | none => rw [h1] at h; cases h
   | some y =>
    rw [h1] at h
    simp at h
    subst h
    show (emOuts (q :: os) y).1 = x ∧ ∃ gh',Sim C gh' (emOuts (q :: os) y).2 a w
    exact exOuts_ok hs h1
theorem round_ok {cx:Cx} (hst:∀ R:Type,StepSound R cx) {c:Code} (hnd:NeedsOK cx c) (sh:Shape) (outs:List (XE × Shape)):CEOK cx.T cx.n (.at (.loop c)) ⟨sh,outs,loop (round cx c sh outs)⟩:=by
 intro p r h C gh a w Q hn hs hQ
 obtain ⟨n,hi⟩:=loop_iter h
 refine wp_loop_rounds n ?_
 clear h
 induction n generalizing p gh a w with
 | zero => cases hi
 | succ n ih =>
  simp only [iter] at hi
  cases hb:round cx c sh outs p with
  | none => rw [hb] at hi; cases hi
  | some x =>
   rw [hb] at hi
   simp only [Option.bind_some] at hi
   rw [rounds_succ]
   refine run_sound (hst _) c _ _ x hnd hb C gh a w _ hn hs fun xe τ hK gh' a' w' hs' => ?_
   cases xe with
   | norm =>
    simp only at hK
    cases h1:extract sh τ with
    | none => rw [h1] at hK; cases hK
    | some q =>
     rw [h1] at hK
     simp at hK
     subst hK
     obtain ⟨gh'',hs''⟩:=sim_extract h1 hs'
     exact ih q gh'' a' w' hs'' hi
   | _ =>
    simp only at hK
    cases h1:exOuts outs _ τ with
    | none => rw [h1] at hK; cases hK
    | some q =>
     rw [h1] at hK
     simp at hK
     subst hK
     simp at hi
     subst hi
     obtain ⟨e1,gh'',hs''⟩:=exOuts_ok hs' h1
     have:=hQ gh'' a' w' hs''
     simp only at this
     rw [e1] at this
     exact this
end Go.Vx
namespace Go.Vx
open Go Go.RowKit
set_option linter.unusedVariables false
set_option linter.unusedSimpArgs false
variable {R:Type}
/-! ### 18. What a function does -/
def Does (P:Program) (f:FuncId) (args:Array Value) (w:World) (Rt:Value → World → Prop):Prop:=
 (∃ v w',(callFunc f args).run P w = .ok (.value v) w' ∧ Rt v w') ∨
 ((callFunc f args).run P w = .ok (.enter f args) w ∧ Calls P f args w fun e w' => ∃ v,e = .returned v ∧ Rt v w')
def RepRes (gh:Gh) (m:Mem) (w:World):List A1 → Value → Prop
 | [a],v => Rep1 gh m w a v
 | l,v => ∃ vs,v = .tuple vs ∧ All2 (Rep1 gh m w) l vs.toList
def Ret (out:Shape) (r:out.D) (gh:Gh) (m:Mem) (w:World) (v:Value) (w':World):Prop:=
 ∃ gh',HeapOK gh' (embed out r).blk w' ∧ Tr gh m w gh' (embed out r).blk w' ∧ RepRes gh' (embed out r).blk w' (outA1s (embed out r).env) v
def FEOK (P:Program) (e:FE):Prop:=
 ∀ p r,e.F p = some r → ∀ gh w (args:Array Value),args.size = e.sh.env.length → HeapOK gh (embed e.sh p).blk w →
  (∀ i,RepV gh (embed e.sh p).blk w ((embed e.sh p).get i) (args.getD i undef)) → Ground P gh.K → Does P e.f args w (Ret e.out r gh (embed e.sh p).blk w)

/-! ### 19. Renaming what comes back -/
section
variable {g:Nat → Nat} {gh gh2:Gh} {m m2:Mem} {w:World}
theorem back_cap (hm:∀ i,m i ≠ none → m2 (g i) ≠ none ∧ gh2.val (g i) = gh.val i) {a:Option (Nat × Nat)} {v:Value} (h:RepCap gh m a v):RepCap gh2 m2 (a.map fun p => (g p.1,p.2)) v:=by
 cases a with
 | none => exact h
 | some p => obtain ⟨h1,b,h2,h3⟩:=h; exact ⟨(hm p.1 h1).1,b,by rw [show gh2.val (g p.1) = gh.val p.1 from (hm p.1 h1).2]; exact h2,h3⟩
theorem back_rep (hS:gh2.S = gh.S) (hm:∀ i,m i ≠ none → m2 (g i) ≠ none ∧ gh2.val (g i) = gh.val i) {a:AC} {v:Value} (h:RepC gh m w a v):RepC gh2 m2 w (backAC g a) v:=by
 cases a with
 | junk => trivial
 | c t x => have:RepD gh.S w t x v:=h; show RepD gh2.S w t x v; rw [hS]; exact this
 | nilS => exact h
 | nilP => exact h
 | own i => exact ⟨(hm i h.1).1,by rw [(hm i h.1).2]; exact h.2.1,h.2.2⟩
 | ptr i off => obtain ⟨h1,b,h2,h3⟩:=h; exact ⟨(hm i h1).1,b,by rw [(hm i h1).2]; exact h2,h3⟩
 | el r x off => obtain ⟨ad,h1,h2⟩:=h; exact ⟨ad,h1,by rw [hS]; exact h2⟩
 | eo i j wd off => obtain ⟨h1,b,n,c,h2,h3⟩:=h; exact ⟨(hm i h1).1,b,n,c,by rw [(hm i h1).2]; exact h2,h3⟩
 | fn f => exact h
 | clo f cs => obtain ⟨vs,h1,h2⟩:=h; exact ⟨vs,h1,All2.map_left (fun a b hc => back_cap hm hc) h2⟩
 | mp i => exact ⟨(hm i h.1).1,by rw [(hm i h.1).2]; exact h.2.1,h.2.2⟩
 | os i lo hi wd => obtain ⟨h1,h2,a0,n,c0,a,c,h3,h4⟩:=h; exact ⟨(hm i h1).1,h2,a0,n,c0,a,c,by rw [(hm i h1).2]; exact h3,h4⟩
 | pn i off b => exact h.imp (fun h => h) fun ⟨h0,h1,g,h2,h3⟩ => ⟨h0,(hm _ h1).1,g,by rw [(hm _ h1).2]; exact h2,h3⟩
 | dp i => obtain ⟨h1,p,h2,h3⟩:=h; exact ⟨(hm i h1).1,p,h2,by rw [(hm i h1).2]; exact h3⟩
 | bs i n => obtain ⟨h1,b,h2,h3⟩:=h; exact ⟨(hm i h1).1,b,by rw [(hm i h1).2]; exact h2,h3⟩
 | raw u => exact h
 | un => exact h
 | q => exact h
theorem all2_map {α β γ:Type} {R:α → β → Prop} {R':γ → β → Prop} {f:α → γ} (h:∀ a b,R a b → R' (f a) b) {l:List α} {k:List β} (hl:All2 R l k):All2 R' (l.map f) k:=All2.map_left h hl
theorem back_rep1 (hS:gh2.S = gh.S) (hm:∀ i,m i ≠ none → m2 (g i) ≠ none ∧ gh2.val (g i) = gh.val i) {a:A1} {v:Value} (h:Rep1 gh m w a v):Rep1 gh2 m2 w (backA1 g a) v:=by
 cases a with
 | one a => exact back_rep hS hm h
 | row l => obtain ⟨vs,h1,h2⟩:=h; exact ⟨vs,h1,all2_map (fun a b h => back_rep hS hm h) h2⟩
theorem back_blk (hS:gh2.S = gh.S) (hm:∀ i,m i ≠ none → m2 (g i) ≠ none ∧ gh2.val (g i) = gh.val i) {i:Nat} {b:Blk} (hi:m i = some b) (h:BlkOK gh m w i b):BlkOK gh2 m2 w (g i) (backBlk g b):=by
 have hv:=(hm i (by rw [hi]; simp)).2
 cases b with
 | dead => trivial
 | box tid l =>
  obtain ⟨k,vals,h1,h2,h3⟩:=h
  exact ⟨k,vals,by rw [hv]; exact h1,h2,all2_map (fun a b h => back_rep hS hm h) h3⟩
 | lst e r xs fz =>
  obtain ⟨vs,h1,h2,h3,h4⟩:=h
  refine ⟨vs,by rw [hv]; exact h1,rows_any (gh:=gh) (gh':=gh2) hS h2,h3,fun hf k hk j hj => ?_⟩
  rw [hS]
  refine h4 hf k ?_ j hj
  unfold Gh.blk at hk ⊢
  rw [hv] at hk
  exact hk
 | mp kr es =>
  obtain ⟨h0,k,ents,clock,h1,h2,h3⟩:=h
  refine ⟨h0,k,ents,clock,by rw [hv]; exact h1,h2,All2.mono (fun e n hn => ?_) h3⟩
  obtain ⟨⟨vs,f1,f2⟩,f3⟩:=hn
  refine ⟨⟨vs,f1,all2_of_mem (fun a ha v hv => ?_) f2⟩,f3⟩
  obtain ⟨t,y,rfl⟩:=cellsOf_c ha
  have:RepD gh.S w t y v:=hv
  show RepD gh2.S w t y v
  rw [hS]
  exact this
 | byt e xs =>
  obtain ⟨k,c,cur,fz,h1,h2⟩:=h
  exact ⟨k,c,cur,fz,by rw [hv]; exact h1,h2⟩
 | it s pos =>
  obtain ⟨k,h1,h2⟩:=h
  exact ⟨k,by rw [hv]; exact h1,h2⟩
end
def invId (g:Nat → Nat) (j:Nat):List (Nat × Blk) → Option Nat
 | [] => none
 | e :: l => bif Nat.beq (g e.1) j then some e.1 else invId g j l
theorem inv_some {g:Nat → Nat} {j:Nat}:∀ {l:List (Nat × Blk)} {i:Nat},invId g j l = some i → g i = j ∧ ∃ b,lookM i l = some b ∧ lookM j (l.map fun b => (g b.1,backBlk g b.2)) = some (backBlk g b)
 | [],i,h => by cases h
 | e :: l,i,h => by
  simp only [invId] at h
  cases hk:Nat.beq (g e.1) j with
  | true =>
   rw [hk] at h
   simp at h
   subst h
   exact ⟨beq_true.1 hk,e.2,by simp [lookM],by simp [lookM,hk]⟩
  | false =>
   rw [hk] at h
   obtain ⟨h1,b,h2,h3⟩:=inv_some (l:=l) h
   refine ⟨h1,b,?_,by simp only [List.map_cons,lookM,hk,cond_false]; exact h3⟩
   simp only [lookM]
   have:Nat.beq e.1 i = false:=beq_ne fun e' => by rw [e',h1] at hk; simp at hk
   rw [this]
   exact h2
theorem inv_none {g:Nat → Nat} {j:Nat}:∀ {l:List (Nat × Blk)},invId g j l = none → lookM j (l.map fun b => (g b.1,backBlk g b.2)) = none ∧ ∀ i,lookM i l ≠ none → g i ≠ j
 | [],h => ⟨rfl,fun i hi => absurd rfl hi⟩
 | e :: l,h => by
  simp only [invId] at h
  cases hk:Nat.beq (g e.1) j with
  | true => rw [hk] at h; cases h
  | false =>
   rw [hk] at h
   obtain ⟨h1,h2⟩:=inv_none (l:=l) h
   refine ⟨by simp only [List.map_cons,lookM,hk,cond_false]; exact h1,fun i hi => ?_⟩
   simp only [lookM] at hi
   cases hb:Nat.beq e.1 i with
   | true => rw [← beq_true.1 hb]; intro e'; rw [e'] at hk; simp at hk
   | false => rw [hb] at hi; exact h2 i hi

theorem live_back {g:Nat → Nat} {b:Blk}:(backBlk g b).live = b.live:=by cases b <;> rfl
theorem sep_back {g:Nat → Nat} {b:Blk} {x:Addr} (h:SepOK x b):SepOK x (backBlk g b):=by
 cases b <;> exact h
theorem rowR_same {w w':World} {e:TypeId} {size n:Nat} {v:Value} {vs:List Value} (h:w.rowR 0 e size v n vs) (hs:∀ k,v.ownBlock = some k → w'.heap[k]? = w.heap[k]?):w'.rowR 0 e size v n vs:=by
 refine ⟨h.1,h.2.imp id ?_⟩
 rintro ⟨g,cap,cur,rfl,h2,h3,h4,h5,h6,h7⟩
 exact ⟨g,cap,cur,rfl,h2,by rw [hs g rfl]; exact h3,h4,h5,h6,h7⟩
theorem blkOK_same {gh gh':Gh} {m m':Mem} {w w':World} (hS:∀ x,gh.S x → gh'.S x) (hc:∀ x,gh.S x → w'.cell? x = w.cell? x)
  (hv:∀ id,m id ≠ none → m' id ≠ none ∧ gh'.val id = gh.val id) {id:Nat} {b:Blk} (hid:m id ≠ none)
  (hne:b.live = true → ∀ k,gh.blk id = some k → w'.heap[k]? = w.heap[k]?) (h:BlkOK gh m w id b):BlkOK gh' m' w' id b:=by
 have hval:=(hv id hid).2
 have hblk:gh'.blk id = gh.blk id:=by simp [Gh.blk,hval]
 cases b with
 | dead => trivial
 | box tid l =>
  obtain ⟨g,vals,h1,h2,h3⟩:=h
  have hk:gh.blk id = some g:=by simp [Gh.blk,h1,blockOfV]
  exact ⟨g,vals,by rw [hval]; exact h1,by rw [hne rfl g hk]; exact h2,repCs_mono hS hc hv h3⟩
 | lst e r xs fz =>
  obtain ⟨vs,h1,h2,h3,h4⟩:=h
  refine ⟨vs,?_,repCs_mono hS hc hv h2,h3,fun hf g hgk j hj => hS _ (h4 hf g (by rw [← hblk]; exact hgk) j hj)⟩
  rw [hval]
  refine rowR_same h1 fun k hk => hne rfl k ?_
  rw [Gh.blk,own_blockOf h1]
  exact hk
 | mp kr es =>
  obtain ⟨h0,g,ents,clock,h1,h2,h3⟩:=h
  have hk:gh.blk id = some g:=by simp [Gh.blk,h1,blockOfV]
  refine ⟨h0,g,ents,clock,by rw [hval]; exact h1,by rw [hne rfl g hk]; exact h2,All2.mono (fun e n hn => ?_) h3⟩
  obtain ⟨⟨vs,e1,e2⟩,e3⟩:=hn
  exact ⟨⟨vs,e1,repCs_mono hS hc hv e2⟩,e3⟩
 | byt e xs =>
  obtain ⟨g,c,cur,fz,h1,h2,h3⟩:=h
  have hk:gh.blk id = some g:=by simp [Gh.blk,h1,blockOfV]
  exact ⟨g,c,cur,fz,by rw [hval]; exact h1,by rw [hne rfl g hk]; exact h2,h3⟩
 | it s pos =>
  obtain ⟨g,h1,h2⟩:=h
  have hk:gh.blk id = some g:=by simp [Gh.blk,h1,blockOfV]
  exact ⟨g,by rw [hval]; exact h1,by rw [hne rfl g hk]; exact h2⟩
theorem heap_call4 {gh gh1:Gh} {mc:List (Nat × Blk)} {w w':World} {ρ:Ren} {ms:Mem} {ml:List (Nat × Blk)} {g:Nat → Nat} (H:HeapOK gh (fun i => lookM i mc) w)
  (hinj:Inj ρ) (hfit:∀ i b,ms i = some b → BRel ρ mc i b) (hall:∀ i b,ms i = some b → b.live = true → lookM i ml ≠ none)
  (H1:HeapOK gh1 (fun i => lookM i ml) w') (T1:Tr (renGh gh ρ) ms w gh1 (fun i => lookM i ml) w')
  (hg:∀ i,lookM i ml ≠ none → (∃ j c,lookR i ρ = some (some j) ∧ lookM j mc = some c ∧ g i = j ∧ gh1.val i = gh.val j) ∨ (lookM (g i) mc = none ∧ pin (g i) = false))
  (hgl:∀ i,ms i ≠ none → ∀ j,lookR i ρ = some (some j) → g i = j)
  (hnew:∀ i i',lookM i ml ≠ none → lookM i' ml ≠ none → lookM (g i) mc = none → g i = g i' → i = i') :
  ∃ gh2:Gh,HeapOK4 gh2 (fun j => lookM j ((ml.map fun b => (g b.1,backBlk g b.2)) ++ mc)) w' ∧ Tr gh (fun i => lookM i mc) w gh2 (fun j => lookM j ((ml.map fun b => (g b.1,backBlk g b.2)) ++ mc)) w' ∧
   (∀ id,lookM id mc ≠ none → lookM id ((ml.map fun b => (g b.1,backBlk g b.2)) ++ mc) ≠ none ∧ gh2.val id = gh.val id) ∧ gh2.S = gh1.S ∧
   (∀ i,lookM i ml ≠ none → lookM (g i) ((ml.map fun b => (g b.1,backBlk g b.2)) ++ mc) ≠ none ∧ gh2.val (g i) = gh1.val i):=by
 have gi:∀ i i',lookM i ml ≠ none → lookM i' ml ≠ none → g i = g i' → i = i':=by
  intro i i' h h' he
  rcases hg i h with ⟨j,c,a1,a2,a3,_⟩ | ⟨a1,_⟩
  ·rcases hg i' h' with ⟨j',c',b1,b2,b3,_⟩ | ⟨b1,_⟩
   ·have:j = j':=by rw [← a3,← b3]; exact he
    subst this
    exact hinj _ _ _ a1 b1
   ·rw [← he,a3,a2] at b1; cases b1
  ·exact hnew i i' h h' a1 he
 -- names
 have hin:∀ j i,invId g j ml = some i → lookM i ml ≠ none ∧ g i = j ∧ ∃ b,lookM i ml = some b ∧ lookM j ((ml.map fun b => (g b.1,backBlk g b.2)) ++ mc) = some (backBlk g b):=by
  intro j i h
  obtain ⟨h1,b,h2,h3⟩:=inv_some h
  exact ⟨by rw [h2]; simp,h1,b,h2,by rw [lookM_append,h3]; rfl⟩
 have hout:∀ j,invId g j ml = none → lookM j ((ml.map fun b => (g b.1,backBlk g b.2)) ++ mc) = lookM j mc ∧ ∀ i,lookM i ml ≠ none → g i ≠ j:=by
  intro j h
  obtain ⟨h1,h2⟩:=inv_none h
  exact ⟨by rw [lookM_append,h1]; rfl,h2⟩
 have hinv:∀ i,lookM i ml ≠ none → invId g (g i) ml = some i:=by
  intro i h
  cases hi:invId g (g i) ml with
  | none => exact absurd rfl ((hout _ hi).2 i h)
  | some i' =>
   obtain ⟨h1,h2,_⟩:=hin _ _ hi
   rw [gi i' i h1 h h2]
 let gh2:Gh:=⟨fun j => match invId g j ml with | some i => gh1.val i | none => gh.val j,gh1.S,gh1.K⟩
 have v_in:∀ j i,invId g j ml = some i → gh2.val j = gh1.val i:=fun j i h => by simp [gh2,h]
 have v_out:∀ j,invId g j ml = none → gh2.val j = gh.val j:=fun j h => by simp [gh2,h]
 have b_in:∀ j i,invId g j ml = some i → gh2.blk j = gh1.blk i:=fun j i h => by simp [Gh.blk,v_in j i h]
 have b_out:∀ j,invId g j ml = none → gh2.blk j = gh.blk j:=fun j h => by simp [Gh.blk,v_out j h]
 have hm:∀ i,lookM i ml ≠ none → lookM (g i) ((ml.map fun b => (g b.1,backBlk g b.2)) ++ mc) ≠ none ∧ gh2.val (g i) = gh1.val i:=by
  intro i h
  have h1:=hinv i h
  obtain ⟨_,_,b,_,h2⟩:=hin _ _ h1
  exact ⟨by rw [h2]; simp,v_in _ _ h1⟩
 have hext:∀ id,lookM id mc ≠ none → lookM id ((ml.map fun b => (g b.1,backBlk g b.2)) ++ mc) ≠ none ∧ gh2.val id = gh.val id:=by
  intro id h
  cases hi:invId g id ml with
  | none =>
   obtain ⟨h1,_⟩:=hout id hi
   exact ⟨by rw [h1]; exact h,v_out id hi⟩
  | some i =>
   obtain ⟨h1,h2,b,_,h3⟩:=hin id i hi
   refine ⟨by rw [h3]; simp,?_⟩
   rw [v_in id i hi]
   rcases hg i h1 with ⟨j,c,a1,a2,a3,a4⟩ | ⟨a1,_⟩
   ·rw [a4,← a3,h2]
   ·rw [h2] at a1; exact absurd a1 h
 -- lent
 have hlent:∀ i b,ms i = some b → b.live = true → ∀ k,(renGh gh ρ).blk i = some k → ∃ j c,lookR i ρ = some (some j) ∧ lookM j mc = some c ∧ c.live = true ∧ gh.blk j = some k:=fun i b hib hl k hk => live_ren hfit hib hl hk
 have hlent_in:∀ i b,ms i = some b → b.live = true → ∀ j,lookR i ρ = some (some j) → lookM j mc ≠ none → invId g j ml = some i:=by
  intro i b hib hl j hj hjm
  have h1:=hall i b hib hl
  rw [← hgl i (by rw [hib]; simp) j hj]
  exact hinv i h1
 have T_same:∀ k,k < w.heap.size → (∀ i b,ms i = some b → b.live = true → (renGh gh ρ).blk i ≠ some k) → w'.heap[k]? = w.heap[k]?:=T1.same
 -- an old block that was not lent
 have hold:∀ j b,lookM j mc = some b → b.live = true → invId g j ml = none → ∀ k,gh.blk j = some k → w'.heap[k]? = w.heap[k]? ∧ ∀ i c,ms i = some c → c.live = true → (renGh gh ρ).blk i ≠ some k:=by
  intro j b hj hl hi k hk
  have hno:∀ i c,ms i = some c → c.live = true → (renGh gh ρ).blk i ≠ some k:=by
   intro i c hic hcl he
   obtain ⟨j',c',h1,h2,h3,h4⟩:=hlent i c hic hcl k he
   have h5:=hlent_in i c hic hcl j' h1 (by rw [h2]; simp)
   have hne:j' ≠ j:=fun e => by rw [e,hi] at h5; cases h5
   exact H.inj j' j c' b h2 hj h3 hl hne k h4 hk
  exact ⟨T_same k (H.live_lt hj hl hk) fun i c hic hl => hno i c hic hl,hno⟩
 have hlive_old:∀ k,(∃ i b,ms i = some b ∧ b.live = true ∧ (renGh gh ρ).blk i = some k) → ∃ j c,lookM j mc = some c ∧ c.live = true ∧ gh.blk j = some k:=by
  rintro k ⟨i,b,h1,hl,h3⟩
  obtain ⟨j,c,_,h5,h6,h7⟩:=hlent i b h1 hl k h3
  exact ⟨j,c,h5,h6,h7⟩
 have hS:∀ x,gh.S x → gh2.S x:=T1.S
 have hc:∀ x,gh.S x → w'.cell? x = w.cell? x:=T1.scell
 -- which block of which side
 have hside:∀ j b,lookM j ((ml.map fun b => (g b.1,backBlk g b.2)) ++ mc) = some b → (∃ i b0,invId g j ml = some i ∧ lookM i ml = some b0 ∧ g i = j ∧ b = backBlk g b0) ∨ (invId g j ml = none ∧ lookM j mc = some b):=by
  intro j b hj
  cases hi:invId g j ml with
  | none => exact .inr ⟨rfl,by rw [← (hout j hi).1]; exact hj⟩
  | some i =>
   obtain ⟨_,h2,b0,h3,h4⟩:=hin j i hi
   rw [h4] at hj
   injection hj with hj
   exact .inl ⟨i,b0,rfl,h3,h2,hj.symm⟩
 refine ⟨gh2,⟨?_,?_,?_,H1.st⟩,⟨T1.os,T1.tape,T1.output,T1.size,?_,hS,hc,?_,?_,?_,T1.drawn,T1.K⟩,hext,rfl,hm⟩
 ·intro j b hj
  rcases hside j b hj with ⟨i,b0,h1,h2,h3,rfl⟩ | ⟨h1,h2⟩
  ·rw [← h3]
   exact back_blk (g:=g) (gh:=gh1) (gh2:=gh2) (m:=fun i => lookM i ml) (m2:=fun j => lookM j ((ml.map fun b => (g b.1,backBlk g b.2)) ++ mc)) rfl hm h2 (H1.blk i b0 h2)
  ·exact blkOK_same (gh:=gh) (m:=fun i => lookM i mc) hS hc hext (by rw [h2]; simp) (fun hl k hk => (hold j b h2 hl h1 k hk).1) (H.blk j b h2)
 ·intro j j' b c hj hj' hl hl' hne k hk
  rcases hside j b hj with ⟨i,b0,h1,h2,h3,rfl⟩ | ⟨h1,h2⟩
  ·rw [b_in j i h1] at hk
   rw [live_back] at hl
   rcases hside j' c hj' with ⟨i',c0,g1,g2,g3,rfl⟩ | ⟨g1,g2⟩
   ·rw [b_in j' i' g1]
    rw [live_back] at hl'
    exact H1.inj i i' b0 c0 h2 g2 hl hl' (fun e => hne (by rw [← h3,← g3,e])) k hk
   ·rw [b_out j' g1]
    intro hk'
    rcases T1.ids i b0 h2 hl k hk with h4 | h4
    ·have:k < w.heap.size:=H.live_lt g2 hl' hk'
     have h4':w.heap.size ≤ k:=h4
     omega
    ·obtain ⟨i'',b'',h5,h6,h7⟩:=h4
     exact (hold j' c g2 hl' g1 k hk').2 i'' b'' h5 h6 h7
  ·rw [b_out j h1] at hk
   rcases hside j' c hj' with ⟨i',c0,g1,g2,g3,rfl⟩ | ⟨g1,g2⟩
   ·rw [b_in j' i' g1]
    rw [live_back] at hl'
    intro hk'
    rcases T1.ids i' c0 g2 hl' k hk' with h4 | h4
    ·have:k < w.heap.size:=H.live_lt h2 hl hk
     have h4':w.heap.size ≤ k:=h4
     omega
    ·obtain ⟨i'',b'',h5,h6,h7⟩:=h4
     exact (hold j b h2 hl h1 k hk).2 i'' b'' h5 h6 h7
   ·rw [b_out j' g1]
    exact H.inj j j' b c h2 g2 hl hl' hne k hk
 ·intro x hx j b hj hk
  rcases hside j b hj with ⟨i,b0,h1,h2,h3,rfl⟩ | ⟨h1,h2⟩
  ·rw [b_in j i h1] at hk
   exact sep_back (H1.sep x hx i b0 h2 hk)
  ·rw [b_out j h1] at hk
   rcases T1.newS x hx with h3 | h3 | ⟨i,c,h3,h4,h5⟩
   ·exact H.sep x h3 j b h2 hk
   ·cases hl:b.live with
    | false => cases b with
     | dead => trivial
     | box tid l => cases hl
     | lst e r xs fz => cases hl
     | mp kr es => cases hl
     | byt e xs => cases hl
     | it s pos => cases hl
    | true =>
     have h6:x.block < w.heap.size:=H.live_lt h2 hl hk
     have h3':w.heap.size ≤ x.block:=h3
     omega
   ·cases hl:b.live with
    | false => cases b with
     | dead => trivial
     | box tid l => cases hl
     | lst e r xs fz => cases hl
     | mp kr es => cases hl
     | byt e xs => cases hl
     | it s pos => cases hl
    | true => exact absurd h5 ((hold j b h2 hl h1 _ hk).2 i c h3 h4)
 ·intro k hk hn
  refine T_same k hk fun i b hib hl he => ?_
  obtain ⟨j,c,_,h2,h3,h4⟩:=hlent i b hib hl k he
  exact hn j c h2 h3 h4
 ·intro x hx
  rcases T1.newS x hx with h3 | h3 | h3
  ·exact .inl h3
  ·exact .inr (.inl h3)
  ·exact .inr (.inr (hlive_old _ h3))
 ·intro j b hj hl k hk
  rcases hside j b hj with ⟨i,b0,h1,h2,h3,rfl⟩ | ⟨h1,h2⟩
  ·rw [b_in j i h1] at hk
   rw [live_back] at hl
   rcases T1.ids i b0 h2 hl k hk with h4 | h4
   ·exact .inl h4
   ·exact .inr (hlive_old k h4)
  ·rw [b_out j h1] at hk
   exact .inr ⟨j,b,h2,hl,hk⟩
 ·intro j hp hj
  cases hb:lookM j ((ml.map fun b => (g b.1,backBlk g b.2)) ++ mc) with
  | none => exact absurd hb hj
  | some b =>
   rcases hside j b hb with ⟨i,b0,h1,h2,h3,_⟩ | ⟨h1,h2⟩
   ·rcases hg i (by rw [h2]; simp) with ⟨j',c,a1,a2,a3,a4⟩ | ⟨_,a2⟩
    ·have:j' = j:=by rw [← a3,h3]
     subst this
     exact ⟨by rw [a2]; simp,by rw [v_in _ i h1,a4]⟩
    ·rw [h3,hp] at a2; cases a2
   ·exact ⟨by rw [h2]; simp,v_out j h1⟩
theorem heap_call {gh gh1:Gh} {mc:List (Nat × Blk)} {w w':World} {ρ:Ren} {ms:Mem} {ml:List (Nat × Blk)} {g:Nat → Nat} (H:HeapOK gh (fun i => lookM i mc) w)
  (hinj:Inj ρ) (hfit:∀ i b,ms i = some b → BRel ρ mc i b) (hall:∀ i b,ms i = some b → b.live = true → lookM i ml ≠ none)
  (H1:HeapOK gh1 (fun i => lookM i ml) w') (T1:Tr (renGh gh ρ) ms w gh1 (fun i => lookM i ml) w')
  (hg:∀ i,lookM i ml ≠ none → (∃ j c,lookR i ρ = some (some j) ∧ lookM j mc = some c ∧ g i = j ∧ gh1.val i = gh.val j) ∨ (lookM (g i) mc = none ∧ pin (g i) = false))
  (hgl:∀ i,ms i ≠ none → ∀ j,lookR i ρ = some (some j) → g i = j)
  (hnew:∀ i i',lookM i ml ≠ none → lookM i' ml ≠ none → lookM (g i) mc = none → g i = g i' → i = i') :
  ∃ gh2:Gh,HeapOK gh2 (fun j => lookM j ((ml.map fun b => (g b.1,backBlk g b.2)) ++ mc)) w' ∧ Tr gh (fun i => lookM i mc) w gh2 (fun j => lookM j ((ml.map fun b => (g b.1,backBlk g b.2)) ++ mc)) w' ∧
   (∀ id,lookM id mc ≠ none → lookM id ((ml.map fun b => (g b.1,backBlk g b.2)) ++ mc) ≠ none ∧ gh2.val id = gh.val id) ∧ gh2.S = gh1.S ∧
   (∀ i,lookM i ml ≠ none → lookM (g i) ((ml.map fun b => (g b.1,backBlk g b.2)) ++ mc) ≠ none ∧ gh2.val (g i) = gh1.val i):=by
 obtain ⟨gh2,h,T,e1,e2,e3⟩:=heap_call4 (g:=g) H hinj hfit hall H1 T1 hg hgl hnew
 exact ⟨gh2,⟨h,gr_tr H T⟩,T,e1,e2,e3⟩
end Go.Vx
namespace Go.Vx
open Go Go.RowKit
set_option linter.unusedVariables false
set_option linter.unusedSimpArgs false
variable {R:Type}
/-! ### 20. Calls -/
theorem findFE_ok {f:FuncId} {σ:St}:∀ {l:List FE} {e:FE},findFE f σ l = some e → e ∈ l ∧ e.f = f
 | [],e,h => by cases h
 | e' :: l,e,h => by
  simp only [findFE] at h
  cases hb:(Nat.beq e'.f f && (matchShape [] e'.sh σ).isSome) with
  | true =>
   rw [hb] at h
   simp at h
   subst h
   simp only [Bool.and_eq_true] at hb
   exact ⟨by simp,beq_true.1 hb.1⟩
  | false =>
   rw [hb] at h
   obtain ⟨h1,h2⟩:=findFE_ok (l:=l) h
   exact ⟨by simp [h1],h2⟩
theorem restrict_look {m:List (Nat × Blk)} {i:Nat} {b:Blk}:∀ {l:List Nat},lookM i (restrict m l) = some b → lookM i m = some b ∧ i ∈ l
 | [],h => by cases h
 | j :: l,h => by
  simp only [restrict] at h
  split at h
  ·rename_i c hc
   simp only [lookM] at h
   cases hk:Nat.beq j i with
   | true =>
    rw [hk] at h
    simp at h
    subst h
    have:=beq_true.1 hk
    subst this
    exact ⟨hc,by simp⟩
   | false =>
    rw [hk] at h
    obtain ⟨h1,h2⟩:=restrict_look (l:=l) h
    exact ⟨h1,by simp [h2]⟩
  ·obtain ⟨h1,h2⟩:=restrict_look (l:=l) h
   exact ⟨h1,by simp [h2]⟩
theorem asD_mono {m m':List (Nat × Blk)} (hm:∀ i b,lookM i m = some b → lookM i m' = some b) {t:Ty} {a:AC} {y:t.D} (h:asD m t a = some y):asD m' t a = some y:=by
 cases a with
 | own id =>
  simp only [asD] at h ⊢
  cases hl:lookM id m with
  | none => rw [hl] at h; cases h
  | some b => rw [hl] at h; rw [hm id b hl]; exact h
 | os id lo hi wd =>
  simp only [asD] at h ⊢
  cases hl:lookM id m with
  | none => rw [hl] at h; cases h
  | some b => rw [hl] at h; rw [hm id b hl]; exact h
 | _ => exact h
theorem ARel.mono {ρ:Ren} {m m':List (Nat × Blk)} (hm:∀ i b,lookM i m = some b → lookM i m' = some b) {a b:AC} (h:ARel ρ m a b):ARel ρ m' a b:=by
 cases h with
 | junk => exact .junk _
 | d t a y hy => exact .d _ _ _ (asD_mono hm hy)
 | nilS => exact .nilS
 | nilP => exact .nilP
 | own i j hj => exact .own _ _ hj
 | mint i hi => exact .mint _ hi
 | ptr i j o hj => exact .ptr _ _ _ hj
 | fn f => exact .fn _
 | clo f h => exact .clo _ h
 | mp i j hj => exact .mp _ _ hj
 | os i j lo hi wd hj => exact .os _ _ _ _ _ hj
 | eo i j k wd o hj => exact .eo _ _ _ _ _ hj
 | bs i j n hj => exact .bs _ _ _ hj
 | pnp i j o hj => exact .pnp _ _ _ hj
 | pnn i o => exact .pnn _ _
 | pnb i j o b hj => exact .pnb _ _ _ _ hj
 | osm i wd hi => exact .osm _ _ hi
 | osw i j hj hb => exact .osw _ _ hj (hm _ _ hb)
theorem A1Rel.mono {ρ:Ren} {m m':List (Nat × Blk)} (hm:∀ i b,lookM i m = some b → lookM i m' = some b) {a b:AV} (h:A1Rel ρ m a b):A1Rel ρ m' a b:=by
 cases h with
 | junk => exact .junk _
 | one h => exact .one (h.mono hm)
 | row h => exact .row (All2.mono (fun _ _ h => h.mono hm) h)
theorem BRel.mono {ρ:Ren} {m m':List (Nat × Blk)} (hm:∀ i b,lookM i m = some b → lookM i m' = some b) {i:Nat} {b:Blk} (h:BRel ρ m i b):BRel ρ m' i b:=by
 cases h with
 | box h1 h2 h3 => exact .box h1 (hm _ _ h2) (All2.mono (fun _ _ h => h.mono hm) h3)
 | lst h1 h2 => exact .lst h1 (hm _ _ h2)
 | mint h1 h2 => exact .mint h1 h2
 | mp h1 h2 => exact .mp h1 (hm _ _ h2)
 | dead h1 h2 => exact .dead h1 (hm _ _ h2)
 | it h1 h2 => exact .it h1 (hm _ _ h2)
theorem argEnv_get:∀ (args:List AV) (k t:Nat),lookE t (argEnv k args) = if k ≤ t then (args[t - k]?).getD (.v (.one .junk)) else .v (.one .junk)
 | [],k,t => by simp [argEnv,lookE]
 | a :: l,k,t => by
  simp only [argEnv,lookE]
  cases hb:Nat.beq k t with
  | true =>
   have:=beq_true.1 hb
   subst this
   simp
  | false =>
   have hne:k ≠ t:=fun e => by rw [e] at hb; simp at hb
   simp only [cond_false]
   rw [argEnv_get l (k + 1) t]
   by_cases h:k + 1 ≤ t
   ·rw [if_pos h,if_pos (by omega)]
    have:t - k = (t - (k + 1)) + 1:=by omega
    rw [this]
    simp
   ·rw [if_neg h,if_neg (by omega)]
theorem look_hasId:∀ {l:List (Nat × SBlk)} {p:memP l} {i:Nat},lookM i (emMem l p) ≠ none → hasId i l = true
 | [],p,i,h => absurd rfl h
 | e :: l,p,i,h => by
  simp only [emMem,lookM] at h
  simp only [hasId,Bool.or_eq_true]
  cases hk:Nat.beq e.1 i with
  | true => exact .inl rfl
  | false => rw [hk] at h; exact .inr (look_hasId (l:=l) h)
theorem allBack_ok {out:List (Nat × SBlk)}:∀ {l:List (Nat × SBlk)} {i:Nat},allBack out l = true → hasId i l = true → hasId i out = true
 | [],i,h,hi => by cases hi
 | e :: l,i,h,hi => by
  simp only [allBack,Bool.and_eq_true] at h
  simp only [hasId,Bool.or_eq_true] at hi
  rcases hi with hi | hi
  ·rw [← beq_true.1 hi]; exact h.1
  ·exact allBack_ok h.2 hi
theorem allPin_ok:∀ {l:List (Nat × SBlk)} {i:Nat},allPin l = true → hasId i l = true → pin i = true
 | [],i,h,hi => by cases hi
 | e :: l,i,h,hi => by
  simp only [allPin,Bool.and_eq_true] at h
  simp only [hasId,Bool.or_eq_true] at hi
  rcases hi with hi | hi
  ·rw [← beq_true.1 hi]; exact h.1
  ·exact allPin_ok h.2 hi
theorem newIds_mem {d:Nat}:∀ {l:List (Nat × SBlk)} {i:Nat},hasId i l = true → pin i = false → 64 * d + 1000000 + i ∈ newIds d l
 | [],i,h,hp => by cases h
 | e :: l,i,h,hp => by
  simp only [hasId,Bool.or_eq_true] at h
  simp only [newIds]
  rcases h with h | h
  ·have:=beq_true.1 h
   rw [this,hp]
   simp
  ·have:=newIds_mem (d:=d) h hp
   cases pin e.1 <;> simp [this]
theorem noneNil_ok:∀ {ρ:Ren} {i:Nat} {x:Option Nat},noneNil ρ = true → lookR i ρ = some x → ∃ j,x = some j
 | [],i,x,h,hl => by cases hl
 | q :: ρ,i,x,h,hl => by
  simp only [noneNil,List.all_cons,Bool.and_eq_true] at h
  simp only [lookR] at hl
  cases hk:Nat.beq q.1 i with
  | true =>
   rw [hk] at hl
   simp at hl
   rw [hl] at h
   exact Option.isSome_iff_exists.1 h.1
  | false => rw [hk] at hl; exact noneNil_ok (ρ:=ρ) h.2 hl
theorem pin_big {i:Nat} (h:1000000 ≤ i):pin i = false:=by
 simp only [pin,Bool.and_eq_false_iff]
 refine .inr ?_
 rw [← Bool.not_eq_true]
 intro hb
 have:i < 200000:=Nat.le_of_ble_eq_true hb
 omega
theorem backId_pin {ρ:Ren} {d i j:Nat} (hp:pin i = true) (hj:lookR i ρ = some (some j)):backId ρ d i = j:=by simp [backId,hp,hj]
theorem backId_new {ρ:Ren} {d i:Nat} (hp:pin i = false):backId ρ d i = 64 * d + 1000000 + i:=by simp [backId,hp]
theorem run_callf {P:Program} {o:Oper} {c:Call} {f:FuncId} {x:Operand} (ho:o.op = .call c) (hc:c.callee = .value x) (a:Act) {cv:Array Value} (he:a.eval x = .func (.func f) #[] cv) (w:World) :
  (execOp a.eval o).run P w = (callFunc f (c.args.map a.eval ++ cv)).run P w:=by
 simp only [execOp,ho,Sem.run_bind,resolve,hc,he,Deferred.ofValue,Sem.run_pure,Result.andThen_ok,invoke]
 simp
theorem does_wp {P:Program} {o:Oper} {c:Call} {f:FuncId} {x:Operand} (ho:o.op = .call c) (hc:c.callee = .value x) {a:Act} {cv:Array Value} (he:a.eval x = .func (.func f) #[] cv) {w:World} {next:Act → World → Prop} {Q:Exit → Act → World → Prop} {Rt:Value → World → Prop}
  (h:Does P f (c.args.map a.eval ++ cv) w Rt) (hk:∀ v w',Rt v w' → next (a.put o.dst v) w'):o.wp P a w next Q:=by
 unfold Oper.wp
 rw [run_callf ho hc a he]
 rcases h with ⟨v,w',h1,h2⟩ | ⟨h1,h2⟩
 ·rw [h1]
  exact hk v w' h2
 ·rw [h1]
  exact Calls.mono h2 fun e w' ⟨v,he,hr⟩ => by subst he; exact hk v w' hr
section
variable {cx:Cx} {σ:St} {o:Oper} {k:Eff → Option R} {r:R}
theorem caps_rep {gh:Gh} {m:Mem} {w:World}:∀ {cs:List (Option (Nat × Nat))} {vs:List Value},All2 (RepCap gh m) cs vs → All2 (RepV gh m w) (capAVs cs) vs
 | _,_,.nil => .nil
 | c :: cs,v :: vs,.cons h1 h2 => by
  refine .cons ?_ (caps_rep h2)
  cases c with
  | none => exact h1
  | some p => exact h1
theorem op_callFE {c:Call} {x:Operand} {f:FuncId} {cs:List (Option (Nat × Nat))} (hG:∀ e ∈ cx.G,FEOK cx.T e) (hdo:dstOk cx.n o.dst = true) (ho:o.op = .call c) (hc:c.callee = .value x)
  (hfx:∀ (C:Ctx) gh σ' (a:Act) (w:World),agree (opKeys x) σ σ' → Sim C gh σ' a w → ∃ cv,a.eval x = .func (.func f) #[] cv ∧ All2 (RepCap gh σ'.blk) cs cv.toList)
  (h:callFE cx (o.dst.getD 0) σ f (c.args.toList.map (ev σ) ++ capAVs cs) (opKeys x ++ c.args.toList.flatMap opKeys) k = some r):∃ e,k e = some r ∧ OpOK cx.T cx.n σ o e:=by
 unfold callFE at h
 generalize hids:reach σ.mem 3 ((c.args.toList.map (ev σ) ++ capAVs cs).flatMap avIds) = ids at h
 simp only at h
 split at h
 ·cases h
 ·rename_i e hfe
  obtain ⟨heG,hef⟩:=findFE_ok hfe
  split at h
  ·cases h
  ·rename_i ρ hma
   cases hcond:(allBack e.out.mem e.sh.mem && (allPin e.sh.mem && (noneNil ρ && ((newIds (o.dst.getD 0) e.out.mem).all fun i => (lookM i σ.mem).isNone) && (inOrder 0 e.sh.env && Nat.beq e.sh.env.length (c.args.toList.map (ev σ) ++ capAVs cs).length)))) with
   | false => rw [hcond] at h; cases h
   | true =>
    rw [hcond] at h
    simp only [cond_true] at h
    simp only [Bool.and_eq_true] at hcond
    obtain ⟨c1,c2,⟨c3,c4⟩,c5,c6⟩:=hcond
    have c6:=beq_true.1 c6
    cases hex:extractC e.sh ⟨argEnv 0 (c.args.toList.map (ev σ) ++ capAVs cs),restrict σ.mem ids⟩ with
    | none => rw [hex] at h; cases h
    | some p =>
     rw [hex] at h
     simp only [Option.bind_some] at h
     cases hq:e.F p with
     | none => rw [hq] at h; cases h
     | some q =>
      rw [hq] at h
      simp only [Option.bind_some] at h
      refine ⟨_,h,?_⟩
      intro C gh σ' a w next Q hn hag hs hk
      have hfits:=fits nil_inj hma hex
      have hsub:∀ i b,lookM i (restrict σ.mem ids) = some b → lookM i σ'.mem = some b:=by
       intro i b hb
       obtain ⟨h1,h2⟩:=restrict_look hb
       have:σ'.blk i = σ.blk i:=agree_m hag (by simp [h2])
       rw [← h1]
       exact this
      have hnone:∀ i,i ∈ newIds (o.dst.getD 0) e.out.mem → lookM i σ'.mem = none:=by
       intro i hi
       have h1:=List.all_eq_true.1 c4 i hi
       have:σ'.blk i = σ.blk i:=agree_m hag (by simp [hi])
       have h2:lookM i σ.mem = none:=by simpa using h1
       rw [← h2]
       exact this
      have hfitm:∀ i b,(embed e.sh p).blk i = some b → BRel ρ σ'.mem i b:=fun i b hb => (hfits.mem i b hb).mono hsub
      have hH0:=heap_ren hs.heap hfits.inj hfits.has hfitm
      have hagx:agree (opKeys x) σ σ':=fun q hq => hag q (by simp [hq])
      obtain ⟨cv,hfv,hcv⟩:=hfx C gh σ' a w hagx hs
      have hall:All2 (RepV gh σ'.blk w) (c.args.toList.map (ev σ) ++ capAVs cs) (c.args.map a.eval ++ cv).toList:=by
       rw [Array.toList_append,Array.toList_map]
       refine All2.append ?_ (caps_rep hcv)
       have hsub':∀ y ∈ c.args.toList,∀ z ∈ opKeys y,z ∈ opKeys x ++ c.args.toList.flatMap opKeys:=fun y hy z hz => by
        simp only [List.mem_append,List.mem_flatMap]
        exact .inr ⟨y,hy,hz⟩
       have hrd:∀ z ∈ opKeys x ++ c.args.toList.flatMap opKeys,z ∈ opKeys x ++ c.args.toList.flatMap opKeys ++ (ids ++ newIds (o.dst.getD 0) e.out.mem).map Key.m:=fun z hz => by
        rw [List.mem_append]; exact .inl hz
       generalize c.args.toList = L at hsub' hag
       have:∀ (M:List Operand),(∀ y ∈ M,y ∈ L) → All2 (RepV gh σ'.blk w) (M.map (ev σ)) (M.map a.eval):=by
        intro M
        induction M with
        | nil => intro _; exact .nil
        | cons y M ih =>
         intro hM
         exact .cons (ev_at hag hs (fun z hz => by
          have:=hsub' y (hM y (by simp)) z hz
          simp only [List.mem_append] at this ⊢
          exact .inl this) rfl) (ih fun z hz => hM z (by simp [hz]))
       exact this L fun _ h => h
      have hargs:∀ t,RepV (renGh gh ρ) (embed e.sh p).blk w ((embed e.sh p).get t) ((c.args.map a.eval ++ cv).getD t undef):=by
       intro t
       refine a1rel_rep hs.heap hfits.has ((hfits.env t).mono hsub) ?_
       show RepV gh σ'.blk w (lookE t (argEnv 0 (c.args.toList.map (ev σ) ++ capAVs cs))) _
       rw [argEnv_get]
       simp only [Nat.zero_le,if_true,Nat.sub_zero]
       cases hx:(c.args.toList.map (ev σ) ++ capAVs cs)[t]? with
       | none => exact trivial
       | some b =>
        obtain ⟨v,hv,hr⟩:=hall.get hx
        have hv':(c.args.map a.eval ++ cv).getD t undef = v:=by
         rw [Array.getD_eq_getD_getElem?,← Array.getElem?_toList,hv]; rfl
        rw [hv']
        exact hr
      have hdoes:=hG e heG p q hq (renGh gh ρ) w (c.args.map a.eval ++ cv) (by rw [c6]; have:=hall.length; simpa using this.symm) hH0 hargs
      rw [hef] at hdoes
      refine does_wp ho hc hfv (hdoes (by show Ground cx.T gh.K; rw [hs.tr.K]; exact hn.2)) fun v w' hret => ?_
      obtain ⟨gh1,H1,T1,hres⟩:=hret
      -- the names
      have hpinned:∀ i,lookM i (embed e.out q).mem ≠ none → pin i = true → ∃ j c,lookR i ρ = some (some j) ∧ lookM j σ'.mem = some c ∧ backId ρ (o.dst.getD 0) i = j ∧ gh1.val i = gh.val j:=by
       intro i hi hp
       obtain ⟨h1,h2⟩:=T1.pin i hp hi
       cases hb:(embed e.sh p).blk i with
       | none => exact absurd hb h1
       | some b =>
        have hbr:=hfitm i b hb
        cases hbr with
        | box g1 g2 _ => exact ⟨_,_,g1,g2,backId_pin hp g1,by rw [h2,ren_some g1]⟩
        | lst g1 g2 => exact ⟨_,_,g1,g2,backId_pin hp g1,by rw [h2,ren_some g1]⟩
        | mint g1 _ => obtain ⟨j,hj⟩:=noneNil_ok c3 g1; cases hj
        | mp g1 g2 => exact ⟨_,_,g1,g2,backId_pin hp g1,by rw [h2,ren_some g1]⟩
        | dead g1 g2 => exact ⟨_,_,g1,g2,backId_pin hp g1,by rw [h2,ren_some g1]⟩
        | it g1 g2 => exact ⟨_,_,g1,g2,backId_pin hp g1,by rw [h2,ren_some g1]⟩
      have hfresh:∀ i,lookM i (embed e.out q).mem ≠ none → pin i = false → lookM (backId ρ (o.dst.getD 0) i) σ'.mem = none ∧ pin (backId ρ (o.dst.getD 0) i) = false:=by
       intro i hi hp
       rw [backId_new hp]
       exact ⟨hnone _ (newIds_mem (look_hasId hi) hp),pin_big (by omega)⟩
      obtain ⟨gh2,hH,hT,hext,hS2,hnames⟩:=heap_call (g:=backId ρ (o.dst.getD 0)) (ml:=(embed e.out q).mem) hs.heap hfits.inj hfitm
       (fun i b hib _ => hasId_look (allBack_ok c1 (look_hasId (p:=(emEnv e.sh.env p).2) (by show (embed e.sh p).blk i ≠ none; rw [hib]; simp))))
       H1 T1
       (fun i hi => by
        cases hp:pin i with
        | true => exact .inl (hpinned i hi hp)
        | false => exact .inr (hfresh i hi hp))
       (fun i hi j hj => backId_pin (allPin_ok c2 (look_hasId (p:=(emEnv e.sh.env p).2) hi)) hj)
       (fun i i' hi hi' hno he => by
        cases hp:pin i with
        | true =>
         obtain ⟨j,cc,_,g2,g3,_⟩:=hpinned i hi hp
         rw [g3,g2] at hno
         cases hno
        | false =>
         cases hp':pin i' with
         | true =>
          obtain ⟨j,cc,_,g2,g3,_⟩:=hpinned i' hi' hp'
          rw [he,g3,g2] at hno
          cases hno
         | false =>
          rw [backId_new hp,backId_new hp'] at he
          omega)
      refine hk gh2 _ _ (sim_step hs (hn.1 ▸ hdo) hT hH hext fun _ => ?_)
      have hone:∀ x v,Rep1 gh1 (embed e.out q).blk w' x v → Rep1 gh2 (fun j => lookM j (((embed e.out q).mem.map fun b => (backId ρ (o.dst.getD 0) b.1,backBlk (backId ρ (o.dst.getD 0)) b.2)) ++ σ'.mem)) w' (backA1 (backId ρ (o.dst.getD 0)) x) v:=
       fun x v hx => back_rep1 hS2 hnames hx
      show RepV gh2 (fun j => lookM j (((embed e.out q).mem.map fun b => (backId ρ (o.dst.getD 0) b.1,backBlk (backId ρ (o.dst.getD 0)) b.2)) ++ σ'.mem)) w' _ v
      simp only
      match hl:outA1s (embed e.out q).env,hres with
      | [x],hres => exact hone x v hres
      | [],hres =>
       obtain ⟨vs,h1,h2⟩:=hres
       exact ⟨vs,h1,all2_map (f:=backA1 (backId ρ (o.dst.getD 0))) (fun a b h => hone a b h) h2⟩
      | x :: y :: l,hres =>
       obtain ⟨vs,h1,h2⟩:=hres
       exact ⟨vs,h1,all2_map (f:=backA1 (backId ρ (o.dst.getD 0))) (fun a b h => hone a b h) h2⟩
theorem op_call {c:Call} {x:Operand} (hG:∀ e ∈ cx.G,FEOK cx.T e) (hdo:dstOk cx.n o.dst = true) (ho:o.op = .call c) (hc:c.callee = .value x) (h:step0 cx σ o k = some r):∃ e,k e = some r ∧ OpOK cx.T cx.n σ o e:=by
 simp only [step0,ho,hc] at h
 split at h
 ·rename_i f hfx
  refine op_callFE (cs:=[]) hG hdo ho hc (fun C gh σ' a w hag hs => ⟨#[],(ev_at hag hs (fun _ h => h) hfx:RepC gh σ'.blk w (.fn f) _),.nil⟩) ?_
  simpa [capAVs] using h
 ·rename_i f cs hfx
  exact op_callFE hG hdo ho hc (fun C gh σ' a w hag hs => (ev_at hag hs (fun _ h => h) hfx:RepC gh σ'.blk w (.clo f cs) _)) h
 ·cases h
end
end Go.Vx
